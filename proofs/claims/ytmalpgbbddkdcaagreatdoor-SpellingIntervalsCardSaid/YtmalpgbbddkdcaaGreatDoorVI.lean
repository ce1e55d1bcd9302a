/- Contracts and laws: VI. -/
import Derived.Test.YtmalpgbbddkdcaaGreatDoorVFT
import Derived.Test.YtmalpgbbddkdcaaGreatDoorVB
import Derived.Test.YtmalpgbbddkdcaaGreatDoorVC

set_option maxRecDepth 100000
set_option maxHeartbeats 8000000
namespace Go.Proofs.YtmalpgbbddkdcaaGreatDoor
open Go.RowKit Go.Lib
attribute [local go_sem ↓] Go.wp_at_zero Go.wp_at_succ
theorem IndexFunc_long (xs:List Int) (a:Option Addr) (cap:Nat) (g:Nat) (lb:Array Value) (p:Int→Bool) (w:World)
 (eg:∀ args w,(callFunc g args).run Tryz.prog w=.ok (.enter g args) w) (hx:El w sv a xs) (hl:xs.length≤1000000000) (hp:Pred w g lb sv p xs) :
 Calls Tryz.prog 117 #[.slice a xs.length cap,.func (.func g) #[] lb] w fun e w'=>e=.returned (.int .i64 (idx p xs))∧Fr w w':=by
 go_enter Tryz.func117,Tryz.ntmps117
 go_wp2
 go_loopw [5,8] (fun _ s8 wr=>∃ k:Nat,s8=.int .i64 k∧k≤xs.length∧Fr w wr∧Hid (∀ j x,j < k→xs[j]?=some x→p x=false)) (fun _ s8 _=>xs.length - (RowKit.intOf s8).toNat)
 case atStart=>exact ⟨0,rfl,Nat.zero_le _,Fr.refl _,fun j x h=>absurd h (Nat.not_lt_zero _)⟩
 case round=>
  obtain ⟨k,rfl,hk,hf,hb⟩:=hrel
  by_cases hlt:k < xs.length
  ·obtain ⟨b,o,x,rfl,hbl,hxk,hcell⟩:=(hx.fr hf).at hlt
   have hpx:=hp x wr (List.mem_of_getElem? hxk) hf
   have hxk:=hZ hxk
   go_wp2_with fail
   refine hpx.mono ?_
   rintro e w1 ⟨rfl,hf1⟩
   go_wp2_with fail
   ·have hpt:p x=true:=by assumption
    go_ret
    exact ⟨ret_int (idx_found hb.out hxk.out hpt).symm,hf.trans hf1⟩
   ·have hpf:p x=false:=by assumption
    go_roundw
    case rel=>exact ⟨k+1,by go_num,by omega,hf.trans hf1,idx_step hb.out hxk.out hpf⟩
    case measure=>simp [RowKit.intOf]; omega
  ·go_wp2_with fail
   go_ret
   exact ⟨ret_int (idx_none (by rw [show xs.length=k by omega]; exact hb.out)).symm,hf⟩
theorem leadL1_pred (w:World) (xs:List Int):Pred w 118 #[] sv (fun x=>x != 0) xs:=fun x W _ _=>by
 show Calls Tryz.prog 118 #[.string (tx x)] W fun e W'=>e=.returned (.bool (x != 0))∧Fr W W'
 have hb:=tx_beq0 x
 have e:(x != 0)=!(decide (x=0)):=by by_cases h:x=0 <;> simp [h]
 rw [e,← hb]
 clear e hb
 go_enter Tryz.func118,Tryz.ntmps118
 go_wp2_with fail
 go_ret
 exact ⟨rfl,Fr.refl _⟩
def leadI (xs:List Int):Int:=idx (fun x=>x != 0) xs
theorem leadL_any (xs:List Int) (a:Option Addr) (cap:Nat) (w:World) (hx:El w sv a xs) (hl:xs.length≤1000000000) :
 Calls Tryz.prog 61 #[.slice a xs.length cap] w fun e w'=>e=.returned (.int .i64 (leadI xs))∧Fr w w':=by
 have eg:∀ args w,(callFunc 118 args).run Tryz.prog w=.ok (.enter 118 args) w:=enters_of Tryz.func118 (by kernel_rfl) rfl
 have hc:=IndexFunc_long xs a cap 118 #[] (fun x=>x != 0) w eg hx hl (leadL1_pred w xs)
 replace eg:=hZ eg
 go_enter Tryz.func61,Tryz.ntmps61
 go_wp2_with fail
 refine hc.mono ?_
 rintro e w' ⟨rfl,hf⟩
 go_wp2_with fail
 go_ret
 exact ⟨rfl,hf⟩
def kerL (n:Nat) (g:List (List Int)):List (List Int):=(g.filter (fun l=>decide ((n:Int)≤leadI l))).map (·.drop n)
theorem kerL_snoc (n:Nat) (g:List (List Int)) (l:List Int):kerL n (g ++ [l])=kerL n g ++ if (n:Int)≤leadI l then [l.drop n] else []:=by
 unfold kerL
 rw [List.filter_append,List.map_append]
 by_cases h:(n:Int)≤leadI l <;> simp [h]
theorem kerL_rect {n n1:Nat} {g:List (List Int)} (h:Rect n1 g) (t:Nat):Rect (n1 - n) (kerL n (g.take t)):=fun r hr=>by
 unfold kerL at hr
 obtain ⟨l,hl,rfl⟩:=List.mem_map.1 hr
 rw [List.length_drop,h l (List.mem_of_mem_take (List.mem_filter.1 hl).1)]
theorem kerL_le (n t:Nat) (g:List (List Int)):(kerL n (g.take t)).length≤t:=by
 unfold kerL; rw [List.length_map]; exact Nat.le_trans (List.length_filter_le _ _) (by rw [List.length_take]; omega)
def LG (w:World) (B:Nat) (v:Value) (g:List (List Int)):Prop :=
 (v=.slice none 0 0∧g=[])∨∃ ob oc hs gF tF,v=.slice (some ⟨ob,0,none⟩) tF oc∧GridIs w ob 0 hs gF∧tF≤gF.length∧tF≤oc∧g=gF.take tF∧∀ k,gb ob hs k→B≤k
def MatS (w:World) (a:Option Addr) (m:List (List Int)):Prop :=
 m=[]∨∃ b o,a=some ⟨b,o,none⟩∧b < w.heap.size∧∀ (i:Nat) (xs:List Int),m[i]?=some xs→∃ a' c',w.cell? ⟨b,o+i,none⟩=some (.slice a' xs.length c')∧El w sv a' xs
theorem MatS.fr {w w':World} {a:Option Addr} {m:List (List Int)} (h:MatS w a m) (k:Fr w w'):MatS w' a m:=by
 rcases h with h | ⟨b,o,ha,hb,hc⟩
 ·exact .inl h
 ·refine .inr ⟨b,o,ha,Nat.lt_of_lt_of_le hb k.size,fun i xs hx=>?_⟩
  obtain ⟨a',c',h1,h2⟩:=hc i xs hx
  exact ⟨a',c',k.keep h1,h2.fr k⟩
theorem MatS.at {w:World} {a:Option Addr} {m:List (List Int)} (h:MatS w a m) {i:Nat} (hi:i < m.length) :
 ∃ b o a' c',a=some ⟨b,o,none⟩∧w.cell? ⟨b,o+i,none⟩=some (.slice a' (m[i]).length c')∧El w sv a' m[i]:=by
 rcases h with h | ⟨b,o,ha,hb,hc⟩
 ·subst h; simp at hi
 ·obtain ⟨a',c',h1,h2⟩:=hc i _ (List.getElem?_eq_getElem hi)
  exact ⟨b,o,a',c',ha,h1,h2⟩
theorem GridIs.mats {w:World} {ob oo:Nat} {hs:List (Nat×Nat×Nat)} {g:List (List Int)} (h:GridIs w ob oo hs g) (t:Nat):MatS w (some ⟨ob,oo,none⟩) (g.take t) :=
 .inr ⟨ob,oo,rfl,h.outer,fun i xs hx=>by
  rw [List.getElem?_take] at hx
  split at hx
  ·have hi:i < g.length:=(List.getElem?_eq_some_iff.1 hx).1
   obtain ⟨b,o,c,h1,h2,-,h3,-⟩:=h.at hi
   rw [List.getElem?_eq_getElem hi] at hx
   injection hx with hx
   rw [← hx]
   exact ⟨_,_,h2,h3.el⟩
  ·cases hx⟩
theorem LG.mats {w:World} {B:Nat} {v:Value} {g:List (List Int)} (h:LG w B v g):∃ a c,v=.slice a g.length c∧MatS w a g:=by
 rcases h with ⟨rfl,rfl⟩ | ⟨ob,oc,hs,gF,tF,rfl,hg,h2,-,rfl,-⟩
 ·exact ⟨none,0,rfl,.inl rfl⟩
 ·exact ⟨_,oc,by rw [List.length_take,Nat.min_eq_left h2],hg.mats tF⟩
def LGRet (w:World) (B:Nat) (g:List (List Int)) (e:Ending) (w':World):Prop:=∃ v,e=.returned v∧LG w' B v g∧Fx (fun k=>B≤k) w w'
theorem formS_nil {F c:Nat} {g:List (List Int)} {t:Nat}:∀ n,formS F n c [] 0=some (g,t)→g.take t=[]
 | 0,h=>by rw [formS] at h; injection h with h; injection h with h1 h2; subst h1; exact List.take_nil
 | n+1,h=>by rw [formS,if_neg (by simp)] at h; injection h with h; injection h with h1 h2; subst h1; exact List.take_nil
theorem behind_any (B ob oc tF n cols n1 F tK:Nat) (hs:List (Nat×Nat×Nat)) (g gK:List (List Int)) (w:World) (hG:G w) (hg:GridIs w ob 0 hs g) (hr:Rect n1 g) (hn:n+cols=n1) (hcs:1≤cols) (hn1:n1≤1000000) (hl:g.length≤1000000) (ht:tF≤g.length) (hcap:∀ h,h ∈ hs→n1≤h.2.2)
 (hf:formS F cols 0 (kerL n (g.take tF)) 0=some (gK,tK)) (hB:∀ k,gb ob hs k→B≤k) (hBw:B≤w.heap.size) :
 Calls Tryz.prog 145 #[.slice (some ⟨ob,0,none⟩) tF oc,.int .i64 n,.int .i64 cols] w (LGRet w B (gK.take tK)):=by
 have hgn:=gN_le hG
 obtain ⟨i1,ji,jz0,jz1,jz2⟩:=info_parts infoLong
 have hG1:=hZ hG
 replace hg:=hZ hg
 replace hr:=hZ hr
 replace hcap:=hZ hcap
 replace hf:=hZ hf
 replace hB:=hZ hB
 have hn2:n < n1:=by omega
 clear hG
 go_enter Tryz.func145,Tryz.ntmps145
 go_wp2_with fail
 go_loopg [7,12] tF (fun k s7 s12 wr=>∃ (j:Nat) (hO:List (Nat×Nat×Nat)),s12=.int .i64 j∧j+k=tF∧Fr w wr∧GG wr w.heap.size 117 s7 hO (kerL n (g.take j))∧Hid (∀ h,h ∈ hO→∃ (i:Nat) (h':Nat×Nat×Nat),i < j∧hs[i]?=some h'∧h'.1=h.1)∧Hid (kerL n (g.take j)=[]→s7=.slice none 0 0))
 case atStart=>exact ⟨0,[],rfl,by omega,Fr.refl _,GG.nil _ _ _ hgn,fun h hm=>by simp at hm,fun _=>rfl⟩
 case round=>
  obtain ⟨j,hO,rfl,hjk,hfr,hgg,hfrom,hemp⟩:=hrel
  by_cases hlt:j < tF
  ·have hjl:j < g.length:=by omega
   obtain ⟨b1,o1,k1,e1,ca1,cf1,ro1,bo1⟩:=(hg.out.fr hfr).at hjl
   have hrl:=hr.out.row hjl
   rw [Nat.zero_add] at ca1
   have hsn:=take_snoc (List.getElem?_eq_getElem hjl)
   have hk1:=hcap.out _ (List.mem_of_getElem? e1)
   have hlead:=leadL_any g[j] (some ⟨b1,o1,none⟩) k1
   generalize hgj:g[j]=row at *
   rw [hrl] at ca1 hlead
   have hks:=kerL_snoc n (g.take j) row
   rw [← hsn] at hks
   replace hgj:=hZ hgj
   replace hsn:=hZ hsn
   replace hfrom:=hZ hfrom
   replace hgg:=hZ hgg
   replace e1:=hZ e1
   replace ro1:=hZ ro1
   replace hrl:=hZ hrl
   have zt:(j:Int) < (tF:Int):=by omega
   by_cases hle:(n:Int)≤leadI row
   ·rw [if_pos hle] at hks
    have hdl:decide ((n:Int)≤leadI row)=true:=decide_eq_true hle
    replace hks:=hZ hks
    go_wp2_with fail
    refine (hlead _ ro1.out.el (by omega)).mono ?_
    clear hlead
    rintro e w2 ⟨rfl,hf2⟩
    have hln:(kerL n (g.take j)).length≤j:=kerL_le n j g
    have hgg2:=hgg.out.fr hf2
    have hne1:∀ h,h ∈ hO→h.1≠b1:=fun h hm e9=>by
     obtain ⟨i9,h9,hi9,q1,q2⟩:=hfrom.out h hm
     exact hg.out.apart i9 j _ _ q1 e1.out (by omega) (by rw [q2,e9])
    have hbl:b1 < w.heap.size:=(hg.out.row j _ _ e1.out (List.getElem?_eq_getElem hjl)).1.2.1
    have hne2:u7.ownBlock≠some b1:=fun e9=>by have:=(hgg2.own.lt b1 e9).1; omega
    obtain ⟨L,hL⟩:∃ L,L=(kerL n (g.take j)).length:=⟨_,rfl⟩
    have hown3:=hgg2.own
    rw [← hL] at hown3 hln
    replace hL:=hZ hL
    replace hgg2:=hZ hgg2
    have hnk:¬ k1=n:=by omega
    have hz9:=(hfr.trans hf2).size
    go_wp2_with (at_builtin; refine wpList_append_lies _ rfl _ _ 148 (by rfl) _ 117 _ _ 1 24 Tryz.underlying148 ji jz0 jz1 jz2 rfl (by decide) _ L _ (by rfl) (World.ownsRow.alloc hown3 _) ⟨w2.heap.size,0,none⟩ 1 1 [.slice (some ⟨b1,o1+n,none⟩) (n1 - n) (k1 - n)] (by rfl) rfl (cell_one_newN _ _ _ _ (by simp)) (by simp [Value.oneCell']) (by decide) (by unfold maxLen; omega) (by omega) (by skip; simp; omega) (w2.heap.size+1) (by simp) ?_; intro gA capA wA hownA hgrowA hatA hltA)
    have hpush:=(hgg2.out.fr ((Fr.refl w2).alloc _)).pushN (hd:=(b1,o1+n,k1 - n)) (xs:=row.drop n) (((ro1.out.drop n).fr hf2).fr ((Fr.refl w2).alloc _)) hne1 hne2 hL.out.symm (by unfold hdr; rw [List.length_drop,hrl.out]) hownA hgrowA (hatA.imp id (fun e=>by rw [e]; simp))
    rw [← hks.out] at hpush
    have hfrA:Fr w wA:=(((hfr.trans hf2).alloc _)).grown hgrowA (fun k e=>(hgg2.out.own.lt k e).1)
    go_roundg (gk - 1)
    case measure=>omega
    case rel=>
     refine ⟨j+1,_,by go_num,by omega,hfrA,hpush,fun h hm=>?_,fun h=>by rw [hks.out] at h; simp at h⟩
     rcases List.mem_append.1 hm with h1 | h1
     ·obtain ⟨i9,h9,hi9,q1,q2⟩:=hfrom.out h h1; exact ⟨i9,h9,by omega,q1,q2⟩
     ·simp at h1; subst h1; exact ⟨j,_,by omega,e1.out,rfl⟩
   ·rw [if_neg hle,List.append_nil] at hks
    replace hks:=hZ hks
    have hle2:leadI row < (n:Int):=by omega
    have hdl:decide ((n:Int)≤leadI row)=false:=decide_eq_false hle
    clear hle
    go_wp2_with fail
    refine (hlead _ ro1.out.el (by omega)).mono ?_
    clear hlead
    rintro e w2 ⟨rfl,hf2⟩
    go_wp2_with fail
    go_roundg (gk - 1)
    case measure=>omega
    case rel=>exact ⟨j+1,hO,by go_num,by omega,hfr.trans hf2,by rw [hks.out]; exact hgg.out.fr hf2,fun h hm=>by obtain ⟨i9,h9,hi9,q1,q2⟩:=hfrom.out h hm; exact ⟨i9,h9,by omega,q1,q2⟩,fun h=>hemp.out (by rw [hks.out] at h; exact h)⟩
  ·have hd:decide (j < tF)=false:=decide_eq_false hlt
   obtain rfl:j=tF:=by omega
   have hrK:=kerL_rect (n:=n) hr.out j
   rw [show n1 - n=cols by omega] at hrK
   have hln:(kerL n (g.take j)).length≤j:=kerL_le n j g
   have hGr:=hG1.out.fr hfr
   have hrows:∀ h,h ∈ hO→B≤h.1∧h.1 < w.heap.size:=fun h hm=>by
    obtain ⟨i9,h9,-,q1,q2⟩:=hfrom.out h hm
    have hi9:i9 < g.length:=by rw [← hg.out.len]; exact (List.getElem?_eq_some_iff.1 q1).1
    have h5:=(hg.out.row i9 h9 _ q1 (List.getElem?_eq_getElem hi9)).1.2.1
    exact ⟨hB.out _ (.inr ⟨h9,List.mem_of_getElem? q1,q2⟩),by omega⟩
   rcases Nat.eq_zero_or_pos (kerL n (g.take j)).length with h0 | h0
   ·have hnil:=List.eq_nil_of_length_eq_zero h0
    have hfin:=hf.out
    rw [hnil] at hfin
    have hgk:=hZ (formS_nil cols hfin)
    have hv:u7=.slice none 0 0:=hemp.out hnil
    subst hv
    have hfn:=form_nil cols wr hcs (by omega)
    replace hfr:=hZ hfr
    clear hgg hrK hnil hfin hrows
    replace h0:=hZ h0
    go_wp2_with fail
    refine hfn.mono ?_
    rintro e w2 ⟨rfl,hf2⟩
    go_wp2_with fail
    go_ret
    exact ⟨_,rfl,.inl ⟨rfl,hgk.out⟩,Fx.of_fr (hfr.out.trans hf2)⟩
   ·obtain ⟨gO,cO,rfl⟩:=ownsRow_pos hgg.own h0
    obtain ⟨hgO,-,hbO,hcO⟩:=hgg.grid
    have hfo:=form_any gO 0 cO hO (kerL n (g.take j)) gK F cols cols tK wr hGr hgO hrK (by omega) (by omega) (Nat.le_refl _) hcO hf.out
    have hgO':=hZ hgO
    replace hrows:=hZ hrows
    replace hbO:=hZ hbO
    replace hfr:=hZ hfr
    obtain ⟨L,hL⟩:∃ L,L=(kerL n (g.take j)).length:=⟨_,rfl⟩
    rw [← hL] at hfo h0 hcO ⊢
    replace hL:=hZ hL
    replace hfo:=hZ hfo
    clear hgg hrK hgO
    go_wp2_with fail
    refine hfo.out.mono ?_
    rintro e w2 ⟨rfl,ht5,hl5,hr5,hs5,hb5,hfx5,hg5⟩
    go_wp2_with fail
    go_ret
    have hge:∀ k,gb gO hO k→B≤k:=by
     rintro k (rfl | ⟨h,hm2,rfl⟩)
     ·have:=hbO.out; omega
     ·exact (hrows.out h hm2).1
    have hl5L:gK.length=L:=by first | (rw [hl5]; exact hL.out.symm) | (rw [hl5])
    exact ⟨_,rfl,.inr ⟨gO,cO,hs5,gK,tK,rfl,hg5,by omega,by omega,rfl,fun k hk=>hge k ((hb5.1 k).1 hk)⟩,(Fx.of_fr hfr.out).trans (hfx5.mono hge)⟩
theorem el_of_owns {w:World} {base g n c:Nat} {E:TypeId} {l:List Int} (h:w.ownsRow base E 1 (.slice (some ⟨g,0,none⟩) n c) n (l.map iv)):El w iv (some ⟨g,0,none⟩) l:=by
 obtain ⟨-,-,h2,-,h4⟩:=ownsRow_some h
 refine .inr ⟨g,0,rfl,h2,fun i x hx=>?_⟩
 rw [Nat.zero_add]
 exact (h4 i (iv x) (by rw [List.getElem?_map,hx]; rfl)).1
theorem made_iv (v:Value) (n:Nat):(madeCells #[v] n).toList=List.replicate n v:=by
 refine List.ext_getElem? (fun i=>?_)
 by_cases hi:i < n
 ·simp [madeCells,hi,Nat.mod_one]
 ·simp [madeCells,hi]
theorem made_zero {z:Value} (n:Nat) (hz:z.cells=#[iv 0]):(madeCells z.cells (n * 1)).toList=(List.replicate n (0:Int)).map iv:=by
 rw [hz,Nat.mul_one,made_iv,List.map_replicate]
theorem zeros_any (n:Nat) (w:World) (hG:G w) (hn1:1≤n) (hn2:n≤1000000) :
 Calls Tryz.prog 143 #[.int .i64 n] w fun e w'=>∃ g c,e=.returned (.slice (some ⟨g,0,none⟩) n c)∧Fr w w'∧w'.ownsRow w.heap.size 114 1 (.slice (some ⟨g,0,none⟩) n c) n ((List.replicate n (0:Int)).map sv):=by
 obtain ⟨i0,hi,hz0,hz1,hz2⟩:=info_parts infoInt
 have hlo:=fun (W:World) a c (hW:Fr w W) (hx:El W iv a (List.replicate n (0:Int)))=>longOf_any (List.replicate n 0) a c W (hG.fr hW) hx (by simpa using hn2) (fun x hx=>by rw [List.eq_of_mem_replicate hx]; unfold Sm; omega)
 simp only [List.length_replicate] at hlo
 replace hlo:=hZ hlo
 go_enter Tryz.func143,Tryz.ntmps143
 go_wp2_with (at_make; refine wpList_make_full _ rfl _ _ 24 rfl w.heap.size 3 i0 _ 1 Tryz.underlying24 hi hz0 hz1 _ _ _ _ n (by rfl) (by rfl) (by omega) (by omega) (by rw [hz2]; omega) (by unfold maxLen; omega) (Nat.le_refl _) ?_; intro w2 hown2 hgr2)
 rw [made_zero n rfl] at hown2
 have hf2:=(Fr.refl w).grown hgr2 (fun k e=>by cases e)
 refine (hlo.out w2 _ _ hf2 (el_of_owns hown2)).mono ?_
 rintro e w3 ⟨g,c,rfl,hf3,hown3⟩
 have hsz:=hf2.size
 rw [List.length_replicate] at hown3
 go_wp2_with fail
 go_ret
 exact ⟨g,c,rfl,hf2.trans hf3,ownsRow_mono hown3 hsz⟩
def colOf (m:List (List Int)) (c:Nat):List Int:=m.map (fun r=>(r[c]?).getD 0)
def wideL (n:Nat) (m:List (List Int)):List (List Int):=(List.range n).map fun c=>colOf m c ++ unitRow n c
theorem wideL_len (n:Nat) (m:List (List Int)):(wideL n m).length=n:=by simp [wideL]
theorem wideL_get {n c:Nat} (m:List (List Int)) (h:c < n):(wideL n m)[c]?=some (colOf m c ++ unitRow n c):=by simp [wideL,List.getElem?_range h]
theorem colOf_len (m:List (List Int)) (c:Nat):(colOf m c).length=m.length:=by simp [colOf]
theorem wideL_rect (n:Nat) (m:List (List Int)):Rect (m.length+n) (wideL n m):=fun r hr=>by
 unfold wideL at hr
 obtain ⟨c,-,rfl⟩:=List.mem_map.1 hr
 rw [List.length_append,colOf_len,unitRow_len]
theorem kernelL_any (m gW gK:List (List Int)) (a:Option Addr) (cap n F F2 tW tK:Nat) (w:World) (hG:G w) (hm:MatS w a m) (hr:Rect n m) (hn:1≤n) (hn2:n≤1000) (hl:m.length≤1000)
 (hw:formS F (m.length+n) 0 (wideL n m) 0=some (gW,tW)) (hb:formS F2 n 0 (kerL m.length (gW.take tW)) 0=some (gK,tK)) :
 Calls Tryz.prog 87 #[.slice a m.length cap,.int .i64 n] w fun e w'=>∃ v,e=.returned v∧LG w' w.heap.size v (gK.take tK)∧Fr w w':=by
 have hgn:=gN_le hG
 obtain ⟨i0,hi,hz0,hz1,hz2⟩:=info_parts info65
 obtain ⟨i1,ji,jz0,jz1,jz2⟩:=info_parts infoLong
 have hG1:=hZ hG
 have hm1:=hZ hm
 have hr1:=hZ hr
 obtain ⟨q,hq⟩:∃ q,q=m.length:=⟨_,rfl⟩
 have hwl:=hZ (wideL_len n m)
 have hrow:=fun c (h:c < n)=>wideL_get m h
 have hcl:=fun c=>colOf_len m c
 have hwr:=wideL_rect n m
 rw [← hq] at hl hw hb hcl hwr ⊢
 replace hq:=hZ hq
 replace hrow:=hZ hrow
 replace hcl:=hZ hcl
 replace hwr:=hZ hwr
 replace hw:=hZ hw
 replace hb:=hZ hb
 clear hG hm hr
 go_enter Tryz.func87,Tryz.ntmps87
 go_wp2_with fail
 go_loopg [5,12] n (fun k s5 s12 wr=>∃ (c:Nat) (hs:List (Nat×Nat×Nat)),s12=.int .i64 c∧c+k=n∧Fr w wr∧GG wr w.heap.size 117 s5 hs ((wideL n m).take c)∧Hid (∀ h,h ∈ hs→w.heap.size≤h.1∧q+n≤h.2.2))
 case atStart=>exact ⟨0,[],rfl,by omega,Fr.refl _,GG.nil _ _ _ hgn,fun h hm=>by simp at hm⟩
 case round=>
  obtain ⟨c,hs,rfl,hck,hf,hgg,hnew⟩:=hrel
  by_cases hlt:c < n
  ·have hsn:=hZ (take_snoc (hrow.out c hlt))
   have hgl:((wideL n m).take c).length=c:=by rw [List.length_take,hwl.out]; omega
   replace hgl:=hZ hgl
   obtain ⟨wo,rfl⟩:∃ wo:World,wo=wr:=⟨_,rfl⟩
   obtain ⟨ko,rfl⟩:∃ ko:Nat,ko=gk:=⟨_,rfl⟩
   replace hgg:=hZ hgg
   have zc0:(0:Int)≤(c:Int):=Int.natCast_nonneg _
   have zc1:(c:Int) < (n:Int):=by omega
   have zlt:decide (c < n)=true:=decide_eq_true hlt
   go_wp2_with fail
   go_loopg [7,17] q (fun k s7 s17 wr2=>∃ t:Nat,s17=.int .i64 t∧t+k=q∧Fr wo wr2∧Hid (wr2.ownsRow wo.heap.size 114 1 s7 t (((colOf m c).take t).map sv)))
   case atStart=>exact ⟨0,rfl,by omega,Fr.refl _,World.ownsRow_nil _ _ _ _⟩
   case round=>
    obtain ⟨t,rfl,htk,hf2,hown⟩:=hrel
    by_cases ht:t < q
    ·have htm:t < m.length:=by rw [← hq.out]; exact ht
     obtain ⟨b,o,a',c',rfl,hc1,hel⟩:=(hm1.out.fr (hf.trans hf2)).at htm
     have hlm:=hr1.out.row htm
     obtain ⟨b2,o2,x,rfl,hbl2,hxc,hc2⟩:=hel.at (i:=c) (by rw [hlm]; exact hlt)
     rw [hlm] at hc1
     have hct:(colOf m c)[t]?=some x:=by unfold colOf; rw [List.getElem?_map,List.getElem?_eq_getElem htm]; show some ((m[t][c]?).getD 0)=_; rw [hxc]; rfl
     have hsn2:=hZ (take_snoc hct)
     replace hlm:=hZ hlm
     replace hct:=hZ hct
     replace hxc:=hZ hxc
     have zt0:(0:Int)≤(t:Int):=Int.natCast_nonneg _
     have zt1:(t:Int) < (q:Int):=by omega
     have hz9:=(hf.trans hf2).size
     have hz8:=hf2.size
     clear hel
     go_wp2_with (at_builtin; refine wpList_append_lies _ rfl _ _ 117 (by rfl) _ 114 _ _ 1 16 Tryz.underlying117 hi hz0 hz1 hz2 rfl (by decide) _ t _ (by rfl) (World.ownsRow.alloc hown.out _) ⟨wr.heap.size,0,none⟩ 1 1 [sv x] (by rfl) rfl (cell_one_newN _ _ _ _ (by simp)) (by simp [Value.oneCell']) (by decide) (by unfold maxLen; omega) (by omega) (by skip; simp; omega) (wr.heap.size+1) (by simp) ?_; intro gA capA wA hownA hgrowA hatA hltA)
     go_wp2_with fail
     go_roundg (gk - 1)
     case measure=>omega
     case rel=>exact ⟨t+1,by go_num,by omega,((hf2.alloc _)).grown hgrowA (fun k e=>(hown.out.lt k e).1),by show _; rw [hsn2.out,List.map_append]; exact hownA⟩
    ·have hd:decide (t < q)=false:=decide_eq_false ht
     obtain rfl:t=q:=by omega
     have hown9:=hown.out
     rw [List.take_of_length_le (by rw [hcl.out]; exact Nat.le_refl _)] at hown9
     replace hown9:=hZ hown9
     have hze:=hZ (fun W (hW:Fr wr W)=>zeros_any n W (((hG1.out.fr hf).fr hf2).fr hW) hn (by omega))
     clear hown
     go_wp2_with fail
     refine (hze.out _ (Fr.refl _)).mono ?_
     clear hze
     rintro e w3 ⟨g,cz,rfl,hf3,hown3⟩
     have hgW:gN≤wr.heap.size:=by have:=(hf.trans hf2).size; omega
     obtain ⟨hO,-,-,hgb,hcp⟩:=ownsRow_own hgW hown3
     obtain ⟨hs1,hs2⟩:=hO.2.2 c 0 (by rw [List.getElem?_replicate,if_pos hlt])
     rw [Nat.zero_add] at hs1 hs2
     have hO2:=hO.set (k:=c) (by simpa using hlt) 1
     rw [Nat.zero_add,show sv 1=.string ⟨#[49]⟩ from by rw [sv,tx_one]] at hO2
     have hf4:Fr wr (w3.setCell ⟨g,c,none⟩ (.string ⟨#[49]⟩)):=hf3.setCell (p:=⟨g,c,none⟩) hgb _
     have hO3:=hZ (show Own (w3.setCell ⟨g,c,none⟩ (.string ⟨#[49]⟩)) g 0 (unitRow n c) from hO2)
     have hsrc:∀ t u,((unitRow n c).map sv)[t]?=some u→(w3.setCell ⟨g,c,none⟩ (.string ⟨#[49]⟩)).cell? ((⟨g,0,none⟩:Addr).add t)=some u:=fun t u hu=>by
      rw [List.getElem?_map] at hu
      cases hx:(unitRow n c)[t]? with
      | none=>rw [hx] at hu; simp at hu
      | some x=>
        rw [hx] at hu
        injection hu with hu; subst hu
        have:=(hO3.out.2.2 t x hx).1
        rw [show ((⟨g,0,none⟩:Addr).add t)=⟨g,0+t,none⟩ by unfold Addr.add; split <;> simp_all]
        exact this
     have hone:∀ u ∈ (unitRow n c).map sv,u.oneCell'=true:=fun u hu=>by obtain ⟨x,_,rfl⟩:=List.mem_map.1 hu; rfl
     have hml:((unitRow n c).map sv).length=n * 1:=by simp [unitRow_len]
     have hsz4:=hf4.size
     have hsz1:=(hf.trans hf2).size
     have hsz2:=hf2.size
     have hown4:=hZ (ownsRow_fr hown9.out hf4)
     replace hsrc:=hZ hsrc
     replace hone:=hZ hone
     replace hml:=hZ hml
     clear hO hO2 hown3 hown9
     replace hf3:=hZ hf3
     go_upto_region 13 with (fail)
     obtain ⟨w4,hw4⟩:∃ w4,w4=w3.setCell ⟨g,c,none⟩ (.string ⟨#[49]⟩):=⟨_,rfl⟩
     rw [← hw4] at hf4 hO3 hsrc hsz4 hown4 ⊢
     clear hw4 hs1 hs2 hf3
     go_wp2_with (first
     | (at_builtin; refine wpList_append_lies _ rfl _ _ 117 (by rfl) _ 114 _ _ 1 16 Tryz.underlying117 hi hz0 hz1 hz2 rfl (by decide) _ t _ (by rfl) hown4.out ⟨g,0,none⟩ n cz ((unitRow n c).map sv) (by rfl) hml.out hsrc.out hone.out (by omega) (by unfold maxLen; omega) (by omega) (by omega) w4.heap.size rfl ?_; intro gA capA wA hownA hgrowA hatA hltA; have hfA:Fr wo wA:=(hf2.trans hf4).grown hgrowA (fun k e=>(hown4.out.lt k e).1); have hggA:=hgg.out.fr hfA; have hownG:=hggA.own; rw [hgl.out] at hownG; replace hggA:=hZ hggA; have hszA:=hfA.size; have hszW:=hf.size)
     | (at_builtin; refine wpList_append_lies _ rfl _ _ 148 (by rfl) _ 117 _ _ 1 24 Tryz.underlying148 ji jz0 jz1 jz2 rfl (by decide) _ c _ (by rfl) (World.ownsRow.alloc hownG _) ⟨wA.heap.size,0,none⟩ 1 1 [.slice (some ⟨gA,0,none⟩) (t+n) capA] (by rfl) rfl (cell_one_newN _ _ _ _ (by simp)) (by simp [Value.oneCell']) (by decide) (by unfold maxLen; omega) (by omega) (by skip; simp; omega) (wA.heap.size+1) (by simp) ?_; intro gB capB wB hownB hgrowB hatB hltB; skip))
     have hgA:wo.heap.size≤gA:=hatA.elim (fun e=>(hown4.out.lt _ e).1) (fun e=>by omega)
     have hownA2:wA.ownsRow wo.heap.size 114 1 (.slice (some ⟨gA,0,none⟩) (t+n) capA) (t+n) ((colOf m c ++ unitRow n c).map sv):=by rw [List.map_append]; exact hownA
     obtain ⟨hOA,-,-,-,hcpA⟩:=ownsRow_own (by omega) hownA2
     have hne:u5.ownBlock≠some gA:=fun e=>by have h9:=(hgg.out.own.lt gA e).2; omega
     have hne2:∀ h',h' ∈ hs→h'.1≠gA:=fun h' hm e2=>by have h9:=hgg.out.lt h' hm; omega
     have hpush:=(hggA.out.fr ((Fr.refl wA).alloc _)).pushN (hd:=(gA,0,capA)) (hOA.fr ((Fr.refl wA).alloc _)) hne2 hne hgl.out (by unfold hdr; rw [List.length_append,hcl.out,unitRow_len]) hownB hgrowB (hatB.imp id (fun e=>by rw [e]; simp))
     rw [← hsn.out] at hpush
     have hfrB:Fr w wB:=(((hf.trans hfA).alloc _)).grown hgrowB (fun k e=>(hgg.out.own.lt k e).1)
     go_roundg (ko - 1)
     case measure=>omega
     case rel=>exact ⟨c+1,_,by go_num,by omega,hfrB,hpush,fun h hm=>by rcases List.mem_append.1 hm with h1 | h1; exact hnew.out h h1; (simp at h1; subst h1; exact ⟨by show w.heap.size≤gA; omega,hcpA⟩)⟩
  ·obtain rfl:c=n:=by omega
   have hd:decide (c < c)=false:=decide_eq_false hlt
   have hjm:(wideL c m).take c=wideL c m:=List.take_of_length_le (by rw [hwl.out]; exact Nat.le_refl _)
   rw [hjm] at hgg
   obtain ⟨gO,cO,rfl⟩:=ownsRow_pos hgg.own (by rw [hwl.out]; omega)
   obtain ⟨hgO,-,hbO,hcO⟩:=hgg.grid
   have hlen:=hwl.out
   have hfo:=form_any gO 0 cO hs (wideL c m) gW F (q+c) (q+c) tW wr (hG1.out.fr hf) hgO hwr.out (by omega) (by omega) (Nat.le_refl _) (by omega) hw.out
   have hge:∀ k,gb gO hs k→w.heap.size≤k:=by
    rintro k (rfl | ⟨h,hm2,rfl⟩)
    ·exact hbO
    ·exact (hnew.out h hm2).1
   rw [hlen,Int.natCast_add] at hfo
   rw [hlen] at hcO ⊢
   replace hge:=hZ hge
   replace hgO:=hZ hgO
   replace hfo:=hZ hfo
   replace hlen:=hZ hlen
   clear hjm hgg
   go_wp2_with fail
   refine hfo.out.mono ?_
   clear hfo
   rintro e w5 ⟨rfl,ht5,hl5,hr5,hs5,hb5,hfx5,hg5⟩
   have hG5:G w5:=(hG1.out.fr hf).fx hfx5 (fun k hk=>Nat.le_trans hgn (hge.out k hk))
   have hszw:=hf.size
   have hszw5:=hfx5.size
   have hbe:=behind_any w.heap.size gO cO tW q c (q+c) F2 tK hs5 gW gK w5 hG5 hg5 hr5 rfl hn (by omega) (by omega) (by rw [hl5]; exact ht5) (fun h hm=>(hnew.out h (hb5.2 h hm)).2) hb.out (fun k hk=>hge.out k ((hb5.1 k).1 hk)) (by omega)
   replace hbe:=hZ hbe
   replace hg5:=hZ hg5
   replace hr5:=hZ hr5
   replace hl5:=hZ hl5
   go_wp2_with fail
   refine hbe.out.mono ?_
   rintro e w6 ⟨v6,rfl,hlg6,hfx6⟩
   replace hlg6:=hZ hlg6
   go_wp2_with fail
   go_ret
   exact ⟨v6,rfl,hlg6.out,(((Fx.of_fr hf).trans (hfx5.mono hge.out)).trans hfx6).toFr (fun k hk e=>by omega)⟩
theorem GG.mats {w:World} {base:Nat} {E:TypeId} {v:Value} {hs:List (Nat×Nat×Nat)} {g:List (List Int)} (h:GG w base E v hs g):∃ a c,v=.slice a g.length c∧MatS w a g:=by
 obtain ⟨a,c,rfl,h2⟩:=ownsRow_slice h.own
 refine ⟨a,c,rfl, ?_⟩
 rcases h2 with h2 | ⟨g0,rfl⟩
 ·exact .inl (List.eq_nil_of_length_eq_zero h2)
 ·have:=h.grid.1.mats g.length
  rw [List.take_length] at this
  exact this
theorem GridIs.take {w:World} {ob oo:Nat} {hs:List (Nat×Nat×Nat)} {g:List (List Int)} (h:GridIs w ob oo hs g) (t:Nat):GridIs w ob oo (hs.take t) (g.take t):=by
 have key:∀ {α:Type} {l:List α} {i:Nat} {x:α},(l.take t)[i]?=some x→l[i]?=some x:=fun {α l i x} hx=>by
  rw [List.getElem?_take] at hx
  split at hx
  ·exact hx
  ·cases hx
 exact ⟨by rw [List.length_take,List.length_take,h.len],h.outer,h.gob,fun i hd xs h1 h2=>h.cell i hd xs (key h1) (key h2),fun i hd xs h1 h2=>h.row i hd xs (key h1) (key h2),fun i j hi hj h1 h2=>h.apart i j hi hj (key h1) (key h2)⟩
theorem shortLG_any (B n:Nat) (v:Value) (g:List (List Int)) (w:World) (hG:G w) (hv:LG w B v g) (hl:g.length≤1000000) (hr:∀ r,r ∈ g→r.length≤1000000) (hb:∀ r,r ∈ g→∀ x,x ∈ r→fitB x=true) :
 Calls Tryz.prog 88 #[v,.int .i64 n] w (LatRet w n g):=by
 rcases hv with ⟨rfl,rfl⟩ | ⟨ob,oc,hs,gF,tF,rfl,hg,h2,-,rfl,-⟩
 ·exact (short_nil n w).mono fun e w' ⟨he,hf⟩=>⟨none,0,he,fun W _=>.inl rfl,hf⟩
 ·have:=short_any ob oc tF n (hs.take tF) (gF.take tF) w hG (hg.take tF) hl (by rw [List.length_take]; omega) hr hb
  rw [List.take_of_length_le (by rw [List.length_take]; omega)] at this
  exact this
def LatFine (w:World) (n:Nat) (a:Option Addr) (k c:Nat):Prop:=∀ W,Fr w W→Calls Tryz.prog 39 #[.agg #[.int .i64 n,.slice a k c]] W fun e w'=>e=.returned (.int .i64 0)∧Fr W w'
def kernS (F n:Nat) (m:List (List Int)):Option (List (List Int)) :=
 (formS F (m.length+n) 0 (wideL n m) 0).bind fun r=>(formS F n 0 (kerL m.length (r.1.take r.2)) 0).map fun q=>q.1.take q.2
theorem kernS_some {F n:Nat} {m K:List (List Int)} (h:kernS F n m=some K):∃ gW tW gK tK,formS F (m.length+n) 0 (wideL n m) 0=some (gW,tW)∧formS F n 0 (kerL m.length (gW.take tW)) 0=some (gK,tK)∧gK.take tK=K:=by
 unfold kernS at h
 obtain ⟨⟨gW,tW⟩,h1,h2⟩:=Option.bind_eq_some_iff.1 h
 obtain ⟨⟨gK,tK⟩,h3,h4⟩:=Option.map_eq_some_iff.1 h2
 exact ⟨gW,tW,gK,tK,h1,h3,h4⟩
theorem kernelS_any (m K:List (List Int)) (a:Option Addr) (cap n F:Nat) (w:World) (hG:G w) (hm:MatS w a m) (hr:Rect n m) (hn:1≤n) (hn2:n≤1000) (hl:m.length≤1000) (hk:kernS F n m=some K) :
 Calls Tryz.prog 87 #[.slice a m.length cap,.int .i64 n] w fun e w'=>∃ v,e=.returned v∧LG w' w.heap.size v K∧Fr w w':=by
 obtain ⟨gW,tW,gK,tK,h1,h2,rfl⟩:=kernS_some hk
 exact kernelL_any m gW gK a cap n F F tW tK w hG hm hr hn hn2 hl h1 h2
theorem Annih_any (m K:List (List Int)) (a:Option Addr) (cap n F:Nat) (w:World) (hG:G w) (hm:MatIs w a m) (hC:LatFine w n a m.length cap) (hr:Rect n m) (hn:1≤n) (hn2:n≤12) (hl:m.length≤12) (hsm:∀ r,r ∈ m→∀ x,x ∈ r→Sm x)
 (hk:kernS F n m=some K) (hKl:K.length≤1000000) (hKr:∀ r,r ∈ K→r.length≤1000000) (hKf:∀ r,r ∈ K→∀ x,x ∈ r→fitB x=true) :
 Calls Tryz.prog 42 #[.agg #[.int .i64 n,.slice a m.length cap]] w (LatRet w n K):=by
 obtain ⟨k,hkl⟩:∃ k,k=m.length:=⟨_,rfl⟩
 have hlo:=fun W (hW:Fr w W)=>longsOf_any m a cap W (hG.fr hW) (hm.fr hW) (fun r hrm=>by rw [hr r hrm]; omega) (by omega) hsm
 have hke:=fun W a' c' (hW:Fr w W) (hx:MatS W a' m)=>kernelS_any m K a' c' n F W (hG.fr hW) hx hr hn (by omega) (by omega) hk
 have hsh:=fun W B v (hW:Fr w W) (hx:LG W B v K)=>shortLG_any B n v K W (hG.fr hW) hx hKl hKr hKf
 obtain ⟨wb,hwb⟩:∃ wb,wb=alls w [(.cells #[.int .i64 n,.slice a m.length cap] 61),(.cells #[.int .i64 0,.slice none 0 0] 61)]:=⟨_,rfl⟩
 have hfb:Fr w wb:=by rw [hwb]; exact alls_fr _ w
 have g0:wb.heap[w.heap.size]?=some (.cells #[.int .i64 n,.slice a m.length cap] 61 (0,0)):=by rw [hwb]; exact alls_get _ w 0 _ rfl
 have g1:wb.heap[w.heap.size+1]?=some (.cells #[.int .i64 0,.slice none 0 0] 61 (0,0)):=by rw [hwb]; exact alls_get _ w 1 _ rfl
 have b0:wb.cell? ⟨w.heap.size,0,none⟩=some (.int .i64 n):=cells_of g0 0
 have b1:wb.cell? ⟨w.heap.size,1,none⟩=some (.slice a m.length cap):=cells_of g0 1
 have q4:wb.cell? ⟨w.heap.size+1,0,none⟩=some (.int .i64 0):=cells_of g1 0
 have q5:wb.cell? ⟨w.heap.size+1,1,none⟩=some (.slice none 0 0):=cells_of g1 1
 have q6:wb.frozen? ⟨w.heap.size+1,0,none⟩=false:=by unfold World.frozen?; rw [g1]; rfl
 have q7:wb.frozen? ⟨w.heap.size+1,1,none⟩=false:=by unfold World.frozen?; rw [g1]; rfl
 clear g0 g1
 have hC1:=hC wb hfb
 rw [← hkl] at hlo hke hC1 b1 hwb ⊢
 replace hC1:=hZ hC1
 replace hlo:=hZ hlo
 replace hke:=hZ hke
 replace hsh:=hZ hsh
 replace hkl:=hZ hkl
 clear hC hm hr hk hsm hKl hKr hKf
 go_enter Tryz.func42,Tryz.ntmps42
 go_upto_region 1 with (fail)
 change Code.wp _ _ _ _ (alls w [(.cells #[.int .i64 n,.slice a k cap] 61),(.cells #[.int .i64 0,.slice none 0 0] 61)])
 rw [← hwb]
 clear hwb
 go_wp2_with fail
 refine hC1.out.mono ?_
 rintro e w2 ⟨rfl,hf2⟩
 replace q6:=hf2.keepf q4 q6
 replace q7:=hf2.keepf q5 q7
 replace q4:=hf2.keep q4
 replace q5:=hf2.keep q5
 replace b0:=hf2.keep b0
 replace b1:=hf2.keep b1
 replace q4:=hZ q4
 replace q5:=hZ q5
 replace q6:=hZ q6
 replace q7:=hZ q7
 have hfw:=hfb.trans hf2
 clear hfb hf2 hC1
 go_wp2_with fail
 go_region_held3 (fun w'=>w'.cell? ⟨w.heap.size,0,none⟩=some (.int .i64 n)∧w'.cell? ⟨w.heap.size,1,none⟩=some (.slice a k cap))
  (first | go_keep | (go_split_ands; refine ⟨?_, ?_⟩ <;> (refine Fr.keep (by assumption) ?_; assumption)) | (refine two_keep _ _ _ _ _ _ _ ⟨by assumption,by assumption⟩ (by omega)))
  (first
   | (go_at_call 86; (with_reducible refine (hlo.out _ ?_).mono ?_); (exact fr9); rintro e w3 ⟨v3,hs3,rfl,hgg3,-,hf3⟩; obtain ⟨a3,c3,hv3,hm3⟩:=hgg3.mats; rw [← hkl.out] at hv3; subst hv3; replace hm3:=hZ hm3; clear hgg3)
   | (go_at_call 87; (with_reducible refine (hke.out _ _ _ ?_ hm3.out).mono ?_); (exact fr9); rintro e w4 ⟨v4,rfl,hl4,hf4⟩; replace hl4:=hZ hl4)
   | (go_at_call 88; (with_reducible refine (hsh.out _ _ _ ?_ hl4.out).mono ?_); (exact fr9); rintro e w5 ⟨a5,c5,rfl,hm5,hf5⟩; replace hm5:=hZ hm5; have hfz:Fr w2 w5:=(by exact fr9); have t4:=hfz.keep q4.out; have t5:=hfz.keep q5.out; have t6:=hfz.keepf q4.out q6.out; have t7:=hfz.keepf q5.out q7.out; have qs:=two_store w5 (w.heap.size+1) (.int .i64 n) (.slice a5 K.length c5) _ _ t4 t5; have q8:=qs.2.2.1; have u0:=hZ qs.1; have u1:=hZ qs.2.1; have hfx:=hZ qs.2.2.2; clear qs))
 have hsz4:=(show Fr w2 w4 by exact fr9).size
 have hszb:w.heap.size+1 < w2.heap.size:=World.block_lt_of_cell? w2 ⟨w.heap.size+1,0,none⟩ q4.out
 clear q8 t4 t5 t6 t7
 go_wp2_with fail
 have v0:=u0.out
 have v1:=u1.out
 refine bodyPost_ret (v:=.tuple #[.agg #[.int .i64 n,.slice a5 K.length c5],.int .i64 0]) (by simp [results,Tryz.results42,go_sem,v0,v1]) rfl ⟨a5,c5,rfl, ?_, ?_⟩
 ·intro W hW
  exact hm5.out W ((hfx.out.mono (fun k e=>by have e:k=w.heap.size+1:=e; show k < _; omega)).trans (hW.mono (fun k e=>by have e:k < w.heap.size:=e; show k < _; omega)))
 ·exact ((Fx.of_fr (p:=fun q=>q=w.heap.size+1) (hfw.trans hfz)).trans hfx.out).toFr (fun q hq e=>by have e:q=w.heap.size+1:=e; omega)
theorem Satur_any (m K1 K:List (List Int)) (a:Option Addr) (cap n F:Nat) (w:World) (hG:G w) (hm:MatIs w a m) (hC:LatFine w n a m.length cap) (hr:Rect n m) (hn:1≤n) (hn2:n≤12) (hl:m.length≤12) (hsm:∀ r,r ∈ m→∀ x,x ∈ r→Sm x)
 (hk:kernS F n m=some K1) (hk2:kernS F n K1=some K) (hr1:Rect n K1) (hl1:K1.length≤1000) (hKl:K.length≤1000000) (hKr:∀ r,r ∈ K→r.length≤1000000) (hKf:∀ r,r ∈ K→∀ x,x ∈ r→fitB x=true) :
 Calls Tryz.prog 40 #[.agg #[.int .i64 n,.slice a m.length cap]] w (LatRet w n K):=by
 obtain ⟨k,hkl⟩:∃ k,k=m.length:=⟨_,rfl⟩
 have hlo:=fun W (hW:Fr w W)=>longsOf_any m a cap W (hG.fr hW) (hm.fr hW) (fun r hrm=>by rw [hr r hrm]; omega) (by omega) hsm
 have hke:=fun W a' c' (hW:Fr w W) (hx:MatS W a' m)=>kernelS_any m K1 a' c' n F W (hG.fr hW) hx hr hn (by omega) (by omega) hk
 have hkf:=fun W a' c' (hW:Fr w W) (hx:MatS W a' K1)=>kernelS_any K1 K a' c' n F W (hG.fr hW) hx hr1 hn (by omega) hl1 hk2
 have hsh:=fun W B v (hW:Fr w W) (hx:LG W B v K)=>shortLG_any B n v K W (hG.fr hW) hx hKl hKr hKf
 obtain ⟨wb,hwb⟩:∃ wb,wb=alls w [(.cells #[.int .i64 n,.slice a m.length cap] 61),(.cells #[.int .i64 0,.slice none 0 0] 61)]:=⟨_,rfl⟩
 have hfb:Fr w wb:=by rw [hwb]; exact alls_fr _ w
 have g0:wb.heap[w.heap.size]?=some (.cells #[.int .i64 n,.slice a m.length cap] 61 (0,0)):=by rw [hwb]; exact alls_get _ w 0 _ rfl
 have g1:wb.heap[w.heap.size+1]?=some (.cells #[.int .i64 0,.slice none 0 0] 61 (0,0)):=by rw [hwb]; exact alls_get _ w 1 _ rfl
 have b0:wb.cell? ⟨w.heap.size,0,none⟩=some (.int .i64 n):=cells_of g0 0
 have b1:wb.cell? ⟨w.heap.size,1,none⟩=some (.slice a m.length cap):=cells_of g0 1
 have q4:wb.cell? ⟨w.heap.size+1,0,none⟩=some (.int .i64 0):=cells_of g1 0
 have q5:wb.cell? ⟨w.heap.size+1,1,none⟩=some (.slice none 0 0):=cells_of g1 1
 have q6:wb.frozen? ⟨w.heap.size+1,0,none⟩=false:=by unfold World.frozen?; rw [g1]; rfl
 have q7:wb.frozen? ⟨w.heap.size+1,1,none⟩=false:=by unfold World.frozen?; rw [g1]; rfl
 clear g0 g1
 have hC1:=hC wb hfb
 rw [← hkl] at hlo hke hC1 b1 hwb ⊢
 replace hC1:=hZ hC1
 replace hlo:=hZ hlo
 replace hke:=hZ hke
 replace hkf:=hZ hkf
 replace hsh:=hZ hsh
 replace hkl:=hZ hkl
 clear hC hm hr hk hk2 hr1 hl1 hsm hKl hKr hKf
 go_enter Tryz.func40,Tryz.ntmps40
 go_upto_region 1 with (fail)
 change Code.wp _ _ _ _ (alls w [(.cells #[.int .i64 n,.slice a k cap] 61),(.cells #[.int .i64 0,.slice none 0 0] 61)])
 rw [← hwb]
 clear hwb
 go_wp2_with fail
 refine hC1.out.mono ?_
 rintro e w2 ⟨rfl,hf2⟩
 replace q6:=hf2.keepf q4 q6
 replace q7:=hf2.keepf q5 q7
 replace q4:=hf2.keep q4
 replace q5:=hf2.keep q5
 replace b0:=hf2.keep b0
 replace b1:=hf2.keep b1
 replace q4:=hZ q4
 replace q5:=hZ q5
 replace q6:=hZ q6
 replace q7:=hZ q7
 have hfw:=hfb.trans hf2
 clear hfb hf2 hC1
 go_wp2_with fail
 go_region_held3 (fun w'=>w'.cell? ⟨w.heap.size,0,none⟩=some (.int .i64 n)∧w'.cell? ⟨w.heap.size,1,none⟩=some (.slice a k cap))
  (first | go_keep | (go_split_ands; refine ⟨?_, ?_⟩ <;> (refine Fr.keep (by assumption) ?_; assumption)) | (refine two_keep _ _ _ _ _ _ _ ⟨by assumption,by assumption⟩ (by omega)))
  (first
   | (go_at_call 86; (with_reducible refine (hlo.out _ ?_).mono ?_); (exact fr9); rintro e w3 ⟨v3,hs3,rfl,hgg3,-,hf3⟩; obtain ⟨a3,c3,hv3,hm3⟩:=hgg3.mats; rw [← hkl.out] at hv3; subst hv3; replace hm3:=hZ hm3; clear hgg3)
   | (go_at_call 87; (with_reducible refine (hkf.out _ _ _ ?_ hm6.out).mono ?_); (exact fr9); rintro e w4 ⟨v4,rfl,hl4,hf4⟩; replace hl4:=hZ hl4)
   | (go_at_call 87; (with_reducible refine (hke.out _ _ _ ?_ hm3.out).mono ?_); (exact fr9); rintro e w6 ⟨v6,rfl,hl6,hf6⟩; obtain ⟨a6,c6,hv6,hm6⟩:=hl6.mats; subst hv6; replace hm6:=hZ hm6; clear hl6)
   | (go_at_call 88; (with_reducible refine (hsh.out _ _ _ ?_ hl4.out).mono ?_); (exact fr9); rintro e w5 ⟨a5,c5,rfl,hm5,hf5⟩; replace hm5:=hZ hm5; have hfz:Fr w2 w5:=(by exact fr9); have t4:=hfz.keep q4.out; have t5:=hfz.keep q5.out; have t6:=hfz.keepf q4.out q6.out; have t7:=hfz.keepf q5.out q7.out; have qs:=two_store w5 (w.heap.size+1) (.int .i64 n) (.slice a5 K.length c5) _ _ t4 t5; have q8:=qs.2.2.1; have u0:=hZ qs.1; have u1:=hZ qs.2.1; have hfx:=hZ qs.2.2.2; clear qs))
 have hsz4:=(show Fr w2 w4 by exact fr9).size
 have hszb:w.heap.size+1 < w2.heap.size:=World.block_lt_of_cell? w2 ⟨w.heap.size+1,0,none⟩ q4.out
 clear q8 t4 t5 t6 t7
 go_wp2_with fail
 have v0:=u0.out
 have v1:=u1.out
 refine bodyPost_ret (v:=.tuple #[.agg #[.int .i64 n,.slice a5 K.length c5],.int .i64 0]) (by simp [results,Tryz.results40,go_sem,v0,v1]) rfl ⟨a5,c5,rfl, ?_, ?_⟩
 ·intro W hW
  exact hm5.out W ((hfx.out.mono (fun k e=>by have e:k=w.heap.size+1:=e; show k < _; omega)).trans (hW.mono (fun k e=>by have e:k < w.heap.size:=e; show k < _; omega)))
 ·exact ((Fx.of_fr (p:=fun q=>q=w.heap.size+1) (hfw.trans hfz)).trans hfx.out).toFr (fun q hq e=>by have e:q=w.heap.size+1:=e; omega)
end Go.Proofs.YtmalpgbbddkdcaaGreatDoor
