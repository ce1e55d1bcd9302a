/- Contracts and laws: PBK. -/
import Derived.Test.YtiniigadkknboaaGreatDoorPBE
import Derived.RangeFuncNested

set_option maxRecDepth 100000
set_option maxHeartbeats 2000000
namespace Go.Proofs.YtiniigadkknboaaGreatDoor
open Go.RowKit Go.Lib
attribute [local go_sem ↓] Go.wp_at_zero Go.wp_at_succ
attribute [local go_sem] Oper.semAt_some
theorem AppendSeq_int (g:Nat) (lb:Array Value) (L:List Int) (Sp:List Int→Prop) (N:Nat) (w0 w:World) (eg:∀ args w,(callFunc g args).run Tryz.prog w=.ok (.enter g args) w) (hb0:Fr w0 w) (hN:N≤1000000)
 (hseq:SeqStopsK Fence.wide 3 Tryz.prog g lb (fun x:Int=>#[.int .i64 x]) (Below w0.heap.size) (fun xs=>xs=L) Sp N w0) :
 Calls Tryz.prog 98 #[.slice none 0 0,.func (.func g) #[] lb] w fun e w'=>∃ a c,e=.returned (.slice a L.length c)∧El w' iv a L∧Fr w w':=by
 obtain ⟨i0,hi,hz0,hz1,hz2⟩:=info_parts infoInt
 have hs0:=hb0.size
 have hfA:Fr w (w.alloc (.cells #[.slice none 0 0] 23)):=(Fr.refl _).alloc _
 refine (callsIn_wide (n:=4)).1 ?_
 refine callsIn_of_wp_marks Tryz.func98 rfl trivial ?_ rfl
 simp only [Tryz.ntmps98,List.size_toArray,List.length_cons,List.length_nil,Nat.reduceAdd,Nat.reduceSub,Array.replicate_succ,Array.replicate_zero,List.push_toArray,List.append_toArray,List.nil_append,List.cons_append]
 gi_wp2
 refine wpIn_rangeFunc_ownF (n:=4) rfl (by omega) (gf:=g) (lb:=lb) rfl trivial eg hseq belowK_t (belowK_b (by rw [World.size_alloc]; omega)) (hb0.trans hfA) (fun _=>rfl)
  (fun pre W=>(∃ v,Boxed W w.heap.size 23 v∧W.ownsRow w.heap.size 3 1 v pre.length (pre.map iv)∧True)∧Below w.heap.size w W)
  (fun _ _ _=>False)
  (OwnFrom.and (Own.from (holdsRow_own w.heap.size w.heap.size 23 3 1 (fun pre:List Int=>pre.length) (fun pre=>pre.map iv) (fun _ _=>True)) _) (ownFrom_below (Nat.le_refl _) (by rw [World.size_alloc]; omega)))
  (fun _ _ _ _ _ h _ _=>h)
  ⟨⟨_,Boxed.new w _ _,World.ownsRow_nil _ _ _ _,trivial⟩,hfA⟩
  (fun x=>{ tmps:=#[.slice none 0 0,.func (.func g) #[] lb,.pointer (some ⟨w.heap.size,0,none⟩),undef,.slice none 0 0,.int .i64 x,.func (.func g) #[] lb,.int .i64 x,undef,undef,undef,undef,undef],defers:=[] }) ?assign ?body ?done ?stop
 case assign=>
  intro l x W K hK
  gi_wp2
  exact hK
 case body=>
  rintro l pre x W ⟨⟨v,hv,hown,-⟩,hB⟩ hlen
  have hv1:=hv.cell
  have hzB:=hB.size
  gi_wp2_with (gi_at_builtin; refine wpListIn_append_own _ rfl _ _ 23 rfl w.heap.size 3 i0 _ 1 8 Tryz.underlying23 hi hz0 hz1 hz2 rfl (by decide) _ _ _ rfl (hown.alloc _) ⟨W.heap.size,0,none⟩ 1 1 [.int .i64 x] rfl rfl (cell_one_new _ _ _) (by simp [Value.oneCell']) (by unfold maxLen; omega) (by omega) (by rw [World.size_alloc]; omega) ?_; intro v' w1 hown' hgrow _; obtain ⟨g',cap',rfl⟩:=ownsRow_succ hown'; obtain ⟨hq1,hq2,hq3,hk2,hb2⟩:=hv.appended (by decide) hown hzB (Nat.le_refl _) hown' hgrow; have hc1:=hq1.cell; have hf1:=hq1.frozen)
  exact ⟨hk2,hb2.mono hs0,⟨_,hq2,by rw [List.length_append,List.map_append]; exact hq3,trivial⟩,Below.trans hB hb2⟩
 case done=>
  rintro D ys W hD rfl ⟨⟨v,hv,hown,-⟩,hB⟩ hK
  have hv1:=hv.cell
  have hown2:=ownsRow_putObj hown (.deferred none) hK rfl
  obtain ⟨a9,c9,rfl,he9,hb9⟩:=own_readJ hown2
  have hfr9:Fr w W:=hB
  gi_wp2
  refine ⟨by simp,.inl ⟨_,_,rfl,run_takeDeferred hK, ?_⟩⟩
  refine ⟨_,results_tmp rfl _ _ _,a9,c9,rfl,he9, ?_⟩
  ·exact ((Fx.of_fr hfr9).trans (Fx.putObj W D (.deferred none))).toFr (fun k hk e=>by have e:k=D:=e; rw [World.size_alloc] at hD; omega)
 case stop=>
  rintro D c pre W hD _ h
  exact h.elim
theorem Collect_int (g:Nat) (lb:Array Value) (L:List Int) (Sp:List Int→Prop) (N:Nat) (w0 w:World) (eg:∀ args w,(callFunc g args).run Tryz.prog w=.ok (.enter g args) w) (hb0:Fr w0 w) (hN:N≤1000000)
 (hseq:SeqStopsK Fence.wide 3 Tryz.prog g lb (fun x:Int=>#[.int .i64 x]) (Below w0.heap.size) (fun xs=>xs=L) Sp N w0) :
 Calls Tryz.prog 63 #[.func (.func g) #[] lb] w fun e w'=>∃ a c,e=.returned (.slice a L.length c)∧El w' iv a L∧Fr w w':=by
 have h1:=hZ (AppendSeq_int g lb L Sp N w0 w eg hb0 hN hseq)
 clear hseq
 go_enter Tryz.func63,Tryz.ntmps63
 go_wp2_with fail
 refine h1.out.mono ?_
 rintro e w1 ⟨a,c,rfl,he,hf⟩
 replace he:=hZ he
 go_wp2_with fail
 go_ret
 exact ⟨a,c,rfl,he.out,hf⟩
def limE (E lim:Int):Int:=if E≠0 then E else if lim < 1∨1000 < lim then 3 else 0
theorem limited_any (aP aC aM:Option Addr) (cP cC cM:Nat) (P:List Int) (C M:List (List Int)) (E lim:Int) (w:World) (ht:TmF w aP aC aM cP cC cM P C M E) :
 Calls Tryz.prog 62 #[.agg #[.slice aP P.length cP,.slice aC C.length cC,.slice aM M.length cM],.int .i64 lim] w fun e w'=>e=.returned (.int .i64 (limE E lim))∧Fr w w':=by
 have hch:=hZ ht.ck
 obtain ⟨wb,hwb⟩:∃ wb,wb=w.alloc (.cells #[.slice aP P.length cP,.slice aC C.length cC,.slice aM M.length cM] 29):=⟨_,rfl⟩
 have hfb:Fr w wb:=by rw [hwb]; exact (Fr.refl _).alloc _
 have hT:=C3.new w (.slice aP P.length cP) (.slice aC C.length cC) (.slice aM M.length cM) 29
 rw [← hwb] at hT
 have b0:=hT.a
 have b1:=hT.b
 have b2:=hT.c
 obtain ⟨res,hres⟩:∃ res,res=limE E lim:=⟨_,rfl⟩
 rw [← hres]
 unfold limE at hres
 generalize P.length=n at *
 generalize C.length=nC at *
 generalize M.length=nM at *
 clear ht hT
 by_cases e0:E=0
 ·rw [if_neg (by rw [e0]; simp)] at hres
  have q0:(E != 0)=false:=by rw [e0]; rfl
  replace e0:=hZ e0
  by_cases h1:lim < 1
  ·have d1:decide (lim < 1)=true:=decide_eq_true h1
   rw [if_pos (.inl h1)] at hres
   subst hres
   clear h1
   go_enter Tryz.func62,Tryz.ntmps62
   go_upto_region 1 with (fail)
   rw [← hwb]
   clear hwb
   go_wp2_with fail
   refine (hch.out _ hfb).mono ?_
   rintro e w1 ⟨rfl,hf1⟩
   go_wp2_with fail
   go_ret
   exact ⟨rfl,hfb.trans hf1⟩
  ·have d1:decide (lim < 1)=false:=decide_eq_false h1
   by_cases h2:1000 < lim
   ·have d2:decide (1000 < lim)=true:=decide_eq_true h2
    rw [if_pos (.inr h2)] at hres
    subst hres
    clear h1 h2
    go_enter Tryz.func62,Tryz.ntmps62
    go_upto_region 1 with (fail)
    rw [← hwb]
    clear hwb
    go_wp2_with fail
    refine (hch.out _ hfb).mono ?_
    rintro e w1 ⟨rfl,hf1⟩
    go_wp2_with fail
    go_ret
    exact ⟨rfl,hfb.trans hf1⟩
   ·have d2:decide (1000 < lim)=false:=decide_eq_false h2
    rw [if_neg (by omega)] at hres
    subst hres
    clear h1 h2
    go_enter Tryz.func62,Tryz.ntmps62
    go_upto_region 1 with (fail)
    rw [← hwb]
    clear hwb
    go_wp2_with fail
    refine (hch.out _ hfb).mono ?_
    rintro e w1 ⟨rfl,hf1⟩
    go_wp2_with fail
    go_ret
    exact ⟨rfl,hfb.trans hf1⟩
 ·have q0:(E != 0)=true:=bne_iff_ne.2 e0
  rw [if_pos e0] at hres
  subst hres
  replace e0:=hZ e0
  go_enter Tryz.func62,Tryz.ntmps62
  go_upto_region 1 with (fail)
  rw [← hwb]
  clear hwb
  go_wp2_with fail
  refine (hch.out _ hfb).mono ?_
  rintro e w1 ⟨rfl,hf1⟩
  go_wp2_with fail
  go_ret
  exact ⟨rfl,hfb.trans hf1⟩
theorem divisions_any (aP aC aM:Option Addr) (nP cP nC cC nM cM:Nat) (lim:Int) (w:World) :
 Calls Tryz.prog 64 #[.agg #[.slice aP nP cP,.slice aC nC cC,.slice aM nM cM],.int .i64 lim] w fun e w'=>e=.returned (.func (.func 99) #[] #[.pointer (some ⟨w.heap.size+1,0,none⟩),.pointer (some ⟨w.heap.size,0,none⟩)])∧w'=(w.alloc (.cells #[.slice aP nP cP,.slice aC nC cC,.slice aM nM cM] 29)).alloc (.cells #[.int .i64 lim] 3):=by
 go_enter Tryz.func64,Tryz.ntmps64
 go_wp2_with fail
 go_ret
 exact ⟨rfl,rfl⟩
structure DvOk (w:World) (aP aC:Option Addr) (p0:Int) (r:List Int) (C:List (List Int)) (lm:Nat):Prop where
 pr:primeE (p0 :: r)=0
 p:El w iv aP (p0 :: r)
 c:MatIs w aC C
 rc:Rect (r.length+1) C
 cl:C.length≤12
 cf:∀ r,r ∈ C→∀ y,y ∈ r→fitB y=true
 lml:lm≤1000
 po:∀ k:Nat,1≤k→k≤lm→patOk (p0 :: r) k=true
theorem divs_made (aP aC aM:Option Addr) (cP cC nM cM:Nat) (p0:Int) (r:List Int) (C:List (List Int)) (lm:Nat) (w:World) (h:DvOk w aP aC p0 r C lm) (hG:G w) :
 SeqStopsK Fence.wide 3 Tryz.prog 99 #[.pointer (some ⟨w.heap.size+1,0,none⟩),.pointer (some ⟨w.heap.size,0,none⟩)] (fun x:Int=>#[.int .i64 x]) (Below ((w.alloc (.cells #[.slice aP (r.length+1) cP,.slice aC C.length cC,.slice aM nM cM] 29)).alloc (.cells #[.int .i64 lm] 3)).heap.size) (fun xs=>xs=dvT C (p0 :: r) lm) (fun pre=>pre≠[]∧pre <+: dvT C (p0 :: r) lm) 100000 ((w.alloc (.cells #[.slice aP (r.length+1) cP,.slice aC C.length cC,.slice aM nM cM] 29)).alloc (.cells #[.int .i64 lm] 3)):=by
 have hT:=(C3.new w (.slice aP (r.length+1) cP) (.slice aC C.length cC) (.slice aM nM cM) 29).fr ((Fr.refl _).alloc (.cells #[.int .i64 lm] 3))
 have hf:Fr w ((w.alloc (.cells #[.slice aP (r.length+1) cP,.slice aC C.length cC,.slice aM nM cM] 29)).alloc (.cells #[.int .i64 lm] 3)):=((Fr.refl _).alloc _).alloc _
 have hl:=new_cell (w.alloc (.cells #[.slice aP (r.length+1) cP,.slice aC C.length cC,.slice aM nM cM] 29)) (.int .i64 lm) 3
 rw [World.size_alloc] at hl
 exact divs_seq p0 r C aP aC aM cP cC cM nM w.heap.size (w.heap.size+1) lm _ (hG.fr hf) h.pr (h.p.fr hf) (h.c.fr hf) h.rc h.cl h.cf hT.a hT.b hT.c hl h.lml h.po
def PtRet (w:World) (err:Int) (L:List Int) (e:Ending) (w':World):Prop:=Fr w w'∧(err≠0→e=.returned (.tuple #[.slice none 0 0,.int .i64 err]))∧(err=0→∃ a c,e=.returned (.tuple #[.slice a L.length c,.int .i64 0])∧El w' iv a L)
theorem Patents_any (aP aC aM:Option Addr) (cP cC cM:Nat) (p0:Int) (r:List Int) (C M:List (List Int)) (E lim:Int) (w:World) (ht:TmF w aP aC aM cP cC cM (p0 :: r) C M E) (hd:limE E lim=0→DvOk w aP aC p0 r C lim.toNat) (hG:G w) :
 Calls Tryz.prog 28 #[.agg #[.slice aP (r.length+1) cP,.slice aC C.length cC,.slice aM M.length cM],.int .i64 lim] w (PtRet w (limE E lim) (dvT C (p0 :: r) lim.toNat)):=by
 obtain ⟨wb,hwb⟩:∃ wb,wb=w.alloc (.cells #[.slice aP (r.length+1) cP,.slice aC C.length cC,.slice aM M.length cM] 29):=⟨_,rfl⟩
 have hfb:Fr w wb:=by rw [hwb]; exact (Fr.refl _).alloc _
 have hT:=C3.new w (.slice aP (r.length+1) cP) (.slice aC C.length cC) (.slice aM M.length cM) 29
 rw [← hwb] at hT
 have hli:=limited_any aP aC aM cP cC cM (p0 :: r) C M E lim wb (ht.fr hfb)
 rw [List.length_cons] at hli
 have hco:limE E lim=0→Hid (∀ W,Fr w W→Calls Tryz.prog 63 #[.func (.func 99) #[] #[.pointer (some ⟨W.heap.size+1,0,none⟩),.pointer (some ⟨W.heap.size,0,none⟩)]] ((W.alloc (.cells #[.slice aP (r.length+1) cP,.slice aC C.length cC,.slice aM M.length cM] 29)).alloc (.cells #[.int .i64 lim] 3)) fun e w'=>∃ a c,e=.returned (.slice a (dvT C (p0 :: r) lim.toNat).length c)∧El w' iv a (dvT C (p0 :: r) lim.toNat)∧Fr ((W.alloc (.cells #[.slice aP (r.length+1) cP,.slice aC C.length cC,.slice aM M.length cM] 29)).alloc (.cells #[.int .i64 lim] 3)) w'):=fun h0 W hW=>by
  have h:=hd h0
  have hl0:((lim.toNat:Nat):Int)=lim:=by
   unfold limE at h0
   by_cases e:E=0
   ·rw [if_neg (by rw [e]; simp)] at h0
    by_cases e2:lim < 1∨1000 < lim
    ·rw [if_pos e2] at h0; cases h0
    ·omega
   ·rw [if_pos e] at h0; exact absurd h0 e
  have hs:=divs_made aP aC aM cP cC M.length cM p0 r C lim.toNat W ⟨h.pr,h.p.fr hW,h.c.fr hW,h.rc,h.cl,h.cf,h.lml,h.po⟩ (hG.fr hW)
  rw [hl0] at hs
  exact Collect_int _ _ _ _ 100000 _ _ (enters_of Tryz.func99 (by kernel_rfl) rfl) (Fr.refl _) (by decide) hs
 obtain ⟨err,herr⟩:∃ err,err=limE E lim:=⟨_,rfl⟩
 rw [← herr] at hli hco ⊢
 replace herr:=hZ herr
 replace hli:=hZ hli
 have b0:=hT.a
 have b1:=hT.b
 have b2:=hT.c
 generalize r.length+1=n at *
 generalize C.length=nC at *
 generalize M.length=nM at *
 generalize dvT C (p0 :: r) lim.toNat=L at *
 unfold PtRet
 clear ht hT hd hG
 by_cases e0:err=0
 ·have hco2:=hco e0
  subst e0
  clear hco herr
  go_enter Tryz.func28,Tryz.ntmps28
  go_upto_region 1 with (fail)
  rw [← hwb]
  clear hwb
  go_wp2_with fail
  refine hli.out.mono ?_
  rintro e w1 ⟨rfl,hf1⟩
  replace b0:=hf1.keep b0
  replace b1:=hf1.keep b1
  replace b2:=hf1.keep b2
  have hfw:=hfb.trans hf1
  have hco3:=hZ (hco2.out w1 hfw)
  have hdv:=hZ (divisions_any aP aC aM n cP nC cC nM cM lim w1)
  clear hco2
  obtain ⟨W2,hW2⟩:∃ W2,W2=(w1.alloc (.cells #[.slice aP n cP,.slice aC nC cC,.slice aM nM cM] 29)).alloc (.cells #[.int .i64 lim] 3):=⟨_,rfl⟩
  have hf2:Fr w1 W2:=by rw [hW2]; exact ((Fr.refl _).alloc _).alloc _
  rw [← hW2] at hdv hco3
  clear hW2
  go_wp2_with fail
  refine hdv.out.mono ?_
  rintro e w2 ⟨rfl,rfl⟩
  go_wp2_with fail
  refine hco3.out.mono ?_
  rintro e w3 ⟨a,c,rfl,he,hf3⟩
  replace he:=hZ he
  go_wp2_with fail
  go_ret2
  exact ⟨(hfw.trans hf2).trans hf3,fun h=>absurd rfl h,fun _=>⟨a,c,rfl,he.out⟩⟩
 ·have q0:(err != 0)=true:=bne_iff_ne.2 e0
  have e9:=hZ e0
  clear hco e0
  go_enter Tryz.func28,Tryz.ntmps28
  go_upto_region 1 with (fail)
  rw [← hwb]
  clear hwb
  go_wp2_with fail
  refine hli.out.mono ?_
  rintro e w1 ⟨rfl,hf1⟩
  go_wp2_with fail
  go_ret2
  exact ⟨hfb.trans hf1,fun _=>rfl,fun h=>absurd h e9.out⟩
def LsRet (w:World) (err:Int) (L:List Int) (e:Ending) (w':World):Prop:=Fr w w'∧(err≠0→e=.returned (.tuple #[.int .i64 0,.bool false,.int .i64 err]))∧(err=0→L=[]→e=.returned (.tuple #[.int .i64 0,.bool false,.int .i64 0]))∧(err=0→∀ x r,L=x :: r→e=.returned (.tuple #[.int .i64 x,.bool true,.int .i64 0]))
def LsX (w:World) (b:Nat) (x:Int) (fd:Bool) (er:Int) (W:World):Prop:=Boxed W b 3 (.int .i64 x)∧Boxed W (b+1) 4 (.bool fd)∧Boxed W (b+1+1) 30 (.int .i64 er)∧Fx (fun k=>k=b∨k=b+1∨k=b+1+1) w W
theorem LsX.own (w:World) (b:Nat) (hb:b+2 < w.heap.size) (f:List Int→Int→Prop) (fd:Bool) (er:Int):OwnFrom w.heap.size (fun (s:List Int) W=>∃ x,f s x∧LsX w b x fd er W):=by
 rintro s W W' row ⟨x,hx,h1,h2,h3,h4⟩ hg hr
 have hne:∀ k,k < w.heap.size→some k≠row:=fun k hk e=>by have:=(hr k e.symm).1; omega
 exact ⟨x,hx,h1.kept hg (hne _ (by omega)),h2.kept hg (hne _ (by omega)),h3.kept hg (hne _ (by omega)),Fx.grownT h4 hg (fun k e=>(hr k e).1)⟩
theorem LsX.fr {w W W':World} {b:Nat} {x:Int} {fd:Bool} {er:Int} (h:LsX w b x fd er W) (k:Fr W W'):LsX w b x fd er W':=by
 obtain ⟨h1,h2,h3,h4⟩:=h
 have hk:∀ j,j < W.heap.size→W'.heap[j]?=W.heap[j]?:=fun j hj=>(Fx.of_fr (p:=fun _=>False) k).block j hj (fun h=>h)
 exact ⟨(hk _ h1.lt).trans h1,(hk _ h2.lt).trans h2,(hk _ h3.lt).trans h3,h4.fr k⟩
theorem LsX.set {w W:World} {b:Nat} {x0:Int} {f0:Bool} {e0:Int} (h:LsX w b x0 f0 e0 W) (x:Int) (fd:Bool) (er:Int):(W.cell? ⟨b,0,none⟩=some (.int .i64 x0)∧W.frozen? ⟨b,0,none⟩=false)∧((W.setCell ⟨b,0,none⟩ (.int .i64 x)).cell? ⟨b+1,0,none⟩=some (.bool f0)∧(W.setCell ⟨b,0,none⟩ (.int .i64 x)).frozen? ⟨b+1,0,none⟩=false) ∧
 (((W.setCell ⟨b,0,none⟩ (.int .i64 x)).setCell ⟨b+1,0,none⟩ (.bool fd)).cell? ⟨b+1+1,0,none⟩=some (.int .i64 e0)∧((W.setCell ⟨b,0,none⟩ (.int .i64 x)).setCell ⟨b+1,0,none⟩ (.bool fd)).frozen? ⟨b+1+1,0,none⟩=false) ∧
 LsX w b x fd er (((W.setCell ⟨b,0,none⟩ (.int .i64 x)).setCell ⟨b+1,0,none⟩ (.bool fd)).setCell ⟨b+1+1,0,none⟩ (.int .i64 er))∧Fx (fun k=>k=b∨k=b+1∨k=b+1+1) W (((W.setCell ⟨b,0,none⟩ (.int .i64 x)).setCell ⟨b+1,0,none⟩ (.bool fd)).setCell ⟨b+1+1,0,none⟩ (.int .i64 er)):=by
 obtain ⟨h1,h2,h3,h4⟩:=h
 have a2:=h2.other (B':=b) (by omega) (.int .i64 x)
 have a3:=(h3.other (B':=b) (by omega) (.int .i64 x)).other (B':=b+1) (by omega) (.bool fd)
 refine ⟨⟨h1.cell,h1.frozen⟩,⟨a2.cell,a2.frozen⟩,⟨a3.cell,a3.frozen⟩,⟨((h1.set (.int .i64 x)).other (B':=b+1) (by omega) _).other (B':=b+1+1) (by omega) _,(a2.set (.bool fd)).other (B':=b+1+1) (by omega) _,a3.set _, ?_⟩, ?_⟩
 ·exact ((h4.setCell (q:=⟨b,0,none⟩) (.inl (.inl rfl)) _).setCell (q:=⟨b+1,0,none⟩) (.inl (.inr (.inl rfl))) _).setCell (q:=⟨b+1+1,0,none⟩) (.inl (.inr (.inr rfl))) _
 ·exact (((Fx.refl _ W).setCell (q:=⟨b,0,none⟩) (.inl (.inl rfl)) _).setCell (q:=⟨b+1,0,none⟩) (.inl (.inr (.inl rfl))) _).setCell (q:=⟨b+1+1,0,none⟩) (.inl (.inr (.inr rfl))) _
theorem LsX.base {w W:World} {b:Nat} {x:Int} {fd:Bool} {er:Int} (h:LsX w b x fd er W):LsX W b x fd er W:=⟨h.1,h.2.1,h.2.2.1,Fx.refl _ _⟩
theorem LsX.put {w W:World} {b:Nat} {x:Int} {fd:Bool} {er:Int} (h:LsX w b x fd er W) {D:Nat} (hD:w.heap.size≤D) (hb:b+2 < w.heap.size) (o:Obj):LsX w b x fd er (W.putObj D o) :=
 ⟨h.1.kept (grownBy_putObj' W D o) (fun e=>by injection e with e; omega),h.2.1.kept (grownBy_putObj' W D o) (fun e=>by injection e with e; omega),h.2.2.1.kept (grownBy_putObj' W D o) (fun e=>by injection e with e; omega),h.2.2.2.grownT (grownBy_putObj' W D o) (fun k e=>by injection e with e; omega)⟩
theorem Least_any (aP aC aM:Option Addr) (cP cC cM:Nat) (p0:Int) (r:List Int) (C M:List (List Int)) (E lim:Int) (w:World) (ht:TmF w aP aC aM cP cC cM (p0 :: r) C M E) (hd:limE E lim=0→DvOk w aP aC p0 r C lim.toNat) (hG:G w) :
 Calls Tryz.prog 29 #[.agg #[.slice aP (r.length+1) cP,.slice aC C.length cC,.slice aM M.length cM],.int .i64 lim] w (LsRet w (limE E lim) (dvT C (p0 :: r) lim.toNat)):=by
 obtain ⟨wb,hwb⟩:∃ wb,wb=(((w.alloc (.cells #[.slice aP (r.length+1) cP,.slice aC C.length cC,.slice aM M.length cM] 29)).alloc (.cells #[.int .i64 0] 3)).alloc (.cells #[.bool false] 4)).alloc (.cells #[.int .i64 0] 30):=⟨_,rfl⟩
 have hfb:Fr w wb:=by rw [hwb]; exact ((((Fr.refl _).alloc _).alloc _).alloc _).alloc _
 have hT:C3 wb w.heap.size (.slice aP (r.length+1) cP) (.slice aC C.length cC) (.slice aM M.length cM):=by rw [hwb]; exact (((C3.new w _ _ _ _).fr ((Fr.refl _).alloc _)).fr ((Fr.refl _).alloc _)).fr ((Fr.refl _).alloc _)
 obtain ⟨b,hb⟩:∃ b,b=w.heap.size+1:=⟨_,rfl⟩
 have x4:Boxed wb b 3 (.int .i64 0):=by
  have:=Boxed.new (w.alloc (.cells #[.slice aP (r.length+1) cP,.slice aC C.length cC,.slice aM M.length cM] 29)) 3 (.int .i64 0)
  rw [World.size_alloc,← hb] at this
  rw [hwb]; exact (this.alloc _).alloc _
 have x5:Boxed wb (b+1) 4 (.bool false):=by
  have:=Boxed.new ((w.alloc (.cells #[.slice aP (r.length+1) cP,.slice aC C.length cC,.slice aM M.length cM] 29)).alloc (.cells #[.int .i64 0] 3)) 4 (.bool false)
  rw [World.size_alloc,World.size_alloc,← hb] at this
  rw [hwb]; exact this.alloc _
 have x6:Boxed wb (b+1+1) 30 (.int .i64 0):=by
  have:=Boxed.new (((w.alloc (.cells #[.slice aP (r.length+1) cP,.slice aC C.length cC,.slice aM M.length cM] 29)).alloc (.cells #[.int .i64 0] 3)).alloc (.cells #[.bool false] 4)) 30 (.int .i64 0)
  rw [World.size_alloc,World.size_alloc,World.size_alloc,← hb] at this
  rw [hwb]; exact this
 have hszb:wb.heap.size=b+1+1+1:=by rw [hwb,World.size_alloc,World.size_alloc,World.size_alloc,World.size_alloc,← hb]
 have hli:=limited_any aP aC aM cP cC cM (p0 :: r) C M E lim wb (ht.fr hfb)
 rw [List.length_cons] at hli
 have hco:limE E lim=0→Hid (∀ W,Fr w W→SeqStopsK Fence.wide 3 Tryz.prog 99 #[.pointer (some ⟨W.heap.size+1,0,none⟩),.pointer (some ⟨W.heap.size,0,none⟩)] (fun x:Int=>#[.int .i64 x]) (Below ((W.alloc (.cells #[.slice aP (r.length+1) cP,.slice aC C.length cC,.slice aM M.length cM] 29)).alloc (.cells #[.int .i64 lim] 3)).heap.size) (fun xs=>xs=dvT C (p0 :: r) lim.toNat) (fun pre=>pre≠[]∧pre <+: dvT C (p0 :: r) lim.toNat) 100000 ((W.alloc (.cells #[.slice aP (r.length+1) cP,.slice aC C.length cC,.slice aM M.length cM] 29)).alloc (.cells #[.int .i64 lim] 3))):=fun h0 W hW=>by
  have h:=hd h0
  have hl0:((lim.toNat:Nat):Int)=lim:=by
   unfold limE at h0
   by_cases e:E=0
   ·rw [if_neg (by rw [e]; simp)] at h0
    by_cases e2:lim < 1∨1000 < lim
    ·rw [if_pos e2] at h0; cases h0
    ·omega
   ·rw [if_pos e] at h0; exact absurd h0 e
  have hs:=divs_made aP aC aM cP cC M.length cM p0 r C lim.toNat W ⟨h.pr,h.p.fr hW,h.c.fr hW,h.rc,h.cl,h.cf,h.lml,h.po⟩ (hG.fr hW)
  rw [hl0] at hs
  exact hs
 obtain ⟨err,herr⟩:∃ err,err=limE E lim:=⟨_,rfl⟩
 rw [← herr] at hli hco ⊢
 replace herr:=hZ herr
 replace hli:=hZ hli
 have b0:=hT.a
 have b1:=hT.b
 have b2:=hT.c
 generalize r.length+1=n at *
 generalize C.length=nC at *
 generalize M.length=nM at *
 generalize dvT C (p0 :: r) lim.toNat=L at *
 have hx0:Hid (LsX wb b 0 false 0 wb):=⟨x4,x5,x6,Fx.refl _ _⟩
 subst hb
 clear x4 x5 x6
 clear ht hT hd hG
 refine (callsIn_wide (n:=4)).1 ?_
 refine callsIn_of_wp_marks Tryz.func29 rfl trivial ?_ rfl
 simp only [Tryz.ntmps29,List.size_toArray,List.length_cons,List.length_nil,Nat.reduceAdd,Nat.reduceSub,Array.replicate_succ,Array.replicate_zero,List.push_toArray,List.append_toArray,List.nil_append,List.cons_append]
 gi_wp2
 rw [← hwb]
 clear hwb
 refine ⟨trivial,(callsIn_wide.2 hli.out).mono ?_⟩
 rintro e w1 ⟨rfl,hf1⟩
 have hx1:=hZ (hx0.out.fr hf1)
 have hfw:=hfb.trans hf1
 replace b0:=hf1.keep b0
 replace b1:=hf1.keep b1
 replace b2:=hf1.keep b2
 clear hli hx0
 by_cases e0:err=0
 ·have hco3:=(hco e0).out w1 hfw
  clear hco
  subst e0
  have hdv:=hZ (divisions_any aP aC aM n cP nC cC nM cM lim w1)
  obtain ⟨w2,hw2⟩:∃ w2,w2=(w1.alloc (.cells #[.slice aP n cP,.slice aC nC cC,.slice aM nM cM] 29)).alloc (.cells #[.int .i64 lim] 3):=⟨_,rfl⟩
  have hf2:Fr w1 w2:=by rw [hw2]; exact ((Fr.refl _).alloc _).alloc _
  have hx2:=hZ (hx1.out.fr hf2).base
  have hw22:=hfw.trans hf2
  have hs2:w.heap.size+1+2 < w2.heap.size:=by have:=hf1.size; have:=hf2.size; omega
  rw [← hw2] at hdv hco3
  clear hw2 hx1
  gi_wp2
  refine ⟨trivial,(callsIn_wide.2 hdv.out).mono ?_⟩
  rintro e w3 ⟨rfl,rfl⟩
  gi_wp2
  refine wpIn_rangeFunc_ownF (n:=4) rfl (by omega) (gf:=99) (lb:=#[.pointer (some ⟨w1.heap.size+1,0,none⟩),.pointer (some ⟨w1.heap.size,0,none⟩)]) rfl trivial (enters_of Tryz.func99 (by kernel_rfl) rfl) hco3 belowK_t (belowK_b (Nat.le_refl _)) (Fr.refl _) (fun _=>rfl)
   (fun pre W=>pre=[]∧Below w3.heap.size w3 W)
   (fun c s W=>c=.ret∧∃ x,s=[x]∧LsX w3 (w.heap.size+1) x true 0 W)
   (OwnFrom.and (ownFrom_pure _ _) (ownFrom_below (Nat.le_refl _) (Nat.le_refl _)))
   (fun c=>OwnFrom.and (ownFrom_pure _ _) (LsX.own w3 _ hs2 (fun s x=>s=[x]) true 0))
   ⟨rfl,Below.refl _ _⟩
   (fun x=>{ tmps:=#[.agg #[.slice aP n cP,.slice aC nC cC,.slice aM nM cM],.int .i64 lim,.pointer (some ⟨w.heap.size,0,none⟩),undef,.pointer (some ⟨w.heap.size+1,0,none⟩),.pointer (some ⟨w.heap.size+1+1,0,none⟩),.pointer (some ⟨w.heap.size+1+1+1,0,none⟩),.int .i64 0,.int .i64 x,.agg #[.slice aP n cP,.slice aC nC cC,.slice aM nM cM],.int .i64 lim,.int .i64 0,.int .i64 0,.bool false,undef,.agg #[.slice aP n cP,.slice aC nC cC,.slice aM nM cM],.int .i64 lim,.func (.func 99) #[] #[.pointer (some ⟨w1.heap.size+1,0,none⟩),.pointer (some ⟨w1.heap.size,0,none⟩)],.int .i64 x,undef],defers:=[] }) ?assign ?body ?done ?stop
  case assign=>
   intro l x W K hK
   gi_wp2
   exact hK
  case body=>
   rintro l pre x W ⟨rfl,hB⟩ hlen
   obtain ⟨⟨c4,f4⟩,⟨c5,f5⟩,⟨c6,f6⟩,hX,-⟩:=(hx2.out.fr hB).set x true 0
   replace hX:=hZ hX
   gi_wp2
   exact ⟨((KeepsOthers.setCell _ _ _).trans (KeepsOthers.setCell _ _ _)).trans (KeepsOthers.setCell _ _ _),rfl,x,rfl,hX.out⟩
  case done=>
   rintro D ys W hD rfl ⟨h0,hB⟩ hK
   obtain ⟨⟨c4,f4⟩,⟨c5,f5⟩,⟨c6,f6⟩,hX,hfx⟩:=(hx2.out.fr hB).set 0 false 0
   have hDW:D < W.heap.size:=(Array.getElem?_eq_some_iff.1 hK).1
   have hK9:=(hfx.block D hDW (fun e=>by rcases e with e | e | e <;> omega)).trans hK
   have hX9:=hX.put hD hs2 (.deferred none)
   replace hX:=hZ hX
   gi_wp2
   refine ⟨by simp,.inl ⟨_,_,rfl,run_takeDeferred hK9, ?_⟩⟩
   have r4:=hX9.1.cell
   have r5:=hX9.2.1.cell
   have r6:=hX9.2.2.1.cell
   refine ⟨.tuple #[.int .i64 0,.bool false,.int .i64 0],by simp [results,Tryz.results29,go_sem,r4,r5,r6], ?_⟩
   exact ⟨((Fx.of_fr hw22).trans hX9.2.2.2).toFr (fun k hk e=>by rcases e with e | e | e <;> omega),fun h=>absurd rfl h,fun _ _=>rfl,fun _ x r h=>(by rw [h0] at h; cases h)⟩
  case stop=>
   rintro D c pre W hD ⟨hp1,hp2⟩ ⟨rfl,x,rfl,hX⟩ hK
   have hX9:=hX.put hD hs2 (.deferred none)
   gi_wp2
   refine ⟨by simp,.inl ⟨_,_,rfl,run_takeDeferred hK, ?_⟩⟩
   have r4:=hX9.1.cell
   have r5:=hX9.2.1.cell
   have r6:=hX9.2.2.1.cell
   refine ⟨.tuple #[.int .i64 x,.bool true,.int .i64 0],by simp [results,Tryz.results29,go_sem,r4,r5,r6], ?_⟩
   refine ⟨((Fx.of_fr hw22).trans hX9.2.2.2).toFr (fun k hk e=>by rcases e with e | e | e <;> omega),fun h=>absurd rfl h,fun _ h=>?_,fun _ y r h=>?_⟩
   ·rw [h] at hp2
    have:=hp2.length_le
    simp at this
   ·obtain ⟨t,ht⟩:=hp2
    rw [h] at ht
    injection ht with ht
    rw [ht]
 ·have q0:(err != 0)=true:=bne_iff_ne.2 e0
  have e9:=hZ e0
  clear hco e0
  obtain ⟨⟨c4,f4⟩,⟨c5,f5⟩,⟨c6,f6⟩,hX,-⟩:=hx1.out.set 0 false err
  replace hX:=hZ hX
  gi_wp2
  have r4:=hX.out.1.cell
  have r5:=hX.out.2.1.cell
  have r6:=hX.out.2.2.1.cell
  refine ⟨.tuple #[.int .i64 0,.bool false,.int .i64 err],by simp [results,Tryz.results29,go_sem,r4,r5,r6], ?_⟩
  exact ⟨((Fx.of_fr hfb).trans hX.out.2.2.2).toFr (fun k hk e=>by rcases e with e | e | e <;> omega),fun _=>rfl,fun h=>absurd h e9.out,fun h=>absurd h e9.out⟩
end Go.Proofs.YtiniigadkknboaaGreatDoor
