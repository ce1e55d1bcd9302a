/- Contracts and laws: VB. -/
import Derived.Test.YtcglmebcfeoedaaGreatDoorVA
import Derived.Test.YtcglmebcfeoedaaGreatDoorLaysGrow
import Derived.Laws.AppendOwnNone
import Derived.Deep.QuietTactic
import Derived.BigQuiet
import Derived.RangeFuncNested
import Derived.RangeFuncBound
import Derived.RangeFuncCalls
import Derived.RangeFuncLeaves
import Derived.Shelf.RegionOpen
import Derived.OwnWalkIn
import Derived.TacticsInMore
import Derived.LoopNIn
import Derived.LoopIn
import Derived.Shelf.SlSortCmp.Insertion
import Derived.Maps.AppendAt
import Derived.Laws.CopyOwn
import Derived.Laws.MakeOwn
import Derived.OwnWalk
import Derived.Deep.RegionHeld3
import Derived.Deep.RegionLaw
import Derived.Shelf.SlicesE.Clone
import Derived.Sort.LoopGhostIn
import Derived.Sort.QuietIn

set_option maxRecDepth 100000
set_option maxHeartbeats 4000000
namespace Go.Proofs.YtcglmebcfeoedaaGreatDoor
open Go.RowKit Go.Lib
def Ch:List (Value×Value)→List Value
 | []=>[]
 | x :: l=>x.1 :: x.2 :: Ch l
theorem Eb (l:List (Value×Value)):(Ch l).length=l.length * 2:=by
 induction l with
 | nil=>rfl
 | cons x l ih=>simp [Ch,ih]; omega
theorem Hy (l m:List (Value×Value)):Ch (l ++ m)=Ch l ++ Ch m:=by
 induction l with
 | nil=>rfl
 | cons x l ih=>simp [Ch,ih]
theorem Np:∀ (l:List (Value×Value)) (i:Nat) (x:Value×Value),l[i]?=some x→(Ch l)[i * 2]?=some x.1∧(Ch l)[i * 2+1]?=some x.2
 | [],i,x,h=>by simp at h
 | y :: l,0,x,h=>by simp at h; subst h; simp [Ch]
 | y :: l,i+1,x,h=>by
   have:=Np l i x (by simpa using h)
   have e:(i+1) * 2=i * 2+1+1:=by omega
   rw [e]
   simpa [Ch] using this
theorem JP:∀ (l:List (Value×Value)) (j:Nat) (u:Value),(Ch l)[j]?=some u→∃ i x,l[i]?=some x∧((j=i * 2∧u=x.1)∨(j=i * 2+1∧u=x.2))
 | [],j,u,h=>by simp [Ch] at h
 | y :: l,0,u,h=>by simp [Ch] at h; exact ⟨0,y,rfl,.inl ⟨rfl,h.symm⟩⟩
 | y :: l,1,u,h=>by simp [Ch] at h; exact ⟨0,y,rfl,.inr ⟨rfl,h.symm⟩⟩
 | y :: l,j+2,u,h=>by
   simp [Ch] at h
   obtain ⟨i,x,hx,h⟩:=JP l j u h
   refine ⟨i+1,x,by simpa using hx, ?_⟩
   rcases h with ⟨h1,h2⟩ | ⟨h1,h2⟩
   ·exact .inl ⟨by omega,h2⟩
   ·exact .inr ⟨by omega,h2⟩
theorem G3 {l:List (Value×Value)} (h:∀ z,z ∈ l→z.1.oneCell'=true∧z.2.oneCell'=true):∀ u,u ∈ Ch l→u.oneCell'=true:=fun u hu=>by
 obtain ⟨j,hj⟩:=AO hu
 obtain ⟨i,x,hx,h2⟩:=JP l j u hj
 have:=h x (Ae hx)
 rcases h2 with ⟨_,rfl⟩ | ⟨_,rfl⟩
 ·exact this.1
 ·exact this.2
theorem MA.cells {w:World} {b o:Nat} {xs:List (Value×Value)} (h:MA w (some ⟨b,o,none⟩) xs):∀ j u,(Ch xs)[j]?=some u→w.cell? ((⟨b,o,none⟩:Addr).add j)=some u:=fun j u hu=>by
 obtain ⟨i,x,hx,h2⟩:=JP xs j u hu
 have e:(⟨b,o,none⟩:Addr).add j=⟨b,o+j,none⟩:=by
  unfold Addr.add
  split
  ·rename_i e; rw [e]; rfl
  ·rfl
 rw [e]
 rcases h with h | ⟨b',o',ha,hb,hc⟩
 ·subst h; simp at hx
 ·injection ha with ha; injection ha with h3 h4
  subst h3; subst h4
  have:=hc i x hx
  rcases h2 with ⟨rfl,rfl⟩ | ⟨rfl,rfl⟩
  ·exact this.1
  ·rw [← Nat.add_assoc]; exact this.2
theorem MA.addr {w:World} {a:Option Addr} {xs:List (Value×Value)} (h:MA w a xs) (hp:0 < xs.length):∃ b o,a=some ⟨b,o,none⟩:=by
 rcases h with h | ⟨b,o,ha,_⟩
 ·subst h; simp at hp
 ·exact ⟨b,o,ha⟩
theorem D5 {w:World} {base:Nat} {e:TypeId} {g n m cap:Nat} {xs:List (Value×Value)} (h:w.ownsRow base e 2 (.slice (some ⟨g,0,none⟩) n cap) m (Ch xs)):MA w (some ⟨g,0,none⟩) xs∧n=m∧m=xs.length∧base≤g∧n≤cap∧g < w.heap.size:=by
 have h1:=h.1
 obtain ⟨a,b,c,d,f⟩:=Bf h
 refine ⟨.inr ⟨g,0,rfl,c,fun i x hx=>?_⟩,a,by rw [Eb] at h1; omega,b,d,c⟩
 have:=Np xs i x hx
 rw [Az]
 exact ⟨(f _ _ this.1).1,(f _ _ this.2).1⟩
theorem JK:(Tryz.prog.info? 46).map (fun i=>(i.zero,i.size,i.bytes))=some (some (.agg #[.string ⟨#[]⟩,.slice none 0 0]),2,40):=by kernel_rfl
def QJ (w:World) (xs:List (Value×Value)) (e:Ending) (w':World):Prop:=∃ g cp,e=.returned (.slice (some ⟨g,0,none⟩) xs.length cp)∧MA w' (some ⟨g,0,none⟩) xs∧w.heap.size≤g∧xs.length≤cp∧Fr w w'
theorem QO (p c:Nat) (a b:Option Addr) (ca cb:Nat) (xs ys:List (Value×Value)) (w:World) (_hp:p < w.heap.size) (hc1:w.cell? ⟨p,0,none⟩=some (.slice a xs.length ca)) (hc2:w.cell? ⟨p,1,none⟩=some (.slice b ys.length cb))
 (hx:MA w a xs) (hy:MA w b ys) (hnb:b=none→cb=0∧ys=[]) (ho1:∀ z,z ∈ xs→z.1.oneCell'=true∧z.2.oneCell'=true) (ho2:∀ z,z ∈ ys→z.1.oneCell'=true∧z.2.oneCell'=true) (hl:xs.length+ys.length≤1000000) (hpos:0 < xs.length) :
 Calls Tryz.prog 73 #[.slice (some ⟨p,0,none⟩) 2 c] w (QJ w (xs ++ ys)):=by
 obtain ⟨i0,hi,hz0,hz1,hz2⟩:=AQ JK
 obtain ⟨ab,ao,rfl⟩:=hx.addr hpos
 have hgrow:=fun W=>Any8.slices_Grow_grow Tryz.growSy i0 _ hi hz0 (by rw [hz1]; decide) none 0 0 (xs.length+ys.length) [] W (Ag _) (by omega) (by rw [hz2]; omega) (by omega) (by rw [hz1]; simp) (fun _=>rfl) (fun _ h=>by cases h)
 change ∀ W,Calls Tryz.prog 132 #[.slice none 0 0,.int .i64 ((xs.length+ys.length:Nat):Int)] W (fun e w'=>e=.returned (.slice (some ⟨W.heap.size,0,none⟩) 0 (grownCap W (0+(xs.length+ys.length)) 0 46)) ∧
  w'=W.drew.alloc (.cells (([]:List Value).toArray ++ Builtin.zeroCells (Value.agg #[.string ⟨#[]⟩,.slice none 0 0]).cells (0+(xs.length+ys.length) - 0) ++ Builtin.zeroCells (Value.agg #[.string ⟨#[]⟩,.slice none 0 0]).cells (grownCap W (0+(xs.length+ys.length)) 0 46 - (0+(xs.length+ys.length)))) 46)) at hgrow
 obtain ⟨n,hn⟩:∃ n,n=xs.length:=⟨_,rfl⟩
 obtain ⟨m,hm⟩:∃ m,m=ys.length:=⟨_,rfl⟩
 have hlen:(xs ++ ys).length=n+m:=by rw [Ar,hn,hm]
 have hown0:∀ W:World,W.heap.size=w.heap.size→(W.alloc (.cells (([]:List Value).toArray ++ Builtin.zeroCells (Value.agg #[.string ⟨#[]⟩,.slice none 0 0]).cells (0+(n+m) - 0) ++ Builtin.zeroCells (Value.agg #[.string ⟨#[]⟩,.slice none 0 0]).cells (grownCap w (0+(n+m)) 0 46 - (0+(n+m)))) 46)).ownsRow w.heap.size 46 2 (.slice (some ⟨w.heap.size,0,none⟩) 0 (grownCap w (0+(n+m)) 0 46)) 0 []:=fun W hW=>by
  have hge:=grownCap_ge w (0+(n+m)) 0 46
  have hle:=grownCap_le_maxLen w (0+(n+m)) 0 46 (by unfold maxLen; omega)
  have hnew:=CG W (.cells (([]:List Value).toArray ++ Builtin.zeroCells (Value.agg #[.string ⟨#[]⟩,.slice none 0 0]).cells (0+(n+m) - 0) ++ Builtin.zeroCells (Value.agg #[.string ⟨#[]⟩,.slice none 0 0]).cells (grownCap w (0+(n+m)) 0 46 - (0+(n+m)))) 46)
  rw [hW] at hnew
  refine ⟨rfl,.inr ⟨w.heap.size,_,_,rfl,Ag _,hnew,Bm _,hle, ?_,by simp⟩⟩
  rw [Tg,Tg,XV,XV]
  generalize grownCap w (0+(n+m)) 0 46=C at *
  show ([]:List Value).toArray.size+(0+(n+m) - 0) * 2+(C - (0+(n+m))) * 2=C * 2
  have e0:([]:List Value).toArray.size=0:=rfl
  rw [e0]
  omega
 rw [← hn,← hm] at hl
 rw [← hn] at hpos hc1
 rw [← hm] at hc2
 rw [← hn,← hm] at hgrow
 have hgrow1:=hZ (show ∀ W,W.heap.size=w.heap.size→W.tape=w.tape→W.drawn=w.drawn→Calls Tryz.prog 132 #[.slice none 0 0,.int .i64 ((n+m:Nat):Int)] W (fun e w'=>∃ C,e=.returned (.slice (some ⟨w.heap.size,0,none⟩) 0 C)∧Fr W w'∧w'.ownsRow w.heap.size 46 2 (.slice (some ⟨w.heap.size,0,none⟩) 0 C) 0 []) from fun W h1 h2 h3=>by
  have hC:grownCap W (0+(n+m)) 0 46=grownCap w (0+(n+m)) 0 46:=by unfold grownCap; rw [h2,h3]
  have hw:=hown0 W.drew h1
  have h:=hgrow W
  rw [hC,h1] at h
  refine h.mono ?_
  rintro e w' ⟨rfl,rfl⟩
  exact ⟨_,rfl,(Fr.refl W).drew.alloc _,hw⟩)
 have hx1:=hZ hx
 have hy1:=hZ hy
 have hn1:=hZ hn
 have hm1:=hZ hm
 have hlen1:=hZ hlen
 have ho1:=hZ ho1
 have ho2:=hZ ho2
 have hnb:=hZ hnb
 rename_i q1 q2 q3
 clear q1 q2 q3 hx hy hn hm hlen hgrow hown0
 cases b with
 | none=>
   obtain ⟨rfl,rfl⟩:=hnb.out rfl
   obtain rfl:m=0:=hm1.out
   have hg9:=hgrow1.out
   simp only [C9] at hg9
   replace hgrow1:=hZ hg9
   clear hg9
   go_enter Tryz.func73,Tryz.ntmps73
   go_wp2_with fail
   refine DE 3 ?_
   rw [Bh]
   go_wp2_with fail
   rw [Bh]
   go_wp2_with fail
   rw [Bh]
   go_wp2_with fail
   skip
   refine (hgrow1.out _ rfl rfl rfl).mono ?_
   rintro e w1 ⟨C,rfl,hf1,hown1⟩
   have hcA:=hf1.keep hc1
   have hcB:=hf1.keep hc2
   go_wp2_with fail
   refine DE 3 ?_
   rw [Bh]
   have hxc:=hZ ((hx1.out.fr hf1).cells)
   have hfl1:=hZ (Eb xs)
   have hs1:=hf1.size
   go_wp2_with (at_builtin; refine At _ rfl _ _ 29 (by rfl) w.heap.size 46 i0 _ 2 40 Tryz.underlying29 hi hz0 hz1 hz2 rfl (by decide) _ 0 _ (by rfl) hown1 ⟨ab,ao,none⟩ n ca (Ch xs) (by rfl) (by rw [hfl1.out,← hn1.out]) hxc.out (G3 ho1.out) hpos (by unfold maxLen; omega) (by omega) (by omega) w1.heap.size rfl ?_; intro g2 cap2 w2 hown2 hgr2 hat2 hlt2)
   have hg2:w.heap.size≤g2:=by
    have:=(Bf hown2).2.1
    exact this
   have hf2:Fr w w2:=hf1.grown hgr2 (fun k e=>by simp [Value.ownBlock] at e; omega)
   replace hcA:=hf2.keep hc1
   replace hcB:=hf2.keep hc2
   rw [FX,Az] at hown2
   clear hgr2 hat2 hown1 hgrow1 hxc
   go_wp2_with fail
   rw [Bh]
   go_wp2_with (at_builtin; refine wpList_append_own_none rfl _ _ 29 (by rfl) w.heap.size 46 i0 2 Tryz.underlying29 hi _ n (Ch xs) (by rfl) hown2 (by rfl) ?_)
   obtain ⟨hp2,-,-,-,hcap2,-⟩:=D5 hown2
   have hfin:=hZ (show QJ w (xs ++ []) (.returned (.slice (some ⟨g2,0,none⟩) n cap2)) w2 from ⟨g2,cap2,by rw [hlen1.out]; rfl,by rw [BJ]; exact hp2,hg2,by rw [hlen1.out]; exact hcap2,hf2⟩)
   go_wp2_with fail
   rw [Bh]
   go_wp2_with fail
   go_ret
   exact hfin.out
 | some bb=>
   have hyc:∀ j u,(Ch ys)[j]?=some u→w.cell? (bb.add j)=some u:=by
    by_cases h0:ys.length=0
    ·have:ys=[]:=AD h0
     intro j u hu; rw [this] at hu; simp [Ch] at hu
    ·obtain ⟨b1,o1,e⟩:=hy1.out.addr (by omega)
     injection e with e
     subst e
     exact hy1.out.cells
   have hfl2:=hZ (Eb ys)
   replace hyc:=hZ hyc
   go_enter Tryz.func73,Tryz.ntmps73
   go_wp2_with fail
   refine DE 3 ?_
   rw [Bh]
   go_wp2_with fail
   rw [Bh]
   go_wp2_with fail
   rw [Bh]
   go_wp2_with fail
   rw [show ((n:Int)+(m:Int))=((n+m:Nat):Int) by omega]
   refine (hgrow1.out _ rfl rfl rfl).mono ?_
   rintro e w1 ⟨C,rfl,hf1,hown1⟩
   have hcA:=hf1.keep hc1
   have hcB:=hf1.keep hc2
   go_wp2_with fail
   refine DE 3 ?_
   rw [Bh]
   have hxc:=hZ ((hx1.out.fr hf1).cells)
   have hfl1:=hZ (Eb xs)
   have hs1:=hf1.size
   go_wp2_with (at_builtin; refine At _ rfl _ _ 29 (by rfl) w.heap.size 46 i0 _ 2 40 Tryz.underlying29 hi hz0 hz1 hz2 rfl (by decide) _ 0 _ (by rfl) hown1 ⟨ab,ao,none⟩ n ca (Ch xs) (by rfl) (by rw [hfl1.out,← hn1.out]) hxc.out (G3 ho1.out) hpos (by unfold maxLen; omega) (by omega) (by omega) w1.heap.size rfl ?_; intro g2 cap2 w2 hown2 hgr2 hat2 hlt2)
   have hg2:w.heap.size≤g2:=by
    have:=(Bf hown2).2.1
    exact this
   have hf2:Fr w w2:=hf1.grown hgr2 (fun k e=>by simp [Value.ownBlock] at e; omega)
   replace hcA:=hf2.keep hc1
   replace hcB:=hf2.keep hc2
   rw [FX,Az] at hown2
   clear hgr2 hat2 hown1 hgrow1 hxc
   go_wp2_with fail
   rw [Bh]
   have hyc2:Hid (∀ j u,(Ch ys)[j]?=some u→w2.cell? (bb.add j)=some u):=hZ (fun j u hu=>hf2.keep (hyc.out j u hu))
   have hs2:=hf2.size
   go_wp2_with (at_builtin; refine wpList_append_own _ rfl _ _ 29 (by rfl) w.heap.size 46 i0 _ 2 40 Tryz.underlying29 hi hz0 hz1 hz2 rfl (by decide) _ n _ (by rfl) hown2 bb m cb (Ch ys) (by rfl) (by rw [hfl2.out,← hm1.out]) hyc2.out (G3 ho2.out) (by unfold maxLen; omega) (by omega) hs2 ?_; intro v3 w3 hown3 hgr3 hv3)
   obtain ⟨g3,cap3,rfl⟩:=Dh hown3 (by omega)
   rw [← Hy] at hown3
   obtain ⟨hp3,-,-,hg3,hcap3,-⟩:=D5 hown3
   have hf3:Fr w w3:=hf2.grown hgr3 (fun k e=>by simp [Value.ownBlock] at e; omega)
   have hfin:=hZ (show QJ w (xs ++ ys) (.returned (.slice (some ⟨g3,0,none⟩) ((n+m:Nat):Nat) cap3)) w3 from ⟨g3,cap3,by rw [hlen1.out],hp3,hg3,by rw [hlen1.out]; exact hcap3,hf3⟩)
   clear hv3 hgr3 hown3 hown2
   go_wp2_with fail
   rw [Bh]
   go_wp2_with fail
   go_ret
   exact hfin.out
structure Sy where
 nm:ByteArray
 row:List Int
 ra:Option Addr
 rc:Nat
def Sy.enc (x:Sy):Value×Value:=(.string x.nm,.slice x.ra x.row.length x.rc)
theorem Sy.one (l:List Sy):∀ z,z ∈ l.map Sy.enc→z.1.oneCell'=true∧z.2.oneCell'=true:=fun z hz=>by
 obtain ⟨x,-,rfl⟩:=Bg.1 hz
 exact ⟨rfl,rfl⟩
def Gn (w:World) (a:Option Addr) (xs:List Sy):Prop:=MA w a (xs.map Sy.enc)∧∀ x,x ∈ xs→El w iv x.ra x.row
theorem Gn.fr {w w':World} {a:Option Addr} {xs:List Sy} (h:Gn w a xs) (k:Fr w w'):Gn w' a xs:=⟨h.1.fr k,fun x hx=>(h.2 x hx).fr k⟩
theorem Gn.at {w:World} {a:Option Addr} {xs:List Sy} (h:Gn w a xs) {i:Nat} (hi:i < xs.length) :
 ∃ b o x,a=some ⟨b,o,none⟩∧b < w.heap.size∧xs[i]?=some x∧w.cell? ⟨b,o+i * 2,none⟩=some (.string x.nm)∧w.cell? ⟨b,o+i * 2+1,none⟩=some (.slice x.ra x.row.length x.rc)∧El w iv x.ra x.row:=by
 obtain ⟨b,o,z,ha,hb,hz,hc,hc2⟩:=h.1.at (i:=i) (by rw [Am]; exact hi)
 rw [Ao,Ab hi] at hz
 injection hz with hz
 subst hz
 exact ⟨b,o,xs[i],ha,hb,Ab hi,hc,hc2,h.2 _ (A8 hi)⟩
structure DS (w:World) (aN aA:Option Addr) (cA:Nat) (N A:List Sy):Prop where
 noms:Gn w aN N
 accs:Gn w aA A
 nil:aA=none→cA=0∧A=[]
theorem DS.fr {w w':World} {aN aA:Option Addr} {cA:Nat} {N A:List Sy} (h:DS w aN aA cA N A) (k:Fr w w'):DS w' aN aA cA N A:=⟨h.1.fr k,h.2.fr k,h.3⟩

end Go.Proofs.YtcglmebcfeoedaaGreatDoor
namespace Go.Proofs.YtcglmebcfeoedaaGreatDoor

end Go.Proofs.YtcglmebcfeoedaaGreatDoor
namespace Go.Proofs.YtcglmebcfeoedaaGreatDoor
open Go.Sort
def cx:List Int→Int
 | []=>0
 | x :: l=>(x.natAbs:Int)+cx l

end Go.Proofs.YtcglmebcfeoedaaGreatDoor
namespace Go.Proofs.YtcglmebcfeoedaaGreatDoor
open Go.RowKit Go.Lib
attribute [local go_sem ↓] AA AB
theorem Je:(Tryz.prog.info? 42).map (fun i=>(i.zero,i.size,i.bytes))=some (some (.string ⟨#[]⟩),1,16):=by kernel_rfl
theorem XB:(Tryz.prog.info? 40).map (fun i=>(i.zero,i.size,i.bytes))=some (some (.slice none 0 0),1,24):=by kernel_rfl
def BT (w:World) (a:Option Addr) (m:List (List Int)):Prop :=
 m=[]∨∃ b o,a=some ⟨b,o,none⟩∧b < w.heap.size∧∀ (i:Nat) (xs:List Int),m[i]?=some xs→∃ a' c',w.cell? ⟨b,o+i,none⟩=some (.slice a' xs.length c')∧El w iv a' xs
theorem BT.fr {w w':World} {a:Option Addr} {m:List (List Int)} (h:BT w a m) (k:Fr w w'):BT w' a m:=by
 rcases h with h | ⟨b,o,ha,hb,hc⟩
 ·exact .inl h
 ·refine .inr ⟨b,o,ha,An hb k.size,fun i xs hx=>?_⟩
  obtain ⟨a',c',h1,h2⟩:=hc i xs hx
  exact ⟨a',c',k.keep h1,h2.fr k⟩
theorem BT.at {w:World} {a:Option Addr} {m:List (List Int)} (h:BT w a m) {i:Nat} (hi:i < m.length) :
 ∃ b o a' c',a=some ⟨b,o,none⟩∧w.cell? ⟨b,o+i,none⟩=some (.slice a' (m[i]).length c')∧El w iv a' m[i]:=by
 rcases h with h | ⟨b,o,ha,hb,hc⟩
 ·subst h; simp at hi
 ·obtain ⟨a',c',h1,h2⟩:=hc i _ (Ab hi)
  exact ⟨b,o,a',c',ha,h1,h2⟩
theorem Bx {α:Type} {xs:List α} {k:Nat} {x:α} (h:xs[k]?=some x):xs.take (k+1)=xs.take k ++ [x]:=by
 rw [D2,h]; rfl
def WA (w:World) (E:TypeId) (m:List (List Int)) (e:Ending) (w':World):Prop:=∃ v hs,e=.returned v∧GG w' w.heap.size E v hs m∧Hid (∀ h,h ∈ hs→w.heap.size≤h.1)∧Fr w w'
def Vb (w:World) (E:TypeId) (m:List (List Int)) (e:Ending) (w':World):Prop:=∃ v hs,e=.returned v∧GG w' w.heap.size E v hs m∧FM w' hs m∧Hid (∀ h,h ∈ hs→w.heap.size≤h.1)∧Fr w w'
theorem TK:(Tryz.prog.info? 42).map (·.size)=some 1:=by kernel_rfl
theorem RT (n:Nat) (hn:n≤1000000) (w:World):Calls Tryz.prog 44 #[.int .u64 1,.int .u64 n] w fun e w'=>e=.returned (.tuple #[.int .u64 0,.int .u64 n])∧w=w':=by
 have h:=Tryz.bits_Mul 1 n (by decide) (by omega) w
 have e1:1 * n / 18446744073709551616=0:=by omega
 have e2:1 * n % 18446744073709551616=n:=by omega
 rw [e1,e2] at h
 exact h.mono fun e w' ⟨he,hw⟩=>⟨he,hw.symm⟩
theorem IV {w:World} {base:Nat} {e:TypeId} {g n:Nat} {xs:List Value} (h:w.ownsRow base e 1 (.slice (some ⟨g,0,none⟩) n n) n xs):w.heap[g]?=some (.cells xs.toArray e (0,0))∧base≤g∧xs.length=n:=by
 obtain ⟨h1,h2⟩:=h
 rcases h2 with ⟨h2,_⟩ | ⟨g',cap',cur,hv,hg,hh,hn,hc,hs,ht⟩
 ·cases h2
 ·injection hv with hv1 hv2 hv3
  injection hv1 with hv1; injection hv1 with hv1
  subst hv1; subst hv3
  refine ⟨?_,hg,by simpa using h1⟩
  rw [hh,← ht,Ak (by simp [hs])]
theorem ME {w:World} {base:Nat} {e:TypeId} {g n:Nat} {xs:List Value} (h:w.heap[g]?=some (.cells xs.toArray e (0,0))) (hb:base≤g) (hl:xs.length=n) (hm:n≤maxLen):w.ownsRow base e 1 (.slice (some ⟨g,0,none⟩) n n) n xs :=
 ⟨by simpa using hl,.inr ⟨g,n,xs.toArray,rfl,hb,h,Ag _,hm,by simpa using hl,by rw [← hl]; simp⟩⟩
theorem Lw {α:Type} (cur:List α) (z:α) (k m n:Nat) (hl:cur.length=n) (hk:cur.take k=List.replicate k z) (hm:k+m≤n):(splice cur k (List.replicate m z)).length=n∧(splice cur k (List.replicate m z)).take (k+m)=List.replicate (k+m) z:=by
 refine ⟨by rw [length_splice _ _ _ (by simp; omega),hl], ?_⟩
 unfold splice
 have h1:(cur.take k).length=k:=by rw [AG]; omega
 rw [hk,Vp,AH,CO,Ak (by simp),Vp,AH,ED,Fk,BJ,Ak (by simp),Tk]
theorem Xr {w:World} {b o:Nat} {v:Value} (h:w.cell? ⟨b,o,none⟩=some v):∀ j u,[v][j]?=some u→w.cell? ((⟨b,o,none⟩:Addr).add j)=some u:=fun j u hu=>by
 cases j with
 | zero=>simp at hu; subst hu; simpa [Addr.add] using h
 | succ j=>simp at hu
theorem Xk {w:World} {g k m:Nat} {cur:List Value} {v:Value} {e:TypeId} (h:w.heap[g]?=some (.cells cur.toArray e (0,0))) (ht:cur.take k=List.replicate k v):∀ j u,(List.replicate (min k m) v)[j]?=some u→w.cell? ((⟨g,0,none⟩:Addr).add j)=some u:=fun j u hu=>by
 rw [Cq] at hu
 split at hu
 ·injection hu with hu; subst hu
  have hj:cur[j]?=some v:=by
   have:(cur.take k)[j]?=some v:=by rw [ht,Cq,Aj (by omega)]
   rw [BN] at this
   split at this
   ·exact this
   ·simp at this
  have e1:((⟨g,0,none⟩:Addr).add j)=⟨g,j,none⟩:=by unfold Addr.add; split <;> simp_all
  rw [e1]
  simp [World.cell?,h,hj]
 ·simp at hu
theorem VL (m:Nat) (z:Int):∀ v ∈ List.replicate m (sv z),v.oneCell'=true:=fun v h=>by rw [CI h]; rfl
def Wq (w:World) (n:Nat) (xs:List Value) (e:Ending) (w':World):Prop:=∃ g c,e=.returned (.slice (some ⟨g,0,none⟩) n c)∧Fr w w'∧w'.ownsRow w.heap.size 42 1 (.slice (some ⟨g,0,none⟩) n c) n xs
theorem QH (b o cp n:Nat) (z:Int) (w:World) (hn1:1≤n) (hn2:n≤1000000) (hc:w.cell? ⟨b,o,none⟩=some (sv z)) :
 Calls Tryz.prog 10 #[.slice (some ⟨b,o,none⟩) 1 cp,.int .i64 n] w (Wq w n (List.replicate n (sv z))):=by
 obtain ⟨i0,hi,hz0,hz1,hz2⟩:=AQ Je
 go_enter Tryz.func10,Tryz.ntmps10
 go_wp2_with fail
 refine (RT n hn2 _).mono ?_; rintro e w' ⟨rfl,rfl⟩
 go_wp2_with (first | (at_make; refine Dz _ rfl _ _ 40 rfl w.heap.size 42 i0 _ 1 Tryz.underlying40 hi hz0 hz1 _ _ _ _ n (by rfl) (by rfl) (by omega) (by omega) (by rw [hz2]; omega) (by unfold maxLen; omega) (Ag _) ?_; intro w2 hown2 hgr2; obtain ⟨hw2,-,hlen2⟩:=IV hown2; have hf2:=(Fr.refl w).grown hgr2 (fun k e=>by cases e); generalize (madeCells (Value.cells (Value.string ⟨#[]⟩)) (n * 1)).toList=L at hown2 hw2 hlen2; replace hw2:=hZ hw2; replace hlen2:=hZ hlen2; have hc2:=hf2.keep hc; have hfB:Below w.heap.size w w2:=hf2) | ((with_reducible refine wpList_copy_splice (o:=⟨some 33,_,_,_,_,_⟩) rfl (.tmp 31) (.tmp 32) 40 40 ?ho 42 Tryz.underlying40 TK (some ⟨w.heap.size,0,none⟩) (some ⟨b,o,none⟩) n n 1 cp ?hd ?hs w.heap.size 0 L 42 hw2.out [sv z] ?hn ?hpos ?hfit ?h1 w.heap.size w hfB (Ag _) ?_); (try case ho=>rfl); (try case hd=>rfl); (try case hs=>rfl); (case hn=>exact (Dj hn1).symm); (case hpos=>exact fun _=>⟨rfl,_,rfl,Xr hc2⟩); (case hfit=>have:=hlen2.out; simp; omega); (case h1=>simp [Value.oneCell']); intro w3 hw3 hf3))
 have hst:=Lw L (sv z) 0 1 n hlen2.out (by simp) (by omega)
 replace hst:=hZ hst
 clear hown2 hw2 hc2 hfB hgr2 hf2
 go_loopg [8] n (fun m s8 wr=>∃ (k:Nat) (cur:List Value),s8=.int .i64 k∧1≤k∧k≤n∧n - k≤m∧Hid (wr.heap[w.heap.size]?=some (.cells cur.toArray 42 (0,0)))∧Hid (cur.length=n)∧Hid (cur.take k=List.replicate k (sv z))∧Fr w wr)
 case atStart=>exact ⟨1,splice L 0 [sv z],rfl,by omega,by omega,by omega,hw3,hst.out.1,hst.out.2,hf3⟩
 case round=>
  clear hw3 hf3 hst
  obtain ⟨k,cur,rfl,hk1,hk2,hm,hw,hlc,htk,hf⟩:=hrel
  by_cases hlt:k < n
  ·have z0:(0:Int)≤(k:Int):=Af _
   have z1:(k:Int)≤(n:Int):=by omega
   have zne:¬ n=k:=by omega
   obtain ⟨c,hce⟩:∃ c,c=min k (n - k):=⟨_,rfl⟩
   have hc1:1≤c:=by omega
   have hc2:k+c≤n:=by omega
   replace hce:=hZ hce
   go_wp2_with fail
   have hBw:Below w.heap.size w wr.drew:=hf.drew
   have hww:wr.drew.heap[w.heap.size]?=some (.cells cur.toArray 42 (0,0)):=hw.out
   have hcs:∀ j u,(List.replicate c (sv z))[j]?=some u→wr.drew.cell? ((⟨w.heap.size,0,none⟩:Addr).add j)=some u:=by rw [hce.out]; exact Xk hww htk.out
   replace hww:=hZ hww
   replace hcs:=hZ hcs
   go_region_held3 (fun _=>True) (exact trivial) ((refine step_copy_splice (by rfl) (.tmp 41) (.tmp 44) 40 40 (by rfl) 42 Tryz.underlying40 TK (some ⟨w.heap.size,k,none⟩) (some ⟨w.heap.size,0,none⟩) (n - k) (n - k) k n (by rfl) (by rfl) w.heap.size k cur 42 hww.out (List.replicate c (sv z)) (by rw [AH]; exact hce.out) (fun _=>⟨rfl,_,rfl,hcs.out⟩) (by have:=hlc.out; simp; omega) (VL _ _) w.heap.size w hBw (Ag _) ?_; intro w4 hw4 hf4))
   have hsp:=Lw cur (sv z) k c n hlc.out htk.out hc2
   go_wp2_with fail
   go_roundg (gk - 1)
   case measure=>omega
   case rel=>exact ⟨k+c,splice cur k (List.replicate c (sv z)),by simp; exact Al _ (by omega),by omega,by omega,by omega,hw4,hsp.1,hsp.2,hf4⟩
  ·have hd:decide (k < n)=false:=Aa hlt
   obtain rfl:k=n:=by omega
   have hcur:cur=List.replicate k (sv z):=by have:=htk.out; rw [Ak (by rw [hlc.out]; omega)] at this; exact this
   replace hcur:=hZ hcur
   go_wp2_with fail
   go_ret
   exact ⟨_,_,rfl,hf,by have h:=hw.out; rw [hcur.out] at h; exact ME h (Ag _) (by simp) (by unfold maxLen; omega)⟩

theorem FJ.el {w:World} {b o:Nat} {xs:List Int} (h:FJ w b o xs):El w sv (some ⟨b,o,none⟩) xs :=
 .inr ⟨b,o,rfl,h.2.1,fun i x hx=>(h.2.2 i x hx).1⟩
def Gp (w:World) (b o:Nat) (xs:List Int):Prop :=
 gN≤b∧b < w.heap.size∧∀ j x,xs[j]?=some x→w.cell? ⟨b,o+j,none⟩=some (iv x)∧w.frozen? ⟨b,o+j,none⟩=false
theorem Gp.fx {p:Nat→Prop} {w w':World} {b o:Nat} {xs:List Int} (h:Gp w b o xs) (k:Fx p w w') (hp:¬ p b):Gp w' b o xs :=
 ⟨h.1,An h.2.1 k.size,fun j x hx=>by rw [k.cell h.2.1 hp,k.frozen h.2.1 hp]; exact h.2.2 j x hx⟩
theorem Gp.fr {w w':World} {b o:Nat} {xs:List Int} (h:Gp w b o xs) (k:Fr w w'):Gp w' b o xs :=
 h.fx (p:=fun _=>False) (Fx.of_fr k) (fun e=>e)
theorem Gp.el {w:World} {b o:Nat} {xs:List Int} (h:Gp w b o xs):El w iv (some ⟨b,o,none⟩) xs :=
 .inr ⟨b,o,rfl,h.2.1,fun i x hx=>(h.2.2 i x hx).1⟩
theorem Cr {w:World} {base:Nat} {e:TypeId} {g n m cap:Nat} {xs:List Int} (hb:gN≤base) (h:w.ownsRow base e 1 (.slice (some ⟨g,0,none⟩) n cap) m (xs.map iv)):Gp w g 0 xs∧n=m∧m=xs.length∧base≤g∧n≤cap:=by
 have h1:=h.1
 obtain ⟨a,b,c,d,f⟩:=Bf h
 refine ⟨⟨by omega,c,fun j x hx=>?_⟩,a,by simpa using h1.symm,b,d⟩
 have:=f j (iv x) (by rw [Ao,hx]; rfl)
 simpa using this
structure GI (w:World) (base:Nat) (E:TypeId) (v:Value) (hs:List (Nat×Nat×Nat)) (g:List (List Int)):Prop where
 gbase:gN≤base
 len:hs.length=g.length
 own:w.ownsRow base E 1 v g.length (LT hs g)
 row:∀ (i:Nat) (h:Nat×Nat×Nat) (xs:List Int),hs[i]?=some h→g[i]?=some xs→Gp w h.1 h.2.1 xs∧v.ownBlock≠some h.1
 apart:∀ (i j:Nat) (hi hj:Nat×Nat×Nat),hs[i]?=some hi→hs[j]?=some hj→i≠j→hi.1≠hj.1
theorem GI.nil (w:World) (base:Nat) (E:TypeId) (h:gN≤base):GI w base E (.slice none 0 0) [] [] :=
 ⟨h,rfl,A6 _ _ _ _,fun i h xs h1=>by simp at h1,fun i j hi hj h1=>by simp at h1⟩
theorem GI.fr {w w':World} {base:Nat} {E:TypeId} {v:Value} {hs:List (Nat×Nat×Nat)} {g:List (List Int)} (h:GI w base E v hs g) (k:Fr w w'):GI w' base E v hs g :=
 ⟨h.gbase,h.len,Ba h.own k,fun i hd xs h1 h2=>⟨(h.row i hd xs h1 h2).1.fr k,(h.row i hd xs h1 h2).2⟩,h.apart⟩
theorem GI.lt {w:World} {base:Nat} {E:TypeId} {v:Value} {hs:List (Nat×Nat×Nat)} {g:List (List Int)} (h:GI w base E v hs g):∀ hd,hd ∈ hs→hd.1 < w.heap.size:=fun hd hm=>by
 obtain ⟨i,hi⟩:=AO hm
 have hl:i < g.length:=by rw [← h.len]; exact (Ah.1 hi).1
 exact (h.row i hd _ hi (Ab hl)).1.2.1
theorem GI.push {w w':World} {base:Nat} {E:TypeId} {v:Value} {hs:List (Nat×Nat×Nat)} {g:List (List Int)} (h:GI w base E v hs g) {hd:Nat×Nat×Nat} {xs:List Int} (ho:Gp w hd.1 hd.2.1 xs)
 (hne:∀ h',h' ∈ hs→h'.1≠hd.1) (hv:v.ownBlock≠some hd.1) {gb cap:Nat} (hown:w'.ownsRow base E 1 (.slice (some ⟨gb,0,none⟩) (g.length+1) cap) (g.length+1) (LT hs g ++ [Nn hd xs]))
 (hg:w.grownBy w' v.ownBlock) (hat:v.ownBlock=some gb∨w.heap.size≤gb):GI w' base E (.slice (some ⟨gb,0,none⟩) (g.length+1) cap) (hs ++ [hd]) (g ++ [xs]):=by
 have hfx:=Fx.of_grown hg
 have hrow:∀ (i:Nat) (h0:Nat×Nat×Nat) (ys:List Int),hs[i]?=some h0→g[i]?=some ys→Gp w' h0.1 h0.2.1 ys∧gb≠h0.1:=fun i h0 ys h1 h2=>by
  obtain ⟨a,b⟩:=h.row i h0 ys h1 h2
  refine ⟨a.fx hfx (fun e=>b e), ?_⟩
  rcases hat with e | e
  ·intro e2; rw [e2] at e; exact b e
  ·have:=a.2.1; omega
 refine ⟨h.gbase,by simp [h.len], ?_,fun i h0 ys h1 h2=>?_,fun i j hi hj h1 h2 hij=>?_⟩
 ·rw [Nm _ _ _ _ h.len]; simpa using hown
 ·by_cases hi:i < g.length
  ·rw [A0 (by rw [h.len]; exact hi)] at h1
   rw [A0 hi] at h2
   obtain ⟨a,b⟩:=hrow i h0 ys h1 h2
   exact ⟨a,fun e=>by injection e with e; exact b e⟩
  ·rw [AR (by omega)] at h2
   rw [AR (by rw [h.len]; omega)] at h1
   rw [Cp] at h1 h2
   split at h1
   ·split at h2
    ·injection h1 with h1; injection h2 with h2; subst h1; subst h2
     refine ⟨ho.fx hfx (fun e=>hv e),fun e=>?_⟩
     injection e with e
     rcases hat with e2 | e2
     ·have e3:gb=hd.1:=e
      rw [e3] at e2; exact hv e2
     ·have:=ho.2.1
      have e3:gb=hd.1:=e
      omega
    ·simp at h2
   ·simp at h1
 ·have key:∀ (i:Nat) (h0:Nat×Nat×Nat),(hs ++ [hd])[i]?=some h0→(i < hs.length∧hs[i]?=some h0)∨(i=hs.length∧h0=hd):=fun i h0 h=>by
   by_cases hi:i < hs.length
   ·rw [A0 hi] at h; exact .inl ⟨hi,h⟩
   ·rw [AR (by omega),Cp] at h
    split at h
    ·injection h with h; exact .inr ⟨by omega,h.symm⟩
    ·simp at h
  rcases key i hi h1 with ⟨a1,a2⟩ | ⟨a1,a2⟩ <;> rcases key j hj h2 with ⟨b1,b2⟩ | ⟨b1,b2⟩
  ·exact h.apart i j _ _ a2 b2 hij
  ·subst b2; exact hne _ (Ae a2)
  ·subst a2; exact (hne _ (Ae b2)).symm
  ·omega
theorem GI.pushN {w w':World} {base:Nat} {E:TypeId} {v u:Value} {hs:List (Nat×Nat×Nat)} {g:List (List Int)} (h:GI w base E v hs g) {hd:Nat×Nat×Nat} {xs:List Int} (ho:Gp w hd.1 hd.2.1 xs)
 (hne:∀ h',h' ∈ hs→h'.1≠hd.1) (hv:v.ownBlock≠some hd.1) {gb cap n:Nat} (hn:g.length=n) (hu:u=Nn hd xs) (hown:w'.ownsRow base E 1 (.slice (some ⟨gb,0,none⟩) (n+1) cap) (n+1) (LT hs g ++ [u]))
 (hg:w.grownBy w' v.ownBlock) (hat:v.ownBlock=some gb∨w.heap.size≤gb):GI w' base E (.slice (some ⟨gb,0,none⟩) (n+1) cap) (hs ++ [hd]) (g ++ [xs]):=by
 subst hn; subst hu
 exact h.push ho hne hv hown hg hat
theorem Ft {w:World} {base:Nat} {e:TypeId} {size:Nat} {v:Value} {n:Nat} {xs:List Value} (h:w.ownsRow base e size v n xs):∃ a c,v=.slice a n c∧(n=0∨∃ g,a=some ⟨g,0,none⟩):=by
 obtain ⟨_,h2⟩:=h
 rcases h2 with ⟨hv,h2⟩ | ⟨g,cap,_,hv,_⟩
 ·subst h2; exact ⟨none,0,hv,.inl rfl⟩
 ·exact ⟨_,cap,hv,.inr ⟨g,rfl⟩⟩
theorem GI.fx {w w':World} {p:Nat→Prop} {base:Nat} {E:TypeId} {v:Value} {hs:List (Nat×Nat×Nat)} {g:List (List Int)} (h:GI w base E v hs g) (k:Fx p w w') (hp:∀ b,v.ownBlock=some b→¬ p b) (hr:∀ hd,hd ∈ hs→¬ p hd.1):GI w' base E v hs g :=
 ⟨h.gbase,h.len,BM h.own k hp,fun i hd xs h1 h2=>⟨(h.row i hd xs h1 h2).1.fx k (hr hd (Ae h1)),(h.row i hd xs h1 h2).2⟩,h.apart⟩
theorem GI.mat {w:World} {base n:Nat} {E:TypeId} {a:Option Addr} {c:Nat} {hs:List (Nat×Nat×Nat)} {g:List (List Int)} (h:GI w base E (.slice a n c) hs g):BT w a g:=by
 by_cases h0:g.length=0
 ·exact .inl (AD h0)
 ·obtain ⟨gb,cp,hv⟩:=Dh h.own (by omega)
  injection hv with hv1 hv2 hv3
  subst hv1; subst hv2; subst hv3
  obtain ⟨p1,p2,p3,p4,p5⟩:=Bf h.own
  refine .inr ⟨gb,0,rfl,p3,fun i xs hx=>?_⟩
  have hl:i < hs.length:=by rw [h.len]; exact (Ah.1 hx).1
  have hi:=Ab hl
  have hc:=p5 i (Nn hs[i] xs) (by unfold LT; rw [DJ,hi,hx])
  exact ⟨_,_,by rw [Az]; exact hc.1,(h.row i _ _ hi hx).1.el⟩
theorem DQ:(Tryz.prog.info? 3).map (fun i=>(i.zero,i.size,i.bytes))=some (some (.int .i64 0),1,8):=by kernel_rfl
theorem NV:(Tryz.prog.info? 44).map (fun i=>(i.zero,i.size,i.bytes))=some (some (.slice none 0 0),1,24):=by kernel_rfl
theorem Jd {w:World} {base:Nat} {e:TypeId} {size:Nat} {v:Value} {n:Nat} {xs:List Value} (h:w.ownsRow base e size v n xs) (hn:v≠.slice none 0 0):∃ g cap,v=.slice (some ⟨g,0,none⟩) n cap:=by
 obtain ⟨_,h2⟩:=h
 rcases h2 with ⟨h2,_⟩ | ⟨g,cap,_,hv,_⟩
 ·exact absurd h2 hn
 ·exact ⟨g,cap,hv⟩
def Y9 (n:Int):Bool:=decide (1000000000 < n∨n < -1000000000)
theorem Sp (n:Int) (w:World):Calls Tryz.prog 105 #[.int .i64 n] w fun e w'=>e=.returned (.bool (!Bi n))∧w=w':=by
 by_cases h1:1000000000 < n
 ·have hf:=hZ (show (!Bi n)=true by unfold Bi; rw [Aa (by omega)]; rfl)
  have d1:decide ((1000000000:Int) < n)=true:=Ac h1
  clear h1
  go_enter Tryz.func105,Tryz.ntmps105
  go_wp2_with fail
  go_ret
  exact ⟨Co hf.out.symm,rfl⟩
 ·have d1:decide ((1000000000:Int) < n)=false:=Aa h1
  by_cases h2:n < -1000000000
  ·have hf:=hZ (show (!Bi n)=true by unfold Bi; rw [Aa (by omega)]; rfl)
   have d2:decide (n < -1000000000)=true:=Ac h2
   clear h1 h2
   go_enter Tryz.func105,Tryz.ntmps105
   go_wp2_with fail
   go_ret
   exact ⟨Co hf.out.symm,rfl⟩
  ·have hf:=hZ (show (!Bi n)=false by unfold Bi; rw [Ac (by omega)]; rfl)
   have d2:decide (n < -1000000000)=false:=Aa h2
   clear h1 h2
   go_enter Tryz.func105,Tryz.ntmps105
   go_wp2_with fail
   go_ret
   exact ⟨Co hf.out.symm,rfl⟩
theorem Qr (w:World) (xs:List Int):Ob w 105 #[] iv (fun n=>!Bi n) xs:=fun x W _ _=>
 (Sp x W).mono fun _ _ ⟨h,k⟩=>⟨h,Fr.of_eq k⟩
def Ge (n:Nat) (m:List (List Int)):Prop:=m.length≤12∧n≤12∧Ce n m∧∀ r,r ∈ m→∀ x,x ∈ r→Bi x=true
theorem HY (m:List (List Int)) (a:Option Addr) (cap n:Nat) (w:World) (hm:BT w a m) (hok:Ge n m) :
 Calls Tryz.prog 42 #[.slice a m.length cap] w fun e w'=>e=.returned (.int .i64 0)∧Fr w w':=by
 obtain ⟨h1,h2,h3,h4⟩:=hok
 replace hm:=hZ hm
 replace h3:=hZ h3
 replace h4:=hZ h4
 go_enter Tryz.func42,Tryz.ntmps42
 go_wp2_with fail
 go_loopg [10] m.length (fun k s10 wr=>∃ j:Nat,s10=.int .i64 j∧j+k=m.length∧Fr w wr)
 case atStart=>exact ⟨0,rfl,by omega,Fr.refl _⟩
 case round=>
  obtain ⟨j,rfl,hjk,hf⟩:=hrel
  by_cases hlt:j < m.length
  ·obtain ⟨b,o,a',c',rfl,hc,hel⟩:=(hm.out.fr hf).at hlt
   obtain ⟨b9,o9,a9,c9,hae,hc9,hel9⟩:=(hm.out.fr hf).at (i:=0) (by omega)
   injection hae with hae; injection hae with hb9 ho9
   subst hb9; subst ho9
   rw [h3.out.row hlt] at hc
   rw [h3.out.row (i:=0) (by omega),C9] at hc9
   have hany:(m[j]).any (fun x=>!Bi x)=false:=CE.2 (fun x hx=>by rw [h4.out _ (A8 hlt) x hx]; simp)
   have eg:∀ args w,(callFunc 105 args).run Tryz.prog w=.ok (.enter 105 args) w:=Oo Tryz.func105 (by kernel_rfl) rfl
   have hcf:=Hd m[j] a' c' 105 #[] (fun n=>!Bi n) wr eg hel (by rw [h3.out.row hlt]; omega) (Qr wr _)
   rw [h3.out.row hlt,hany] at hcf
   clear eg hel hel9 hany
   have z0:(0:Int)≤(j:Int):=Af _
   have z1:(j:Int) < (m.length:Int):=by omega
   go_wp2_with fail
   refine hcf.mono ?_
   clear hcf
   rintro e w2 ⟨rfl,hf2⟩
   go_wp2_with fail
   go_roundg (gk - 1)
   case measure=>omega
   case rel=>exact ⟨j+1,by go_num,by omega,hf.trans hf2⟩
  ·have hd:decide (j < m.length)=false:=Aa hlt
   go_wp2_with fail
   go_ret
   exact ⟨rfl,hf⟩
end Go.Proofs.YtcglmebcfeoedaaGreatDoor
namespace Go.Proofs.YtcglmebcfeoedaaGreatDoor
open Go.RowKit Go.Lib Go.Shelf
def Kp:Go.Shelf.Ren:=⟨fun | 41=>61 | n=>n,fun | 22=>44 | 23=>3 | 4=>4 | n=>n,fun | n=>n⟩
theorem NS:Go.Proofs.SlLaysE0.n41 Tryz.prog Kp:={
 mixed:=by kernel_rfl
 f41:=⟨Tryz.f61.name,by decide,Tryz.func61.trans (congrArg some (by kernel_rfl))⟩
 t4:=Tryz.underlying4
 a4:=Tryz.isAgg4
 z4:=Tryz.sizeOf4
 v4:=Tryz.zeroValue4
 t22:=Tryz.underlying44
 a22:=Tryz.isAgg44
 z22:=Tryz.sizeOf44
 v22:=Tryz.zeroValue44 }
def Wo (w:World) (xs:List Int) (e:Ending) (w':World):Prop:=∃ g c,e=.returned (.slice (some ⟨g,0,none⟩) xs.length c)∧Fr w w'∧w'.ownsRow w.heap.size 3 1 (.slice (some ⟨g,0,none⟩) xs.length c) xs.length (xs.map iv)
theorem KD (b o c:Nat) (xs:List Int) (w:World) (hl:xs.length≤1000000) (hc:∀ (j:Nat) (x:Int),xs[j]?=some x→w.cell? ⟨b,o+j,none⟩=some (iv x)) :
 Calls Tryz.prog 61 #[.slice (some ⟨b,o,none⟩) xs.length c] w (Wo w xs):=by
 obtain ⟨i0,hi,hz0,hz1,hz2⟩:=AQ DQ
 refine (AnyE.slices_Clone NS i0 _ 1 8 hi hz0 hz1 hz2 rfl (by decide) Tryz.sizeOf3 b o xs.length c (xs.map iv) w (by simp) (by unfold maxLen; omega) (by omega) (fun j u h=>?_) (fun u h=>?_)).mono ?_
 ·rw [Ao] at h
  cases hx:xs[j]? with
  | none=>rw [hx] at h; simp at h
  | some x=>rw [hx] at h; injection h with h; rw [← h]; exact hc j x hx
 ·obtain ⟨x,-,rfl⟩:=Bg.1 h; rfl
 ·rintro e w' ⟨v',rfl,hown,hne,hb⟩
  have h2:=hown.2
  rcases h2 with ⟨h0,-⟩ | ⟨g,cap,_,hv,_⟩
  ·exact absurd h0 hne
  ·subst hv
   exact ⟨g,cap,rfl,hb,hown⟩
attribute [local go_sem] Oper.semAt_some
theorem El.fx {α:Type} {w w':World} {enc:α→Value} {b o:Nat} {xs:List α} {p:Nat→Prop} (h:El w enc (some ⟨b,o,none⟩) xs) (k:Fx p w w') (hp:¬ p b):El w' enc (some ⟨b,o,none⟩) xs:=by
 rcases h with h | ⟨b',o',ha,hb,hc⟩
 ·exact .inl h
 ·injection ha with ha; injection ha with h1 h2
  subst h1; subst h2
  exact .inr ⟨b,o,rfl,An hb k.size,fun i x hx=>by rw [k.cell hb hp]; exact hc i x hx⟩
end Go.Proofs.YtcglmebcfeoedaaGreatDoor
namespace Go.Proofs.YtcglmebcfeoedaaGreatDoor
open Go.RowKit Go.Lib
attribute [local go_sem ↓] AA AB
theorem Ur {x:Int} (h:Bi x=true):Sm x:=by
 unfold Bi at h; have h:=Av h; exact ⟨by omega,by omega⟩

def R6 (N A:List Sy) (i:Int) (cs:List Int):Int:=if i < 0∨(N.length:Int)≤i then 10 else if cs.length≠A.length then 5 else Cx cs
end Go.Proofs.YtcglmebcfeoedaaGreatDoor
