/- Contracts and laws: GAG. -/
import Derived.Test.YtiniigadkknboaaGreatDoorGAD
import Derived.Test.YtiniigadkknboaaGreatDoorGAF
import Derived.Test.YtiniigadkknboaaGreatDoorGAC
import Derived.Test.YtiniigadkknboaaGreatDoorGAB
import Derived.Maps.OwnSet
import Derived.Maps.Views
import Derived.StringKeys
import Derived.OrdersHeld
import Derived.Deep.RegionHeld3
import Derived.StillTail
import Derived.Test.YtiniigadkknboaaGreatDoorGAA
import Derived.Deep.Cut

set_option maxHeartbeats 1000000
namespace Go.Proofs.YtiniigadkknboaaGreatDoor
open Go.RowKit Go.Lib

structure Sp where
 i:Int
 cs:List Int
 ca:Option Addr
 cc:Nat

theorem It {H:Type} {P:Program} {e:TypeId} (he:P.underlying e=some .bool) {v:Value} {z:DataW H×List MemPlace} (h:plainElem P e v=some z):∃ c,v=.bool c∧z=(.lit (.bool c),[]):=by
 unfold plainElem at h
 rw [he] at h
 cases v <;> simp at h
 exact ⟨_,rfl,h.symm⟩
theorem Io {H:Type} {P:Program} (w:World) {ops:Array Oper} {rest:List Oper} {o:Oper} {a:Act} {Q:Exit→Act→World→Prop}
 (hg:o.guard=none) (m x:Operand) (t:TypeId) (hop:o.op=Op.lookup t m x false)
 (k e:TypeId) (K:Maps.Keyed P k) (ht:P.underlying t=some (.map k e)) (he:P.underlying e=some .bool) (hz:(zeroValue e).run P w=.ok (.bool false) w) (b n:Nat) (D:DataW H)
 (hm:a.eval m=.map (some b)) (hown:w.ownsMap P k (plainElem P e) b n D) (key:Value) (kl:Lit) (hx:a.eval x=key) (hkey:keyOf P k key=some kl) (c:Bool) (hc:D.atKey kl (.lit (.bool false))=.lit (.bool c))
 (hK:wpList P ops Q rest (a.put o.dst (.bool c)) w) :
 wpList P ops Q (o :: rest) a w:=by
 refine wpList_plain hg fun K' hK'=>?_
 obtain ⟨v,ps,hrun,hv⟩:=hown.lookup K ht hz (plainElem_bool he false) hkey
 obtain ⟨c',rfl,h2⟩:=It he hv
 rw [hc] at h2
 injection h2 with h2
 injection h2 with h2
 injection h2 with h2
 subst h2
 unfold Oper.wp
 simp [execOp,hop,hm,hx,hrun,Result.andThen]
 exact hK' _ _ hK
def D6 (w:World) (b:Nat) (l:List ByteArray):Prop :=
 ∃ D:DataW Unit,w.ownsMap Tryz.prog 9 (plainElem Tryz.prog 4) b l.length D∧Maps.IsMap D∧∀ s:ByteArray,D.atKey (.string s.data.toList) (.lit (.bool false))=.lit (.bool (l.any fun y=>y.toList == s.toList))
theorem D6.nil (w:World):D6 (w.alloc (.map #[] 0)) w.heap.size [] :=
 ⟨.map [],World.ownsMap_made _ _ _ _,⟨_,rfl⟩,fun _=>rfl⟩
theorem D6.lt {w:World} {b:Nat} {l:List ByteArray} (h:D6 w b l):b < w.heap.size:=by
 obtain ⟨D,h1,-⟩:=h
 exact h1.lt
theorem D6.fx {p:Nat→Prop} {w w':World} {b:Nat} {l:List ByteArray} (h:D6 w b l) (k:Fx p w w') (hp:¬ p b):D6 w' b l:=by
 have hl:=h.lt
 obtain ⟨D,⟨es,clock,hb,r⟩,h2⟩:=h
 exact ⟨D,⟨es,clock,(k.block b hl hp).trans hb,r⟩,h2⟩
theorem D6.fr {w w':World} {b:Nat} {l:List ByteArray} (h:D6 w b l) (k:Fr w w'):D6 w' b l:=h.fx (p:=fun _=>False) (Fx.of_fr k) (fun e=>e)
theorem J3 (w:World) {ops:Array Oper} {rest:List Oper} {o:Oper} {a:Act} {Q:Exit→Act→World→Prop} (b:Nat) (l:List ByteArray) (s:ByteArray) (c:Bool)
 (hg:o.guard=none) (m x:Operand) (hop:o.op=Op.lookup 131 m x false) (hm:a.eval m=.map (some b)) (hx:a.eval x=.string s) (h:D6 w b l) (hs:s.size≤maxLen) (hc:(l.any fun y=>y.toList == s.toList)=c)
 (hK:wpList Tryz.prog ops Q rest (a.put o.dst (.bool c)) w):wpList Tryz.prog ops Q (o :: rest) a w:=by
 obtain ⟨D,h1,h2,h3⟩:=h
 exact Io w hg m x _ hop 9 4 (Maps.string_keyed Tryz.underlying9) Tryz.underlying131 Tryz.underlying4 (Tryz.zeroValue4 w) b _ D hm h1 _ _ hx (Y1 Tryz.underlying9 hs) c (by rw [h3,hc]) hK
theorem P4 (w:World) {ops:Array Oper} {rest:List Oper} {o:Oper} {a:Act} {Q:Exit→Act→World→Prop} (b:Nat) (l:List ByteArray) (s:ByteArray)
 (hg:o.guard=none) (m x v:Operand) (hop:o.op=Op.mapUpdate 131 m x v) (hm:a.eval m=.map (some b)) (hx:a.eval x=.string s) (hv:a.eval v=.bool true) (h:D6 w b l) (hl:l.length≤1000000) (hs:s.size≤maxLen)
 (hK:∀ w',D6 w' b (l ++ [s])→Fx (·=b) w w'→wpList Tryz.prog ops Q rest (a.put o.dst undef) w'):wpList Tryz.prog ops Q (o :: rest) a w:=by
 obtain ⟨D,h1,h2,h3⟩:=h
 refine wpList_mapUpdate_own w hg m x v _ hop 9 4 (Maps.string_keyed Tryz.underlying9) Tryz.underlying131 _ b _ D hm h1 (by unfold maxLen; omega) _ _ _ hx hv (Y1 Tryz.underlying9 hs) _ [] (plainElem_bool Tryz.underlying4 true) ?_
 intro w' hown hg
 refine hK w' ⟨_,by rw [Ar]; exact hown,h2.put _ _,fun t=>?_⟩ ((Fx.of_grown hg).mono (fun k e=>by injection e with e; exact e.symm))
 rw [List.any_append]
 by_cases e:t.data.toList=s.data.toList
 ·rw [e,Maps.atKey_put_same (k:=.string s.data.toList) h2 trivial]
  have:(s.toList == t.toList)=true:=by rw [Dd,Dd,e,Ku]
  simp [this]
 ·rw [Maps.atKey_put_other (fun h=>e (by injection h with h)),h3]
  have:(s.toList == t.toList)=false:=by
   rw [Cj]
   intro h
   rw [Dd,Dd] at h
   exact e h.symm
  simp [this]
section
variable {P:Program} {ops:Array Oper} {Q:Exit→Act→World→Prop} {md:Region.Mode} {S:World→Prop} {n:Nat}
end
section
variable {P:Program} {ops:Array Oper} {Q:Exit→Act→World→Prop} {md:Region.Mode} {S:World→Prop} {n:Nat}
def B8 (P:Program) (md:Region.Mode) (ops:Array Oper) (Q:Exit→Act→World→Prop) (S:World→Prop) (n:Nat):Nat→Array Bool→Act→World→Prop
 | 0,listed,a,w=>Region.ready md ops listed=[]∧Q .normal a w
 | fuel+1,listed,a,w=>
   (Region.ready md ops listed=[]→Q .normal a w) ∧
   ∀ i ∈ Region.ready md ops listed,wpOp P ops Q i (fun a' w'=>((listed.setIfInBounds i true).getD n true=false→S w')∧B8 P md ops Q S n fuel (listed.setIfInBounds i true) a' w') a w
theorem KR:∀ (fuel:Nat) (listed:Array Bool) (a:Act) (w:World),B8 P md ops Q S n fuel listed a w→wpAny P md ops Q fuel listed a w
 | 0,_,_,_,h=>h
 | fuel+1,_,_,_,h=>⟨h.1,fun i hi=>Zc (fun a' w' h'=>KR fuel _ a' w' h'.2) (h.2 i hi)⟩
theorem KU {listed:Array Bool} {i:Nat} (hw:Region.waitsFor md ops n i=true) (hun:listed.getD i true=false):n ∉ Region.ready md ops listed:=fun hr=>by
 obtain ⟨o',ho',e,he,hb,hon⟩:=Region.waitsFor_spec hw
 obtain ⟨_,ot,hot,hall⟩:=D7.1 hr
 have:o'=ot:=Da (ho'.symm.trans hot)
 subst this
 have h2:=hall e he hb
 rw [hon,getD_both hun] at h2
 cases h2
theorem Ng {i:Nat} {oi:Oper} {v:Value} (hi:ops[i]?=some oi) (hw:Region.waitsFor md ops n i=true) (hin:i≠n) (hsel:∀ (j:Nat) (o:Oper) cs b,ops[j]?=some o→o.op≠.select cs b)
 (hQ:∀ c a w,Q (.panic c) (a.put oi.dst v) w→Q (.panic c) a w) :
 ∀ (fuel:Nat) (listed:Array Bool) (a:Act) (w:World),
   (∀ j oj,ops[j]?=some oj→j≠i→listed.getD j true=false→(∀ e ∈ oj.after,Region.binds md e=true→e.on≠i)→oi.apart ops oj=true) →
   i ∈ Region.ready md ops listed→YieldsIf P ops S oi v a→S w→listed.getD n true=false →
   B8 P md ops Q S n fuel (listed.setIfInBounds i true) (a.put oi.dst v) w→B8 P md ops Q S n (fuel+1) listed a w:=by
 have hisz:i < ops.size:=(A8.1 hi).1
 intro fuel
 induction fuel with
 | zero=>
   intro listed a w _ hr hy hS hnu H
   refine ⟨fun h=>(by rw [h] at hr; cases hr),fun j hj=>?_⟩
   by_cases hji:j=i
   ·subst hji; exact hy.wpOp hi hS ⟨fun _=>hS,H⟩
   ·have:=DR hj hji
    rw [H.1] at this
    cases this
 | succ fuel ih=>
   intro listed a w hfree hr hy hS hnu H
   refine ⟨fun h=>(by rw [h] at hr; cases hr),fun j hj=>?_⟩
   by_cases hji:j=i
   ·subst hji; exact hy.wpOp hi hS ⟨fun _=>hS,H⟩
   ·have h1:=H.2 j (DR hj hji)
    have hjn:j≠n:=fun e=>KU hw (D7.1 hr).1 (e ▸ hj)
    obtain ⟨hjun,oj,hoj,hall⟩:=D7.1 hj
    have hnot:∀ e ∈ oj.after,Region.binds md e=true→e.on≠i:=fun e he hb heq=>by
     have h1:=hall e he hb
     have h0:=(D7.1 hr).1
     rw [heq,getD_both h0] at h1
     cases h1
    have h2:=wpOp_putIf hoj (hfree j oj hoj hji hjun hnot) (fun cs b=>hsel i oi cs b hi) (fun cs b=>hsel j oj cs b hoj) hQ hy h1
    have hfree':∀ k ok,ops[k]?=some ok→k≠i→(listed.setIfInBounds j true).getD k true=false →
     (∀ e ∈ ok.after,Region.binds md e=true→e.on≠i)→oi.apart ops ok=true:=fun k ok hk hki hun hno=>by
     refine hfree k ok hk hki ?_ hno
     by_cases hjk:j=k
     ·subst hjk; exact hjun
     ·rw [CQ true hjk] at hun; exact hun
    have hnj:(listed.setIfInBounds j true).getD n true=false:=by rw [CQ true hjn]; exact hnu
    have hnij:((listed.setIfInBounds i true).setIfInBounds j true).getD n true=false:=by rw [CQ true hjn,CQ true hin]; exact hnu
    refine Zc (fun a' w' h3=>⟨fun _=>h3.2.1 hnij,ih (listed.setIfInBounds j true) a' w' hfree' (DR hr (Ne.symm hji)) h3.1 (h3.2.1 hnij) hnj ?_⟩) h2
    rw [DS _ _ hji]
    exact h3.2.2
theorem Mf {i:Nat} {oi:Oper} {v:Value} (hi:ops[i]?=some oi) (hin:i≠n) (hsel:∀ (j:Nat) (o:Oper) cs b,ops[j]?=some o→o.op≠.select cs b)
 (hQ:∀ c a w,Q (.panic c) (a.put oi.dst v) w→Q (.panic c) a w) :
 ∀ (fuel:Nat) (listed:Array Bool) (a:Act) (w:World),
   (∀ j oj,ops[j]?=some oj→j≠i→listed.getD j true=false→(∀ e ∈ oj.after,Region.binds md e=true→e.on≠i)→oi.apart ops oj=true) →
   i ∈ Region.ready md ops listed→YieldsIf P ops (fun _=>True) oi v a→(listed.getD n true=false→S w) →
   B8 P md ops Q S n fuel (listed.setIfInBounds i true) (a.put oi.dst v) w→B8 P md ops Q S n (fuel+1) listed a w:=by
 have hisz:i < ops.size:=(A8.1 hi).1
 intro fuel
 induction fuel with
 | zero=>
   intro listed a w _ hr hy hS H
   refine ⟨fun h=>(by rw [h] at hr; cases hr),fun j hj=>?_⟩
   by_cases hji:j=i
   ·subst hji; exact hy.wpOp hi trivial ⟨fun h=>hS (by rw [CQ true hin] at h; exact h),H⟩
   ·have:=DR hj hji
    rw [H.1] at this
    cases this
 | succ fuel ih=>
   intro listed a w hfree hr hy hS H
   refine ⟨fun h=>(by rw [h] at hr; cases hr),fun j hj=>?_⟩
   by_cases hji:j=i
   ·subst hji; exact hy.wpOp hi trivial ⟨fun h=>hS (by rw [CQ true hin] at h; exact h),H⟩
   ·have h1:=H.2 j (DR hj hji)
    obtain ⟨hjun,oj,hoj,hall⟩:=D7.1 hj
    have hnot:∀ e ∈ oj.after,Region.binds md e=true→e.on≠i:=fun e he hb heq=>by
     have h1:=hall e he hb
     have h0:=(D7.1 hr).1
     rw [heq,getD_both h0] at h1
     cases h1
    have h2:=wpOp_putIf hoj (hfree j oj hoj hji hjun hnot) (fun cs b=>hsel i oi cs b hi) (fun cs b=>hsel j oj cs b hoj) hQ hy h1
    have hfree':∀ k ok,ops[k]?=some ok→k≠i→(listed.setIfInBounds j true).getD k true=false →
     (∀ e ∈ ok.after,Region.binds md e=true→e.on≠i)→oi.apart ops ok=true:=fun k ok hk hki hun hno=>by
     refine hfree k ok hk hki ?_ hno
     by_cases hjk:j=k
     ·subst hjk; exact hjun
     ·rw [CQ true hjk] at hun; exact hun
    have hno:(listed.setIfInBounds j true).getD n true=false→((listed.setIfInBounds i true).setIfInBounds j true).getD n true=false:=fun h=>by
     rw [DS _ _ (Ne.symm hji),CQ true hin]; exact h
    refine Zc (fun a' w' h3=>⟨fun h=>h3.2.1 (hno h),ih (listed.setIfInBounds j true) a' w' hfree' (DR hr (Ne.symm hji)) h3.1 (fun h=>h3.2.1 (hno h)) ?_⟩) h2
    rw [DS _ _ hji]
    exact h3.2.2
theorem Oh {i:Nat} {oi:Oper} {v:Value} {fuel:Nat} {listed:Array Bool} {a:Act} {w:World} (hi:ops[i]?=some oi) (hw:Region.waitsFor md ops n i=true) (hin:i≠n)
 (hs:Region.noSelect ops=true) (hf:Region.free md ops listed i=true) (hr:(Region.ready md ops listed).contains i=true) (hnu:listed.getD n true=false)
 (hQ:∀ c a w,Q (.panic c) (a.put oi.dst v) w→Q (.panic c) a w) (hy:YieldsIf P ops S oi v a) (hS:S w)
 (h:B8 P md ops Q S n fuel (listed.setIfInBounds i true) (a.put oi.dst v) w):B8 P md ops Q S n (fuel+1) listed a w :=
 Ng hi hw hin (Hk hs) hQ fuel listed a w (Kv hi hf) (by simpa using hr) hy hS hnu h
theorem Dz {α:Type} (l:List α) (i:Nat) (a:α):l.toArray.setIfInBounds i a=(l.set i a).toArray:=Ap ..
theorem DO {α:Type} (x a:α) (l:List α):(x :: l).set 0 a=a :: l:=rfl
theorem DN {α:Type} (x a:α) (l:List α) (n:Nat):(x :: l).set (n+1) a=x :: l.set n a:=rfl
def uB (md:Region.Mode) (ops:Array Oper) (i n:Nat) (listed:Array Bool):Bool:=Region.waitsFor md ops n i && !(i == n) && Region.noSelect ops && Region.free md ops listed i && (Region.ready md ops listed).contains i && !listed.getD n true
theorem uT (i:Nat) {oi:Oper} {v:Value} {fuel:Nat} {listed:Array Bool} {a:Act} {w:World} (hi:ops[i]?=some oi) (hb:uB md ops i n listed=true) (hy:YieldsIf P ops S oi v a) (hS:S w)
 (h:B8 P md ops Q S n fuel (listed.setIfInBounds i true) (a.put oi.dst v) w) (hQ:∀ c a w,Q (.panic c) (a.put oi.dst v) w→Q (.panic c) a w:=by exact fun _ _ _ h=>h):B8 P md ops Q S n (fuel+1) listed a w:=by
 unfold uB at hb
 simp only [Bm,Gi,Cj] at hb
 obtain ⟨⟨⟨⟨⟨h1,h2⟩,h3⟩,h4⟩,h5⟩,h6⟩:=hb
 exact Oh hi h1 h2 h3 h4 h5 h6 hQ hy hS h
theorem uK (i:Nat) {oi:Oper} {v:Value} {fuel:Nat} {listed:Array Bool} {a:Act} {w:World} (h:B8 P md ops Q S n fuel (listed.setIfInBounds i true) (a.put oi.dst v) w) (hi:ops[i]?=some oi:=by rfl) (hb:uB md ops i n listed=true:=by kernel_rfl) (hw:Region.wanted oi (yielded ops a.tmps)=true:=by rfl)
 (hy:∀ w,S w→(execOp a.eval oi).run P w=.ok (.value v) w:=by (intro w hSw; (try dsimp only at hSw); go_simp; try (with_reducible rfl))) (hS:S w:=by assumption) (hQ:∀ c a w,Q (.panic c) (a.put oi.dst v) w→Q (.panic c) a w:=by exact fun _ _ _ h=>h):B8 P md ops Q S n (fuel+1) listed a w :=
 uT i hi hb (.inl ⟨hw,hy⟩) hS h hQ
theorem uM (i j:Nat) {oi:Oper} {v:Value} {fuel:Nat} {listed:Array Bool} {a:Act} {w:World} (h:B8 P md ops Q S n fuel (listed.setIfInBounds i true) { a with tmps:=a.tmps.setIfInBounds j v } w) (hi:ops[i]?=some oi:=by rfl) (hd:oi.dst=some j:=by rfl) (hb:uB md ops i n listed=true:=by kernel_rfl) (hw:Region.wanted oi (yielded ops a.tmps)=true:=by rfl)
 (hy:∀ w,S w→(execOp a.eval oi).run P w=.ok (.value v) w:=by (intro w hSw; (try dsimp only at hSw); go_simp; try (with_reducible rfl))) (hS:S w:=by assumption) (hQ:∀ c a w,Q (.panic c) (a.put oi.dst v) w→Q (.panic c) a w:=by exact fun _ _ _ h=>h):B8 P md ops Q S n (fuel+1) listed a w :=
 uT i hi hb (.inl ⟨hw,hy⟩) hS (by rw [hd]; exact h) hQ
theorem IG {i:Nat} {oi:Oper} {v:Value} {fuel:Nat} {listed:Array Bool} {a:Act} {w:World} (hi:ops[i]?=some oi) (hin:i≠n)
 (hs:Region.noSelect ops=true) (hf:Region.free md ops listed i=true) (hr:(Region.ready md ops listed).contains i=true)
 (hQ:∀ c a w,Q (.panic c) (a.put oi.dst v) w→Q (.panic c) a w) (hy:YieldsIf P ops (fun _=>True) oi v a) (hS:S w)
 (h:B8 P md ops Q S n fuel (listed.setIfInBounds i true) (a.put oi.dst v) w):B8 P md ops Q S n (fuel+1) listed a w :=
 Mf hi hin (Hk hs) hQ fuel listed a w (Kv hi hf) (by simpa using hr) hy (fun _=>hS) h
def Dh (P:Program) (md:Region.Mode) (ops:Array Oper) (Q:Exit→Act→World→Prop) (S:World→Prop) (n fuel:Nat) (listed:Array Bool) (a:Act) (w:World) (rs:List Nat):Prop :=
 ∀ i ∈ rs,wpOp P ops Q i (fun a' w'=>((listed.setIfInBounds i true).getD n true=false→S w')∧B8 P md ops Q S n fuel (listed.setIfInBounds i true) a' w') a w
theorem Dh.nil {fuel:Nat} {listed:Array Bool} {a:Act} {w:World}:Dh P md ops Q S n fuel listed a w []:=fun _ h=>by cases h
theorem Dh.cons {fuel:Nat} {listed:Array Bool} {a:Act} {w:World} {i:Nat} {o:Oper} {rs:List Nat} (ho:ops[i]?=some o)
 (h:∀ K':Act→World→Prop,Shut (∀ a w,S w→(S w→B8 P md ops Q S n fuel (listed.setIfInBounds i true) a w)→K' a w)→if Region.wanted o (yielded ops a.tmps)=true then Oper.wp P o a w K' Q else K' (a.put o.dst undef) w)
 (hs:Dh P md ops Q S n fuel listed a w rs):Dh P md ops Q S n fuel listed a w (i :: rs):=fun j hj=>by
 rcases Bu.1 hj with rfl | hj
 ·exact wpOp_step ho (fun K' hK=>h K' (fun a w hS hW=>hK a w ⟨fun _=>hS,hW hS⟩))
 ·exact hs j hj
theorem Dh.last {fuel:Nat} {listed:Array Bool} {a:Act} {w:World} {o:Oper} (ho:ops[n]?=some o) (hln:(listed.setIfInBounds n true).getD n true=true) (hd:Region.ready md ops (listed.setIfInBounds n true)=[])
 (h:∀ K':Act→World→Prop,Shut (∀ a w,Q .normal a w→K' a w)→if Region.wanted o (yielded ops a.tmps)=true then Oper.wp P o a w K' Q else K' (a.put o.dst undef) w):Dh P md ops Q S n fuel listed a w [n]:=fun j hj=>by
 rcases Bu.1 hj with rfl | hj
 ·refine wpOp_step ho (fun K' hK=>h K' (fun a w hq=>hK a w ⟨fun h=>(by rw [hln] at h; cases h), ?_⟩))
  cases fuel with
  | zero=>exact ⟨hd,hq⟩
  | succ f=>exact ⟨fun _=>hq,by rw [hd]; intro i hi; cases hi⟩
 ·cases hj
theorem IH {rs:List Nat} {fuel:Nat} {listed:Array Bool} {a:Act} {w:World} (hr:Region.ready md ops listed=rs) (hne:rs≠[])
 (h:Dh P md ops Q S n fuel listed a w rs):B8 P md ops Q S n (fuel+1) listed a w :=
 ⟨fun h0=>absurd (hr ▸ h0) hne,hr ▸ h⟩
theorem uC (i:Nat) {o:Oper} {fuel:Nat} {listed:Array Bool} {a:Act} {w:World} (h:∀ K':Act→World→Prop,Shut (∀ a w,S w→(S w→B8 P md ops Q S n fuel (listed.setIfInBounds i true) a w)→K' a w)→if Region.wanted o (yielded ops a.tmps)=true then Oper.wp P o a w K' Q else K' (a.put o.dst undef) w)
 (hr:Region.ready md ops listed=[i]:=by kernel_rfl) (ho:ops[i]?=some o:=by rfl):B8 P md ops Q S n (fuel+1) listed a w :=
 IH hr (by simp) (Dh.cons ho h Dh.nil)
theorem uL (n:Nat) {o:Oper} {fuel:Nat} {listed:Array Bool} {a:Act} {w:World} (h:∀ K':Act→World→Prop,Shut (∀ a w,Q .normal a w→K' a w)→if Region.wanted o (yielded ops a.tmps)=true then Oper.wp P o a w K' Q else K' (a.put o.dst undef) w)
 (hr:Region.ready md ops listed=[n]:=by kernel_rfl) (ho:ops[n]?=some o:=by rfl) (hln:(listed.setIfInBounds n true).getD n true=true:=by kernel_rfl) (hd:Region.ready md ops (listed.setIfInBounds n true)=[]:=by kernel_rfl):B8 P md ops Q S n (fuel+1) listed a w :=
 IH hr (by simp) (Dh.last ho hln hd h)
theorem uD (i:Nat) {o:Oper} {fuel:Nat} {listed:Array Bool} {a:Act} {w:World} (h:∀ K':Act→World→Prop,Shut (∀ a w,B8 P md ops Q S n fuel (listed.setIfInBounds i true) a w→K' a w)→if Region.wanted o (yielded ops a.tmps)=true then Oper.wp P o a w K' Q else K' (a.put o.dst undef) w)
 (hr:Region.ready md ops listed=[i]:=by kernel_rfl) (ho:ops[i]?=some o:=by rfl) (hln:(listed.setIfInBounds i true).getD n true=true:=by kernel_rfl):B8 P md ops Q S n (fuel+1) listed a w :=
 ⟨fun h0=>(by rw [hr] at h0; cases h0),fun j hj=>by
  rw [hr] at hj
  rcases Bu.1 hj with rfl | hj
  ·exact wpOp_step ho (fun K' hK=>h K' (fun a w hW=>hK a w ⟨fun h=>(by rw [hln] at h; cases h),hW⟩))
  ·cases hj⟩
theorem uE {fuel:Nat} {listed:Array Bool} {a:Act} {w:World} (h:Q .normal a w) (hr:Region.ready md ops listed=[]:=by kernel_rfl):B8 P md ops Q S n fuel listed a w:=by
 cases fuel with
 | zero=>exact ⟨hr,h⟩
 | succ f=>exact ⟨fun _=>h,by rw [hr]; intro i hi; cases hi⟩
theorem hK (i:Nat) {oi:Oper} {v:Value} {fuel:Nat} {listed:Array Bool} {a:Act} {w:World} (h:wpAnyH P md ops Q S fuel (listed.setIfInBounds i true) (a.put oi.dst v) w) (hi:ops[i]?=some oi:=by rfl) (hs:Region.noSelect ops=true:=by kernel_rfl) (hf:Region.free md ops listed i=true:=by kernel_rfl) (hr:(Region.ready md ops listed).contains i=true:=by kernel_rfl)
 (hw:Region.wanted oi (yielded ops a.tmps)=true:=by rfl) (hy:∀ w,S w→(execOp a.eval oi).run P w=.ok (.value v) w:=by (intro w hSw; (try dsimp only at hSw); go_simp; try (with_reducible rfl))) (hS:S w:=by assumption) (hQ:∀ c a w,Q (.panic c) (a.put oi.dst v) w→Q (.panic c) a w:=by exact fun _ _ _ h=>h):wpAnyH P md ops Q S (fuel+1) listed a w :=
 wpAnyH_take hi hs hf hr hQ (.inl ⟨hw,hy⟩) hS h
theorem hN (i:Nat) {oi:Oper} {fuel:Nat} {listed:Array Bool} {a:Act} {w:World} (h:wpAnyH P md ops Q S fuel (listed.setIfInBounds i true) (a.put oi.dst undef) w) (hi:ops[i]?=some oi:=by rfl) (hs:Region.noSelect ops=true:=by kernel_rfl) (hf:Region.free md ops listed i=true:=by kernel_rfl) (hr:(Region.ready md ops listed).contains i=true:=by kernel_rfl)
 (hw:Region.wanted oi (yielded ops a.tmps)=false:=by rfl) (hS:S w:=by assumption) (hQ:∀ c a w,Q (.panic c) (a.put oi.dst undef) w→Q (.panic c) a w:=by exact fun _ _ _ h=>h):wpAnyH P md ops Q S (fuel+1) listed a w :=
 wpAnyH_take hi hs hf hr hQ (.inr ⟨hw,rfl⟩) hS h
theorem hC (i:Nat) {o:Oper} {fuel:Nat} {listed:Array Bool} {a:Act} {w:World} (h:∀ K':Act→World→Prop,Shut (∀ a w,S w→(S w→wpAnyH P md ops Q S fuel (listed.setIfInBounds i true) a w)→K' a w)→if Region.wanted o (yielded ops a.tmps)=true then Oper.wp P o a w K' Q else K' (a.put o.dst undef) w)
 (hr:Region.ready md ops listed=[i]:=by kernel_rfl) (ho:ops[i]?=some o:=by rfl):wpAnyH P md ops Q S (fuel+1) listed a w :=
 wpAnyH_ready hr (by simp) (AllReadyH.cons ho h AllReadyH.nil)
theorem Dm {id:Nat} {a:Act} {w:World} (n:Nat) (hm:P.follows .mixedOrders=true) (hS:S w.drew)
 (h:S w.drew→B8 P .any ops Q S n ops.size (Array.replicate ops.size false) a w.drew):(Code.region id ops true).wp P Q a w :=
 wp_region_any hm (KR _ _ _ _ (h hS))
end
theorem Gk (w5:World) (p q:Nat) (x y u v:Value) (h:w5.cell? ⟨p,0,none⟩=some x∧w5.cell? ⟨p,1,none⟩=some y) (hpq:p≠q) :
 ((w5.setCell ⟨q,0,none⟩ u).setCell ⟨q,1,none⟩ v).cell? ⟨p,0,none⟩=some x∧((w5.setCell ⟨q,0,none⟩ u).setCell ⟨q,1,none⟩ v).cell? ⟨p,1,none⟩=some y:=by
 have e:∀ (i j:Nat),(⟨q,i,none⟩:Addr)≠⟨p,j,none⟩:=fun i j e=>hpq (by injection e with e; exact e.symm)
 exact ⟨by rw [Ad _ _ _ _ (e 1 0),Ad _ _ _ _ (e 0 0)]; exact h.1,by rw [Ad _ _ _ _ (e 1 1),Ad _ _ _ _ (e 0 1)]; exact h.2⟩
attribute [local go_sem ↓] Go.wp_at_zero Go.wp_at_succ
abbrev qv (x:Rat):Value:=.agg #[sv x.num,sv (x.den:Int)]
theorem UA (a b:Int):Nat.gcd b.natAbs (a.tmod b).natAbs=Nat.gcd a.natAbs b.natAbs:=by
 rw [Int.natAbs_tmod,DF,← ZN,DF]
theorem XF (n:Int) (d:Nat) (hd:0 < d):(mkRat n d).num=n.tdiv (Nat.gcd n.natAbs d:Int):=by
 rw [Rat.num_mkRat,Ag (by omega),DF]
 exact (Zd (Int.ofNat_dvd_left.2 (Nat.gcd_dvd_left _ _))).symm
theorem XG (n:Int) (d:Nat) (hd:0 < d):((mkRat n d).den:Int)=(d:Int).tdiv (Nat.gcd n.natAbs d:Int):=by
 rw [Rat.den_mkRat,Ag (by omega),DF]
 have h:((Nat.gcd n.natAbs d:Nat):Int) ∣ (d:Int):=Int.natCast_dvd_natCast.2 (Nat.gcd_dvd_right _ _)
 rw [Zd h]
 exact Ea _ _
def PU (n:Int):Prop:=-4611686018427387904 < n∧n < 4611686018427387904
theorem Ol {n g:Int} (h:PU n):PU (n.tdiv g):=by
 have:=Int.natAbs_tdiv_le_natAbs n g
 unfold PU at *
 omega
theorem XE (n:Int) (d:Nat) (hn:PU n) (hd0:0 < d) (hd:PU d) (w:World) (hG:G w) :
 Calls Tryz.prog 249 #[.int .i64 n,.int .i64 d] w fun e w'=>e=.returned (qv (mkRat n d))∧Fr w w':=by
 have hnum:=XF n d hd0
 have hden:=XG n d hd0
 unfold qv
 rw [hnum,hden]
 clear hnum hden
 obtain ⟨g,hg⟩:∃ g,g=Nat.gcd n.natAbs d:=⟨_,rfl⟩
 rw [← hg]
 have hg0:0 < g:=by rw [hg]; exact Y2 _ hd0
 have hgd:g≤d:=by rw [hg]; exact Nat.gcd_le_right _ hd0
 have hbn:=Ol (g:=g) hn
 have hbd:=Ol (g:=g) hd
 rw [Dq (Aj d)] at hbd
 rw [Dq (Aj d)]
 unfold PU at hn hd hbn hbd
 have hi1:=hZ (fun W (hW:Fr w W)=>EE (n.tdiv g) (by omega) (by omega) W (hG.fr hW))
 have hi2:=hZ (fun W (hW:Fr w W)=>EE ((d:Int) / (g:Int)) (by omega) (by omega) W (hG.fr hW))
 replace hbn:=hZ hbn
 replace hbd:=hZ hbd
 replace hg:=hZ hg
 obtain ⟨wb,hwb⟩:∃ wb,wb=w.alloc (.cells #[.string ⟨#[]⟩,.string ⟨#[]⟩] 221):=⟨_,rfl⟩
 have hfb:Fr w wb:=by rw [hwb]; exact (Fr.refl _).alloc _
 have q4:wb.cell? ⟨w.heap.size,0,none⟩=some (.string ⟨#[]⟩):=by rw [hwb]; exact (CC _ _ _ _).1
 have q5:wb.cell? ⟨w.heap.size,1,none⟩=some (.string ⟨#[]⟩):=by rw [hwb]; exact (Ct _ _ _ _).1
 have q6:wb.frozen? ⟨w.heap.size,0,none⟩=false:=by rw [hwb]; exact (CC _ _ _ _).2
 have q7:wb.frozen? ⟨w.heap.size,1,none⟩=false:=by rw [hwb]; exact (Ct _ _ _ _).2
 go_enter Tryz.func249,Tryz.ntmps249
 go_upto_region 1 with (fail)
 rw [← hwb]
 clear hwb
 go_wp2_with fail
 replace q4:=hZ q4
 replace q5:=hZ q5
 replace q6:=hZ q6
 replace q7:=hZ q7
 go_loopg [5,6] d (fun gk s5 s6 wr=>∃ a b:Int,s5=.int .i64 a∧s6=.int .i64 b∧Hid (Nat.gcd a.natAbs b.natAbs=g)∧b.natAbs≤gk∧a.natAbs < 4611686018427387904∧b.natAbs < 4611686018427387904∧Qt wb wr)
 case atStart=>exact ⟨n,d,rfl,rfl,by show _=_; rw [hg.out,AJ],by rw [AJ]; exact Ah _,by omega,by omega,Qt.refl _⟩
 case round=>
  obtain ⟨a,b,rfl,rfl,hgc,hbk,ha1,hb1,hq⟩:=hrel
  by_cases hb0:b=0
  ·subst hb0
   have hga:a.natAbs=g:=by have:=hgc.out; rw [Int.natAbs_zero,QW] at this; exact this
   have hz1:(0:Int) < (g:Int):=by omega
   have hz2:(1:Int)≤(g:Int):=by omega
   have hfr:=hq.fr
   replace q6:=hfr.keepf q4.out q6.out
   replace q7:=hfr.keepf q5.out q7.out
   replace q4:=hfr.keep q4.out
   replace q5:=hfr.keep q5.out
   replace hfr:=hfb.trans hfr
   clear hq hfb
   replace hbk:=hZ hbk
   by_cases hneg:a < 0
   ·obtain rfl:a=-(g:Int):=by omega
    go_wp2_with fail
    have hg00:((g:Int) == 0)=false:=A2 (by omega)
    have hg01:¬ (g:Int)=0:=by omega
    have hg02:¬ g=0:=by omega
    have hq1:IntKind.i64.wrap (n.tdiv (g:Int))=n.tdiv (g:Int):=Ak _ (by have:=hbn.out; omega)
    have hq2:IntKind.i64.wrap ((d:Int) / (g:Int))=(d:Int) / (g:Int):=Ak _ (by have:=hbd.out; omega)
    go_region_held3 (fun _=>True) (exact trivial)
     (first
      | (go_at_call 127; (with_reducible refine (hi1.out _ ?_).mono ?_); (exact B9); rintro e w3 ⟨rfl,hf3⟩; have hfz:Fr wr w3:=(by exact B9); have t4:=hfz.keep q4; have t5:=hfz.keep q5; have t6:=hfz.keepf q4 q6; have t7:=hfz.keepf q5 q7; have qs:=Cq w3 w.heap.size (sv (n.tdiv g)) (sv ((d:Int) / (g:Int))) _ _ t4 t5; have q8:=qs.2.2.1; have u0:=hZ qs.1; have u1:=hZ qs.2.1; have hfx:=hZ qs.2.2.2; clear qs)
      | (go_at_call 127; (with_reducible refine (hi2.out _ ?_).mono ?_); (exact B9); rintro e w4 ⟨rfl,hf4⟩; have hfz:Fr wr w4:=(by exact B9); have t4:=hfz.keep q4; have t5:=hfz.keep q5; have t6:=hfz.keepf q4 q6; have t7:=hfz.keepf q5 q7; have qs:=Cq w4 w.heap.size (sv (n.tdiv g)) (sv ((d:Int) / (g:Int))) _ _ t4 t5; have q8:=qs.2.2.1; have u0:=hZ qs.1; have u1:=hZ qs.2.1; have hfx:=hZ qs.2.2.2; clear qs))
    clear q8 t4 t5 t6 t7
    go_wp2_with fail
    have v0:=u0.out
    have v1:=u1.out
    refine AP (v:=.agg #[sv (n.tdiv (g:Int)),sv ((d:Int) / (g:Int))]) (by simp [results,Tryz.results249,go_sem,v0,v1]) rfl ⟨rfl, ?_⟩
    exact ((Fx.of_fr (p:=fun q=>q=w.heap.size) (hfr.trans hfz)).trans hfx.out).toFr (fun q hq e=>by have e:q=w.heap.size:=e; omega)
   ·obtain rfl:a=(g:Int):=by omega
    go_wp2_with fail
    have hg00:((g:Int) == 0)=false:=A2 (by omega)
    have hg01:¬ (g:Int)=0:=by omega
    have hg02:¬ g=0:=by omega
    have hq1:IntKind.i64.wrap (n.tdiv (g:Int))=n.tdiv (g:Int):=Ak _ (by have:=hbn.out; omega)
    have hq2:IntKind.i64.wrap ((d:Int) / (g:Int))=(d:Int) / (g:Int):=Ak _ (by have:=hbd.out; omega)
    go_region_held3 (fun _=>True) (exact trivial)
     (first
      | (go_at_call 127; (with_reducible refine (hi1.out _ ?_).mono ?_); (exact B9); rintro e w3 ⟨rfl,hf3⟩; have hfz:Fr wr w3:=(by exact B9); have t4:=hfz.keep q4; have t5:=hfz.keep q5; have t6:=hfz.keepf q4 q6; have t7:=hfz.keepf q5 q7; have qs:=Cq w3 w.heap.size (sv (n.tdiv g)) (sv ((d:Int) / (g:Int))) _ _ t4 t5; have q8:=qs.2.2.1; have u0:=hZ qs.1; have u1:=hZ qs.2.1; have hfx:=hZ qs.2.2.2; clear qs)
      | (go_at_call 127; (with_reducible refine (hi2.out _ ?_).mono ?_); (exact B9); rintro e w4 ⟨rfl,hf4⟩; have hfz:Fr wr w4:=(by exact B9); have t4:=hfz.keep q4; have t5:=hfz.keep q5; have t6:=hfz.keepf q4 q6; have t7:=hfz.keepf q5 q7; have qs:=Cq w4 w.heap.size (sv (n.tdiv g)) (sv ((d:Int) / (g:Int))) _ _ t4 t5; have q8:=qs.2.2.1; have u0:=hZ qs.1; have u1:=hZ qs.2.1; have hfx:=hZ qs.2.2.2; clear qs))
    clear q8 t4 t5 t6 t7
    go_wp2_with fail
    have v0:=u0.out
    have v1:=u1.out
    refine AP (v:=.agg #[sv (n.tdiv (g:Int)),sv ((d:Int) / (g:Int))]) (by simp [results,Tryz.results249,go_sem,v0,v1]) rfl ⟨rfl, ?_⟩
    exact ((Fx.of_fr (p:=fun q=>q=w.heap.size) (hfr.trans hfz)).trans hfx.out).toFr (fun q hq e=>by have e:q=w.heap.size:=e; omega)
  ·have d1:(b != 0)=true:=Bs.2 hb0
   have d2:(b == 0)=false:=A2 hb0
   have hst:=hZ ((UA a b).trans hgc.out)
   have hlt:=FN a b hb0
   replace hb0:=hZ hb0
   go_wp2_with fail
   go_region
   go_wp2_with fail
   go_roundg (gk - 1)
   case measure=>omega
   case rel=>exact ⟨b,a.tmod b,rfl,by first | rfl | (simp; exact Ak _ (by omega)),hst.out,by omega,by omega,by omega,hq.drew⟩
end Go.Proofs.YtiniigadkknboaaGreatDoor
