/- Contracts and laws: GAX. -/
import Derived.Test.YtiniigadkknboaaGreatDoorGAD
import Derived.OrdersHeld
import Derived.OrdersIn
import Derived.OwnWalkIn
import Derived.Deep.RegionHeld3
import Derived.StillTail

namespace Go.Proofs.YtiniigadkknboaaGreatDoor
open Go.RowKit Go.Lib
section
variable {F:Fence} {k:Nat} {P:Program} {ops:Array Oper} {Q:Exit→Act→World→Prop} {md:Region.Mode} {S:World→Prop} {late:Nat→Bool}
def EH (P:Program) (ops:Array Oper) (S:World→Prop) (o:Oper) (v:Value) (a:Act):Prop:=YieldsIf P ops S o v a∧∀ w,o.about P w a.eval=none
def HA (ops:Array Oper):Bool:=ops.toList.all fun o=>match o.op with | .defer _=>false | _=>true
theorem ED (h:HA ops=true):∀ (j:Nat) (o:Oper) c,ops[j]?=some o→o.op≠.defer c:=fun j o c hj e=>by
 have h1:=AE.1 h o (Array.mem_toList_iff.2 (ZD hj))
 rw [e] at h1
 cases h1
theorem EH.wpOpIn {i:Nat} {o:Oper} {v:Value} {a:Act} (hd:∀ c,o.op≠.defer c) (hi:ops[i]?=some o) (hy:EH P ops S o v a)
 {K:Act→World→Prop} {w:World} (hS:S w) (h:K (a.put o.dst v) w):wpOpIn F k P ops Q i K a w:=by
 unfold Go.wpOpIn
 simp only [hi]
 have hab:∀ f,o.about P w a.eval=some f→F.fn f:=fun f hf=>by rw [hy.2 w] at hf; cases hf
 rcases hy.1 with ⟨hw,hv⟩ | ⟨hw,rfl⟩
 ·simp only [hw,if_true,Oper.wpIn,Oper.semAt_plain F a.eval o hd,hv w hS,Oper.uponIn]; exact ⟨hab,h⟩
 ·simp only [hw,Bool.false_eq_true,ZK]; exact ⟨hab,h⟩
theorem EH.of_same {o:Oper} {v:Value} {a a':Act} (hy:EH P ops S o v a) (he:execOp a'.eval o=execOp a.eval o)
 (hw:Region.wanted o (yielded ops a'.tmps)=Region.wanted o (yielded ops a.tmps)) (hb:∀ w,o.about P w a'.eval=o.about P w a.eval):EH P ops S o v a' :=
 ⟨hy.1.of_same he hw,fun w=>by rw [hb w]; exact hy.2 w⟩
theorem Of {j:Nat} {oi oj:Oper} {v:Value} (hdj:∀ c,oj.op≠.defer c) (hj:ops[j]?=some oj) (hap:oi.apart ops oj=true)
 (hsi:∀ cs b,oi.op≠.select cs b) (hsj:∀ cs b,oj.op≠.select cs b)
 (hQ:∀ c a w,Q (.panic c) (a.put oi.dst v) w→Q (.panic c) a w) {K:Act→World→Prop} {a:Act} {w:World}
 (hy:EH P ops S oi v a) (h:wpOpIn F k P ops Q j K (a.put oi.dst v) w) :
 wpOpIn F k P ops Q j (fun a' w'=>EH P ops S oi v a'∧K (a'.put oi.dst v) w') a w:=by
 obtain ⟨h1,h2,h3⟩:=Oper.apart_spec hap
 have keep:∀ (a:Act),EH P ops S oi v a→∀ u,EH P ops S oi v (a.put oj.dst u):=fun a hy u=>
  hy.of_same (execOp_put oi hsi a oj.dst u h3) (wanted_put oi a oj.dst u h3) (fun w=>about_put oi w a oj.dst u h3)
 have keepD:∀ d,EH P ops S oi v { a with defers:=d :: a.defers }:=fun d=>hy.of_same rfl rfl (fun _=>rfl)
 unfold wpOpIn at *
 simp only [hj] at *
 rw [wanted_put oj a oi.dst v h1,about_put oj w a oi.dst v h1] at h
 split
 ·rename_i hw
  simp only [hw,if_true] at h
  unfold Oper.wpIn at *
  rw [about_put oj w a oi.dst v h1] at h
  refine ⟨h.1, ?_⟩
  have h:=h.2
  rw [Oper.semAt_plain F _ oj hdj,execOp_put oj hsj a oi.dst v h1] at h
  rw [Oper.semAt_plain F _ oj hdj]
  generalize (execOp a.eval oj).run P w=r at *
  cases r with
  | ok x w'=>
    cases x <;> simp only [Oper.uponIn] at h ⊢
    case value u=>exact ⟨keep a hy u,by rw [← Gj a v u h2]; exact h⟩
    case skip=>exact ⟨keep a hy _,by rw [← Gj a v undef h2]; exact h⟩
    case defer d=>
     refine ⟨keep _ (keepD d) _, ?_⟩
     rw [← Gj _ v undef h2,← Act.put_defers]
     exact h
    case enter f args=>
     refine ⟨h.1,CallsIn.mono h.2 fun e w'' he=>?_⟩
     cases e with
     | returned u=>exact ⟨keep a hy u,by rw [← Gj a v u h2]; exact he⟩
     | panicked c=>exact hQ _ _ _ he
     | outgrown=>exact he
    case row row args=>exact ⟨h.1,RowsIn.mono h.2 fun u w'' he=>⟨keep a hy u,by rw [← Gj a v u h2]; exact he⟩⟩
    case round l f tmps assign body=>
     refine ⟨h.1,RoundIn.mono h.2 fun e w'' he=>?_⟩
     cases e with
     | returned u=>exact ⟨keep a hy u,by rw [← Gj a v u h2]; exact he⟩
     | panicked c=>exact hQ _ _ _ he
     | outgrown=>exact he
  | halt x w'=>
    cases x <;> simp only [Oper.uponIn] at h ⊢
    case panic u=>exact hQ _ _ _ h
 ·rename_i hw
  simp only [hw] at h
  exact ⟨h.1,keep a hy _,by rw [← Gj a v undef h2]; exact h.2⟩
def Bv (F:Fence) (k:Nat) (P:Program) (md:Region.Mode) (ops:Array Oper) (Q:Exit→Act→World→Prop) (S:World→Prop) (late:Nat→Bool):Nat→Array Bool→Act→World→Prop
 | 0,listed,a,w=>Region.ready md ops listed=[]∧Q .normal a w
 | fuel+1,listed,a,w=>
   (Region.ready md ops listed=[]→Q .normal a w) ∧
   ∀ i ∈ Region.ready md ops listed,wpOpIn F k P ops Q i (fun a' w'=>(late i=false→S w')∧Bv F k P md ops Q S late fuel (listed.setIfInBounds i true) a' w') a w
theorem KS:∀ (fuel:Nat) (listed:Array Bool) (a:Act) (w:World),Bv F k P md ops Q S late fuel listed a w→wpAnyIn F k P md ops Q fuel listed a w
 | 0,_,_,_,h=>h
 | fuel+1,_,_,_,h=>⟨h.1,fun i hi=>wpOpIn_mono (fun a' w' h'=>KS fuel _ a' w' h'.2) (h.2 i hi)⟩
def Uj (md:Region.Mode) (ops:Array Oper) (late:Nat→Bool):Bool:=(List.range ops.size).all fun i=>late i || (List.range ops.size).all fun n=>!late n || Region.waitsFor md ops n i
theorem Wl {listed:Array Bool} {i n:Nat} (hl:Uj md ops late=true) (hi:i < ops.size) (hin:late i=false) (hun:listed.getD i true=false) (hn:late n=true):n ∉ Region.ready md ops listed:=fun hr=>by
 obtain ⟨_,ot,hot,hall⟩:=D7.1 hr
 have hns:n < ops.size:=(A8.1 hot).1
 have h1:=AE.1 hl i (BH.2 hi)
 rw [hin,J2] at h1
 have h2:=AE.1 h1 n (BH.2 hns)
 rw [hn,Bool.not_true,J2] at h2
 obtain ⟨o',ho',e,he,hb,hon⟩:=Region.waitsFor_spec h2
 have:o'=ot:=Da (ho'.symm.trans hot)
 subst this
 have h3:=hall e he hb
 rw [hon,getD_both hun] at h3
 cases h3
theorem Nh {i:Nat} {oi:Oper} {v:Value} (hnd:HA ops=true) (hi:ops[i]?=some oi) (hl:Uj md ops late=true) (hin:late i=false) (hsel:∀ (j:Nat) (o:Oper) cs b,ops[j]?=some o→o.op≠.select cs b)
 (hQ:∀ c a w,Q (.panic c) (a.put oi.dst v) w→Q (.panic c) a w) :
 ∀ (fuel:Nat) (listed:Array Bool) (a:Act) (w:World),
   (∀ j oj,ops[j]?=some oj→j≠i→listed.getD j true=false→(∀ e ∈ oj.after,Region.binds md e=true→e.on≠i)→oi.apart ops oj=true) →
   i ∈ Region.ready md ops listed→EH P ops S oi v a→S w →
   Bv F k P md ops Q S late fuel (listed.setIfInBounds i true) (a.put oi.dst v) w→Bv F k P md ops Q S late (fuel+1) listed a w:=by
 have hisz:i < ops.size:=(A8.1 hi).1
 intro fuel
 induction fuel with
 | zero=>
   intro listed a w _ hr hy hS H
   refine ⟨fun h=>(by rw [h] at hr; cases hr),fun j hj=>?_⟩
   by_cases hji:j=i
   ·subst hji; exact hy.wpOpIn (fun c=>ED hnd _ _ c hi) hi hS ⟨fun _=>hS,H⟩
   ·have:=DR hj hji
    rw [H.1] at this
    cases this
 | succ fuel ih=>
   intro listed a w hfree hr hy hS H
   refine ⟨fun h=>(by rw [h] at hr; cases hr),fun j hj=>?_⟩
   by_cases hji:j=i
   ·subst hji; exact hy.wpOpIn (fun c=>ED hnd _ _ c hi) hi hS ⟨fun _=>hS,H⟩
   ·have h1:=H.2 j (DR hj hji)
    have hjn:late j=false:=Bool.not_eq_true _ ▸ fun e=>Wl hl hisz hin (D7.1 hr).1 e hj
    obtain ⟨hjun,oj,hoj,hall⟩:=D7.1 hj
    have hnot:∀ e ∈ oj.after,Region.binds md e=true→e.on≠i:=fun e he hb heq=>by
     have h1:=hall e he hb
     have h0:=(D7.1 hr).1
     rw [heq,getD_both h0] at h1
     cases h1
    have h2:=Of (fun c=>ED hnd _ _ c hoj) hoj (hfree j oj hoj hji hjun hnot) (fun cs b=>hsel i oi cs b hi) (fun cs b=>hsel j oj cs b hoj) hQ hy h1
    have hfree':∀ k ok,ops[k]?=some ok→k≠i→(listed.setIfInBounds j true).getD k true=false →
     (∀ e ∈ ok.after,Region.binds md e=true→e.on≠i)→oi.apart ops ok=true:=fun k ok hk hki hun hno=>by
     refine hfree k ok hk hki ?_ hno
     by_cases hjk:j=k
     ·subst hjk; exact hjun
     ·rw [CQ true hjk] at hun; exact hun
    refine wpOpIn_mono (fun a' w' h3=>⟨fun _=>h3.2.1 hjn,ih (listed.setIfInBounds j true) a' w' hfree' (DR hr (Ne.symm hji)) h3.1 (h3.2.1 hjn) ?_⟩) h2
    rw [DS _ _ hji]
    exact h3.2.2
theorem A7 {i:Nat} {oi:Oper} {v:Value} {fuel:Nat} {listed:Array Bool} {a:Act} {w:World} (hi:ops[i]?=some oi) (hnd:HA ops=true) (hl:Uj md ops late=true) (hin:late i=false)
 (hs:Region.noSelect ops=true) (hf:Region.free md ops listed i=true) (hr:(Region.ready md ops listed).contains i=true)
 (hQ:∀ c a w,Q (.panic c) (a.put oi.dst v) w→Q (.panic c) a w) (hb:∀ w,oi.about P w a.eval=none) (hy:YieldsIf P ops S oi v a) (hS:S w)
 (h:Bv F k P md ops Q S late fuel (listed.setIfInBounds i true) (a.put oi.dst v) w):Bv F k P md ops Q S late (fuel+1) listed a w :=
 Nh hnd hi hl hin (Hk hs) hQ fuel listed a w (Kv hi hf) (by simpa using hr) ⟨hy,hb⟩ hS h
theorem J4 {i:Nat} {o:Oper} {fuel:Nat} {listed:Array Bool} {a:Act} {w:World} (ho:ops[i]?=some o) (hr:Region.ready md ops listed=[i])
 (h:if Region.wanted o (yielded ops a.tmps)=true then Oper.wpIn F k P o a w (fun a' w'=>(late i=false→S w')∧Bv F k P md ops Q S late fuel (listed.setIfInBounds i true) a' w') Q else (∀ f,o.about P w a.eval=some f→F.fn f)∧((late i=false→S w)∧Bv F k P md ops Q S late fuel (listed.setIfInBounds i true) (a.put o.dst undef) w)):Bv F k P md ops Q S late (fuel+1) listed a w:=by
 refine ⟨fun h0=>(by rw [hr] at h0; cases h0),fun j hj=>?_⟩
 rw [hr] at hj
 obtain rfl:j=i:=AX.1 hj
 unfold wpOpIn
 rw [ho]
 exact h
theorem GU {i:Nat} {o:Oper} {v:Value} {fuel:Nat} {listed:Array Bool} {a:Act} {w:World} (ho:ops[i]?=some o) (hnd:HA ops=true) (hr:Region.ready md ops listed=[i]) (hw:Region.wanted o (yielded ops a.tmps)=true)
 (hb:o.about P w a.eval=none) (hv:(execOp a.eval o).run P w=.ok (.value v) w) (hS:late i=false→S w) (h:Bv F k P md ops Q S late fuel (listed.setIfInBounds i true) (a.put o.dst v) w):Bv F k P md ops Q S late (fuel+1) listed a w:=by
 refine J4 ho hr ?_
 unfold Oper.wpIn
 rw [Ai hw,Oper.semAt_plain F _ o (fun c=>ED hnd _ _ c ho),hv]
 exact ⟨fun f hf=>(by rw [hb] at hf; cases hf),hS,h⟩
theorem F0 {i:Nat} {o:Oper} {fuel:Nat} {listed:Array Bool} {a:Act} {w w':World} (ho:ops[i]?=some o) (hnd:HA ops=true) (hr:Region.ready md ops listed=[i]) (hw:Region.wanted o (yielded ops a.tmps)=true)
 (hb:o.about P w a.eval=none) (hv:(execOp a.eval o).run P w=.ok .skip w') (hS:late i=false→S w') (h:Bv F k P md ops Q S late fuel (listed.setIfInBounds i true) (a.put o.dst undef) w'):Bv F k P md ops Q S late (fuel+1) listed a w:=by
 refine J4 ho hr ?_
 unfold Oper.wpIn
 rw [Ai hw,Oper.semAt_plain F _ o (fun c=>ED hnd _ _ c ho),hv]
 exact ⟨fun f hf=>(by rw [hb] at hf; cases hf),hS,h⟩
theorem J5 {listed:Array Bool} {a:Act} {w:World} (hr:Region.ready md ops listed=[]) (h:Q .normal a w):∀ fuel,Bv F k P md ops Q S late fuel listed a w
 | 0=>⟨hr,h⟩
 | _+1=>⟨fun _=>h,by rw [hr]; simp⟩
theorem Ic {id:Nat} {a:Act} {w:World} (late:Nat→Bool) (hm:P.follows .mixedOrders=true) (hS:S w.drew)
 (h:S w.drew→Bv F k P .any ops Q S late ops.size (Array.replicate ops.size false) a w.drew):(Code.region id ops true).wpIn F k P Q a w :=
 wpIn_region_any hm (KS _ _ _ _ (h hS))
end
end Go.Proofs.YtiniigadkknboaaGreatDoor
