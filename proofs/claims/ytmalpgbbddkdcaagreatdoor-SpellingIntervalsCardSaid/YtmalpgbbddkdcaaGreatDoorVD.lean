/- Contracts and laws: VD. -/
import Derived.Test.YtmalpgbbddkdcaaGreatDoorVA
import Derived.Lib.AppendIntMem
import Derived.Test.YtmalpgbbddkdcaaGreatDoorVC
import Derived.Deep.RegionHeld3
import Derived.Deep.Cut
import Derived.Test.YtmalpgbbddkdcaaGreatDoorVB
import Derived.OrdersHeld
import Derived.StillTail

set_option maxRecDepth 100000
set_option maxHeartbeats 4000000
namespace Go.Proofs.YtmalpgbbddkdcaaGreatDoor
open Go.RowKit Go.Lib Go.Sort
theorem parseUintM_dig:∀ (l:List UInt8) (acc:Nat),(∀ c ∈ l,48≤c.toNat∧c.toNat≤57)→digVal acc l < 1000000000000000000→parseUintM (2 ^ 64 - 1) acc l=.ok (digVal acc l)
 | [],acc,_,_=>rfl
 | c :: r,acc,hd,hv=>by
   have hc:=hd c List.mem_cons_self
   have hr:∀ x ∈ r,48≤x.toNat∧x.toNat≤57:=fun x hx=>hd x (List.mem_cons_of_mem _ hx)
   have e:digVal acc (c :: r)=digVal (acc * 10+(c.toNat - 48)) r:=rfl
   rw [e] at hv ⊢
   have hle:=(digVal_bound r (acc * 10+(c.toNat - 48)) hr).1
   have hp:=Nat.pow_pos (n:=r.length) (show 0 < 10 by decide)
   have h2:acc * 10+(c.toNat - 48)≤digVal (acc * 10+(c.toNat - 48)) r:=Nat.le_trans (Nat.le_mul_of_pos_right _ hp) hle
   rw [parseUintM,if_pos hc,if_neg (by omega),if_neg (by omega)]
   exact parseUintM_dig r _ hr hv
theorem parseUintB_dec (u:Nat) (h:u < 1000000000000000000):parseUintB 64 (tx (u:Int)).data.toList=.ok u:=by
 rw [tx_list,itoa_nn (by omega),show (u:Int).toNat=u by omega]
 unfold parseUintB
 rw [if_neg (dec_ne u),parseUintM_dig _ _ (dec_digits u) (by rw [digVal_dec]; exact h),digVal_dec]
theorem DSmall (u:Nat) (h:u < 1000000000000000000) (w:World) :
 Calls Tryz.prog 259 #[.string (tx (u:Int))] w fun e w'=>e=.returned (.tuple #[.int .u64 u,.bool true])∧Fr w w':=by
 have hs:=tx_size_le 18 (u:Int) (by omega) (by omega)
 have hp:∀ W:World,Calls Tryz.prog 288 #[.string (tx (u:Int)),.int .i64 10,.int .i64 64] W fun e w'=>e=.returned (.tuple #[.int .u64 u,.nilIface])∧Fr W w':=fun W=>by
  go_enter Tryz.func288,Tryz.ntmps288
  go_wp2_with fail
  refine (Tryz.internal_strconv_ParseUint_10_at64 (tx (u:Int)) (by omega) _).mono ?_
  rw [parseUintB_dec u h]
  rintro e w1 ⟨rfl,hw⟩
  have hf:=fr_bytes (hw.imp id fun h=>⟨_,h⟩)
  clear hw
  unfold uintTupleM
  go_wp2_with fail
  go_ret2
  exact ⟨rfl,hf⟩
 replace hp:=hZ hp
 go_enter Tryz.func259,Tryz.ntmps259
 go_wp2_with fail
 refine (hp.out _).mono ?_
 rintro e w1 ⟨rfl,hf⟩
 go_wp2_with fail
 go_ret2
 exact ⟨rfl,hf⟩
theorem Dboth (u v:Nat) (hu:(tx (u:Int)).size≤18) (hv:(tx (v:Int)).size≤18) (h1:u < 1000000000000000000) (h2:v < 1000000000000000000) (w:World) :
 Calls Tryz.prog 212 #[.string (tx (u:Int)),.string (tx (v:Int))] w fun e w'=>e=.returned (.tuple #[.int .u64 u,.int .u64 v,.bool true])∧Fr w w':=by
 have c1:=hZ (fun W=>DSmall u h1 W)
 have c2:=hZ (fun W=>DSmall v h2 W)
 have d1:decide ((18:Int) < ((tx (u:Int)).size:Int))=false:=decide_eq_false (by omega)
 have d2:decide ((18:Int) < ((tx (v:Int)).size:Int))=false:=decide_eq_false (by omega)
 go_enter Tryz.func212,Tryz.ntmps212
 go_wp2_with fail
 refine (c1.out _).mono ?_
 rintro e w1 ⟨rfl,hf1⟩
 go_wp2_with fail
 refine (c2.out _).mono ?_
 rintro e w2 ⟨rfl,hf2⟩
 go_wp2_with fail
 go_ret3
 exact ⟨rfl,hf1.trans hf2⟩
theorem FormatU (u:Nat) (hu64:u < 18446744073709551616) (w:World) (hG:G w) :
 Calls Tryz.prog 289 #[.int .u64 u,.int .i64 10] w fun e w'=>e=.returned (.string (tx (u:Int)))∧Fr w w':=by
 have hte:tx (u:Int)=⟨(decDigits u).toArray⟩:=by show (⟨(itoa (u:Int)).toArray⟩:ByteArray)=_; rw [itoa_nn (by omega),show (u:Int).toNat=u by omega]
 by_cases h100:u < 100
 ·have d1:decide ((u:Int) < 100)=true:=decide_eq_true (by omega)
  replace hte:=hZ hte
  go_enter Tryz.func289,Tryz.ntmps289
  go_wp2_with fail
  refine (Tryz.internal_strconv_small u h100 _).mono ?_
  rintro e w1 ⟨rfl,rfl⟩
  go_wp2_with fail
  go_ret
  exact ⟨by rw [hte.out]; rfl,Fr.refl _⟩
 ·have d1:decide ((u:Int) < 100)=false:=decide_eq_false (by omega)
  have hu1:1≤u:=by omega
  have hnd20:nDigits u≤20:=by have:=numDigits_eq u hu1 hu64; split at this <;> omega
  have hb3:nDigits u≤24:=by omega
  have hal:Tryz.prog.arrayLen 351=24:=by kernel_rfl
  have hsl:∀ W,(Instr.sliceAt 351 (.pointer (some ⟨w.heap.size,0,none⟩)) none (some (.int .i64 (nDigits u:Int))) none).run Tryz.prog W=.ok (.slice (some ⟨w.heap.size,0,none⟩) (nDigits u) 24) W:=fun W=>by
   rw [run_sliceAt_array_h W 351 ⟨w.heap.size,0,none⟩ (by simp [Program.arrayLen,Program.elem,Tryz.underlying351]) .i64 (nDigits u:Int) (by omega) (by rw [hal]; omega)]
   go_simp
  have hH0:=holds_zero0 w 351 (nDigits u) (by omega)
  have hfmt:=Tryz.internal_strconv_formatBase10 w.heap.size 0 24 u (Array.replicate (nDigits u) 0) (w.alloc (.cells zeros24 351)) hH0 (by rw [Array.size_replicate]; exact lt_pow_nDigits u) hu64 (by rw [Array.size_replicate]; omega)
  rw [Array.size_replicate] at hfmt
  have HH0:=hZ hH0
  have hnum:=hZ (fun W (hW:G W)=>Tryz.internal_strconv_numDigits u hu1 hu64 W hW)
  replace hte:=hZ hte
  clear hH0 hal
  have hGa:Hid (G (w.alloc (.cells zeros24 351))):=tabIs_alloc hG _
  go_enter Tryz.func289,Tryz.ntmps289
  go_wp2_with (go_at_call 285; refine (hnum.out _ hGa.out).mono ?_; rintro e w' ⟨rfl,rfl⟩)
  go_at_call 286
  refine hfmt.mono ?_
  rintro e w' ⟨rfl,k,v',dk,rfl,hF⟩
  have hcv:(convert 305 9 (.slice (some ⟨w.heap.size,0,none⟩) (nDigits u) 24)).run Tryz.prog ((putRow (fun (b:UInt8)=>Value.int .u8 (b.toNat:Int)) (w.alloc (.cells zeros24 351)) w.heap.size 0 dk).drewN k)=.ok (.string ⟨(decDigits u).toArray⟩) ((putRow (fun (b:UInt8)=>Value.int .u8 (b.toNat:Int)) (w.alloc (.cells zeros24 351)) w.heap.size 0 dk).drewN k):=by
   have h:=run_convert_bytes_back (P:=Tryz.prog) ((putRow (fun (b:UInt8)=>Value.int .u8 (b.toNat:Int)) (w.alloc (.cells zeros24 351)) w.heap.size 0 dk).drewN k) 305 9 5 ⟨w.heap.size,0,none⟩ 24 (decDigits u) Tryz.underlying305 Tryz.underlying5 Tryz.underlying9 (fun j hj=>by
    rw [row_is_numeral hF j hj,add_plain,World.cell?_drewN]
    exact cell?_putRow (fun (b:UInt8)=>Value.int .u8 (b.toNat:Int)) _ w.heap.size 0 _ dk HH0.out (by rw [hF.size,Array.size_replicate]) j (by rw [hF.size]; rw [decDigits_length] at hj; exact hj))
   rw [decDigits_length] at h
   exact h
  obtain ⟨os,-,eo⟩:=putRow_grow_new (fun (b:UInt8)=>Value.int .u8 (b.toNat:Int)) w #[.cells zeros24 351] w.heap.size 0 dk (Nat.le_refl _)
  have hfr:Fr w ((putRow (fun (b:UInt8)=>Value.int .u8 (b.toNat:Int)) (w.alloc (.cells zeros24 351)) w.heap.size 0 dk).drewN k):=by
   rw [alloc_eq_grow,eo]
   exact fr_grow w k os
  replace hfr:=hZ hfr
  clear eo
  go_wp2
  go_ret
  exact ⟨by rw [hte.out]; rfl,hfr.out⟩
theorem DOf (u:Nat) (hu64:u < 18446744073709551616) (w:World) (hG:G w) :
 Calls Tryz.prog 213 #[.int .u64 u] w fun e w'=>e=.returned (.string (tx (u:Int)))∧Fr w w':=by
 have h1:∀ W:World,G W→Calls Tryz.prog 260 #[.int .u64 u,.int .i64 10] W fun e w'=>e=.returned (.string (tx (u:Int)))∧Fr W w':=fun W hW=>by
  go_enter Tryz.func260,Tryz.ntmps260
  go_wp2_with fail
  refine (FormatU u hu64 _ hW).mono ?_
  rintro e w1 ⟨rfl,hf⟩
  go_wp2_with fail
  go_ret
  exact ⟨rfl,hf⟩
 replace h1:=hZ h1
 go_enter Tryz.func213,Tryz.ntmps213
 go_wp2_with fail
 refine (h1.out _ hG).mono ?_
 rintro e w1 ⟨rfl,hf⟩
 go_wp2_with fail
 go_ret
 exact ⟨rfl,hf⟩
theorem DMul (u v:Nat) (hs:(tx (u:Int)).size+(tx (v:Int)).size≤18) (h1:u < 1000000000000000000) (h2:v < 1000000000000000000) (h3:u * v < 18446744073709551616) (w:World) (hG:G w) :
 Calls Tryz.prog 153 #[.string (tx (u:Int)),.string (tx (v:Int))] w fun e w'=>e=.returned (.string (tx ((u * v:Nat):Int)))∧Fr w w':=by
 have c1:=hZ (fun W=>Dboth u v (by omega) (by omega) h1 h2 W)
 have c2:=hZ (fun W (hW:G W)=>DOf (u * v) h3 W hW)
 have d1:decide (((tx (u:Int)).size:Int)+((tx (v:Int)).size:Int)≤18)=true:=decide_eq_true (by omega)
 have e3:((u:Int) * (v:Int))=((u * v:Nat):Int):=by rw [Int.natCast_mul]
 have e4:=hZ e3
 have h4:(u:Int) * (v:Int) < 18446744073709551616:=by omega
 have h5:(0:Int)≤(u:Int) * (v:Int):=by omega
 generalize tx (u:Int)=s at *
 generalize tx (v:Int)=t at *
 go_enter Tryz.func153,Tryz.ntmps153
 go_wp2_with fail
 refine (c1.out _).mono ?_
 rintro e w1 ⟨rfl,hf1⟩
 have c3:=c2.out w1 (hG.fr hf1)
 rw [← e3] at c3
 clear e3 h3
 go_wp2_with fail
 refine c3.mono ?_
 rintro e w2 ⟨rfl,hf2⟩
 go_wp2_with fail
 go_ret
 exact ⟨by rw [← e4.out]; rfl,hf1.trans hf2⟩
end Go.Proofs.YtmalpgbbddkdcaaGreatDoor
namespace Go.Proofs.YtmalpgbbddkdcaaGreatDoor
open Go.RowKit Go.Lib
attribute [local go_sem ↓] Go.wp_at_zero Go.wp_at_succ


def M2 (a b:Int):Prop:=(a.natAbs < 1000000000000∧b.natAbs < 10000)∨(a.natAbs < 10000∧b.natAbs < 1000000000000)∨(a.natAbs < 100000000∧b.natAbs < 100000000)
instance (a b:Int):Decidable (M2 a b):=inferInstanceAs (Decidable (_∨_∨_))
theorem size9_lt {n:Int} (h:(tx n).size≤9):n.natAbs < 1000000000:=by
 have h:(tx (n.natAbs:Int)).size≤9:=by
  rcases Int.lt_or_le n 0 with h9 | h9
  ·have:=tx_neg_size n h9
   rw [show (n.natAbs:Int)=-n by omega]; omega
  ·rw [show (n.natAbs:Int)=n by omega]; exact h
 rw [tx_size,itoa_nn (Int.natCast_nonneg _),Int.toNat_natCast] at h
 have h1:=(digVal_bound (decDigits n.natAbs) 0 (dec_digits _)).2
 rw [digVal_dec,Nat.zero_add,Nat.one_mul] at h1
 have h2:10 ^ (decDigits n.natAbs).length≤10 ^ 9:=Nat.pow_le_pow_right (by decide) h
 exact Nat.lt_of_lt_of_le h1 h2
def okM (x y:Rat):Prop:=M2 x.num y.num∧M2 x.den y.den
instance (x y:Rat):Decidable (okM x y):=inferInstanceAs (Decidable (_∧_))
def okA (x y:Rat):Prop:=M2 x.num y.den∧M2 y.num x.den∧M2 x.den y.den
instance (x y:Rat):Decidable (okA x y):=inferInstanceAs (Decidable (_∧_))


section
variable {P:Program} {ops:Array Oper} {Q:Exit→Act→World→Prop} {md:Region.Mode} {S:World→Prop} {n:Nat}
def wpAnyT (P:Program) (md:Region.Mode) (ops:Array Oper) (Q:Exit→Act→World→Prop) (S:World→Prop) (n:Nat):Nat→Array Bool→Act→World→Prop
 | 0,listed,a,w=>Region.ready md ops listed=[]∧Q .normal a w
 | fuel+1,listed,a,w=>
   (Region.ready md ops listed=[]→Q .normal a w) ∧
   ∀ i ∈ Region.ready md ops listed,wpOp P ops Q i (fun a' w'=>(i≠n→S w')∧wpAnyT P md ops Q S n fuel (listed.setIfInBounds i true) a' w') a w
theorem wpAny_of_T:∀ (fuel:Nat) (listed:Array Bool) (a:Act) (w:World),wpAnyT P md ops Q S n fuel listed a w→wpAny P md ops Q fuel listed a w
 | 0,_,_,_,h=>h
 | fuel+1,_,_,_,h=>⟨h.1,fun i hi=>wpOp_mono (fun a' w' h'=>wpAny_of_T fuel _ a' w' h'.2) (h.2 i hi)⟩
def lastB (md:Region.Mode) (ops:Array Oper) (n:Nat):Bool:=(List.range ops.size).all fun i=>decide (i=n) || Region.waitsFor md ops n i
theorem last_no {listed:Array Bool} {i:Nat} (hl:lastB md ops n=true) (hi:i < ops.size) (hin:i≠n) (hun:listed.getD i true=false):n ∉ Region.ready md ops listed:=fun hr=>by
 have h1:=List.all_eq_true.1 hl i (List.mem_range.2 hi)
 simp only [Bool.or_eq_true,decide_eq_true_eq] at h1
 rcases h1 with h1 | h1
 ·exact hin h1
 ·obtain ⟨o',ho',e,he,hb,hon⟩:=Region.waitsFor_spec h1
  obtain ⟨_,ot,hot,hall⟩:=mem_ready.1 hr
  have:o'=ot:=Option.some.inj (ho'.symm.trans hot)
  subst this
  have h2:=hall e he hb
  rw [hon,getD_both hun] at h2
  cases h2
theorem wpAnyT_first {i:Nat} {oi:Oper} {v:Value} (hi:ops[i]?=some oi) (hl:lastB md ops n=true) (hin:i≠n) (hsel:∀ (j:Nat) (o:Oper) cs b,ops[j]?=some o→o.op≠.select cs b)
 (hQ:∀ c a w,Q (.panic c) (a.put oi.dst v) w→Q (.panic c) a w) :
 ∀ (fuel:Nat) (listed:Array Bool) (a:Act) (w:World),
   (∀ j oj,ops[j]?=some oj→j≠i→listed.getD j true=false→(∀ e ∈ oj.after,Region.binds md e=true→e.on≠i)→oi.apart ops oj=true) →
   i ∈ Region.ready md ops listed→YieldsIf P ops S oi v a→S w →
   wpAnyT P md ops Q S n fuel (listed.setIfInBounds i true) (a.put oi.dst v) w→wpAnyT P md ops Q S n (fuel+1) listed a w:=by
 have hisz:i < ops.size:=(Array.getElem?_eq_some_iff.1 hi).1
 intro fuel
 induction fuel with
 | zero=>
   intro listed a w _ hr hy hS H
   refine ⟨fun h=>(by rw [h] at hr; cases hr),fun j hj=>?_⟩
   by_cases hji:j=i
   ·subst hji; exact hy.wpOp hi hS ⟨fun _=>hS,H⟩
   ·have:=ready_mono hj hji
    rw [H.1] at this
    cases this
 | succ fuel ih=>
   intro listed a w hfree hr hy hS H
   refine ⟨fun h=>(by rw [h] at hr; cases hr),fun j hj=>?_⟩
   by_cases hji:j=i
   ·subst hji; exact hy.wpOp hi hS ⟨fun _=>hS,H⟩
   ·have h1:=H.2 j (ready_mono hj hji)
    have hjn:j≠n:=fun e=>last_no hl hisz hin (mem_ready.1 hr).1 (e ▸ hj)
    obtain ⟨hjun,oj,hoj,hall⟩:=mem_ready.1 hj
    have hnot:∀ e ∈ oj.after,Region.binds md e=true→e.on≠i:=fun e he hb heq=>by
     have h1:=hall e he hb
     have h0:=(mem_ready.1 hr).1
     rw [heq,getD_both h0] at h1
     cases h1
    have h2:=wpOp_putIf hoj (hfree j oj hoj hji hjun hnot) (fun cs b=>hsel i oi cs b hi) (fun cs b=>hsel j oj cs b hoj) hQ hy h1
    have hfree':∀ k ok,ops[k]?=some ok→k≠i→(listed.setIfInBounds j true).getD k true=false →
     (∀ e ∈ ok.after,Region.binds md e=true→e.on≠i)→oi.apart ops ok=true:=fun k ok hk hki hun hno=>by
     refine hfree k ok hk hki ?_ hno
     by_cases hjk:j=k
     ·subst hjk; exact hjun
     ·rw [getD_set_ne true hjk] at hun; exact hun
    refine wpOp_mono (fun a' w' h3=>⟨fun _=>h3.2.1 hjn,ih (listed.setIfInBounds j true) a' w' hfree' (ready_mono hr (Ne.symm hji)) h3.1 (h3.2.1 hjn) ?_⟩) h2
    rw [Array.setIfInBounds_comm _ _ hji]
    exact h3.2.2
theorem wpAnyT_take {i:Nat} {oi:Oper} {v:Value} {fuel:Nat} {listed:Array Bool} {a:Act} {w:World} (hi:ops[i]?=some oi) (hl:lastB md ops n=true) (hin:i≠n)
 (hs:Region.noSelect ops=true) (hf:Region.free md ops listed i=true) (hr:(Region.ready md ops listed).contains i=true)
 (hQ:∀ c a w,Q (.panic c) (a.put oi.dst v) w→Q (.panic c) a w) (hy:YieldsIf P ops S oi v a) (hS:S w)
 (h:wpAnyT P md ops Q S n fuel (listed.setIfInBounds i true) (a.put oi.dst v) w):wpAnyT P md ops Q S n (fuel+1) listed a w :=
 wpAnyT_first hi hl hin (Region.noSelect_spec hs) hQ fuel listed a w (Region.free_spec hi hf) (by simpa using hr) hy hS h
def AllReadyT (P:Program) (md:Region.Mode) (ops:Array Oper) (Q:Exit→Act→World→Prop) (S:World→Prop) (n fuel:Nat) (listed:Array Bool) (a:Act) (w:World) (rs:List Nat):Prop :=
 ∀ i ∈ rs,wpOp P ops Q i (fun a' w'=>(i≠n→S w')∧wpAnyT P md ops Q S n fuel (listed.setIfInBounds i true) a' w') a w
theorem AllReadyT.nil {fuel:Nat} {listed:Array Bool} {a:Act} {w:World}:AllReadyT P md ops Q S n fuel listed a w []:=fun _ h=>by cases h
theorem AllReadyT.cons {fuel:Nat} {listed:Array Bool} {a:Act} {w:World} {i:Nat} {o:Oper} {rs:List Nat} (ho:ops[i]?=some o) (hin:i≠n)
 (h:∀ K':Act→World→Prop,Shut (∀ a w,S w→(S w→wpAnyT P md ops Q S n fuel (listed.setIfInBounds i true) a w)→K' a w)→if Region.wanted o (yielded ops a.tmps)=true then Oper.wp P o a w K' Q else K' (a.put o.dst undef) w)
 (hs:AllReadyT P md ops Q S n fuel listed a w rs):AllReadyT P md ops Q S n fuel listed a w (i :: rs):=fun j hj=>by
 rcases List.mem_cons.1 hj with rfl | hj
 ·exact wpOp_step ho (fun K' hK=>h K' (fun a w hS hW=>hK a w ⟨fun _=>hS,hW hS⟩))
 ·exact hs j hj
theorem AllReadyT.last {fuel:Nat} {listed:Array Bool} {a:Act} {w:World} {o:Oper} (ho:ops[n]?=some o) (hd:Region.ready md ops (listed.setIfInBounds n true)=[])
 (h:∀ K':Act→World→Prop,Shut (∀ a w,Q .normal a w→K' a w)→if Region.wanted o (yielded ops a.tmps)=true then Oper.wp P o a w K' Q else K' (a.put o.dst undef) w):AllReadyT P md ops Q S n fuel listed a w [n]:=fun j hj=>by
 rcases List.mem_cons.1 hj with rfl | hj
 ·refine wpOp_step ho (fun K' hK=>h K' (fun a w hq=>hK a w ⟨fun h=>absurd rfl h, ?_⟩))
  cases fuel with
  | zero=>exact ⟨hd,hq⟩
  | succ f=>exact ⟨fun _=>hq,by rw [hd]; intro i hi; cases hi⟩
 ·cases hj
theorem wpAnyT_ready {rs:List Nat} {fuel:Nat} {listed:Array Bool} {a:Act} {w:World} (hr:Region.ready md ops listed=rs) (hne:rs≠[])
 (h:AllReadyT P md ops Q S n fuel listed a w rs):wpAnyT P md ops Q S n (fuel+1) listed a w :=
 ⟨fun h0=>absurd (hr ▸ h0) hne,hr ▸ h⟩
theorem wp_region_T {id:Nat} {a:Act} {w:World} (n:Nat) (hm:P.follows .mixedOrders=true) (hS:S w.drew)
 (h:S w.drew→wpAnyT P .any ops Q S n ops.size (Array.replicate ops.size false) a w.drew):(Code.region id ops true).wp P Q a w :=
 wp_region_any hm (wpAny_of_T _ _ _ _ (h hS))
end
section
variable {P:Program} {ops:Array Oper} {Q:Exit→Act→World→Prop} {md:Region.Mode} {S:World→Prop} {n:Nat}
def wpAnyU (P:Program) (md:Region.Mode) (ops:Array Oper) (Q:Exit→Act→World→Prop) (S:World→Prop) (n:Nat):Nat→Array Bool→Act→World→Prop
 | 0,listed,a,w=>Region.ready md ops listed=[]∧Q .normal a w
 | fuel+1,listed,a,w=>
   (Region.ready md ops listed=[]→Q .normal a w) ∧
   ∀ i ∈ Region.ready md ops listed,wpOp P ops Q i (fun a' w'=>((listed.setIfInBounds i true).getD n true=false→S w')∧wpAnyU P md ops Q S n fuel (listed.setIfInBounds i true) a' w') a w
theorem wpAny_of_U:∀ (fuel:Nat) (listed:Array Bool) (a:Act) (w:World),wpAnyU P md ops Q S n fuel listed a w→wpAny P md ops Q fuel listed a w
 | 0,_,_,_,h=>h
 | fuel+1,_,_,_,h=>⟨h.1,fun i hi=>wpOp_mono (fun a' w' h'=>wpAny_of_U fuel _ a' w' h'.2) (h.2 i hi)⟩
theorem waits_no {listed:Array Bool} {i:Nat} (hw:Region.waitsFor md ops n i=true) (hun:listed.getD i true=false):n ∉ Region.ready md ops listed:=fun hr=>by
 obtain ⟨o',ho',e,he,hb,hon⟩:=Region.waitsFor_spec hw
 obtain ⟨_,ot,hot,hall⟩:=mem_ready.1 hr
 have:o'=ot:=Option.some.inj (ho'.symm.trans hot)
 subst this
 have h2:=hall e he hb
 rw [hon,getD_both hun] at h2
 cases h2
theorem wpAnyU_first {i:Nat} {oi:Oper} {v:Value} (hi:ops[i]?=some oi) (hw:Region.waitsFor md ops n i=true) (hin:i≠n) (hsel:∀ (j:Nat) (o:Oper) cs b,ops[j]?=some o→o.op≠.select cs b)
 (hQ:∀ c a w,Q (.panic c) (a.put oi.dst v) w→Q (.panic c) a w) :
 ∀ (fuel:Nat) (listed:Array Bool) (a:Act) (w:World),
   (∀ j oj,ops[j]?=some oj→j≠i→listed.getD j true=false→(∀ e ∈ oj.after,Region.binds md e=true→e.on≠i)→oi.apart ops oj=true) →
   i ∈ Region.ready md ops listed→YieldsIf P ops S oi v a→S w→listed.getD n true=false →
   wpAnyU P md ops Q S n fuel (listed.setIfInBounds i true) (a.put oi.dst v) w→wpAnyU P md ops Q S n (fuel+1) listed a w:=by
 have hisz:i < ops.size:=(Array.getElem?_eq_some_iff.1 hi).1
 intro fuel
 induction fuel with
 | zero=>
   intro listed a w _ hr hy hS hnu H
   refine ⟨fun h=>(by rw [h] at hr; cases hr),fun j hj=>?_⟩
   by_cases hji:j=i
   ·subst hji; exact hy.wpOp hi hS ⟨fun _=>hS,H⟩
   ·have:=ready_mono hj hji
    rw [H.1] at this
    cases this
 | succ fuel ih=>
   intro listed a w hfree hr hy hS hnu H
   refine ⟨fun h=>(by rw [h] at hr; cases hr),fun j hj=>?_⟩
   by_cases hji:j=i
   ·subst hji; exact hy.wpOp hi hS ⟨fun _=>hS,H⟩
   ·have h1:=H.2 j (ready_mono hj hji)
    have hjn:j≠n:=fun e=>waits_no hw (mem_ready.1 hr).1 (e ▸ hj)
    obtain ⟨hjun,oj,hoj,hall⟩:=mem_ready.1 hj
    have hnot:∀ e ∈ oj.after,Region.binds md e=true→e.on≠i:=fun e he hb heq=>by
     have h1:=hall e he hb
     have h0:=(mem_ready.1 hr).1
     rw [heq,getD_both h0] at h1
     cases h1
    have h2:=wpOp_putIf hoj (hfree j oj hoj hji hjun hnot) (fun cs b=>hsel i oi cs b hi) (fun cs b=>hsel j oj cs b hoj) hQ hy h1
    have hfree':∀ k ok,ops[k]?=some ok→k≠i→(listed.setIfInBounds j true).getD k true=false →
     (∀ e ∈ ok.after,Region.binds md e=true→e.on≠i)→oi.apart ops ok=true:=fun k ok hk hki hun hno=>by
     refine hfree k ok hk hki ?_ hno
     by_cases hjk:j=k
     ·subst hjk; exact hjun
     ·rw [getD_set_ne true hjk] at hun; exact hun
    have hnj:(listed.setIfInBounds j true).getD n true=false:=by rw [getD_set_ne true hjn]; exact hnu
    have hnij:((listed.setIfInBounds i true).setIfInBounds j true).getD n true=false:=by rw [getD_set_ne true hjn,getD_set_ne true hin]; exact hnu
    refine wpOp_mono (fun a' w' h3=>⟨fun _=>h3.2.1 hnij,ih (listed.setIfInBounds j true) a' w' hfree' (ready_mono hr (Ne.symm hji)) h3.1 (h3.2.1 hnij) hnj ?_⟩) h2
    rw [Array.setIfInBounds_comm _ _ hji]
    exact h3.2.2
theorem wpAnyU_firstT {i:Nat} {oi:Oper} {v:Value} (hi:ops[i]?=some oi) (hin:i≠n) (hsel:∀ (j:Nat) (o:Oper) cs b,ops[j]?=some o→o.op≠.select cs b)
 (hQ:∀ c a w,Q (.panic c) (a.put oi.dst v) w→Q (.panic c) a w) :
 ∀ (fuel:Nat) (listed:Array Bool) (a:Act) (w:World),
   (∀ j oj,ops[j]?=some oj→j≠i→listed.getD j true=false→(∀ e ∈ oj.after,Region.binds md e=true→e.on≠i)→oi.apart ops oj=true) →
   i ∈ Region.ready md ops listed→YieldsIf P ops (fun _=>True) oi v a→(listed.getD n true=false→S w) →
   wpAnyU P md ops Q S n fuel (listed.setIfInBounds i true) (a.put oi.dst v) w→wpAnyU P md ops Q S n (fuel+1) listed a w:=by
 have hisz:i < ops.size:=(Array.getElem?_eq_some_iff.1 hi).1
 intro fuel
 induction fuel with
 | zero=>
   intro listed a w _ hr hy hS H
   refine ⟨fun h=>(by rw [h] at hr; cases hr),fun j hj=>?_⟩
   by_cases hji:j=i
   ·subst hji; exact hy.wpOp hi trivial ⟨fun h=>hS (by rw [getD_set_ne true hin] at h; exact h),H⟩
   ·have:=ready_mono hj hji
    rw [H.1] at this
    cases this
 | succ fuel ih=>
   intro listed a w hfree hr hy hS H
   refine ⟨fun h=>(by rw [h] at hr; cases hr),fun j hj=>?_⟩
   by_cases hji:j=i
   ·subst hji; exact hy.wpOp hi trivial ⟨fun h=>hS (by rw [getD_set_ne true hin] at h; exact h),H⟩
   ·have h1:=H.2 j (ready_mono hj hji)
    obtain ⟨hjun,oj,hoj,hall⟩:=mem_ready.1 hj
    have hnot:∀ e ∈ oj.after,Region.binds md e=true→e.on≠i:=fun e he hb heq=>by
     have h1:=hall e he hb
     have h0:=(mem_ready.1 hr).1
     rw [heq,getD_both h0] at h1
     cases h1
    have h2:=wpOp_putIf hoj (hfree j oj hoj hji hjun hnot) (fun cs b=>hsel i oi cs b hi) (fun cs b=>hsel j oj cs b hoj) hQ hy h1
    have hfree':∀ k ok,ops[k]?=some ok→k≠i→(listed.setIfInBounds j true).getD k true=false →
     (∀ e ∈ ok.after,Region.binds md e=true→e.on≠i)→oi.apart ops ok=true:=fun k ok hk hki hun hno=>by
     refine hfree k ok hk hki ?_ hno
     by_cases hjk:j=k
     ·subst hjk; exact hjun
     ·rw [getD_set_ne true hjk] at hun; exact hun
    have hno:(listed.setIfInBounds j true).getD n true=false→((listed.setIfInBounds i true).setIfInBounds j true).getD n true=false:=fun h=>by
     rw [Array.setIfInBounds_comm _ _ (Ne.symm hji),getD_set_ne true hin]; exact h
    refine wpOp_mono (fun a' w' h3=>⟨fun h=>h3.2.1 (hno h),ih (listed.setIfInBounds j true) a' w' hfree' (ready_mono hr (Ne.symm hji)) h3.1 (fun h=>h3.2.1 (hno h)) ?_⟩) h2
    rw [Array.setIfInBounds_comm _ _ hji]
    exact h3.2.2
theorem wpAnyU_take {i:Nat} {oi:Oper} {v:Value} {fuel:Nat} {listed:Array Bool} {a:Act} {w:World} (hi:ops[i]?=some oi) (hw:Region.waitsFor md ops n i=true) (hin:i≠n)
 (hs:Region.noSelect ops=true) (hf:Region.free md ops listed i=true) (hr:(Region.ready md ops listed).contains i=true) (hnu:listed.getD n true=false)
 (hQ:∀ c a w,Q (.panic c) (a.put oi.dst v) w→Q (.panic c) a w) (hy:YieldsIf P ops S oi v a) (hS:S w)
 (h:wpAnyU P md ops Q S n fuel (listed.setIfInBounds i true) (a.put oi.dst v) w):wpAnyU P md ops Q S n (fuel+1) listed a w :=
 wpAnyU_first hi hw hin (Region.noSelect_spec hs) hQ fuel listed a w (Region.free_spec hi hf) (by simpa using hr) hy hS hnu h
theorem lsT {α:Type} (l:List α) (i:Nat) (a:α):l.toArray.setIfInBounds i a=(l.set i a).toArray:=List.setIfInBounds_toArray ..
theorem ls0 {α:Type} (x a:α) (l:List α):(x :: l).set 0 a=a :: l:=rfl
theorem lsS {α:Type} (x a:α) (l:List α) (n:Nat):(x :: l).set (n+1) a=x :: l.set n a:=rfl
def uB (md:Region.Mode) (ops:Array Oper) (i n:Nat) (listed:Array Bool):Bool:=Region.waitsFor md ops n i && !(i == n) && Region.noSelect ops && Region.free md ops listed i && (Region.ready md ops listed).contains i && !listed.getD n true
theorem uT (i:Nat) {oi:Oper} {v:Value} {fuel:Nat} {listed:Array Bool} {a:Act} {w:World} (hi:ops[i]?=some oi) (hb:uB md ops i n listed=true) (hy:YieldsIf P ops S oi v a) (hS:S w)
 (h:wpAnyU P md ops Q S n fuel (listed.setIfInBounds i true) (a.put oi.dst v) w) (hQ:∀ c a w,Q (.panic c) (a.put oi.dst v) w→Q (.panic c) a w:=by exact fun _ _ _ h=>h):wpAnyU P md ops Q S n (fuel+1) listed a w:=by
 unfold uB at hb
 simp only [Bool.and_eq_true,Bool.not_eq_true',beq_eq_false_iff_ne] at hb
 obtain ⟨⟨⟨⟨⟨h1,h2⟩,h3⟩,h4⟩,h5⟩,h6⟩:=hb
 exact wpAnyU_take hi h1 h2 h3 h4 h5 h6 hQ hy hS h
theorem uM (i j:Nat) {oi:Oper} {v:Value} {fuel:Nat} {listed:Array Bool} {a:Act} {w:World} (h:wpAnyU P md ops Q S n fuel (listed.setIfInBounds i true) { a with tmps:=a.tmps.setIfInBounds j v } w) (hi:ops[i]?=some oi:=by rfl) (hd:oi.dst=some j:=by rfl) (hb:uB md ops i n listed=true:=by kernel_rfl) (hw:Region.wanted oi (yielded ops a.tmps)=true:=by rfl)
 (hy:∀ w,S w→(execOp a.eval oi).run P w=.ok (.value v) w:=by (intro w hSw; (try dsimp only at hSw); go_simp; try (with_reducible rfl))) (hS:S w:=by assumption) (hQ:∀ c a w,Q (.panic c) (a.put oi.dst v) w→Q (.panic c) a w:=by exact fun _ _ _ h=>h):wpAnyU P md ops Q S n (fuel+1) listed a w :=
 uT i hi hb (.inl ⟨hw,hy⟩) hS (by rw [hd]; exact h) hQ
theorem wpAnyU_takeT {i:Nat} {oi:Oper} {v:Value} {fuel:Nat} {listed:Array Bool} {a:Act} {w:World} (hi:ops[i]?=some oi) (hin:i≠n)
 (hs:Region.noSelect ops=true) (hf:Region.free md ops listed i=true) (hr:(Region.ready md ops listed).contains i=true)
 (hQ:∀ c a w,Q (.panic c) (a.put oi.dst v) w→Q (.panic c) a w) (hy:YieldsIf P ops (fun _=>True) oi v a) (hS:S w)
 (h:wpAnyU P md ops Q S n fuel (listed.setIfInBounds i true) (a.put oi.dst v) w):wpAnyU P md ops Q S n (fuel+1) listed a w :=
 wpAnyU_firstT hi hin (Region.noSelect_spec hs) hQ fuel listed a w (Region.free_spec hi hf) (by simpa using hr) hy (fun _=>hS) h
theorem uD (i:Nat) {o:Oper} {fuel:Nat} {listed:Array Bool} {a:Act} {w:World} (h:∀ K':Act→World→Prop,Shut (∀ a w,wpAnyU P md ops Q S n fuel (listed.setIfInBounds i true) a w→K' a w)→if Region.wanted o (yielded ops a.tmps)=true then Oper.wp P o a w K' Q else K' (a.put o.dst undef) w)
 (hr:Region.ready md ops listed=[i]:=by kernel_rfl) (ho:ops[i]?=some o:=by rfl) (hln:(listed.setIfInBounds i true).getD n true=true:=by kernel_rfl):wpAnyU P md ops Q S n (fuel+1) listed a w :=
 ⟨fun h0=>(by rw [hr] at h0; cases h0),fun j hj=>by
  rw [hr] at hj
  rcases List.mem_cons.1 hj with rfl | hj
  ·exact wpOp_step ho (fun K' hK=>h K' (fun a w hW=>hK a w ⟨fun h=>(by rw [hln] at h; cases h),hW⟩))
  ·cases hj⟩
theorem uE {fuel:Nat} {listed:Array Bool} {a:Act} {w:World} (h:Q .normal a w) (hr:Region.ready md ops listed=[]:=by kernel_rfl):wpAnyU P md ops Q S n fuel listed a w:=by
 cases fuel with
 | zero=>exact ⟨hr,h⟩
 | succ f=>exact ⟨fun _=>h,by rw [hr]; intro i hi; cases hi⟩
theorem hK (i:Nat) {oi:Oper} {v:Value} {fuel:Nat} {listed:Array Bool} {a:Act} {w:World} (h:wpAnyH P md ops Q S fuel (listed.setIfInBounds i true) (a.put oi.dst v) w) (hi:ops[i]?=some oi:=by rfl) (hs:Region.noSelect ops=true:=by kernel_rfl) (hf:Region.free md ops listed i=true:=by kernel_rfl) (hr:(Region.ready md ops listed).contains i=true:=by kernel_rfl)
 (hw:Region.wanted oi (yielded ops a.tmps)=true:=by rfl) (hy:∀ w,S w→(execOp a.eval oi).run P w=.ok (.value v) w:=by (intro w hSw; (try dsimp only at hSw); go_simp; try (with_reducible rfl))) (hS:S w:=by assumption) (hQ:∀ c a w,Q (.panic c) (a.put oi.dst v) w→Q (.panic c) a w:=by exact fun _ _ _ h=>h):wpAnyH P md ops Q S (fuel+1) listed a w :=
 wpAnyH_take hi hs hf hr hQ (.inl ⟨hw,hy⟩) hS h
theorem hN (i:Nat) {oi:Oper} {fuel:Nat} {listed:Array Bool} {a:Act} {w:World} (h:wpAnyH P md ops Q S fuel (listed.setIfInBounds i true) (a.put oi.dst undef) w) (hi:ops[i]?=some oi:=by rfl) (hs:Region.noSelect ops=true:=by kernel_rfl) (hf:Region.free md ops listed i=true:=by kernel_rfl) (hr:(Region.ready md ops listed).contains i=true:=by kernel_rfl)
 (hw:Region.wanted oi (yielded ops a.tmps)=false:=by rfl) (hS:S w:=by assumption) (hQ:∀ c a w,Q (.panic c) (a.put oi.dst undef) w→Q (.panic c) a w:=by exact fun _ _ _ h=>h):wpAnyH P md ops Q S (fuel+1) listed a w :=
 wpAnyH_take hi hs hf hr hQ (.inr ⟨hw,rfl⟩) hS h
theorem hC (i:Nat) {o:Oper} {fuel:Nat} {listed:Array Bool} {a:Act} {w:World} (h:∀ K':Act→World→Prop,Shut (∀ a w,S w→(S w→wpAnyH P md ops Q S fuel (listed.setIfInBounds i true) a w)→K' a w)→if Region.wanted o (yielded ops a.tmps)=true then Oper.wp P o a w K' Q else K' (a.put o.dst undef) w)
 (hr:Region.ready md ops listed=[i]:=by kernel_rfl) (ho:ops[i]?=some o:=by rfl):wpAnyH P md ops Q S (fuel+1) listed a w :=
 wpAnyH_ready hr (by simp) (AllReadyH.cons ho h AllReadyH.nil)
theorem wp_region_U {id:Nat} {a:Act} {w:World} (n:Nat) (hm:P.follows .mixedOrders=true) (hS:S w.drew)
 (h:S w.drew→wpAnyU P .any ops Q S n ops.size (Array.replicate ops.size false) a w.drew):(Code.region id ops true).wp P Q a w :=
 wp_region_any hm (wpAny_of_U _ _ _ _ (h hS))
end
end Go.Proofs.YtmalpgbbddkdcaaGreatDoor
