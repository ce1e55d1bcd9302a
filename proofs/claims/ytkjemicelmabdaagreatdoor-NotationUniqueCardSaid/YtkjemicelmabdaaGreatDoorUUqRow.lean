/- Contracts and laws: UUqRow. -/
import Derived.Test.YtkjemicelmabdaaGreatDoorUDoorD
import Derived.Test.YtkjemicelmabdaaGreatDoorUUq
import Derived.ChangeMaps5

/- The joined row of schismalaw42.NotationUnique: proved for every input. -/
namespace Go.Proofs.YtkjemicelmabdaaGreatDoor
set_option maxRecDepth 100000
open Go.ChangeShapes Go.WideShapes Go.ChangeAt Go.RowKit

set_option maxHeartbeats 1000000 in
theorem KR (os:Os) (started:os.Started) (H:Type) (enc:TypeId×Value→H) :
 ReturnsInHanded {} Tryz.checked os 6 .any (fun w args=>(Rows.notationUniqueSpec.pre enc Tryz.prog Tryz.f6 [] false w args∧laidMetH Tryz.prog LL w)∧sizedMet enc Tryz.prog Tryz.f6 (OpenSpec.ofChange Rows.notationUniqueSpec) false w args)
  (Rows.notationUniqueSpec.post enc Tryz.prog Tryz.f6 false true false false):=by
 refine JI (C:=Tryz.checked) (X:=fun w _=>laidMetH Tryz.prog LL w) (fun _ _ _ hh h=>h.of_heap hh) V9 started (by kernel_rfl) Tryz.func6
  (ChangeSpec.witness_shaped (enc:=enc) (C:=Tryz.checked) (os:=os) (X:=fun w _=>laidMetH Tryz.prog LL w) false (World.laidAll Tryz.prog os LL) #[.agg #[.int .u8 0,.slice none 0 0,.int .i8 0,.int .i8 0,.int .i8 0,.int .i8 0,.int .i8 0,.int .i8 0,.int .i8 0,.int .i8 0,.int .i8 0]] 8 (World.laidAll_os _ _ _) (World.shaped_of_ZipB (by kernel_rfl) (by kernel_rfl)) (by kernel_rfl) (by kernel_rfl) (by kernel_rfl) (U4 os _)) ?_
 intro W base args ds gs before hval0 hW hL hsh
 have hval:∀ (j:Nat) t v,Tryz.f6.params[j]?=some t→args[j]?=some v→Value.okWide Tryz.prog W .any base t v:=hval0
 have hW':=hW
 obtain ⟨p,q,hA0,hV,rfl,hfz,hnd⟩:=hW
 have hA:DataW.TrodAll enc Tryz.prog W 0 (fun _=>true) true Tryz.f6.params.toList args.toList ds p:=hA0
 rw [Tryz.params6] at hA hval
 obtain ⟨v0,d0,rfl,rfl,h0⟩:=trodAll_one hA
 obtain ⟨rfl,rfl⟩:=trodVars_none hV
 have h0k:=h0
 obtain ⟨cs,rfl,hsz,-⟩:∃ cs,v0=.agg cs∧cs.size=Tryz.prog.cellsOf 27∧Row.okWide Tryz.prog W .any base 27 cs:=by
  have:=hval 0 27 v0 rfl rfl
  simpa [Value.okWide,Tryz.underlying27] using this
 obtain ⟨l1⟩:=cs
 obtain ⟨fu0,h0⟩:=h0
 obtain ⟨R,a,L,c,b0,b1,b2,b3,b4,b5,b6,b7,b8,rfl,hR,hL3,hL8,hB8⟩:=QK (l:=l1) h0
 have hG:=Tz hL
 have hlt:=hW'.lt
 clear hA0 hval0 h0
 simp only [Bq] at hW' hlt
 refine (Jc R hR.1 hR.2 L a c b0 b1 b2 b3 b4 b5 b6 b7 b8 W hG (Rl hL) (MO hsh) hL3 hL8 hB8).mono fun e W' ⟨he,hw⟩=>?_
 subst he
 have hb:Below W.heap.size W W':=hw
 have t0:=Below.trod Wa SI Qv h0k hb (fun z hz=>by simpa using hlt z (by simp [hz]))
 refine ⟨_,rfl,_,_,_,[],p,[],by simpa using hW', ?_, ?_, ?_,hb.frame _,fun h=>by cases h⟩
 ·exact trodAll_mk1 (shut_bool Tryz.underlying4 true)
 ·exact trodAll_mk1 t0
 ·rfl

set_option maxHeartbeats 4000000 in
theorem Li:joinedFacts Tryz.prog 6 Tryz.f6 Rows.notationUniqueSpec Rows.notationUniqueRow=true:=by
 unfold joinedFacts
 repeat' (with_reducible refine Ye ?_ ?_)
 all_goals (as_aux_lemma=>kernel_rfl)
set_option maxHeartbeats 4000000 in
theorem MJ:Tryz.f6.isWrapper Tryz.prog Rows.notationUniqueRow.wrapper Rows.notationUniqueRow.mainSum:=by
 unfold Func.isWrapper
 rw [Aj (by decide +kernel)]
 exact ⟨rfl,rfl⟩
theorem MK:Tryz.f6.isInstance Tryz.prog Rows.notationUniqueRow.origin Rows.notationUniqueRow.targs:=Au (by kernel_rfl)
theorem HH:Tryz.prog.funcNamed Rows.notationUniqueRow.func=some 6:=by kernel_rfl
theorem Lh:Rows.NotationUniqueSaid :=
 OpenClaim.holds_of_wide 6 Tryz.f6 rfl rfl rfl rfl rfl rfl rfl ⟨rfl,rfl,rfl,rfl,rfl⟩ rfl rfl rfl rfl rfl HH Tryz.func6 Li
  MK MJ
  (fun os started H enc _=>KR os started H enc)
end Go.Proofs.YtkjemicelmabdaaGreatDoor
