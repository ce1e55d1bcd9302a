/-
  Contracts and laws for the statements of the seat, QNmRow.
-/
import Derived.Test.YtlfehkcmclppjaaGreatDoorQR
import Derived.Test.YtlfehkcmclppjaaGreatDoorQKn
import Derived.ChangeMaps5

/- The joined row of schismalaw42.NotationNames: proved for every input. -/
namespace Go.Proofs.YtlfehkcmclppjaaGreatDoor
set_option maxRecDepth 100000
open Go.ChangeShapes Go.WideShapes Go.ChangeAt Go.RowKit

theorem readStr : Tryz.prog.readableRec 9 = true := by kernel_rfl
theorem typesStr : 9 < Tryz.prog.types.size := of_decide_eq_true (by kernel_rfl)
set_option maxHeartbeats 1000000 in
theorem names42_lifted (os : Os) (started : os.Started) (H : Type) (enc : TypeId × Value → H) :
    ReturnsInHanded {} Tryz.checked os 3 .any (fun w args => (Rows.notationNamesSpec.pre enc Tryz.prog Tryz.f3 [] false w args ∧ laidMetH Tryz.prog LL w) ∧ sizedMet enc Tryz.prog Tryz.f3 (OpenSpec.ofChange Rows.notationNamesSpec) false w args)
      (Rows.notationNamesSpec.post enc Tryz.prog Tryz.f3 false true false false) := by
  refine handed_and_shaped (C := Tryz.checked) (X := fun w _ => laidMetH Tryz.prog LL w) (fun _ _ _ hh h => h.of_heap hh) seatOwn started (by kernel_rfl) Tryz.func3
    (ChangeSpec.witness_shaped (enc := enc) (C := Tryz.checked) (os := os) (X := fun w _ => laidMetH Tryz.prog LL w) false (World.laidAll Tryz.prog os LL) #[.string ⟨#[]⟩] 8 (World.laidAll_os _ _ _) (World.shaped_of_ZipB (by kernel_rfl) (by kernel_rfl)) (by kernel_rfl) (by kernel_rfl) (by kernel_rfl) (door_met os _)) ?_
  intro W base args ds gs before hval0 hW hL hsh
  have hval : ∀ (j : Nat) t v, Tryz.f3.params[j]? = some t → args[j]? = some v → Value.okWide Tryz.prog W .any base t v := hval0
  have hW' := hW
  obtain ⟨p, q, hA0, hV, rfl, hfz, hnd⟩ := hW
  have hA : DataW.TrodAll enc Tryz.prog W 0 (fun _ => true) true Tryz.f3.params.toList args.toList ds p := hA0
  rw [Tryz.params3] at hA hval
  obtain ⟨v0, d0, rfl, rfl, h0⟩ := trodAll_one hA
  obtain ⟨rfl, rfl⟩ := trodVars_none hV
  have h0k := h0
  obtain ⟨s, rfl, hs⟩ : ∃ s : ByteArray, v0 = .string s ∧ True := by
    obtain ⟨s, rfl, -⟩ := Go.ChangeMaps.open_string Tryz.underlying9 (hval 0 9 v0 rfl rfl) h0
    exact ⟨s, rfl, trivial⟩
  have hG := G_of_laid hL
  have hlt := hW'.lt
  clear hA0 hval0 h0
  simp only [List.append_nil] at hW' hlt
  refine (NotationNames_any s W hG (max_of_shaped hsh)).mono fun e W' ⟨he, hw⟩ => ?_
  subst he
  have hb : Below W.heap.size W W' := hw
  have t0 := Below.trod seatOut readStr typesStr h0k hb (fun z hz => by simpa using hlt z (by simp [hz]))
  refine ⟨_, rfl, _, _, _, [], p, [], by simpa using hW', ?_, ?_, ?_, hb.frame _, fun h => by cases h⟩
  · exact trodAll_mk1 (shut_bool Tryz.underlying4 true)
  · exact trodAll_mk1 t0
  · rfl

theorem and_mk {a b : Bool} (ha : a = true) (hb : b = true) : (a && b) = true := by rw [ha, hb]; rfl
set_option maxHeartbeats 4000000 in
theorem names42_facts : joinedFacts Tryz.prog 3 Tryz.f3 Rows.notationNamesSpec Rows.notationNamesRow = true := by
  unfold joinedFacts
  repeat' (with_reducible refine and_mk ?_ ?_)
  all_goals (as_aux_lemma => kernel_rfl)
set_option maxHeartbeats 4000000 in
theorem names42_wrap : Tryz.f3.isWrapper Tryz.prog Rows.notationNamesRow.wrapper Rows.notationNamesRow.mainSum := by
  unfold Func.isWrapper
  rw [if_neg (by decide +kernel)]
  exact ⟨rfl, rfl⟩
theorem names42_inst : Tryz.f3.isInstance Tryz.prog Rows.notationNamesRow.origin Rows.notationNamesRow.targs := of_decide_eq_true (by kernel_rfl)
theorem names42_named : Tryz.prog.funcNamed Rows.notationNamesRow.func = some 3 := by kernel_rfl
theorem names42_holds : Rows.NotationNamesSaid :=
  OpenClaim.holds_of_wide 3 Tryz.f3 rfl rfl rfl rfl rfl rfl rfl ⟨rfl, rfl, rfl, rfl, rfl⟩ rfl rfl rfl rfl rfl names42_named Tryz.func3 names42_facts
    names42_inst names42_wrap
    (fun os started H enc _ => names42_lifted os started H enc)
end Go.Proofs.YtlfehkcmclppjaaGreatDoor
