/-
  Contracts and laws for the statements of the seat, QDgRow.
-/
import Derived.Test.YtamffndlpminmaaGreatDoorQDoorR
import Derived.Test.YtamffndlpminmaaGreatDoorQDg
import Derived.ChangeMaps5

/- The joined row of schismalaw42.NotationDegrees: proved for every input. -/
namespace Go.Proofs.YtamffndlpminmaaGreatDoor
set_option maxRecDepth 100000
open Go.ChangeShapes Go.WideShapes Go.ChangeAt Go.RowKit

set_option maxHeartbeats 1000000 in
theorem degrees42_lifted (os : Os) (started : os.Started) (H : Type) (enc : TypeId × Value → H) :
    ReturnsInHanded {} Tryz.checked os 6 .any (fun w args => (Rows.notationDegreesSpec.pre enc Tryz.prog Tryz.f6 [] false w args ∧ laidMetH Tryz.prog LL w) ∧ sizedMet enc Tryz.prog Tryz.f6 (OpenSpec.ofChange Rows.notationDegreesSpec) false w args)
      (Rows.notationDegreesSpec.post enc Tryz.prog Tryz.f6 false true false false) := by
  refine handed_and_shaped (C := Tryz.checked) (X := fun w _ => laidMetH Tryz.prog LL w) (fun _ _ _ hh h => h.of_heap hh) seatOwn started (by kernel_rfl) Tryz.func6
    (ChangeSpec.witness_shaped (enc := enc) (C := Tryz.checked) (os := os) (X := fun w _ => laidMetH Tryz.prog LL w) false (World.laidAll Tryz.prog os LL) #[.slice none 0 0, .string ⟨#[]⟩] 8 (World.laidAll_os _ _ _) (World.shaped_of_ZipB (by kernel_rfl) (by kernel_rfl)) (by kernel_rfl) (by kernel_rfl) (by kernel_rfl) (door_met os _)) ?_
  intro W base args ds gs before hval0 hW hL hsh
  have hval : ∀ (j : Nat) t v, Tryz.f6.params[j]? = some t → args[j]? = some v → Value.okWide Tryz.prog W .any base t v := hval0
  have hW' := hW
  obtain ⟨p, q, hA0, hV, rfl, hfz, hnd⟩ := hW
  have hA : DataW.TrodAll enc Tryz.prog W 0 (fun _ => true) true Tryz.f6.params.toList args.toList ds p := hA0
  rw [Tryz.params6] at hA hval
  obtain ⟨v0, v1, d0, d1, p0, p1, rfl, rfl, rfl, h0, h1⟩ := trodAll_two hA
  obtain ⟨rfl, rfl⟩ := trodVars_none hV
  have h0k := h0
  have h1k := h1
  obtain ⟨a0, n0, c0, rfl⟩ := okWide_slice Tryz.underlying54 (hval 0 54 v0 rfl rfl)
  obtain ⟨s, rfl, hs⟩ : ∃ s : ByteArray, v1 = .string s ∧ True := by
    obtain ⟨s, rfl, -⟩ := Go.ChangeMaps.open_string Tryz.underlying9 (hval 1 9 v1 rfl rfl) h1
    exact ⟨s, rfl, trivial⟩
  obtain ⟨fu0, h0⟩ := h0
  obtain ⟨a, xs, c, e0, hel⟩ := open_names h0
  have e1 : [Value.slice a0 n0 c0] = [.slice a xs.length c] := e0
  injection e1 with e1 _
  injection e1 with e1 e2 e3
  subst e1 e2 e3
  have hG := G_of_laid hL
  have hlt := hW'.lt
  clear hA0 hval0 h0 h1
  simp only [List.append_nil] at hW' hlt
  refine (NotationDegrees_any xs a0 c0 s W hG (max_of_shaped hsh) hel).mono fun e W' ⟨he, hw⟩ => ?_
  subst he
  have hb : Below W.heap.size W W' := hw
  have t0 := Below.trod seatOut readStrs typesStrs h0k hb (fun z hz => by simpa using hlt z (by simp [hz]))
  have t1 := Below.trod seatOut readStr typesStr h1k hb (fun z hz => by simpa using hlt z (by simp [hz]))
  refine ⟨_, rfl, _, _, _, [], p0 ++ p1, [], by simpa using hW', ?_, ?_, ?_, hb.frame _, fun h => by cases h⟩
  · exact trodAll_mk1 (shut_bool Tryz.underlying4 true)
  · exact trodAll_mk2 t0 t1
  · rfl

set_option maxHeartbeats 4000000 in
theorem degrees42_facts : joinedFacts Tryz.prog 6 Tryz.f6 Rows.notationDegreesSpec Rows.notationDegreesRow = true := by
  unfold joinedFacts
  repeat' (with_reducible refine and_mk ?_ ?_)
  all_goals (as_aux_lemma => kernel_rfl)
set_option maxHeartbeats 4000000 in
theorem degrees42_wrap : Tryz.f6.isWrapper Tryz.prog Rows.notationDegreesRow.wrapper Rows.notationDegreesRow.mainSum := by
  unfold Func.isWrapper
  rw [if_neg (by decide +kernel)]
  exact ⟨rfl, rfl⟩
theorem degrees42_inst : Tryz.f6.isInstance Tryz.prog Rows.notationDegreesRow.origin Rows.notationDegreesRow.targs := of_decide_eq_true (by kernel_rfl)
theorem degrees42_named : Tryz.prog.funcNamed Rows.notationDegreesRow.func = some 6 := by kernel_rfl
theorem degrees42_holds : Rows.NotationDegreesSaid :=
  OpenClaim.holds_of_wide 6 Tryz.f6 rfl rfl rfl rfl rfl rfl rfl ⟨rfl, rfl, rfl, rfl, rfl⟩ rfl rfl rfl rfl rfl degrees42_named Tryz.func6 degrees42_facts
    degrees42_inst degrees42_wrap
    (fun os started H enc _ => degrees42_lifted os started H enc)
end Go.Proofs.YtamffndlpminmaaGreatDoor
