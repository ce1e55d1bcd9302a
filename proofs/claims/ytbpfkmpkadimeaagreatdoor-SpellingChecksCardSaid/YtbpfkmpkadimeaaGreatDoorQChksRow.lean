/-
  Contracts and laws for the statements of the law 43 of the seat, QChksRow.
-/
import Derived.Test.YtbpfkmpkadimeaaGreatDoorQR
import Derived.Test.YtbpfkmpkadimeaaGreatDoorQChks

/- The joined row of schismalaw43.SpellingChecks: proved for every input. -/
namespace Go.Proofs.YtbpfkmpkadimeaaGreatDoor
set_option maxRecDepth 100000
open Go.ChangeShapes Go.WideShapes Go.ChangeAt Go.RowKit

set_option maxHeartbeats 1000000 in
theorem checks43_lifted (os : Os) (started : os.Started) (H : Type) (enc : TypeId × Value → H) :
    ReturnsInHanded {} Tryz.checked os 4 .any (fun w args => (Rows.spellingChecksSpec.pre enc Tryz.prog Tryz.f4 [] false w args ∧ laidMetH Tryz.prog LL w) ∧ sizedMet enc Tryz.prog Tryz.f4 (OpenSpec.ofChange Rows.spellingChecksSpec) false w args)
      (Rows.spellingChecksSpec.post enc Tryz.prog Tryz.f4 false true false false) := by
  refine returnsInHanded_of_change_and (C := Tryz.checked) (X := fun w _ => laidMetH Tryz.prog LL w) (fun _ _ _ hh h => h.of_heap hh) seatOwn started (by kernel_rfl) Tryz.func4
    (ChangeSpec.witness_shaped (enc := enc) (C := Tryz.checked) (os := os) (X := fun w _ => laidMetH Tryz.prog LL w) false (World.doorLaid Tryz.prog 62 os) #[.agg #[.slice none 0 0, .slice none 0 0]] 8 rfl (World.shaped_of_RefB (by kernel_rfl) (by kernel_rfl)) (by kernel_rfl) (by kernel_rfl) (by kernel_rfl) (door_met os _)) ?_
  intro W base args ds gs before hval0 hW _ _ hL _
  have hval : ∀ (j : Nat) t v, Tryz.f4.params[j]? = some t → args[j]? = some v → Value.okWide Tryz.prog W .any base t v := hval0
  have hW' := hW
  obtain ⟨p, q, hA0, hV, rfl, hfz, hnd⟩ := hW
  have hA : DataW.TrodAll enc Tryz.prog W 0 (fun _ => true) true Tryz.f4.params.toList args.toList ds p := hA0
  rw [Tryz.params4] at hA hval
  obtain ⟨v0, d0, rfl, rfl, h0⟩ := trodAll_one hA
  obtain ⟨rfl, rfl⟩ := trodVars_none hV
  obtain ⟨cs, rfl, hsz, -⟩ : ∃ cs, v0 = .agg cs ∧ cs.size = Tryz.prog.cellsOf 31 ∧ Row.okWide Tryz.prog W .any base 31 cs := by
    have := hval 0 31 v0 rfl rfl
    simpa [Value.okWide, Tryz.underlying31] using this
  obtain ⟨l⟩ := cs
  have h0k := h0
  obtain ⟨fu0, h0⟩ := h0
  obtain ⟨aN, aA, N, A, cN, cA, rfl, hn, hnN, hNl, hAl⟩ := open_not (l := l) h0
  have hG := G_of_laid hL
  have hlt := hW'.lt
  clear hA0 hval0 h0
  simp only [List.append_nil] at hW' hlt
  refine (SpellingChecks_any aN aA cN cA N A W hG hn hnN hNl hAl).mono fun e W' ⟨he, hw⟩ => ?_
  subst he
  have hb : Below W.heap.size W W' := hw
  have t0 := Below.trod seatOut readNot typesN h0k hb (fun z hz => by simpa using hlt z (by simp [hz]))
  refine ⟨_, rfl, _, _, _, [], p, [], by simpa using hW', ?_, ?_, ?_, hb.frame _, fun h => by cases h⟩
  · exact trodAll_mk1 (shut_bool Tryz.underlying4 true)
  · exact trodAll_mk1 t0
  · rfl

theorem and_mk {a b : Bool} (ha : a = true) (hb : b = true) : (a && b) = true := by rw [ha, hb]; rfl
set_option maxHeartbeats 4000000 in
theorem checks43_facts : joinedFacts Tryz.prog 4 Tryz.f4 Rows.spellingChecksSpec Rows.spellingChecksRow = true := by
  unfold joinedFacts
  repeat' (with_reducible refine and_mk ?_ ?_)
  all_goals (as_aux_lemma => kernel_rfl)
set_option maxHeartbeats 4000000 in
theorem checks43_wrap : Tryz.f4.isWrapper Tryz.prog Rows.spellingChecksRow.wrapper Rows.spellingChecksRow.mainSum := by
  unfold Func.isWrapper
  rw [if_neg (by decide +kernel)]
  exact ⟨rfl, rfl⟩
theorem checks43_inst : Tryz.f4.isInstance Tryz.prog Rows.spellingChecksRow.origin Rows.spellingChecksRow.targs := of_decide_eq_true (by kernel_rfl)
theorem checks43_named : Tryz.prog.funcNamed Rows.spellingChecksRow.func = some 4 := by kernel_rfl
theorem checks43_holds : Rows.SpellingChecksSaid :=
  OpenClaim.holds_of_wide 4 Tryz.f4 rfl rfl rfl rfl rfl rfl rfl ⟨rfl, rfl, rfl, rfl, rfl⟩ rfl rfl rfl rfl rfl checks43_named Tryz.func4 checks43_facts
    checks43_inst checks43_wrap
    (fun os started H enc _ => checks43_lifted os started H enc)
end Go.Proofs.YtbpfkmpkadimeaaGreatDoor
