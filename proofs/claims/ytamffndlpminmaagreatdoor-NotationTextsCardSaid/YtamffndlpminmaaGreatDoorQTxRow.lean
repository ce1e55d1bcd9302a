/-
  Contracts and laws for the statements of the seat, QTxRow.
-/
import Derived.Test.YtamffndlpminmaaGreatDoorQDoorD
import Derived.Test.YtamffndlpminmaaGreatDoorQTx2
import Derived.ChangeMaps5

/- The joined row of schismalaw42.NotationTexts: proved for every input. -/
namespace Go.Proofs.YtamffndlpminmaaGreatDoor
set_option maxRecDepth 100000
open Go.ChangeShapes Go.WideShapes Go.ChangeAt Go.RowKit

set_option maxHeartbeats 1000000 in
theorem texts42_lifted (os : Os) (started : os.Started) (H : Type) (enc : TypeId × Value → H) :
    ReturnsInHanded {} Tryz.checked os 4 .any (fun w args => (Rows.notationTextsSpec.pre enc Tryz.prog Tryz.f4 [] false w args ∧ laidMetH Tryz.prog LL w) ∧ sizedMet enc Tryz.prog Tryz.f4 (OpenSpec.ofChange Rows.notationTextsSpec) false w args)
      (Rows.notationTextsSpec.post enc Tryz.prog Tryz.f4 false true false false) := by
  refine handed_and_shaped (C := Tryz.checked) (X := fun w _ => laidMetH Tryz.prog LL w) (fun _ _ _ hh h => h.of_heap hh) seatOwn started (by kernel_rfl) Tryz.func4
    (ChangeSpec.witness_shaped (enc := enc) (C := Tryz.checked) (os := os) (X := fun w _ => laidMetH Tryz.prog LL w) false (World.laidAll Tryz.prog os LL) #[.agg #[.int .u8 0, .slice none 0 0, .int .i8 0, .int .i8 0, .int .i8 0, .int .i8 0, .int .i8 0, .int .i8 0, .int .i8 0, .int .i8 0, .int .i8 0], .agg #[.int .i64 0, .slice none 0 0]] 8 (World.laidAll_os _ _ _) (World.shaped_of_ZipB (by kernel_rfl) (by kernel_rfl)) (by kernel_rfl) (by kernel_rfl) (by kernel_rfl) (door_met os _)) ?_
  intro W base args ds gs before hval0 hW hL hsh
  have hval : ∀ (j : Nat) t v, Tryz.f4.params[j]? = some t → args[j]? = some v → Value.okWide Tryz.prog W .any base t v := hval0
  have hW' := hW
  obtain ⟨p, q, hA0, hV, rfl, hfz, hnd⟩ := hW
  have hA : DataW.TrodAll enc Tryz.prog W 0 (fun _ => true) true Tryz.f4.params.toList args.toList ds p := hA0
  rw [Tryz.params4] at hA hval
  obtain ⟨v0, v1, d0, d1, p0, p1, rfl, rfl, rfl, h0, h1⟩ := trodAll_two hA
  obtain ⟨rfl, rfl⟩ := trodVars_none hV
  have h0k := h0
  have h1k := h1
  obtain ⟨cs, rfl, hsz, -⟩ : ∃ cs, v0 = .agg cs ∧ cs.size = Tryz.prog.cellsOf 27 ∧ Row.okWide Tryz.prog W .any base 27 cs := by
    have := hval 0 27 v0 rfl rfl
    simpa [Value.okWide, Tryz.underlying27] using this
  obtain ⟨ct, rfl, hst, -⟩ : ∃ cs, v1 = .agg cs ∧ cs.size = Tryz.prog.cellsOf 31 ∧ Row.okWide Tryz.prog W .any base 31 cs := by
    have := hval 1 31 v1 rfl rfl
    simpa [Value.okWide, Tryz.underlying31] using this
  obtain ⟨l1⟩ := cs
  obtain ⟨l2⟩ := ct
  obtain ⟨fu0, h0⟩ := h0
  obtain ⟨fu1, h1⟩ := h1
  obtain ⟨R, a, L, c, b0, b1, b2, b3, b4, b5, b6, b7, b8, rfl, hR, hL3, hL8, hB8⟩ := open_draft (l := l1) h0
  obtain ⟨i, ca, xs, cc, rfl, hel⟩ := open_spell (l := l2) h1
  have hG := G_of_laid hL
  have hlt := hW'.lt
  clear hA0 hval0 h0 h1
  simp only [List.append_nil] at hW' hlt
  refine (NotationTexts_any R hR.1 hR.2 L a c b0 b1 b2 b3 b4 b5 b6 b7 b8 i xs ca cc W hG (max_of_shaped hsh) hL3 hL8 hB8 hel).mono fun e W' ⟨he, hw⟩ => ?_
  subst he
  have hb : Below W.heap.size W W' := hw
  have t0 := Below.trod seatOut readDraft typesDraft h0k hb (fun z hz => by simpa using hlt z (by simp [hz]))
  have t1 := Below.trod seatOut readSpell typesSpell h1k hb (fun z hz => by simpa using hlt z (by simp [hz]))
  refine ⟨_, rfl, _, _, _, [], p0 ++ p1, [], by simpa using hW', ?_, ?_, ?_, hb.frame _, fun h => by cases h⟩
  · exact trodAll_mk1 (shut_bool Tryz.underlying4 true)
  · exact trodAll_mk2 t0 t1
  · rfl

set_option maxHeartbeats 4000000 in
theorem texts42_facts : joinedFacts Tryz.prog 4 Tryz.f4 Rows.notationTextsSpec Rows.notationTextsRow = true := by
  unfold joinedFacts
  repeat' (with_reducible refine and_mk ?_ ?_)
  all_goals (as_aux_lemma => kernel_rfl)
set_option maxHeartbeats 4000000 in
theorem texts42_wrap : Tryz.f4.isWrapper Tryz.prog Rows.notationTextsRow.wrapper Rows.notationTextsRow.mainSum := by
  unfold Func.isWrapper
  rw [if_neg (by decide +kernel)]
  exact ⟨rfl, rfl⟩
theorem texts42_inst : Tryz.f4.isInstance Tryz.prog Rows.notationTextsRow.origin Rows.notationTextsRow.targs := of_decide_eq_true (by kernel_rfl)
theorem texts42_named : Tryz.prog.funcNamed Rows.notationTextsRow.func = some 4 := by kernel_rfl
theorem texts42_holds : Rows.NotationTextsSaid :=
  OpenClaim.holds_of_wide 4 Tryz.f4 rfl rfl rfl rfl rfl rfl rfl ⟨rfl, rfl, rfl, rfl, rfl⟩ rfl rfl rfl rfl rfl texts42_named Tryz.func4 texts42_facts
    texts42_inst texts42_wrap
    (fun os started H enc _ => texts42_lifted os started H enc)
end Go.Proofs.YtamffndlpminmaaGreatDoor
