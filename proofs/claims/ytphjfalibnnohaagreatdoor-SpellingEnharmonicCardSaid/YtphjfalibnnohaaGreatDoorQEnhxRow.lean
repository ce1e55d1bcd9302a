/-
  Contracts and laws for the statements of the law 43 of the seat, QEnhxRow.
-/
import Derived.Test.YtphjfalibnnohaaGreatDoorQR
import Derived.Test.YtphjfalibnnohaaGreatDoorQEnhx

/- The joined row of schismalaw43.SpellingEnharmonic: proved for every input. -/
namespace Go.Proofs.YtphjfalibnnohaaGreatDoor
set_option maxRecDepth 100000
open Go.ChangeShapes Go.WideShapes Go.ChangeAt Go.RowKit

set_option maxHeartbeats 1000000 in
theorem enh_lifted (os : Os) (started : os.Started) (H : Type) (enc : TypeId × Value → H) :
    ReturnsInHanded {} Tryz.checked os 4 .any (fun w args => (Rows.spellingEnharmonicSpec.pre enc Tryz.prog Tryz.f4 [] false w args ∧ laidMetH Tryz.prog LL w) ∧ sizedMet enc Tryz.prog Tryz.f4 (OpenSpec.ofChange Rows.spellingEnharmonicSpec) false w args)
      (Rows.spellingEnharmonicSpec.post enc Tryz.prog Tryz.f4 false true false false) := by
  refine returnsInHanded_of_change_and (C := Tryz.checked) (X := fun w _ => laidMetH Tryz.prog LL w) (fun _ _ _ hh h => h.of_heap hh) seatOwn started (by kernel_rfl) Tryz.func4
    (ChangeSpec.witness_shaped (enc := enc) (C := Tryz.checked) (os := os) (X := fun w _ => laidMetH Tryz.prog LL w) false (World.doorLaid Tryz.prog 62 os) #[.agg #[.bool false, .int .u8 0, .int .u8 0, .int .i8 0, .int .i8 0, .int .i8 0, .int .i8 0, .int .i8 0, .int .i8 0, .int .i8 0, .int .i8 0, .int .i8 0, .int .i8 0, .int .i8 0, .int .i8 0, .int .i8 0, .int .i8 0], .agg #[.int .i64 0, .slice none 0 0], .int .i64 0] 8 rfl (World.shaped_of_RefB (by kernel_rfl) (by kernel_rfl)) (by kernel_rfl) (by kernel_rfl) (by kernel_rfl) (door_met os _)) ?_
  intro W base args ds gs before hval0 hW _ _ hL _
  have hval : ∀ (j : Nat) t v, Tryz.f4.params[j]? = some t → args[j]? = some v → Value.okWide Tryz.prog W .any base t v := hval0
  have hW' := hW
  obtain ⟨p, q, hA0, hV, rfl, hfz, hnd⟩ := hW
  have hA : DataW.TrodAll enc Tryz.prog W 0 (fun _ => true) true Tryz.f4.params.toList args.toList ds p := hA0
  rw [Tryz.params4] at hA hval
  obtain ⟨v0, v1, v2, d0, d1, d2, p0, p1, p2, rfl, rfl, rfl, h0, h1, h2⟩ := trodAll_three hA
  obtain ⟨rfl, rfl⟩ := trodVars_none hV
  obtain ⟨most, rfl, rfl, rfl, wm⟩ := open_int Tryz.underlying3 (hval 2 3 v2 rfl rfl) h2
  obtain ⟨cs, rfl, hsz, -⟩ : ∃ cs, v0 = .agg cs ∧ cs.size = Tryz.prog.cellsOf 26 ∧ Row.okWide Tryz.prog W .any base 26 cs := by
    have := hval 0 26 v0 rfl rfl
    simpa [Value.okWide, Tryz.underlying26] using this
  obtain ⟨ct, rfl, hst, -⟩ : ∃ cs, v1 = .agg cs ∧ cs.size = Tryz.prog.cellsOf 42 ∧ Row.okWide Tryz.prog W .any base 42 cs := by
    have := hval 1 42 v1 rfl rfl
    simpa [Value.okWide, Tryz.underlying42] using this
  obtain ⟨l⟩ := cs
  obtain ⟨l2⟩ := ct
  have h0k := h0
  have h1k := h1
  have h2k := h2
  obtain ⟨fu0, h0⟩ := h0
  obtain ⟨fu1, h1⟩ := h1
  obtain ⟨two, nn, na, r0, r1, r2, r3, r4, r5, r6, r7, r8, r9, r10, r11, r12, r13, rfl, hnn, hna, hr⟩ := open_plan (l := l) h0
  obtain ⟨i, ca, xs, cc, rfl, hel⟩ := open_spell (l := l2) h1
  have hG := G_of_laid hL
  have hlt := hW'.lt
  clear hA0 hval0 h0 h1
  simp only [List.append_nil] at hW' hlt
  refine (SpellingEnharmonic_any two nn na r0 r1 r2 r3 r4 r5 r6 r7 r8 r9 r10 r11 r12 r13 i most xs ca cc W hG hnn hna hr hel).mono fun e W' ⟨he, hw⟩ => ?_
  subst he
  have hb : Below W.heap.size W W' := hw
  have t0 := Below.trod seatOut readPlan typesB.1 h0k hb (fun z hz => by simpa using hlt z (by simp [hz]))
  have t1 := Below.trod seatOut readSpell typesS.1 h1k hb (fun z hz => by simpa using hlt z (by simp [hz]))
  have t2 := Below.trod seatOut readInt typesS.2.2 h2k hb (fun z hz => by simp at hz)
  refine ⟨_, rfl, _, _, _, [], p0 ++ (p1 ++ []), [], hW', ?_, ?_, ?_, hb.frame _, fun h => by cases h⟩
  · exact trodAll_mk1 (shut_bool Tryz.underlying4 true)
  · exact trodAll_mk3 t0 t1 t2
  · rfl

theorem enh_holds : Rows.SpellingEnharmonicSaid :=
  OpenClaim.holds_of_wide 4 Tryz.f4 rfl rfl rfl rfl rfl rfl rfl ⟨rfl, rfl, rfl, rfl, rfl⟩ rfl rfl rfl rfl rfl (by kernel_rfl) Tryz.func4 (by kernel_rfl)
    (of_decide_eq_true (by kernel_rfl)) (by unfold Func.isWrapper; first | (rw [if_pos (by decide +kernel)]; kernel_rfl) | (rw [if_neg (by decide +kernel)]; exact ⟨rfl, rfl⟩))
    (fun os started H enc _ => enh_lifted os started H enc)
end Go.Proofs.YtphjfalibnnohaaGreatDoor
