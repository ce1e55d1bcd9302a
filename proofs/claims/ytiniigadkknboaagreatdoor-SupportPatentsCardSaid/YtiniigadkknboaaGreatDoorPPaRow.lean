/- Contracts and laws: PPaRow. -/
import Derived.ChangeMaps5
import Derived.Test.YtiniigadkknboaaGreatDoorPDR
import Derived.Test.YtiniigadkknboaaGreatDoorPBL

/- The joined row of schismalaw22.SupportPatents: proved for every input. -/
namespace Go.Proofs.YtiniigadkknboaaGreatDoor
set_option maxRecDepth 100000
open Go.ChangeShapes Go.WideShapes Go.ChangeAt Go.RowKit

set_option maxHeartbeats 1000000 in
theorem pats22_lifted (os:Os) (started:os.Started) (H:Type) (enc:TypeId×Value→H) :
 ReturnsInHanded {} Tryz.checked os 5 .any (fun w args=>(Rows.supportPatentsSpec.pre enc Tryz.prog Tryz.f5 [] false w args∧laidMetH Tryz.prog LL w)∧sizedMet enc Tryz.prog Tryz.f5 (OpenSpec.ofChange Rows.supportPatentsSpec) false w args)
  (Rows.supportPatentsSpec.post enc Tryz.prog Tryz.f5 false true false false):=by
 refine handed_and_shaped (C:=Tryz.checked) (X:=fun w _=>laidMetH Tryz.prog LL w) (fun _ _ _ hh h=>h.of_heap hh) seatOwn started (by kernel_rfl) Tryz.func5
  (ChangeSpec.witness_shaped (enc:=enc) (C:=Tryz.checked) (os:=os) (X:=fun w _=>laidMetH Tryz.prog LL w) false (World.laidAll Tryz.prog os LL) #[.agg #[.int .u8 0,.slice none 0 0,.bool false],.int .u8 0] 8 (World.laidAll_os _ _ _) (World.shaped_of_ZipB (by kernel_rfl) (by kernel_rfl)) (by kernel_rfl) (by kernel_rfl) (by kernel_rfl) (door_met os _)) ?_
 intro W base args ds gs before hval0 hW hL _
 have hval:∀ (j:Nat) t v,Tryz.f5.params[j]?=some t→args[j]?=some v→Value.okWide Tryz.prog W .any base t v:=hval0
 have hW':=hW
 obtain ⟨p,q,hA0,hV,rfl,hfz,hnd⟩:=hW
 have hA:DataW.TrodAll enc Tryz.prog W 0 (fun _=>true) true Tryz.f5.params.toList args.toList ds p:=hA0
 rw [Tryz.params5] at hA hval
 obtain ⟨v0,v1,d0,d1,p0,p1,rfl,rfl,rfl,h0,h1⟩:=trodAll_two hA
 obtain ⟨rfl,rfl⟩:=trodVars_none hV
 have h0k:=h0
 have h1k:=h1
 obtain ⟨np,qa,QL,qc,vals,rfl,hnp,hQ,hQ8⟩:=open_tplanV (hval 0 42 v0 rfl rfl) h0
 obtain ⟨n,rfl,hn⟩:=open_u8V (hval 1 5 v1 rfl rfl) h1
 have hG:=G_of_laid hL
 have hE:=ErX_of_laid hL
 have hlt:=hW'.lt
 clear hA0 hval0 h0 h1
 simp only [List.append_nil] at hW' hlt
 refine (SupportPatents_any np qa QL qc vals n W hG hE hnp hQ hQ8 hn).mono fun e W' ⟨he,hw⟩=>?_
 subst he
 have hb:Below W.heap.size W W':=hw
 have t0:=Below.trod seatOut readTPlan typesT h0k hb (fun z hz=>by simpa using hlt z (by simp [hz]))
 have t1:=Below.trod seatOut readU8 typesS.1 h1k hb (fun z hz=>by simpa using hlt z (by simp [hz]))
 refine ⟨_,rfl,_,_,_,[],p0 ++ p1,[],by simpa using hW', ?_, ?_, ?_,hb.frame _,fun h=>by cases h⟩
 ·exact trodAll_mk1 (shut_bool Tryz.underlying4 true)
 ·exact trodAll_mk2 t0 t1
 ·rfl

set_option maxHeartbeats 4000000 in
theorem pats22_facts:joinedFacts Tryz.prog 5 Tryz.f5 Rows.supportPatentsSpec Rows.supportPatentsRow=true:=by
 unfold joinedFacts
 repeat' (with_reducible refine and_mkS ?_ ?_)
 all_goals (as_aux_lemma=>kernel_rfl)
set_option maxHeartbeats 4000000 in
theorem pats22_wrap:Tryz.f5.isWrapper Tryz.prog Rows.supportPatentsRow.wrapper Rows.supportPatentsRow.mainSum:=by
 unfold Func.isWrapper
 rw [if_neg (by decide +kernel)]
 exact ⟨rfl,rfl⟩
theorem pats22_inst:Tryz.f5.isInstance Tryz.prog Rows.supportPatentsRow.origin Rows.supportPatentsRow.targs:=of_decide_eq_true (by kernel_rfl)
theorem pats22_named:Tryz.prog.funcNamed Rows.supportPatentsRow.func=some 5:=by kernel_rfl
theorem pats22_holds:Rows.SupportPatentsSaid :=
 OpenClaim.holds_of_wide 5 Tryz.f5 rfl rfl rfl rfl rfl rfl rfl ⟨rfl,rfl,rfl,rfl,rfl⟩ rfl rfl rfl rfl rfl pats22_named Tryz.func5 pats22_facts
  pats22_inst pats22_wrap
  (fun os started H enc _=>pats22_lifted os started H enc)
end Go.Proofs.YtiniigadkknboaaGreatDoor
