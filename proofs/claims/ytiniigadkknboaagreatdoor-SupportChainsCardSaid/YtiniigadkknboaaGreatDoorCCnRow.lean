/- Contracts and laws: CCnRow. -/
import Derived.ChangeMaps5
import Derived.Test.YtiniigadkknboaaGreatDoorCDR
import Derived.Test.YtiniigadkknboaaGreatDoorCBM

/- The joined row of schismalaw22.SupportChains: proved for every input. -/
namespace Go.Proofs.YtiniigadkknboaaGreatDoor
set_option maxRecDepth 100000
open Go.ChangeShapes Go.WideShapes Go.ChangeAt Go.RowKit

set_option maxHeartbeats 1000000 in
theorem chains22_lifted (os:Os) (started:os.Started) (H:Type) (enc:TypeId×Value→H) :
 ReturnsInHanded {} Tryz.checked os 4 .any (fun w args=>(Rows.supportChainsSpec.pre enc Tryz.prog Tryz.f4 [] false w args∧laidMetH Tryz.prog LL w)∧sizedMet enc Tryz.prog Tryz.f4 (OpenSpec.ofChange Rows.supportChainsSpec) false w args)
  (Rows.supportChainsSpec.post enc Tryz.prog Tryz.f4 false true false false):=by
 refine handed_and_shaped (C:=Tryz.checked) (X:=fun w _=>laidMetH Tryz.prog LL w) (fun _ _ _ hh h=>h.of_heap hh) seatOwn started (by kernel_rfl) Tryz.func4
  (ChangeSpec.witness_shaped (enc:=enc) (C:=Tryz.checked) (os:=os) (X:=fun w _=>laidMetH Tryz.prog LL w) false (World.laidAll Tryz.prog os LL) #[.agg #[.int .u8 0,.slice none 0 0,.bool false],.agg #[.int .i8 0,.int .i8 0,.int .i8 0,.int .i8 0,.int .i8 0,.int .i8 0,.int .i8 0,.int .i8 0,.int .i64 0],.slice none 0 0] 8 (World.laidAll_os _ _ _) (World.shaped_of_ZipB (by kernel_rfl) (by kernel_rfl)) (by kernel_rfl) (by kernel_rfl) (by kernel_rfl) (door_met os _)) ?_
 intro W base args ds gs before hval0 hW hL _
 have hval:∀ (j:Nat) t v,Tryz.f4.params[j]?=some t→args[j]?=some v→Value.okWide Tryz.prog W .any base t v:=hval0
 have hW':=hW
 obtain ⟨p,q,hA0,hV,rfl,hfz,hnd⟩:=hW
 have hA:DataW.TrodAll enc Tryz.prog W 0 (fun _=>true) true Tryz.f4.params.toList args.toList ds p:=hA0
 rw [Tryz.params4] at hA hval
 obtain ⟨v0,v1,v2,d0,d1,d2,p0,p1,p2,rfl,rfl,rfl,h0,h1,h2⟩:=trodAll_three hA
 obtain ⟨rfl,rfl⟩:=trodVars_none hV
 have h0k:=h0
 have h1k:=h1
 have h2k:=h2
 obtain ⟨np,qa,QL,qc,vals,rfl,hnp,hQ,hQ8⟩:=open_tplanV (hval 0 42 v0 rfl rfl) h0
 obtain ⟨a0,a1,a2,a3,b0,b1,b2,b3,cnt,rfl,hA4,hB4⟩:=open_linksV (hval 1 46 v1 rfl rfl) h1
 obtain ⟨va,xs,vc,rfl,hv,-⟩:=open_rowV (hval 2 33 v2 rfl rfl) h2
 have hG:=G_of_laid hL
 have hE:=ErX_of_laid hL
 have hlt:=hW'.lt
 clear hA0 hval0 h0 h1 h2
 simp only [List.append_nil] at hW' hlt
 refine (SupportChains_any np qa QL qc vals a0 a1 a2 a3 b0 b1 b2 b3 cnt xs va vc W hG hE hnp hQ hQ8 hA4 hB4 hv).mono fun e W' ⟨he,hw⟩=>?_
 subst he
 have hb:Below W.heap.size W W':=hw
 have t0:=Below.trod seatOut readTPlan typesT h0k hb (fun z hz=>by simpa using hlt z (by simp [hz]))
 have t1:=Below.trod seatOut readLinks typesU.1 h1k hb (fun z hz=>by simpa using hlt z (by simp [hz]))
 have t2:=Below.trod seatOut readRowS typesS.2.2.2.1 h2k hb (fun z hz=>by simpa using hlt z (by simp [hz]))
 refine ⟨_,rfl,_,_,_,[],p0 ++ (p1 ++ p2),[],by simpa using hW', ?_, ?_, ?_,hb.frame _,fun h=>by cases h⟩
 ·exact trodAll_mk1 (shut_bool Tryz.underlying4 true)
 ·exact trodAll_mk3 t0 t1 t2
 ·rfl

set_option maxHeartbeats 4000000 in
theorem chains22_facts:joinedFacts Tryz.prog 4 Tryz.f4 Rows.supportChainsSpec Rows.supportChainsRow=true:=by
 unfold joinedFacts
 repeat' (with_reducible refine and_mkS ?_ ?_)
 all_goals (as_aux_lemma=>kernel_rfl)
set_option maxHeartbeats 4000000 in
theorem chains22_wrap:Tryz.f4.isWrapper Tryz.prog Rows.supportChainsRow.wrapper Rows.supportChainsRow.mainSum:=by
 unfold Func.isWrapper
 rw [if_neg (by decide +kernel)]
 exact ⟨rfl,rfl⟩
theorem chains22_inst:Tryz.f4.isInstance Tryz.prog Rows.supportChainsRow.origin Rows.supportChainsRow.targs:=of_decide_eq_true (by kernel_rfl)
theorem chains22_named:Tryz.prog.funcNamed Rows.supportChainsRow.func=some 4:=by kernel_rfl
theorem chains22_holds:Rows.SupportChainsSaid :=
 OpenClaim.holds_of_wide 4 Tryz.f4 rfl rfl rfl rfl rfl rfl rfl ⟨rfl,rfl,rfl,rfl,rfl⟩ rfl rfl rfl rfl rfl chains22_named Tryz.func4 chains22_facts
  chains22_inst chains22_wrap
  (fun os started H enc _=>chains22_lifted os started H enc)
end Go.Proofs.YtiniigadkknboaaGreatDoor
