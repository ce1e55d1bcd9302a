/- Contracts and laws: FVaRow. -/
import Derived.ChangeMaps5
import Derived.Test.YtiniigadkknboaaGreatDoorFDR
import Derived.Test.YtiniigadkknboaaGreatDoorFBR

/- The joined row of schismalaw22.SupportVals: proved for every input. -/
namespace Go.Proofs.YtiniigadkknboaaGreatDoor
set_option maxRecDepth 100000
open Go.ChangeShapes Go.WideShapes Go.ChangeAt Go.RowKit

set_option maxHeartbeats 1000000 in
theorem M1 (os:Os) (started:os.Started) (H:Type) (enc:TypeId×Value→H) :
 ReturnsInHanded {} Tryz.checked os 8 .any (fun w args=>(Rows.supportValsSpec.pre enc Tryz.prog Tryz.f8 [] false w args∧laidMetH Tryz.prog LL w)∧sizedMet enc Tryz.prog Tryz.f8 (OpenSpec.ofChange Rows.supportValsSpec) false w args)
  (Rows.supportValsSpec.post enc Tryz.prog Tryz.f8 false true false false):=by
 refine Fa (C:=Tryz.checked) (X:=fun w _=>laidMetH Tryz.prog LL w) (fun _ _ _ hh h=>h.of_heap hh) Oi started (by kernel_rfl) Tryz.func8
  (Ka (enc:=enc) (C:=Tryz.checked) (os:=os) (X:=fun w _=>laidMetH Tryz.prog LL w) false (World.laidAll Tryz.prog os LL) #[.agg #[.int .u8 0,.slice none 0 0,.bool false],.slice none 0 0] 8 (World.laidAll_os _ _ _) (World.shaped_of_ZipB (by kernel_rfl) (by kernel_rfl)) (by kernel_rfl) (by kernel_rfl) (by kernel_rfl) (Mv os _)) ?_
 intro W base args ds gs before hval0 hW hL _
 have hval:∀ (j:Nat) t v,Tryz.f8.params[j]?=some t→args[j]?=some v→Value.okWide Tryz.prog W .any base t v:=hval0
 have hW':=hW
 obtain ⟨p,q,hA0,hV,rfl,hfz,hnd⟩:=hW
 have hA:DataW.TrodAll enc Tryz.prog W 0 (fun _=>true) true Tryz.f8.params.toList args.toList ds p:=hA0
 rw [Tryz.params8] at hA hval
 obtain ⟨v0,v1,d0,d1,p0,p1,rfl,rfl,rfl,h0,h1⟩:=trodAll_two hA
 obtain ⟨rfl,rfl⟩:=trodVars_none hV
 have h0k:=h0
 have h1k:=h1
 obtain ⟨np,qa,QL,qc,vals,rfl,hnp,hQ,hQ8⟩:=KW (hval 0 42 v0 rfl rfl) h0
 obtain ⟨va,xs,vc,rfl,hv,-⟩:=TP (hval 1 33 v1 rfl rfl) h1
 have hG:=KH hL
 have hE:=Ir hL
 have hlt:=hW'.lt
 clear hA0 hval0 h0 h1
 simp only [Cc] at hW' hlt
 refine (Le np qa QL qc vals xs va vc W hG hE hnp hQ hQ8 hv).mono fun e W' ⟨he,hw⟩=>?_
 subst he
 have hb:Below W.heap.size W W':=hw
 have t0:=Below.trod Gy Nu US h0k hb (fun z hz=>by simpa using hlt z (by simp [hz]))
 have t1:=Below.trod Gy Vg N9.2.2.2.1 h1k hb (fun z hz=>by simpa using hlt z (by simp [hz]))
 refine ⟨_,rfl,_,_,_,[],p0 ++ p1,[],by simpa using hW', ?_, ?_, ?_,hb.frame _,fun h=>by cases h⟩
 ·exact trodAll_mk1 (shut_bool Tryz.underlying4 true)
 ·exact trodAll_mk2 t0 t1
 ·rfl

set_option maxHeartbeats 4000000 in
theorem N7:joinedFacts Tryz.prog 8 Tryz.f8 Rows.supportValsSpec Rows.supportValsRow=true:=by
 unfold joinedFacts
 repeat' (with_reducible refine OQ ?_ ?_)
 all_goals (as_aux_lemma=>kernel_rfl)
set_option maxHeartbeats 4000000 in
theorem Pf:Tryz.f8.isWrapper Tryz.prog Rows.supportValsRow.wrapper Rows.supportValsRow.mainSum:=by
 unfold Func.isWrapper
 rw [Ae (by decide +kernel)]
 exact ⟨rfl,rfl⟩
theorem Pg:Tryz.f8.isInstance Tryz.prog Rows.supportValsRow.origin Rows.supportValsRow.targs:=AV (by kernel_rfl)
theorem Jm:Tryz.prog.funcNamed Rows.supportValsRow.func=some 8:=by kernel_rfl
theorem N6:Rows.SupportValsSaid :=
 OpenClaim.holds_of_wide 8 Tryz.f8 rfl rfl rfl rfl rfl rfl rfl ⟨rfl,rfl,rfl,rfl,rfl⟩ rfl rfl rfl rfl rfl Jm Tryz.func8 N7
  Pg Pf
  (fun os started H enc _=>M1 os started H enc)
end Go.Proofs.YtiniigadkknboaaGreatDoor
