/-
  Contracts and laws for the statements of the seat, QRtRow.
-/
import Derived.Test.YtkjemicelmabdaaGreatDoorQDoorD
import Derived.Test.YtkjemicelmabdaaGreatDoorQRt
import Derived.ChangeMaps5

/- The joined row of schismalaw42.NotationReturns: proved for every input. -/
namespace Go.Proofs.YtkjemicelmabdaaGreatDoor
set_option maxRecDepth 100000
open Go.ChangeShapes Go.WideShapes Go.ChangeAt Go.RowKit

set_option maxHeartbeats 1000000 in
theorem returns42_lifted (os:Os) (started:os.Started) (H:Type) (enc:TypeId×Value→H) :
 ReturnsInHanded {} Tryz.checked os 5 .any (fun w args=>(Rows.notationReturnsSpec.pre enc Tryz.prog Tryz.f5 [] false w args∧laidMetH Tryz.prog LL w)∧sizedMet enc Tryz.prog Tryz.f5 (OpenSpec.ofChange Rows.notationReturnsSpec) false w args)
  (Rows.notationReturnsSpec.post enc Tryz.prog Tryz.f5 false true false false):=by
 refine handed_and_shaped (C:=Tryz.checked) (X:=fun w _=>laidMetH Tryz.prog LL w) (fun _ _ _ hh h=>h.of_heap hh) seatOwn started (by kernel_rfl) Tryz.func5
  (ChangeSpec.witness_shaped (enc:=enc) (C:=Tryz.checked) (os:=os) (X:=fun w _=>laidMetH Tryz.prog LL w) false (World.laidAll Tryz.prog os LL) #[.agg #[.int .u8 0,.slice none 0 0,.int .i8 0,.int .i8 0,.int .i8 0,.int .i8 0,.int .i8 0,.int .i8 0,.int .i8 0,.int .i8 0,.int .i8 0],.agg #[.int .i8 0,.int .i8 0,.int .i8 0],.agg #[.int .i8 0,.int .i8 0,.int .i8 0,.int .i8 0]] 8 (World.laidAll_os _ _ _) (World.shaped_of_ZipB (by kernel_rfl) (by kernel_rfl)) (by kernel_rfl) (by kernel_rfl) (by kernel_rfl) (door_met os _)) ?_
 intro W base args ds gs before hval0 hW hL hsh
 have hval:∀ (j:Nat) t v,Tryz.f5.params[j]?=some t→args[j]?=some v→Value.okWide Tryz.prog W .any base t v:=hval0
 have hW':=hW
 obtain ⟨p,q,hA0,hV,rfl,hfz,hnd⟩:=hW
 have hA:DataW.TrodAll enc Tryz.prog W 0 (fun _=>true) true Tryz.f5.params.toList args.toList ds p:=hA0
 rw [Tryz.params5] at hA hval
 obtain ⟨v0,v1,v2,d0,d1,d2,p0,p1,p2,rfl,rfl,rfl,h0,h1,h2⟩:=trodAll_three hA
 obtain ⟨rfl,rfl⟩:=trodVars_none hV
 have h0k:=h0
 have h1k:=h1
 have h2k:=h2
 obtain ⟨cs,rfl,hsz,-⟩:∃ cs,v0=.agg cs∧cs.size=Tryz.prog.cellsOf 27∧Row.okWide Tryz.prog W .any base 27 cs:=by
  have:=hval 0 27 v0 rfl rfl
  simpa [Value.okWide,Tryz.underlying27] using this
 obtain ⟨ct,rfl,hst,-⟩:∃ cs,v1=.agg cs∧cs.size=Tryz.prog.cellsOf 24∧Row.okWide Tryz.prog W .any base 24 cs:=by
  have:=hval 1 24 v1 rfl rfl
  simpa [Value.okWide,Tryz.underlying24] using this
 obtain ⟨cq,rfl,hsq,-⟩:∃ cs,v2=.agg cs∧cs.size=Tryz.prog.cellsOf 50∧Row.okWide Tryz.prog W .any base 50 cs:=by
  have:=hval 2 50 v2 rfl rfl
  simpa [Value.okWide,Tryz.underlying50] using this
 obtain ⟨l1⟩:=cs
 obtain ⟨l2⟩:=ct
 obtain ⟨l3⟩:=cq
 rw [cI83] at hst
 rw [cI84] at hsq
 obtain ⟨fu0,h0⟩:=h0
 obtain ⟨fu1,h1⟩:=h1
 obtain ⟨fu2,h2⟩:=h2
 obtain ⟨R,a,L,c,b0,b1,b2,b3,b4,b5,b6,b7,b8,rfl,hR,hL3,hL8,hB8⟩:=open_draft (l:=l1) h0
 obtain ⟨x0,x1,x2,rfl,hx0,hx1,hx2⟩:=open_tri (cs:=l2) hst h1
 obtain ⟨s0,s1,s2,s3,rfl,hs8⟩:=open_quad (cs:=l3) hsq h2
 have hx8:∀ x,x ∈ [x0,x1,x2]→-128≤x∧x≤127:=fun x hx=>by
  simp only [List.mem_cons,List.not_mem_nil,or_false] at hx
  rcases hx with rfl | rfl | rfl
  ·exact hx0
  ·exact hx1
  ·exact hx2
 have hG:=G_of_laid hL
 have hlt:=hW'.lt
 clear hA0 hval0 h0 h1 h2
 simp only [List.append_nil] at hW' hlt
 refine (NotationReturns_any R hR.1 hR.2 L a c b0 b1 b2 b3 b4 b5 b6 b7 b8 x0 x1 x2 s0 s1 s2 s3 W hG (Er_of_laid hL) (max_of_shaped hsh) hL3 hL8 hB8 hx8 hs8).mono fun e W' ⟨he,hw⟩=>?_
 subst he
 have hb:Below W.heap.size W W':=hw
 have t0:=Below.trod seatOut readDraft typesDraft h0k hb (fun z hz=>by simpa using hlt z (by simp [hz]))
 have t1:=Below.trod seatOut readTri typesTri h1k hb (fun z hz=>by simpa using hlt z (by simp [hz]))
 have t2:=Below.trod seatOut readQuad typesQuad h2k hb (fun z hz=>by simpa using hlt z (by simp [hz]))
 refine ⟨_,rfl,_,_,_,[],p0 ++ (p1 ++ p2),[],by simpa using hW', ?_, ?_, ?_,hb.frame _,fun h=>by cases h⟩
 ·exact trodAll_mk1 (shut_bool Tryz.underlying4 true)
 ·exact trodAll_mk3 t0 t1 t2
 ·rfl

set_option maxHeartbeats 4000000 in
theorem returns42_facts:joinedFacts Tryz.prog 5 Tryz.f5 Rows.notationReturnsSpec Rows.notationReturnsRow=true:=by
 unfold joinedFacts
 repeat' (with_reducible refine and_mk ?_ ?_)
 all_goals (as_aux_lemma=>kernel_rfl)
set_option maxHeartbeats 4000000 in
theorem returns42_wrap:Tryz.f5.isWrapper Tryz.prog Rows.notationReturnsRow.wrapper Rows.notationReturnsRow.mainSum:=by
 unfold Func.isWrapper
 rw [if_neg (by decide +kernel)]
 exact ⟨rfl,rfl⟩
theorem returns42_inst:Tryz.f5.isInstance Tryz.prog Rows.notationReturnsRow.origin Rows.notationReturnsRow.targs:=of_decide_eq_true (by kernel_rfl)
theorem returns42_named:Tryz.prog.funcNamed Rows.notationReturnsRow.func=some 5:=by kernel_rfl
theorem returns42_holds:Rows.NotationReturnsSaid :=
 OpenClaim.holds_of_wide 5 Tryz.f5 rfl rfl rfl rfl rfl rfl rfl ⟨rfl,rfl,rfl,rfl,rfl⟩ rfl rfl rfl rfl rfl returns42_named Tryz.func5 returns42_facts
  returns42_inst returns42_wrap
  (fun os started H enc _=>returns42_lifted os started H enc)
end Go.Proofs.YtkjemicelmabdaaGreatDoor
