/- Contracts and laws: FSmRow. -/
import Derived.ChangeMaps5
import Derived.Test.YtiniigadkknboaaGreatDoorFDR
import Derived.Test.YtiniigadkknboaaGreatDoorFBO

/- The joined row of schismalaw22.SupportSums: proved for every input. -/
namespace Go.Proofs.YtiniigadkknboaaGreatDoor
set_option maxRecDepth 100000
open Go.ChangeShapes Go.WideShapes Go.ChangeAt Go.RowKit

set_option maxHeartbeats 1000000 in
theorem M4 (os:Os) (started:os.Started) (H:Type) (enc:TypeId×Value→H) :
 ReturnsInHanded {} Tryz.checked os 9 .any (fun w args=>(Rows.supportSumsSpec.pre enc Tryz.prog Tryz.f9 [] false w args∧laidMetH Tryz.prog LL w)∧sizedMet enc Tryz.prog Tryz.f9 (OpenSpec.ofChange Rows.supportSumsSpec) false w args)
  (Rows.supportSumsSpec.post enc Tryz.prog Tryz.f9 false true false false):=by
 refine Fa (C:=Tryz.checked) (X:=fun w _=>laidMetH Tryz.prog LL w) (fun _ _ _ hh h=>h.of_heap hh) Oi started (by kernel_rfl) Tryz.func9
  (Ka (enc:=enc) (C:=Tryz.checked) (os:=os) (X:=fun w _=>laidMetH Tryz.prog LL w) false (World.laidAll Tryz.prog os LL) #[.agg #[.int .u8 0,.slice none 0 0,.bool false],.agg #[.int .i8 0,.int .i8 0,.int .i8 0,.int .i8 0,.int .i8 0,.int .i8 0,.int .i8 0,.int .i8 0],.agg #[.int .i8 0,.int .i8 0,.int .i8 0,.int .i8 0]] 8 (World.laidAll_os _ _ _) (World.shaped_of_ZipB (by kernel_rfl) (by kernel_rfl)) (by kernel_rfl) (by kernel_rfl) (by kernel_rfl) (Mv os _)) ?_
 intro W base args ds gs before hval0 hW hL _
 have hval:∀ (j:Nat) t v,Tryz.f9.params[j]?=some t→args[j]?=some v→Value.okWide Tryz.prog W .any base t v:=hval0
 have hW':=hW
 obtain ⟨p,q,hA0,hV,rfl,hfz,hnd⟩:=hW
 have hA:DataW.TrodAll enc Tryz.prog W 0 (fun _=>true) true Tryz.f9.params.toList args.toList ds p:=hA0
 rw [Tryz.params9] at hA hval
 obtain ⟨v0,v1,v2,d0,d1,d2,p0,p1,p2,rfl,rfl,rfl,h0,h1,h2⟩:=trodAll_three hA
 obtain ⟨rfl,rfl⟩:=trodVars_none hV
 have h0k:=h0
 have h1k:=h1
 have h2k:=h2
 obtain ⟨np,qa,QL,qc,vals,rfl,hnp,hQ,hQ8⟩:=KW (hval 0 42 v0 rfl rfl) h0
 obtain ⟨a0,a1,a2,a3,b0,b1,b2,b3,rfl,hA4,hB4⟩:=PJ (hval 1 78 v1 rfl rfl) h1
 obtain ⟨y0,y1,y2,y3,rfl,hY4⟩:=Rn (hval 2 44 v2 rfl rfl) h2
 have hG:=KH hL
 have hE:=Ir hL
 have hlt:=hW'.lt
 clear hA0 hval0 h0 h1 h2
 simp only [Cc] at hW' hlt
 refine (Lf np qa QL qc vals a0 a1 a2 a3 b0 b1 b2 b3 y0 y1 y2 y3 W hG hE hnp hQ hQ8 hA4 hB4 hY4).mono fun e W' ⟨he,hw⟩=>?_
 subst he
 have hb:Below W.heap.size W W':=hw
 have t0:=Below.trod Gy Nu US h0k hb (fun z hz=>by simpa using hlt z (by simp [hz]))
 have t1:=Below.trod Gy TM UR.2.2 h1k hb (fun z hz=>by simpa using hlt z (by simp [hz]))
 have t2:=Below.trod Gy TL UR.2.1 h2k hb (fun z hz=>by simpa using hlt z (by simp [hz]))
 refine ⟨_,rfl,_,_,_,[],p0 ++ (p1 ++ p2),[],by simpa using hW', ?_, ?_, ?_,hb.frame _,fun h=>by cases h⟩
 ·exact trodAll_mk1 (shut_bool Tryz.underlying4 true)
 ·exact trodAll_mk3 t0 t1 t2
 ·rfl

set_option maxHeartbeats 4000000 in
theorem Of:joinedFacts Tryz.prog 9 Tryz.f9 Rows.supportSumsSpec Rows.supportSumsRow=true:=by
 unfold joinedFacts
 repeat' (with_reducible refine OQ ?_ ?_)
 all_goals (as_aux_lemma=>kernel_rfl)
set_option maxHeartbeats 4000000 in
theorem Pt:Tryz.f9.isWrapper Tryz.prog Rows.supportSumsRow.wrapper Rows.supportSumsRow.mainSum:=by
 unfold Func.isWrapper
 rw [Ae (by decide +kernel)]
 exact ⟨rfl,rfl⟩
theorem Pu:Tryz.f9.isInstance Tryz.prog Rows.supportSumsRow.origin Rows.supportSumsRow.targs:=AV (by kernel_rfl)
theorem Jt:Tryz.prog.funcNamed Rows.supportSumsRow.func=some 9:=by kernel_rfl
theorem Oe:Rows.SupportSumsSaid :=
 OpenClaim.holds_of_wide 9 Tryz.f9 rfl rfl rfl rfl rfl rfl rfl ⟨rfl,rfl,rfl,rfl,rfl⟩ rfl rfl rfl rfl rfl Jt Tryz.func9 Of
  Pu Pt
  (fun os started H enc _=>M4 os started H enc)
end Go.Proofs.YtiniigadkknboaaGreatDoor
