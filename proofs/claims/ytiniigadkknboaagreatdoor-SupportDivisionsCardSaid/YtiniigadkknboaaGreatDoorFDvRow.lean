/- Contracts and laws: FDvRow. -/
import Derived.ChangeMaps5
import Derived.Test.YtiniigadkknboaaGreatDoorFDR
import Derived.Test.YtiniigadkknboaaGreatDoorFBV

/- The joined row of schismalaw22.SupportDivisions: proved for every input. -/
namespace Go.Proofs.YtiniigadkknboaaGreatDoor
set_option maxRecDepth 100000
open Go.ChangeShapes Go.WideShapes Go.ChangeAt Go.RowKit

set_option maxHeartbeats 1000000 in
theorem M7 (os:Os) (started:os.Started) (H:Type) (enc:TypeId×Value→H) :
 ReturnsInHanded {} Tryz.checked os 3 .any (fun w args=>(Rows.supportDivisionsSpec.pre enc Tryz.prog Tryz.f3 [] false w args∧laidMetH Tryz.prog LL w)∧sizedMet enc Tryz.prog Tryz.f3 (OpenSpec.ofChange Rows.supportDivisionsSpec) false w args)
  (Rows.supportDivisionsSpec.post enc Tryz.prog Tryz.f3 false true false false):=by
 refine Fa (C:=Tryz.checked) (X:=fun w _=>laidMetH Tryz.prog LL w) (fun _ _ _ hh h=>h.of_heap hh) Oi started (by kernel_rfl) Tryz.func3
  (Ka (enc:=enc) (C:=Tryz.checked) (os:=os) (X:=fun w _=>laidMetH Tryz.prog LL w) false (World.laidAll Tryz.prog os LL) #[.int .u8 0,.int .i64 0,.int .i64 0] 8 (World.laidAll_os _ _ _) (World.shaped_of_ZipB (by kernel_rfl) (by kernel_rfl)) (by kernel_rfl) (by kernel_rfl) (by kernel_rfl) (Mv os _)) ?_
 intro W base args ds gs before hval0 hW hL _
 have hval:∀ (j:Nat) t v,Tryz.f3.params[j]?=some t→args[j]?=some v→Value.okWide Tryz.prog W .any base t v:=hval0
 have hW':=hW
 obtain ⟨p,q,hA0,hV,rfl,hfz,hnd⟩:=hW
 have hA:DataW.TrodAll enc Tryz.prog W 0 (fun _=>true) true Tryz.f3.params.toList args.toList ds p:=hA0
 rw [Tryz.params3] at hA hval
 obtain ⟨v0,v1,v2,d0,d1,d2,p0,p1,p2,rfl,rfl,rfl,h0,h1,h2⟩:=trodAll_three hA
 obtain ⟨rfl,rfl⟩:=trodVars_none hV
 have h0k:=h0
 have h1k:=h1
 have h2k:=h2
 obtain ⟨n,rfl,hn⟩:=Vo (hval 0 5 v0 rfl rfl) h0
 obtain ⟨a,rfl,ha⟩:=Ny (hval 1 3 v1 rfl rfl) h1
 obtain ⟨b,rfl,hb⟩:=Ny (hval 2 3 v2 rfl rfl) h2
 have hG:=KH hL
 have hE:=Ir hL
 have hlt:=hW'.lt
 clear hA0 hval0 h0 h1 h2
 simp only [Cc] at hW' hlt
 refine (Ik n a b W hG hE hn ha hb).mono fun e W' ⟨he,hw⟩=>?_
 subst he
 have hb:Below W.heap.size W W':=hw
 have t0:=Below.trod Gy YG N9.1 h0k hb (fun z hz=>by simpa using hlt z (by simp [hz]))
 have t1:=Below.trod Gy SA N9.2.2.1 h1k hb (fun z hz=>by simpa using hlt z (by simp [hz]))
 have t2:=Below.trod Gy SA N9.2.2.1 h2k hb (fun z hz=>by simpa using hlt z (by simp [hz]))
 refine ⟨_,rfl,_,_,_,[],p0 ++ (p1 ++ p2),[],by simpa using hW', ?_, ?_, ?_,hb.frame _,fun h=>by cases h⟩
 ·exact trodAll_mk1 (shut_bool Tryz.underlying4 true)
 ·exact trodAll_mk3 t0 t1 t2
 ·rfl

set_option maxHeartbeats 4000000 in
theorem OM:joinedFacts Tryz.prog 3 Tryz.f3 Rows.supportDivisionsSpec Rows.supportDivisionsRow=true:=by
 unfold joinedFacts
 repeat' (with_reducible refine OQ ?_ ?_)
 all_goals (as_aux_lemma=>kernel_rfl)
set_option maxHeartbeats 4000000 in
theorem Qe:Tryz.f3.isWrapper Tryz.prog Rows.supportDivisionsRow.wrapper Rows.supportDivisionsRow.mainSum:=by
 unfold Func.isWrapper
 rw [Ae (by decide +kernel)]
 exact ⟨rfl,rfl⟩
theorem Qf:Tryz.f3.isInstance Tryz.prog Rows.supportDivisionsRow.origin Rows.supportDivisionsRow.targs:=AV (by kernel_rfl)
theorem JV:Tryz.prog.funcNamed Rows.supportDivisionsRow.func=some 3:=by kernel_rfl
theorem OL:Rows.SupportDivisionsSaid :=
 OpenClaim.holds_of_wide 3 Tryz.f3 rfl rfl rfl rfl rfl rfl rfl ⟨rfl,rfl,rfl,rfl,rfl⟩ rfl rfl rfl rfl rfl JV Tryz.func3 OM
  Qf Qe
  (fun os started H enc _=>M7 os started H enc)
end Go.Proofs.YtiniigadkknboaaGreatDoor
