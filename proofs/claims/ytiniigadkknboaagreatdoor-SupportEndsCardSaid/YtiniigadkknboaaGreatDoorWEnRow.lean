/- Contracts and laws: WEnRow. -/
import Derived.ChangeMaps5
import Derived.Test.YtiniigadkknboaaGreatDoorWDR
import Derived.Test.YtiniigadkknboaaGreatDoorWBL

set_option maxRecDepth 100000
set_option maxHeartbeats 4000000
namespace Go.Proofs.YtiniigadkknboaaGreatDoor
open Go.ChangeShapes Go.WideShapes Go.ChangeAt Go.RowKit
theorem ends22_lifted (os:Os) (started:os.Started) (H:Type) (enc:TypeId×Value→H) :
 ReturnsInHanded {} Tryz.checked os 7 .any (fun w args=>(Rows.supportEndsSpec.pre enc Tryz.prog Tryz.f7 [] false w args∧laidMetH Tryz.prog LL w)∧sizedMet enc Tryz.prog Tryz.f7 (OpenSpec.ofChange Rows.supportEndsSpec) false w args)
  (Rows.supportEndsSpec.post enc Tryz.prog Tryz.f7 false true false false):=by
 refine handed_and_shaped (C:=Tryz.checked) (X:=fun w _=>laidMetH Tryz.prog LL w) (fun _ _ _ hh h=>h.of_heap hh) seatOwn started (by kernel_rfl) Tryz.func7
  (ChangeSpec.witness_shaped (enc:=enc) (C:=Tryz.checked) (os:=os) (X:=fun w _=>laidMetH Tryz.prog LL w) false (World.laidAll Tryz.prog os LL) #[.int .u8 0,.int .u16 0] 8 (World.laidAll_os _ _ _) (World.shaped_of_ZipB (by kernel_rfl) (by kernel_rfl)) (by kernel_rfl) (by kernel_rfl) (by kernel_rfl) (door_met os _)) ?_
 intro W base args ds gs before hval0 hW hL _
 have hval:∀ (j:Nat) t v,Tryz.f7.params[j]?=some t→args[j]?=some v→Value.okWide Tryz.prog W .any base t v:=hval0
 have hW':=hW
 obtain ⟨p,q,hA0,hV,rfl,hfz,hnd⟩:=hW
 have hA:DataW.TrodAll enc Tryz.prog W 0 (fun _=>true) true Tryz.f7.params.toList args.toList ds p:=hA0
 rw [Tryz.params7] at hA hval
 obtain ⟨v0,v1,d0,d1,p0,p1,rfl,rfl,rfl,h0,h1⟩:=trodAll_two hA
 obtain ⟨rfl,rfl⟩:=trodVars_none hV
 have h0k:=h0
 have h1k:=h1
 obtain ⟨n,rfl,hn⟩:=open_u8V (hval 0 5 v0 rfl rfl) h0
 obtain ⟨steps,rfl,hs⟩:=open_u16V (hval 1 71 v1 rfl rfl) h1
 have hG:=G_of_laid hL
 have hE:=ErX_of_laid hL
 have hlt:=hW'.lt
 clear hA0 hval0 h0 h1
 simp only [List.append_nil] at hW' hlt
 refine (SupportEnds_any n steps hn hs W hG hE).mono fun e W' ⟨he,hw⟩=>?_
 subst he
 have hb:Below W.heap.size W W':=hw
 have t0:=Below.trod seatOut readU8 typesS.1 h0k hb (fun z hz=>by simpa using hlt z (by simp [hz]))
 have t1:=Below.trod seatOut readU16 typesS.2.1 h1k hb (fun z hz=>by simpa using hlt z (by simp [hz]))
 refine ⟨_,rfl,_,_,_,[],p0 ++ p1,[],by simpa using hW', ?_, ?_, ?_,hb.frame _,fun h=>by cases h⟩
 ·exact trodAll_mk1 (shut_bool Tryz.underlying4 true)
 ·exact trodAll_mk2 t0 t1
 ·rfl
theorem ends22_facts:joinedFacts Tryz.prog 7 Tryz.f7 Rows.supportEndsSpec Rows.supportEndsRow=true:=by
 unfold joinedFacts
 repeat' (with_reducible refine and_mkS ?_ ?_)
 all_goals (as_aux_lemma=>kernel_rfl)
theorem ends22_wrap:Tryz.f7.isWrapper Tryz.prog Rows.supportEndsRow.wrapper Rows.supportEndsRow.mainSum:=by
 unfold Func.isWrapper
 rw [if_neg (by decide +kernel)]
 exact ⟨rfl,rfl⟩
theorem ends22_inst:Tryz.f7.isInstance Tryz.prog Rows.supportEndsRow.origin Rows.supportEndsRow.targs:=of_decide_eq_true (by kernel_rfl)
theorem ends22_named:Tryz.prog.funcNamed Rows.supportEndsRow.func=some 7:=by kernel_rfl
theorem ends22_holds:Rows.SupportEndsSaid :=
 OpenClaim.holds_of_wide 7 Tryz.f7 rfl rfl rfl rfl rfl rfl rfl ⟨rfl,rfl,rfl,rfl,rfl⟩ rfl rfl rfl rfl rfl ends22_named Tryz.func7 ends22_facts
  ends22_inst ends22_wrap
  (fun os started H enc _=>ends22_lifted os started H enc)
end Go.Proofs.YtiniigadkknboaaGreatDoor
