/- Contracts and laws: WErRow. -/
import Derived.ChangeMaps5
import Derived.Test.YtiniigadkknboaaGreatDoorWDR
import Derived.Test.YtiniigadkknboaaGreatDoorWBN

set_option maxRecDepth 100000
set_option maxHeartbeats 4000000
namespace Go.Proofs.YtiniigadkknboaaGreatDoor
open Go.ChangeShapes Go.WideShapes Go.ChangeAt Go.RowKit
theorem errs22_lifted (os:Os) (started:os.Started) (H:Type) (enc:TypeId×Value→H) :
 ReturnsInHanded {} Tryz.checked os 6 .any (fun w args=>(Rows.supportErrorsSpec.pre enc Tryz.prog Tryz.f6 [] false w args∧laidMetH Tryz.prog LL w)∧sizedMet enc Tryz.prog Tryz.f6 (OpenSpec.ofChange Rows.supportErrorsSpec) false w args)
  (Rows.supportErrorsSpec.post enc Tryz.prog Tryz.f6 false true false false):=by
 refine handed_and_shaped (C:=Tryz.checked) (X:=fun w _=>laidMetH Tryz.prog LL w) (fun _ _ _ hh h=>h.of_heap hh) seatOwn started (by kernel_rfl) Tryz.func6
  (ChangeSpec.witness_shaped (enc:=enc) (C:=Tryz.checked) (os:=os) (X:=fun w _=>laidMetH Tryz.prog LL w) false (World.laidAll Tryz.prog os LL) #[.slice none 0 0,.slice none 0 0,.int .i64 0] 8 (World.laidAll_os _ _ _) (World.shaped_of_ZipB (by kernel_rfl) (by kernel_rfl)) (by kernel_rfl) (by kernel_rfl) (by kernel_rfl) (door_met os _)) ?_
 intro W base args ds gs before hval0 hW hL _
 have hval:∀ (j:Nat) t v,Tryz.f6.params[j]?=some t→args[j]?=some v→Value.okWide Tryz.prog W .any base t v:=hval0
 have hW':=hW
 obtain ⟨p,q,hA0,hV,rfl,hfz,hnd⟩:=hW
 have hA:DataW.TrodAll enc Tryz.prog W 0 (fun _=>true) true Tryz.f6.params.toList args.toList ds p:=hA0
 rw [Tryz.params6] at hA hval
 obtain ⟨v0,v1,v2,d0,d1,d2,p0,p1,p2,rfl,rfl,rfl,h0,h1,h2⟩:=trodAll_three hA
 obtain ⟨rfl,rfl⟩:=trodVars_none hV
 have h0k:=h0
 have h1k:=h1
 have h2k:=h2
 obtain ⟨pa,P,pc,rfl,hP⟩:=open_prsV (hval 0 24 v0 rfl rfl) h0
 obtain ⟨va,xs,vc,rfl,hv,-⟩:=open_rowV (hval 1 33 v1 rfl rfl) h1
 obtain ⟨lim,rfl,-,-⟩:=open_intV (hval 2 3 v2 rfl rfl) h2
 have hG:=G_of_laid hL
 have hE:=ErX_of_laid hL
 have hlt:=hW'.lt
 clear hA0 hval0 h0 h1 h2
 simp only [List.append_nil] at hW' hlt
 refine (SupportErrors_any P xs pa va pc vc lim W hG hE hP hv).mono fun e W' ⟨he,hw⟩=>?_
 subst he
 have hb:Below W.heap.size W W':=hw
 have t0:=Below.trod seatOut readPrs typesS.2.2.2.2 h0k hb (fun z hz=>by simpa using hlt z (by simp [hz]))
 have t1:=Below.trod seatOut readRowS typesS.2.2.2.1 h1k hb (fun z hz=>by simpa using hlt z (by simp [hz]))
 have t2:=Below.trod seatOut readI64 typesS.2.2.1 h2k hb (fun z hz=>by simpa using hlt z (by simp [hz]))
 refine ⟨_,rfl,_,_,_,[],p0 ++ (p1 ++ p2),[],by simpa using hW', ?_, ?_, ?_,hb.frame _,fun h=>by cases h⟩
 ·exact trodAll_mk1 (shut_bool Tryz.underlying4 true)
 ·exact trodAll_mk3 t0 t1 t2
 ·rfl
theorem errs22_facts:joinedFacts Tryz.prog 6 Tryz.f6 Rows.supportErrorsSpec Rows.supportErrorsRow=true:=by
 unfold joinedFacts
 repeat' (with_reducible refine and_mkS ?_ ?_)
 all_goals (as_aux_lemma=>kernel_rfl)
theorem errs22_wrap:Tryz.f6.isWrapper Tryz.prog Rows.supportErrorsRow.wrapper Rows.supportErrorsRow.mainSum:=by
 unfold Func.isWrapper
 rw [if_neg (by decide +kernel)]
 exact ⟨rfl,rfl⟩
theorem errs22_inst:Tryz.f6.isInstance Tryz.prog Rows.supportErrorsRow.origin Rows.supportErrorsRow.targs:=of_decide_eq_true (by kernel_rfl)
theorem errs22_named:Tryz.prog.funcNamed Rows.supportErrorsRow.func=some 6:=by kernel_rfl
theorem errs22_holds:Rows.SupportErrorsSaid :=
 OpenClaim.holds_of_wide 6 Tryz.f6 rfl rfl rfl rfl rfl rfl rfl ⟨rfl,rfl,rfl,rfl,rfl⟩ rfl rfl rfl rfl rfl errs22_named Tryz.func6 errs22_facts
  errs22_inst errs22_wrap
  (fun os started H enc _=>errs22_lifted os started H enc)
end Go.Proofs.YtiniigadkknboaaGreatDoor
