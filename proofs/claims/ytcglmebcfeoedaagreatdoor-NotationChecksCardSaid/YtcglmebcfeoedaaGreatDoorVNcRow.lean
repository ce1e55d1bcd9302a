/- Contracts and laws: VNcRow. -/
import Derived.Test.YtcglmebcfeoedaaGreatDoorVDoorD
import Derived.Test.YtcglmebcfeoedaaGreatDoorVLN
import Derived.ChangeMaps5

/- The joined row of schismalaw42.NotationChecks: proved for every input. -/
namespace Go.Proofs.YtcglmebcfeoedaaGreatDoor
set_option maxRecDepth 100000
open Go.ChangeShapes Go.WideShapes Go.ChangeAt Go.RowKit

set_option maxHeartbeats 1000000 in
theorem Kb (os:Os) (started:os.Started) (H:Type) (enc:TypeId×Value→H) :
 ReturnsInHanded {} Tryz.checked os 5 .any (fun w args=>(Rows.notationChecksSpec.pre enc Tryz.prog Tryz.f5 [] false w args∧laidMetH Tryz.prog LL w)∧sizedMet enc Tryz.prog Tryz.f5 (OpenSpec.ofChange Rows.notationChecksSpec) false w args)
  (Rows.notationChecksSpec.post enc Tryz.prog Tryz.f5 false true false false):=by
 refine I9 (C:=Tryz.checked) (X:=fun w _=>laidMetH Tryz.prog LL w) (fun _ _ _ hh h=>h.of_heap hh) UH started (by kernel_rfl) Tryz.func5
  (ChangeSpec.witness_shaped (enc:=enc) (C:=Tryz.checked) (os:=os) (X:=fun w _=>laidMetH Tryz.prog LL w) false (World.laidAll Tryz.prog os LL) #[.agg #[.slice none 0 0,.slice none 0 0]] 8 (World.laidAll_os _ _ _) (World.shaped_of_ZipB (by kernel_rfl) (by kernel_rfl)) (by kernel_rfl) (by kernel_rfl) (by kernel_rfl) (Tl os _)) ?_
 intro W base args ds gs before hval0 hW hL hsh
 have hval:∀ (j:Nat) t v,Tryz.f5.params[j]?=some t→args[j]?=some v→Value.okWide Tryz.prog W .any base t v:=hval0
 have hW':=hW
 obtain ⟨p,q,hA0,hV,rfl,hfz,hnd⟩:=hW
 have hA:DataW.TrodAll enc Tryz.prog W 0 (fun _=>true) true Tryz.f5.params.toList args.toList ds p:=hA0
 rw [Tryz.params5] at hA hval
 obtain ⟨v0,d0,rfl,rfl,h0⟩:=trodAll_one hA
 obtain ⟨rfl,rfl⟩:=trodVars_none hV
 obtain ⟨cs,rfl,hsz,-⟩:∃ cs,v0=.agg cs∧cs.size=Tryz.prog.cellsOf 31∧Row.okWide Tryz.prog W .any base 31 cs:=by
  have:=hval 0 31 v0 rfl rfl
  simpa [Value.okWide,Tryz.underlying31] using this
 obtain ⟨l⟩:=cs
 have h0k:=h0
 obtain ⟨fu0,h0⟩:=h0
 obtain ⟨aN,aA,N,A,cN,cA,rfl,hn,hnN,hNl,hAl⟩:=SS (l:=l) h0
 have hG:=RV hL
 have hlt:=hW'.lt
 clear hA0 hval0 h0 hnN
 simp only [BA] at hW' hlt
 refine (IA aN aA cN cA N A W hG (PZ hL) (LS hsh) hn hNl hAl).mono fun e W' ⟨he,hw⟩=>?_
 subst he
 have hb:Below W.heap.size W W':=hw
 have t0:=Below.trod UI UM VT h0k hb (fun z hz=>by simpa using hlt z (by simp [hz]))
 refine ⟨_,rfl,_,_,_,[],p,[],by simpa using hW', ?_, ?_, ?_,hb.frame _,fun h=>by cases h⟩
 ·exact trodAll_mk1 (shut_bool Tryz.underlying4 true)
 ·exact trodAll_mk1 t0
 ·rfl

set_option maxHeartbeats 4000000 in
theorem Lt:joinedFacts Tryz.prog 5 Tryz.f5 Rows.notationChecksSpec Rows.notationChecksRow=true:=by
 unfold joinedFacts
 repeat' (with_reducible refine Wv ?_ ?_)
 all_goals (as_aux_lemma=>kernel_rfl)
set_option maxHeartbeats 4000000 in
theorem LV:Tryz.f5.isWrapper Tryz.prog Rows.notationChecksRow.wrapper Rows.notationChecksRow.mainSum:=by
 unfold Func.isWrapper
 rw [Ai (by decide +kernel)]
 exact ⟨rfl,rfl⟩
theorem LW:Tryz.f5.isInstance Tryz.prog Rows.notationChecksRow.origin Rows.notationChecksRow.targs:=Ax (by kernel_rfl)
theorem HH:Tryz.prog.funcNamed Rows.notationChecksRow.func=some 5:=by kernel_rfl
theorem Ls:Rows.NotationChecksSaid :=
 OpenClaim.holds_of_wide 5 Tryz.f5 rfl rfl rfl rfl rfl rfl rfl ⟨rfl,rfl,rfl,rfl,rfl⟩ rfl rfl rfl rfl rfl HH Tryz.func5 Lt
  LW LV
  (fun os started H enc _=>Kb os started H enc)
end Go.Proofs.YtcglmebcfeoedaaGreatDoor
