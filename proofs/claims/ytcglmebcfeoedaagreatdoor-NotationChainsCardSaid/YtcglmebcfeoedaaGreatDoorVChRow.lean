/- Contracts and laws: VChRow. -/
import Derived.Test.YtcglmebcfeoedaaGreatDoorVDoorD
import Derived.Test.YtcglmebcfeoedaaGreatDoorVLN
import Derived.ChangeMaps5

/- The joined row of schismalaw42.NotationChains: proved for every input. -/
namespace Go.Proofs.YtcglmebcfeoedaaGreatDoor
set_option maxRecDepth 100000
open Go.ChangeShapes Go.WideShapes Go.ChangeAt Go.RowKit

set_option maxHeartbeats 1000000 in
theorem KY (os:Os) (started:os.Started) (H:Type) (enc:TypeId×Value→H) :
 ReturnsInHanded {} Tryz.checked os 4 .any (fun w args=>(Rows.notationChainsSpec.pre enc Tryz.prog Tryz.f4 [] false w args∧laidMetH Tryz.prog LL w)∧sizedMet enc Tryz.prog Tryz.f4 (OpenSpec.ofChange Rows.notationChainsSpec) false w args)
  (Rows.notationChainsSpec.post enc Tryz.prog Tryz.f4 false true false false):=by
 refine JN (C:=Tryz.checked) (X:=fun w _=>laidMetH Tryz.prog LL w) (fun _ _ _ hh h=>h.of_heap hh) VI started (by kernel_rfl) Tryz.func4
  (ChangeSpec.witness_shaped (enc:=enc) (C:=Tryz.checked) (os:=os) (X:=fun w _=>laidMetH Tryz.prog LL w) false (World.laidAll Tryz.prog os LL) #[.agg #[.slice none 0 0,.int .i64 0,.slice none 0 0,.slice none 0 0,.string ⟨#[]⟩,.string ⟨#[]⟩]] 8 (World.laidAll_os _ _ _) (World.shaped_of_ZipB (by kernel_rfl) (by kernel_rfl)) (by kernel_rfl) (by kernel_rfl) (by kernel_rfl) (Uv os _)) ?_
 intro W base args ds gs before hval0 hW hL hsh
 have hval:∀ (j:Nat) t v,Tryz.f4.params[j]?=some t→args[j]?=some v→Value.okWide Tryz.prog W .any base t v:=hval0
 have hW':=hW
 obtain ⟨p,q,hA0,hV,rfl,hfz,hnd⟩:=hW
 have hA:DataW.TrodAll enc Tryz.prog W 0 (fun _=>true) true Tryz.f4.params.toList args.toList ds p:=hA0
 rw [Tryz.params4] at hA hval
 obtain ⟨v0,d0,rfl,rfl,h0⟩:=trodAll_one hA
 obtain ⟨rfl,rfl⟩:=trodVars_none hV
 obtain ⟨cs,rfl,hsz,-⟩:∃ cs,v0=.agg cs∧cs.size=Tryz.prog.cellsOf 57∧Row.okWide Tryz.prog W .any base 57 cs:=by
  have:=hval 0 57 v0 rfl rfl
  simpa [Value.okWide,Tryz.underlying57] using this
 obtain ⟨l⟩:=cs
 have h0k:=h0
 obtain ⟨fu0,h0⟩:=h0
 obtain ⟨a,names,c,s,ag,gs,cg,ae,es,ce,sh,oct,rfl,hx,hg,he⟩:=Qd (l:=l) h0
 have hG:=S1 hL
 have hlt:=hW'.lt
 clear hA0 hval0 h0
 simp only [BJ] at hW' hlt
 refine (Jn names a c s gs es ag ae cg ce sh oct W hG (QN hL) (MF hsh) hx hg he).mono fun e W' ⟨he,hw⟩=>?_
 subst he
 have hb:Below W.heap.size W W':=hw
 have t0:=Below.trod VJ Sd VA h0k hb (fun z hz=>by simpa using hlt z (by simp [hz]))
 refine ⟨_,rfl,_,_,_,[],p,[],by simpa using hW', ?_, ?_, ?_,hb.frame _,fun h=>by cases h⟩
 ·exact trodAll_mk1 (shut_bool Tryz.underlying4 true)
 ·exact trodAll_mk1 t0
 ·rfl

set_option maxHeartbeats 4000000 in
theorem Md:joinedFacts Tryz.prog 4 Tryz.f4 Rows.notationChainsSpec Rows.notationChainsRow=true:=by
 unfold joinedFacts
 repeat' (with_reducible refine XP ?_ ?_)
 all_goals (as_aux_lemma=>kernel_rfl)
set_option maxHeartbeats 4000000 in
theorem MI:Tryz.f4.isWrapper Tryz.prog Rows.notationChainsRow.wrapper Rows.notationChainsRow.mainSum:=by
 unfold Func.isWrapper
 rw [Ai (by decide +kernel)]
 exact ⟨rfl,rfl⟩
theorem MJ:Tryz.f4.isInstance Tryz.prog Rows.notationChainsRow.origin Rows.notationChainsRow.targs:=Av (by kernel_rfl)
theorem Ik:Tryz.prog.funcNamed Rows.notationChainsRow.func=some 4:=by kernel_rfl
theorem Mc:Rows.NotationChainsSaid :=
 OpenClaim.holds_of_wide 4 Tryz.f4 rfl rfl rfl rfl rfl rfl rfl ⟨rfl,rfl,rfl,rfl,rfl⟩ rfl rfl rfl rfl rfl Ik Tryz.func4 Md
  MJ MI
  (fun os started H enc _=>KY os started H enc)
end Go.Proofs.YtcglmebcfeoedaaGreatDoor
