/- Contracts and laws: GPrRow. -/
import Derived.ChangeMaps5
import Derived.Test.YtiniigadkknboaaGreatDoorGDR
import Derived.Test.YtiniigadkknboaaGreatDoorGBT

/- The joined row of schismalaw22.SupportPairs: proved for every input. -/
namespace Go.Proofs.YtiniigadkknboaaGreatDoor
set_option maxRecDepth 100000
open Go.ChangeShapes Go.WideShapes Go.ChangeAt Go.RowKit

set_option maxHeartbeats 1000000 in
theorem Nw (os:Os) (started:os.Started) (H:Type) (enc:TypeId×Value→H) :
 ReturnsInHanded {} Tryz.checked os 10 .any (fun w args=>(Rows.supportPairsSpec.pre enc Tryz.prog Tryz.f10 [] false w args∧laidMetH Tryz.prog LL w)∧sizedMet enc Tryz.prog Tryz.f10 (OpenSpec.ofChange Rows.supportPairsSpec) false w args)
  (Rows.supportPairsSpec.post enc Tryz.prog Tryz.f10 false true false false):=by
 refine Ja (C:=Tryz.checked) (X:=fun w _=>laidMetH Tryz.prog LL w) (fun _ _ _ hh h=>h.of_heap hh) V8 started (by kernel_rfl) Tryz.func10
  (ChangeSpec.witness_shaped (enc:=enc) (C:=Tryz.checked) (os:=os) (X:=fun w _=>laidMetH Tryz.prog LL w) false (World.laidAll Tryz.prog os LL) #[.int .u8 0,.int .u8 0] 8 (World.laidAll_os _ _ _) (World.shaped_of_ZipB (by kernel_rfl) (by kernel_rfl)) (by kernel_rfl) (by kernel_rfl) (by kernel_rfl) (UM os _)) ?_
 intro W base args ds gs before hval0 hW hL _
 have hval:∀ (j:Nat) t v,Tryz.f10.params[j]?=some t→args[j]?=some v→Value.okWide Tryz.prog W .any base t v:=hval0
 have hW':=hW
 obtain ⟨p,q,hA0,hV,rfl,hfz,hnd⟩:=hW
 have hA:DataW.TrodAll enc Tryz.prog W 0 (fun _=>true) true Tryz.f10.params.toList args.toList ds p:=hA0
 rw [Tryz.params10] at hA hval
 obtain ⟨v0,v1,d0,d1,p0,p1,rfl,rfl,rfl,h0,h1⟩:=trodAll_two hA
 obtain ⟨rfl,rfl⟩:=trodVars_none hV
 have h0k:=h0
 have h1k:=h1
 obtain ⟨n,rfl,hn⟩:=OK (hval 0 5 v0 rfl rfl) h0
 obtain ⟨lim,rfl,hl⟩:=OK (hval 1 5 v1 rfl rfl) h1
 have hG:=S5 hL
 have hE:=PL hL
 have hlt:=hW'.lt
 clear hA0 hval0 h0 h1
 simp only [BE] at hW' hlt
 refine (JT n lim W hG hE hn hl).mono fun e W' ⟨he,hw⟩=>?_
 subst he
 have hb:Below W.heap.size W W':=hw
 have t0:=Below.trod Rc TU Tp.1 h0k hb (fun z hz=>by simpa using hlt z (by simp [hz]))
 have t1:=Below.trod Rc TU Tp.1 h1k hb (fun z hz=>by simpa using hlt z (by simp [hz]))
 refine ⟨_,rfl,_,_,_,[],p0 ++ p1,[],by simpa using hW', ?_, ?_, ?_,hb.frame _,fun h=>by cases h⟩
 ·exact trodAll_mk1 (shut_bool Tryz.underlying4 true)
 ·exact trodAll_mk2 t0 t1
 ·rfl

set_option maxHeartbeats 4000000 in
theorem Ox:joinedFacts Tryz.prog 10 Tryz.f10 Rows.supportPairsSpec Rows.supportPairsRow=true:=by
 unfold joinedFacts
 repeat' (with_reducible refine WC ?_ ?_)
 all_goals (as_aux_lemma=>kernel_rfl)
set_option maxHeartbeats 4000000 in
theorem Qf:Tryz.f10.isWrapper Tryz.prog Rows.supportPairsRow.wrapper Rows.supportPairsRow.mainSum:=by
 unfold Func.isWrapper
 rw [Ag (by decide +kernel)]
 exact ⟨rfl,rfl⟩
theorem Qg:Tryz.f10.isInstance Tryz.prog Rows.supportPairsRow.origin Rows.supportPairsRow.targs:=AL (by kernel_rfl)
theorem Ka:Tryz.prog.funcNamed Rows.supportPairsRow.func=some 10:=by kernel_rfl
theorem Ow:Rows.SupportPairsSaid :=
 OpenClaim.holds_of_wide 10 Tryz.f10 rfl rfl rfl rfl rfl rfl rfl ⟨rfl,rfl,rfl,rfl,rfl⟩ rfl rfl rfl rfl rfl Ka Tryz.func10 Ox
  Qg Qf
  (fun os started H enc _=>Nw os started H enc)
end Go.Proofs.YtiniigadkknboaaGreatDoor
