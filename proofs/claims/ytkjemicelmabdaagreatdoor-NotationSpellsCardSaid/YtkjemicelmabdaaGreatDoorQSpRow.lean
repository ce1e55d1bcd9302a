/-
  Contracts and laws for the statements of the seat, QSpRow.
-/
import Derived.Test.YtkjemicelmabdaaGreatDoorQDoorD
import Derived.Test.YtkjemicelmabdaaGreatDoorQSC
import Derived.ChangeMaps5

/- The joined row of schismalaw42.NotationSpells: proved for every input. -/
namespace Go.Proofs.YtkjemicelmabdaaGreatDoor
set_option maxRecDepth 100000
open Go.ChangeShapes Go.WideShapes Go.ChangeAt Go.RowKit

theorem readRow:Tryz.prog.readableRec 29=true:=by kernel_rfl
theorem typesRow:29 < Tryz.prog.types.size:=of_decide_eq_true (by kernel_rfl)
theorem gErr : Tryz.prog.globalNamed "strconv.ErrRange" = some 1 := by kernel_rfl
theorem tErr:(Tryz.prog.globals[1]?).map (·.type)=some 98:=by kernel_rfl
/-- the error that the row's condition lays -/
theorem Er_of_laid {W:World} (h:laidMetH Tryz.prog LL W):Er W:=by
 rw [MakeChecks.laidMetH_plain _ _ _ (by kernel_rfl)] at h
 obtain ⟨ps,⟨g0,t0,cs0,f0,p0,q0,hg0,ht0,hv0,hd0,⟨g1,t1,cs1,f1,p1,q1,hg1,ht1,hv1,hd1,⟨g2,t2,cs2,f2,p2,q2,hg2,ht2,hv2,hd2,⟨g3,t3,cs3,f3,p3,q3,hg3,ht3,hv3,hd3,⟨g4,t4,cs4,f4,p4,q4,hg4,ht4,hv4,hd4,_,_⟩,_⟩,_⟩,_⟩,_⟩,_,_⟩:=h
 obtain rfl:=Option.some.inj (gErr.symm.trans hg4)
 obtain rfl:=Option.some.inj (tErr.symm.trans ht4)
 obtain ⟨l4⟩:=cs4
 obtain ⟨f9,u9,v9,e9,-,-⟩:=iface_of_trod Tryz.underlying98 hd4
 have e8:l4=[.iface u9 v9]:=e9
 subst e8
 exact ⟨.iface u9 v9,by simpa using World.var?_cell gErr hv4 0,.inr ⟨u9,v9,rfl⟩⟩
set_option maxHeartbeats 1000000 in
theorem spells42_lifted (os:Os) (started:os.Started) (H:Type) (enc:TypeId×Value→H) :
 ReturnsInHanded {} Tryz.checked os 3 .any (fun w args=>(Rows.notationSpellsSpec.pre enc Tryz.prog Tryz.f3 [] false w args∧laidMetH Tryz.prog LL w)∧sizedMet enc Tryz.prog Tryz.f3 (OpenSpec.ofChange Rows.notationSpellsSpec) false w args)
  (Rows.notationSpellsSpec.post enc Tryz.prog Tryz.f3 false true false false):=by
 refine handed_and_shaped (C:=Tryz.checked) (X:=fun w _=>laidMetH Tryz.prog LL w) (fun _ _ _ hh h=>h.of_heap hh) seatOwn started (by kernel_rfl) Tryz.func3
  (ChangeSpec.witness_shaped (enc:=enc) (C:=Tryz.checked) (os:=os) (X:=fun w _=>laidMetH Tryz.prog LL w) false (World.laidAll Tryz.prog os LL) #[.agg #[.int .u8 0,.slice none 0 0,.int .i8 0,.int .i8 0,.int .i8 0,.int .i8 0,.int .i8 0,.int .i8 0,.int .i8 0,.int .i8 0,.int .i8 0],.slice none 0 0] 8 (World.laidAll_os _ _ _) (World.shaped_of_ZipB (by kernel_rfl) (by kernel_rfl)) (by kernel_rfl) (by kernel_rfl) (by kernel_rfl) (door_met os _)) ?_
 intro W base args ds gs before hval0 hW hL hsh
 have hval:∀ (j:Nat) t v,Tryz.f3.params[j]?=some t→args[j]?=some v→Value.okWide Tryz.prog W .any base t v:=hval0
 have hW':=hW
 obtain ⟨p,q,hA0,hV,rfl,hfz,hnd⟩:=hW
 have hA:DataW.TrodAll enc Tryz.prog W 0 (fun _=>true) true Tryz.f3.params.toList args.toList ds p:=hA0
 rw [Tryz.params3] at hA hval
 obtain ⟨v0,v1,d0,d1,p0,p1,rfl,rfl,rfl,h0,h1⟩:=trodAll_two hA
 obtain ⟨rfl,rfl⟩:=trodVars_none hV
 have h0k:=h0
 have h1k:=h1
 obtain ⟨cs,rfl,hsz,-⟩:∃ cs,v0=.agg cs∧cs.size=Tryz.prog.cellsOf 27∧Row.okWide Tryz.prog W .any base 27 cs:=by
  have:=hval 0 27 v0 rfl rfl
  simpa [Value.okWide,Tryz.underlying27] using this
 obtain ⟨l1⟩:=cs
 obtain ⟨fu0,h0⟩:=h0
 obtain ⟨fu1,h1⟩:=h1
 obtain ⟨ra,xs,rc,hv1,hel,-⟩:=open_row h1
 obtain rfl:v1=.slice ra xs.length rc:=by
  rcases okWide_slice Tryz.underlying29 (hval 1 29 v1 rfl rfl) with ⟨a9,n9,c9,rfl⟩
  simpa [Value.cells] using hv1
 obtain ⟨R,a,L,c,b0,b1,b2,b3,b4,b5,b6,b7,b8,rfl,hR,hL3,hL8,hB8⟩:=open_draft (l:=l1) h0
 have hG:=G_of_laid hL
 have hlt:=hW'.lt
 clear hA0 hval0 h0 h1
 simp only [List.append_nil] at hW' hlt
 refine (NotationSpells_any R hR.1 hR.2 L a c b0 b1 b2 b3 b4 b5 b6 b7 b8 xs ra rc W hG (Er_of_laid hL) (max_of_shaped hsh) hL3 hL8 hB8 hel).mono fun e W' ⟨he,hw⟩=>?_
 subst he
 have hb:Below W.heap.size W W':=hw
 have t0:=Below.trod seatOut readDraft typesDraft h0k hb (fun z hz=>by simpa using hlt z (by simp [hz]))
 have t1:=Below.trod seatOut readRow typesRow h1k hb (fun z hz=>by simpa using hlt z (by simp [hz]))
 refine ⟨_,rfl,_,_,_,[],p0 ++ p1,[],by simpa using hW', ?_, ?_, ?_,hb.frame _,fun h=>by cases h⟩
 ·exact trodAll_mk1 (shut_bool Tryz.underlying4 true)
 ·exact trodAll_mk2 t0 t1
 ·rfl

set_option maxHeartbeats 4000000 in
theorem spells42_facts:joinedFacts Tryz.prog 3 Tryz.f3 Rows.notationSpellsSpec Rows.notationSpellsRow=true:=by
 unfold joinedFacts
 repeat' (with_reducible refine and_mk ?_ ?_)
 all_goals (as_aux_lemma=>kernel_rfl)
set_option maxHeartbeats 4000000 in
theorem spells42_wrap:Tryz.f3.isWrapper Tryz.prog Rows.notationSpellsRow.wrapper Rows.notationSpellsRow.mainSum:=by
 unfold Func.isWrapper
 rw [if_neg (by decide +kernel)]
 exact ⟨rfl,rfl⟩
theorem spells42_inst:Tryz.f3.isInstance Tryz.prog Rows.notationSpellsRow.origin Rows.notationSpellsRow.targs:=of_decide_eq_true (by kernel_rfl)
theorem spells42_named:Tryz.prog.funcNamed Rows.notationSpellsRow.func=some 3:=by kernel_rfl
theorem spells42_holds:Rows.NotationSpellsSaid :=
 OpenClaim.holds_of_wide 3 Tryz.f3 rfl rfl rfl rfl rfl rfl rfl ⟨rfl,rfl,rfl,rfl,rfl⟩ rfl rfl rfl rfl rfl spells42_named Tryz.func3 spells42_facts
  spells42_inst spells42_wrap
  (fun os started H enc _=>spells42_lifted os started H enc)
end Go.Proofs.YtkjemicelmabdaaGreatDoor
