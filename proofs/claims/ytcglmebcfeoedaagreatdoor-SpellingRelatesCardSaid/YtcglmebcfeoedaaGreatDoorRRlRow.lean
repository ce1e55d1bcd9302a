/- Contracts and laws: RRlRow. -/
import Derived.Test.YtcglmebcfeoedaaGreatDoorRR
import Derived.Test.YtcglmebcfeoedaaGreatDoorRSI
import Derived.ChangeMaps5
import Derived.Test.YtcglmebcfeoedaaGreatDoorRRl

/- Arguments of law 43 opened: a plan, two numbers. -/
namespace Go.Proofs.YtcglmebcfeoedaaGreatDoor
set_option maxRecDepth 100000
open Go.ChangeShapes Go.WideShapes Go.ChangeAt Go.RowKit

theorem cI8:Tryz.prog.cellsOf 22=1:=by kernel_rfl
theorem cU8:Tryz.prog.cellsOf 5=1:=by kernel_rfl
theorem cB:Tryz.prog.cellsOf 4=1:=by kernel_rfl
theorem cI82:Tryz.prog.cellsOf 23=2:=by kernel_rfl
theorem cI872:Tryz.prog.cellsOf 24=14:=by kernel_rfl
theorem cPlan:Tryz.prog.cellsOf 26=17:=by kernel_rfl
theorem fits8_wf {n:Int} (h:(Lit.int .i8 n).wf=true):fits8 n:=by
 have:=h
 simp [Lit.wf,IntKind.min,IntKind.max,IntKind.signed,IntKind.bits] at this
 unfold fits8
 omega
theorem u8_wf {n:Int} (h:(Lit.int .u8 n).wf=true):0≤n∧n≤255:=by
 have:=h
 simp [Lit.wf,IntKind.min,IntKind.max,IntKind.signed,IntKind.bits] at this
 omega
theorem pl2 {α:Type} (l:List α) (h:l.length=2):∃ a b,l=[a,b]:=by
 match l,h with
 | [a,b],_=>exact ⟨a,b,rfl⟩
theorem pl4 {α:Type} (l:List α) (h:l.length=4):∃ a b c d,l=[a,b,c,d]:=by
 match l,h with
 | [a,b,c,d],_=>exact ⟨a,b,c,d,rfl⟩
theorem pl17 {α:Type} (l:List α) (h:l.length=17):∃ c0 c1 c2 c3 c4 c5 c6 c7 c8 c9 c10 c11 c12 c13 c14 c15 c16,l=[c0,c1,c2,c3,c4,c5,c6,c7,c8,c9,c10,c11,c12,c13,c14,c15,c16]:=by
 match l,h with
 | [c0,c1,c2,c3,c4,c5,c6,c7,c8,c9,c10,c11,c12,c13,c14,c15,c16],_=>exact ⟨c0,c1,c2,c3,c4,c5,c6,c7,c8,c9,c10,c11,c12,c13,c14,c15,c16,rfl⟩
section
variable {H:Type} {enc:TypeId×Value→H} {w:World} {base:Nat} {spare:Nat→Bool} {held:Bool}
/-- two numbers of eight bits -/
theorem open_two {fuel:Nat} {a b:Value} {x:DataW H×List MemPlace} (h:DataW.trod enc Tryz.prog w base spare held fuel 23 [a,b]=some x):∃ m n,a=.int .i8 m∧b=.int .i8 n∧fits8 m∧fits8 n:=by
 obtain ⟨xs,m,-,-,-,hn,hi⟩:=DataW.trod_array Tryz.underlying23 h
 have h0:=hi 0 (by decide)
 have h1:=hi 1 (by decide)
 rw [cI8] at h0 h1
 obtain ⟨y0,y1,rfl⟩:=pl2 xs hn
 obtain ⟨z0,e0,-,w0⟩:=DataW.trod_int Tryz.underlying22 (show _=some y0 from h0)
 obtain ⟨z1,e1,-,w1⟩:=DataW.trod_int Tryz.underlying22 (show _=some y1 from h1)
 simp at e0 e1
 exact ⟨z0,z1,e0,e1,fits8_wf w0,fits8_wf w1⟩
/-- a plan: a bool, two bytes, seven pairs -/
theorem open_plan {fuel:Nat} {l:List Value} {x:DataW H×List MemPlace} (h:DataW.trod enc Tryz.prog w base spare held fuel 26 l=some x) :
 ∃ (two:Bool) (nn na r0 r1 r2 r3 r4 r5 r6 r7 r8 r9 r10 r11 r12 r13:Int),l=[.bool two,.int .u8 nn,.int .u8 na,.int .i8 r0,.int .i8 r1,.int .i8 r2,.int .i8 r3,.int .i8 r4,.int .i8 r5,.int .i8 r6,.int .i8 r7,.int .i8 r8,.int .i8 r9,.int .i8 r10,.int .i8 r11,.int .i8 r12,.int .i8 r13]∧(0≤nn∧nn≤255)∧(0≤na∧na≤255)∧∀ x,x ∈ [r0,r1,r2,r3,r4,r5,r6,r7,r8,r9,r10,r11,r12,r13]→fits8 x:=by
 obtain ⟨xs,m,-,-,hl,hn,hi⟩:=DataW.trod_struct Tryz.underlying26 h
 rw [cPlan] at hl
 obtain ⟨c0,c1,c2,c3,c4,c5,c6,c7,c8,c9,c10,c11,c12,c13,c14,c15,c16,rfl⟩:=pl17 l hl
 obtain ⟨y0,y1,y2,y3,rfl⟩:=pl4 xs hn
 have h0:DataW.trod enc Tryz.prog w base spare held m 4 (([c0,c1,c2,c3,c4,c5,c6,c7,c8,c9,c10,c11,c12,c13,c14,c15,c16].drop 0).take (Tryz.prog.cellsOf 4))=some y0:=hi 0 _ rfl
 have h1:DataW.trod enc Tryz.prog w base spare held m 5 (([c0,c1,c2,c3,c4,c5,c6,c7,c8,c9,c10,c11,c12,c13,c14,c15,c16].drop 1).take (Tryz.prog.cellsOf 5))=some y1:=hi 1 _ rfl
 have h2:DataW.trod enc Tryz.prog w base spare held m 5 (([c0,c1,c2,c3,c4,c5,c6,c7,c8,c9,c10,c11,c12,c13,c14,c15,c16].drop 2).take (Tryz.prog.cellsOf 5))=some y2:=hi 2 _ rfl
 have h3:DataW.trod enc Tryz.prog w base spare held m 24 (([c0,c1,c2,c3,c4,c5,c6,c7,c8,c9,c10,c11,c12,c13,c14,c15,c16].drop 3).take (Tryz.prog.cellsOf 24))=some y3:=hi 3 _ rfl
 rw [cB] at h0
 rw [cU8] at h1 h2
 rw [cI872] at h3
 obtain ⟨two,e0,-⟩:=DataW.trod_bool Tryz.underlying4 (show _=some y0 from h0)
 obtain ⟨nn,e1,-,w1⟩:=DataW.trod_int Tryz.underlying5 (show _=some y1 from h1)
 obtain ⟨na,e2,-,w2⟩:=DataW.trod_int Tryz.underlying5 (show _=some y2 from h2)
 have h3:DataW.trod enc Tryz.prog w base spare held m 24 [c3,c4,c5,c6,c7,c8,c9,c10,c11,c12,c13,c14,c15,c16]=some y3:=h3
 obtain ⟨ys,m2,-,-,-,hn2,hj⟩:=DataW.trod_array Tryz.underlying24 h3
 have key:∀ i,i < 7→∃ y,DataW.trod enc Tryz.prog w base spare held m2 23 (([c3,c4,c5,c6,c7,c8,c9,c10,c11,c12,c13,c14,c15,c16].drop (i * 2)).take 2)=some y:=fun i hi7=>by
  have:=hj i hi7
  rw [cI82,List.getElem?_eq_getElem (by omega)] at this
  exact ⟨_,this⟩
 clear hi hj h h0 h1 h2 h3
 obtain ⟨z0,k0⟩:=key 0 (by decide)
 obtain ⟨r0,r1,rfl,rfl,f0,f1⟩:=open_two (a:=c3) (b:=c4) k0
 obtain ⟨z1,k1⟩:=key 1 (by decide)
 obtain ⟨r2,r3,rfl,rfl,f2,f3⟩:=open_two (a:=c5) (b:=c6) k1
 obtain ⟨z2,k2⟩:=key 2 (by decide)
 obtain ⟨r4,r5,rfl,rfl,f4,f5⟩:=open_two (a:=c7) (b:=c8) k2
 obtain ⟨z3,k3⟩:=key 3 (by decide)
 obtain ⟨r6,r7,rfl,rfl,f6,f7⟩:=open_two (a:=c9) (b:=c10) k3
 obtain ⟨z4,k4⟩:=key 4 (by decide)
 obtain ⟨r8,r9,rfl,rfl,f8,f9⟩:=open_two (a:=c11) (b:=c12) k4
 obtain ⟨z5,k5⟩:=key 5 (by decide)
 obtain ⟨r10,r11,rfl,rfl,f10,f11⟩:=open_two (a:=c13) (b:=c14) k5
 obtain ⟨z6,k6⟩:=key 6 (by decide)
 obtain ⟨r12,r13,rfl,rfl,f12,f13⟩:=open_two (a:=c15) (b:=c16) k6
 simp at e0 e1 e2
 subst e0 e1 e2
 refine ⟨two,nn,na,r0,r1,r2,r3,r4,r5,r6,r7,r8,r9,r10,r11,r12,r13,rfl,u8_wf w1,u8_wf w2, ?_⟩
 simp only [List.mem_cons,List.not_mem_nil,or_false,forall_eq_or_imp,forall_eq]
 exact ⟨f0,f1,f2,f3,f4,f5,f6,f7,f8,f9,f10,f11,f12,f13⟩
end
theorem readPlan:Tryz.prog.readableRec 26=true:=by kernel_rfl
theorem typesPl:26 < Tryz.prog.types.size∧23 < Tryz.prog.types.size:=of_decide_eq_true (by kernel_rfl)
theorem and_mk {a b:Bool} (ha:a=true) (hb:b=true):(a && b)=true:=by rw [ha,hb]; rfl
end Go.Proofs.YtcglmebcfeoedaaGreatDoor

/- The joined row of schismalaw43.SpellingRelates: proved for every input. -/
namespace Go.Proofs.YtcglmebcfeoedaaGreatDoor
set_option maxRecDepth 100000
open Go.ChangeShapes Go.WideShapes Go.ChangeAt Go.RowKit

theorem pl3 {α:Type} (l:List α) (h:l.length=3):∃ a b c,l=[a,b,c]:=by
 match l,h with
 | [a,b,c],_=>exact ⟨a,b,c,rfl⟩
theorem size_tri:Tryz.prog.cellsOf 27=3:=by kernel_rfl
theorem readTriR:Tryz.prog.readableRec 27=true:=by kernel_rfl
theorem typesTriR:27 < Tryz.prog.types.size:=of_decide_eq_true (by kernel_rfl)
theorem open_triR {H:Type} {enc:TypeId×Value→H} {w:World} {base:Nat} {spare:Nat→Bool} {held:Bool} {fuel:Nat} {cs:List Value} {x:DataW H×List MemPlace} (hl:cs.length=3) (h:DataW.trod enc Tryz.prog w base spare held fuel 27 cs=some x):∃ m n k:Int,cs=[.int .i8 m,.int .i8 n,.int .i8 k]∧∀ x,x ∈ [m,n,k]→fits8 x:=by
 obtain ⟨a,b,c,rfl⟩:=pl3 cs hl
 obtain ⟨xs,m,-,-,-,hn,hi⟩:=DataW.trod_array Tryz.underlying27 h
 have h0:=hi 0 (by decide)
 have h1:=hi 1 (by decide)
 have h2:=hi 2 (by decide)
 rw [cI8] at h0 h1 h2
 obtain ⟨y0,y1,y2,rfl⟩:=pl3 xs hn
 obtain ⟨z0,e0,-,w0⟩:=DataW.trod_int Tryz.underlying22 (show _=some y0 from h0)
 obtain ⟨z1,e1,-,w1⟩:=DataW.trod_int Tryz.underlying22 (show _=some y1 from h1)
 obtain ⟨z2,e2,-,w2⟩:=DataW.trod_int Tryz.underlying22 (show _=some y2 from h2)
 simp at e0 e1 e2
 subst e0 e1 e2
 refine ⟨z0,z1,z2,rfl,fun x hx=>?_⟩
 simp only [List.mem_cons,List.not_mem_nil,or_false] at hx
 rcases hx with rfl | rfl | rfl
 ·exact fits8_wf w0
 ·exact fits8_wf w1
 ·exact fits8_wf w2
set_option maxHeartbeats 1000000 in
theorem relates43_lifted (os:Os) (started:os.Started) (H:Type) (enc:TypeId×Value→H) :
 ReturnsInHanded {} Tryz.checked os 3 .any (fun w args=>(Rows.spellingRelatesSpec.pre enc Tryz.prog Tryz.f3 [] false w args∧laidMetH Tryz.prog LL w)∧sizedMet enc Tryz.prog Tryz.f3 (OpenSpec.ofChange Rows.spellingRelatesSpec) false w args)
  (Rows.spellingRelatesSpec.post enc Tryz.prog Tryz.f3 false true false false):=by
 refine handed_and_shaped (C:=Tryz.checked) (X:=fun w _=>laidMetH Tryz.prog LL w) (fun _ _ _ hh h=>h.of_heap hh) seatOwn started (by kernel_rfl) Tryz.func3
  (ChangeSpec.witness_shaped (enc:=enc) (C:=Tryz.checked) (os:=os) (X:=fun w _=>laidMetH Tryz.prog LL w) false (World.laidAll Tryz.prog os LL) #[.agg #[.bool false,.int .u8 0,.int .u8 0,.int .i8 0,.int .i8 0,.int .i8 0,.int .i8 0,.int .i8 0,.int .i8 0,.int .i8 0,.int .i8 0,.int .i8 0,.int .i8 0,.int .i8 0,.int .i8 0,.int .i8 0,.int .i8 0],.agg #[.int .i8 0,.int .i8 0,.int .i8 0],.agg #[.int .i8 0,.int .i8 0,.int .i8 0]] 8 (World.laidAll_os _ _ _) (World.shaped_of_ZipB (by kernel_rfl) (by kernel_rfl)) (by kernel_rfl) (by kernel_rfl) (by kernel_rfl) (door_met os _)) ?_
 intro W base args ds gs before hval0 hW hL _
 have hval:∀ (j:Nat) t v,Tryz.f3.params[j]?=some t→args[j]?=some v→Value.okWide Tryz.prog W .any base t v:=hval0
 have hW':=hW
 obtain ⟨p,q,hA0,hV,rfl,hfz,hnd⟩:=hW
 have hA:DataW.TrodAll enc Tryz.prog W 0 (fun _=>true) true Tryz.f3.params.toList args.toList ds p:=hA0
 rw [Tryz.params3] at hA hval
 obtain ⟨v0,v1,v2,d0,d1,d2,p0,p1,p2,rfl,rfl,rfl,h0,h1,h2⟩:=trodAll_three hA
 obtain ⟨rfl,rfl⟩:=trodVars_none hV
 obtain ⟨cs,rfl,hsz,-⟩:∃ cs,v0=.agg cs∧cs.size=Tryz.prog.cellsOf 26∧Row.okWide Tryz.prog W .any base 26 cs:=by
  have:=hval 0 26 v0 rfl rfl
  simpa [Value.okWide,Tryz.underlying26] using this
 obtain ⟨ct,rfl,hst,-⟩:∃ cs,v1=.agg cs∧cs.size=Tryz.prog.cellsOf 27∧Row.okWide Tryz.prog W .any base 27 cs:=by
  have:=hval 1 27 v1 rfl rfl
  simpa [Value.okWide,Tryz.underlying27] using this
 obtain ⟨cu,rfl,hsu,-⟩:∃ cs,v2=.agg cs∧cs.size=Tryz.prog.cellsOf 27∧Row.okWide Tryz.prog W .any base 27 cs:=by
  have:=hval 2 27 v2 rfl rfl
  simpa [Value.okWide,Tryz.underlying27] using this
 rw [size_tri] at hst hsu
 obtain ⟨l⟩:=cs
 obtain ⟨l2⟩:=ct
 obtain ⟨l3⟩:=cu
 have h0k:=h0
 have h1k:=h1
 have h2k:=h2
 obtain ⟨fu0,h0⟩:=h0
 obtain ⟨fu1,h1⟩:=h1
 obtain ⟨fu2,h2⟩:=h2
 obtain ⟨two,nn,na,r0,r1,r2,r3,r4,r5,r6,r7,r8,r9,r10,r11,r12,r13,rfl,hnn,hna,hr⟩:=open_plan (l:=l) h0
 obtain ⟨a0,a1,a2,rfl,ha⟩:=open_triR hst h1
 obtain ⟨b0,b1,b2,rfl,hb8⟩:=open_triR hsu h2
 have hG:=G_of_laid hL
 have hlt:=hW'.lt
 clear hA0 hval0 h0 h1 h2
 simp only [List.append_nil] at hW' hlt
 refine (SpellingRelates_any two nn na r0 r1 r2 r3 r4 r5 r6 r7 r8 r9 r10 r11 r12 r13 a0 a1 a2 b0 b1 b2 W hG hnn hna hr ha hb8).mono fun e W' ⟨he,hw⟩=>?_
 subst he
 have hb:Below W.heap.size W W':=hw
 have t0:=Below.trod seatOut readPlan typesPl.1 h0k hb (fun z hz=>by simpa using hlt z (by simp [hz]))
 have t1:=Below.trod seatOut readTriR typesTriR h1k hb (fun z hz=>by simpa using hlt z (by simp [hz]))
 have t2:=Below.trod seatOut readTriR typesTriR h2k hb (fun z hz=>by simpa using hlt z (by simp [hz]))
 refine ⟨_,rfl,_,_,_,[],p0 ++ (p1 ++ p2),[],by simpa using hW', ?_, ?_, ?_,hb.frame _,fun h=>by cases h⟩
 ·exact trodAll_mk1 (shut_bool Tryz.underlying4 true)
 ·exact trodAll_mk3 t0 t1 t2
 ·rfl

set_option maxHeartbeats 4000000 in
theorem relates43_facts:joinedFacts Tryz.prog 3 Tryz.f3 Rows.spellingRelatesSpec Rows.spellingRelatesRow=true:=by
 unfold joinedFacts
 repeat' (with_reducible refine and_mk ?_ ?_)
 all_goals (as_aux_lemma=>kernel_rfl)
set_option maxHeartbeats 4000000 in
theorem relates43_wrap:Tryz.f3.isWrapper Tryz.prog Rows.spellingRelatesRow.wrapper Rows.spellingRelatesRow.mainSum:=by
 unfold Func.isWrapper
 rw [if_neg (by decide +kernel)]
 exact ⟨rfl,rfl⟩
theorem relates43_inst:Tryz.f3.isInstance Tryz.prog Rows.spellingRelatesRow.origin Rows.spellingRelatesRow.targs:=of_decide_eq_true (by kernel_rfl)
theorem relates43_named:Tryz.prog.funcNamed Rows.spellingRelatesRow.func=some 3:=by kernel_rfl
theorem relates43_holds:Rows.SpellingRelatesSaid :=
 OpenClaim.holds_of_wide 3 Tryz.f3 rfl rfl rfl rfl rfl rfl rfl ⟨rfl,rfl,rfl,rfl,rfl⟩ rfl rfl rfl rfl rfl relates43_named Tryz.func3 relates43_facts
  relates43_inst relates43_wrap
  (fun os started H enc _=>relates43_lifted os started H enc)
end Go.Proofs.YtcglmebcfeoedaaGreatDoor
