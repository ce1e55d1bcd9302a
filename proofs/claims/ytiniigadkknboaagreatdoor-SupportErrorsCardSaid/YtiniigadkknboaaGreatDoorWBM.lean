/- Contracts and laws: WBM. -/
import Derived.Test.YtiniigadkknboaaGreatDoorWBL
import Derived.Test.YtiniigadkknboaaGreatDoorWBK
import Derived.Test.YtiniigadkknboaaGreatDoorWBJ

set_option maxRecDepth 100000
set_option maxHeartbeats 800000
namespace Go.Proofs.YtiniigadkknboaaGreatDoor
open Go.RowKit Go.Lib
attribute [local go_sem ↓] Go.wp_at_zero Go.wp_at_succ
attribute [local go_sem] Oper.semAt_some
theorem TCheck_e (P:List Int) (aP aC aM:Option Addr) (nC nM cP cC cM:Nat) (w:World) (hP:El w iv aP P) (hl:P.length≤1000000) (h0:primeE P≠0) :
 Calls Tryz.prog 32 #[.agg #[.slice aP P.length cP,.slice aC nC cC,.slice aM nM cM]] w fun e w'=>e=.returned (.int .i64 (primeE P))∧Fr w w':=by
 obtain ⟨wb,hwb⟩:∃ wb,wb=w.alloc (.cells #[.slice aP P.length cP,.slice aC nC cC,.slice aM nM cM] 29):=⟨_,rfl⟩
 have hfb:Fr w wb:=by rw [hwb]; exact (Fr.refl _).alloc _
 have hT:=C3.new w (.slice aP P.length cP) (.slice aC nC cC) (.slice aM nM cM) 29
 rw [← hwb] at hT
 have b0:=hT.a
 have hpc:=hZ (PCheck_fr P aP cP wb (hP.fr hfb) hl)
 generalize primeE P=E at *
 have q0:(E != 0)=true:=bne_iff_ne.2 h0
 generalize P.length=n at *
 replace h0:=hZ h0
 clear hT hP
 go_enter Tryz.func32,Tryz.ntmps32
 go_upto_region 1 with (fail)
 rw [← hwb]
 clear hwb
 go_wp2_with fail
 refine hpc.out.mono ?_
 rintro e w1 ⟨rfl,hf1⟩
 go_wp2_with fail
 go_ret
 exact ⟨rfl,hfb.trans hf1⟩
theorem TmF.idn {w:World} {aP aM:Option Addr} {cP cM:Nat} {P:List Int} (hG:G w) (hP:El w iv aP P) (hM:MatIs w aM (unitM P.length)) (hl:P.length≤1000):TmF w aP none aM cP 0 cM P [] (unitM P.length) (primeE P):=by
 by_cases h0:primeE P=0
 ·rw [h0]; exact TmF.of hG hP (.inl rfl) hM (Nat.le_refl _) (TgW.just h0)
 ·exact ⟨hP,.inl rfl,hM,fun W hW=>TCheck_e P aP none aM 0 (unitM P.length).length cP 0 cM W (hP.fr hW) (by omega) h0,by omega,fun h=>absurd h h0⟩
theorem sbegE_two (E:Int) (P v:List Int):sbegE E P [v,v]=sE E P v:=by
 unfold sbegE sE
 by_cases h:E=0
 ·rw [if_neg (by rw [h]; simp),if_neg (by rw [h]; simp)]
  show (if valE P v≠0 then valE P v else (if valE P v≠0 then valE P v else firstE []))=_
  by_cases h2:valE P v=0
  ·rw [if_neg (by rw [h2]; simp),if_neg (by rw [h2]; simp),h2]; rfl
  ·rw [if_pos h2]
 ·rw [if_pos h,if_pos h]
theorem dvT_all (P:List Int) (n:Nat):dvT [] P n=(List.range n).map fun k=>((k+1:Nat):Int):=by
 unfold dvT
 exact List.filter_eq_self.2 fun x _=>rfl
theorem dvT_nil (P:List Int) {n:Nat} (h:1≤n):(dvT [] P n).length=n∧∃ r,dvT [] P n=1 :: r:=by
 rw [dvT_all]
 refine ⟨by rw [List.length_map,List.length_range], ?_⟩
 obtain ⟨m,rfl⟩:∃ m,n=m+1:=⟨n - 1,by omega⟩
 rw [List.range_succ_eq_map,List.map_cons]
 exact ⟨_,rfl⟩
theorem Patents_err (aP aC aM:Option Addr) (cP cC cM:Nat) (P:List Int) (C M:List (List Int)) (E lim:Int) (w:World) (ht:TmF w aP aC aM cP cC cM P C M E) (h0:limE E lim≠0) :
 Calls Tryz.prog 28 #[.agg #[.slice aP P.length cP,.slice aC C.length cC,.slice aM M.length cM],.int .i64 lim] w fun e w'=>e=.returned (.tuple #[.slice none 0 0,.int .i64 (limE E lim)])∧Fr w w':=by
 obtain ⟨wb,hwb⟩:∃ wb,wb=w.alloc (.cells #[.slice aP P.length cP,.slice aC C.length cC,.slice aM M.length cM] 29):=⟨_,rfl⟩
 have hfb:Fr w wb:=by rw [hwb]; exact (Fr.refl _).alloc _
 have hT:=C3.new w (.slice aP P.length cP) (.slice aC C.length cC) (.slice aM M.length cM) 29
 rw [← hwb] at hT
 have hli:=hZ (limited_any aP aC aM cP cC cM P C M E lim wb (ht.fr hfb))
 generalize limE E lim=err at *
 have q0:(err != 0)=true:=bne_iff_ne.2 h0
 have b0:=hT.a
 have b1:=hT.b
 have b2:=hT.c
 generalize P.length=n at *
 generalize C.length=nC at *
 generalize M.length=nM at *
 replace h0:=hZ h0
 clear ht hT
 go_enter Tryz.func28,Tryz.ntmps28
 go_upto_region 1 with (fail)
 rw [← hwb]
 clear hwb
 go_wp2_with fail
 refine hli.out.mono ?_
 rintro e w1 ⟨rfl,hf1⟩
 go_wp2_with fail
 go_ret2
 exact ⟨rfl,hfb.trans hf1⟩
theorem Least_err (aP aC aM:Option Addr) (cP cC cM:Nat) (P:List Int) (C M:List (List Int)) (E lim:Int) (w:World) (ht:TmF w aP aC aM cP cC cM P C M E) (h0:limE E lim≠0) :
 Calls Tryz.prog 29 #[.agg #[.slice aP (P.length) cP,.slice aC C.length cC,.slice aM M.length cM],.int .i64 lim] w fun e w'=>e=.returned (.tuple #[.int .i64 0,.bool false,.int .i64 (limE E lim)])∧Fr w w':=by
 obtain ⟨wb,hwb⟩:∃ wb,wb=(((w.alloc (.cells #[.slice aP (P.length) cP,.slice aC C.length cC,.slice aM M.length cM] 29)).alloc (.cells #[.int .i64 0] 3)).alloc (.cells #[.bool false] 4)).alloc (.cells #[.int .i64 0] 30):=⟨_,rfl⟩
 have hfb:Fr w wb:=by rw [hwb]; exact ((((Fr.refl _).alloc _).alloc _).alloc _).alloc _
 have hT:C3 wb w.heap.size (.slice aP (P.length) cP) (.slice aC C.length cC) (.slice aM M.length cM):=by rw [hwb]; exact (((C3.new w _ _ _ _).fr ((Fr.refl _).alloc _)).fr ((Fr.refl _).alloc _)).fr ((Fr.refl _).alloc _)
 obtain ⟨b,hb⟩:∃ b,b=w.heap.size+1:=⟨_,rfl⟩
 have x4:Boxed wb b 3 (.int .i64 0):=by
  have:=Boxed.new (w.alloc (.cells #[.slice aP (P.length) cP,.slice aC C.length cC,.slice aM M.length cM] 29)) 3 (.int .i64 0)
  rw [World.size_alloc,← hb] at this
  rw [hwb]; exact (this.alloc _).alloc _
 have x5:Boxed wb (b+1) 4 (.bool false):=by
  have:=Boxed.new ((w.alloc (.cells #[.slice aP (P.length) cP,.slice aC C.length cC,.slice aM M.length cM] 29)).alloc (.cells #[.int .i64 0] 3)) 4 (.bool false)
  rw [World.size_alloc,World.size_alloc,← hb] at this
  rw [hwb]; exact this.alloc _
 have x6:Boxed wb (b+1+1) 30 (.int .i64 0):=by
  have:=Boxed.new (((w.alloc (.cells #[.slice aP (P.length) cP,.slice aC C.length cC,.slice aM M.length cM] 29)).alloc (.cells #[.int .i64 0] 3)).alloc (.cells #[.bool false] 4)) 30 (.int .i64 0)
  rw [World.size_alloc,World.size_alloc,World.size_alloc,← hb] at this
  rw [hwb]; exact this
 have hszb:wb.heap.size=b+1+1+1:=by rw [hwb,World.size_alloc,World.size_alloc,World.size_alloc,World.size_alloc,← hb]
 have hli:=limited_any aP aC aM cP cC cM P C M E lim wb (ht.fr hfb)
 obtain ⟨err,herr⟩:∃ err,err=limE E lim:=⟨_,rfl⟩
 rw [← herr] at hli h0 ⊢
 replace herr:=hZ herr
 replace hli:=hZ hli
 have b0:=hT.a
 have b1:=hT.b
 have b2:=hT.c
 generalize P.length=n at *
 generalize C.length=nC at *
 generalize M.length=nM at *
 have hx0:Hid (LsX wb b 0 false 0 wb):=⟨x4,x5,x6,Fx.refl _ _⟩
 subst hb
 clear x4 x5 x6
 clear ht hT
 refine (callsIn_wide (n:=4)).1 ?_
 refine callsIn_of_wp_marks Tryz.func29 rfl trivial ?_ rfl
 simp only [Tryz.ntmps29,List.size_toArray,List.length_cons,List.length_nil,Nat.reduceAdd,Nat.reduceSub,Array.replicate_succ,Array.replicate_zero,List.push_toArray,List.append_toArray,List.nil_append,List.cons_append]
 gi_wp2
 rw [← hwb]
 clear hwb
 refine ⟨trivial,(callsIn_wide.2 hli.out).mono ?_⟩
 rintro e w1 ⟨rfl,hf1⟩
 have hx1:=hZ (hx0.out.fr hf1)
 have hfw:=hfb.trans hf1
 replace b0:=hf1.keep b0
 replace b1:=hf1.keep b1
 replace b2:=hf1.keep b2
 clear hli hx0
 have q0:(err != 0)=true:=bne_iff_ne.2 h0
 have e9:=hZ h0
 clear h0
 obtain ⟨⟨c4,f4⟩,⟨c5,f5⟩,⟨c6,f6⟩,hX,-⟩:=hx1.out.set 0 false err
 replace hX:=hZ hX
 gi_wp2
 have r4:=hX.out.1.cell
 have r5:=hX.out.2.1.cell
 have r6:=hX.out.2.2.1.cell
 refine ⟨.tuple #[.int .i64 0,.bool false,.int .i64 err],by simp [results,Tryz.results29,go_sem,r4,r5,r6], ?_⟩
 exact ⟨rfl,((Fx.of_fr hfb).trans hX.out.2.2.2).toFr (fun k hk e=>by rcases e with e | e | e <;> omega)⟩
end Go.Proofs.YtiniigadkknboaaGreatDoor
