/- Contracts and laws: VFG. -/
import Derived.Test.YtcglmebcfeoedaaGreatDoorVWA
import Derived.Test.YtcglmebcfeoedaaGreatDoorVD

set_option maxRecDepth 100000
set_option maxHeartbeats 4000000
namespace Go.Proofs.YtcglmebcfeoedaaGreatDoor
open Go.RowKit Go.Lib
attribute [local go_sem ↓] AA AB
theorem Yu (k:Nat) (hk:k≤40000) (a b:Int) (ha:Bn k a) (hb:Bn k b) (w:World) (hG:G w) :
 Calls Tryz.prog 237 #[.string (tx a),.string (tx b)] w fun e w'=>e=.returned (.string (tx (Nat.gcd a.natAbs b.natAbs:Nat)))∧Fr w w':=by
 have sa:=ha.size
 have sb:=hb.size
 have sa2:=ha.size2
 have sb2:=hb.size2
 have h1:=hZ (fun W=>RY a W (by omega))
 have h2:=hZ (fun W=>RY b W (by omega))
 obtain ⟨va,ba,hva,hba,hla⟩:=KF (a.natAbs:Int) 18 (by omega) (by omega)
 obtain ⟨vb,bb,hvb,hbb,hlb⟩:=KF (b.natAbs:Int) 18 (by omega) (by omega)
 by_cases hboth:ba=true∧bb=true
 ·obtain ⟨rfl,rfl⟩:=hboth
  obtain ⟨rfl,a1,a2,-⟩:=hva rfl
  obtain ⟨rfl,b1,b2,-⟩:=hvb rfl
  have h5:=hZ (fun W=>Uo a.natAbs b.natAbs (by omega) (by omega) W)
  have hgl:Nat.gcd a.natAbs b.natAbs≤a.natAbs∨Nat.gcd a.natAbs b.natAbs≤b.natAbs:=by
   rcases Nat.eq_zero_or_pos a.natAbs with h | h
   ·exact .inr (by rw [h,Nat.gcd_zero_left]; exact Ag _)
   ·exact .inl (Nat.gcd_le_left _ h)
  have h6:=hZ (fun W (hW:Fr w W)=>Du (Nat.gcd a.natAbs b.natAbs:Nat) (by omega) (by omega) W (hG.fr hW))
  generalize Nat.gcd a.natAbs b.natAbs=g at *
  clear hva hvb hba hbb ha hb sa sb sa2 sb2 hgl
  go_enter Tryz.func237,Tryz.ntmps237
  go_wp2_with fail
  refine (h1.out _).mono ?_
  rintro e w1 ⟨rfl,hf1⟩
  go_wp2_with fail
  refine (h2.out _).mono ?_
  rintro e w2 ⟨rfl,hf2⟩
  go_wp2_with fail
  refine (hla.out _).mono ?_
  rintro e w3 ⟨rfl,hf3⟩
  go_wp2_with fail
  refine (hlb.out _).mono ?_
  rintro e w4 ⟨rfl,hf4⟩
  go_wp2_with fail
  refine (h5.out _).mono ?_
  rintro e w5 ⟨rfl,hf5⟩
  have hfr:=(((hf1.trans hf2).trans hf3).trans hf4).trans hf5
  go_wp2_with fail
  refine (h6.out _ hfr).mono ?_
  rintro e w6 ⟨rfl,hf6⟩
  go_wp2_with fail
  go_ret
  exact ⟨rfl,hfr.trans hf6⟩
 ·have hbb2:ba=false∨(ba=true∧bb=false):=by
   rcases hba with rfl | rfl
   ·rcases hbb with rfl | rfl
    ·exact absurd ⟨rfl,rfl⟩ hboth
    ·exact .inr ⟨rfl,rfl⟩
   ·exact .inl rfl
  clear hva hvb hba hbb hboth
  have hgd:=hZ (fun W (hW:Fr w W)=>YA a.natAbs b.natAbs (by omega) (by omega) W (hG.fr hW))
  generalize Nat.gcd a.natAbs b.natAbs=g at *
  rcases hbb2 with rfl | ⟨rfl,rfl⟩
  all_goals
   go_enter Tryz.func237,Tryz.ntmps237
   go_wp2_with fail
   refine (h1.out _).mono ?_
   rintro e w1 ⟨rfl,hf1⟩
   go_wp2_with fail
   refine (h2.out _).mono ?_
   rintro e w2 ⟨rfl,hf2⟩
   go_wp2_with fail
   refine (hla.out _).mono ?_
   rintro e w3 ⟨rfl,hf3⟩
   have hf:=(hf1.trans hf2).trans hf3
   go_wp2_with fail
   first
    | (refine (hlb.out _).mono ?_
       rintro e w4 ⟨rfl,hf4⟩
       have h9:=hZ (hgd.out w4 (hf.trans hf4))
       go_wp2_with fail
       refine h9.out.mono ?_
       rintro e w5 ⟨rfl,hf5⟩
       go_wp2_with fail
       go_ret
       exact ⟨rfl,(hf.trans hf4).trans hf5⟩)
    | (refine (hgd.out w3 hf).mono ?_
       rintro e w5 ⟨rfl,hf5⟩
       go_wp2_with fail
       go_ret
       exact ⟨rfl,hf.trans hf5⟩)
theorem NR (k:Nat) (hk:k≤40000) (n d:Int) (hn:Bn k n) (hd:Bn k d) (h0:d≠0) (w:World) (hG:G w) :
 Calls Tryz.prog 193 #[.string (tx n),.string (tx d)] w fun e w'=>e=.returned (qv (Rat.divInt n d))∧Fr w w':=by
 unfold qv
 rw [VW n d h0,VX n d h0]
 obtain ⟨n2,hn2⟩:∃ n2,n2=d.sign * n:=⟨_,rfl⟩
 obtain ⟨d2,hd2⟩:∃ d2:Int,d2=d.natAbs:=⟨_,rfl⟩
 have hs2:Bn k n2:=by
  rcases Gh h0 with h | h
  ·rw [hn2,Int.sign_eq_neg_one_of_neg h]
   have e:(-1 * n:Int)=-n:=by omega
   rw [e]; exact hn.neg
  ·rw [hn2,Int.sign_eq_one_of_pos h,Ey]; exact hn
 have hsd2:Bn k d2:=by rw [hd2]; exact hd.abs
 have hd20:0 < d2:=by omega
 have hg2:=Yu k hk n2 d2 hs2 hsd2
 have hna:d2.natAbs=d.natAbs:=by rw [hd2,AC]
 rw [hna] at hg2
 rw [← hn2,← hd2]
 obtain ⟨g,hg⟩:∃ g,g=Nat.gcd n2.natAbs d.natAbs:=⟨_,rfl⟩
 rw [← hg] at hg2 ⊢
 have hgp:0 < g:=by rw [hg]; exact YE _ (by omega)
 have hgd:g≤d.natAbs:=by rw [hg]; exact Nat.gcd_le_right _ (by omega)
 have hgS:Bn k (g:Int):=by
  have h9:d.natAbs < 10 ^ k:=hd
  show ((g:Int)).natAbs < 10 ^ k
  rw [AC]; exact BI hgd h9
 have hdn:=hZ (fun W (hW:Fr w W)=>Ml k k hk hk n2 g hs2 hgS (by omega) W (hG.fr hW))
 have hdd:=hZ (fun W (hW:Fr w W)=>Ml k k hk hk d2 g hsd2 hgS (by omega) W (hG.fr hW))
 replace hg2:=hZ (fun W (hW:Fr w W)=>hg2 W (hG.fr hW))
 have hsn:=hn.size2
 have hsd:=hd.size2
 have hN1:=hZ (fun W=>JY n W (by omega))
 have hN2:=hZ (fun W=>JY d W (by omega))
 have hone:((tx (g:Int)).toList == [49])=decide ((g:Int)=1):=by rw [show [49]=itoa 1 from Ug.symm]; exact Lj _ _
 obtain ⟨wb,hwb⟩:∃ wb,wb=w.alloc (.cells #[.string ⟨#[]⟩,.string ⟨#[]⟩] 194):=⟨_,rfl⟩
 have hfb:Fr w wb:=by rw [hwb]; exact (Fr.refl _).alloc _
 have q4:wb.cell? ⟨w.heap.size,0,none⟩=some (.string ⟨#[]⟩):=by rw [hwb]; exact (CZ _ _ _ _).1
 have q5:wb.cell? ⟨w.heap.size,1,none⟩=some (.string ⟨#[]⟩):=by rw [hwb]; exact (CY _ _ _ _).1
 have q6:wb.frozen? ⟨w.heap.size,0,none⟩=false:=by rw [hwb]; exact (CZ _ _ _ _).2
 have q7:wb.frozen? ⟨w.heap.size,1,none⟩=false:=by rw [hwb]; exact (CY _ _ _ _).2
 replace hg:=hZ hg
 by_cases hneg:d < 0
 ·have e1:-n=n2:=by rw [hn2,Int.sign_eq_neg_one_of_neg hneg]; omega
  have e2:-d=d2:=by omega
  have hsg:decide (d.sign < 0)=true:=Ac (by rw [Int.sign_eq_neg_one_of_neg hneg]; omega)
  rw [e1] at hN1
  rw [e2] at hN2
  replace hn2:=hZ hn2
  replace hd2:=hZ hd2
  replace hna:=hZ hna
  replace e1:=hZ e1
  replace e2:=hZ e2
  go_enter Tryz.func193,Tryz.ntmps193
  go_upto_region 1 with (fail)
  rw [← hwb]
  clear hwb
  go_wp2_with fail
  refine (Dt _ _).mono ?_
  rintro e w1 ⟨rfl,rfl⟩
  go_wp2_with fail
  refine (hN1.out _).mono ?_
  rintro e w1 ⟨rfl,hf1⟩
  go_wp2_with fail
  refine (hN2.out _).mono ?_
  rintro e w2 ⟨rfl,hf2⟩
  have hfz:=hf1.trans hf2
  replace q6:=hfz.keepf q4 q6
  replace q7:=hfz.keepf q5 q7
  replace q4:=hfz.keep q4
  replace q5:=hfz.keep q5
  replace hfb:=hfb.trans hfz
  go_wp2_with fail
  refine (hg2.out _ hfb).mono ?_
  rintro e w3 ⟨rfl,hf3⟩
  replace q6:=hf3.keepf q4 q6
  replace q7:=hf3.keepf q5 q7
  replace q4:=hf3.keep q4
  replace q5:=hf3.keep q5
  replace hfb:=hfb.trans hf3
  by_cases hg1:g=1
  ·have hb1:decide ((g:Int)=1)=true:=Ac (by omega)
   rw [hb1] at hone
   have r1:=hZ (show sv (n2.fdiv (g:Int))=sv n2 by rw [hg1,show ((1:Nat):Int)=1 from rfl,Te])
   have r2:=hZ (show sv (d2.fdiv (g:Int))=sv d2 by rw [hg1,show ((1:Nat):Int)=1 from rfl,Te])
   have qs:=A7 w3 w.heap.size (sv n2) (sv d2) _ _ q4 q5
   have q8:=qs.2.2.1
   have u0:=hZ qs.1
   have u1:=hZ qs.2.1
   have hfx:=hZ qs.2.2.2
   clear qs
   replace hg1:=hZ hg1
   go_wp2_with fail
   have v0:=u0.out
   have v1:=u1.out
   rw [r1.out,r2.out]
   refine Ax (v:=.agg #[sv n2,sv d2]) (by simp [results,Tryz.results193,go_sem,v0,v1]) rfl ⟨rfl, ?_⟩
   exact ((Fx.of_fr (p:=fun q=>q=w.heap.size) hfb).trans hfx.out).toFr (fun q hq e=>by have e:q=w.heap.size:=e; omega)
  ·have hb1:decide ((g:Int)=1)=false:=Aa (by omega)
   rw [hb1] at hone
   replace hg1:=hZ hg1
   go_wp2_with fail
   refine (hdn.out _ hfb).mono ?_
   rintro e w4 ⟨rfl,hf4⟩
   replace hfb:=hfb.trans hf4
   go_wp2_with fail
   refine (hdd.out _ hfb).mono ?_
   rintro e w5 ⟨rfl,hf5⟩
   replace hfb:=hfb.trans hf5
   have hf45:=hf4.trans hf5
   replace q6:=hf45.keepf q4 q6
   replace q7:=hf45.keepf q5 q7
   replace q4:=hf45.keep q4
   replace q5:=hf45.keep q5
   have qs:=A7 w5 w.heap.size (sv (n2.fdiv (g:Int))) (sv (d2.fdiv (g:Int))) _ _ q4 q5
   have q8:=qs.2.2.1
   have u0:=hZ qs.1
   have u1:=hZ qs.2.1
   have hfx:=hZ qs.2.2.2
   clear qs
   go_wp2_with fail
   have v0:=u0.out
   have v1:=u1.out
   refine Ax (v:=.agg #[sv (n2.fdiv (g:Int)),sv (d2.fdiv (g:Int))]) (by simp [results,Tryz.results193,go_sem,v0,v1]) rfl ⟨rfl, ?_⟩
   exact ((Fx.of_fr (p:=fun q=>q=w.heap.size) hfb).trans hfx.out).toFr (fun q hq e=>by have e:q=w.heap.size:=e; omega)
 ·have hen:n=n2:=by rw [hn2,Int.sign_eq_one_of_pos (by omega),Ey]
  have hed:d=d2:=by omega
  have hsg:decide (d2.sign < 0)=false:=Aa (by rw [Int.sign_eq_one_of_pos (by omega)]; omega)
  rw [hen,hed]
  replace hen:=hZ hen
  replace hed:=hZ hed
  replace hn2:=hZ hn2
  replace hd2:=hZ hd2
  replace hna:=hZ hna
  go_enter Tryz.func193,Tryz.ntmps193
  go_upto_region 1 with (fail)
  rw [← hwb]
  clear hwb
  go_wp2_with fail
  refine (Dt _ _).mono ?_
  rintro e w1 ⟨rfl,rfl⟩
  have hfz:=Fr.refl wb
  replace q6:=hfz.keepf q4 q6
  replace q7:=hfz.keepf q5 q7
  replace q4:=hfz.keep q4
  replace q5:=hfz.keep q5
  replace hfb:=hfb.trans hfz
  go_wp2_with fail
  refine (hg2.out _ hfb).mono ?_
  rintro e w3 ⟨rfl,hf3⟩
  replace q6:=hf3.keepf q4 q6
  replace q7:=hf3.keepf q5 q7
  replace q4:=hf3.keep q4
  replace q5:=hf3.keep q5
  replace hfb:=hfb.trans hf3
  by_cases hg1:g=1
  ·have hb1:decide ((g:Int)=1)=true:=Ac (by omega)
   rw [hb1] at hone
   have r1:=hZ (show sv (n2.fdiv (g:Int))=sv n2 by rw [hg1,show ((1:Nat):Int)=1 from rfl,Te])
   have r2:=hZ (show sv (d2.fdiv (g:Int))=sv d2 by rw [hg1,show ((1:Nat):Int)=1 from rfl,Te])
   have qs:=A7 w3 w.heap.size (sv n2) (sv d2) _ _ q4 q5
   have q8:=qs.2.2.1
   have u0:=hZ qs.1
   have u1:=hZ qs.2.1
   have hfx:=hZ qs.2.2.2
   clear qs
   replace hg1:=hZ hg1
   go_wp2_with fail
   have v0:=u0.out
   have v1:=u1.out
   rw [r1.out,r2.out]
   refine Ax (v:=.agg #[sv n2,sv d2]) (by simp [results,Tryz.results193,go_sem,v0,v1]) rfl ⟨rfl, ?_⟩
   exact ((Fx.of_fr (p:=fun q=>q=w.heap.size) hfb).trans hfx.out).toFr (fun q hq e=>by have e:q=w.heap.size:=e; omega)
  ·have hb1:decide ((g:Int)=1)=false:=Aa (by omega)
   rw [hb1] at hone
   replace hg1:=hZ hg1
   go_wp2_with fail
   refine (hdn.out _ hfb).mono ?_
   rintro e w4 ⟨rfl,hf4⟩
   replace hfb:=hfb.trans hf4
   go_wp2_with fail
   refine (hdd.out _ hfb).mono ?_
   rintro e w5 ⟨rfl,hf5⟩
   replace hfb:=hfb.trans hf5
   have hf45:=hf4.trans hf5
   replace q6:=hf45.keepf q4 q6
   replace q7:=hf45.keepf q5 q7
   replace q4:=hf45.keep q4
   replace q5:=hf45.keep q5
   have qs:=A7 w5 w.heap.size (sv (n2.fdiv (g:Int))) (sv (d2.fdiv (g:Int))) _ _ q4 q5
   have q8:=qs.2.2.1
   have u0:=hZ qs.1
   have u1:=hZ qs.2.1
   have hfx:=hZ qs.2.2.2
   clear qs
   go_wp2_with fail
   have v0:=u0.out
   have v1:=u1.out
   refine Ax (v:=.agg #[sv (n2.fdiv (g:Int)),sv (d2.fdiv (g:Int))]) (by simp [results,Tryz.results193,go_sem,v0,v1]) rfl ⟨rfl, ?_⟩
   exact ((Fx.of_fr (p:=fun q=>q=w.heap.size) hfb).trans hfx.out).toFr (fun q hq e=>by have e:q=w.heap.size:=e; omega)
def Tq (x:Rat):Prop:=Bn 3000 x.num∧Bn 3000 (x.den:Int)
instance (k:Nat) (n:Int):Decidable (Bn k n):=inferInstanceAs (Decidable (_ < _))
@[irreducible] instance decTq (x:Rat):Decidable (Tq x):=inferInstanceAs (Decidable (_∧_))
theorem Tq.neg {x:Rat} (h:Tq x):Tq (-x):=⟨by rw [Rat.neg_num]; exact h.1.neg,by rw [Rat.neg_den]; exact h.2⟩
theorem Yg {a b:Int} (ha:a.natAbs < 1000000000) (hb:b.natAbs < 1000000000):(a * b).natAbs < 1000000000000000000:=by
 rw [BD]
 exact Vo ha hb
theorem Px (x:Rat) (hx:Bn 3000 x.num) (w:World) :
 Calls Tryz.prog 199 #[qv x] w fun e w'=>e=.returned (qv (-x))∧Fr w w':=by
 unfold qv
 rw [Rat.neg_num,Rat.neg_den]
 have hsz:=hx.size2
 generalize x.num=n at *
 generalize (x.den:Int)=d at *
 have hN:=hZ (fun W=>JY n W (by omega))
 obtain ⟨wb,hwb⟩:∃ wb,wb=G8 w [(.cells #[sv n,sv d] 194),(.cells #[.string ⟨#[]⟩,.string ⟨#[]⟩] 194)]:=⟨_,rfl⟩
 have hfb:Fr w wb:=by rw [hwb]; exact IJ _ w
 have g0:wb.heap[w.heap.size]?=some (.cells #[sv n,sv d] 194 (0,0)):=by rw [hwb]; exact C6 _ w 0 _ rfl
 have g1:wb.heap[w.heap.size+1]?=some (.cells #[.string ⟨#[]⟩,.string ⟨#[]⟩] 194 (0,0)):=by rw [hwb]; exact C6 _ w 1 _ rfl
 have b0:wb.cell? ⟨w.heap.size,0,none⟩=some (sv n):=Bt g0 0
 have b1:wb.cell? ⟨w.heap.size,1,none⟩=some (sv d):=Bt g0 1
 have q4:wb.cell? ⟨w.heap.size+1,0,none⟩=some (.string ⟨#[]⟩):=Bt g1 0
 have q5:wb.cell? ⟨w.heap.size+1,1,none⟩=some (.string ⟨#[]⟩):=Bt g1 1
 have q6:wb.frozen? ⟨w.heap.size+1,0,none⟩=false:=by unfold World.frozen?; rw [g1]; rfl
 have q7:wb.frozen? ⟨w.heap.size+1,1,none⟩=false:=by unfold World.frozen?; rw [g1]; rfl
 clear g0 g1
 go_enter Tryz.func199,Tryz.ntmps199
 go_upto_region 1 with (fail)
 change Code.wp _ _ _ _ (G8 w [(.cells #[sv n,sv d] 194),(.cells #[.string ⟨#[]⟩,.string ⟨#[]⟩] 194)])
 rw [← hwb]
 clear hwb
 replace q4:=hZ q4
 replace q5:=hZ q5
 replace q6:=hZ q6
 replace q7:=hZ q7
 go_region_held3 (fun w'=>w'.cell? ⟨w.heap.size,0,none⟩=some (sv n)∧w'.cell? ⟨w.heap.size,1,none⟩=some (sv d))
  (first | go_keep | (go_split_ands; refine ⟨?_, ?_⟩ <;> (refine Fr.keep (by assumption) ?_; assumption)) | (refine Ts _ _ _ _ _ _ _ ⟨by assumption,by assumption⟩ (by omega)))
  (first
   | (go_at_call 190; (with_reducible refine (hN.out _).mono ?_); rintro e w5 ⟨rfl,hf5⟩; have hfz:Fr wb w5:=(by exact BR); have t4:=hfz.keep q4.out; have t5:=hfz.keep q5.out; have t6:=hfz.keepf q4.out q6.out; have t7:=hfz.keepf q5.out q7.out; have qs:=A7 w5 (w.heap.size+1) (sv (-n)) (sv d) _ _ t4 t5; have q8:=qs.2.2.1; have u0:=hZ qs.1; have u1:=hZ qs.2.1; have hfx:=hZ qs.2.2.2; clear qs))
 clear q8 t4 t5 t6 t7
 go_wp2_with fail
 have v0:=u0.out
 have v1:=u1.out
 refine Ax (v:=.agg #[sv (-n),sv d]) (by simp [results,Tryz.results199,go_sem,v0,v1]) rfl ⟨rfl, ?_⟩
 exact ((Fx.of_fr (p:=fun q=>q=w.heap.size+1) (hfb.trans hfz)).trans hfx.out).toFr (fun q hq e=>by have e:q=w.heap.size+1:=e; omega)
theorem KO (n:Int) (h:(tx n).size≤1000000000):∃ v b,(b=true→v=n∧n.natAbs < 1000000000)∧(b=true∨b=false)∧Hid (∀ W,Calls Tryz.prog 236 #[.string (tx n)] W fun e w'=>e=.returned (.tuple #[.int .i64 v,.bool b])∧Fr W w'):=by
 by_cases h9:(tx n).size≤9
 ·refine ⟨n,true,fun _=>⟨rfl,H6 h9⟩,.inl rfl,fun w=>?_⟩
  have d1:decide ((9:Int) < ((tx n).size:Int))=false:=Aa (by omega)
  have ha:=hZ (fun W=>Mf n (by have:=H6 h9; omega) (by have:=H6 h9; omega) W)
  clear h h9
  go_enter Tryz.func236,Tryz.ntmps236
  go_wp2_with fail
  refine (ha.out _).mono ?_
  rintro e w1 ⟨rfl,hf1⟩
  go_wp2_with fail
  go_quiet (fail)
  go_wp2_with fail
  go_ret2
  exact ⟨rfl,hf1.drewN _⟩
 ·refine ⟨0,false,(fun e=>by cases e),.inr rfl,fun w=>?_⟩
  have d1:decide ((9:Int) < ((tx n).size:Int))=true:=Ac (by omega)
  clear h h9
  go_enter Tryz.func236,Tryz.ntmps236
  go_wp2_with fail
  go_ret2
  exact ⟨rfl,Fr.refl _⟩
theorem JU (n d:Int) (hn:(tx n).size≤1000000000) (hd:(tx d).size≤1000000000):∃ v u b,(b=true→v=n∧u=d∧n.natAbs < 1000000000∧d.natAbs < 1000000000)∧(b=true∨b=false) ∧
 Hid (∀ W,Calls Tryz.prog 191 #[.agg #[sv n,sv d]] W fun e w'=>e=.returned (.tuple #[.int .i64 v,.int .i64 u,.bool b])∧Fr W w'):=by
 obtain ⟨v,a,ha,ha2,h1⟩:=KO n hn
 obtain ⟨u,b,hb,hb2,h2⟩:=KO d hd
 refine ⟨v,u,a && b,fun h=>?_,by cases a <;> cases b <;> simp,fun w=>?_⟩
 ·rw [Bb] at h
  exact ⟨(ha h.1).1,(hb h.2).1,(ha h.1).2,(hb h.2).2⟩
 ·have hfA:Fr w (w.alloc (.cells #[sv n,sv d] 194)):=(Fr.refl w).alloc _
  have p1:=CZ w (sv n) (sv d) 194
  have p2:=CY w (sv n) (sv d) 194
  have c1:=p1.1
  have c2:=p2.1
  clear p1 p2 hn hd ha hb
  replace hfA:=hZ hfA
  rcases ha2 with rfl | rfl <;> rcases hb2 with rfl | rfl
  all_goals
   go_enter Tryz.func191,Tryz.ntmps191
   go_wp2_with fail
   refine (h1.out _).mono ?_
   rintro e w1 ⟨rfl,hf1⟩
   replace c2:=hf1.keep c2
   go_wp2_with fail
   refine (h2.out _).mono ?_
   rintro e w2 ⟨rfl,hf2⟩
   go_wp2_with fail
   go_ret3
   exact ⟨rfl,(hfA.out.trans hf1).trans hf2⟩
theorem Mp (x y:Rat) (hx:Tq x) (hy:Tq y) (w:World) (hG:G w) :
 Calls Tryz.prog 125 #[qv x,qv y] w fun e w'=>e=.returned (qv (x * y))∧Fr w w':=by
 have hn9:=hx.1.mul hy.1
 have hd9:=hx.2.mul hy.2
 have hdx:=JS x
 have hdy:=JS y
 have hM1:=fun W (hW:Fr w W)=>KR 3000 3000 (by decide) (by decide) x.num y.num hx.1 hy.1 W (hG.fr hW)
 have hM2:=fun W (hW:Fr w W)=>KR 3000 3000 (by decide) (by decide) x.den y.den hx.2 hy.2 W (hG.fr hW)
 have hL:=fun W (hW:Fr w W)=>NR (3000+3000) (by decide) (x.num * y.num) ((x.den:Int) * (y.den:Int)) hn9 hd9 (FZ (by omega) (by omega)) W (hG.fr hW)
 rw [VT] at hL
 have hof:(x.num.natAbs < 1000000000∧(x.den:Int).natAbs < 1000000000∧y.num.natAbs < 1000000000∧(y.den:Int).natAbs < 1000000000)→(IntKind.i64.wrap (x.num * y.num)=x.num * y.num∧IntKind.i64.wrap ((x.den:Int) * (y.den:Int))=(x.den:Int) * (y.den:Int))∧∀ W,Fr w W→Calls Tryz.prog 192 #[.int .i64 (x.num * y.num),.int .i64 ((x.den:Int) * (y.den:Int))] W fun e w'=>e=.returned (qv (x * y))∧Fr W w':=fun ⟨c1,c2,c3,c4⟩=>by
  have p1:=Yg c1 c3
  have p2:=Yg c2 c4
  refine ⟨⟨Al _ (by omega),Al _ (by omega)⟩,fun W hW=>?_⟩
  have h:=T4 (x.num * y.num) (x.den * y.den) (by unfold MT; omega) (Vs hdx hdy) (by unfold MT; rw [AU]; omega) W (hG.fr hW)
  rw [AU,← Rat.mul_def'] at h
  exact h
 obtain ⟨v1,u1,b1,hv1,hB1,h1⟩:=JU x.num x.den (by have:=hx.1.size2; omega) (by have:=hx.2.size2; omega)
 obtain ⟨v2,u2,b2,hv2,hB2,h2⟩:=JU y.num y.den (by have:=hy.1.size2; omega) (by have:=hy.2.size2; omega)
 clear hx hy
 unfold qv at hL hof ⊢
 generalize (x * y).num=rn at *
 generalize ((x * y).den:Int)=rd at *
 generalize x.num=n at *
 generalize y.num=m at *
 generalize (x.den:Int)=d at *
 generalize (y.den:Int)=c at *
 replace hM1:=hZ hM1
 replace hM2:=hZ hM2
 replace hL:=hZ hL
 replace hof:=hZ hof
 clear hdx hdy hn9 hd9
 obtain ⟨wb,hwb⟩:∃ wb,wb=G8 w [(.cells #[sv n,sv d] 194),(.cells #[sv m,sv c] 194),(.cells #[.string ⟨#[]⟩,.string ⟨#[]⟩] 194)]:=⟨_,rfl⟩
 have hfb:Fr w wb:=by rw [hwb]; exact IJ _ w
 have g0:wb.heap[w.heap.size]?=some (.cells #[sv n,sv d] 194 (0,0)):=by rw [hwb]; exact C6 _ w 0 _ rfl
 have g1:wb.heap[w.heap.size+1]?=some (.cells #[sv m,sv c] 194 (0,0)):=by rw [hwb]; exact C6 _ w 1 _ rfl
 have g2:wb.heap[w.heap.size+2]?=some (.cells #[.string ⟨#[]⟩,.string ⟨#[]⟩] 194 (0,0)):=by rw [hwb]; exact C6 _ w 2 _ rfl
 have b0:wb.cell? ⟨w.heap.size,0,none⟩=some (sv n):=Bt g0 0
 have b1:wb.cell? ⟨w.heap.size,1,none⟩=some (sv d):=Bt g0 1
 have b2:wb.cell? ⟨w.heap.size+1,0,none⟩=some (sv m):=Bt g1 0
 have b3:wb.cell? ⟨w.heap.size+1,1,none⟩=some (sv c):=Bt g1 1
 have q4:wb.cell? ⟨w.heap.size+1+1,0,none⟩=some (.string ⟨#[]⟩):=Bt g2 0
 have q5:wb.cell? ⟨w.heap.size+1+1,1,none⟩=some (.string ⟨#[]⟩):=Bt g2 1
 have q6:wb.frozen? ⟨w.heap.size+1+1,0,none⟩=false:=by unfold World.frozen?; rw [g2]; rfl
 have q7:wb.frozen? ⟨w.heap.size+1+1,1,none⟩=false:=by unfold World.frozen?; rw [g2]; rfl
 clear g0 g1 g2
 rcases hB1 with rfl | rfl
 ·rw [(hv1 rfl).1,(hv1 rfl).2.1] at h1
  rcases hB2 with rfl | rfl
  ·rw [(hv2 rfl).1,(hv2 rfl).2.1] at h2
   obtain ⟨⟨z1,z2⟩,hof⟩:=hof.out ⟨(hv1 rfl).2.2.1,(hv1 rfl).2.2.2,(hv2 rfl).2.2.1,(hv2 rfl).2.2.2⟩
   replace hof:=hZ hof
   clear hv1 hv2
   go_enter Tryz.func125,Tryz.ntmps125
   go_upto_region 1 with (fail)
   change Code.wp _ _ _ _ (G8 w [(.cells #[sv n,sv d] 194),(.cells #[sv m,sv c] 194),(.cells #[.string ⟨#[]⟩,.string ⟨#[]⟩] 194)])
   rw [← hwb]
   clear hwb
   go_wp2_with fail
   refine (h1.out _).mono ?_
   rintro e w1 ⟨rfl,hf1⟩
   replace hfb:=hfb.trans hf1
   replace b0:=hf1.keep b0
   replace b1:=hf1.keep b1
   replace b2:=hf1.keep b2
   replace b3:=hf1.keep b3
   replace q6:=hf1.keepf q4 q6
   replace q7:=hf1.keepf q5 q7
   replace q4:=hf1.keep q4
   replace q5:=hf1.keep q5
   clear hf1
   go_wp2_with fail
   refine (h2.out _).mono ?_
   rintro e w2 ⟨rfl,hf2⟩
   replace hfb:=hfb.trans hf2
   replace b0:=hf2.keep b0
   replace b1:=hf2.keep b1
   replace b2:=hf2.keep b2
   replace b3:=hf2.keep b3
   replace q6:=hf2.keepf q4 q6
   replace q7:=hf2.keepf q5 q7
   replace q4:=hf2.keep q4
   replace q5:=hf2.keep q5
   clear hf2
   go_wp2_with fail
   refine (hof.out _ hfb).mono ?_
   rintro e w3 ⟨rfl,hf3⟩
   replace hfb:=hfb.trans hf3
   replace b0:=hf3.keep b0
   replace b1:=hf3.keep b1
   replace b2:=hf3.keep b2
   replace b3:=hf3.keep b3
   replace q6:=hf3.keepf q4 q6
   replace q7:=hf3.keepf q5 q7
   replace q4:=hf3.keep q4
   replace q5:=hf3.keep q5
   clear hf3
   have qs:=A7 w3 (w.heap.size+1+1) (sv rn) (sv rd) _ _ q4 q5
   have q8:=qs.2.2.1
   have u0:=hZ qs.1
   have u1:=hZ qs.2.1
   have hfx:=hZ qs.2.2.2
   clear qs
   go_wp2_with fail
   have v0:=u0.out
   have v1:=u1.out
   refine Ax (v:=.agg #[sv rn,sv rd]) (by simp [results,Tryz.results125,go_sem,v0,v1]) rfl ⟨rfl, ?_⟩
   exact ((Fx.of_fr (p:=fun q=>q=w.heap.size+1+1) hfb).trans hfx.out).toFr (fun q hq e=>by have e:q=w.heap.size+1+1:=e; omega)
  ·clear hv1 hv2
   go_enter Tryz.func125,Tryz.ntmps125
   go_upto_region 1 with (fail)
   change Code.wp _ _ _ _ (G8 w [(.cells #[sv n,sv d] 194),(.cells #[sv m,sv c] 194),(.cells #[.string ⟨#[]⟩,.string ⟨#[]⟩] 194)])
   rw [← hwb]
   clear hwb
   go_wp2_with fail
   refine (h1.out _).mono ?_
   rintro e w1 ⟨rfl,hf1⟩
   replace hfb:=hfb.trans hf1
   replace b0:=hf1.keep b0
   replace b1:=hf1.keep b1
   replace b2:=hf1.keep b2
   replace b3:=hf1.keep b3
   replace q6:=hf1.keepf q4 q6
   replace q7:=hf1.keepf q5 q7
   replace q4:=hf1.keep q4
   replace q5:=hf1.keep q5
   clear hf1
   go_wp2_with fail
   refine (h2.out _).mono ?_
   rintro e w2 ⟨rfl,hf2⟩
   replace hfb:=hfb.trans hf2
   replace b0:=hf2.keep b0
   replace b1:=hf2.keep b1
   replace b2:=hf2.keep b2
   replace b3:=hf2.keep b3
   replace q6:=hf2.keepf q4 q6
   replace q7:=hf2.keepf q5 q7
   replace q4:=hf2.keep q4
   replace q5:=hf2.keep q5
   clear hf2
   go_wp2_with fail
   replace q4:=hZ q4
   replace q5:=hZ q5
   replace q6:=hZ q6
   replace q7:=hZ q7
   go_region_held3 (fun w'=>w'.cell? ⟨w.heap.size,0,none⟩=some (sv n)∧w'.cell? ⟨w.heap.size,1,none⟩=some (sv d)∧w'.cell? ⟨w.heap.size+1,0,none⟩=some (sv m)∧w'.cell? ⟨w.heap.size+1,1,none⟩=some (sv c))
    (first | exact ⟨b0,b1,b2,b3⟩ | (go_split_ands; refine ⟨?_, ?_, ?_, ?_⟩ <;> (refine Fr.keep (by assumption) ?_; assumption)) | (go_split_ands; (try dsimp only); (repeat' apply And.intro) <;> (rw [Ad _ _ _ _ (by intro e; injection e with e; omega),Ad _ _ _ _ (by intro e; injection e with e; omega)]; assumption)) | go_keep)
    (first
     | (go_at_call 80; (with_reducible refine (hM1.out _ ?_).mono ?_); (exact BR); rintro e w3 ⟨rfl,hf3⟩)
     | (go_at_call 80; (with_reducible refine (hM2.out _ ?_).mono ?_); (exact BR); rintro e w4 ⟨rfl,hf4⟩)
     | (go_at_call 193; (with_reducible refine (hL.out _ ?_).mono ?_); (exact BR); rintro e w5 ⟨rfl,hf5⟩; have hfz:Fr w2 w5:=(by exact BR); have t4:=hfz.keep q4.out; have t5:=hfz.keep q5.out; have t6:=hfz.keepf q4.out q6.out; have t7:=hfz.keepf q5.out q7.out; have qs:=A7 w5 (w.heap.size+1+1) (sv rn) (sv rd) _ _ t4 t5; have q8:=qs.2.2.1; have u0:=hZ qs.1; have u1:=hZ qs.2.1; have hfx:=hZ qs.2.2.2; clear qs))
   clear q8 t4 t5 t6 t7
   replace hfb:=hfb.trans hfz
   go_wp2_with fail
   have v0:=u0.out
   have v1:=u1.out
   refine Ax (v:=.agg #[sv rn,sv rd]) (by simp [results,Tryz.results125,go_sem,v0,v1]) rfl ⟨rfl, ?_⟩
   exact ((Fx.of_fr (p:=fun q=>q=w.heap.size+1+1) hfb).trans hfx.out).toFr (fun q hq e=>by have e:q=w.heap.size+1+1:=e; omega)
 ·clear hv1 hv2
  go_enter Tryz.func125,Tryz.ntmps125
  go_upto_region 1 with (fail)
  change Code.wp _ _ _ _ (G8 w [(.cells #[sv n,sv d] 194),(.cells #[sv m,sv c] 194),(.cells #[.string ⟨#[]⟩,.string ⟨#[]⟩] 194)])
  rw [← hwb]
  clear hwb
  go_wp2_with fail
  refine (h1.out _).mono ?_
  rintro e w1 ⟨rfl,hf1⟩
  replace hfb:=hfb.trans hf1
  replace b0:=hf1.keep b0
  replace b1:=hf1.keep b1
  replace b2:=hf1.keep b2
  replace b3:=hf1.keep b3
  replace q6:=hf1.keepf q4 q6
  replace q7:=hf1.keepf q5 q7
  replace q4:=hf1.keep q4
  replace q5:=hf1.keep q5
  clear hf1
  go_wp2_with fail
  replace q4:=hZ q4
  replace q5:=hZ q5
  replace q6:=hZ q6
  replace q7:=hZ q7
  go_region_held3 (fun w'=>w'.cell? ⟨w.heap.size,0,none⟩=some (sv n)∧w'.cell? ⟨w.heap.size,1,none⟩=some (sv d)∧w'.cell? ⟨w.heap.size+1,0,none⟩=some (sv m)∧w'.cell? ⟨w.heap.size+1,1,none⟩=some (sv c))
   (first | exact ⟨b0,b1,b2,b3⟩ | (go_split_ands; refine ⟨?_, ?_, ?_, ?_⟩ <;> (refine Fr.keep (by assumption) ?_; assumption)) | (go_split_ands; (try dsimp only); (repeat' apply And.intro) <;> (rw [Ad _ _ _ _ (by intro e; injection e with e; omega),Ad _ _ _ _ (by intro e; injection e with e; omega)]; assumption)) | go_keep)
   (first
    | (go_at_call 80; (with_reducible refine (hM1.out _ ?_).mono ?_); (exact BR); rintro e w3 ⟨rfl,hf3⟩)
    | (go_at_call 80; (with_reducible refine (hM2.out _ ?_).mono ?_); (exact BR); rintro e w4 ⟨rfl,hf4⟩)
    | (go_at_call 193; (with_reducible refine (hL.out _ ?_).mono ?_); (exact BR); rintro e w5 ⟨rfl,hf5⟩; have hfz:Fr w1 w5:=(by exact BR); have t4:=hfz.keep q4.out; have t5:=hfz.keep q5.out; have t6:=hfz.keepf q4.out q6.out; have t7:=hfz.keepf q5.out q7.out; have qs:=A7 w5 (w.heap.size+1+1) (sv rn) (sv rd) _ _ t4 t5; have q8:=qs.2.2.1; have u0:=hZ qs.1; have u1:=hZ qs.2.1; have hfx:=hZ qs.2.2.2; clear qs))
  clear q8 t4 t5 t6 t7
  replace hfb:=hfb.trans hfz
  go_wp2_with fail
  have v0:=u0.out
  have v1:=u1.out
  refine Ax (v:=.agg #[sv rn,sv rd]) (by simp [results,Tryz.results125,go_sem,v0,v1]) rfl ⟨rfl, ?_⟩
  exact ((Fx.of_fr (p:=fun q=>q=w.heap.size+1+1) hfb).trans hfx.out).toFr (fun q hq e=>by have e:q=w.heap.size+1+1:=e; omega)
theorem Vn (x y:Rat) (hx:Tq x) (hy:Tq y) (w:World) (hG:G w) :
 Calls Tryz.prog 124 #[qv x,qv y] w fun e w'=>e=.returned (qv (x+y))∧Fr w w':=by
 have h19:=hx.1.mul hy.2
 have h29:=hy.1.mul hx.2
 have h39:=hx.2.mul hy.2
 have hdx:=JS x
 have hdy:=JS y
 have hM1:=fun W (hW:Fr w W)=>KR 3000 3000 (by decide) (by decide) x.num y.den hx.1 hy.2 W (hG.fr hW)
 have hM2:=fun W (hW:Fr w W)=>KR 3000 3000 (by decide) (by decide) y.num x.den hy.1 hx.2 W (hG.fr hW)
 have hM3:=fun W (hW:Fr w W)=>KR 3000 3000 (by decide) (by decide) x.den y.den hx.2 hy.2 W (hG.fr hW)
 have hAd:=fun W (hW:Fr w W)=>RL (3000+3000) (by decide) (x.num * y.den) (y.num * x.den) h19 h29 W (hG.fr hW)
 have hL:=fun W (hW:Fr w W)=>NR (3000+3000+1) (by decide) (x.num * y.den+y.num * x.den) ((x.den:Int) * (y.den:Int)) (h19.add h29) (h39.mono (by decide)) (FZ (by omega) (by omega)) W (hG.fr hW)
 rw [Wm] at hL
 have hof:(x.num.natAbs < 1000000000∧(x.den:Int).natAbs < 1000000000∧y.num.natAbs < 1000000000∧(y.den:Int).natAbs < 1000000000)→(IntKind.i64.wrap (x.num * y.den)=x.num * y.den∧IntKind.i64.wrap (y.num * x.den)=y.num * x.den∧IntKind.i64.wrap (x.num * y.den+y.num * x.den)=x.num * y.den+y.num * x.den∧IntKind.i64.wrap ((x.den:Int) * (y.den:Int))=(x.den:Int) * (y.den:Int))∧∀ W,Fr w W→Calls Tryz.prog 192 #[.int .i64 (x.num * y.den+y.num * x.den),.int .i64 ((x.den:Int) * (y.den:Int))] W fun e w'=>e=.returned (qv (x+y))∧Fr W w':=fun ⟨c1,c2,c3,c4⟩=>by
  have p1:=Yg c1 c4
  have p2:=Yg c3 c2
  have p3:=Yg c2 c4
  refine ⟨⟨Al _ (by omega),Al _ (by omega),Al _ (by omega),Al _ (by omega)⟩,fun W hW=>?_⟩
  have h:=T4 (x.num * y.den+y.num * x.den) (x.den * y.den) (by unfold MT; omega) (Vs hdx hdy) (by unfold MT; rw [AU]; omega) W (hG.fr hW)
  rw [AU,← Y3] at h
  exact h
 have hs1:=hZ (fun W (hW:Fr w W)=>RL 3000 (by decide) x.num y.num hx.1 hy.1 W (hG.fr hW))
 have hao:=hZ (Wl x y)
 obtain ⟨v1,u1,b1,hv1,hB1,h1⟩:=JU x.num x.den (by have:=hx.1.size2; omega) (by have:=hx.2.size2; omega)
 obtain ⟨v2,u2,b2,hv2,hB2,h2⟩:=JU y.num y.den (by have:=hy.1.size2; omega) (by have:=hy.2.size2; omega)
 clear hx hy
 unfold qv at hL hof ⊢
 generalize (x+y).num=rn at *
 generalize ((x+y).den:Int)=rd at *
 generalize x.num=n at *
 generalize y.num=m at *
 generalize (x.den:Int)=d at *
 generalize (y.den:Int)=c at *
 have t1:=NJ d
 have t2:=NJ c
 replace hM1:=hZ hM1
 replace hM2:=hZ hM2
 replace hM3:=hZ hM3
 replace hAd:=hZ hAd
 replace hL:=hZ hL
 replace hof:=hZ hof
 clear hdx hdy h19 h29 h39
 obtain ⟨wb,hwb⟩:∃ wb,wb=G8 w [(.cells #[sv n,sv d] 194),(.cells #[sv m,sv c] 194),(.cells #[.string ⟨#[]⟩,.string ⟨#[]⟩] 194)]:=⟨_,rfl⟩
 have hfb:Fr w wb:=by rw [hwb]; exact IJ _ w
 have g0:wb.heap[w.heap.size]?=some (.cells #[sv n,sv d] 194 (0,0)):=by rw [hwb]; exact C6 _ w 0 _ rfl
 have g1:wb.heap[w.heap.size+1]?=some (.cells #[sv m,sv c] 194 (0,0)):=by rw [hwb]; exact C6 _ w 1 _ rfl
 have g2:wb.heap[w.heap.size+2]?=some (.cells #[.string ⟨#[]⟩,.string ⟨#[]⟩] 194 (0,0)):=by rw [hwb]; exact C6 _ w 2 _ rfl
 have b0:wb.cell? ⟨w.heap.size,0,none⟩=some (sv n):=Bt g0 0
 have b1:wb.cell? ⟨w.heap.size,1,none⟩=some (sv d):=Bt g0 1
 have b2:wb.cell? ⟨w.heap.size+1,0,none⟩=some (sv m):=Bt g1 0
 have b3:wb.cell? ⟨w.heap.size+1,1,none⟩=some (sv c):=Bt g1 1
 have q4:wb.cell? ⟨w.heap.size+1+1,0,none⟩=some (.string ⟨#[]⟩):=Bt g2 0
 have q5:wb.cell? ⟨w.heap.size+1+1,1,none⟩=some (.string ⟨#[]⟩):=Bt g2 1
 have q6:wb.frozen? ⟨w.heap.size+1+1,0,none⟩=false:=by unfold World.frozen?; rw [g2]; rfl
 have q7:wb.frozen? ⟨w.heap.size+1+1,1,none⟩=false:=by unfold World.frozen?; rw [g2]; rfl
 clear g0 g1 g2
 by_cases hone:d=1∧c=1
 ·rw [Ac hone.1] at t1
  rw [Ac hone.2] at t2
  have hr:=hZ (hao.out hone.1 hone.2)
  rw [hr.out.1,hr.out.2,show sv 1=.string ⟨#[49]⟩ from by rw [sv,GA]]
  replace hone:=hZ hone
  clear hv1 hv2 hB1 hB2
  go_enter Tryz.func124,Tryz.ntmps124
  go_upto_region 1 with (fail)
  change Code.wp _ _ _ _ (G8 w [(.cells #[sv n,sv d] 194),(.cells #[sv m,sv c] 194),(.cells #[.string ⟨#[]⟩,.string ⟨#[]⟩] 194)])
  rw [← hwb]
  clear hwb
  go_wp2_with fail
  refine (hs1.out _ hfb).mono ?_
  rintro e w3 ⟨rfl,hf3⟩
  replace hfb:=hfb.trans hf3
  replace b0:=hf3.keep b0
  replace b1:=hf3.keep b1
  replace b2:=hf3.keep b2
  replace b3:=hf3.keep b3
  replace q6:=hf3.keepf q4 q6
  replace q7:=hf3.keepf q5 q7
  replace q4:=hf3.keep q4
  replace q5:=hf3.keep q5
  clear hf3
  have qs:=A7 w3 (w.heap.size+1+1) (sv (n+m)) (.string ⟨#[49]⟩) _ _ q4 q5
  have q8:=qs.2.2.1
  have u0:=hZ qs.1
  have u1:=hZ qs.2.1
  have hfx:=hZ qs.2.2.2
  clear qs
  go_wp2_with fail
  have v0:=u0.out
  have v1:=u1.out
  refine Ax (v:=.agg #[sv (n+m),.string ⟨#[49]⟩]) (by simp [results,Tryz.results124,go_sem,v0,v1]) rfl ⟨rfl, ?_⟩
  exact ((Fx.of_fr (p:=fun q=>q=w.heap.size+1+1) hfb).trans hfx.out).toFr (fun q hq e=>by have e:q=w.heap.size+1+1:=e; omega)
 ·have hor:(((tx d).toList == [49])=true∧((tx c).toList == [49])=false)∨((tx d).toList == [49])=false:=by
   rw [t1,t2]
   by_cases h9:d=1
   ·exact .inl ⟨Ac h9,Aa fun h8=>hone ⟨h9,h8⟩⟩
   ·exact .inr (Aa h9)
  have hv1:=hZ hv1
  have hv2:=hZ hv2
  clear hone hao t1 t2 hs1
  rcases hor with ⟨t1,t2⟩ | t1 <;> rcases hB1 with rfl | rfl <;> rcases hB2 with rfl | rfl
  all_goals
   (try obtain ⟨⟨z1,z2,z3,z4⟩,hof⟩:=hof.out ⟨(hv1.out rfl).2.2.1,(hv1.out rfl).2.2.2,(hv2.out rfl).2.2.1,(hv2.out rfl).2.2.2⟩)
   (try replace hof:=hZ hof)
   (try rw [(hv1.out rfl).1,(hv1.out rfl).2.1] at h1)
   (try rw [(hv2.out rfl).1,(hv2.out rfl).2.1] at h2)
   go_enter Tryz.func124,Tryz.ntmps124
   go_upto_region 1 with (fail)
   change Code.wp _ _ _ _ (G8 w [(.cells #[sv n,sv d] 194),(.cells #[sv m,sv c] 194),(.cells #[.string ⟨#[]⟩,.string ⟨#[]⟩] 194)])
   rw [← hwb]
   clear hwb
   go_wp2_with fail
   refine (h1.out _).mono ?_
   rintro e w1 ⟨rfl,hf1⟩
   replace hfb:=hfb.trans hf1
   replace b0:=hf1.keep b0
   replace b1:=hf1.keep b1
   replace b2:=hf1.keep b2
   replace b3:=hf1.keep b3
   replace q6:=hf1.keepf q4 q6
   replace q7:=hf1.keepf q5 q7
   replace q4:=hf1.keep q4
   replace q5:=hf1.keep q5
   clear hf1
   go_wp2_with fail
   first
    | (refine (h2.out _).mono ?_
       rintro e w2 ⟨rfl,hf2⟩
       replace hfb:=hfb.trans hf2
       replace b0:=hf2.keep b0
       replace b1:=hf2.keep b1
       replace b2:=hf2.keep b2
       replace b3:=hf2.keep b3
       replace q6:=hf2.keepf q4 q6
       replace q7:=hf2.keepf q5 q7
       replace q4:=hf2.keep q4
       replace q5:=hf2.keep q5
       clear hf2
       go_wp2_with fail
       first
        | (refine (hof.out _ hfb).mono ?_
           rintro e w3 ⟨rfl,hf3⟩
           replace hfb:=hfb.trans hf3
           replace b0:=hf3.keep b0
           replace b1:=hf3.keep b1
           replace b2:=hf3.keep b2
           replace b3:=hf3.keep b3
           replace q6:=hf3.keepf q4 q6
           replace q7:=hf3.keepf q5 q7
           replace q4:=hf3.keep q4
           replace q5:=hf3.keep q5
           clear hf3
           have qs:=A7 w3 (w.heap.size+1+1) (sv rn) (sv rd) _ _ q4 q5
           have q8:=qs.2.2.1
           have u0:=hZ qs.1
           have u1:=hZ qs.2.1
           have hfx:=hZ qs.2.2.2
           clear qs
           go_wp2_with fail
           have v0:=u0.out
           have v1:=u1.out
           refine Ax (v:=.agg #[sv rn,sv rd]) (by simp [results,Tryz.results124,go_sem,v0,v1]) rfl ⟨rfl, ?_⟩
           exact ((Fx.of_fr (p:=fun q=>q=w.heap.size+1+1) hfb).trans hfx.out).toFr (fun q hq e=>by have e:q=w.heap.size+1+1:=e; omega))
        | (skip
           replace q4:=hZ q4
           replace q5:=hZ q5
           replace q6:=hZ q6
           replace q7:=hZ q7
           go_region_held3 (fun w'=>w'.cell? ⟨w.heap.size,0,none⟩=some (sv n)∧w'.cell? ⟨w.heap.size,1,none⟩=some (sv d)∧w'.cell? ⟨w.heap.size+1,0,none⟩=some (sv m)∧w'.cell? ⟨w.heap.size+1,1,none⟩=some (sv c))
            (first | exact ⟨b0,b1,b2,b3⟩ | (go_split_ands; refine ⟨?_, ?_, ?_, ?_⟩ <;> (refine Fr.keep (by assumption) ?_; assumption)) | (go_split_ands; (try dsimp only); (repeat' apply And.intro) <;> (rw [Ad _ _ _ _ (by intro e; injection e with e; omega),Ad _ _ _ _ (by intro e; injection e with e; omega)]; assumption)) | go_keep)
            (first
             | (go_at_call 80; (with_reducible refine (hM1.out _ ?_).mono ?_); (exact BR); rintro e w3 ⟨rfl,hf3⟩)
             | (go_at_call 80; (with_reducible refine (hM2.out _ ?_).mono ?_); (exact BR); rintro e w4 ⟨rfl,hf4⟩)
             | (go_at_call 80; (with_reducible refine (hM3.out _ ?_).mono ?_); (exact BR); rintro e w6 ⟨rfl,hf6⟩)
             | (go_at_call 79; (with_reducible refine (hAd.out _ ?_).mono ?_); (exact BR); rintro e w7 ⟨rfl,hf7⟩)
             | (go_at_call 193; (with_reducible refine (hL.out _ ?_).mono ?_); (exact BR); rintro e w5 ⟨rfl,hf5⟩; have hfz:Fr w2 w5:=(by exact BR); have t4:=hfz.keep q4.out; have t5:=hfz.keep q5.out; have t6:=hfz.keepf q4.out q6.out; have t7:=hfz.keepf q5.out q7.out; have qs:=A7 w5 (w.heap.size+1+1) (sv rn) (sv rd) _ _ t4 t5; have q8:=qs.2.2.1; have u0:=hZ qs.1; have u1:=hZ qs.2.1; have hfx:=hZ qs.2.2.2; clear qs))
           clear q8 t4 t5 t6 t7
           replace hfb:=hfb.trans hfz
           go_wp2_with fail
           have v0:=u0.out
           have v1:=u1.out
           refine Ax (v:=.agg #[sv rn,sv rd]) (by simp [results,Tryz.results124,go_sem,v0,v1]) rfl ⟨rfl, ?_⟩
           exact ((Fx.of_fr (p:=fun q=>q=w.heap.size+1+1) hfb).trans hfx.out).toFr (fun q hq e=>by have e:q=w.heap.size+1+1:=e; omega)))
    | (skip
       replace q4:=hZ q4
       replace q5:=hZ q5
       replace q6:=hZ q6
       replace q7:=hZ q7
       go_region_held3 (fun w'=>w'.cell? ⟨w.heap.size,0,none⟩=some (sv n)∧w'.cell? ⟨w.heap.size,1,none⟩=some (sv d)∧w'.cell? ⟨w.heap.size+1,0,none⟩=some (sv m)∧w'.cell? ⟨w.heap.size+1,1,none⟩=some (sv c))
        (first | exact ⟨b0,b1,b2,b3⟩ | (go_split_ands; refine ⟨?_, ?_, ?_, ?_⟩ <;> (refine Fr.keep (by assumption) ?_; assumption)) | (go_split_ands; (try dsimp only); (repeat' apply And.intro) <;> (rw [Ad _ _ _ _ (by intro e; injection e with e; omega),Ad _ _ _ _ (by intro e; injection e with e; omega)]; assumption)) | go_keep)
        (first
         | (go_at_call 80; (with_reducible refine (hM1.out _ ?_).mono ?_); (exact BR); rintro e w3 ⟨rfl,hf3⟩)
         | (go_at_call 80; (with_reducible refine (hM2.out _ ?_).mono ?_); (exact BR); rintro e w4 ⟨rfl,hf4⟩)
         | (go_at_call 80; (with_reducible refine (hM3.out _ ?_).mono ?_); (exact BR); rintro e w6 ⟨rfl,hf6⟩)
         | (go_at_call 79; (with_reducible refine (hAd.out _ ?_).mono ?_); (exact BR); rintro e w7 ⟨rfl,hf7⟩)
         | (go_at_call 193; (with_reducible refine (hL.out _ ?_).mono ?_); (exact BR); rintro e w5 ⟨rfl,hf5⟩; have hfz:Fr w1 w5:=(by exact BR); have t4:=hfz.keep q4.out; have t5:=hfz.keep q5.out; have t6:=hfz.keepf q4.out q6.out; have t7:=hfz.keepf q5.out q7.out; have qs:=A7 w5 (w.heap.size+1+1) (sv rn) (sv rd) _ _ t4 t5; have q8:=qs.2.2.1; have u0:=hZ qs.1; have u1:=hZ qs.2.1; have hfx:=hZ qs.2.2.2; clear qs))
       clear q8 t4 t5 t6 t7
       replace hfb:=hfb.trans hfz
       go_wp2_with fail
       have v0:=u0.out
       have v1:=u1.out
       refine Ax (v:=.agg #[sv rn,sv rd]) (by simp [results,Tryz.results124,go_sem,v0,v1]) rfl ⟨rfl, ?_⟩
       exact ((Fx.of_fr (p:=fun q=>q=w.heap.size+1+1) hfb).trans hfx.out).toFr (fun q hq e=>by have e:q=w.heap.size+1+1:=e; omega))
theorem UT (x y:Rat) (hx:Tq x) (hy:Tq y) (w:World) (hG:G w) :
 Calls Tryz.prog 201 #[qv x,qv y] w fun e w'=>e=.returned (qv (x - y))∧Fr w w':=by
 rw [Rat.sub_eq_add_neg]
 have hN:=fun W=>Px y hy.1 W
 have hA:=fun W (hW:Fr w W)=>Vn x (-y) hx hy.neg W (hG.fr hW)
 unfold qv at hN hA ⊢
 generalize (x+-y).num=rn at *
 generalize ((x+-y).den:Int)=rd at *
 generalize (-y).num=mn at *
 generalize ((-y).den:Int)=md at *
 generalize x.num=n at *
 generalize y.num=m at *
 generalize (x.den:Int)=d at *
 generalize (y.den:Int)=c at *
 replace hN:=hZ hN
 replace hA:=hZ hA
 obtain ⟨wb,hwb⟩:∃ wb,wb=G8 w [(.cells #[sv n,sv d] 194),(.cells #[sv m,sv c] 194),(.cells #[.string ⟨#[]⟩,.string ⟨#[]⟩] 194)]:=⟨_,rfl⟩
 have hfb:Fr w wb:=by rw [hwb]; exact IJ _ w
 have g0:wb.heap[w.heap.size]?=some (.cells #[sv n,sv d] 194 (0,0)):=by rw [hwb]; exact C6 _ w 0 _ rfl
 have g1:wb.heap[w.heap.size+1]?=some (.cells #[sv m,sv c] 194 (0,0)):=by rw [hwb]; exact C6 _ w 1 _ rfl
 have g2:wb.heap[w.heap.size+2]?=some (.cells #[.string ⟨#[]⟩,.string ⟨#[]⟩] 194 (0,0)):=by rw [hwb]; exact C6 _ w 2 _ rfl
 have b0:wb.cell? ⟨w.heap.size,0,none⟩=some (sv n):=Bt g0 0
 have b1:wb.cell? ⟨w.heap.size,1,none⟩=some (sv d):=Bt g0 1
 have b2:wb.cell? ⟨w.heap.size+1,0,none⟩=some (sv m):=Bt g1 0
 have b3:wb.cell? ⟨w.heap.size+1,1,none⟩=some (sv c):=Bt g1 1
 have q4:wb.cell? ⟨w.heap.size+1+1,0,none⟩=some (.string ⟨#[]⟩):=Bt g2 0
 have q5:wb.cell? ⟨w.heap.size+1+1,1,none⟩=some (.string ⟨#[]⟩):=Bt g2 1
 have q6:wb.frozen? ⟨w.heap.size+1+1,0,none⟩=false:=by unfold World.frozen?; rw [g2]; rfl
 have q7:wb.frozen? ⟨w.heap.size+1+1,1,none⟩=false:=by unfold World.frozen?; rw [g2]; rfl
 clear g0 g1 g2
 go_enter Tryz.func201,Tryz.ntmps201
 go_upto_region 1 with (fail)
 change Code.wp _ _ _ _ (G8 w [(.cells #[sv n,sv d] 194),(.cells #[sv m,sv c] 194),(.cells #[.string ⟨#[]⟩,.string ⟨#[]⟩] 194)])
 rw [← hwb]
 clear hwb
 replace q4:=hZ q4
 replace q5:=hZ q5
 replace q6:=hZ q6
 replace q7:=hZ q7
 go_region_held3 (fun w'=>w'.cell? ⟨w.heap.size,0,none⟩=some (sv n)∧w'.cell? ⟨w.heap.size,1,none⟩=some (sv d)∧w'.cell? ⟨w.heap.size+1,0,none⟩=some (sv m)∧w'.cell? ⟨w.heap.size+1,1,none⟩=some (sv c))
  (first | exact ⟨b0,b1,b2,b3⟩ | (go_split_ands; refine ⟨?_, ?_, ?_, ?_⟩ <;> (refine Fr.keep (by assumption) ?_; assumption)) | (go_split_ands; (try dsimp only); (repeat' apply And.intro) <;> (rw [Ad _ _ _ _ (by intro e; injection e with e; omega),Ad _ _ _ _ (by intro e; injection e with e; omega)]; assumption)) | go_keep)
  (first
   | (go_at_call 199; (with_reducible refine (hN.out _).mono ?_); rintro e w3 ⟨rfl,hf3⟩)
   | (go_at_call 124; (with_reducible refine (hA.out _ ?_).mono ?_); (exact BR); rintro e w5 ⟨rfl,hf5⟩; have hfz:Fr wb w5:=(by exact BR); have t4:=hfz.keep q4.out; have t5:=hfz.keep q5.out; have t6:=hfz.keepf q4.out q6.out; have t7:=hfz.keepf q5.out q7.out; have qs:=A7 w5 (w.heap.size+1+1) (sv rn) (sv rd) _ _ t4 t5; have q8:=qs.2.2.1; have u0:=hZ qs.1; have u1:=hZ qs.2.1; have hfx:=hZ qs.2.2.2; clear qs))
 clear q8 t4 t5 t6 t7
 replace hfb:=hfb.trans hfz
 go_wp2_with fail
 have v0:=u0.out
 have v1:=u1.out
 refine Ax (v:=.agg #[sv rn,sv rd]) (by simp [results,Tryz.results201,go_sem,v0,v1]) rfl ⟨rfl, ?_⟩
 exact ((Fx.of_fr (p:=fun q=>q=w.heap.size+1+1) hfb).trans hfx.out).toFr (fun q hq e=>by have e:q=w.heap.size+1+1:=e; omega)
theorem Vf (x y:Rat) (hx:Tq x) (hy:Tq y) (h0:y≠0) (w:World) (hG:G w) :
 Calls Tryz.prog 200 #[qv x,qv y] w fun e w'=>e=.returned (.tuple #[qv (x / y),.int .i64 0])∧Fr w w':=by
 have hyn:y.num≠0:=fun h=>h0 ((LN y).1 h)
 have hdx:=JS x
 have hS:=fun W=>Ky y W
 have hM1:=fun W (hW:Fr w W)=>KR 3000 3000 (by decide) (by decide) x.num y.den hx.1 hy.2 W (hG.fr hW)
 have hM2:=fun W (hW:Fr w W)=>KR 3000 3000 (by decide) (by decide) x.den y.num hx.2 hy.1 W (hG.fr hW)
 have hb1:=hx.1.mul hy.2
 have hb2:=hx.2.mul hy.1
 have hL:=fun W (hW:Fr w W)=>NR (3000+3000) (by decide) (x.num * y.den) (x.den * y.num) hb1 hb2 (FZ (by omega) hyn) W (hG.fr hW)
 rw [Wb] at hL
 unfold qv at hS hL ⊢
 have hsg:(y.num.sign == 0)=false:=Ay (fun h=>hyn (J6.1 h))
 generalize (x / y).num=rn at *
 generalize ((x / y).den:Int)=rd at *
 generalize x.num=n at *
 generalize y.num=m at *
 generalize (x.den:Int)=d at *
 generalize (y.den:Int)=c at *
 replace hS:=hZ hS
 replace hM1:=hZ hM1
 replace hM2:=hZ hM2
 replace hL:=hZ hL
 replace hyn:=hZ hyn
 clear h0 hdx hb1 hb2 hx hy
 obtain ⟨wb,hwb⟩:∃ wb,wb=G8 w [(.cells #[sv n,sv d] 194),(.cells #[sv m,sv c] 194),(.cells #[.string ⟨#[]⟩,.string ⟨#[]⟩] 194)]:=⟨_,rfl⟩
 have hfb:Fr w wb:=by rw [hwb]; exact IJ _ w
 have g0:wb.heap[w.heap.size]?=some (.cells #[sv n,sv d] 194 (0,0)):=by rw [hwb]; exact C6 _ w 0 _ rfl
 have g1:wb.heap[w.heap.size+1]?=some (.cells #[sv m,sv c] 194 (0,0)):=by rw [hwb]; exact C6 _ w 1 _ rfl
 have g2:wb.heap[w.heap.size+2]?=some (.cells #[.string ⟨#[]⟩,.string ⟨#[]⟩] 194 (0,0)):=by rw [hwb]; exact C6 _ w 2 _ rfl
 have b0:wb.cell? ⟨w.heap.size,0,none⟩=some (sv n):=Bt g0 0
 have b1:wb.cell? ⟨w.heap.size,1,none⟩=some (sv d):=Bt g0 1
 have b2:wb.cell? ⟨w.heap.size+1,0,none⟩=some (sv m):=Bt g1 0
 have b3:wb.cell? ⟨w.heap.size+1,1,none⟩=some (sv c):=Bt g1 1
 have q4:wb.cell? ⟨w.heap.size+1+1,0,none⟩=some (.string ⟨#[]⟩):=Bt g2 0
 have q5:wb.cell? ⟨w.heap.size+1+1,1,none⟩=some (.string ⟨#[]⟩):=Bt g2 1
 have q6:wb.frozen? ⟨w.heap.size+1+1,0,none⟩=false:=by unfold World.frozen?; rw [g2]; rfl
 have q7:wb.frozen? ⟨w.heap.size+1+1,1,none⟩=false:=by unfold World.frozen?; rw [g2]; rfl
 clear g0 g1 g2
 go_enter Tryz.func200,Tryz.ntmps200
 go_upto_region 1 with (fail)
 change Code.wp _ _ _ _ (G8 w [(.cells #[sv n,sv d] 194),(.cells #[sv m,sv c] 194),(.cells #[.string ⟨#[]⟩,.string ⟨#[]⟩] 194)])
 rw [← hwb]
 clear hwb
 go_wp2_with fail
 refine (hS.out _).mono ?_
 rintro e w1 ⟨rfl,hf1⟩
 replace hfb:=hfb.trans hf1
 replace b0:=hf1.keep b0
 replace b1:=hf1.keep b1
 replace b2:=hf1.keep b2
 replace b3:=hf1.keep b3
 replace q6:=hf1.keepf q4 q6
 replace q7:=hf1.keepf q5 q7
 replace q4:=hf1.keep q4
 replace q5:=hf1.keep q5
 clear hf1
 go_wp2_with fail
 replace q4:=hZ q4
 replace q5:=hZ q5
 replace q6:=hZ q6
 replace q7:=hZ q7
 go_region_held3 (fun w'=>w'.cell? ⟨w.heap.size,0,none⟩=some (sv n)∧w'.cell? ⟨w.heap.size,1,none⟩=some (sv d)∧w'.cell? ⟨w.heap.size+1,0,none⟩=some (sv m)∧w'.cell? ⟨w.heap.size+1,1,none⟩=some (sv c))
  (first | exact ⟨b0,b1,b2,b3⟩ | (go_split_ands; refine ⟨?_, ?_, ?_, ?_⟩ <;> (refine Fr.keep (by assumption) ?_; assumption)) | (go_split_ands; (try dsimp only); (repeat' apply And.intro) <;> (rw [Ad _ _ _ _ (by intro e; injection e with e; omega),Ad _ _ _ _ (by intro e; injection e with e; omega)]; assumption)) | go_keep)
  (first
   | (go_at_call 80; (with_reducible refine (hM1.out _ ?_).mono ?_); (exact BR); rintro e w3 ⟨rfl,hf3⟩)
   | (go_at_call 80; (with_reducible refine (hM2.out _ ?_).mono ?_); (exact BR); rintro e w4 ⟨rfl,hf4⟩)
   | (go_at_call 193; (with_reducible refine (hL.out _ ?_).mono ?_); (exact BR); rintro e w5 ⟨rfl,hf5⟩; have hfz:Fr w1 w5:=(by exact BR); have t4:=hfz.keep q4.out; have t5:=hfz.keep q5.out; have t6:=hfz.keepf q4.out q6.out; have t7:=hfz.keepf q5.out q7.out; have qs:=A7 w5 (w.heap.size+1+1) (sv rn) (sv rd) _ _ t4 t5; have q8:=qs.2.2.1; have u0:=hZ qs.1; have u1:=hZ qs.2.1; have hfx:=hZ qs.2.2.2; clear qs))
 clear q8 t4 t5 t6 t7
 replace hfb:=hfb.trans hfz
 go_wp2_with fail
 have v0:=u0.out
 have v1:=u1.out
 refine Ax (v:=.tuple #[.agg #[sv rn,sv rd],.int .i64 0]) (by simp [results,Tryz.results200,go_sem,v0,v1]) rfl ⟨rfl, ?_⟩
 exact ((Fx.of_fr (p:=fun q=>q=w.heap.size+1+1) hfb).trans hfx.out).toFr (fun q hq e=>by have e:q=w.heap.size+1+1:=e; omega)
end Go.Proofs.YtcglmebcfeoedaaGreatDoor
