/- Contracts and laws: VTC. -/
import Derived.Test.YtmalpgbbddkdcaaGreatDoorVTA
import Derived.Test.YtmalpgbbddkdcaaGreatDoorVC
import Derived.Deep.Cut

set_option maxRecDepth 100000
set_option maxHeartbeats 2000000
namespace Go.Proofs.YtmalpgbbddkdcaaGreatDoor
open Go.RowKit Go.Lib
attribute [local go_sem ↓] Go.wp_at_zero Go.wp_at_succ
theorem fit_smL {m:List (List Int)} {n:Nat} (h:TabOk n m):∀ r,r ∈ m→∀ x,x ∈ r→Sm x:=fun r hr x hx=>fit_sm (h.2.2.2 r hr x hx)
theorem rect_le {n:Nat} {m:List (List Int)} (h:Rect n m) (hn:n≤4):∀ r,r ∈ m→r.length≤1000000:=fun r hr=>by rw [h r hr]; omega
theorem TCheck_ok (P:List Int) (C M:List (List Int)) (aP aC aM:Option Addr) (cP cC cM:Nat) (w:World) (hG:G w) (hP:El w iv aP P) (hC:MatIs w aC C) (hM:MatIs w aM M) (hcap:C.length≤cC) (hT:Tg P C M) :
 Calls Tryz.prog 10 #[.agg #[.slice aP P.length cP,.slice aC C.length cC,.slice aM M.length cM]] w fun e w'=>e=.returned (.int .i64 0)∧Fr w w':=by
 have hn1:=hT.n1
 have hn4:=hT.n4
 have lC:=hT.tabC.1
 have lM:=hT.tabM.1
 have hpc:∀ W,Fr w W→Calls Tryz.prog 38 #[.slice aP P.length cP] W fun e w'=>e=.returned (.int .i64 0)∧Fr W w':=fun W hW=>(PCheck_any P aP cP W (hP.fr hW) (by omega)).mono fun e w' ⟨h1,h2⟩=>⟨by rw [h1,hT.prime],by rw [h2]; exact Fr.refl _⟩
 have hfine:LatFine w P.length aC C.length cC:=fun W hW=>LCheck_form C aC cC P.length W (hC.fr hW) hT.tabC hcap hT.formC
 have hsa:=fun W (hW:Fr w W)=>Satur_any C M C aC cC P.length FX W (hG.fr hW) (hC.fr hW) (fun W' hW'=>hfine W' (hW.trans hW')) hT.tabC.2.2.1 hn1 (by omega) lC (fit_smL hT.tabC) hT.ann hT.sat hT.tabM.2.2.1 (by omega) (by omega) (rect_le hT.tabC.2.2.1 hn4) hT.tabC.2.2.2
 have han:=fun W (hW:Fr w W)=>Annih_any C M aC cC P.length FX W (hG.fr hW) (hC.fr hW) (fun W' hW'=>hfine W' (hW.trans hW')) hT.tabC.2.2.1 hn1 (by omega) lC (fit_smL hT.tabC) hT.ann (by omega) (rect_le hT.tabM.2.2.1 hn4) hT.tabM.2.2.2
 have hle:∀ W a' c',Fr w W→MatIs W a' C→Calls Tryz.prog 41 #[.agg #[.int .i64 (P.length:Nat),.slice a' C.length c'],.agg #[.int .i64 (P.length:Nat),.slice aC C.length cC]] W fun e w'=>e=.returned (.bool true)∧Fr W w':=fun W a' c' hW h=>by
  have h9:=LEqual_any P.length C C a' aC c' cC W h (hC.fr hW) (by omega) (by omega) (rect_le hT.tabC.2.2.1 hn4) (rect_le hT.tabC.2.2.1 hn4)
  rw [decide_eq_true (rfl:C=C)] at h9
  exact h9
 have hsm:∀ W a' c',Fr w W→MatIs W a' M→Calls Tryz.prog 43 #[.slice a' M.length c',.slice aM M.length cM] W fun e w'=>e=.returned (.bool true)∧Fr W w':=fun W a' c' hW h=>by
  have h9:=TSame_any M M a' aM c' cM W h (hM.fr hW) (by omega) (by omega) (rect_le hT.tabM.2.2.1 hn4) (rect_le hT.tabM.2.2.1 hn4)
  rw [decide_eq_true (rfl:M=M)] at h9
  exact h9
 obtain ⟨n,hn⟩:∃ n,n=P.length:=⟨_,rfl⟩
 rw [← hn] at hpc hfine hsa han hle hn1 hn4 ⊢
 obtain ⟨nC,hnC⟩:∃ nC,nC=C.length:=⟨_,rfl⟩
 obtain ⟨nM,hnM⟩:∃ nM,nM=M.length:=⟨_,rfl⟩
 rw [← hnC] at hfine hsa han hle lC ⊢
 rw [← hnM] at hsm lM ⊢
 replace hn:=hZ hn
 replace hnC:=hZ hnC
 replace hnM:=hZ hnM
 replace hpc:=hZ hpc
 replace hfine:=hZ hfine
 replace hsa:=hZ hsa
 replace han:=hZ han
 replace hle:=hZ hle
 replace hsm:=hZ hsm
 clear hP hC hM hT hcap hG
 obtain ⟨wb,hwb⟩:∃ wb,wb=alls w [(.cells #[.slice aP n cP,.slice aC nC cC,.slice aM nM cM] 31)]:=⟨_,rfl⟩
 have hfb:Fr w wb:=by rw [hwb]; exact alls_fr _ w
 have g0:wb.heap[w.heap.size]?=some (.cells #[.slice aP n cP,.slice aC nC cC,.slice aM nM cM] 31 (0,0)):=by rw [hwb]; exact alls_get _ w 0 _ rfl
 have b0:wb.cell? ⟨w.heap.size,0,none⟩=some (.slice aP n cP):=cells_of g0 0
 have b1:wb.cell? ⟨w.heap.size,1,none⟩=some (.slice aC nC cC):=cells_of g0 1
 have b2:wb.cell? ⟨w.heap.size,2,none⟩=some (.slice aM nM cM):=cells_of g0 2
 clear g0
 go_enter Tryz.func10,Tryz.ntmps10
 go_upto_region 1 with (fail)
 change Code.wp _ _ _ _ (alls w [(.cells #[.slice aP n cP,.slice aC nC cC,.slice aM nM cM] 31)])
 rw [← hwb]
 clear hwb
 go_wp2_with fail
 refine (hpc.out _ hfb).mono ?_
 rintro e w1 ⟨rfl,hf1⟩
 replace b0:=hf1.keep b0
 replace b1:=hf1.keep b1
 replace b2:=hf1.keep b2
 have hfw:=hfb.trans hf1
 clear hfb hf1
 go_upto_region 5 with (fail)
 obtain ⟨W1,hW1⟩:∃ W1,W1=w1.alloc (.cells #[.int .i64 n,.slice aC nC cC] 61):=⟨_,rfl⟩
 have hf1:Fr w1 W1:=by rw [hW1]; exact (Fr.refl _).alloc _
 have l0:W1.cell? ⟨w1.heap.size,0,none⟩=some (.int .i64 n):=by rw [hW1]; exact (new2a _ _ _ _).1
 have l1:W1.cell? ⟨w1.heap.size,1,none⟩=some (.slice aC nC cC):=by rw [hW1]; exact (new2b _ _ _ _).1
 rw [← hW1]
 clear hW1
 obtain ⟨lb,hlb⟩:∃ lb,lb=w1.heap.size:=⟨_,rfl⟩
 rw [← hlb] at l0 l1 ⊢
 replace hlb:=hZ hlb
 replace b0:=hf1.keep b0
 replace b1:=hf1.keep b1
 replace b2:=hf1.keep b2
 replace hfw:=hfw.trans hf1
 clear hf1
 go_wp2_with fail
 refine (hfine.out _ hfw).mono ?_
 rintro e w2 ⟨rfl,hf2⟩
 replace b2:=hf2.keep b2
 replace l0:=hf2.keep l0
 replace l1:=hf2.keep l1
 replace hfw:=hfw.trans hf2
 clear hf2 b0 b1
 go_wp2_with fail
 refine (hsa.out _ hfw).mono ?_
 rintro e w3 ⟨sa,sc,rfl,hms,hf3⟩
 replace hms:=hms w3 (Fx.refl _ _)
 rw [← hnC.out]
 replace b2:=hf3.keep b2
 replace l0:=hf3.keep l0
 replace l1:=hf3.keep l1
 replace hfw:=hfw.trans hf3
 clear hf3
 go_upto_region 9 with (fail)
 obtain ⟨W2,hW2⟩:∃ W2,W2=w3.alloc (.cells #[.int .i64 n,.slice sa nC sc] 61):=⟨_,rfl⟩
 have hf1:Fr w3 W2:=by rw [hW2]; exact (Fr.refl _).alloc _
 have s0:W2.cell? ⟨w3.heap.size,0,none⟩=some (.int .i64 n):=by rw [hW2]; exact (new2a _ _ _ _).1
 have s1:W2.cell? ⟨w3.heap.size,1,none⟩=some (.slice sa nC sc):=by rw [hW2]; exact (new2b _ _ _ _).1
 rw [← hW2]
 clear hW2
 obtain ⟨sb,hsb⟩:∃ sb,sb=w3.heap.size:=⟨_,rfl⟩
 rw [← hsb] at s0 s1 ⊢
 replace hsb:=hZ hsb
 replace b2:=hf1.keep b2
 replace l0:=hf1.keep l0
 replace l1:=hf1.keep l1
 replace hms:=hZ (hms.fr hf1)
 replace hfw:=hfw.trans hf1
 clear hf1
 go_wp2_with fail
 refine (hle.out _ _ _ hfw hms.out).mono ?_
 rintro e w4 ⟨rfl,hf4⟩
 replace b2:=hf4.keep b2
 replace l0:=hf4.keep l0
 replace l1:=hf4.keep l1
 replace hfw:=hfw.trans hf4
 clear hf4 s0 s1 hms
 go_wp2_with fail
 refine (han.out _ hfw).mono ?_
 rintro e w5 ⟨xa,xc,rfl,hma,hf5⟩
 replace hma:=hma w5 (Fx.refl _ _)
 rw [← hnM.out]
 replace b2:=hf5.keep b2
 replace hfw:=hfw.trans hf5
 clear hf5 l0 l1
 go_upto_region 12 with (fail)
 obtain ⟨W3,hW3⟩:∃ W3,W3=w5.alloc (.cells #[.int .i64 n,.slice xa nM xc] 61):=⟨_,rfl⟩
 have hf1:Fr w5 W3:=by rw [hW3]; exact (Fr.refl _).alloc _
 have s1:W3.cell? ⟨w5.heap.size,1,none⟩=some (.slice xa nM xc):=by rw [hW3]; exact (new2b _ _ _ _).1
 rw [← hW3]
 clear hW3
 obtain ⟨ab,hab⟩:∃ ab,ab=w5.heap.size:=⟨_,rfl⟩
 rw [← hab] at s1 ⊢
 replace hab:=hZ hab
 replace b2:=hf1.keep b2
 replace hma:=hZ (hma.fr hf1)
 replace hfw:=hfw.trans hf1
 clear hf1
 go_wp2_with fail
 refine (hsm.out _ _ _ hfw hma.out).mono ?_
 rintro e w6 ⟨rfl,hf6⟩
 go_wp2_with fail
 go_ret
 exact ⟨rfl,hfw.trans hf6⟩
theorem TCheck_z (w:World) (aP aC aM:Option Addr) (cP cC cM:Nat) :
 Calls Tryz.prog 10 #[.agg #[.slice aP 0 cP,.slice aC 0 cC,.slice aM 0 cM]] w fun e w'=>e=.returned (.int .i64 13)∧Fr w w':=by
 have hpc:∀ W,Calls Tryz.prog 38 #[.slice aP 0 cP] W fun e w'=>e=.returned (.int .i64 13)∧Fr W w':=fun W=>(PCheck_any [] aP cP W (.inl rfl) (by decide)).mono fun e w' ⟨h1,h2⟩=>⟨h1,by rw [h2]; exact Fr.refl _⟩
 have hfA:Fr w (w.alloc (.cells #[.slice aP 0 cP,.slice aC 0 cC,.slice aM 0 cM] 31)):=(Fr.refl w).alloc _
 replace hpc:=hZ hpc
 replace hfA:=hZ hfA
 go_enter Tryz.func10,Tryz.ntmps10
 go_wp2_with fail
 refine (hpc.out _).mono ?_
 rintro e w1 ⟨rfl,hf1⟩
 go_wp2_with fail
 go_ret
 exact ⟨rfl,hfA.out.trans hf1⟩
def tzE (P:List Int):Int:=if P=[] then 13 else 0
theorem TCheck_any (P:List Int) (C M:List (List Int)) (aP aC aM:Option Addr) (cP cC cM:Nat) (w:World) (hG:G w) (hP:El w iv aP P) (hC:MatIs w aC C) (hM:MatIs w aM M) (hcap:C.length≤cC) (hT:TgZ P C M) :
 Calls Tryz.prog 10 #[.agg #[.slice aP P.length cP,.slice aC C.length cC,.slice aM M.length cM]] w fun e w'=>e=.returned (.int .i64 (tzE P))∧Fr w w':=by
 rcases hT with ⟨rfl,rfl,rfl⟩ | hT
 ·exact TCheck_z w aP aC aM cP cC cM
 ·have h1:tzE P=0:=by
   unfold tzE
   rw [if_neg (fun e=>by have:=hT.n1; rw [e] at this; simp at this)]
  rw [h1]
  exact TCheck_ok P C M aP aC aM cP cC cM w hG hP hC hM hcap hT
def begE (P x:List Int):Int:=if P=[] then 13 else if rowE x≠0 then rowE x else if x.length≠P.length then 5 else 0
theorem Begin_any (P:List Int) (C M:List (List Int)) (x:List Int) (aP aC aM xa:Option Addr) (cP cC cM xc rb:Nat) (w:World) (hG:G w) (hP:El w iv aP P) (hC:MatIs w aC C) (hM:MatIs w aM M) (hcap:C.length≤cC) (hT:TgZ P C M) (hx:El w iv xa x) (hxl:x.length≤1000000) (hc:w.cell? ⟨rb,0,none⟩=some (.slice xa x.length xc)) :
 Calls Tryz.prog 70 #[.agg #[.slice aP P.length cP,.slice aC C.length cC,.slice aM M.length cM],.slice (some ⟨rb,0,none⟩) 1 1] w fun e w'=>e=.returned (.int .i64 (begE P x))∧Fr w w':=by
 have hch:=fun W (hW:Fr w W)=>TCheck_any P C M aP aC aM cP cC cM W (hG.fr hW) (hP.fr hW) (hC.fr hW) (hM.fr hW) hcap hT
 have hrw:=fun W (hW:Fr w W)=>Check_row x xa xc W (hx.fr hW) (by omega)
 have hbe:begE P x=if tzE P≠0 then tzE P else if rowE x≠0 then rowE x else if x.length≠P.length then 5 else 0:=by
  unfold begE tzE
  by_cases h:P=[] <;> simp [h]
 rw [hbe]
 obtain ⟨n,hn⟩:∃ n,n=P.length:=⟨_,rfl⟩
 obtain ⟨nC,hnC⟩:∃ nC,nC=C.length:=⟨_,rfl⟩
 obtain ⟨nM,hnM⟩:∃ nM,nM=M.length:=⟨_,rfl⟩
 obtain ⟨m,hm⟩:∃ m,m=x.length:=⟨_,rfl⟩
 obtain ⟨E0,hE0⟩:∃ E0,E0=tzE P:=⟨_,rfl⟩
 obtain ⟨E1,hE1⟩:∃ E1,E1=rowE x:=⟨_,rfl⟩
 rw [← hn,← hnC,← hnM,← hE0] at hch
 rw [← hm,← hE1] at hrw
 rw [← hm] at hc
 rw [← hn,← hnC,← hnM,← hE0,← hE1,← hm]
 obtain ⟨res,hres⟩:∃ res,res=if E0≠0 then E0 else if E1≠0 then E1 else if m≠n then 5 else 0:=⟨_,rfl⟩
 rw [← hres]
 replace hn:=hZ hn
 replace hnC:=hZ hnC
 replace hnM:=hZ hnM
 replace hm:=hZ hm
 replace hE0:=hZ hE0
 replace hE1:=hZ hE1
 replace hch:=hZ hch
 replace hrw:=hZ hrw
 clear hP hC hM hT hcap hG hx hbe
 obtain ⟨wb,hwb⟩:∃ wb,wb=alls w [(.cells #[.slice aP n cP,.slice aC nC cC,.slice aM nM cM] 31)]:=⟨_,rfl⟩
 have hfb:Fr w wb:=by rw [hwb]; exact alls_fr _ w
 have g0:wb.heap[w.heap.size]?=some (.cells #[.slice aP n cP,.slice aC nC cC,.slice aM nM cM] 31 (0,0)):=by rw [hwb]; exact alls_get _ w 0 _ rfl
 have b0:wb.cell? ⟨w.heap.size,0,none⟩=some (.slice aP n cP):=cells_of g0 0
 have b1:wb.cell? ⟨w.heap.size,1,none⟩=some (.slice aC nC cC):=cells_of g0 1
 have b2:wb.cell? ⟨w.heap.size,2,none⟩=some (.slice aM nM cM):=cells_of g0 2
 replace hc:=hfb.keep hc
 clear g0
 by_cases e0:E0=0
 ·rw [if_neg (by rw [e0]; simp)] at hres
  have q0:(E0 != 0)=false:=by rw [e0]; rfl
  replace e0:=hZ e0
  go_enter Tryz.func70,Tryz.ntmps70
  go_upto_region 1 with (fail)
  change Code.wp _ _ _ _ (alls w [(.cells #[.slice aP n cP,.slice aC nC cC,.slice aM nM cM] 31)])
  rw [← hwb]
  clear hwb
  obtain ⟨tb,htb⟩:∃ tb,tb=w.heap.size:=⟨_,rfl⟩
  rw [← htb] at b0 b1 b2 ⊢
  replace htb:=hZ htb
  go_wp2_with fail
  refine (hch.out _ hfb).mono ?_
  rintro e w1 ⟨rfl,hf1⟩
  replace b0:=hf1.keep b0
  replace hc:=hf1.keep hc
  replace hfb:=hfb.trans hf1
  clear hf1 b1 b2
  by_cases e1:E1=0
  ·rw [if_neg (by rw [e1]; simp)] at hres
   have q1:(E1 != 0)=false:=by rw [e1]; rfl
   replace e1:=hZ e1
   by_cases e2:m=n
   ·rw [if_neg (by rw [e2]; simp)] at hres
    subst hres
    have q2:((m:Int) != (n:Int))=false:=by rw [e2]; simp
    replace e2:=hZ e2
    go_wp2_with fail
    go_loopg [16] 1 (fun k s16 wr=>∃ i:Nat,s16=.int .i64 i∧i+k=1∧Fr w1 wr)
    case atStart=>exact ⟨0,rfl,by omega,Fr.refl _⟩
    case round=>
     obtain ⟨i,rfl,hik,hf⟩:=hrel
     replace b0:=hf.keep b0
     replace hc:=hf.keep hc
     by_cases hi:i < 1
     ·obtain rfl:i=0:=by omega
      go_wp2_with fail
      refine (hrw.out _ (hfb.trans hf)).mono ?_
      rintro e w2 ⟨rfl,hf2⟩
      replace b0:=hf2.keep b0
      go_wp2_with fail
      go_roundg 0
      case measure=>omega
      case rel=>exact ⟨1,by go_num,by omega,hf.trans hf2⟩
     ·obtain rfl:i=1:=by omega
      go_wp2_with fail
      go_ret
      exact ⟨rfl,hfb.trans hf⟩
   ·rw [if_pos e2] at hres
    subst hres
    have q2:((m:Int) != (n:Int))=true:=bne_iff_ne.2 (by omega)
    replace e2:=hZ e2
    go_wp2_with fail
    refine wp_loop_rounds 2 ?_
    rw [rounds_succ]
    go_wp2_with fail
    refine (hrw.out _ hfb).mono ?_
    rintro e w2 ⟨rfl,hf2⟩
    replace b0:=hf2.keep b0
    go_wp2_with fail
    go_ret
    exact ⟨rfl,hfb.trans hf2⟩
  ·have q1:(E1 != 0)=true:=bne_iff_ne.2 e1
   rw [if_pos e1] at hres
   subst hres
   replace e1:=hZ e1
   go_wp2_with fail
   refine wp_loop_rounds 2 ?_
   rw [rounds_succ]
   go_wp2_with fail
   refine (hrw.out _ hfb).mono ?_
   rintro e w2 ⟨rfl,hf2⟩
   go_wp2_with fail
   go_ret
   exact ⟨rfl,hfb.trans hf2⟩
 ·have q0:(E0 != 0)=true:=bne_iff_ne.2 e0
  rw [if_pos e0] at hres
  subst hres
  replace e0:=hZ e0
  go_enter Tryz.func70,Tryz.ntmps70
  go_upto_region 1 with (fail)
  change Code.wp _ _ _ _ (alls w [(.cells #[.slice aP n cP,.slice aC nC cC,.slice aM nM cM] 31)])
  rw [← hwb]
  clear hwb
  go_wp2_with fail
  refine (hch.out _ hfb).mono ?_
  rintro e w1 ⟨rfl,hf1⟩
  go_wp2_with fail
  go_ret
  exact ⟨rfl,hfb.trans hf1⟩
end Go.Proofs.YtmalpgbbddkdcaaGreatDoor
