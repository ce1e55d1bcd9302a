/- Contracts and laws: VTT. -/
import Derived.Test.YtmalpgbbddkdcaaGreatDoorVTC
import Derived.Deep.CutBlock

set_option maxRecDepth 100000
set_option maxHeartbeats 4000000
namespace Go.Proofs.YtmalpgbbddkdcaaGreatDoor
open Go.RowKit Go.Lib
attribute [local go_sem ↓] Go.wp_at_zero Go.wp_at_succ
theorem ownsRow_elT {α:Type} {enc:α→Value} {w:World} {base:Nat} {e:TypeId} {a:Option Addr} {n m c:Nat} {xs:List α} (h:w.ownsRow base e 1 (.slice a n c) m (xs.map enc)):El w enc a xs:=by
 rcases ownsRow_slice h with ⟨a2,c2,hv,h2⟩
 injection hv with e1 e2 e3
 subst e1
 rcases h2 with h2 | ⟨g,rfl⟩
 ·have h1:=h.1
  subst h2
  simp at h1
  exact .inl h1
 ·obtain ⟨-,-,b1,-,f⟩:=ownsRow_some h
  refine .inr ⟨g,0,rfl,b1,fun j x hx=>?_⟩
  have:=(f j (enc x) (by rw [List.getElem?_map,hx]; rfl)).1
  simpa using this
theorem fitB_le {x:Int} (h:fitB x=true):x.natAbs≤1000000000:=by
 unfold fitB at h
 have:=of_decide_eq_true h
 omega
theorem dot_mul_bd {x y:Int} (hx:x.natAbs≤1000000000) (hy:y.natAbs≤1000000000):(x * y).natAbs≤1000000000000000000:=by
 rw [Int.natAbs_mul]
 exact Nat.mul_le_mul hx hy
theorem temL_len (M:List (List Int)) (x:List Int):(temL M x).length=M.length:=by unfold temL; rw [List.length_map]
theorem temper_any (x:List Int) (M:List (List Int)) (xa aM aP aC:Option Addr) (xc cM nP cP nC cC:Nat) (w:World) (hG:G w) (hM:MatIs w aM M) (hr:Rect x.length M) (hx:El w iv xa x) (hxl:x.length≤4) (hMl:M.length≤1000) (hxf:∀ y,y ∈ x→fitB y=true) (hMf:∀ r,r ∈ M→∀ y,y ∈ r→fitB y=true) :
 Calls Tryz.prog 71 #[.agg #[.slice aP nP cP,.slice aC nC cC,.slice aM M.length cM],.slice xa x.length xc] w fun e w'=>∃ a c,e=.returned (.slice a M.length c)∧El w' sv a (temL M x)∧Fr w w':=by
 obtain ⟨i0,ji,jz0,jz1,jz2⟩:=info_parts info65
 obtain ⟨n,hn⟩:∃ n,n=x.length:=⟨_,rfl⟩
 obtain ⟨N,hN⟩:∃ N,N=M.length:=⟨_,rfl⟩
 rw [← hn] at hr hxl
 rw [← hN] at hMl
 rw [← hn,← hN]
 obtain ⟨L,hL⟩:∃ L,L=temL M x:=⟨_,rfl⟩
 have hLg:∀ (j:Nat) (v:List Int),M[j]?=some v→L[j]?=some (dotP x v n):=fun j v hv=>by rw [hL]; unfold temL; rw [List.getElem?_map,hv,hn]; rfl
 have hLl:L.length=N:=by rw [hL,temL_len,hN]
 rw [← hL]
 replace hn:=hZ hn
 replace hN:=hZ hN
 replace hL:=hZ hL
 replace hLg:=hZ hLg
 replace hLl:=hZ hLl
 replace hM:=hZ hM
 replace hr:=hZ hr
 replace hx:=hZ hx
 replace hxf:=hZ hxf
 replace hMf:=hZ hMf
 obtain ⟨wb,hwb⟩:∃ wb,wb=alls w [(.cells #[.slice aP nP cP,.slice aC nC cC,.slice aM N cM] 31)]:=⟨_,rfl⟩
 have hfb:Fr w wb:=by rw [hwb]; exact alls_fr _ w
 have g0:wb.heap[w.heap.size]?=some (.cells #[.slice aP nP cP,.slice aC nC cC,.slice aM N cM] 31 (0,0)):=by rw [hwb]; exact alls_get _ w 0 _ rfl
 have b2:wb.cell? ⟨w.heap.size,2,none⟩=some (.slice aM N cM):=cells_of g0 2
 clear g0
 go_enter Tryz.func71,Tryz.ntmps71
 go_upto_region 1 with (fail)
 change Code.wp _ _ _ _ (alls w [(.cells #[.slice aP nP cP,.slice aC nC cC,.slice aM N cM] 31)])
 rw [← hwb]
 clear hwb
 obtain ⟨tb,htb⟩:∃ tb,tb=w.heap.size:=⟨_,rfl⟩
 rw [← htb] at b2 ⊢
 have hbase:w.heap.size≤wb.heap.size:=hfb.size
 replace htb:=hZ htb
 go_wp2_with fail
 go_loopg [5,14] N (fun k s5 s14 wr=>∃ j:Nat,s14=.int .i64 j∧j+k=N∧Fr wb wr∧wr.ownsRow wb.heap.size 114 1 s5 j ((L.take j).map sv))
 case atStart=>exact ⟨0,rfl,by omega,Fr.refl _,by simpa using World.ownsRow_nil _ _ _ _⟩
 case round=>
  obtain ⟨j,rfl,hjk,hf,hown⟩:=hrel
  by_cases hj:j < N
  ·have hdJ:decide (j < N)=true:=decide_eq_true hj
   obtain ⟨wo,rfl⟩:∃ wo:World,wo=wr:=⟨_,rfl⟩
   obtain ⟨ko,rfl⟩:∃ ko:Nat,ko=gk:=⟨_,rfl⟩
   have hfo:=hfb.trans hf
   have hj2:j < M.length:=by rw [← hN.out]; exact hj
   obtain ⟨mb,mo,va,vc,rfl,hcm,hev⟩:=(hM.out.fr hfo).at hj2
   have hvl:=hr.out _ (List.getElem_mem hj2)
   have hvf:=hMf.out _ (List.getElem_mem hj2)
   have hLj:=hLg.out j _ (List.getElem?_eq_getElem hj2)
   generalize M[j]=v at *
   rw [hvl] at hcm
   have hsn:=hZ (take_snoc hLj)
   have hGo:=hG.fr hfo
   have hdb:=dotP_bd hxf.out hvf
   replace hev:=hZ hev
   replace hvl:=hZ hvl
   replace hvf:=hZ hvf
   replace hLj:=hZ hLj
   replace hdb:=hZ hdb
   replace hown:=hZ hown
   have zj0:(0:Int)≤(j:Int):=Int.natCast_nonneg _
   have zj1:(j:Int) < (N:Int):=by omega
   go_wp2_with fail
   go_loopg [8,20] n (fun k s8 s20 wr=>∃ i:Nat,s20=.int .i64 i∧i+k=n∧Fr wo wr∧s8=.string (tx (dotP x v i)))
   case atStart=>exact ⟨0,rfl,by omega,Fr.refl _,by rw [dotP,tx_zero]⟩
   case round=>
    obtain ⟨i,rfl,hik,hf2,rfl⟩:=hrel
    by_cases hi:i < n
    ·have hdI:decide (i < n)=true:=decide_eq_true hi
     obtain ⟨wi,rfl⟩:∃ wi:World,wi=wr:=⟨_,rfl⟩
     have hfi:=hfo.trans hf2
     obtain ⟨xb,xo,y,rfl,hxb,hy,cy⟩:=(hx.out.fr hfi).at (i:=i) (by rw [← hn.out]; exact hi)
     obtain ⟨vb,vo,z,rfl,hvb,hz,cz⟩:=(hev.out.fr hf2).at (i:=i) (by rw [hvl.out]; exact hi)
     have hyb:=fitB_le (hxf.out y (List.mem_of_getElem? hy))
     have hzb:=fitB_le (hvf.out z (List.mem_of_getElem? hz))
     have hyz:=dot_mul_bd hyb hzb
     have hS:=hdb.out i
     have hstep:dotP x v (i+1)=dotP x v i+y * z:=by rw [dotP,hy,hz]; rfl
     have hGi:=hGo.fr hf2
     have hofy:=hZ (fun W (hW:Fr wi W)=>Of_any y (by omega) (by omega) W (hGi.fr hW))
     have hofz:=hZ (fun W (hW:Fr wi W)=>Of_any z (by omega) (by omega) W (hGi.fr hW))
     have hmul:=hZ (fun W (hW:Fr wi W)=>MulWd y z (Wd.of40 (by omega)) (Wd.of40 (by omega)) W (hGi.fr hW))
     have hadd:=hZ (fun W (hW:Fr wi W)=>AddWd (dotP x v i) (y * z) (Wd.of40 (by omega)) (Wd.of40 (by omega)) W (hGi.fr hW))
     generalize dotP x v i=S at *
     generalize y * z=yz at *
     rw [← hstep] at hadd
     have zi0:(0:Int)≤(i:Int):=Int.natCast_nonneg _
     have zi1:(i:Int) < (n:Int):=by omega
     replace hy:=hZ hy
     replace hz:=hZ hz
     replace hstep:=hZ hstep
     clear hyb hzb hyz hS
     go_wp2_with fail
     go_region_held3 (fun w'=>w'.cell? ⟨vb,vo+i,none⟩=some (.int .i64 z))
      (first | assumption | (refine Fr.keep (by assumption) ?_; assumption) | go_keep)
      (first
       | (go_at_call 97; (with_reducible refine (hofy.out _ ?_).mono ?_); (exact fr9); rintro e w3 ⟨rfl,hf3⟩)
       | (go_at_call 97; (with_reducible refine (hofz.out _ ?_).mono ?_); (exact fr9); rintro e w4 ⟨rfl,hf4⟩)
       | (go_at_call 96; (with_reducible refine (hmul.out _ ?_).mono ?_); (exact fr9); rintro e w5 ⟨rfl,hf5⟩)
       | (go_at_call 95; (with_reducible refine (hadd.out _ ?_).mono ?_); (exact fr9); rintro e w6 ⟨rfl,hf6⟩))
     have hf9:Fr wi w6:=by exact fr9
     go_wp2_with fail
     go_roundg (gk - 1)
     case measure=>omega
     case rel=>exact ⟨i+1,by go_num,by omega,hf2.trans hf9,rfl⟩
    ·obtain rfl:i=n:=by omega
     have hdI:decide (i < i)=false:=decide_eq_false (by omega)
     have hown2:=ownsRow_fr hown.out hf2
     go_wp2_with (at_builtin; refine wpList_append_lies _ rfl _ _ 85 (by rfl) _ 114 _ _ 1 16 Tryz.underlying85 ji jz0 jz1 jz2 rfl (by decide) _ j _ (by rfl) (World.ownsRow.alloc hown2 _) ⟨wr.heap.size,0,none⟩ 1 1 [sv (dotP x v i)] (by rfl) rfl (cell_one_newN _ _ _ _ (by simp)) (by simp [Value.oneCell']) (by decide) (by unfold maxLen; omega) (by omega) (by have:=(hf.trans hf2).size; simp; omega) (wr.heap.size+1) (by simp) ?_; intro gA capA wA hownA hgrowA hatA hltA)
     go_wp2_with fail
     go_roundg (ko - 1)
     case measure=>omega
     case rel=>exact ⟨j+1,by go_num,by omega,((hf.trans hf2).alloc _).grown hgrowA (fun k e=>(hown2.lt k e).1),by rw [hsn.out,List.map_append]; exact hownA⟩
  ·obtain rfl:j=N:=by omega
   have hdJ:decide (j < j)=false:=decide_eq_false (by omega)
   rw [List.take_of_length_le (by rw [hLl.out]; exact Nat.le_refl _)] at hown
   obtain ⟨a9,c9,rfl,-⟩:=ownsRow_slice hown
   go_wp2_with fail
   go_ret
   exact ⟨a9,c9,rfl,ownsRow_elT hown,hfb.trans hf⟩
theorem temL_bd {x:List Int} {M:List (List Int)} (hxl:x.length≤4) (hxf:∀ y,y ∈ x→fitB y=true) (hMf:∀ r,r ∈ M→∀ y,y ∈ r→fitB y=true):∀ z,z ∈ temL M x→z.natAbs≤4000000000000000000:=fun z hz=>by
 unfold temL at hz
 obtain ⟨v,hv,rfl⟩:=List.mem_map.1 hz
 have h1:=dotP_bd hxf (hMf v hv) x.length
 have h2:=Nat.mul_le_mul_right 1000000000000000000 hxl
 omega
def TemRet (w:World) (T:Int) (L:List Int) (e:Ending) (w':World):Prop :=
 (T=0→∃ a c,e=.returned (.tuple #[.slice a L.length c,.int .i64 0])∧El w' iv a L)∧(T≠0→e=.returned (.tuple #[.slice none 0 0,.int .i64 T]))∧Fr w w'
theorem temE_of {P:List Int} {M:List (List Int)} {x:List Int}:temE P M x=if begE P x≠0 then begE P x else if (temL M x).all fitB then 0 else 4:=by
 unfold temE begE
 by_cases h1:P=[]
 ·simp [h1]
 ·by_cases h2:rowE x=0
  ·by_cases h3:x.length=P.length <;> simp [h1,h2,h3]
  ·simp [h1,h2]
theorem begE_zero {P x:List Int} (h:begE P x=0):P≠[]∧rowE x=0∧x.length=P.length:=by
 unfold begE at h
 by_cases h1:P=[]
 ·rw [if_pos h1] at h; exact absurd h (by decide)
 ·rw [if_neg h1] at h
  by_cases h2:rowE x≠0
  ·rw [if_pos h2] at h; exact absurd h h2
  ·rw [if_neg h2] at h
   by_cases h3:x.length≠P.length
   ·rw [if_pos h3] at h; exact absurd h (by decide)
   ·exact ⟨h1,Classical.not_not.1 h2,Classical.not_not.1 h3⟩
theorem rowE_fit {x:List Int} (h:rowE x=0):∀ y,y ∈ x→fitB y=true:=by
 unfold rowE at h
 split at h
 ·exact absurd h (by decide)
 ·split at h
  ·exact absurd h (by decide)
  ·rename_i h2
   intro y hy
   have h3:=List.any_eq_false.1 (by simpa using h2:x.any (fun n=>!fitB n)=false) y hy
   simpa using h3
theorem Temper_any (P:List Int) (C M:List (List Int)) (x:List Int) (aP aC aM xa:Option Addr) (cP cC cM xc:Nat) (w:World) (hG:G w) (hP:El w iv aP P) (hC:MatIs w aC C) (hM:MatIs w aM M) (hcap:C.length≤cC) (hT:TgZ P C M) (hx:El w iv xa x) (hxl:x.length≤1000000) :
 Calls Tryz.prog 30 #[.agg #[.slice aP P.length cP,.slice aC C.length cC,.slice aM M.length cM],.slice xa x.length xc] w (TemRet w (temE P M x) (temL M x)):=by
 have hbg:=fun W rb (hW:Fr w W)=>Begin_any P C M x aP aC aM xa cP cC cM xc rb W (hG.fr hW) (hP.fr hW) (hC.fr hW) (hM.fr hW) hcap hT (hx.fr hW) hxl
 have hte:=temE_of (P:=P) (M:=M) (x:=x)
 have htm:begE P x=0→∀ W,Fr w W→Calls Tryz.prog 71 #[.agg #[.slice aP P.length cP,.slice aC C.length cC,.slice aM M.length cM],.slice xa x.length xc] W fun e w'=>∃ a c,e=.returned (.slice a M.length c)∧El w' sv a (temL M x)∧Fr W w':=fun h W hW=>by
  obtain ⟨h1,h2,h3⟩:=begE_zero h
  rcases hT with ⟨h9,-⟩ | hT
  ·exact absurd h9 h1
  ·exact temper_any x M xa aM aP aC xc cM P.length cP C.length cC W (hG.fr hW) (hM.fr hW) (by rw [h3]; exact hT.tabM.2.2.1) (hx.fr hW) (by have:=hT.n4; omega) (by have:=hT.tabM.1; omega) (rowE_fit h2) hT.tabM.2.2.2
 have hbd:begE P x=0→∀ z,z ∈ temL M x→z.natAbs≤4000000000000000000:=fun h=>by
  obtain ⟨h1,h2,h3⟩:=begE_zero h
  rcases hT with ⟨h9,-⟩ | hT
  ·exact absurd h9 h1
  ·exact temL_bd (by have:=hT.n4; omega) (rowE_fit h2) hT.tabM.2.2.2
 have hNb:M.length≤1000:=by
  rcases hT with ⟨-,-,rfl⟩ | hT
  ·simp
  ·have:=hT.tabM.1; omega
 obtain ⟨i0,ji,jz0,jz1,jz2⟩:=info_parts infoInt
 have hLl:=temL_len M x
 obtain ⟨L,hL⟩:∃ L,L=temL M x:=⟨_,rfl⟩
 obtain ⟨E,hE⟩:∃ E,E=begE P x:=⟨_,rfl⟩
 obtain ⟨T,hT9⟩:∃ T,T=temE P M x:=⟨_,rfl⟩
 obtain ⟨n,hn⟩:∃ n,n=P.length:=⟨_,rfl⟩
 obtain ⟨nC,hnC⟩:∃ nC,nC=C.length:=⟨_,rfl⟩
 obtain ⟨N,hN⟩:∃ N,N=M.length:=⟨_,rfl⟩
 obtain ⟨m,hm⟩:∃ m,m=x.length:=⟨_,rfl⟩
 rw [← hL] at hte htm hbd hLl
 rw [← hE] at hte htm hbd
 rw [← hE,← hn,← hnC,← hN,← hm] at hbg
 rw [← hn,← hnC,← hN,← hm] at htm
 rw [← hN] at hLl hNb
 rw [← hT9] at hte
 rw [← hT9,← hL,← hn,← hnC,← hN,← hm]
 replace hLl:=hZ hLl
 replace hL:=hZ hL
 replace hE:=hZ hE
 replace hT9:=hZ hT9
 replace hn:=hZ hn
 replace hnC:=hZ hnC
 replace hN:=hZ hN
 replace hm:=hZ hm
 replace hbg:=hZ hbg
 replace htm:=hZ htm
 replace hbd:=hZ hbd
 clear hP hC hM hcap hT hx
 obtain ⟨wb,hwb⟩:∃ wb,wb=alls w [(.cells #[.slice aP n cP,.slice aC nC cC,.slice aM N cM] 31)]:=⟨_,rfl⟩
 have hfb:Fr w wb:=by rw [hwb]; exact alls_fr _ w
 have g0:wb.heap[w.heap.size]?=some (.cells #[.slice aP n cP,.slice aC nC cC,.slice aM N cM] 31 (0,0)):=by rw [hwb]; exact alls_get _ w 0 _ rfl
 have b0:wb.cell? ⟨w.heap.size,0,none⟩=some (.slice aP n cP):=cells_of g0 0
 have b1:wb.cell? ⟨w.heap.size,1,none⟩=some (.slice aC nC cC):=cells_of g0 1
 have b2:wb.cell? ⟨w.heap.size,2,none⟩=some (.slice aM N cM):=cells_of g0 2
 obtain ⟨wc,hwc⟩:∃ wc,wc=wb.alloc (.cells #[.slice xa m xc] 24):=⟨_,rfl⟩
 have hfc:Fr wb wc:=by rw [hwc]; exact (Fr.refl _).alloc _
 have hcc:wc.cell? ⟨wb.heap.size,0,none⟩=some (.slice xa m xc):=by rw [hwc]; exact new_cell _ _ _
 have hbc:=hZ (hbg.out wc wb.heap.size (hfb.trans hfc) hcc)
 clear g0 hcc hbg
 by_cases he:E=0
 ·rw [if_neg (by rw [he]; simp)] at hte
  have q0:(E != 0)=false:=by rw [he]; rfl
  replace htm:=hZ (htm.out he)
  replace hbd:=hZ (hbd.out he)
  replace he:=hZ he
  replace hte:=hZ hte
  go_enter Tryz.func30,Tryz.ntmps30
  go_upto_region 1 with (fail)
  change Code.wp _ _ _ _ (alls w [(.cells #[.slice aP n cP,.slice aC nC cC,.slice aM N cM] 31)])
  rw [← hwb]
  clear hwb
  obtain ⟨tb,htb⟩:∃ tb,tb=w.heap.size:=⟨_,rfl⟩
  rw [← htb] at b0 b1 b2 ⊢
  replace htb:=hZ htb
  go_wp2_with (go_at_call 70; rw [← hwc]; refine hbc.out.mono ?_; rintro e w1 ⟨rfl,hf1⟩; replace b0:=(hfc.trans hf1).keep b0; replace b1:=(hfc.trans hf1).keep b1; replace b2:=(hfc.trans hf1).keep b2)
  clear hwc hbc
  have hfw:=(hfb.trans hfc).trans hf1
  clear hfb hfc hf1
  refine (htm.out _ hfw).mono ?_
  rintro e w2 ⟨ra,rc,rfl,hra,hf2⟩
  have hfw2:=hfw.trans hf2
  replace hra:=hZ hra
  clear b0 b1 b2 hf2 hfw
  go_wp2_with fail
  go_loopg [7,23] N (fun k s7 s23 wr=>∃ j:Nat,s23=.int .i64 j∧j+k=N∧Fr w2 wr∧wr.ownsRow w2.heap.size 3 1 s7 j ((L.take j).map iv)∧Hid ((L.take j).all fitB=true))
  case atStart=>exact ⟨0,rfl,by omega,Fr.refl _,by simpa using World.ownsRow_nil _ _ _ _,rfl⟩
  case round=>
   obtain ⟨j,rfl,hjk,hf,hown,hfit⟩:=hrel
   by_cases hj:j < N
   ·have hdJ:decide (j < N)=true:=decide_eq_true hj
    obtain ⟨ob,oo,z,rfl,hob,hz,cz⟩:=(hra.out.fr hf).at (i:=j) (by rw [hLl.out]; exact hj)
    have hzb:=hbd.out z (List.mem_of_getElem? hz)
    have hsn:=take_snoc hz
    have hsm:=hZ (fun W=>Small_ok z (by omega) (by omega) W)
    have hmem:=List.mem_of_getElem? hz
    replace hz:=hZ hz
    have zj0:(0:Int)≤(j:Int):=Int.natCast_nonneg _
    have zj1:(j:Int) < (N:Int):=by omega
    by_cases hfx:-1000000000≤z∧z≤1000000000
    ·have hd1:decide ((1000000000:Int) < z)=false:=decide_eq_false (by omega)
     have hd2:decide (z < -1000000000)=false:=decide_eq_false (by omega)
     have hft:Hid ((L.take (j+1)).all fitB=true):=hZ (by
      have h1:fitB z=true:=decide_eq_true hfx
      rw [hsn,List.all_append,hfit.out]; simp [h1])
     have hsn2:=hZ hsn
     replace hown:=hZ hown
     clear hmem hsn hzb
     go_wp2_with fail
     refine (hsm.out _).mono ?_
     rintro e w3 ⟨rfl,hf3⟩
     have hown2:=ownsRow_fr hown.out hf3
     go_wp2_with (at_builtin; refine wpList_append_lies _ rfl _ _ 24 (by rfl) _ 3 _ _ 1 8 Tryz.underlying24 ji jz0 jz1 jz2 rfl (by decide) _ j _ (by rfl) (World.ownsRow.alloc hown2 _) ⟨w3.heap.size,0,none⟩ 1 1 [iv z] (by rfl) rfl (cell_one_newN _ _ _ _ (by simp)) (by simp [Value.oneCell']) (by decide) (by unfold maxLen; omega) (by omega) (by have:=(hf.trans hf3).size; simp; omega) (w3.heap.size+1) (by simp) ?_; intro gA capA wA hownA hgrowA hatA hltA)
     go_wp2_with fail
     go_roundg (gk - 1)
     case measure=>omega
     case rel=>exact ⟨j+1,by go_num,by omega,((hf.trans hf3).alloc _).grown hgrowA (fun k e=>(hown2.lt k e).1),by rw [hsn2.out,List.map_append]; exact hownA,hft.out⟩
    ·have hbad:L.all fitB=false:=List.all_eq_false.2 ⟨z,hmem,by unfold fitB; rw [decide_eq_false hfx]; simp⟩
     have hT4:T=4:=by rw [hte.out,hbad]; rfl
     subst hT4
     clear hmem hsn hown hfit hte
     replace hT9:=hZ hT9
     by_cases hgt:(1000000000:Int) < z
     ·have d1:decide ((1000000000:Int) < z)=true:=decide_eq_true hgt
      clear hfx
      go_wp2_with fail
      refine (hsm.out _).mono ?_
      rintro e w3 ⟨rfl,hf3⟩
      go_wp2_with fail
      go_ret2
      exact ⟨fun h=>absurd h (by decide),fun _=>rfl,(hfw2.trans hf).trans hf3⟩
     ·have d1:decide ((1000000000:Int) < z)=false:=decide_eq_false hgt
      have d2:decide (z < (-1000000000:Int))=true:=decide_eq_true (by omega)
      clear hfx
      go_wp2_with fail
      refine (hsm.out _).mono ?_
      rintro e w3 ⟨rfl,hf3⟩
      go_wp2_with fail
      go_ret2
      exact ⟨fun h=>absurd h (by decide),fun _=>rfl,(hfw2.trans hf).trans hf3⟩
   ·obtain rfl:j=N:=by omega
    have hdJ:decide (j < j)=false:=decide_eq_false (by omega)
    rw [List.take_of_length_le (by rw [hLl.out]; exact Nat.le_refl _)] at hown hfit
    have hT0:T=0:=by rw [hte.out,hfit.out]; rfl
    subst hT0
    obtain ⟨a9,c9,rfl,-⟩:=ownsRow_slice hown
    have hel9:=hZ (ownsRow_elT hown)
    clear hown hte
    replace hT9:=hZ hT9
    go_wp2_with fail
    go_ret2
    exact ⟨fun _=>⟨a9,c9,by rw [hLl.out]; rfl,hel9.out⟩,fun h=>absurd rfl h,hfw2.trans hf⟩
 ·rw [if_pos he] at hte
  subst hte
  have q0:(T != 0)=true:=bne_iff_ne.2 he
  replace he:=hZ he
  go_enter Tryz.func30,Tryz.ntmps30
  go_upto_region 1 with (fail)
  change Code.wp _ _ _ _ (alls w [(.cells #[.slice aP n cP,.slice aC nC cC,.slice aM N cM] 31)])
  rw [← hwb]
  clear hwb
  obtain ⟨tb,htb⟩:∃ tb,tb=w.heap.size:=⟨_,rfl⟩
  rw [← htb] at b0 b1 b2 ⊢
  replace htb:=hZ htb
  go_wp2_with (go_at_call 70; rw [← hwc]; refine hbc.out.mono ?_; rintro e w1 ⟨rfl,hf1⟩)
  go_wp2_with fail
  go_ret2
  exact ⟨fun h=>absurd h he.out,fun _=>rfl,(hfb.trans hfc).trans hf1⟩
end Go.Proofs.YtmalpgbbddkdcaaGreatDoor
