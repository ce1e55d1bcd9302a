/- Contracts and laws: VFT. -/
import Derived.Test.YtmalpgbbddkdcaaGreatDoorVF

set_option maxRecDepth 100000
set_option maxHeartbeats 4000000
namespace Go.Proofs.YtmalpgbbddkdcaaGreatDoor
open Go.RowKit Go.Lib
attribute [local go_sem ↓] Go.wp_at_zero Go.wp_at_succ
def pickF1 (g:List (List Int)) (c i:Nat) (s:Option Nat):Option Nat :=
 if ent g i c=0 then s else match s with
 | none=>some i
 | some k=>if cmpI ((ent g i c).natAbs:Int) ((ent g k c).natAbs:Int) < 0 then some i else some k
def pickFT (g:List (List Int)) (c t:Nat):Nat→Option Nat
 | 0=>none
 | j+1=>pickF1 g c (t+j) (pickFT g c t j)
def restT (g:List (List Int)) (c t s:Nat):Nat→Bool
 | 0=>false
 | j+1=>restT g c t s j || ((elimToW g c t s j).map fun g3=>!decide ((ent g3 (s+j) c).fmod (ent g3 t c)=0)).getD false
def colF:Nat→List (List Int)→Nat→Nat→Option (List (List Int)×Nat)
 | 0,_,_,_=>none
 | F+1,g,c,t=>
   if colOkW g c then
    match pickFT g c t (g.length - t) with
    | none=>some (g,t)
    | some k=>(elimToW (swp g t k) c t (t+1) (g.length - (t+1))).bind fun g2=>
      if restT (swp g t k) c t (t+1) (g.length - (t+1)) then colF F g2 c t else if smW (ent g2 t c) then (finSW g2 t c).map fun g3=>(g3,t+1) else none
   else none
def formS (F:Nat):Nat→Nat→List (List Int)→Nat→Option (List (List Int)×Nat)
 | 0,_,g,t=>some (g,t)
 | n+1,c,g,t=>if t < g.length then (colF F g c t).bind fun r=>formS F n (c+1) r.1 r.2 else some (g,t)
theorem colF_succ {F c t:Nat} {g:List (List Int)} {r:List (List Int)×Nat} (h:colF (F+1) g c t=some r):colF (F+1) g c t=match pickFT g c t (g.length - t) with
 | none=>some (g,t)
 | some k=>(elimToW (swp g t k) c t (t+1) (g.length - (t+1))).bind fun g2=>
   if restT (swp g t k) c t (t+1) (g.length - (t+1)) then colF F g2 c t else if smW (ent g2 t c) then (finSW g2 t c).map fun g3=>(g3,t+1) else none:=by
 rw [colF] at h
 rw [colF]
 split at h
 ·rename_i h1; rw [if_pos h1]
 ·simp at h
theorem pickFT_lt {g:List (List Int)} {c t:Nat}:∀ j k,pickFT g c t j=some k→t≤k∧k < t+j
 | 0,k,h=>by simp [pickFT] at h
 | j+1,k,h=>by
   rw [pickFT] at h
   unfold pickF1 at h
   split at h
   ·have:=pickFT_lt j k h; omega
   ·split at h
    ·injection h with h; omega
    ·rename_i q hq
     have:=pickFT_lt j q hq
     split at h <;> (injection h with h; omega)
theorem less_n (lb lo lc ob oo oc n:Nat) (q:Int) (xs ys zs:List Int) (w:World) (hG:G w) (hx:Own w lb lo xs) (hy:Own w ob oo ys) (hne:lb≠ob) (hl:xs.length≤1000000000)
 (hn:xs.length=n) (hm:ys.length=n) (hs:takeSW q xs ys=some zs) :
 Calls Tryz.prog 116 #[.slice (some ⟨lb,lo,none⟩) n lc,.string (tx q),.slice (some ⟨ob,oo,none⟩) n oc] w fun e w'=>e=.returned (.tuple #[])∧Fx (·=lb) w w'∧Own w' lb lo zs :=
 less_any lb lo lc ob oo oc n n q xs ys zs w hG hx hy hne hl hn.symm hm.symm (by omega) hs
theorem form_any (ob oo oc:Nat) (hs:List (Nat×Nat×Nat)) (g gF:List (List Int)) (F n cols tF:Nat) (w:World) (hG:G w) (hg:GridIs w ob oo hs g) (hr:Rect n g) (hn:n≤1000000) (hl:g.length≤1000000)
 (hc:cols≤n) (hoc:g.length≤oc) (hf:formS F cols 0 g 0=some (gF,tF)) :
 Calls Tryz.prog 144 #[.slice (some ⟨ob,oo,none⟩) g.length oc,.int .i64 cols] w fun e w'=>e=.returned (.slice (some ⟨ob,oo,none⟩) tF oc)∧tF≤g.length∧gF.length=g.length∧Rect n gF∧∃ hs',Same ob hs' hs∧Fx (gb ob hs) w w'∧GridIs w' ob oo hs' gF:=by
 have hG0:=hZ hg
 have hR0:=hZ hr
 have hF0:=hZ hf
 have hG1:=hZ hG
 clear hg hr hf hG
 go_enter Tryz.func144,Tryz.ntmps144
 go_wp2_with fail
 go_loopg [5,6] cols (fun k s5 s6 wr=>∃ (c top:Nat) (g1:List (List Int)) (hs1:List (Nat×Nat×Nat)),s5=.int .i64 top∧s6=.int .i64 c∧c+k=cols∧top≤g.length∧Hid (formS F k c g1 top=some (gF,tF))∧Hid (GridIs wr ob oo hs1 g1)∧Hid (Rect n g1)∧Hid (g1.length=g.length)∧Hid (Same ob hs1 hs)∧Fx (gb ob hs) w wr)
 case atStart=>exact ⟨0,0,g,hs,rfl,rfl,by omega,by omega,hF0,hG0,hR0,rfl,⟨fun _=>Iff.rfl,fun _ h=>h⟩,Fx.refl _ _⟩
 case round=>
  obtain ⟨c,top,g1,hs1,rfl,rfl,hck,htop,hh1,hg1,hr1,hl1,hb1,hfx1⟩:=hrel
  by_cases hcc:c < cols
  ·by_cases htl:top < g.length
   ·obtain ⟨k,rfl⟩:∃ k,gk=k+1:=⟨gk - 1,by omega⟩
    have hcol:∃ r,colF F g1 c top=some r∧formS F k (c+1) r.1 r.2=some (gF,tF):=by
     have h:=hh1.out
     rw [formS,if_pos (by rw [hl1.out]; exact htl)] at h
     exact Option.bind_eq_some_iff.1 h
    obtain ⟨⟨g',t'⟩,hc1,hc2⟩:=hcol
    have hc2:=hZ hc2
    go_wp2_with fail
    go_loopg [5] F (fun f s5 wr2=>∃ (g2:List (List Int)) (hs2:List (Nat×Nat×Nat)),s5=.int .i64 top∧Hid (colF f g2 c top=some (g',t'))∧Hid (GridIs wr2 ob oo hs2 g2)∧Hid (Rect n g2)∧Hid (g2.length=g.length)∧Hid (Same ob hs2 hs)∧Fx (gb ob hs) w wr2)
    case atStart=>exact ⟨g1,hs1,rfl,hc1,hg1,hr1,hl1,hb1,hfx1⟩
    case round=>
     clear hg1 hr1 hl1 hb1 hfx1 hh1 hc1
     obtain ⟨g2,hs2,rfl,hc1,hg2,hr2,hl2,hb2,hfx2⟩:=hrel
     obtain ⟨f,rfl⟩:∃ f',gk=f'+1:=by
      cases gk with
      | zero=>have:=hc1.out; simp [colF] at this
      | succ f=>exact ⟨f,rfl⟩
     have hcok:colOkW g2 c=true:=by
      have h:=hc1.out
      unfold colF at h
      split at h
      ·assumption
      ·simp at h
     have hsm:∀ i,i < g.length→Wd (ent g2 i c):=fun i hi=>smW_wd (List.all_eq_true.1 hcok i (List.mem_range.2 (by rw [hl2.out]; exact hi)))
     replace hsm:=hZ hsm
     clear hcok
     go_wp2_with fail
     go_loopg [7,8] (g.length - top) (fun m s7 s8 wr3=>∃ i j:Nat,s8=.int .i64 i∧Hid (i=top+j)∧i+m=g.length∧s7=.int .i64 (kI (pickFT g2 c top j))∧Qt wr wr3)
     case atStart=>exact ⟨top,0,rfl,rfl,by omega,rfl,Qt.refl _⟩
     case round=>
      obtain ⟨i,j,rfl,hij,hjm,rfl,hq3⟩:=hrel
      by_cases hil:i < g.length
      ·have hgr3:=hg2.out.fr hq3.fr
       have hln2:=hl2.out
       obtain ⟨bi,oi,ki,hsi,cai,cfi,roi,boi⟩:=hgr3.at (i:=i) (by rw [hln2]; exact hil)
       have cei:=(roi.2.2 c _ (ent_at hr2.out (by rw [hln2]; exact hil) (show c < n by omega))).1
       rw [hr2.out.row (by rw [hln2]; exact hil)] at cai
       have zi:(0:Int)≤(i:Int):=Int.natCast_nonneg _
       have zi2:(i:Int) < (g.length:Int):=by omega
       have zc:(0:Int)≤(c:Int):=Int.natCast_nonneg _
       have zc2:(c:Int) < (n:Int):=by omega
       have hb:=tx_beq0 (ent g2 i c)
       have hstep:pickFT g2 c top (j+1)=pickF1 g2 c i (pickFT g2 c top j):=by rw [pickFT,hij.out]
       have hij2:=hZ (show i+1=top+(j+1) by have:=hij.out; omega)
       have hlt:=pickFT_lt (g:=g2) (c:=c) (t:=top) j
       have hs1:=hZ (hsm.out i hil).size
       by_cases h0:ent g2 i c=0
       ·rw [decide_eq_true h0] at hb
        have hst2:=hZ (show pickFT g2 c top (j+1)=pickFT g2 c top j by rw [hstep]; unfold pickF1; rw [if_pos h0])
        clear hstep h0 hlt hsi roi hgr3 hln2
        go_wp2_with fail
        go_quiet (fail)
        go_wp2_with fail
        go_roundg (gk - 1)
        case measure=>omega
        case rel=>exact ⟨i+1,j+1,by go_num,hij2,by omega,by rw [hst2.out],by repeat (with_reducible first | assumption | exact Qt.refl _ | refine Qt.drew ?_ | refine Qt.drewN ?_ _ | refine Qt.trans ?_ (by assumption))⟩
       ·rw [decide_eq_false h0] at hb
        generalize pickFT g2 c top j=p at *
        cases p with
        | none=>
          have hst2:=hZ (show pickFT g2 c top (j+1)=some i by rw [hstep]; unfold pickF1; rw [if_neg h0])
          clear hstep h0 hlt hsi roi hgr3 hln2
          simp only [kI]
          go_wp2_with fail
          go_quiet (fail)
          go_wp2_with fail
          go_roundg (gk - 1)
          case measure=>omega
          case rel=>exact ⟨i+1,j+1,by go_num,hij2,by omega,by rw [hst2.out]; rfl,by repeat (with_reducible first | assumption | exact Qt.refl _ | refine Qt.drew ?_ | refine Qt.drewN ?_ _ | refine Qt.trans ?_ (by assumption))⟩
        | some q=>
          obtain ⟨hq1,hq2⟩:=hlt q rfl
          have hql:q < g.length:=by have:=hij.out; omega
          obtain ⟨bq,oq,kq,hsq,caq,cfq,roq,boq⟩:=hgr3.at (i:=q) (by rw [hln2]; exact hql)
          have ceq:=(roq.2.2 c _ (ent_at hr2.out (by rw [hln2]; exact hql) (show c < n by omega))).1
          rw [hr2.out.row (by rw [hln2]; exact hql)] at caq
          have zq:(0:Int)≤(q:Int):=Int.natCast_nonneg _
          have zq2:(q:Int) < (g.length:Int):=by omega
          have zq3:decide ((q:Int) < 0)=false:=decide_eq_false (by omega)
          have hs2:=hZ (hsm.out q hql).size
          have hs3:=hZ (show (tx ((ent g2 i c).natAbs:Int)).size≤16000002 from (hsm.out i hil).asize)
          have hs4:=hZ (show (tx ((ent g2 q c).natAbs:Int)).size≤16000002 from (hsm.out q hql).asize)
          replace hq1:=hZ hq1
          replace hq2:=hZ hq2
          by_cases hcm:cmpI ((ent g2 i c).natAbs:Int) ((ent g2 q c).natAbs:Int) < 0
          ·have hst2:=hZ (show pickFT g2 c top (j+1)=some i by rw [hstep]; unfold pickF1; rw [if_neg h0]; simp only [if_pos hcm])
           have hcd:decide (cmpI ((ent g2 i c).natAbs:Int) ((ent g2 q c).natAbs:Int) < 0)=true:=decide_eq_true hcm
           clear hstep h0 hlt hsi roi hgr3 hln2 hsq roq hcm
           simp only [kI]
           go_wp2_with fail
           go_quiet (first | (go_at_call 208; exact Calls.quiet_of (Abs_anyQ _ _ (by first | (have:=hs1.out; omega) | (have:=hs2.out; omega)))) | (go_at_call 207; exact Calls.quiet_of (Compare_anyQ _ _ _ (by have:=hs3.out; omega) (by have:=hs4.out; omega))))
           go_wp2_with fail
           go_roundg (gk - 1)
           case measure=>omega
           case rel=>exact ⟨i+1,j+1,by go_num,hij2,by omega,by rw [hst2.out]; rfl,by repeat (with_reducible first | assumption | exact Qt.refl _ | refine Qt.drew ?_ | refine Qt.drewN ?_ _ | refine Qt.trans ?_ (by assumption))⟩
          ·have hst2:=hZ (show pickFT g2 c top (j+1)=some q by rw [hstep]; unfold pickF1; rw [if_neg h0]; simp only [if_neg hcm])
           have hcd:decide (cmpI ((ent g2 i c).natAbs:Int) ((ent g2 q c).natAbs:Int) < 0)=false:=decide_eq_false hcm
           clear hstep h0 hlt hsi roi hgr3 hln2 hsq roq hcm
           simp only [kI]
           go_wp2_with fail
           go_quiet (first | (go_at_call 208; exact Calls.quiet_of (Abs_anyQ _ _ (by first | (have:=hs1.out; omega) | (have:=hs2.out; omega)))) | (go_at_call 207; exact Calls.quiet_of (Compare_anyQ _ _ _ (by have:=hs3.out; omega) (by have:=hs4.out; omega))))
           go_wp2_with fail
           go_roundg (gk - 1)
           case measure=>omega
           case rel=>exact ⟨i+1,j+1,by go_num,hij2,by omega,by rw [hst2.out]; rfl,by repeat (with_reducible first | assumption | exact Qt.refl _ | refine Qt.drew ?_ | refine Qt.drewN ?_ _ | refine Qt.trans ?_ (by assumption))⟩
      ·have hj:j=g.length - top:=by have:=hij.out; omega
       have hd:decide (i < g.length)=false:=decide_eq_false hil
       have hcol:=colF_succ hc1.out
       rw [hl2.out,← hj,hc1.out] at hcol
       have hlt:=pickFT_lt (g:=g2) (c:=c) (t:=top) j
       generalize pickFT g2 c top j=p at *
       have hgr3:=hZ (hg2.out.fr hq3.fr)
       have hfx3:=hfx2.fr hq3.fr
       cases p with
       | none=>
         have hcol2:=hZ (show some (g',t')=some (g2,top) from hcol)
         clear hcol hlt
         simp only [kI]
         go_wp2_with fail
         go_roundg k
         case measure=>omega
         case rel=>
          have h:=hcol2.out
          injection h with h; injection h with h1 h2; subst h1; subst h2
          exact ⟨c+1,t',g',hs2,by go_num,by go_num,by omega,htop,hc2,hgr3,hr2,hl2,hb2,hfx3⟩
       | some q=>
         have hq:=hlt q rfl
         have hq2:q < g.length:=by have:=hij.out; omega
         replace hq:=hZ hq.1
         simp only [kI]
         clear hlt
         have hcolT:∃ gE,elimToW (swp g2 top q) c top (top+1) (g.length - (top+1))=some gE∧(if restT (swp g2 top q) c top (top+1) (g.length - (top+1)) then colF f gE c top else if smW (ent gE top c) then (finSW gE top c).map fun g3=>(g3,top+1) else none)=some (g',t') :=
          Option.bind_eq_some_iff.1 hcol.symm
         clear hcol
         have zq3:decide ((q:Int) < 0)=false:=decide_eq_false (by omega)
         have hln2:=hl2.out
         obtain ⟨bt,ot,kt,hst,cat,cft,rot,bot⟩:=hgr3.out.at (i:=top) (by rw [hln2]; exact htl)
         obtain ⟨bq,oq,kq,hsq,caq,cfq,roq,boq⟩:=hgr3.out.at (i:=q) (by rw [hln2]; exact hq2)
         rw [hr2.out.row (by rw [hln2]; exact htl)] at cat
         rw [hr2.out.row (by rw [hln2]; exact hq2)] at caq
         have ztop:(0:Int)≤(top:Int):=Int.natCast_nonneg _
         have zq:(0:Int)≤(q:Int):=Int.natCast_nonneg _
         have ztop2:(top:Int) < (g.length:Int):=by omega
         have zq2:(q:Int) < (g.length:Int):=by omega
         obtain ⟨X,hX⟩:∃ X,(wr.setCell ⟨ob,oo+top,none⟩ (.slice (some ⟨bq,oq,none⟩) n kq)).cell? ⟨ob,oo+q,none⟩=some X:=by
          by_cases htq:top=q
          ·subst htq; exact ⟨_,World.cell?_setCell_same' _ _ _ (by rw [cat]; rfl)⟩
          ·exact ⟨_,by rw [World.cell?_setCell_other _ _ _ _ (fun e=>by injection e with _ e; omega)]; exact caq⟩
         obtain ⟨W,hW⟩:∃ W,W=((wr.setCell ⟨ob,oo+top,none⟩ (.slice (some ⟨bq,oq,none⟩) n kq)).setCell ⟨ob,oo+q,none⟩ (.slice (some ⟨bt,ot,none⟩) n kt)).drew:=⟨_,rfl⟩
         have hgX:GridIs W ob oo (swp hs2 top q) (swp g2 top q):=by
          rw [hW]
          by_cases htq:top=q
          ·subst htq
           have e:=hst.symm.trans hsq
           injection e with e; injection e with e1 e; injection e with e2 e3
           subst e1; subst e2; subst e3
           rw [swp_same,swp_same]
           exact (hgr3.out.same cat).fr (Fr.refl _).drew
          ·have hgt:=List.getElem?_eq_getElem (show top < g2.length by rw [hln2]; exact htl)
           have hgq:=List.getElem?_eq_getElem (show q < g2.length by rw [hln2]; exact hq2)
           have h:=(hgr3.out.swap hst hsq hgt hgq htq).fr (Fr.refl _).drew
           rw [hr2.out.row (by rw [hln2]; exact hq2),hr2.out.row (by rw [hln2]; exact htl)] at h
           exact h
         have hfX:Fx (gb ob hs) w W:=by rw [hW]; exact ((hfx3.setCell (q:=⟨ob,oo+top,none⟩) (.inl (.inl rfl)) _).setCell (q:=⟨ob,oo+q,none⟩) (.inl (.inl rfl)) _).drew
         have hRX:=hZ (swp_rect (i:=top) (j:=q) hr2.out)
         have hlX:=hZ (show (swp g2 top q).length=g.length by rw [swp_len]; exact hln2)
         have hbX:=hZ (show Same ob (swp hs2 top q) hs from ⟨fun k=>(gb_swp hst hsq k).trans (hb2.out.1 k),fun h hm=>hb2.out.2 h (swp_mem hm)⟩)
         replace hcolT:=hZ hcolT
         replace hst:=hZ hst
         replace hsq:=hZ hsq
         replace hgX:=hZ hgX
         replace hW:=hZ hW
         go_wp2_with fail
         go_region
         rw [← hW.out]
         clear hW hX hg2 hr2 hl2 hb2 hfx2 hgr3 hfx3 hst hsq cat caq cft cfq rot roq hc1 hq3 hsm hln2 hij hd
         generalize swp g2 top q=gX at *
         generalize swp hs2 top q=hsX at *
         as_aux_lemma=>
          obtain ⟨gE,hE1,hE2⟩:=hcolT.out
          replace hE1:=hZ hE1
          go_wp2_with fail
          go_loopg [9,10] (g.length - (top+1)) (fun m s9 s10 wr4=>∃ (i j:Nat) (g3:List (List Int)),s9=.bool (restT gX c top (top+1) j)∧s10=.int .i64 i∧Hid (i=top+1+j)∧i+m=g.length∧Hid (elimToW gX c top (top+1) j=some g3)∧GridIs wr4 ob oo hsX g3∧Fx (gb ob hs) w wr4)
          case atStart=>exact ⟨top+1,0,gX,rfl,by go_num,rfl,by omega,rfl,hgX.out,hfX⟩
          case round=>
           as_aux_lemma=>
            clear hgX hfX
            obtain ⟨i,j,g3,rfl,rfl,hij,him,he,hg3,hfx4⟩:=hrel
            obtain ⟨hr3,hl3⟩:=elimToW_keeps hRX.out j g3 he.out (by rw [hlX.out]; have:=hij.out; omega)
            rw [hlX.out] at hl3
            replace hr3:=hZ hr3
            have hl3':=hl3
            replace hl3:=hZ hl3
            by_cases hil:i < g.length
            ·obtain ⟨g4,hg4⟩:=elimToW_mono (j+1) (g.length - (top+1)) gE hE1.out (by have:=hij.out; omega)
             have hstep:elim1W g3 c top i=some g4:=by
              have:=hg4
              rw [elimToW,he.out] at this
              rw [hij.out]
              simpa using this
             obtain ⟨sa,sb,hb0,r,htk,rfl⟩:=elim1W_some hstep
             have hrs:restT gX c top (top+1) (j+1)=(restT gX c top (top+1) j || !decide ((ent g3 i c).fmod (ent g3 top c)=0)):=by
              rw [restT,he.out,hij.out]; rfl
             have hbz:=tx_beq0 ((ent g3 i c).fmod (ent g3 top c))
             rw [← hbz] at hrs
             clear hbz
             replace hrs:=hZ hrs
             obtain ⟨bR,hbR⟩:∃ bR,bR=restT gX c top (top+1) j:=⟨_,rfl⟩
             rw [← hbR] at hrs ⊢
             clear hbR
             have hj1:i < g3.length:=by omega
             have ht1:top < g3.length:=by omega
             obtain ⟨b1,o1,k1,hs1,ca1,cf1,ro1,bo1⟩:=hg3.at hj1
             obtain ⟨b2,o2,k2,hs2,ca2,cf2,ro2,bo2⟩:=hg3.at ht1
             have hb12:=hg3.apart i top _ _ hs1 hs2 (by have:=hij.out; omega)
             have ce1:=(ro1.2.2 c _ (ent_at hr3.out hj1 (by omega))).1
             have ce2:=(ro2.2.2 c _ (ent_at hr3.out ht1 (by omega))).1
             rw [hr3.out.row hj1] at ca1
             rw [hr3.out.row ht1] at ca2
             have hGr:=hG1.out.fx hfx4 hG0.out.ge
             have q0:(0:Int)≤(i:Int):=Int.natCast_nonneg _
             have q1:(i:Int) < (g.length:Int):=by omega
             have q2:(top:Int) < (g.length:Int):=by omega
             have q3:(c:Int) < (n:Int):=by omega
             have q4:(0:Int)≤(top:Int):=Int.natCast_nonneg _
             have q5:(0:Int)≤(c:Int):=Int.natCast_nonneg _
             replace hg4:=hZ hg4
             replace htk:=hZ htk
             replace hg3:=hZ hg3
             replace ro1:=hZ ro1
             replace ro2:=hZ ro2
             replace hs1:=hZ hs1
             replace hs2:=hZ hs2
             replace hstep:=hZ hstep
             clear hl3'
             go_wp2_with fail
             go_region_held3 (fun w'=>w'.cell? ⟨ob,oo+i,none⟩=some (.slice (some ⟨b1,o1,none⟩) n k1)∧w'.cell? ⟨b1,o1+c,none⟩=some (.string (tx (ent g3 i c)))∧w'.cell? ⟨ob,oo+top,none⟩=some (.slice (some ⟨b2,o2,none⟩) n k2)∧w'.cell? ⟨b2,o2+c,none⟩=some (.string (tx (ent g3 top c))))
              (first | go_keep | (go_split_ands; refine ⟨?_, ?_, ?_, ?_⟩ <;> (refine Fr.keep (by assumption) ?_; assumption)))
              (first | (go_at_call 115; refine (DivModWd _ _ sa sb hb0 _ (hGr.fr ?_)).mono ?_; (exact fr9); rintro e w1 ⟨rfl,hf1⟩))
             have hfr:Fr wr w1:=by exact fr9
             replace ca1:=hfr.keep (p:=⟨ob,oo+i,none⟩) ca1
             replace ca2:=hfr.keep (p:=⟨ob,oo+top,none⟩) ca2
             have len1:(g3[i]).length=n:=hr3.out.row hj1
             have len2:(g3[top]).length=n:=hr3.out.row ht1
             rw [rowAt_eq hj1,rowAt_eq ht1] at htk
             replace len1:=hZ len1
             replace len2:=hZ len2
             go_wp2_with fail
             go_region_held3 (fun w'=>w'.cell? ⟨ob,oo+i,none⟩=some (.slice (some ⟨b1,o1,none⟩) n k1)∧w'.cell? ⟨ob,oo+top,none⟩=some (.slice (some ⟨b2,o2,none⟩) n k2))
              (first | go_keep | (go_split_ands; refine ⟨?_, ?_⟩ <;> (refine Fx.keep (p:=(·=b1)) (by assumption) (by assumption) (fun e=>bo1 e.symm))))
              (first | (go_at_call 116; refine (less_n b1 o1 k1 b2 o2 k2 n _ _ _ r _ (hGr.fr ?_) (ro1.out.fr ?_) (ro2.out.fr ?_) hb12 (by rw [len1.out]; omega) len1.out len2.out htk.out).mono ?_; (exact fr9); (exact fr9); (exact fr9); rintro e w2 ⟨rfl,hfx5,hown5⟩))
             have hgF:=hg3.out.setRowF hs1.out hfx5 hown5 (fun xs h=>by have h2:=takeSW_len htk.out; rw [List.getElem?_eq_getElem hj1] at h; injection h with h; rw [← h]; exact h2) (by exact fr9)
             have hfF:=hfx4.via hfx5 (fun j hj=>(hbX.out.1 j).1 (gb_mem hs1.out j hj)) (by exact fr9)
             cases hrz:((tx ((ent g3 i c).fmod (ent g3 top c))).toList == [48])
             all_goals
              rw [hrz] at hrs
              cases bR
              all_goals
               go_wp2_with fail
               go_roundg (gk - 1)
               case measure=>omega
               case rel=>exact ⟨i+1,j+1,_,by rw [hrs.out]; rfl,by go_num,by have:=hij.out; show _=_; omega,by omega,hg4.out,hgF,hfF⟩
            ·have hd2:decide (i < g.length)=false:=decide_eq_false hil
             have hjj:j=g.length - (top+1):=by have:=hij.out; omega
             have hge:g3=gE:=by
              have h1:=he.out
              rw [hjj,hE1.out] at h1
              injection h1 with h1; exact h1.symm
             subst hge
             replace hjj:=hZ hjj
             clear hl3'
             cases hRT:restT gX c top (top+1) j with
             | true=>
               rw [← hjj.out,hRT,if_pos rfl] at hE2
               replace hE2:=hZ hE2
               go_wp2_with fail
               go_roundg f
               case measure=>omega
               case rel=>exact ⟨g3,hsX,rfl,hE2,hg3,hr3,hl3,hbX,hfx4⟩
             | false=>
               rw [← hjj.out,hRT,if_neg (by simp)] at hE2
               split at hE2
               ·rename_i hsB
                have hfin:finSW g3 top c=some g'∧t'=top+1:=by
                 obtain ⟨g4,h1,h2⟩:=Option.map_eq_some_iff.1 hE2
                 injection h2 with h2 h3
                 subst h2
                 exact ⟨h1,h3.symm⟩
                obtain ⟨hF9,rfl⟩:=hfin
                have ht3:top < g3.length:=by have:=hl3.out; omega
                obtain ⟨b2,o2,k2,hs2,ca2,cf2,ro2,bo2⟩:=hg3.at ht3
                have ce2:=(ro2.2.2 c _ (ent_at hr3.out ht3 (by omega))).1
                rw [hr3.out.row ht3] at ca2
                have q2:(top:Int) < (g.length:Int):=by omega
                have q3:(c:Int) < (n:Int):=by omega
                have q4:(0:Int)≤(top:Int):=Int.natCast_nonneg _
                have q5:(0:Int)≤(c:Int):=Int.natCast_nonneg _
                unfold finSW at hF9
                by_cases hneg:ent g3 top c < 0
                ·as_aux_lemma=>
                 rw [if_pos hneg] at hF9
                 split at hF9
                 ·rename_i hsm9
                  have hrow:=rowAt_eq ht3
                  rw [hrow] at hF9 hsm9
                  have hrl:=hr3.out.row ht3
                  have hRg:=hZ (hr3.out.set (i:=top) (r:=(g3[top]).map (fun x=>-x)) (by simp [hrl]))
                  have hLg:Hid ((g3.set top ((g3[top]).map (fun x=>-x))).length=g.length):=hZ (by rw [List.length_set]; exact hl3.out)
                  have hturn:=fun W (hW:Fr wr W)=>negate_any b2 o2 k2 g3[top] W ((hG1.out.fx hfx4 hG0.out.ge).fr hW) (ro2.fr hW) (by rw [hrl]; omega) (smRowW_mem hsm9)
                  rw [hrl] at hturn
                  have hGs:∀ W w',Fr wr W→Fx (·=b2) W w'→Own w' b2 o2 ((g3[top]).map (fun x=>-x))→GridIs w' ob oo hsX (g3.set top ((g3[top]).map (fun x=>-x))):=fun W w' k0 k1 k2=>(hg3.fr k0).setRow hs2 k1 k2 (fun xs h=>by rw [List.getElem?_eq_getElem ht3] at h; injection h with h; rw [← h]; simp)
                  have hbs:=hZ (fun j hj=>(hbX.out.1 j).1 (gb_mem (ob:=ob) hs2 j hj))
                  have hlt0:ent g3 top c < 0:=hneg
                  generalize g3.set top ((g3[top]).map (fun x=>-x))=g0 at *
                  generalize (g3[top]).map (fun x=>-x)=zs at *
                  have hFg:=hZ hF9
                  replace hGs:=hZ hGs
                  replace hturn:=hZ hturn
                  have hfx4h:=hZ hfx4
                  clear hF9 hrow hg3 hr3 hl3 hrl hneg ro2 hs2 hsm9 hsB he hRT ht3
                  go_wp2_with fail
                  refine (Sign_any _ _).mono ?_
                  rintro e w8 ⟨rfl,rfl⟩
                  go_wp2_with fail
                  refine (hturn.out _ (Fr.refl _)).mono ?_
                  rintro e w9 ⟨rfl,hfx9,hown9⟩
                  have hGg:=hZ (hGs.out _ w9 (Fr.refl _) hfx9 hown9)
                  have hfx10:=hfx4h.out.via hfx9 hbs.out (Fr.refl _)
                  clear hown9 hfx9 hturn ca2 cf2 ce2 hlt0 hfx4
                  go_wp2_with fail
                  go_loopg [143] top (fun m s143 wr=>∃ (j:Nat) (g1:List (List Int)),s143=.int .i64 j∧j+m=top∧Hid (elimToW g0 c top 0 j=some g1)∧GridIs wr ob oo hsX g1∧Fx (gb ob hs) w wr)
                  case atStart=>exact ⟨0,g0,rfl,by omega,rfl,hGg.out,hfx10⟩
                  case round=>
                   obtain ⟨j,g1,rfl,hjk,he,hgr,hfx⟩:=hrel
                   obtain ⟨hr1,hl1⟩:=elimToW_keeps hRg.out j g1 he.out (by have:=hLg.out; omega)
                   have hLg2:=hLg.out
                   by_cases hlt:j < top
                   ·obtain ⟨g2,hg2⟩:=elimToW_mono (j+1) top g' hFg.out (by omega)
                    have hstep:elim1W g1 c top j=some g2:=by
                     have:=hg2
                     rw [elimToW,he.out] at this
                     simpa using this
                    obtain ⟨sa,sb,hb0,r,htk,rfl⟩:=elim1W_some hstep
                    have hj1:j < g1.length:=by omega
                    have ht1:top < g1.length:=by omega
                    obtain ⟨b1,o1,k1,hs1,ca1,cf1,ro1,bo1⟩:=hgr.at hj1
                    obtain ⟨b2,o2,k2,hs2,ca2,cf2,ro2,bo2⟩:=hgr.at ht1
                    have hb12:=hgr.apart j top _ _ hs1 hs2 (by omega)
                    have ce1:=(ro1.2.2 c _ (ent_at hr1 hj1 (by omega))).1
                    have ce2:=(ro2.2.2 c _ (ent_at hr1 ht1 (by omega))).1
                    rw [hr1.row hj1] at ca1
                    rw [hr1.row ht1] at ca2
                    have hGr:=hG1.out.fx hfx hG0.out.ge
                    have q0:(0:Int)≤(j:Int):=Int.natCast_nonneg _
                    have q1:(j:Int) < (g.length:Int):=by omega
                    have q2:(top:Int) < (g.length:Int):=by omega
                    have q3:(c:Int) < (n:Int):=by omega
                    replace hg2:=hZ hg2
                    replace htk:=hZ htk
                    have hgr2:=hZ hgr
                    replace ro1:=hZ ro1
                    replace ro2:=hZ ro2
                    replace hs1:=hZ hs1
                    replace hr1:=hZ hr1
                    go_wp2_with fail
                    go_region_held3 (fun w'=>w'.cell? ⟨ob,oo+j,none⟩=some (.slice (some ⟨b1,o1,none⟩) n k1)∧w'.cell? ⟨b1,o1+c,none⟩=some (.string (tx (ent g1 j c)))∧w'.cell? ⟨ob,oo+top,none⟩=some (.slice (some ⟨b2,o2,none⟩) n k2)∧w'.cell? ⟨b2,o2+c,none⟩=some (.string (tx (ent g1 top c))))
                     (first | go_keep | (go_split_ands; refine ⟨?_, ?_, ?_, ?_⟩ <;> (refine Fr.keep (by assumption) ?_; assumption)))
                     (first | (go_at_call 115; refine (DivModWd _ _ sa sb hb0 _ (hGr.fr ?_)).mono ?_; (exact fr9); rintro e w1 ⟨rfl,hf1⟩))
                    have hfr:Fr wr w1:=by exact fr9
                    replace ca1:=hfr.keep (p:=⟨ob,oo+j,none⟩) ca1
                    replace ca2:=hfr.keep (p:=⟨ob,oo+top,none⟩) ca2
                    go_wp2_with fail
                    have len1:(g1[j]).length=n:=hr1.out.row hj1
                    have len2:(g1[top]).length=n:=hr1.out.row ht1
                    rw [rowAt_eq hj1,rowAt_eq ht1] at htk
                    replace len1:=hZ len1
                    replace len2:=hZ len2
                    go_region_held3 (fun w'=>w'.cell? ⟨ob,oo+j,none⟩=some (.slice (some ⟨b1,o1,none⟩) n k1)∧w'.cell? ⟨ob,oo+top,none⟩=some (.slice (some ⟨b2,o2,none⟩) n k2))
                     (first | go_keep | (go_split_ands; refine ⟨?_, ?_⟩ <;> (refine Fx.keep (p:=(·=b1)) (by assumption) (by assumption) (fun e=>bo1 e.symm))))
                     (first | (go_at_call 116; refine (less_n b1 o1 k1 b2 o2 k2 n _ _ _ r _ (hGr.fr ?_) (ro1.out.fr ?_) (ro2.out.fr ?_) hb12 (by rw [len1.out]; omega) len1.out len2.out htk.out).mono ?_; (exact fr9); (exact fr9); (exact fr9); rintro e w2 ⟨rfl,hfx2,hown2⟩))
                    have hgF:=hgr2.out.setRowF hs1.out hfx2 hown2 (fun xs h=>by have h2:=takeSW_len htk.out; rw [List.getElem?_eq_getElem hj1] at h; injection h with h; rw [← h]; exact h2) (by exact fr9)
                    have hfF:=hfx.via hfx2 (fun j hj=>(hbX.out.1 j).1 (gb_mem hs1.out j hj)) (by exact fr9)
                    go_wp2_with fail
                    go_roundg (gk - 1)
                    case measure=>omega
                    case rel=>exact ⟨j+1,_,by go_num,by omega,hg2,hgF,hfF⟩
                   ·obtain rfl:j=top:=by omega
                    have h1:=he.out
                    rw [hFg.out] at h1
                    injection h1 with h1; subst h1
                    have hdj:decide (j < j)=false:=decide_eq_false (by omega)
                    replace hgr:=hZ hgr
                    replace hr1:=hZ hr1
                    replace hl1:=hZ hl1
                    go_wp2_with fail
                    go_roundg k
                    case measure=>omega
                    case rel=>exact ⟨c+1,j+1,g',hsX,by go_num,by go_num,by omega,by omega,hc2,hgr,hr1,(by show _=_; rw [hl1.out,hLg.out]),hbX,hfx⟩
                 ·cases hF9
                ·as_aux_lemma=>
                 rw [if_neg hneg] at hF9
                 have hGg:=hZ hg3
                 have hRg:=hr3
                 have hLg:=hl3
                 have hFg:=hZ hF9
                 have hfx10:=hfx4
                 have hge:0≤ent g3 top c:=by omega
                 clear hF9 hg3 hr3 hl3 hneg ro2 hs2 hsB he hRT ht3
                 go_wp2_with fail
                 refine (Sign_any _ _).mono ?_
                 rintro e w8 ⟨rfl,rfl⟩
                 go_wp2_with fail
                 clear ca2 cf2 ce2 hge hfx4
                 go_loopg [143] top (fun m s143 wr=>∃ (j:Nat) (g1:List (List Int)),s143=.int .i64 j∧j+m=top∧Hid (elimToW g3 c top 0 j=some g1)∧GridIs wr ob oo hsX g1∧Fx (gb ob hs) w wr)
                 case atStart=>exact ⟨0,g3,rfl,by omega,rfl,hGg.out,hfx10⟩
                 case round=>
                  obtain ⟨j,g1,rfl,hjk,he,hgr,hfx⟩:=hrel
                  obtain ⟨hr1,hl1⟩:=elimToW_keeps hRg.out j g1 he.out (by have:=hLg.out; omega)
                  have hLg2:=hLg.out
                  by_cases hlt:j < top
                  ·obtain ⟨g2,hg2⟩:=elimToW_mono (j+1) top g' hFg.out (by omega)
                   have hstep:elim1W g1 c top j=some g2:=by
                    have:=hg2
                    rw [elimToW,he.out] at this
                    simpa using this
                   obtain ⟨sa,sb,hb0,r,htk,rfl⟩:=elim1W_some hstep
                   have hj1:j < g1.length:=by omega
                   have ht1:top < g1.length:=by omega
                   obtain ⟨b1,o1,k1,hs1,ca1,cf1,ro1,bo1⟩:=hgr.at hj1
                   obtain ⟨b2,o2,k2,hs2,ca2,cf2,ro2,bo2⟩:=hgr.at ht1
                   have hb12:=hgr.apart j top _ _ hs1 hs2 (by omega)
                   have ce1:=(ro1.2.2 c _ (ent_at hr1 hj1 (by omega))).1
                   have ce2:=(ro2.2.2 c _ (ent_at hr1 ht1 (by omega))).1
                   rw [hr1.row hj1] at ca1
                   rw [hr1.row ht1] at ca2
                   have hGr:=hG1.out.fx hfx hG0.out.ge
                   have q0:(0:Int)≤(j:Int):=Int.natCast_nonneg _
                   have q1:(j:Int) < (g.length:Int):=by omega
                   have q2:(top:Int) < (g.length:Int):=by omega
                   have q3:(c:Int) < (n:Int):=by omega
                   replace hg2:=hZ hg2
                   replace htk:=hZ htk
                   have hgr2:=hZ hgr
                   replace ro1:=hZ ro1
                   replace ro2:=hZ ro2
                   replace hs1:=hZ hs1
                   replace hr1:=hZ hr1
                   go_wp2_with fail
                   go_region_held3 (fun w'=>w'.cell? ⟨ob,oo+j,none⟩=some (.slice (some ⟨b1,o1,none⟩) n k1)∧w'.cell? ⟨b1,o1+c,none⟩=some (.string (tx (ent g1 j c)))∧w'.cell? ⟨ob,oo+top,none⟩=some (.slice (some ⟨b2,o2,none⟩) n k2)∧w'.cell? ⟨b2,o2+c,none⟩=some (.string (tx (ent g1 top c))))
                    (first | go_keep | (go_split_ands; refine ⟨?_, ?_, ?_, ?_⟩ <;> (refine Fr.keep (by assumption) ?_; assumption)))
                    (first | (go_at_call 115; refine (DivModWd _ _ sa sb hb0 _ (hGr.fr ?_)).mono ?_; (exact fr9); rintro e w1 ⟨rfl,hf1⟩))
                   have hfr:Fr wr w1:=by exact fr9
                   replace ca1:=hfr.keep (p:=⟨ob,oo+j,none⟩) ca1
                   replace ca2:=hfr.keep (p:=⟨ob,oo+top,none⟩) ca2
                   go_wp2_with fail
                   have len1:(g1[j]).length=n:=hr1.out.row hj1
                   have len2:(g1[top]).length=n:=hr1.out.row ht1
                   rw [rowAt_eq hj1,rowAt_eq ht1] at htk
                   replace len1:=hZ len1
                   replace len2:=hZ len2
                   go_region_held3 (fun w'=>w'.cell? ⟨ob,oo+j,none⟩=some (.slice (some ⟨b1,o1,none⟩) n k1)∧w'.cell? ⟨ob,oo+top,none⟩=some (.slice (some ⟨b2,o2,none⟩) n k2))
                    (first | go_keep | (go_split_ands; refine ⟨?_, ?_⟩ <;> (refine Fx.keep (p:=(·=b1)) (by assumption) (by assumption) (fun e=>bo1 e.symm))))
                    (first | (go_at_call 116; refine (less_n b1 o1 k1 b2 o2 k2 n _ _ _ r _ (hGr.fr ?_) (ro1.out.fr ?_) (ro2.out.fr ?_) hb12 (by rw [len1.out]; omega) len1.out len2.out htk.out).mono ?_; (exact fr9); (exact fr9); (exact fr9); rintro e w2 ⟨rfl,hfx2,hown2⟩))
                   have hgF:=hgr2.out.setRowF hs1.out hfx2 hown2 (fun xs h=>by have h2:=takeSW_len htk.out; rw [List.getElem?_eq_getElem hj1] at h; injection h with h; rw [← h]; exact h2) (by exact fr9)
                   have hfF:=hfx.via hfx2 (fun j hj=>(hbX.out.1 j).1 (gb_mem hs1.out j hj)) (by exact fr9)
                   go_wp2_with fail
                   go_roundg (gk - 1)
                   case measure=>omega
                   case rel=>exact ⟨j+1,_,by go_num,by omega,hg2,hgF,hfF⟩
                  ·obtain rfl:j=top:=by omega
                   have h1:=he.out
                   rw [hFg.out] at h1
                   injection h1 with h1; subst h1
                   have hdj:decide (j < j)=false:=decide_eq_false (by omega)
                   replace hgr:=hZ hgr
                   replace hr1:=hZ hr1
                   replace hl1:=hZ hl1
                   go_wp2_with fail
                   go_roundg k
                   case measure=>omega
                   case rel=>exact ⟨c+1,j+1,g',hsX,by go_num,by go_num,by omega,by omega,hc2,hgr,hr1,(by show _=_; rw [hl1.out,hLg.out]),hbX,hfx⟩
               ·cases hE2
   ·have hfin:gF=g1∧tF=top:=by
     have h:=hh1.out
     cases gk with
     | zero=>rw [formS] at h; injection h with h; injection h with h1 h2; exact ⟨h1.symm,h2.symm⟩
     | succ k=>rw [formS,if_neg (by rw [hl1.out]; exact htl)] at h; injection h with h; injection h with h1 h2; exact ⟨h1.symm,h2.symm⟩
    obtain ⟨rfl,rfl⟩:=hfin
    have htl2:decide (tF < g.length)=false:=decide_eq_false htl
    go_wp2_with fail
    go_ret
    exact ⟨rfl,htop,hl1.out,hr1.out,hs1,hb1.out,hfx1,hg1.out⟩
  ·have hfin:gF=g1∧tF=top:=by
    have h:=hh1.out
    obtain rfl:gk=0:=by omega
    rw [formS] at h; injection h with h; injection h with h1 h2; exact ⟨h1.symm,h2.symm⟩
   obtain ⟨rfl,rfl⟩:=hfin
   have hcc2:decide (c < cols)=false:=decide_eq_false hcc
   go_wp2_with fail
   go_ret
   exact ⟨rfl,htop,hl1.out,hr1.out,hs1,hb1.out,hfx1,hg1.out⟩
end Go.Proofs.YtmalpgbbddkdcaaGreatDoor
