/- Contracts and laws: VW. -/
import Derived.Test.YtcglmebcfeoedaaGreatDoorVRS
import Derived.Deep.CutRange
import Derived.Deep.CutBlock

set_option maxRecDepth 100000
set_option maxHeartbeats 16000000
namespace Go.Proofs.YtcglmebcfeoedaaGreatDoor
open Go.RowKit Go.Lib
attribute [local go_sem ↓] AA AB
theorem LB (ob oo oc n cols:Nat) (hs:List (Nat×Nat×Nat)) (g:List (List Rat)) (F:RS) (w:World) (hG:G w) (hg:Ew w ob oo hs g) (hr:ET n g) (hn:n≤1000000) (hl:g.length≤1000000) (hc:cols≤n) (hF:Cg g cols=some F) :
 Calls Tryz.prog 133 #[.slice (some ⟨ob,oo,none⟩) g.length oc,.int .i64 cols] w fun e w'=>∃ a c hs',e=.returned (.tuple #[.slice a F.lead.length c,qv F.det])∧Kz ob hs' hs∧Fx (gb ob hs) w w'∧Ew w' ob oo hs' F.g∧El w' iv a (F.lead.map (fun k:Nat=>(k:Int))):=by
 have hG0:=hZ hG
 have hgn:=CS hG
 obtain ⟨iI,hI,iz0,iz1,iz2⟩:=AQ DQ
 have hbl:∀ k,gb ob hs k→k < w.heap.size:=by
  rintro k (rfl | ⟨hd,hm,rfl⟩)
  ·exact hg.outer
  ·obtain ⟨i,hi⟩:=AO hm
   have hlt:i < g.length:=by rw [← hg.len]; exact (Ah.1 hi).1
   exact (hg.row i hd _ hi (Ab hlt)).1.2.1
 have hgN:=hg.ge
 obtain ⟨L,hL⟩:∃ L,L=g.length:=⟨_,rfl⟩
 rw [← hL] at hl ⊢
 replace hbl:=hZ hbl
 replace hgN:=hZ hgN
 replace hL:=hZ hL
 replace hg:=hZ hg
 replace hr:=hZ hr
 replace hF:=hZ hF
 obtain ⟨wb,hwb⟩:∃ wb,wb=w.alloc (.cells #[.string ⟨#[]⟩,.string ⟨#[]⟩] 194):=⟨_,rfl⟩
 have hfb:Fr w wb:=by rw [hwb]; exact (Fr.refl _).alloc _
 have q4:wb.cell? ⟨w.heap.size,0,none⟩=some (.string ⟨#[]⟩):=by rw [hwb]; exact (CZ _ _ _ _).1
 have q5:wb.cell? ⟨w.heap.size,1,none⟩=some (.string ⟨#[]⟩):=by rw [hwb]; exact (CY _ _ _ _).1
 have q6:wb.frozen? ⟨w.heap.size,0,none⟩=false:=by rw [hwb]; exact (CZ _ _ _ _).2
 have q7:wb.frozen? ⟨w.heap.size,1,none⟩=false:=by rw [hwb]; exact (CY _ _ _ _).2
 have hszb:wb.heap.size=w.heap.size+1:=by rw [hwb]; simp
 have hone:=hZ (fun W=>LM W)
 clear hG
 go_enter Tryz.func133,Tryz.ntmps133
 go_upto_region 1 with (fail)
 rw [← hwb]
 clear hwb
 go_wp2_with fail
 refine (hone.out _).mono ?_
 rintro e w1 ⟨rfl,hf1⟩
 replace q6:=hf1.keepf q4 q6
 replace q7:=hf1.keepf q5 q7
 replace q4:=hf1.keep q4
 replace q5:=hf1.keep q5
 have hq0:Le ((w1.setCell ⟨w.heap.size,0,none⟩ (sv (1:Rat).num)).setCell ⟨w.heap.size,1,none⟩ (sv ((1:Rat).den:Int))) w.heap.size 1:=by
  obtain ⟨a,b,-,-⟩:=A7 w1 w.heap.size (sv (1:Rat).num) (sv ((1:Rat).den:Int)) _ _ q4 q5
  exact ⟨a,b,by rw [Ap,Ap]; exact q6,by rw [Ap,Ap]; exact q7⟩
 have q8:=(A7 w1 w.heap.size (sv (1:Rat).num) (sv ((1:Rat).den:Int)) _ _ q4 q5).2.2.1
 have hfs:Fr w ((w1.setCell ⟨w.heap.size,0,none⟩ (sv (1:Rat).num)).setCell ⟨w.heap.size,1,none⟩ (sv ((1:Rat).den:Int))):=((hfb.trans hf1).setCell (p:=⟨w.heap.size,0,none⟩) (Ag _) _).setCell (p:=⟨w.heap.size,1,none⟩) (Ag _) _
 go_upto_region 2 with (fail)
 obtain ⟨w2,hw2⟩:∃ w2,w2=(w1.setCell ⟨w.heap.size,0,none⟩ (sv (1:Rat).num)).setCell ⟨w.heap.size,1,none⟩ (sv ((1:Rat).den:Int)):=⟨_,rfl⟩
 change Code.wp _ _ _ _ ((w1.setCell ⟨w.heap.size,0,none⟩ (sv (1:Rat).num)).setCell ⟨w.heap.size,1,none⟩ (sv ((1:Rat).den:Int)))
 rw [← hw2] at hq0 hfs ⊢
 replace hq0:=hZ hq0
 have hsz2:w.heap.size+1≤w2.heap.size:=by rw [hw2,Cs,Cs]; have:=hf1.size; omega
 clear hw2 q4 q5 q6 q7 q8 hf1 hfb
 go_wp2_with fail
 obtain ⟨D,hD⟩:∃ D,D=w.heap.size:=⟨_,rfl⟩
 rw [← hD] at hq0 hsz2 ⊢
 have hbD:∀ k,gb ob hs k→k < D:=fun k hk=>by rw [hD]; exact hbl.out k hk
 replace hbD:=hZ hbD
 replace hD:=hZ hD
 go_loopg [4,16] cols (fun gk s4 s16 wr=>∃ (c:Nat) (s:RS) (hsX:List (Nat×Nat×Nat)),s16=.int .i64 c∧c+gk=cols∧Hid (Cg g c=some s)∧Hid (K0 w wr ob oo D hs hsX s.g s.det s4 s.lead.length (s.lead.map (fun k:Nat=>(k:Int))))∧Hid (ET n s.g)∧Hid (s.g.length=L)∧Hid (s.lead.length≤L))
 case atStart=>exact ⟨0,⟨g,[],1⟩,hs,rfl,by omega,rfl,⟨hg.out.fr hfs,⟨fun _=>Iff.rfl,fun _ h=>h⟩,Fx.of_fr hfs,hq0.out,hsz2,A6 _ _ _ _⟩,hr.out,hL.out.symm,Bm _⟩
 case round=>
  clear hq0 hfs hg hr hsz2
  obtain ⟨c,s,hsX,rfl,hck,hs0,hst0,hrr,hlen,hll⟩:=hrel
  by_cases hcc:c < cols
  ·have dcc:decide (c < cols)=true:=Ac hcc
   obtain ⟨s1,hs1⟩:=LC (c+1) cols F hF.out (by omega)
   have hst:H4 c s=some s1:=by
    have:=hs1
    rw [Cg,hs0.out] at this
    simpa using this
   replace hs1:=hZ hs1
   replace hst:=hZ hst
   obtain ⟨al,cl,hal,hel⟩:=GW hst0.out.lead
   subst hal
   obtain ⟨k,hk⟩:∃ k,k=s.lead.length:=⟨_,rfl⟩
   have hkl:k≤L:=by rw [hk]; exact hll.out
   rw [← hk] at hst0 ⊢
   replace hk:=hZ hk
   obtain ⟨wo,rfl⟩:∃ wo:World,wo=wr:=⟨_,rfl⟩
   obtain ⟨ko,rfl⟩:∃ ko:Nat,ko=gk:=⟨_,rfl⟩
   obtain ⟨A,hA⟩:∃ A,A=FF s.g c k:=⟨_,rfl⟩
   have hA2:k≤A∧A≤L:=by rw [hA,← hlen.out]; exact UO _ _ _ (by rw [hlen.out]; exact hkl)
   replace hA:=hZ hA
   have zc0:(0:Int)≤(c:Int):=Af _
   have zcn:(c:Int) < (n:Int):=by omega
   clear hel
   go_wp2_with fail
   go_loopg [7] (L - k) (fun m s7 wr2=>∃ i:Nat,s7=.int .i64 i∧k≤i∧i≤L∧i+m=L∧Hid (FF s.g c i=A)∧Fr wo wr2)
   case atStart=>exact ⟨k,rfl,Ag _,hkl,by omega,hA.out.symm,Fr.refl _⟩
   case round=>
    obtain ⟨i,rfl,hki,hiL,him,hat,hf2⟩:=hrel
    have zi0:(0:Int)≤(i:Int):=Af _
    by_cases hi:i < L
    ·have hig:i < s.g.length:=by rw [hlen.out]; exact hi
     obtain ⟨b1,o1,k1,e1,ca1,cf1,ro1,bo1⟩:=(hst0.out.grid.fr hf2).at hig
     obtain ⟨⟨ce1,-⟩,ce2,-⟩:=ro1.2.2 c _ (La hrr.out hig (by omega))
     rw [hrr.out.row hig] at ca1
     have zi1:(i:Int) < (L:Int):=by omega
     have dil:decide ((i:Int) < (L:Int))=true:=Ac zi1
     have hsg:=hZ (fun W=>Ky (DP s.g i c) W)
     clear ro1
     by_cases h0:DP s.g i c=0
     ·have hz:=hZ ((Mi hig h0).trans hat.out)
      have hs0':((DP s.g i c).num.sign == 0)=true:=by rw [h0]; rfl
      replace h0:=hZ h0
      go_wp2_with fail
      refine (hsg.out _).mono ?_
      rintro e w3 ⟨rfl,hf3⟩
      go_wp2_with fail
      go_roundg (gk - 1)
      case measure=>omega
      case rel=>exact ⟨i+1,by go_num,by omega,by omega,by omega,hz.out,hf2.trans hf3⟩
     ·have hz:i=A:=(Ps hig h0).symm.trans hat.out
      have hs0':((DP s.g i c).num.sign == 0)=false:=Ay (fun h=>h0 ((LN _).1 (J6.1 h)))
      subst hz
      obtain ⟨htd,htf,htr,g3,hel3,hs1e⟩:=Ox hst.out hk.out hA.out hig
      have hrow:EL (Cn s.g k i) k=EL s.g i:=P0 (by rw [hlen.out]; omega) hig
      have hent:DP (Cn s.g k i) k c=DP s.g i c:=by unfold DP; rw [hrow]
      have hf0:DP (Cn s.g k i) k c≠0:=by rw [hent]; exact h0
      have hRX:=KH (k:=k) (a:=i) hrr.out
      have hLX:=(Hk s.g k i).trans hlen.out
      have htdX:=T5 (k:=k) (a:=i) htd
      rw [hlen.out] at hel3
      have hkL:k < L:=by omega
      have zk0:(0:Int)≤(k:Int):=Af _
      have zk1:(k:Int) < (L:Int):=by omega
      have hil:((i:Int) == (L:Int))=false:=Ay (by omega)
      replace h0:=hZ h0
      replace htd:=hZ htd
      replace hrow:=hZ hrow
      replace hent:=hZ hent
      go_wp2_with fail
      refine (hsg.out _).mono ?_
      rintro e w3 ⟨rfl,hf3⟩
      have hfr3:=hf2.trans hf3
      clear ce1 ce2 ca1 cf1
      go_upto_if 47 with (fail)
      go_cut [] from 17 to 158 (fun wc=>∃ hsY,Hid (K0 w wc ob oo D hs hsY (Cn s.g k i) (EW s.det k i) (.slice al k cl) k (s.lead.map (fun k:Nat=>(k:Int)))))
      case first=>
       by_cases hik:i=k
       ·have hgX:Cn s.g k i=s.g:=Aj hik
        have hdX:EW s.det k i=s.det:=Aj hik
        have hne:((i:Int) != (k:Int))=false:=by rw [hik]; simp
        have hRS:=hZ (hst0.out.fr hfr3)
        rw [← hgX,← hdX] at hRS
        clear hgX hdX
        replace hik:=hZ hik
        go_wp2_with fail
        go_meet
        case rel=>exact ⟨hsX,hRS.out⟩
       ·have hgX:Cn s.g k i=swp s.g k i:=Ai hik
        have hdX:EW s.det k i=-s.det:=Ai hik
        have hne:((i:Int) != (k:Int))=true:=by rw [Bl]; omega
        have hR3:=hst0.out.fr hfr3
        obtain ⟨bt,ot,kt,hst9,cat,cft,-,-⟩:=hR3.grid.at (i:=k) (by rw [hlen.out]; exact hkL)
        obtain ⟨bq,oq,kq,hsq,caq,cfq,-,-⟩:=hR3.grid.at (i:=i) hig
        rw [hrr.out.row (by rw [hlen.out]; exact hkL)] at cat
        rw [hrr.out.row hig] at caq
        have hgt:=Ab (show k < s.g.length by rw [hlen.out]; exact hkL)
        have hgq:=Ab hig
        have hR4:=(hR3.swap hbD.out hst9 hsq hgt hgq (fun e=>hik e.symm)).fr (Fr.refl _).drew
        rw [hrr.out.row hig,hrr.out.row (by rw [hlen.out]; exact hkL)] at hR4
        rw [← hgX] at hR4
        have caq2:(w3.setCell ⟨ob,oo+k,none⟩ (.slice (some ⟨bq,oq,none⟩) n kq)).cell? ⟨ob,oo+i,none⟩=some (.slice (some ⟨bq,oq,none⟩) n kq):=by
         rw [Ad _ _ _ _ (fun e=>by injection e with _ e; omega)]; exact caq
        replace hik:=hZ hik
        replace hgt:=hZ hgt
        replace hgq:=hZ hgq
        replace hst9:=hZ hst9
        replace hsq:=hZ hsq
        replace hgX:=hZ hgX
        have hneg:=hZ (fun W=>Px s.det htd.out.1 W)
        rw [← hdX] at hneg
        generalize hgd:EW s.det k i=dX at *
        clear hR3
        go_wp2_with fail
        go_region
        generalize Cn s.g k i=gX at *
        generalize swp hsX k i=hsY at *
        obtain ⟨w4,hw4⟩:∃ w4,w4=((w3.setCell ⟨ob,oo+k,none⟩ (.slice (some ⟨bq,oq,none⟩) n kq)).setCell ⟨ob,oo+i,none⟩ (.slice (some ⟨bt,ot,none⟩) n kt)).drew:=⟨_,rfl⟩
        change K0 w ((w3.setCell ⟨ob,oo+k,none⟩ (.slice (some ⟨bq,oq,none⟩) n kq)).setCell ⟨ob,oo+i,none⟩ (.slice (some ⟨bt,ot,none⟩) n kt)).drew ob oo D hs hsY gX s.det (.slice al k cl) k (s.lead.map (fun k:Nat=>(k:Int))) at hR4
        rw [← hw4] at hR4 ⊢
        clear hw4 cat cft caq caq2 cfq hst9 hsq hgt hgq hdX hgX hgd
        have t1:=hR4.det.a
        have t2:=hR4.det.b
        replace hR4:=hZ hR4
        go_wp2_with fail
        refine (hneg.out _).mono ?_
        rintro e w5 ⟨rfl,hf5⟩
        have hR5:=hR4.out.fr hf5
        have hq:=hR5.det
        have q8:=(A7 w5 D (sv dX.num) (sv (dX.den:Int)) _ _ hq.a hq.b).2.2.1
        clear t1 t2
        have t1:=hq.a
        have t2:=hq.b
        have t3:=hq.fa
        have t4:=hq.fb
        have hRS:=hR5.detSet hbD.out hD.out dX
        clear hq hR5
        go_wp2_with fail
        go_meet
        case rel=>exact ⟨hsY,hRS⟩
      case rest=>
       obtain ⟨hsY,hRS⟩:=hcut
       clear hst0
       generalize Cn s.g k i=gX at *
       generalize EW s.det k i=dX at *
       generalize hsY=hsX at *
       go_upto_region 14 with (fail)
       obtain ⟨W,rfl⟩:∃ W:World,W=wc:=⟨_,rfl⟩
       as_aux_lemma=>
        have hkX:k < gX.length:=by rw [hLX]; exact hkL
        obtain ⟨bk,ok,kk,ek,cak,cfk,rok,bok⟩:=hRS.out.grid.at hkX
        rw [hRX.row hkX] at cak
        have hrq:EL gX k=gX[k]:=Gv hkX
        have hrn:(EL gX k).length=n:=by rw [hrq]; exact hRX.row hkX
        have hce:=La hRX hkX (show c < n by omega)
        rw [← hrq] at rok hce
        obtain ⟨f,hf⟩:∃ f,f=DP gX k c:=⟨_,rfl⟩
        obtain ⟨row,hrow9⟩:∃ row,row=EL gX k:=⟨_,rfl⟩
        rw [← hf] at hce htf hf0 hs1e
        rw [← hrow9] at hce rok hrn htr
        rw [← hf,← hrow9] at hel3
        obtain ⟨⟨cf1,-⟩,cf2,-⟩:=rok.2.2 c f hce
        replace hLX:=hZ hLX
        replace hel3:=hZ hel3
        replace hs1e:=hZ hs1e
        replace hrq:=hZ hrq
        replace hf:=hZ hf
        replace hrow9:=hZ hrow9
        replace hrn:=hZ hrn
        replace hce:=hZ hce
        replace rok:=hZ rok
        replace ek:=hZ ek
        replace htr:=hZ htr
        replace hRX:=hZ hRX
        replace hf0:=hZ hf0
        have hbkD:bk < D:=hRS.out.gbD hbD.out bk (.inr ⟨_,Ae ek.out,rfl⟩)
        have hobD:ob < D:=hbD.out ob (.inl rfl)
        go_upto_region 15 with (fail)
        obtain ⟨P,hP⟩:∃ P,P=W.heap.size:=⟨_,rfl⟩
        obtain ⟨W1,hW1⟩:∃ W1,W1=W.alloc (.cells #[sv f.num,sv (f.den:Int)] 194):=⟨_,rfl⟩
        have hq1:Le W1 P f:=by rw [hW1,hP]; exact Le.new W f _
        have hRS1:K0 w W1 ob oo D hs hsX gX dX (.slice al k cl) k (s.lead.map (fun k:Nat=>(k:Int))):=by rw [hW1]; exact hRS.out.fr ((Fr.refl _).alloc _)
        have hDP:D+1≤P:=by rw [hP]; exact hRS.out.size
        have hPW1:P < W1.heap.size:=AX W1 ⟨P,0,none⟩ hq1.a
        rw [← hW1,← hP]
        clear hW1 hP hRS cak cfk cf1 cf2
        have hGW:∀ W',Fr W1 W'→G W':=fun W' h=>(hG0.out.fx hRS1.fx hgN.out).fr h
        have hmu:=hZ (Mp dX f htdX htf W1 (hGW W1 (Fr.refl _)))
        have t1:=hRS1.det.a
        have t2:=hRS1.det.b
        have t3:=hq1.a
        have t4:=hq1.b
        replace hRS1:=hZ hRS1
        replace hq1:=hZ hq1
        replace hGW:=hZ hGW
        go_wp2_with fail
        refine hmu.out.mono ?_
        clear hmu t1 t2 t3 t4
        rintro e w6 ⟨rfl,hf6⟩
        have hRS2:=hRS1.out.fr hf6
        have hq:=hRS2.det
        obtain ⟨-,-,q8,hfxD⟩:=A7 w6 D (sv (dX * f).num) (sv ((dX * f).den:Int)) _ _ hq.a hq.b
        have t1:=hq.a
        have t2:=hq.b
        have t3:=hq.fa
        have t4:=hq.fb
        have hRS3:=hRS2.detSet hbD.out hD.out (dX * f)
        have hq3:=(hq1.out.fr hf6).fx hfxD (by omega)
        have hG3:G ((w6.setCell ⟨D,0,none⟩ (sv (dX * f).num)).setCell ⟨D,1,none⟩ (sv ((dX * f).den:Int))):=hG0.out.fx hRS3.fx hgN.out
        clear hq hRS2 hfxD
        go_upto_region 16 with (fail)
        obtain ⟨W3,hW3⟩:∃ W3,W3=(w6.setCell ⟨D,0,none⟩ (sv (dX * f).num)).setCell ⟨D,1,none⟩ (sv ((dX * f).den:Int)):=⟨_,rfl⟩
        rw [← hW3] at hRS3 hq3 hG3 ⊢
        have hPW3:P < W3.heap.size:=AX W3 ⟨P,0,none⟩ hq3.a
        clear hW3 t1 t2 t3 t4 q8 hGW hRS1 hq1 hf6
        generalize dX * f=dF at *
        obtain ⟨bk',ok',kk',ek',cak,cfk,rok3,bok⟩:=hRS3.grid.at hkX
        rw [ek.out] at ek'
        injection ek' with ek'
        injection ek' with e1 e2
        injection e2 with e2 e3
        subst e1; subst e2; subst e3
        rw [hRX.out.row hkX] at cak
        rw [← hrq.out,← hrow9.out] at rok3
        replace rok3:=hZ rok3
        replace hRS3:=hZ hRS3
        replace hq3:=hZ hq3
        go_wp2_with fail
        go_loopg [79] n (fun m s79 wr3=>∃ t:Nat,s79=.int .i64 t∧t+m=n∧Fx (·=bk) W3 wr3∧Hid (FG wr3 bk ok (IZ f row t)))
        case atStart=>exact ⟨0,rfl,by omega,Fx.refl _ _,by show FG _ _ _ _; rw [Qz]; exact rok3.out⟩
        case round=>
         obtain ⟨t,rfl,htk,hf7,hown⟩:=hrel
         by_cases ht:t < n
         ·obtain ⟨x,hx⟩:∃ x,row[t]?=some x:=⟨_,Ab (by rw [hrn.out]; exact ht)⟩
          have hmid:=(SB f row (t:=t) (by rw [hrn.out]; exact ht)).trans hx
          have htx:=R0 htr.out (Ae hx)
          obtain ⟨⟨x1,x2⟩,x3,x4⟩:=hown.out.2.2 t x hmid
          have hc7:=hf7.keep (q:=⟨ob,oo+k,none⟩) cak (fun e=>bok e.symm)
          have hq7:=hq3.out.fx hf7 (fun e=>by have e:P=bk:=e; omega)
          have hGr:G wr:=hG3.fx hf7 (fun j e=>by have e:j=bk:=e; subst e; exact hgN.out _ ((hRS3.out.same.1 j).1 (.inr ⟨_,Ae ek.out,rfl⟩)))
          have hdv:=hZ (fun W' (hW':Fr wr W')=>Vf x f htx htf hf0.out W' (hGr.fr hW'))
          have zt0:(0:Int)≤(t:Int):=Af _
          have zt1:(t:Int) < (n:Int):=by omega
          have dtn:decide (t < n)=true:=Ac ht
          have hset:=hZ (Sw f row hx)
          have hS0:=hZ (fun W' (hW':Fr wr W')=>(⟨hW'.keep hc7,hW'.keep x1,hW'.keep x3,hW'.keep hq7.a,hW'.keep hq7.b⟩:W'.cell? ⟨ob,oo+k,none⟩=some (.slice (some ⟨bk,ok,none⟩) n kk)∧W'.cell? ⟨bk,ok+t * 2,none⟩=some (sv x.num)∧W'.cell? ⟨bk,ok+t * 2+1,none⟩=some (sv (x.den:Int))∧W'.cell? ⟨P,0,none⟩=some (sv f.num)∧W'.cell? ⟨P,1,none⟩=some (sv (f.den:Int))))
          replace hx:=hZ hx
          replace hmid:=hZ hmid
          clear hq7
          go_wp2_with fail
          refine BP (S:=fun W'=>W'.cell? ⟨ob,oo+k,none⟩=some (.slice (some ⟨bk,ok,none⟩) n kk)∧W'.cell? ⟨bk,ok+t * 2,none⟩=some (sv x.num)∧W'.cell? ⟨bk,ok+t * 2+1,none⟩=some (sv (x.den:Int))∧W'.cell? ⟨P,0,none⟩=some (sv f.num)∧W'.cell? ⟨P,1,none⟩=some (sv (f.den:Int))) 18 (by kernel_rfl) (hS0.out _ ((Fr.refl _).drew)) (fun hHeld=>?_)
          refine uM 0 83 ?_; try simp only [BL,BV,BU]
          refine uM 1 84 ?_; try simp only [BL,BV,BU]
          refine uM 2 85 ?_; try simp only [BL,BV,BU]
          refine uM 3 86 ?_; try simp only [BL,BV,BU]
          refine uM 4 87 ?_; try simp only [BL,BV,BU]
          refine uM 5 88 ?_; try simp only [BL,BV,BU]
          refine uM 6 89 ?_; try simp only [BL,BV,BU]
          refine uM 7 90 ?_; try simp only [BL,BV,BU]
          refine uM 8 91 ?_; try simp only [BL,BV,BU]
          refine uM 9 92 ?_; try simp only [BL,BV,BU]
          refine uM 10 93 ?_; try simp only [BL,BV,BU]
          refine uM 11 94 ?_; try simp only [BL,BV,BU]
          refine uM 12 95 ?_; try simp only [BL,BV,BU]
          refine uC 13 (fun K hK=>?_)
          go_simp
          (refine (hdv.out _ (by exact BR)).mono ?_; rintro e w8 ⟨rfl,hf8⟩)
          go_wp2_with fail
          refine hK.out _ _ (hS0.out _ (by exact BR)) (fun hHeld=>?_)
          clear hK K
          try simp only [Act.put,BL,BV,BU]
          refine uM 14 82 ?_; try simp only [BL,BV,BU]
          refine uM 15 97 ?_; try simp only [BL,BV,BU]
          refine Js (i:=16) (v:=?_) rfl (by decide) (by kernel_rfl) (by kernel_rfl) (by kernel_rfl) (fun _ _ _ h=>h) (Or.inl ⟨by rfl, ?_⟩) (by assumption) ?_
          rotate_left
          ·(intro w _; go_simp; try (with_reducible rfl))
          change Cj _ _ _ _ _ _ _ _ (Act.put _ (some 98) _) _
          simp only [Act.put,BL,BV,BU]
          refine uM 17 99 ?_; try simp only [BL,BV,BU]
          have hfr8:Fr wr w8:=by exact BR
          have y1:=hfr8.keep x1
          have y2:=hfr8.keepf x1 x2
          have y3:=hfr8.keep x3
          have y4:=hfr8.keepf x3 x4
          have y5:(w8.setCell ⟨bk,ok+t * 2,none⟩ (sv (x / f).num)).cell? ⟨bk,ok+t * 2+1,none⟩=some (sv (x.den:Int)):=by rw [Ad _ _ _ _ (fun e=>by injection e with _ e; omega)]; exact y3
          clear hHeld
          refine uL 18 (fun K hK=>?_)
          go_simp
          refine hK.out _ _ ?_
          clear hK K
          have hown8:=(hown.out.fr hfr8).set (k:=t) (by rw [Sz,hrn.out]; exact ht) (x / f)
          rw [hset.out] at hown8
          have hf8x:=((hf7.fr hfr8).setCell (q:=⟨bk,ok+t * 2,none⟩) (.inl rfl) (sv (x / f).num)).setCell (q:=⟨bk,ok+t * 2+1,none⟩) (.inl rfl) (sv ((x / f).den:Int))
          replace hown8:=hZ hown8
          clear y1 y2 y3 y4 y5
          go_wp2_with fail
          go_roundg (gk - 1)
          case measure=>omega
          case rel=>exact ⟨t+1,by go_num,by omega,hf8x,hown8.out⟩
         ·have htn:n=t:=by omega
          subst htn
          have dtn:decide (n < n)=false:=Aa (by omega)
          have hown8:=hown.out
          rw [SC f row hrn.out] at hown8
          have hRS4:=hRS3.out.rowSet hbD.out ek.out hf7 hown8 (fun xs h=>by rw [Ab hkX] at h; injection h with h; rw [Am,hrn.out,← h]; exact (hRX.out.row hkX).symm)
          have hRX4:=hZ (hRX.out.set (i:=k) (r:=row.map (· / f)) (by rw [Am]; exact hrn.out))
          have hLX4:(gX.set k (row.map (· / f))).length=L:=by rw [AN]; exact hLX.out
          generalize gX.set k (row.map (· / f))=g2 at *
          replace hRS4:=hZ hRS4
          replace hLX4:=hZ hLX4
          clear cak cfk hown hown8 hq3 hRS3
          go_wp2_with fail
          obtain ⟨W4,rfl⟩:∃ W4:World,W4=wr:=⟨_,rfl⟩
          go_loopg [103] L (fun m s103 wr4=>∃ (t:Nat) (g4:List (List Rat)),s103=.int .i64 t∧t+m=L∧Hid (FL g2 c k t=some g4)∧Hid (K0 w wr4 ob oo D hs hsX g4 dF (.slice al k cl) k (s.lead.map (fun k:Nat=>(k:Int)))))
          case atStart=>exact ⟨0,g2,rfl,by omega,rfl,hRS4.out⟩
          case round=>
           clear hRS4 hf7
           obtain ⟨t,g4,rfl,htk,he4,hR5⟩:=hrel
           obtain ⟨hRX5,hLX5⟩:=Ie hRX4.out t g4 he4.out (by rw [hLX4.out]; omega)
           rw [hLX4.out] at hLX5
           by_cases ht:t < L
           ·have htg:t < g4.length:=by rw [hLX5]; exact ht
            have hkg:k < g4.length:=by rw [hLX5]; exact hkL
            obtain ⟨g5,hg5⟩:=L0 (t+1) L g3 hel3.out (by omega)
            have hstep:=Qy he4.out hg5
            obtain ⟨bt,ot,kt,et,cat,cft,rot,bot⟩:=hR5.out.grid.at htg
            rw [hRX5.row htg] at cat
            have hce5:=La hRX5 htg (show c < n by omega)
            obtain ⟨⟨v1,-⟩,v2,-⟩:=rot.2.2 c _ hce5
            have hrt:EL g4 t=g4[t]:=Gv htg
            rw [← hrt] at rot hce5
            obtain ⟨ev,hev⟩:∃ ev,ev=DP g4 t c:=⟨_,rfl⟩
            rw [← hev] at v1 v2 hstep hce5
            have zt0:(0:Int)≤(t:Int):=Af _
            have zt1:(t:Int) < (L:Int):=by omega
            have dtl:decide (t < L)=true:=Ac ht
            replace hg5:=hZ hg5
            replace hstep:=hZ hstep
            replace hev:=hZ hev
            replace hrt:=hZ hrt
            replace hce5:=hZ hce5
            replace hLX5:=hZ hLX5
            replace hRX5:=hZ hRX5
            replace rot:=hZ rot
            replace et:=hZ et
            obtain ⟨wq,rfl⟩:∃ wq:World,wq=wr:=⟨_,rfl⟩
            obtain ⟨kq,rfl⟩:∃ kq:Nat,kq=gk:=⟨_,rfl⟩
            go_upto_region 25 with (fail)
            obtain ⟨P2,hP2⟩:∃ P2,P2=wq.heap.size:=⟨_,rfl⟩
            obtain ⟨W5,hW5⟩:∃ W5,W5=wq.alloc (.cells #[sv ev.num,sv (ev.den:Int)] 194):=⟨_,rfl⟩
            have hqe:Le W5 P2 ev:=by rw [hW5,hP2]; exact Le.new wq ev _
            have hR6:K0 w W5 ob oo D hs hsX g4 dF (.slice al k cl) k (s.lead.map (fun k:Nat=>(k:Int))):=by rw [hW5]; exact hR5.out.fr ((Fr.refl _).alloc _)
            have hDP2:D+1≤P2:=by rw [hP2]; exact hR5.out.size
            rw [← hW5,← hP2]
            clear hW5 hP2 hR5 cat cft v1 v2 rot
            replace hR6:=hZ hR6
            by_cases htk2:t=k
            ·have dtk:((t:Int) == (k:Int))=true:=by rw [htk2]; simp
             have hg54:g5=g4:=by
              rcases hstep.out with ⟨-,h⟩ | ⟨⟨h,-⟩,-⟩
              ·exact h
              ·exact absurd htk2 h
             replace htk2:=hZ htk2
             replace hg54:=hZ hg54
             clear hqe
             go_wp2_with fail
             go_roundg (kq - 1)
             case measure=>omega
             case rel=>exact ⟨t+1,g4,by go_num,by omega,by show _=_; rw [hg5.out,hg54.out],hR6.out⟩
            ·have dtk:((t:Int) == (k:Int))=false:=Ay (by omega)
             have hsg:=hZ (fun W'=>Ky ev W')
             have qe1:=hqe.a
             have qe2:=hqe.b
             replace hqe:=hZ hqe
             by_cases he0:ev=0
             ·have dsg:(ev.num.sign == 0)=true:=by rw [he0]; rfl
              have hg54:g5=g4:=by
               rcases hstep.out with ⟨-,h⟩ | ⟨⟨-,h⟩,-⟩
               ·exact h
               ·exact absurd he0 h
              replace htk2:=hZ htk2
              replace he0:=hZ he0
              replace hg54:=hZ hg54
              go_wp2_with fail
              refine (hsg.out _).mono ?_
              rintro e w9 ⟨rfl,hf9⟩
              go_wp2_with fail
              go_roundg (kq - 1)
              case measure=>omega
              case rel=>exact ⟨t+1,g4,by go_num,by omega,by show _=_; rw [hg5.out,hg54.out],hR6.out.fr hf9⟩
             ·have dsg:(ev.num.sign == 0)=false:=Ay (fun h=>he0 ((LN _).1 (J6.1 h)))
              obtain ⟨zs,hzs,hg5e⟩:∃ zs,GB ev (EL g4 t) (EL g4 k)=some zs∧g5=g4.set t zs:=by
               rcases hstep.out with ⟨h | h,-⟩ | ⟨-,h⟩
               ·exact absurd h htk2
               ·exact absurd h he0
               ·exact h
              obtain ⟨hzl,hzk⟩:=H3 _ _ _ _ hzs
              replace he0:=hZ he0
              replace hg5e:=hZ hg5e
              replace hzk:=hZ hzk
              clear hzs
              go_wp2_with fail
              refine (hsg.out _).mono ?_
              rintro e w9 ⟨rfl,hf9⟩
              have hR7:=hR6.out.fr hf9
              have hq7:=hqe.out.fr hf9
              have hG7:G w9:=hG0.out.fx hR7.fx hgN.out
              have hPW7:P2 < w9.heap.size:=AX w9 ⟨P2,0,none⟩ hq7.a
              obtain ⟨bt',ot',kt',et',cat,cft,rot,bot⟩:=hR7.grid.at htg
              rw [et.out] at et'
              injection et' with et'
              injection et' with e1 e2
              injection e2 with e2 e3
              subst e1; subst e2; subst e3
              obtain ⟨bk',ok',kk',ek',cak,cfk,rok,bok2⟩:=hR7.grid.at hkg
              rw [ek.out] at ek'
              injection ek' with ek'
              injection ek' with e1 e2
              injection e2 with e2 e3
              subst e1; subst e2; subst e3
              have hbtk:bt≠bk:=hR7.grid.apart t k _ _ et.out ek.out htk2
              have hbtD:bt < D:=hR7.gbD hbD.out bt (.inr ⟨_,Ae et.out,rfl⟩)
              rw [hRX5.out.row htg] at cat
              rw [hRX5.out.row hkg] at cak
              have hrk:EL g4 k=g4[k]:=Gv hkg
              rw [← hrt.out] at rot
              rw [← hrk] at rok
              have hrtl:(EL g4 t).length=n:=by rw [hrt.out]; exact hRX5.out.row htg
              obtain ⟨ri,hri⟩:∃ ri,ri=EL g4 t:=⟨_,rfl⟩
              obtain ⟨rk,hrk2⟩:∃ rk,rk=EL g4 k:=⟨_,rfl⟩
              rw [← hri] at rot hrtl hzl
              rw [← hrk2] at rok
              have hzk2:=hzk.out
              rw [← hri,← hrk2] at hzk2
              clear hzk
              replace hzk2:=hZ hzk2
              replace hri:=hZ hri
              replace hrk2:=hZ hrk2
              replace hrk:=hZ hrk
              replace rot:=hZ rot
              replace rok:=hZ rok
              replace hrtl:=hZ hrtl
              replace hzl:=hZ hzl
              replace hR7:=hZ hR7
              replace hq7:=hZ hq7
              replace htk2:=hZ htk2
              clear qe1 qe2 hqe hR6
              go_wp2_with fail
              go_loopg [126] n (fun m s126 wr5=>∃ u:Nat,s126=.int .i64 u∧u+m=n∧Fx (·=bt) w9 wr5∧Hid (FG wr5 bt ot (zs.take u ++ ri.drop u)))
              case atStart=>exact ⟨0,rfl,by omega,Fx.refl _ _,by show FG _ _ _ _; rw [Fk,FX,DG]; exact rot.out⟩
              case round=>
               obtain ⟨u,rfl,huk,hf10,hown⟩:=hrel
               obtain ⟨wv,rfl⟩:∃ wv:World,wv=wr:=⟨_,rfl⟩
               by_cases hu:u < n
               ·obtain ⟨x,hx⟩:∃ x,ri[u]?=some x:=⟨_,Ab (by rw [hrtl.out]; exact hu)⟩
                obtain ⟨y,hy,hokk,hz⟩:=hzk2.out u x hx
                obtain ⟨htv,hty,htm,htx⟩:=Av hokk
                have hmid:=(Hw zs ri u hzl.out (by rw [hrtl.out]; exact hu)).trans hx
                have hset:=hZ (Hv zs ri u hzl.out (by rw [hrtl.out]; exact hu) _ hz)
                obtain ⟨⟨x1,x2⟩,x3,x4⟩:=hown.out.2.2 u x hmid
                obtain ⟨⟨y1,-⟩,y3,-⟩:=rok.out.2.2 u y hy
                have y1:=hf10.keep y1 (fun e=>hbtk (id e:bk=bt).symm)
                have y3:=hf10.keep y3 (fun e=>hbtk (id e:bk=bt).symm)
                have hca:=hf10.keep (q:=⟨ob,oo+t,none⟩) cat (fun e=>bot e.symm)
                have hck:=hf10.keep (q:=⟨ob,oo+k,none⟩) cak (fun e=>bot e.symm)
                have hq8:=hq7.out.fx hf10 (fun e=>by have e:P2=bt:=e; omega)
                have hGr:G wv:=hG7.fx hf10 (fun j e=>by have e:j=bt:=e; subst e; exact hgN.out _ ((hR7.out.same.1 j).1 (.inr ⟨_,Ae et.out,rfl⟩)))
                have hmul:=hZ (fun W' (hW':Fr wv W')=>Mp ev y htv hty W' (hGr.fr hW'))
                have hsub:=hZ (fun W' (hW':Fr wv W')=>UT x (ev * y) htx htm W' (hGr.fr hW'))
                have zu0:(0:Int)≤(u:Int):=Af _
                have zu1:(u:Int) < (n:Int):=by omega
                have dun:decide (u < n)=true:=Ac hu
                have hS0:=hZ (fun W' (hW':Fr wv W')=>(⟨hW'.keep hca,hW'.keep hck,hW'.keep x1,hW'.keep x3,hW'.keep y1,hW'.keep y3,hW'.keep hq8.a,hW'.keep hq8.b⟩:W'.cell? ⟨ob,oo+t,none⟩=some (.slice (some ⟨bt,ot,none⟩) n kt)∧W'.cell? ⟨ob,oo+k,none⟩=some (.slice (some ⟨bk,ok,none⟩) n kk)∧W'.cell? ⟨bt,ot+u * 2,none⟩=some (sv x.num)∧W'.cell? ⟨bt,ot+u * 2+1,none⟩=some (sv (x.den:Int))∧W'.cell? ⟨bk,ok+u * 2,none⟩=some (sv y.num)∧W'.cell? ⟨bk,ok+u * 2+1,none⟩=some (sv (y.den:Int))∧W'.cell? ⟨P2,0,none⟩=some (sv ev.num)∧W'.cell? ⟨P2,1,none⟩=some (sv (ev.den:Int))))
                replace hx:=hZ hx
                replace hy:=hZ hy
                replace hz:=hZ hz
                replace hmid:=hZ hmid
                clear hq8 htv hty htm htx hokk
                go_wp2_with fail
                refine BP (S:=fun W'=>W'.cell? ⟨ob,oo+t,none⟩=some (.slice (some ⟨bt,ot,none⟩) n kt)∧W'.cell? ⟨ob,oo+k,none⟩=some (.slice (some ⟨bk,ok,none⟩) n kk)∧W'.cell? ⟨bt,ot+u * 2,none⟩=some (sv x.num)∧W'.cell? ⟨bt,ot+u * 2+1,none⟩=some (sv (x.den:Int))∧W'.cell? ⟨bk,ok+u * 2,none⟩=some (sv y.num)∧W'.cell? ⟨bk,ok+u * 2+1,none⟩=some (sv (y.den:Int))∧W'.cell? ⟨P2,0,none⟩=some (sv ev.num)∧W'.cell? ⟨P2,1,none⟩=some (sv (ev.den:Int))) 23 (by kernel_rfl) (hS0.out _ ((Fr.refl _).drew)) (fun hHeld=>?_)
                refine uM 0 129 ?_; try simp only [BL,BV,BU]
                refine uM 1 130 ?_; try simp only [BL,BV,BU]
                refine uM 2 131 ?_; try simp only [BL,BV,BU]
                refine uM 3 132 ?_; try simp only [BL,BV,BU]
                refine uM 4 133 ?_; try simp only [BL,BV,BU]
                refine uM 5 134 ?_; try simp only [BL,BV,BU]
                refine uM 6 135 ?_; try simp only [BL,BV,BU]
                refine uM 7 136 ?_; try simp only [BL,BV,BU]
                refine uM 8 137 ?_; try simp only [BL,BV,BU]
                refine uM 9 138 ?_; try simp only [BL,BV,BU]
                refine uM 10 139 ?_; try simp only [BL,BV,BU]
                refine uM 11 140 ?_; try simp only [BL,BV,BU]
                refine uM 12 141 ?_; try simp only [BL,BV,BU]
                refine uM 13 142 ?_; try simp only [BL,BV,BU]
                refine uM 14 143 ?_; try simp only [BL,BV,BU]
                refine uM 15 144 ?_; try simp only [BL,BV,BU]
                refine uM 16 145 ?_; try simp only [BL,BV,BU]
                refine uM 17 146 ?_; try simp only [BL,BV,BU]
                refine uM 18 147 ?_; try simp only [BL,BV,BU]
                refine uM 19 148 ?_; try simp only [BL,BV,BU]
                refine uC 20 (fun K hK=>?_)
                go_simp
                (refine (hmul.out _ (by exact BR)).mono ?_; rintro e w10 ⟨rfl,hf11⟩)
                go_wp2_with fail
                refine hK.out _ _ (hS0.out _ (by exact BR)) (fun hHeld=>?_)
                clear hK K
                try simp only [Act.put,BL,BV,BU]
                refine uC 21 (fun K hK=>?_)
                go_simp
                (refine (hsub.out _ (by exact BR)).mono ?_; rintro e w11 ⟨rfl,hf12⟩)
                go_wp2_with fail
                refine hK.out _ _ (hS0.out _ (by exact BR)) (fun hHeld=>?_)
                clear hK K
                try simp only [Act.put,BL,BV,BU]
                refine uM 22 151 ?_; try simp only [BL,BV,BU]
                have hfr8:Fr wv w11:=by exact BR
                have z1:=hfr8.keep x1
                have z2:=hfr8.keepf x1 x2
                have z3:=hfr8.keep x3
                have z4:=hfr8.keepf x3 x4
                have z5:(w11.setCell ⟨bt,ot+u * 2,none⟩ (sv (x - ev * y).num)).cell? ⟨bt,ot+u * 2+1,none⟩=some (sv (x.den:Int)):=by rw [Ad _ _ _ _ (fun e=>by injection e with _ e; omega)]; exact z3
                clear hHeld
                refine uL 23 (fun K hK=>?_)
                go_simp
                refine hK.out _ _ ?_
                clear hK K
                have hown8:=(hown.out.fr hfr8).set (k:=u) (by rw [Ar,AG,B3,hrtl.out,hzl.out,hrtl.out]; omega) (x - ev * y)
                rw [hset.out] at hown8
                have hf8x:=((hf10.fr hfr8).setCell (q:=⟨bt,ot+u * 2,none⟩) (.inl rfl) (sv (x - ev * y).num)).setCell (q:=⟨bt,ot+u * 2+1,none⟩) (.inl rfl) (sv ((x - ev * y).den:Int))
                replace hown8:=hZ hown8
                clear z1 z2 z3 z4 z5
                go_wp2_with fail
                go_roundg (gk - 1)
                case measure=>omega
                case rel=>exact ⟨u+1,by go_num,by omega,hf8x,hown8.out⟩
               ·have htn:n=u:=by omega
                subst htn
                have dun:decide (n < n)=false:=Aa (by omega)
                have hown8:=hown.out
                rw [Ak (by rw [hzl.out,hrtl.out]; exact Ag _),GN (by rw [hrtl.out]; exact Ag _),BJ] at hown8
                have hR8:=hR7.out.rowSet hbD.out et.out hf10 hown8 (fun xs h=>by rw [Ab htg] at h; injection h with h; rw [hzl.out,hrtl.out,← h]; exact (hRX5.out.row htg).symm)
                rw [← hg5e.out] at hR8
                replace hR8:=hZ hR8
                clear hown8 hown
                go_wp2_with fail
                go_roundg (kq - 1)
                case measure=>omega
                case rel=>exact ⟨t+1,g5,by go_num,by omega,hg5.out,hR8.out⟩
           ·have htL:L=t:=by omega
            subst htL
            have dtl:decide (L < L)=false:=Aa (by omega)
            have hg43:g4=g3:=by have:=he4.out; rw [hel3.out] at this; injection this with this; exact this.symm
            subst hg43
            have hsz9:=hR5.out.size
            have hrel9:=hs1.out
            rw [hs1e.out] at hrel9
            obtain ⟨kb,hkb⟩:∃ kb:Nat,kb=k:=⟨_,rfl⟩
            obtain ⟨we,rfl⟩:∃ we:World,we=wr:=⟨_,rfl⟩
            replace hrel9:=hZ hrel9
            go_wp2_with (at_builtin; refine At _ rfl _ _ 43 (by rfl) _ 3 _ _ 1 8 Tryz.underlying43 hI iz0 iz1 iz2 rfl (by decide) _ k _ (by rfl) (Au hR5.out.lead _) ⟨we.heap.size,0,none⟩ 1 1 [iv (c:Int)] (by rfl) rfl (AF _ _ _ _ (by simp)) (by simp [Value.oneCell']) (by decide) (by unfold maxLen; omega) (by omega) (by skip; simp; omega) (we.heap.size+1) (by simp) ?_; intro gA capA wA hownA hgrowA hatA hltA)
            have hpu:=hZ ((hR5.out.fr ((Fr.refl we).alloc _)).push hbD.out hD.out hgrowA (ls':=s.lead.map (fun k:Nat=>(k:Int)) ++ [(c:Int)]) (by rw [Aw]; exact hownA))
            go_wp2_with fail
            go_roundg (ko - 1)
            case measure=>omega
            case rel=>exact ⟨c+1,_,hsX,by go_num,by omega,hrel9.out,by show K0 _ _ _ _ _ _ _ _ _ _ (s.lead ++ [c]).length ((s.lead ++ [c]).map _); rw [Aw,Ar,← hk.out]; exact hpu.out,hRX5,hLX5,by show (s.lead ++ [c]).length≤_; rw [Ar,← hk.out]; exact hkL⟩
    ·have dil:decide ((i:Int) < (L:Int))=false:=Aa (by omega)
     obtain rfl:i=L:=by omega
     have hAL:A=i:=by rw [← hat.out,← hlen.out]; exact Wj
     have hs1e:s1=⟨s.g,s.lead,0⟩:=by
      have:=hst.out
      unfold H4 at this
      rw [← hk.out,Aj (by rw [← hA.out,hAL,hlen.out])] at this
      injection this with this; exact this.symm
     have hze:=hZ (fun W=>MZ W)
     replace hs1e:=hZ hs1e
     replace hAL:=hZ hAL
     go_wp2_with fail
     refine (hze.out _).mono ?_
     rintro e w3 ⟨rfl,hf3⟩
     have hR3:=hst0.out.fr (hf2.trans hf3)
     have hq:=hR3.det
     have q8:=(A7 w3 D (sv (0:Rat).num) (sv ((0:Rat).den:Int)) _ _ hq.a hq.b).2.2.1
     have t1:=hq.a
     have t2:=hq.b
     have t3:=hq.fa
     have t4:=hq.fb
     have hR4:=hZ (hR3.detSet hbD.out hD.out 0)
     clear hq hR3
     go_wp2_with fail
     go_roundg (ko - 1)
     case measure=>omega
     case rel=>
      have hrel9:=hs1.out
      rw [hs1e.out] at hrel9
      exact ⟨c+1,_,hsX,by go_num,by omega,hrel9,by show K0 _ _ _ _ _ _ _ _ _ _ s.lead.length _; rw [← hk.out]; exact hR4.out,hrr.out,hlen.out,hll.out⟩
  ·obtain rfl:c=cols:=by omega
   have dcc:decide (c < c)=false:=Aa (by omega)
   have hfin:s=F:=by have:=hs0.out; rw [hF.out] at this; injection this with this; exact this.symm
   subst hfin
   obtain ⟨al,cl,hal,hel⟩:=GW hst0.out.lead
   subst hal
   have hq:=hst0.out.det
   have t1:=hq.a
   have t2:=hq.b
   have t3:=hq.fa
   have t4:=hq.fb
   have qs:=A7 wr D (sv s.det.num) (sv (s.det.den:Int)) _ _ hq.a hq.b
   have q8:=qs.2.2.1
   have u0:=hZ qs.1
   have u1:=hZ qs.2.1
   have hR4:=(hst0.out.detSet hbD.out hD.out s.det).fr (Fr.refl _).drew
   obtain ⟨a2,c2,ha2,hel2⟩:=GW hR4.lead
   injection ha2 with ha2 _ hc2
   subst ha2
   subst hc2
   replace hel2:=hZ hel2
   replace hR4:=hZ hR4
   clear qs hq hel
   go_wp2_with fail
   go_region
   all_goals
    go_wp2_with fail
    have v0:=u0.out
    have v1:=u1.out
    refine Ax (v:=.tuple #[.slice al s.lead.length cl,qv s.det]) (by simp [results,Tryz.results133,go_sem,v0,v1]) rfl ⟨al,cl,hsX,rfl,hR4.out.same,hR4.out.fx,hR4.out.grid,hel2.out⟩
end Go.Proofs.YtcglmebcfeoedaaGreatDoor
