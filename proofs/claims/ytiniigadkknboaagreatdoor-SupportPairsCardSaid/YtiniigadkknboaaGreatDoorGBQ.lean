/- Contracts and laws: GBQ. -/
import Derived.Test.YtiniigadkknboaaGreatDoorGAQ
import Derived.Test.YtiniigadkknboaaGreatDoorGBN
import Derived.Test.YtiniigadkknboaaGreatDoorGAG
import Derived.Test.YtiniigadkknboaaGreatDoorGBF
import Derived.Deep.CutRange
import Derived.Test.YtiniigadkknboaaGreatDoorGAI
import Derived.Test.YtiniigadkknboaaGreatDoorGBP

set_option maxRecDepth 100000
set_option maxHeartbeats 16000000
namespace Go.Proofs.YtiniigadkknboaaGreatDoor
open Go.RowKit Go.Lib
attribute [local go_sem ↓] Go.wp_at_zero Go.wp_at_succ
theorem SX (p x f y l:Int) (hp:Tz p) (hx:Tz x) (hf:Tz f) (hy:Tz y) (hl:Tz l) (h0:l≠0) (w:World) (hG:G w) :
 Calls Tryz.prog 135 #[.string (tx p),.string (tx x),.string (tx f),.string (tx y),.string (tx l)] w fun e w'=>e=.returned (.string (tx ((p * x - f * y).fdiv l)))∧Fr w w':=by
 have hp':Bn 2000 p:=hp
 have hx':Bn 2000 x:=hx
 have hf':Bn 2000 f:=hf
 have hy':Bn 2000 y:=hy
 have hl':Bn 2000 l:=hl
 have c1:=hZ (fun W (hW:G W)=>Vi 2000 2000 (by decide) (by decide) p x hp' hx' W hW)
 have c2:=hZ (fun W (hW:G W)=>Vi 2000 2000 (by decide) (by decide) f y hf' hy' W hW)
 have c3:=hZ (fun W (hW:G W)=>Vg 4000 (by decide) (p * x) (f * y) ((hp'.mul hx').mono (by decide)) ((hf'.mul hy').mono (by decide)) W hW)
 have c4:=hZ (fun W (hW:G W)=>SZ 4001 2000 (by decide) (by decide) (p * x - f * y) l (((hp'.mul hx').sub (hf'.mul hy')).mono (by decide)) hl' h0 W hW)
 clear hp hx hf hy hl hp' hx' hf' hy' hl' h0
 go_enter Tryz.func135,Tryz.ntmps135
 go_wp2_with fail
 refine (c1.out _ hG).mono ?_; rintro e w1 ⟨rfl,hf1⟩
 go_wp2_with fail
 refine (c2.out _ (hG.fr hf1)).mono ?_; rintro e w2 ⟨rfl,hf2⟩
 go_wp2_with fail
 refine (c3.out _ (hG.fr (hf1.trans hf2))).mono ?_; rintro e w3 ⟨rfl,hf3⟩
 go_wp2_with fail
 refine (c4.out _ (hG.fr ((hf1.trans hf2).trans hf3))).mono ?_; rintro e w4 ⟨rfl,hf4⟩
 go_wp2_with fail
 go_ret
 exact ⟨rfl,((hf1.trans hf2).trans hf3).trans hf4⟩
theorem Pf {m:List (List Int)} {s:EZ}:∀ {n c:Nat},c≤n→JO m n=some s→∃ s1,JO m c=some s1
 | 0,c,h,hs=>by obtain rfl:c=0:=by omega
                exact ⟨s,hs⟩
 | n+1,c,h,hs=>by
   by_cases e:c=n+1
   ·subst e; exact ⟨s,hs⟩
   ·rw [JO] at hs
    obtain ⟨s1,h1,-⟩:=AY.1 hs
    exact Pf (by omega) h1
theorem Pe {m:List (List Int)} {s:EZ} {c:Nat} (h:JO m c=some s) (hf:¬ s.piv.length < s.m.length):∀ k,JO m (c+k)=some s
 | 0=>h
 | k+1=>by rw [show c+(k+1)=(c+k)+1 by omega,JO,Pe h hf k,CG,F4,Ag hf]
theorem UL {m:List (List Int)} {s sc:EZ} {n c:Nat} (hs:JO m n=some s) (hc:c < n) (h:JO m c=some sc):∃ s2,JO m (c+1)=some s2∧F4 c sc=some s2:=by
 obtain ⟨s2,h2⟩:=Pf (c:=c+1) hc hs
 refine ⟨s2,h2, ?_⟩
 rw [JO,h,CG] at h2
 exact h2
theorem Sf {c:Nat} {s s2:EZ} (h:F4 c s=some s2) (h1:s.piv.length < s.m.length) (h2:Hn s.m c s.piv.length=s.m.length):s2=s:=by
 unfold F4 at h
 rw [Ai h1,Ai h2] at h
 injection h with h; exact h.symm
theorem TE {c:Nat} {s s2:EZ} (h:F4 c s=some s2) (h1:s.piv.length < s.m.length) (h2:Hn s.m c s.piv.length≠s.m.length):VM s.m=true∧Tz s.last∧s.last≠0 ∧
 s2=⟨Ek (Eo s.m s.piv.length (Hn s.m c s.piv.length)) (Fj (Eo s.m s.piv.length (Hn s.m c s.piv.length)) s.piv.length c) s.last s.piv.length c s.m.length,s.piv ++ [c],
     Fj (Eo s.m s.piv.length (Hn s.m c s.piv.length)) s.piv.length c,s.odd != decide (Hn s.m c s.piv.length≠s.piv.length)⟩:=by
 unfold F4 at h
 rw [Ai h1,Ag h2] at h
 split at h
 ·rename_i h3
  injection h with h
  exact ⟨h3.1,h3.2.1,h3.2.2,h.symm⟩
 ·cases h
theorem TA {m:List (List Int)} (h:VM m=true) {i:Nat} {r:List Int} (hi:m[i]?=some r):∀ x,x ∈ r→Tz x:=fun x hx=>
 AL (AE.1 (AE.1 h r (Af hi)) x hx)
theorem U2 {m:List (List Int)} {c k j:Nat} (h1:k≤j) (h2:j≤Hn m c k) (h3:j < m.length) (hz:Fj m j c=0):j+1≤Hn m c k:=by
 by_cases e:j=Hn m c k
 ·exfalso
  have:=XX (m:=m) (c:=c) (k:=k) (by omega) (by omega)
  rw [← e] at this
  exact this hz
 ·omega
theorem U4 {m:List (List Int)} {c k j:Nat} (h1:k≤j) (h2:j≤Hn m c k) (h3:j < m.length) (hz:Fj m j c≠0):j=Hn m c k:=by
 by_cases e:j=Hn m c k
 ·exact e
 ·exfalso
  have hlt:j - k < (m.drop k).findIdx fun r=>decide ((r[c]?).getD 0≠0):=by unfold Hn at h2 e; omega
  have h4:=List.not_of_lt_findIdx hlt
  rw [List.getElem_drop] at h4
  have h5:=QS (Bool.eq_false_iff.2 (by simpa using h4):decide ((m[k+(j - k)][c]?).getD 0≠0)=false)
  apply hz
  unfold Fj EA
  rw [Ac h3]
  have:k+(j - k)=j:=by omega
  simp only [this] at h5
  exact Decidable.of_not_not h5
theorem P8 {m:List (List Int)} {n k a:Nat} (h:Bx n m):Bx n (Eo m k a):=by
 unfold Eo; split
 ·exact h
 ·exact fun r hr=>h r (On hr)
theorem M6 {p f l:Int} {xs ys:List Int} {n:Nat} (h1:xs.length=n) (h2:ys.length=n):(GE p f l xs ys).length=n:=by
 unfold GE; rw [List.length_zipWith]; omega
theorem SM {p f l:Int} {xs ys:List Int} {k:Nat} {x y:Int} (h1:xs[k]?=some x) (h2:ys[k]?=some y):(GE p f l xs ys)[k]?=some (UU p f l x y):=by
 unfold GE; rw [GQ,h1,h2]
theorem M9 {m:List (List Int)} {n:Nat} (h:Bx n m) {p l:Int} {d c:Nat} (hd:d < m.length) (t:Nat):Bx n (Ek m p l d c t):=fun r hr=>by
 obtain ⟨j,hj⟩:=BU.1 hr
 rw [LI] at hj
 split at hj
 ·obtain ⟨r0,h0,rfl⟩:=BO.1 hj
  exact M6 (h r0 (Af h0)) (by unfold EA; rw [Ac hd]; exact h.row hd)
 ·exact h r (Af hj)
theorem Pr {m:List (List Int)} {p l:Int} {d c t j:Nat} (h:t≤j∨j=d):EA (Ek m p l d c t) j=EA m j:=by
 unfold EA; rw [LI,Ag (by omega)]
theorem SP {m:List (List Int)} {p l:Int} {d c:Nat}:Ek m p l d c (d+1)=Ek m p l d c d:=by rw [Ek,Ai rfl]
theorem SO {m:List (List Int)} {p l:Int} {d c i:Nat} (h:i≠d):Ek m p l d c (i+1)=(Ek m p l d c i).set i (GE p (Fj (Ek m p l d c i) i c) l (EA (Ek m p l d c i) i) (EA (Ek m p l d c i) d)):=by rw [Ek,Ag h]
theorem IV {m:List (List Int)} {i:Nat} (h:i < m.length):EA m i=m[i]:=by unfold EA; rw [Ac h]; rfl
theorem Mi {α:Type} (zs xs:List α) (k:Nat) (h1:zs.length≤k) (h2:xs.length≤k):zs.take k ++ xs.drop k=zs:=by
 rw [Ao h1,Zr h2,BE]
theorem LR.refl (ob:Nat) (a:List (Nat×Nat×Nat)):LR ob a a:=⟨fun _=>Iff.rfl,fun _ h=>h⟩
theorem Ty {m:List (List Int)} {k a:Nat} (h:VM m=true):VM (Eo m k a)=true:=by
 unfold Eo; split
 ·exact h
 ·exact AE.2 fun r hr=>AE.1 h r (On hr)
theorem UH {m:List (List Int)} {n i c:Nat} (h:VM m=true) (hr:Bx n m) (hi:i < m.length) (hc:c < n):Tz (Fj m i c) :=
 TA h (Ac hi) _ (Af (EV hr hi hc))
theorem Rg {m:List (List Int)} {i:Nat} (h:VM m=true) (hi:i < m.length):∀ x,x ∈ EA m i→Tz x:=by
 rw [IV hi]; exact TA h (Ac hi)
theorem Fx.grownE {p:Nat→Prop} {a b c:World} {row:Option Nat} (h:Fx p a b) (hg:b.grownBy c row) (hr:∀ k,row=some k→a.heap.size≤k):Fx p a c:=by
 have k:=Fx.of_grown hg
 exact ⟨k.os.trans h.os,k.tape.trans h.tape,k.output.trans h.output,As h.size k.size,fun q h1 h2=>(k.block q (Aq h1 h.size) (fun e=>by have:=hr q e; omega)).trans (h.block q h1 h2)⟩
def WP (w:World) (ob oo n L:Nat) (hs:List (Nat×Nat×Nat)) (s:EZ) (e:Ending) (w':World):Prop :=
 ∃ a c hs',e=.returned (.tuple #[.slice a s.piv.length c,.string (tx s.last),.bool s.odd])∧El w' iv a (s.piv.map fun k:Nat=>(k:Int))∧Bz w' ob oo hs' s.m∧Bx n s.m∧s.m.length=L∧LR ob hs' hs∧Fx (gb ob hs) w w'
theorem Vw (ob oo cap n nc:Nat) (hs:List (Nat×Nat×Nat)) (g:List (List Int)) (s:EZ) (w:World) (hG:G w) (hg:Bz w ob oo hs g) (hr:Bx n g) (hnc:nc≤n) (hn:n≤1000) (hl:g.length≤1000) (hz:JO g nc=some s) :
 Calls Tryz.prog 85 #[.slice (some ⟨ob,oo,none⟩) g.length cap,.int .i64 nc] w (WP w ob oo n g.length hs s):=by
 have hgn:=GB hG
 obtain ⟨i1,ji,jz0,jz1,jz2⟩:=AZ C6
 have hG1:=hZ hG
 have hge0:=hZ hg.ge
 have hoblt:=hg.outer
 have hbl0:Hid (∀ k,gb ob hs k→k < w.heap.size):=by
  rintro k (rfl | ⟨hd,hm,rfl⟩)
  ·exact hoblt
  ·obtain ⟨i,hi⟩:=BJ hm
   have hlt:i < g.length:=by rw [← hg.len]; exact (Ae.1 hi).1
   exact (hg.row i hd _ hi (Ac hlt)).1.2.1
 obtain ⟨L,hL⟩:∃ L,L=g.length:=⟨_,rfl⟩
 rw [← hL] at hl ⊢
 have hz1:=hZ hz
 have h00:JO g 0=some ⟨g,[],1,false⟩:=rfl
 replace hz:=hZ hz
 replace hG:=hZ hG
 replace hg:=hZ hg
 replace hr:=hZ hr
 replace hL:=hZ hL
 replace h00:=hZ h00
 clear hG hz
 go_enter Tryz.func85,Tryz.ntmps85
 go_wp2_with fail
 go_loopg [7,8,9,10] nc (fun k s7 s8 s9 s10 wr=>∃ (c q:Nat) (sc:EZ) (hsX:List (Nat×Nat×Nat)),s10=.int .i64 c∧c+k=nc∧Hid (JO g c=some sc)∧s8=.string (tx sc.last)∧s9=.bool sc.odd∧Hid (q=sc.piv.length)∧Hid (wr.ownsRow w.heap.size 3 1 s7 q (sc.piv.map fun k:Nat=>iv k))∧Hid (Bz wr ob oo hsX sc.m)∧Hid (Bx n sc.m)∧Hid (sc.m.length=L)∧Hid (LR ob hsX hs)∧Fx (gb ob hs) w wr)
 case atStart=>exact ⟨0,0,⟨g,[],1,false⟩,hs,rfl,by omega,h00.out,by rw [show tx 1=⟨#[49]⟩ from Fo],rfl,rfl,Bl _ _ _ _,hg.out,hr.out,hL.out.symm,LR.refl _ _,Fx.refl _ _⟩
 case round=>
  obtain ⟨c,q,sc,hsX,rfl,hck,hsc,rfl,rfl,hq,hown,hgr,hrr,hlen,hsm,hfx⟩:=hrel
  have hqc:q≤c:=by rw [hq.out]; exact RG hsc.out
  have zq:(0:Int)≤(q:Int):=Aj _
  have zc:(0:Int)≤(c:Int):=Aj _
  obtain ⟨a7,c7,rfl⟩:∃ a7 c7,u7=.slice a7 q c7:=by
   rcases hown.out.2 with ⟨h1,h2⟩ | ⟨g',cap',cur',hv,_⟩
   ·rw [h1,h2]; exact ⟨_,_,rfl⟩
   ·exact ⟨_,_,hv⟩
  by_cases hcn:c < nc
  ·have dcn:decide (c < nc)=true:=Ab hcn
   by_cases hqL:q < L
   ·have dqL:decide (q < L)=true:=Ab hqL
    obtain ⟨s2,hs2,hst⟩:=UL hz1.out hcn hsc.out
    obtain ⟨A,hA⟩:∃ A,A=Hn sc.m c q:=⟨_,rfl⟩
    have hAle:=U3 sc.m c q (by rw [hlen.out]; omega)
    rw [← hA,hlen.out] at hAle
    replace hs2:=hZ hs2
    replace hst:=hZ hst
    replace hA:=hZ hA
    obtain ⟨wo,rfl⟩:∃ wo:World,wo=wr:=⟨_,rfl⟩
    obtain ⟨ko,rfl⟩:∃ ko:Nat,ko=gk:=⟨_,rfl⟩
    go_wp2_with fail
    go_loopg [12] (L - q) (fun k VN wr2=>∃ j:Nat,VN=.int .i64 j∧j+k=L∧q≤j∧j≤A∧wo=wr2)
    case atStart=>exact ⟨q,rfl,by omega,Ah _,hAle.1,rfl⟩
    case round=>
     obtain ⟨j,rfl,hjk,hqj,hjA,rfl⟩:=hrel
     by_cases hjL:j < L
     ·have hjg:j < sc.m.length:=by rw [hlen.out]; exact hjL
      obtain ⟨b1,o1,k1,e1,ca1,cf1,ro1,bo1⟩:=hgr.out.at hjg
      have ce1:=(ro1.2.2 c _ (EV hrr.out hjg (by omega))).1
      rw [hrr.out.row hjg] at ca1
      have zj0:(0:Int)≤(j:Int):=Aj _
      have zj1:(j:Int) < (L:Int):=by omega
      have zcn:(c:Int) < (n:Int):=by omega
      have dj:decide ((j:Int) < (L:Int))=true:=Ab zj1
      clear ro1
      by_cases h0:AC sc.m j c=0
      ·have hb:((tx (AC sc.m j c)).toList == [48])=true:=by rw [Cn]; exact Ab h0
       have hA1:=U2 hqj (by rw [← hA.out]; exact hjA) hjg h0
       rw [← hA.out] at hA1
       replace h0:=hZ h0
       go_wp2_with fail
       go_roundg (gk - 1)
       case measure=>omega
       case rel=>exact ⟨j+1,by go_num,by omega,by omega,hA1,rfl⟩
      ·have hb:((tx (AC sc.m j c)).toList == [48])=false:=by rw [Cn]; exact Aa h0
       have hjA2:=(U4 hqj (by rw [← hA.out]; exact hjA) hjg h0).trans hA.out.symm
       obtain ⟨hti,htl,hl0,hs2e⟩:=TE hst.out (by rw [hlen.out,← hq.out]; exact hqL) (by rw [← hq.out,← hA.out,hlen.out]; omega)
       rw [← hq.out,← hA.out,hlen.out,← hjA2] at hs2e
       obtain ⟨mX,hmX⟩:∃ mX,mX=Eo sc.m q j:=⟨_,rfl⟩
       obtain ⟨oX,hoX⟩:∃ oX,oX=(sc.odd != decide (j≠q)):=⟨_,rfl⟩
       rw [← hmX,← hoX] at hs2e
       have hRX:Bx n mX:=by rw [hmX]; exact P8 hrr.out
       have hLX:mX.length=L:=by rw [hmX,Mz]; exact hlen.out
       have htX:VM mX=true:=by rw [hmX]; exact Ty hti
       have hp0:Fj mX q c≠0:=by rw [hmX,Sd (by rw [hlen.out]; exact hqL) hjg]; exact h0
       have hel:((j:Int) == (L:Int))=false:=A2 (by omega)
       replace hs2e:=hZ hs2e
       replace h0:=hZ h0
       replace hjA2:=hZ hjA2
       clear hti
       go_upto_if 54 with (fail)
       go_cut [9] from 17 to 131 (fun s9 wc=>∃ hsY:List (Nat×Nat×Nat),s9=.bool oX∧Hid (Bz wc ob oo hsY mX)∧Hid (LR ob hsY hs)∧Fx (gb ob hs) wo wc)
       case first=>
        by_cases hjq:j=q
        ·have hm2:mX=sc.m:=by rw [hmX]; unfold Eo; rw [Ai hjq]
         have ho2:oX=sc.odd:=by rw [hoX,Aa (by simp [hjq])]; simp
         have hne:((j:Int) != (q:Int))=false:=by rw [hjq]; simp
         replace hm2:=hZ hm2
         replace ho2:=hZ ho2
         replace hjq:=hZ hjq
         clear hmX hoX
         go_wp2_with fail
         go_meet
         case rel=>exact ⟨hsX,by rw [ho2.out],by show Bz _ _ _ _ _; rw [hm2.out]; exact hgr.out,hsm.out,Fx.refl _ _⟩
        ·have hm2:mX=DT sc.m j q:=by rw [hmX]; unfold Eo; rw [Ag hjq]
         have ho2:oX=!sc.odd:=by rw [hoX,Ab hjq]; simp
         have hne:((j:Int) != (q:Int))=true:=by rw [Bs]; omega
         have hqg:q < sc.m.length:=by rw [hlen.out]; exact hqL
         obtain ⟨b2,o2,k2,e2,ca2,cf2,-,-⟩:=hgr.out.at hqg
         rw [hrr.out.row hqg] at ca2
         have hg1:=Ac hjg
         have hg2:=Ac hqg
         have hsw:=hgr.out.swap e1 e2 hg1 hg2 hjq
         rw [hrr.out.row hjg,hrr.out.row hqg] at hsw
         have hsmY:=hZ (show LR ob (DT hsX j q) hs from ⟨fun k=>(UB e1 e2 k).trans (hsm.out.1 k),fun h hm=>hsm.out.2 h (Q8 hm)⟩)
         rw [← hm2] at hsw
         have hfS:Fx (gb ob hs) wo ((wo.setCell ⟨ob,oo+j,none⟩ (.slice (some ⟨b2,o2,none⟩) n k2)).setCell ⟨ob,oo+q,none⟩ (.slice (some ⟨b1,o1,none⟩) n k1)):=Fx.setCell (p:=gb ob hs) (q:=⟨ob,oo+q,none⟩) (Fx.setCell (p:=gb ob hs) (q:=⟨ob,oo+j,none⟩) (Fx.refl _ wo) (.inl (.inl rfl)) _) (.inl (.inl rfl)) _
         have ca3:(wo.setCell ⟨ob,oo+j,none⟩ (.slice (some ⟨b2,o2,none⟩) n k2)).cell? ⟨ob,oo+q,none⟩=some (.slice (some ⟨b2,o2,none⟩) n k2):=by
          rw [Ad _ _ _ _ (fun e=>by injection e with _ e; omega)]; exact ca2
         have zq1:(q:Int) < (L:Int):=by omega
         replace hsw:=hZ hsw
         replace hfS:=hZ hfS
         replace hjq:=hZ hjq
         replace ho2:=hZ ho2
         replace e1:=hZ e1
         replace e2:=hZ e2
         replace hg1:=hZ hg1
         replace hg2:=hZ hg2
         clear hmX hoX hm2
         go_wp2_with fail
         go_region
         go_wp2_with fail
         go_meet
         case rel=>exact ⟨DT hsX j q,by rw [ho2.out],hsw.out.fr (Fr.refl _).drew,hsmY.out,hfS.out.drew⟩
       case rest=>
        obtain ⟨hsY,rfl,hgY,hsmY,hfY⟩:=hcut
        have hqX:q < mX.length:=by rw [hLX]; exact hqL
        obtain ⟨bd,od,kd,ed,cad,cfd,rod,bod⟩:=hgY.out.at hqX
        rw [hRX.row hqX] at cad
        have ced:=(rod.2.2 c _ (EV hRX hqX (by omega))).1
        obtain ⟨p,hp⟩:∃ p,p=Fj mX q c:=⟨_,rfl⟩
        have htp:Tz p:=by rw [hp]; exact UH htX hRX hqX (by omega)
        rw [show AC mX q c=p from hp.symm] at ced
        rw [← hp] at hp0
        have hs3e:=hs2e.out
        rw [← hp] at hs3e
        have zq1:(q:Int) < (L:Int):=by omega
        have hcl0:Hid (Bz wc ob oo hsY (Ek mX p sc.last q c 0)):=hgY.out
        have hownY:=hZ (BW hown.out hfY (fun g hg e=>by have h1:=(hown.out.lt g hg).1; have h2:=hbl0.out g e; omega))
        have hfwY:=hfx.trans hfY
        replace hs3e:=hZ hs3e
        replace hp:=hZ hp
        replace hmX:=hZ hmX
        replace hoX:=hZ hoX
        replace hRX:=hZ hRX
        replace htX:=hZ htX
        replace ed:=hZ ed
        clear rod hown hfx hfY hgr ca1 cf1 ce1 e1 dj cfd
        obtain ⟨wd,rfl⟩:∃ wd:World,wd=wc:=⟨_,rfl⟩
        go_wp2_with fail
        go_loopg [14] L (fun k s14 wr3=>∃ i:Nat,s14=.int .i64 i∧i+k=L∧Hid (Bz wr3 ob oo hsY (Ek mX p sc.last q c i))∧Fx (gb ob hs) wd wr3)
        case atStart=>exact ⟨0,rfl,by omega,hcl0,Fx.refl _ _⟩
        case round=>
         clear hcl0 cad ced
         obtain ⟨i,rfl,hik,hgi,hfi⟩:=hrel
         have zi0:(0:Int)≤(i:Int):=Aj _
         by_cases hiL:i < L
         ·have zi1:(i:Int) < (L:Int):=by omega
          have di:decide (i < L)=true:=Ab hiL
          by_cases hiq:i=q
          ·have hqq:((i:Int) == (q:Int))=true:=by rw [hiq]; simp
           have hsk:Hid (Bz wr ob oo hsY (Ek mX p sc.last q c (i+1))):=by
            show Bz _ _ _ _ _
            have h9:=hgi.out; rw [hiq] at h9; rw [hiq,SP]; exact h9
           replace hiq:=hZ hiq
           go_wp2_with fail
           go_roundg (gk - 1)
           case measure=>omega
           case rel=>exact ⟨i+1,by go_num,by omega,hsk.out,hfi⟩
          ·have hqq:((i:Int) == (q:Int))=false:=A2 (by omega)
           have hstep:=hZ (SO (m:=mX) (p:=p) (l:=sc.last) (d:=q) (c:=c) hiq)
           have hRi:Bx n (Ek mX p sc.last q c i):=M9 hRX.out hqX i
           have hLi:(Ek mX p sc.last q c i).length=L:=(GH _ _ _ _ _ _).trans hLX
           have ho1:=Pr (m:=mX) (p:=p) (l:=sc.last) (d:=q) (c:=c) (t:=i) (j:=i) (.inl (Ah i))
           have ho2:=Pr (m:=mX) (p:=p) (l:=sc.last) (d:=q) (c:=c) (t:=i) (j:=q) (.inr rfl)
           generalize hgic:Ek mX p sc.last q c i=gi at *
           have hiX:i < gi.length:=by rw [hLi]; exact hiL
           have hqX2:q < gi.length:=by rw [hLi]; exact hqL
           obtain ⟨bi,oi,ki,ei,cai,cfi,roi,boi⟩:=hgi.out.at hiX
           obtain ⟨bd',od',kd',ed',cad,cfd,rod,bod'⟩:=hgi.out.at hqX2
           rw [ed.out] at ed'
           injection ed' with ed'
           injection ed' with g1 g2
           injection g2 with g2 g3
           subst g1; subst g2; subst g3
           have hne:bi≠bd:=hgi.out.apart i q _ _ ei ed.out hiq
           have cei:=(roi.2.2 c _ (EV hRi hiX (by omega))).1
           have hfti:Tz (Fj gi i c):=by
            have:Fj gi i c=Fj mX i c:=by unfold Fj; rw [ho1]
            rw [this]; exact UH htX.out hRX.out (by omega) (by omega)
           rw [hRi.row hiX] at cai
           rw [hRi.row hqX2] at cad
           have hxl:(EA gi i).length=n:=by rw [IV hiX]; exact hRi.row hiX
           have hyl:(EA gi q).length=n:=by rw [IV hqX2]; exact hRi.row hqX2
           rw [← IV hiX] at roi
           rw [← IV hqX2] at rod
           have hxt:∀ x,x ∈ EA gi i→Tz x:=by rw [ho1]; exact Rg htX.out (by omega)
           have hyt:∀ x,x ∈ EA gi q→Tz x:=by rw [ho2]; exact Rg htX.out (by omega)
           change wr.cell? ⟨bi,oi+c,none⟩=some (sv (Fj gi i c)) at cei
           obtain ⟨f,hf⟩:∃ f,f=Fj gi i c:=⟨_,rfl⟩
           rw [← hf] at cei hfti hstep
           generalize EA gi i=xs at *
           generalize EA gi q=ys at *
           obtain ⟨zs,hzs⟩:∃ zs,zs=GE p f sc.last xs ys:=⟨_,rfl⟩
           rw [← hzs] at hstep
           have hzl:zs.length=n:=by rw [hzs]; exact M6 hxl hyl
           have hzg:=fun u x y (h1:xs[u]?=some x) (h2:ys[u]?=some y)=>show zs[u]?=some ((p * x - f * y).fdiv sc.last) from by rw [hzs]; exact SM h1 h2
           have hG3:=hZ ((hG1.out.fx hfwY hge0.out).fx hfi hge0.out)
           have hbig:=hge0.out bi (((hsmY.out.1 bi).1) (.inr ⟨_,Af ei,rfl⟩))
           replace hf:=hZ hf
           replace hzs:=hZ hzs
           replace hzl:=hZ hzl
           replace hzg:=hZ hzg
           replace hxl:=hZ hxl
           replace hyl:=hZ hyl
           replace hxt:=hZ hxt
           replace hyt:=hZ hyt
           replace ei:=hZ ei
           replace hRi:=hZ hRi
           replace hLi:=hZ hLi
           replace hgic:=hZ hgic
           replace hiq:=hZ hiq
           replace rod:=hZ rod
           clear ho1 ho2
           have hroi:Hid (Own wr bi oi (zs.take 0 ++ xs.drop 0)):=roi
           clear roi
           obtain ⟨wv,rfl⟩:∃ wv:World,wv=wr:=⟨_,rfl⟩
           obtain ⟨kv,rfl⟩:∃ kv:Nat,kv=gk:=⟨_,rfl⟩
           go_wp2_with fail
           go_loopg [16] n (fun k s16 wr4=>∃ u:Nat,s16=.int .i64 u∧u+k=n∧Hid (Own wr4 bi oi (zs.take u ++ xs.drop u))∧Fx (·=bi) wv wr4)
           case atStart=>exact ⟨0,rfl,by omega,hroi.out,Fx.refl _ _⟩
           case round=>
            clear hroi
            obtain ⟨u,rfl,huk,hown4,hf4⟩:=hrel
            have cai4:=hf4.keep cai (fun e=>boi e.symm)
            have cfi4:=hf4.keepf cai cfi (fun e=>boi e.symm)
            have cad4:=hf4.keep cad (fun e=>boi e.symm)
            have zu0:(0:Int)≤(u:Int):=Aj _
            by_cases hun:u < n
            ·have zu1:(u:Int) < (n:Int):=by omega
             have dun:decide (u < n)=true:=Ab hun
             obtain ⟨x,hx⟩:∃ x,xs[u]?=some x:=⟨_,Ac (by rw [hxl.out]; exact hun)⟩
             obtain ⟨y,hy⟩:∃ y,ys[u]?=some y:=⟨_,Ac (by rw [hyl.out]; exact hun)⟩
             obtain ⟨x1,x2⟩:=hown4.out.2.2 u x (by rw [KK zs xs u (by rw [hzl.out,hxl.out]) (by rw [hxl.out]; exact hun)]; exact hx)
             have y1:=((rod.out.fx hf4 (fun e=>hne e.symm)).2.2 u y hy).1
             have hz:=hzg.out u x y hx hy
             have hms:=KJ zs xs u (by rw [hzl.out,hxl.out]) (by rw [hxl.out]; exact hun) _ hz
             have hco:=hZ (fun W (hW:G W)=>SX p x f y sc.last htp (hxt.out x (Af hx)) hfti (hyt.out y (Af hy)) htl hl0 W hW)
             have hGv:=hZ (hG3.out.fx hf4 (fun k e=>by rw [show k=bi from e]; exact hbig))
             have hS0:=hZ (fun W' (hW':Fr wr W')=>(⟨hW'.keep cai4,hW'.keep x1,hW'.keep cad4,hW'.keep y1⟩:W'.cell? ⟨ob,oo+i,none⟩=some (.slice (some ⟨bi,oi,none⟩) n ki)∧W'.cell? ⟨bi,oi+u,none⟩=some (sv x)∧W'.cell? ⟨ob,oo+q,none⟩=some (.slice (some ⟨bd,od,none⟩) n kd)∧W'.cell? ⟨bd,od+u,none⟩=some (sv y)))
             replace hx:=hZ hx
             replace hy:=hZ hy
             replace hz:=hZ hz
             replace hms:=hZ hms
             go_wp2_with fail
             refine Dm (S:=fun W'=>W'.cell? ⟨ob,oo+i,none⟩=some (.slice (some ⟨bi,oi,none⟩) n ki)∧W'.cell? ⟨bi,oi+u,none⟩=some (sv x)∧W'.cell? ⟨ob,oo+q,none⟩=some (.slice (some ⟨bd,od,none⟩) n kd)∧W'.cell? ⟨bd,od+u,none⟩=some (sv y)) 24 (by kernel_rfl) (hS0.out _ ((Fr.refl _).drew)) (fun hHeld=>?_)
             refine uK 0 ?_
             refine uK 1 ?_
             refine uK 2 ?_
             refine uK 3 ?_
             refine uK 4 ?_
             refine uK 5 ?_
             refine uK 6 ?_
             refine uK 7 ?_
             refine uK 8 ?_
             refine uK 9 ?_
             refine uK 10 ?_
             refine uK 11 ?_
             refine uK 12 ?_
             refine uK 13 ?_
             refine uK 14 ?_
             refine uK 15 ?_
             refine uK 16 ?_
             refine uK 17 ?_
             refine uK 18 ?_
             refine uK 19 ?_
             refine uK 20 ?_
             refine uK 21 ?_
             refine uC 22 (fun K hK=>?_)
             go_simp
             (refine (hco.out _ (hGv.out.fr (by exact B9))).mono ?_; rintro e w6 ⟨rfl,hf6⟩)
             go_wp2_with fail
             refine hK.out _ _ (hS0.out _ (by exact B9)) (fun hHeld=>?_)
             clear hK K
             refine uK 23 ?_
             have hfr8:Fr wr w6:=by exact B9
             have z1:=hfr8.keep x1
             have z2:=hfr8.keepf x1 x2
             clear hHeld
             refine uL 24 (fun K hK=>?_)
             go_simp
             refine hK.out _ _ ?_
             clear hK K
             have hown8:=(hown4.out.fr hfr8).set (k:=u) (by rw [Ar,Av,CJ,hxl.out,hzl.out]; omega) ((p * x - f * y).fdiv sc.last)
             rw [hms.out] at hown8
             have hf8x:=(hf4.fr hfr8).setCell (q:=⟨bi,oi+u,none⟩) (.inl rfl) (sv ((p * x - f * y).fdiv sc.last))
             replace hown8:=hZ hown8
             clear z1 z2
             go_wp2_with fail
             go_roundg (gk - 1)
             case measure=>omega
             case rel=>exact ⟨u+1,by go_num,by omega,hown8.out,hf8x⟩
            ·have dun:decide (u < n)=false:=Aa hun
             obtain rfl:u=n:=by omega
             have hown8:=hown4.out
             rw [Mi _ _ _ (by rw [hzl.out]; exact Ah _) (by rw [hxl.out]; exact Ah _)] at hown8
             have hset:=hgi.out.setRow ei.out hf4 hown8 (fun r h=>by rw [Ac hiX] at h; injection h with h; rw [hzl.out,← h]; exact (hRi.out.row hiX).symm)
             rw [← hstep.out] at hset
             have hfset:=hfi.trans (hf4.mono (fun k e=>by rw [show k=bi from e]; exact (hsmY.out.1 bi).1 (.inr ⟨_,Af ei.out,rfl⟩)))
             replace hset:=hZ hset
             clear hown8 hown4
             go_wp2_with fail
             go_roundg (kv - 1)
             case measure=>omega
             case rel=>exact ⟨i+1,by go_num,by omega,hset.out,hfset⟩
         ·have di:decide (i < L)=false:=Aa hiL
          obtain rfl:i=L:=by omega
          have hown3:=BW hownY.out hfi (fun g hg e=>by have h1:=(hownY.out.lt g hg).1; have h2:=hbl0.out g e; omega)
          have hfw:=hfwY.trans hfi
          have hszw:=hfw.size
          replace hown3:=hZ hown3
          go_wp2_with (at_builtin; refine wpList_append_lies _ rfl _ _ 23 (by rfl) _ 3 _ _ 1 8 Tryz.underlying23 ji jz0 jz1 jz2 rfl (by decide) _ q _ (by rfl) (Az hown3.out _) ⟨wr.heap.size,0,none⟩ 1 1 [.int .i64 c] (by rfl) rfl (AK _ _ _ _ (by simp)) (by simp [Value.oneCell']) (by decide) (by unfold maxLen; omega) (by omega) (by skip; simp; omega) (wr.heap.size+1) (by simp) ?_; intro gA capA wA hownA hgrowA hatA hltA)
          have hgA:=((hgi.out.fr ((Fr.refl wr).alloc (.cells #[.int .i64 c] 3))).fx (Fx.of_grown hgrowA) (fun k hk e=>by have h1:=(hown3.out.lt k e).1; have h2:=hbl0.out k ((hsmY.out.1 k).1 hk); omega))
          have hfA:=(hfw.alloc (.cells #[.int .i64 c] 3)).grownE hgrowA (fun k e=>(hown3.out.lt k e).1)
          go_roundg (ko - 1)
          case measure=>omega
          case rel=>
           have h3:=hs3e.out
           subst h3
           refine ⟨c+1,q+1,_,hsY,by go_num,by omega,hs2.out,by show _=sv p; rfl,by show _=Value.bool oX; rfl, ?_, ?_,hgA, ?_, ?_,hsmY.out,hfA⟩
           ·show q+1=_
            rw [Ar,hq.out]; rfl
           ·show World.ownsRow _ _ _ _ _ _ _
            rw [Ay]; exact hownA
           ·exact M9 hRX.out hqX _
           ·show _=_
            rw [GH]; exact hLX
     ·have dj:decide ((j:Int) < (L:Int))=false:=Aa (by omega)
      obtain rfl:j=L:=by omega
      have hel:((j:Int) == (j:Int))=true:=by simp
      have hs2e:=Sf hst.out (by rw [hlen.out,← hq.out]; exact hqL) (by rw [← hq.out,← hA.out,hlen.out]; omega)
      have hs2:=hs2.out
      rw [hs2e] at hs2
      replace hs2:=hZ hs2
      replace hs2e:=hZ hs2e
      go_wp2_with fail
      go_roundg (ko - 1)
      case measure=>omega
      case rel=>exact ⟨c+1,q,sc,hsX,by go_num,by omega,hs2.out,rfl,rfl,hq.out,hown.out,hgr.out,hrr.out,hlen.out,hsm.out,hfx⟩
   ·have dqL:decide (q < L)=false:=Aa hqL
    have hfin:=Pe hsc.out (by rw [hlen.out,← hq.out]; exact hqL) (nc - c)
    rw [show c+(nc - c)=nc by omega,hz1.out] at hfin
    injection hfin with hfin
    obtain ⟨a9,c9,hv9,hel9⟩:=MI (show wr.ownsRow w.heap.size 3 1 (.slice a7 q c7) q ((sc.piv.map fun k:Nat=>(k:Int)).map iv) by rw [Zq]; exact hown.out)
    injection hv9 with hv1 hv2 hv3
    subst hv1; subst hv3
    replace hfin:=hZ hfin
    go_wp2_with fail
    go_ret3
    rw [hfin.out]
    exact ⟨a7,c7,hsX,by rw [← hq.out]; rfl,hel9,hgr.out,hrr.out,hlen.out,hsm.out,hfx⟩
  ·have dcn:decide (c < nc)=false:=Aa hcn
   obtain rfl:c=nc:=by omega
   have hfin:s=sc:=by have:=hsc.out; rw [hz1.out] at this; injection this
   obtain ⟨a9,c9,hv9,hel9⟩:=MI (show wr.ownsRow w.heap.size 3 1 (.slice a7 q c7) q ((sc.piv.map fun k:Nat=>(k:Int)).map iv) by rw [Zq]; exact hown.out)
   injection hv9 with hv1 hv2 hv3
   subst hv1; subst hv3
   replace hfin:=hZ hfin
   go_wp2_with fail
   go_ret3
   rw [hfin.out]
   exact ⟨a7,c7,hsX,by rw [← hq.out]; rfl,hel9,hgr.out,hrr.out,hlen.out,hsm.out,hfx⟩

theorem WF (m:List (List Int)) (n:Nat) (s:EZ) (a:Option Addr) (cap:Nat) (w:World) (hG:G w) (hm:A5 w a m) (hr:Bx n m) (hn1:1≤n) (hn:n≤1000) (hl1:1≤m.length) (hl:m.length≤1000) (hb:∀ r,r ∈ m→∀ x,x ∈ r→Sm x) (hz:JO m n=some s) :
 Calls Tryz.prog 47 #[.slice a m.length cap] w fun e w'=>e=.returned (.int .i64 s.piv.length)∧Fr w w':=by
 have hbig:=hZ (fun W (hW:Fr w W)=>UZ m a cap n W (hG.fr hW) (hm.fr hW) hr hn1 (by omega) (by omega) hb)
 have hcol:∀ W,Fr w W→Calls Tryz.prog 87 #[.slice a m.length cap] W fun e w'=>e=.returned (.int .i64 n)∧W=w':=fun W hW=>by
  match m,hl1,hr,hm with
  | r :: m',_,hr,hm=>
    have:=PP r m' a cap W (hm.fr hW)
    rw [hr r BC] at this
    exact this
 have hel:=fun ob c hs W (hW:G W) (h:Bz W ob 0 hs m)=>Vw ob 0 c n n hs m s W hW h hr (Ah _) hn hl hz
 obtain ⟨L,hL⟩:∃ L,L=m.length:=⟨_,rfl⟩
 rw [← hL] at hl1 hbig hcol hel ⊢
 replace hcol:=hZ hcol
 replace hel:=hZ hel
 have hG1:=hZ hG
 replace hL:=hZ hL
 clear hm hb hG
 go_enter Tryz.func47,Tryz.ntmps47
 go_wp2_with fail
 refine (hbig.out _ (Fr.refl _)).mono ?_
 rintro e w1 ⟨v,hs,rfl,hgg,hrw,hnew,hf1⟩
 obtain ⟨gb1,cb1,rfl⟩:=C5 hgg.own (by rw [← hL.out]; omega)
 obtain ⟨hgr,-,hge,-⟩:=hgg.grid
 rw [← hL.out]
 have he:=hZ (hel.out gb1 cb1 hs w1 (hG1.out.fr hf1) hgr)
 have hbl:Hid (∀ k,gb gb1 hs k→w.heap.size≤k):=by
  rintro k (rfl | ⟨hd,hm2,rfl⟩)
  ·exact hge
  ·exact hnew.out hd hm2
 replace hgg:=hZ hgg
 replace hgr:=hZ hgr
 replace hrw:=hZ hrw
 go_wp2_with fail
 refine (hcol.out _ hf1).mono ?_
 rintro e w2 ⟨rfl,rfl⟩
 go_wp2_with fail
 refine he.out.mono ?_
 rintro e w3 ⟨a3,c3,hs3,rfl,-,-,-,-,-,hfx⟩
 go_wp2_with fail
 go_ret
 exact ⟨rfl,((Fx.of_fr hf1).trans (hfx.mono hbl.out)).toFr (fun k hk e=>by omega)⟩
abbrev Cz (v:List Int) (k:Nat):Int:=(v[k]?).getD 0
theorem Y5 {x:Int} (h:x.natAbs≤4000000000000000000):Tz x:=ZE (A4 h (by decide +kernel))
theorem NZ {v:List Int} {B:Nat} (h:∀ x,x ∈ v→x.natAbs≤B) (k:Nat):(Cz v k).natAbs≤B:=by
 unfold Cz
 cases e:v[k]? with
 | none=>simp
 | some x=>exact h x (Af e)
theorem US {v u:List Int} {n:Nat} (hv:v.length=n) (hu:u.length=n) (p f:Int) {k:Nat} (hk:k < n):Cz (GE p f 1 u v) k=p * Cz u k - f * Cz v k:=by
 unfold Cz GE
 rw [GQ,Ac (show k < u.length by omega),Ac (show k < v.length by omega)]
 show UU p f 1 _ _=_
 unfold UU
 rw [L5]; rfl
theorem Q7 {v u:List Int} (hv:∀ x,x ∈ v→x.natAbs≤4000000000000000000) (hu:∀ x,x ∈ u→x.natAbs≤4000000000000000000):VM [v,u]=true:=by
 unfold VM
 simp only [List.all_cons,List.all_nil,Bool.and_true,Bm]
 exact ⟨AE.2 fun x hx=>Ab (Y5 (hv x hx)),AE.2 fun x hx=>Ab (Y5 (hu x hx))⟩
theorem RF {v u:List Int} {n:Nat} (hv:v.length=n) (hu:u.length=n) (hvf:∀ x,x ∈ v→x.natAbs≤1000000000) (huf:∀ x,x ∈ u→x.natAbs≤1000000000) (h0:Cz v 0≠0):∀ c,c+1≤n →
 (JO [v,u] (c+1)=some ⟨[v,GE (Cz v 0) (Cz u 0) 1 u v],[0],Cz v 0,false⟩∧∀ k,k≤c→Cz v 0 * Cz u k=Cz u 0 * Cz v k) ∨
 (∃ s,JO [v,u] (c+1)=some s∧s.piv.length=2∧s.m.length=2∧∃ k,k≤c∧Cz v 0 * Cz u k≠Cz u 0 * Cz v k)
 | 0,_=>.inl ⟨by
    have ha:Hn [v,u] 0 0=0:=by
     unfold Hn
     rw [Fa,List.findIdx_cons,Ab h0]; rfl
    show F4 0 ⟨[v,u],[],1,false⟩=_
    unfold F4
    rw [Ai (show ([]:List Nat).length < [v,u].length by simp)]
    show (if Hn [v,u] 0 0=2 then _ else _)=_
    rw [Ag (by rw [ha]; decide),Ai ⟨Q7 (fun x hx=>by have:=hvf x hx; omega) (fun x hx=>by have:=huf x hx; omega),Y5 (show (1:Int).natAbs≤_ by decide),show (1:Int)≠0 by decide⟩]
    show some (EZ.mk (Ek (Eo [v,u] 0 (Hn [v,u] 0 0)) (Fj (Eo [v,u] 0 (Hn [v,u] 0 0)) 0 0) 1 0 0 2) [0] (Fj (Eo [v,u] 0 (Hn [v,u] 0 0)) 0 0) (false != decide (Hn [v,u] 0 0≠0)))=_
    rw [ha]; rfl,fun k hk=>by
    obtain rfl:k=0:=by omega
    exact Fn _ _⟩
 | c+1,hc=>by
   have hzf:∀ x,x ∈ GE (Cz v 0) (Cz u 0) 1 u v→x.natAbs≤4000000000000000000:=fun x hx=>by
    obtain ⟨a,b,ha,hb,rfl⟩:=I3 hx
    exact As (Wy (NZ hvf 0) (NZ huf 0) (huf a ha) (hvf b hb)) (by decide)
   rcases RF hv hu hvf huf h0 c (by omega) with ⟨e1,e2⟩ | ⟨s,e1,e2,e3,k,e4,e5⟩
   ·rw [JO,e1,CG]
    have hz:=US hv hu (Cz v 0) (Cz u 0) (k:=c+1) (by omega)
    generalize GE (Cz v 0) (Cz u 0) 1 u v=z at *
    have ha:Hn [v,z] (c+1) 1=if Cz z (c+1)=0 then 2 else 1:=by
     unfold Hn
     rw [show [v,z].drop 1=[z] from rfl,List.findIdx_cons]
     by_cases e:Cz z (c+1)=0
     ·rw [Ai e,Aa (fun h=>h e)]; rfl
     ·rw [Ag e,Ab e]; rfl
    by_cases e:Cz z (c+1)=0
    ·refine .inl ⟨?_,fun k hk=>?_⟩
     ·unfold F4
      rw [Ai (show ([0]:List Nat).length < [v,z].length by simp)]
      show (if Hn [v,z] (c+1) 1=2 then _ else _)=_
      rw [Ai (by rw [ha,Ai e])]
     ·by_cases h9:k≤c
      ·exact e2 k h9
      ·obtain rfl:k=c+1:=by omega
       omega
    ·refine .inr ⟨_,by
      unfold F4
      rw [Ai (show ([0]:List Nat).length < [v,z].length by simp)]
      show (if Hn [v,z] (c+1) 1=2 then _ else _)=_
      rw [Ag (by rw [ha,Ag e]; decide),Ai ⟨Q7 (fun x hx=>by have:=hvf x hx; omega) hzf,Y5 (by have:=NZ hvf 0; show (Cz v 0).natAbs≤_; omega),h0⟩],rfl, ?_,c+1,Ah _,fun h=>e (by omega)⟩
     rw [GH,Mz]; rfl
   ·rw [JO,e1,CG]
    refine .inr ⟨s, ?_,e2,e3,k,by omega,e5⟩
    unfold F4
    rw [Ag (by omega)]
theorem TV {v u:List Int} {n:Nat} (hn:1≤n) (hv:v.length=n) (hu:u.length=n) (hvf:∀ x,x ∈ v→x.natAbs≤1000000000) (huf:∀ x,x ∈ u→x.natAbs≤1000000000) (h0:Cz v 0≠0) :
 ∃ s,JO [v,u] n=some s∧((s.piv.length=1∧∀ k,k < n→Cz v 0 * Cz u k=Cz u 0 * Cz v k)∨(s.piv.length=2∧∃ k,Cz v 0 * Cz u k≠Cz u 0 * Cz v k)):=by
 have h:=RF hv hu hvf huf h0 (n - 1) (by omega)
 rw [show n - 1+1=n by omega] at h
 rcases h with ⟨e1,e2⟩ | ⟨s,e1,e2,-,k,-,e5⟩
 ·exact ⟨_,e1,.inl ⟨rfl,fun k hk=>e2 k (by omega)⟩⟩
 ·exact ⟨s,e1,.inr ⟨e2,k,e5⟩⟩
theorem Gu {n:Nat} {v:List Int} (x:Nat→Int):Jh n [v] x ↔ (∀ k,n≤k→x k=0)∧Dn (fun j=>Cz v j) x n=0:=by
 unfold Jh
 constructor
 ·rintro ⟨h0,h1⟩
  exact ⟨h0,h1 0 (by simp)⟩
 ·rintro ⟨h0,h1⟩
  refine ⟨h0,fun i hi=>?_⟩
  match i,hi with
  | 0,_=>exact h1
theorem Pm {v u:List Int} {n:Nat} (h0:Cz v 0≠0) (hd:∀ k,k < n→Cz v 0 * Cz u k=Cz u 0 * Cz v k) (x:Nat→Int):Jh n [v,u] x ↔ Jh n [v] x:=by
 rw [Lj,Gu]
 constructor
 ·rintro ⟨a,b,-⟩; exact ⟨a,b⟩
 ·rintro ⟨a,b⟩
  refine ⟨a,b, ?_⟩
  have e:Cz v 0 * Dn (fun j=>Cz u j) x n=Cz u 0 * Dn (fun j=>Cz v j) x n:=by
   rw [← Ec,← Ec]
   exact CT fun k hk=>⟨hd k hk,rfl⟩
  have b':Dn (fun j=>Cz v j) x n=0:=b
  rw [b',B0] at e
  rcases FI.1 e with h | h
  ·exact absurd h h0
  ·exact h
theorem Wx {v u:List Int} {n:Nat} (hv:v.length=n) (hu:u.length=n) (hvf:∀ x,x ∈ v→Bq x=true) (huf:∀ x,x ∈ u→Bq x=true) (h0:Cz v 0≠0) (hd:∀ k,k < n→Cz v 0 * Cz u k=Cz u 0 * Cz v k):BG (H7 n [v,u])=true:=by
 obtain ⟨gF,tF,p,e1,e2,e3,e4,e5,e6,-⟩:=MJ (n:=n) (B:=1000000000) (m:=[v,u]) (by simp) (Gp hv hu) (by decide) Df (Jc hvf huf)
 obtain ⟨-,-,-,-,hU⟩:=GC _ 0 0 [v,u] gF tF (fun _=>0) (Gp hv hu) (FU.init _ _) e1
 have hsp:=Nk hU
 have hd2:∀ k,Cz v 0 * Cz u k=Cz u 0 * Cz v k:=fun k=>by
  by_cases hk:k < n
  ·exact hd k hk
  ·unfold Cz; rw [A3 (show u.length≤k by omega),A3 (show v.length≤k by omega)]; simp
 have hrow:∀ i,i < 2→∀ k,Cz v 0 * AC gF i k=AC gF i 0 * Cz v k:=fun i hi k=>by
  obtain ⟨c,hc⟩:=Eh ((hsp _).2 (DL.row (i:=i) hi))
  have c1:∀ k,AC gF i k=c 0 * Cz v k+c 1 * Cz u k:=fun k=>by rw [hc k]; show 0+c 0 * Cz v k+c 1 * Cz u k=_; omega
  rw [c1 k,c1 0]
  have:=hd2 k
  grind
 have hp:∀ i,i < tF→p i=0:=fun i hi=>by
  refine AW fun hne=>?_
  have h1:=hrow i (by simp at e3; omega) (p i)
  rw [e4.low i hi 0 (by omega),CZ] at h1
  have h2:=e4.pos i hi
  rcases FI.1 h1 with h | h
  ·exact h0 h
  ·omega
 have ht:tF≤1:=by
  refine AW fun hne=>?_
  have h1:=e4.inc 0 1 (by omega) (by omega)
  rw [hp 0 (by omega),hp 1 (by omega)] at h1
  omega
 have hz:∀ i,tF≤i→i < 2→∀ k,AC gF i k=0:=fun i h1 h2 k=>by
  by_cases hk:k < n
  ·exact e4.zero i h1 (by rw [e6]; exact h2) k hk
  ·exact NU e5 (by omega)
 obtain ⟨c,hc⟩:=Eh ((hsp _).1 (DL.row (i:=0) (by simp)))
 have c1:∀ k,Cz v k=c 0 * AC gF 0 k+c 1 * AC gF 1 k:=fun k=>by
  have:=hc k
  have e9:AC [v,u] 0 k=Cz v k:=rfl
  rw [e9] at this
  rw [this]; show 0+c 0 * AC gF 0 k+c 1 * AC gF 1 k=_; omega
 have c2:∀ k,Cz v k=c 0 * AC gF 0 k:=fun k=>by rw [c1 k,hz 1 ht (by omega) k]; omega
 have c0:c 0≠0:=fun h=>h0 (by rw [c2 0,h,CZ])
 rw [e2]
 refine JS fun r hr x hx=>?_
 obtain ⟨i,hi⟩:=BU.1 hr
 rw [Bp] at hi
 have hit:i < tF:=by
  refine AW fun h=>?_
  rw [Ag h] at hi; cases hi
 rw [Ai hit] at hi
 obtain rfl:i=0:=by omega
 obtain ⟨k,hk⟩:=BU.1 hx
 have e9:AC gF 0 k=x:=by
  unfold AC BT
  rw [hi,BB,hk]; rfl
 rw [← e9]
 have h1:=c2 k
 have h2:=NZ (B:=1000000000) (fun x hx=>FD (hvf x hx)) k
 rw [h1,Be] at h2
 have h3:(AC gF 0 k).natAbs≤(c 0).natAbs * (AC gF 0 k).natAbs:=L3 _ (by omega)
 unfold Bq
 exact Ab (by omega)
section
variable {P v u:List Int} (h1:1≤P.length) (h4:P.length≤4) (hp:BQ P=0) (hvl:v.length=P.length) (hul:u.length=P.length) (hvf:∀ x,x ∈ v→Bq x=true) (huf:∀ x,x ∈ u→Bq x=true)
include h4 hvl hul hvf huf
theorem XS (h0:Cz v 0≠0) (hd:∀ k,k < P.length→Cz v 0 * Cz u k=Cz u 0 * Cz v k) (hA:BG (Dj P.length [v])=true) (hS:BG (Dj P.length (Dj P.length [v]))=true):Fq P.length (jL P v u)=true:=by
 have hL:=Wx hvl hul hvf huf h0 hd
 obtain ⟨gW,p,t,r,k⟩:=D5 (n:=P.length) h4 (by decide) Df (Gc hL)
 obtain ⟨gW2,p2,t2,r2,k2⟩:=D5 (n:=P.length) (m:=[v]) (B:=1000000000) h4 (by decide) Df (fun r hr x hx=>by rw [AX.1 hr] at hx; exact FD (hvf x hx))
 have e:Dj P.length (H7 P.length [v,u])=Dj P.length [v]:=FU.uniq k.krect k2.krect k.kech k2.kech fun x=>
  (k.spans x).trans ((OL (by simp) (Gp hvl hul) (Jc hvf huf) x).trans ((Pm h0 hd x).trans (k2.spans x).symm))
 unfold Fq jL
 rw [e,hL,hA,hS]; rfl
include h1 hp
theorem Ww (h0:Cz v 0≠0) (hd:∀ k,k < P.length→Cz v 0 * Cz u k=Cz u 0 * Cz v k) (hj:Fq P.length (jL P v u)=true):(jS P v u).length < 2 :=
 Us h1 h4 hp hvl hul hvf huf hj (z:=fun j=>Cz v j) fun x hx0 hx=>(Pm h0 hd x).2 ((Gu x).2 ⟨hx0,hx⟩)
theorem Wp (hj:Fq P.length (jL P v u)=true) (hd:∃ k,Cz v 0 * Cz u k≠Cz u 0 * Cz v k):2≤(jS P v u).length:=by
 refine AW fun hlt=>?_
 obtain ⟨k,hk⟩:=hd
 have hT:=I6 h1 h4 hp hvl hul hvf huf hj
 obtain ⟨s1,s2⟩:=Ur h4 hvl hul hvf huf hj
 obtain ⟨a,ha⟩:=Eh ((hT.sup hvl).1 s1)
 obtain ⟨b,hb⟩:=Eh ((hT.sup hul).1 s2)
 have hc:∀ c:Nat→Int,∀ k,Dn c (fun i=>AC (jS P v u) i k) (jS P v u).length=if (jS P v u).length=0 then 0 else c 0 * AC (jS P v u) 0 k:=fun c k=>by
  by_cases e:(jS P v u).length=0
  ·rw [Ai e,e]; rfl
  ·rw [Ag e,show (jS P v u).length=1 by omega]; show 0+c 0 * AC (jS P v u) 0 k=_; omega
 apply hk
 have a0:Cz v 0=_:=(ha 0).trans (hc a 0)
 have ak:Cz v k=_:=(ha k).trans (hc a k)
 have b0:Cz u 0=_:=(hb 0).trans (hc b 0)
 have bk:Cz u k=_:=(hb k).trans (hc b k)
 rw [a0,ak,b0,bk]
 by_cases e:(jS P v u).length=0
 ·simp [e]
 ·simp only [Ag e]; grind
end
def Ui (P v u:List Int) (rk:Nat):Int:=if rk < 2 then 18 else if Fq P.length (jL P v u)=false then 4 else 0
theorem Wk {P v u:List Int} (h1:1≤P.length) (h4:P.length≤4) (hp:BQ P=0) (hvl:v.length=P.length) (hul:u.length=P.length) (hvf:∀ x,x ∈ v→Bq x=true) (huf:∀ x,x ∈ u→Bq x=true) (h0:Cz v 0≠0) (hA:BG (Dj P.length [v])=true) (hS:BG (Dj P.length (Dj P.length [v]))=true) :
 ∃ s,JO [v,u] P.length=some s∧s.piv.length≤2∧Rz P v u=Ui P v u s.piv.length:=by
 obtain ⟨s,e1,h⟩:=TV h1 hvl hul (fun x hx=>FD (hvf x hx)) (fun x hx=>FD (huf x hx)) h0
 refine ⟨s,e1,by omega, ?_⟩
 unfold Rz Ui
 rcases h with ⟨e2,hd⟩ | ⟨e2,hd⟩
 ·have hf:=XS h4 hvl hul hvf huf h0 hd hA hS
  rw [Ai (show s.piv.length < 2 by omega),Ag (by rw [hf]; decide),Ai (Ww h1 h4 hp hvl hul hvf huf h0 hd hf)]
 ·rw [Ag (show ¬ s.piv.length < 2 by omega)]
  cases hf:Fq P.length (jL P v u) with
  | false=>rw [Ai rfl,Ai rfl]
  | true=>
    have:=Wp h1 h4 hp hvl hul hvf huf hf hd
    rw [Ag (by decide),Ag (show ¬ (jS P v u).length < 2 by omega),Ag (by decide)]
end Go.Proofs.YtiniigadkknboaaGreatDoor
