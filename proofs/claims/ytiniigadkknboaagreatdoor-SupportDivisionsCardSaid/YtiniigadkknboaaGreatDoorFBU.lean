/- Contracts and laws: FBU. -/
import Derived.Test.YtiniigadkknboaaGreatDoorFAQ
import Derived.Test.YtiniigadkknboaaGreatDoorFBS
import Derived.Test.YtiniigadkknboaaGreatDoorFAG
import Derived.Test.YtiniigadkknboaaGreatDoorFBF
import Derived.Deep.CutRange
import Derived.Test.YtiniigadkknboaaGreatDoorFAI
import Derived.Test.YtiniigadkknboaaGreatDoorFBT
import Derived.Test.YtiniigadkknboaaGreatDoorFBN

set_option maxRecDepth 100000
set_option maxHeartbeats 16000000
namespace Go.Proofs.YtiniigadkknboaaGreatDoor
open Go.RowKit Go.Lib
attribute [local go_sem ↓] Go.wp_at_zero Go.wp_at_succ
theorem Ur (p x f y l:Int) (hp:Tz p) (hx:Tz x) (hf:Tz f) (hy:Tz y) (hl:Tz l) (h0:l≠0) (w:World) (hG:G w) :
 Calls Tryz.prog 135 #[.string (tx p),.string (tx x),.string (tx f),.string (tx y),.string (tx l)] w fun e w'=>e=.returned (.string (tx ((p * x - f * y).fdiv l)))∧Fr w w':=by
 have hp':Bn 2000 p:=hp
 have hx':Bn 2000 x:=hx
 have hf':Bn 2000 f:=hf
 have hy':Bn 2000 y:=hy
 have hl':Bn 2000 l:=hl
 have c1:=hZ (fun W (hW:G W)=>RQ 2000 2000 (by decide) (by decide) p x hp' hx' W hW)
 have c2:=hZ (fun W (hW:G W)=>RQ 2000 2000 (by decide) (by decide) f y hf' hy' W hW)
 have c3:=hZ (fun W (hW:G W)=>Wr 4000 (by decide) (p * x) (f * y) ((hp'.mul hx').mono (by decide)) ((hf'.mul hy').mono (by decide)) W hW)
 have c4:=hZ (fun W (hW:G W)=>Ut 4001 2000 (by decide) (by decide) (p * x - f * y) l (((hp'.mul hx').sub (hf'.mul hy')).mono (by decide)) hl' h0 W hW)
 clear hp hx hf hy hl hp' hx' hf' hy' hl' h0
 go_enter Tryz.func135,Tryz.ntmps135
 go_wp2_with fail
 refine (c1.out _ hG).mono ?_; rintro e w1 ⟨rfl,hf1⟩
 go_wp2_with fail
 refine (c2.out _ (hG.fr hf1)).mono ?_; rintro e w2 ⟨rfl,hf2⟩
 go_wp2_with fail
 refine (c3.out _ (hG.fr (hf1.trans hf2))).mono ?_; rintro e w3 ⟨rfl,hf3⟩
 go_wp2_with fail
 refine (c4.out _ (hG.fr ((hf1.trans hf2).trans hf3))).mono ?_; rintro e w4 ⟨rfl,hf4⟩
 go_wp2_with fail
 go_ret
 exact ⟨rfl,((hf1.trans hf2).trans hf3).trans hf4⟩
theorem Qb {m:List (List Int)} {s:EZ}:∀ {n c:Nat},c≤n→Kx m n=some s→∃ s1,Kx m c=some s1
 | 0,c,h,hs=>by obtain rfl:c=0:=by omega
                exact ⟨s,hs⟩
 | n+1,c,h,hs=>by
   by_cases e:c=n+1
   ·subst e; exact ⟨s,hs⟩
   ·rw [Kx] at hs
    obtain ⟨s1,h1,-⟩:=A1.1 hs
    exact Qb (by omega) h1
theorem Qa {m:List (List Int)} {s:EZ} {c:Nat} (h:Kx m c=some s) (hf:¬ s.piv.length < s.m.length):∀ k,Kx m (c+k)=some s
 | 0=>h
 | k+1=>by rw [show c+(k+1)=(c+k)+1 by omega,Kx,Qa h hf k,CP,Gx,Ae hf]
theorem VY {m:List (List Int)} {s sc:EZ} {n c:Nat} (hs:Kx m n=some s) (hc:c < n) (h:Kx m c=some sc):∃ s2,Kx m (c+1)=some s2∧Gx c sc=some s2:=by
 obtain ⟨s2,h2⟩:=Qb (c:=c+1) hc hs
 refine ⟨s2,h2, ?_⟩
 rw [Kx,h,CP] at h2
 exact h2
theorem TD {c:Nat} {s s2:EZ} (h:Gx c s=some s2) (h1:s.piv.length < s.m.length) (h2:HU s.m c s.piv.length=s.m.length):s2=s:=by
 unfold Gx at h
 rw [Ai h1,Ai h2] at h
 injection h with h; exact h.symm
theorem U3 {c:Nat} {s s2:EZ} (h:Gx c s=some s2) (h1:s.piv.length < s.m.length) (h2:HU s.m c s.piv.length≠s.m.length):WU s.m=true∧Tz s.last∧s.last≠0 ∧
 s2=⟨EM (ET s.m s.piv.length (HU s.m c s.piv.length)) (FH (ET s.m s.piv.length (HU s.m c s.piv.length)) s.piv.length c) s.last s.piv.length c s.m.length,s.piv ++ [c],
     FH (ET s.m s.piv.length (HU s.m c s.piv.length)) s.piv.length c,s.odd != decide (HU s.m c s.piv.length≠s.piv.length)⟩:=by
 unfold Gx at h
 rw [Ai h1,Ae h2] at h
 split at h
 ·rename_i h3
  injection h with h
  exact ⟨h3.1,h3.2.1,h3.2.2,h.symm⟩
 ·cases h
theorem U0 {m:List (List Int)} (h:WU m=true) {i:Nat} {r:List Int} (hi:m[i]?=some r):∀ x,x ∈ r→Tz x:=fun x hx=>
 AV (AF.1 (AF.1 h r (Af hi)) x hx)
theorem Wh {m:List (List Int)} {c k j:Nat} (h1:k≤j) (h2:j≤HU m c k) (h3:j < m.length) (hz:FH m j c=0):j+1≤HU m c k:=by
 by_cases e:j=HU m c k
 ·exfalso
  have:=Y3 (m:=m) (c:=c) (k:=k) (by omega) (by omega)
  rw [← e] at this
  exact this hz
 ·omega
theorem Wj {m:List (List Int)} {c k j:Nat} (h1:k≤j) (h2:j≤HU m c k) (h3:j < m.length) (hz:FH m j c≠0):j=HU m c k:=by
 by_cases e:j=HU m c k
 ·exact e
 ·exfalso
  have hlt:j - k < (m.drop k).findIdx fun r=>decide ((r[c]?).getD 0≠0):=by unfold HU at h2 e; omega
  have h4:=List.not_of_lt_findIdx hlt
  rw [List.getElem_drop] at h4
  have h5:=Jf (Bool.eq_false_iff.2 (by simpa using h4):decide ((m[k+(j - k)][c]?).getD 0≠0)=false)
  apply hz
  unfold FH E6
  rw [Ac h3]
  have:k+(j - k)=j:=by omega
  simp only [this] at h5
  exact Decidable.of_not_not h5
theorem Q7 {m:List (List Int)} {n k a:Nat} (h:Bq n m):Bq n (ET m k a):=by
 unfold ET; split
 ·exact h
 ·exact fun r hr=>h r (Pr hr)
theorem NR {p f l:Int} {xs ys:List Int} {n:Nat} (h1:xs.length=n) (h2:ys.length=n):(G8 p f l xs ys).length=n:=by
 unfold G8; rw [List.length_zipWith]; omega
theorem Uf {p f l:Int} {xs ys:List Int} {k:Nat} {x y:Int} (h1:xs[k]?=some x) (h2:ys[k]?=some y):(G8 p f l xs ys)[k]?=some (V8 p f l x y):=by
 unfold G8; rw [Hi,h1,h2]
theorem NU {m:List (List Int)} {n:Nat} (h:Bq n m) {p l:Int} {d c:Nat} (hd:d < m.length) (t:Nat):Bq n (EM m p l d c t):=fun r hr=>by
 obtain ⟨j,hj⟩:=BF.1 hr
 rw [MB] at hj
 split at hj
 ·obtain ⟨r0,h0,rfl⟩:=CD.1 hj
  exact NR (h r0 (Af h0)) (by unfold E6; rw [Ac hd]; exact h.row hd)
 ·exact h r (Af hj)
theorem Qn {m:List (List Int)} {p l:Int} {d c t j:Nat} (h:t≤j∨j=d):E6 (EM m p l d c t) j=E6 m j:=by
 unfold E6; rw [MB,Ae (by omega)]
theorem Ui {m:List (List Int)} {p l:Int} {d c:Nat}:EM m p l d c (d+1)=EM m p l d c d:=by rw [EM,Ai rfl]
theorem Uh {m:List (List Int)} {p l:Int} {d c i:Nat} (h:i≠d):EM m p l d c (i+1)=(EM m p l d c i).set i (G8 p (FH (EM m p l d c i) i c) l (E6 (EM m p l d c i) i) (E6 (EM m p l d c i) d)):=by rw [EM,Ae h]
theorem JC {m:List (List Int)} {i:Nat} (h:i < m.length):E6 m i=m[i]:=by unfold E6; rw [Ac h]; rfl
theorem M3 {α:Type} (zs xs:List α) (k:Nat) (h1:zs.length≤k) (h2:xs.length≤k):zs.take k ++ xs.drop k=zs:=by
 rw [Ap h1,Aar h2,Cc]
theorem MH.refl (ob:Nat) (a:List (Nat×Nat×Nat)):MH ob a a:=⟨fun _=>Iff.rfl,fun _ h=>h⟩
theorem UZ {m:List (List Int)} {k a:Nat} (h:WU m=true):WU (ET m k a)=true:=by
 unfold ET; split
 ·exact h
 ·exact AF.2 fun r hr=>AF.1 h r (Pr hr)
theorem VV {m:List (List Int)} {n i c:Nat} (h:WU m=true) (hr:Bq n m) (hi:i < m.length) (hc:c < n):Tz (FH m i c) :=
 U0 h (Ac hi) _ (Af (Fm hr hi hc))
theorem Sx {m:List (List Int)} {i:Nat} (h:WU m=true) (hi:i < m.length):∀ x,x ∈ E6 m i→Tz x:=by
 rw [JC hi]; exact U0 h (Ac hi)
theorem Fx.grownE {p:Nat→Prop} {a b c:World} {row:Option Nat} (h:Fx p a b) (hg:b.grownBy c row) (hr:∀ k,row=some k→a.heap.size≤k):Fx p a c:=by
 have k:=Fx.of_grown hg
 exact ⟨k.os.trans h.os,k.tape.trans h.tape,k.output.trans h.output,Ar h.size k.size,fun q h1 h2=>(k.block q (An h1 h.size) (fun e=>by have:=hr q e; omega)).trans (h.block q h1 h2)⟩
def XV (w:World) (ob oo n L:Nat) (hs:List (Nat×Nat×Nat)) (s:EZ) (e:Ending) (w':World):Prop :=
 ∃ a c hs',e=.returned (.tuple #[.slice a s.piv.length c,.string (tx s.last),.bool s.odd])∧El w' iv a (s.piv.map fun k:Nat=>(k:Int))∧Bx w' ob oo hs' s.m∧Bq n s.m∧s.m.length=L∧MH ob hs' hs∧Fx (gb ob hs) w w'
theorem WF (ob oo cap n nc:Nat) (hs:List (Nat×Nat×Nat)) (g:List (List Int)) (s:EZ) (w:World) (hG:G w) (hg:Bx w ob oo hs g) (hr:Bq n g) (hnc:nc≤n) (hn:n≤1000) (hl:g.length≤1000) (hz:Kx g nc=some s) :
 Calls Tryz.prog 85 #[.slice (some ⟨ob,oo,none⟩) g.length cap,.int .i64 nc] w (XV w ob oo n g.length hs s):=by
 have hgn:=Fe hG
 obtain ⟨i1,ji,jz0,jz1,jz2⟩:=A5 CX
 have hG1:=hZ hG
 have hge0:=hZ hg.ge
 have hoblt:=hg.outer
 have hbl0:Hid (∀ k,gb ob hs k→k < w.heap.size):=by
  rintro k (rfl | ⟨hd,hm,rfl⟩)
  ·exact hoblt
  ·obtain ⟨i,hi⟩:=Bz hm
   have hlt:i < g.length:=by rw [← hg.len]; exact (Ag.1 hi).1
   exact (hg.row i hd _ hi (Ac hlt)).1.2.1
 obtain ⟨L,hL⟩:∃ L,L=g.length:=⟨_,rfl⟩
 rw [← hL] at hl ⊢
 have hz1:=hZ hz
 have h00:Kx g 0=some ⟨g,[],1,false⟩:=rfl
 replace hz:=hZ hz
 replace hG:=hZ hG
 replace hg:=hZ hg
 replace hr:=hZ hr
 replace hL:=hZ hL
 replace h00:=hZ h00
 clear hG hz
 go_enter Tryz.func85,Tryz.ntmps85
 go_wp2_with fail
 go_loopg [7,8,9,10] nc (fun k s7 s8 s9 s10 wr=>∃ (c q:Nat) (sc:EZ) (hsX:List (Nat×Nat×Nat)),s10=.int .i64 c∧c+k=nc∧Hid (Kx g c=some sc)∧s8=.string (tx sc.last)∧s9=.bool sc.odd∧Hid (q=sc.piv.length)∧Hid (wr.ownsRow w.heap.size 3 1 s7 q (sc.piv.map fun k:Nat=>iv k))∧Hid (Bx wr ob oo hsX sc.m)∧Hid (Bq n sc.m)∧Hid (sc.m.length=L)∧Hid (MH ob hsX hs)∧Fx (gb ob hs) w wr)
 case atStart=>exact ⟨0,0,⟨g,[],1,false⟩,hs,rfl,by omega,h00.out,by rw [show tx 1=⟨#[49]⟩ from FP],rfl,rfl,Br _ _ _ _,hg.out,hr.out,hL.out.symm,MH.refl _ _,Fx.refl _ _⟩
 case round=>
  obtain ⟨c,q,sc,hsX,rfl,hck,hsc,rfl,rfl,hq,hown,hgr,hrr,hlen,hsm,hfx⟩:=hrel
  have hqc:q≤c:=by rw [hq.out]; exact S0 hsc.out
  have zq:(0:Int)≤(q:Int):=Ak _
  have zc:(0:Int)≤(c:Int):=Ak _
  obtain ⟨a7,c7,rfl⟩:∃ a7 c7,u7=.slice a7 q c7:=by
   rcases hown.out.2 with ⟨h1,h2⟩ | ⟨g',cap',cur',hv,_⟩
   ·rw [h1,h2]; exact ⟨_,_,rfl⟩
   ·exact ⟨_,_,hv⟩
  by_cases hcn:c < nc
  ·have dcn:decide (c < nc)=true:=Ab hcn
   by_cases hqL:q < L
   ·have dqL:decide (q < L)=true:=Ab hqL
    obtain ⟨s2,hs2,hst⟩:=VY hz1.out hcn hsc.out
    obtain ⟨A,hA⟩:∃ A,A=HU sc.m c q:=⟨_,rfl⟩
    have hAle:=Wi sc.m c q (by rw [hlen.out]; omega)
    rw [← hA,hlen.out] at hAle
    replace hs2:=hZ hs2
    replace hst:=hZ hst
    replace hA:=hZ hA
    obtain ⟨wo,rfl⟩:∃ wo:World,wo=wr:=⟨_,rfl⟩
    obtain ⟨ko,rfl⟩:∃ ko:Nat,ko=gk:=⟨_,rfl⟩
    go_wp2_with fail
    go_loopg [12] (L - q) (fun k WV wr2=>∃ j:Nat,WV=.int .i64 j∧j+k=L∧q≤j∧j≤A∧wo=wr2)
    case atStart=>exact ⟨q,rfl,by omega,Ah _,hAle.1,rfl⟩
    case round=>
     obtain ⟨j,rfl,hjk,hqj,hjA,rfl⟩:=hrel
     by_cases hjL:j < L
     ·have hjg:j < sc.m.length:=by rw [hlen.out]; exact hjL
      obtain ⟨b1,o1,k1,e1,ca1,cf1,ro1,bo1⟩:=hgr.out.at hjg
      have ce1:=(ro1.2.2 c _ (Fm hrr.out hjg (by omega))).1
      rw [hrr.out.row hjg] at ca1
      have zj0:(0:Int)≤(j:Int):=Ak _
      have zj1:(j:Int) < (L:Int):=by omega
      have zcn:(c:Int) < (n:Int):=by omega
      have dj:decide ((j:Int) < (L:Int))=true:=Ab zj1
      clear ro1
      by_cases h0:Aw sc.m j c=0
      ·have hb:((tx (Aw sc.m j c)).toList == [48])=true:=by rw [B8]; exact Ab h0
       have hA1:=Wh hqj (by rw [← hA.out]; exact hjA) hjg h0
       rw [← hA.out] at hA1
       replace h0:=hZ h0
       go_wp2_with fail
       go_roundg (gk - 1)
       case measure=>omega
       case rel=>exact ⟨j+1,by go_num,by omega,by omega,hA1,rfl⟩
      ·have hb:((tx (Aw sc.m j c)).toList == [48])=false:=by rw [B8]; exact Aa h0
       have hjA2:=(Wj hqj (by rw [← hA.out]; exact hjA) hjg h0).trans hA.out.symm
       obtain ⟨hti,htl,hl0,hs2e⟩:=U3 hst.out (by rw [hlen.out,← hq.out]; exact hqL) (by rw [← hq.out,← hA.out,hlen.out]; omega)
       rw [← hq.out,← hA.out,hlen.out,← hjA2] at hs2e
       obtain ⟨mX,hmX⟩:∃ mX,mX=ET sc.m q j:=⟨_,rfl⟩
       obtain ⟨oX,hoX⟩:∃ oX,oX=(sc.odd != decide (j≠q)):=⟨_,rfl⟩
       rw [← hmX,← hoX] at hs2e
       have hRX:Bq n mX:=by rw [hmX]; exact Q7 hrr.out
       have hLX:mX.length=L:=by rw [hmX,Np]; exact hlen.out
       have htX:WU mX=true:=by rw [hmX]; exact UZ hti
       have hp0:FH mX q c≠0:=by rw [hmX,TA (by rw [hlen.out]; exact hqL) hjg]; exact h0
       have hel:((j:Int) == (L:Int))=false:=Ba (by omega)
       replace hs2e:=hZ hs2e
       replace h0:=hZ h0
       replace hjA2:=hZ hjA2
       clear hti
       go_upto_if 54 with (fail)
       go_cut [9] from 17 to 131 (fun s9 wc=>∃ hsY:List (Nat×Nat×Nat),s9=.bool oX∧Hid (Bx wc ob oo hsY mX)∧Hid (MH ob hsY hs)∧Fx (gb ob hs) wo wc)
       case first=>
        by_cases hjq:j=q
        ·have hm2:mX=sc.m:=by rw [hmX]; unfold ET; rw [Ai hjq]
         have ho2:oX=sc.odd:=by rw [hoX,Aa (by simp [hjq])]; simp
         have hne:((j:Int) != (q:Int))=false:=by rw [hjq]; simp
         replace hm2:=hZ hm2
         replace ho2:=hZ ho2
         replace hjq:=hZ hjq
         clear hmX hoX
         go_wp2_with fail
         go_meet
         case rel=>exact ⟨hsX,by rw [ho2.out],by show Bx _ _ _ _ _; rw [hm2.out]; exact hgr.out,hsm.out,Fx.refl _ _⟩
        ·have hm2:mX=Ep sc.m j q:=by rw [hmX]; unfold ET; rw [Ae hjq]
         have ho2:oX=!sc.odd:=by rw [hoX,Ab hjq]; simp
         have hne:((j:Int) != (q:Int))=true:=by rw [Bb]; omega
         have hqg:q < sc.m.length:=by rw [hlen.out]; exact hqL
         obtain ⟨b2,o2,k2,e2,ca2,cf2,-,-⟩:=hgr.out.at hqg
         rw [hrr.out.row hqg] at ca2
         have hg1:=Ac hjg
         have hg2:=Ac hqg
         have hsw:=hgr.out.swap e1 e2 hg1 hg2 hjq
         rw [hrr.out.row hjg,hrr.out.row hqg] at hsw
         have hsmY:=hZ (show MH ob (Ep hsX j q) hs from ⟨fun k=>(VP e1 e2 k).trans (hsm.out.1 k),fun h hm=>hsm.out.2 h (So hm)⟩)
         rw [← hm2] at hsw
         have hfS:Fx (gb ob hs) wo ((wo.setCell ⟨ob,oo+j,none⟩ (.slice (some ⟨b2,o2,none⟩) n k2)).setCell ⟨ob,oo+q,none⟩ (.slice (some ⟨b1,o1,none⟩) n k1)):=Fx.setCell (p:=gb ob hs) (q:=⟨ob,oo+q,none⟩) (Fx.setCell (p:=gb ob hs) (q:=⟨ob,oo+j,none⟩) (Fx.refl _ wo) (.inl (.inl rfl)) _) (.inl (.inl rfl)) _
         have ca3:(wo.setCell ⟨ob,oo+j,none⟩ (.slice (some ⟨b2,o2,none⟩) n k2)).cell? ⟨ob,oo+q,none⟩=some (.slice (some ⟨b2,o2,none⟩) n k2):=by
          rw [Ad _ _ _ _ (fun e=>by injection e with _ e; omega)]; exact ca2
         have zq1:(q:Int) < (L:Int):=by omega
         replace hsw:=hZ hsw
         replace hfS:=hZ hfS
         replace hjq:=hZ hjq
         replace ho2:=hZ ho2
         replace e1:=hZ e1
         replace e2:=hZ e2
         replace hg1:=hZ hg1
         replace hg2:=hZ hg2
         clear hmX hoX hm2
         go_wp2_with fail
         go_region
         go_wp2_with fail
         go_meet
         case rel=>exact ⟨Ep hsX j q,by rw [ho2.out],hsw.out.fr (Fr.refl _).drew,hsmY.out,hfS.out.drew⟩
       case rest=>
        obtain ⟨hsY,rfl,hgY,hsmY,hfY⟩:=hcut
        have hqX:q < mX.length:=by rw [hLX]; exact hqL
        obtain ⟨bd,od,kd,ed,cad,cfd,rod,bod⟩:=hgY.out.at hqX
        rw [hRX.row hqX] at cad
        have ced:=(rod.2.2 c _ (Fm hRX hqX (by omega))).1
        obtain ⟨p,hp⟩:∃ p,p=FH mX q c:=⟨_,rfl⟩
        have htp:Tz p:=by rw [hp]; exact VV htX hRX hqX (by omega)
        rw [show Aw mX q c=p from hp.symm] at ced
        rw [← hp] at hp0
        have hs3e:=hs2e.out
        rw [← hp] at hs3e
        have zq1:(q:Int) < (L:Int):=by omega
        have hcl0:Hid (Bx wc ob oo hsY (EM mX p sc.last q c 0)):=hgY.out
        have hownY:=hZ (BG hown.out hfY (fun g hg e=>by have h1:=(hown.out.lt g hg).1; have h2:=hbl0.out g e; omega))
        have hfwY:=hfx.trans hfY
        replace hs3e:=hZ hs3e
        replace hp:=hZ hp
        replace hmX:=hZ hmX
        replace hoX:=hZ hoX
        replace hRX:=hZ hRX
        replace htX:=hZ htX
        replace ed:=hZ ed
        clear rod hown hfx hfY hgr ca1 cf1 ce1 e1 dj cfd
        obtain ⟨wd,rfl⟩:∃ wd:World,wd=wc:=⟨_,rfl⟩
        go_wp2_with fail
        go_loopg [14] L (fun k s14 wr3=>∃ i:Nat,s14=.int .i64 i∧i+k=L∧Hid (Bx wr3 ob oo hsY (EM mX p sc.last q c i))∧Fx (gb ob hs) wd wr3)
        case atStart=>exact ⟨0,rfl,by omega,hcl0,Fx.refl _ _⟩
        case round=>
         clear hcl0 cad ced
         obtain ⟨i,rfl,hik,hgi,hfi⟩:=hrel
         have zi0:(0:Int)≤(i:Int):=Ak _
         by_cases hiL:i < L
         ·have zi1:(i:Int) < (L:Int):=by omega
          have di:decide (i < L)=true:=Ab hiL
          by_cases hiq:i=q
          ·have hqq:((i:Int) == (q:Int))=true:=by rw [hiq]; simp
           have hsk:Hid (Bx wr ob oo hsY (EM mX p sc.last q c (i+1))):=by
            show Bx _ _ _ _ _
            have h9:=hgi.out; rw [hiq] at h9; rw [hiq,Ui]; exact h9
           replace hiq:=hZ hiq
           go_wp2_with fail
           go_roundg (gk - 1)
           case measure=>omega
           case rel=>exact ⟨i+1,by go_num,by omega,hsk.out,hfi⟩
          ·have hqq:((i:Int) == (q:Int))=false:=Ba (by omega)
           have hstep:=hZ (Uh (m:=mX) (p:=p) (l:=sc.last) (d:=q) (c:=c) hiq)
           have hRi:Bq n (EM mX p sc.last q c i):=NU hRX.out hqX i
           have hLi:(EM mX p sc.last q c i).length=L:=(Hb _ _ _ _ _ _).trans hLX
           have ho1:=Qn (m:=mX) (p:=p) (l:=sc.last) (d:=q) (c:=c) (t:=i) (j:=i) (.inl (Ah i))
           have ho2:=Qn (m:=mX) (p:=p) (l:=sc.last) (d:=q) (c:=c) (t:=i) (j:=q) (.inr rfl)
           generalize hgic:EM mX p sc.last q c i=gi at *
           have hiX:i < gi.length:=by rw [hLi]; exact hiL
           have hqX2:q < gi.length:=by rw [hLi]; exact hqL
           obtain ⟨bi,oi,ki,ei,cai,cfi,roi,boi⟩:=hgi.out.at hiX
           obtain ⟨bd',od',kd',ed',cad,cfd,rod,bod'⟩:=hgi.out.at hqX2
           rw [ed.out] at ed'
           injection ed' with ed'
           injection ed' with g1 g2
           injection g2 with g2 g3
           subst g1; subst g2; subst g3
           have hne:bi≠bd:=hgi.out.apart i q _ _ ei ed.out hiq
           have cei:=(roi.2.2 c _ (Fm hRi hiX (by omega))).1
           have hfti:Tz (FH gi i c):=by
            have:FH gi i c=FH mX i c:=by unfold FH; rw [ho1]
            rw [this]; exact VV htX.out hRX.out (by omega) (by omega)
           rw [hRi.row hiX] at cai
           rw [hRi.row hqX2] at cad
           have hxl:(E6 gi i).length=n:=by rw [JC hiX]; exact hRi.row hiX
           have hyl:(E6 gi q).length=n:=by rw [JC hqX2]; exact hRi.row hqX2
           rw [← JC hiX] at roi
           rw [← JC hqX2] at rod
           have hxt:∀ x,x ∈ E6 gi i→Tz x:=by rw [ho1]; exact Sx htX.out (by omega)
           have hyt:∀ x,x ∈ E6 gi q→Tz x:=by rw [ho2]; exact Sx htX.out (by omega)
           change wr.cell? ⟨bi,oi+c,none⟩=some (sv (FH gi i c)) at cei
           obtain ⟨f,hf⟩:∃ f,f=FH gi i c:=⟨_,rfl⟩
           rw [← hf] at cei hfti hstep
           generalize E6 gi i=xs at *
           generalize E6 gi q=ys at *
           obtain ⟨zs,hzs⟩:∃ zs,zs=G8 p f sc.last xs ys:=⟨_,rfl⟩
           rw [← hzs] at hstep
           have hzl:zs.length=n:=by rw [hzs]; exact NR hxl hyl
           have hzg:=fun u x y (h1:xs[u]?=some x) (h2:ys[u]?=some y)=>show zs[u]?=some ((p * x - f * y).fdiv sc.last) from by rw [hzs]; exact Uf h1 h2
           have hG3:=hZ ((hG1.out.fx hfwY hge0.out).fx hfi hge0.out)
           have hbig:=hge0.out bi (((hsmY.out.1 bi).1) (.inr ⟨_,Af ei,rfl⟩))
           replace hf:=hZ hf
           replace hzs:=hZ hzs
           replace hzl:=hZ hzl
           replace hzg:=hZ hzg
           replace hxl:=hZ hxl
           replace hyl:=hZ hyl
           replace hxt:=hZ hxt
           replace hyt:=hZ hyt
           replace ei:=hZ ei
           replace hRi:=hZ hRi
           replace hLi:=hZ hLi
           replace hgic:=hZ hgic
           replace hiq:=hZ hiq
           replace rod:=hZ rod
           clear ho1 ho2
           have hroi:Hid (EN wr bi oi (zs.take 0 ++ xs.drop 0)):=roi
           clear roi
           obtain ⟨wv,rfl⟩:∃ wv:World,wv=wr:=⟨_,rfl⟩
           obtain ⟨kv,rfl⟩:∃ kv:Nat,kv=gk:=⟨_,rfl⟩
           go_wp2_with fail
           go_loopg [16] n (fun k s16 wr4=>∃ u:Nat,s16=.int .i64 u∧u+k=n∧Hid (EN wr4 bi oi (zs.take u ++ xs.drop u))∧Fx (·=bi) wv wr4)
           case atStart=>exact ⟨0,rfl,by omega,hroi.out,Fx.refl _ _⟩
           case round=>
            clear hroi
            obtain ⟨u,rfl,huk,hown4,hf4⟩:=hrel
            have cai4:=hf4.keep cai (fun e=>boi e.symm)
            have cfi4:=hf4.keepf cai cfi (fun e=>boi e.symm)
            have cad4:=hf4.keep cad (fun e=>boi e.symm)
            have zu0:(0:Int)≤(u:Int):=Ak _
            by_cases hun:u < n
            ·have zu1:(u:Int) < (n:Int):=by omega
             have dun:decide (u < n)=true:=Ab hun
             obtain ⟨x,hx⟩:∃ x,xs[u]?=some x:=⟨_,Ac (by rw [hxl.out]; exact hun)⟩
             obtain ⟨y,hy⟩:∃ y,ys[u]?=some y:=⟨_,Ac (by rw [hyl.out]; exact hun)⟩
             obtain ⟨x1,x2⟩:=hown4.out.2.2 u x (by rw [Ly zs xs u (by rw [hzl.out,hxl.out]) (by rw [hxl.out]; exact hun)]; exact hx)
             have y1:=((rod.out.fx hf4 (fun e=>hne e.symm)).2.2 u y hy).1
             have hz:=hzg.out u x y hx hy
             have hms:=Lx zs xs u (by rw [hzl.out,hxl.out]) (by rw [hxl.out]; exact hun) _ hz
             have hco:=hZ (fun W (hW:G W)=>Ur p x f y sc.last htp (hxt.out x (Af hx)) hfti (hyt.out y (Af hy)) htl hl0 W hW)
             have hGv:=hZ (hG3.out.fx hf4 (fun k e=>by rw [show k=bi from e]; exact hbig))
             have hS0:=hZ (fun W' (hW':Fr wr W')=>(⟨hW'.keep cai4,hW'.keep x1,hW'.keep cad4,hW'.keep y1⟩:W'.cell? ⟨ob,oo+i,none⟩=some (.slice (some ⟨bi,oi,none⟩) n ki)∧W'.cell? ⟨bi,oi+u,none⟩=some (sv x)∧W'.cell? ⟨ob,oo+q,none⟩=some (.slice (some ⟨bd,od,none⟩) n kd)∧W'.cell? ⟨bd,od+u,none⟩=some (sv y)))
             replace hx:=hZ hx
             replace hy:=hZ hy
             replace hz:=hZ hz
             replace hms:=hZ hms
             go_wp2_with fail
             refine Da (S:=fun W'=>W'.cell? ⟨ob,oo+i,none⟩=some (.slice (some ⟨bi,oi,none⟩) n ki)∧W'.cell? ⟨bi,oi+u,none⟩=some (sv x)∧W'.cell? ⟨ob,oo+q,none⟩=some (.slice (some ⟨bd,od,none⟩) n kd)∧W'.cell? ⟨bd,od+u,none⟩=some (sv y)) 24 (by kernel_rfl) (hS0.out _ ((Fr.refl _).drew)) (fun hHeld=>?_)
             refine uK 0 ?_
             refine uK 1 ?_
             refine uK 2 ?_
             refine uK 3 ?_
             refine uK 4 ?_
             refine uK 5 ?_
             refine uK 6 ?_
             refine uK 7 ?_
             refine uK 8 ?_
             refine uK 9 ?_
             refine uK 10 ?_
             refine uK 11 ?_
             refine uK 12 ?_
             refine uK 13 ?_
             refine uK 14 ?_
             refine uK 15 ?_
             refine uK 16 ?_
             refine uK 17 ?_
             refine uK 18 ?_
             refine uK 19 ?_
             refine uK 20 ?_
             refine uK 21 ?_
             refine uC 22 (fun K hK=>?_)
             go_simp
             (refine (hco.out _ (hGv.out.fr (by exact BU))).mono ?_; rintro e w6 ⟨rfl,hf6⟩)
             go_wp2_with fail
             refine hK.out _ _ (hS0.out _ (by exact BU)) (fun hHeld=>?_)
             clear hK K
             refine uK 23 ?_
             have hfr8:Fr wr w6:=by exact BU
             have z1:=hfr8.keep x1
             have z2:=hfr8.keepf x1 x2
             clear hHeld
             refine uL 24 (fun K hK=>?_)
             go_simp
             refine hK.out _ _ ?_
             clear hK K
             have hown8:=(hown4.out.fr hfr8).set (k:=u) (by rw [AB,Av,CS,hxl.out,hzl.out]; omega) ((p * x - f * y).fdiv sc.last)
             rw [hms.out] at hown8
             have hf8x:=(hf4.fr hfr8).setCell (q:=⟨bi,oi+u,none⟩) (.inl rfl) (sv ((p * x - f * y).fdiv sc.last))
             replace hown8:=hZ hown8
             clear z1 z2
             go_wp2_with fail
             go_roundg (gk - 1)
             case measure=>omega
             case rel=>exact ⟨u+1,by go_num,by omega,hown8.out,hf8x⟩
            ·have dun:decide (u < n)=false:=Aa hun
             obtain rfl:u=n:=by omega
             have hown8:=hown4.out
             rw [M3 _ _ _ (by rw [hzl.out]; exact Ah _) (by rw [hxl.out]; exact Ah _)] at hown8
             have hset:=hgi.out.setRow ei.out hf4 hown8 (fun r h=>by rw [Ac hiX] at h; injection h with h; rw [hzl.out,← h]; exact (hRi.out.row hiX).symm)
             rw [← hstep.out] at hset
             have hfset:=hfi.trans (hf4.mono (fun k e=>by rw [show k=bi from e]; exact (hsmY.out.1 bi).1 (.inr ⟨_,Af ei.out,rfl⟩)))
             replace hset:=hZ hset
             clear hown8 hown4
             go_wp2_with fail
             go_roundg (kv - 1)
             case measure=>omega
             case rel=>exact ⟨i+1,by go_num,by omega,hset.out,hfset⟩
         ·have di:decide (i < L)=false:=Aa hiL
          obtain rfl:i=L:=by omega
          have hown3:=BG hownY.out hfi (fun g hg e=>by have h1:=(hownY.out.lt g hg).1; have h2:=hbl0.out g e; omega)
          have hfw:=hfwY.trans hfi
          have hszw:=hfw.size
          replace hown3:=hZ hown3
          go_wp2_with (at_builtin; refine wpList_append_lies _ rfl _ _ 23 (by rfl) _ 3 _ _ 1 8 Tryz.underlying23 ji jz0 jz1 jz2 rfl (by decide) _ q _ (by rfl) (AA hown3.out _) ⟨wr.heap.size,0,none⟩ 1 1 [.int .i64 c] (by rfl) rfl (AN _ _ _ _ (by simp)) (by simp [Value.oneCell']) (by decide) (by unfold maxLen; omega) (by omega) (by skip; simp; omega) (wr.heap.size+1) (by simp) ?_; intro gA capA wA hownA hgrowA hatA hltA)
          have hgA:=((hgi.out.fr ((Fr.refl wr).alloc (.cells #[.int .i64 c] 3))).fx (Fx.of_grown hgrowA) (fun k hk e=>by have h1:=(hown3.out.lt k e).1; have h2:=hbl0.out k ((hsmY.out.1 k).1 hk); omega))
          have hfA:=(hfw.alloc (.cells #[.int .i64 c] 3)).grownE hgrowA (fun k e=>(hown3.out.lt k e).1)
          go_roundg (ko - 1)
          case measure=>omega
          case rel=>
           have h3:=hs3e.out
           subst h3
           refine ⟨c+1,q+1,_,hsY,by go_num,by omega,hs2.out,by show _=sv p; rfl,by show _=Value.bool oX; rfl, ?_, ?_,hgA, ?_, ?_,hsmY.out,hfA⟩
           ·show q+1=_
            rw [AB,hq.out]; rfl
           ·show World.ownsRow _ _ _ _ _ _ _
            rw [AD]; exact hownA
           ·exact NU hRX.out hqX _
           ·show _=_
            rw [Hb]; exact hLX
     ·have dj:decide ((j:Int) < (L:Int))=false:=Aa (by omega)
      obtain rfl:j=L:=by omega
      have hel:((j:Int) == (j:Int))=true:=by simp
      have hs2e:=TD hst.out (by rw [hlen.out,← hq.out]; exact hqL) (by rw [← hq.out,← hA.out,hlen.out]; omega)
      have hs2:=hs2.out
      rw [hs2e] at hs2
      replace hs2:=hZ hs2
      replace hs2e:=hZ hs2e
      go_wp2_with fail
      go_roundg (ko - 1)
      case measure=>omega
      case rel=>exact ⟨c+1,q,sc,hsX,by go_num,by omega,hs2.out,rfl,rfl,hq.out,hown.out,hgr.out,hrr.out,hlen.out,hsm.out,hfx⟩
   ·have dqL:decide (q < L)=false:=Aa hqL
    have hfin:=Qa hsc.out (by rw [hlen.out,← hq.out]; exact hqL) (nc - c)
    rw [show c+(nc - c)=nc by omega,hz1.out] at hfin
    injection hfin with hfin
    obtain ⟨a9,c9,hv9,hel9⟩:=Nx (show wr.ownsRow w.heap.size 3 1 (.slice a7 q c7) q ((sc.piv.map fun k:Nat=>(k:Int)).map iv) by rw [Aaq]; exact hown.out)
    injection hv9 with hv1 hv2 hv3
    subst hv1; subst hv3
    replace hfin:=hZ hfin
    go_wp2_with fail
    go_ret3
    rw [hfin.out]
    exact ⟨a7,c7,hsX,by rw [← hq.out]; rfl,hel9,hgr.out,hrr.out,hlen.out,hsm.out,hfx⟩
  ·have dcn:decide (c < nc)=false:=Aa hcn
   obtain rfl:c=nc:=by omega
   have hfin:s=sc:=by have:=hsc.out; rw [hz1.out] at this; injection this
   obtain ⟨a9,c9,hv9,hel9⟩:=Nx (show wr.ownsRow w.heap.size 3 1 (.slice a7 q c7) q ((sc.piv.map fun k:Nat=>(k:Int)).map iv) by rw [Aaq]; exact hown.out)
   injection hv9 with hv1 hv2 hv3
   subst hv1; subst hv3
   replace hfin:=hZ hfin
   go_wp2_with fail
   go_ret3
   rw [hfin.out]
   exact ⟨a7,c7,hsX,by rw [← hq.out]; rfl,hel9,hgr.out,hrr.out,hlen.out,hsm.out,hfx⟩

theorem XM (m:List (List Int)) (n:Nat) (s:EZ) (a:Option Addr) (cap:Nat) (w:World) (hG:G w) (hm:A2 w a m) (hr:Bq n m) (hn1:1≤n) (hn:n≤1000) (hl1:1≤m.length) (hl:m.length≤1000) (hb:∀ r,r ∈ m→∀ x,x ∈ r→Sm x) (hz:Kx m n=some s) :
 Calls Tryz.prog 47 #[.slice a m.length cap] w fun e w'=>e=.returned (.int .i64 s.piv.length)∧Fr w w':=by
 have hbig:=hZ (fun W (hW:Fr w W)=>Wc m a cap n W (hG.fr hW) (hm.fr hW) hr hn1 (by omega) (by omega) hb)
 have hcol:∀ W,Fr w W→Calls Tryz.prog 87 #[.slice a m.length cap] W fun e w'=>e=.returned (.int .i64 n)∧W=w':=fun W hW=>by
  match m,hl1,hr,hm with
  | r :: m',_,hr,hm=>
    have:=QM r m' a cap W (hm.fr hW)
    rw [hr r Cz] at this
    exact this
 have hel:=fun ob c hs W (hW:G W) (h:Bx W ob 0 hs m)=>WF ob 0 c n n hs m s W hW h hr (Ah _) hn hl hz
 obtain ⟨L,hL⟩:∃ L,L=m.length:=⟨_,rfl⟩
 rw [← hL] at hl1 hbig hcol hel ⊢
 replace hcol:=hZ hcol
 replace hel:=hZ hel
 have hG1:=hZ hG
 replace hL:=hZ hL
 clear hm hb hG
 go_enter Tryz.func47,Tryz.ntmps47
 go_wp2_with fail
 refine (hbig.out _ (Fr.refl _)).mono ?_
 rintro e w1 ⟨v,hs,rfl,hgg,hrw,hnew,hf1⟩
 obtain ⟨gb1,cb1,rfl⟩:=Db hgg.own (by rw [← hL.out]; omega)
 obtain ⟨hgr,-,hge,-⟩:=hgg.grid
 rw [← hL.out]
 have he:=hZ (hel.out gb1 cb1 hs w1 (hG1.out.fr hf1) hgr)
 have hbl:Hid (∀ k,gb gb1 hs k→w.heap.size≤k):=by
  rintro k (rfl | ⟨hd,hm2,rfl⟩)
  ·exact hge
  ·exact hnew.out hd hm2
 replace hgg:=hZ hgg
 replace hgr:=hZ hgr
 replace hrw:=hZ hrw
 go_wp2_with fail
 refine (hcol.out _ hf1).mono ?_
 rintro e w2 ⟨rfl,rfl⟩
 go_wp2_with fail
 refine he.out.mono ?_
 rintro e w3 ⟨a3,c3,hs3,rfl,-,-,-,-,-,hfx⟩
 go_wp2_with fail
 go_ret
 exact ⟨rfl,((Fx.of_fr hf1).trans (hfx.mono hbl.out)).toFr (fun k hk e=>by omega)⟩
abbrev CH (v:List Int) (k:Nat):Int:=(v[k]?).getD 0
theorem Z6 {x:Int} (h:x.natAbs≤4000000000000000000):Tz x:=tzR (A8 h (by decide +kernel))
theorem OP {v:List Int} {B:Nat} (h:∀ x,x ∈ v→x.natAbs≤B) (k:Nat):(CH v k).natAbs≤B:=by
 unfold CH
 cases e:v[k]? with
 | none=>simp
 | some x=>exact h x (Af e)
theorem V6 {v u:List Int} {n:Nat} (hv:v.length=n) (hu:u.length=n) (p f:Int) {k:Nat} (hk:k < n):CH (G8 p f 1 u v) k=p * CH u k - f * CH v k:=by
 unfold CH G8
 rw [Hi,Ac (show k < u.length by omega),Ac (show k < v.length by omega)]
 show V8 p f 1 _ _=_
 unfold V8
 rw [MS]; rfl
theorem Sl {v u:List Int} (hv:∀ x,x ∈ v→x.natAbs≤4000000000000000000) (hu:∀ x,x ∈ u→x.natAbs≤4000000000000000000):WU [v,u]=true:=by
 unfold WU
 simp only [List.all_cons,List.all_nil,Bool.and_true,Bt]
 exact ⟨AF.2 fun x hx=>Ab (Z6 (hv x hx)),AF.2 fun x hx=>Ab (Z6 (hu x hx))⟩
theorem SZ {v u:List Int} {n:Nat} (hv:v.length=n) (hu:u.length=n) (hvf:∀ x,x ∈ v→x.natAbs≤1000000000) (huf:∀ x,x ∈ u→x.natAbs≤1000000000) (h0:CH v 0≠0):∀ c,c+1≤n →
 (Kx [v,u] (c+1)=some ⟨[v,G8 (CH v 0) (CH u 0) 1 u v],[0],CH v 0,false⟩∧∀ k,k≤c→CH v 0 * CH u k=CH u 0 * CH v k) ∨
 (∃ s,Kx [v,u] (c+1)=some s∧s.piv.length=2∧s.m.length=2∧∃ k,k≤c∧CH v 0 * CH u k≠CH u 0 * CH v k)
 | 0,_=>.inl ⟨by
    have ha:HU [v,u] 0 0=0:=by
     unfold HU
     rw [Fw,List.findIdx_cons,Ab h0]; rfl
    show Gx 0 ⟨[v,u],[],1,false⟩=_
    unfold Gx
    rw [Ai (show ([]:List Nat).length < [v,u].length by simp)]
    show (if HU [v,u] 0 0=2 then _ else _)=_
    rw [Ae (by rw [ha]; decide),Ai ⟨Sl (fun x hx=>by have:=hvf x hx; omega) (fun x hx=>by have:=huf x hx; omega),Z6 (show (1:Int).natAbs≤_ by decide),show (1:Int)≠0 by decide⟩]
    show some (EZ.mk (EM (ET [v,u] 0 (HU [v,u] 0 0)) (FH (ET [v,u] 0 (HU [v,u] 0 0)) 0 0) 1 0 0 2) [0] (FH (ET [v,u] 0 (HU [v,u] 0 0)) 0 0) (false != decide (HU [v,u] 0 0≠0)))=_
    rw [ha]; rfl,fun k hk=>by
    obtain rfl:k=0:=by omega
    exact Ed _ _⟩
 | c+1,hc=>by
   have hzf:∀ x,x ∈ G8 (CH v 0) (CH u 0) 1 u v→x.natAbs≤4000000000000000000:=fun x hx=>by
    obtain ⟨a,b,ha,hb,rfl⟩:=JJ hx
    exact Ar (XF (OP hvf 0) (OP huf 0) (huf a ha) (hvf b hb)) (by decide)
   rcases SZ hv hu hvf huf h0 c (by omega) with ⟨e1,e2⟩ | ⟨s,e1,e2,e3,k,e4,e5⟩
   ·rw [Kx,e1,CP]
    have hz:=V6 hv hu (CH v 0) (CH u 0) (k:=c+1) (by omega)
    generalize G8 (CH v 0) (CH u 0) 1 u v=z at *
    have ha:HU [v,z] (c+1) 1=if CH z (c+1)=0 then 2 else 1:=by
     unfold HU
     rw [show [v,z].drop 1=[z] from rfl,List.findIdx_cons]
     by_cases e:CH z (c+1)=0
     ·rw [Ai e,Aa (fun h=>h e)]; rfl
     ·rw [Ae e,Ab e]; rfl
    by_cases e:CH z (c+1)=0
    ·refine .inl ⟨?_,fun k hk=>?_⟩
     ·unfold Gx
      rw [Ai (show ([0]:List Nat).length < [v,z].length by simp)]
      show (if HU [v,z] (c+1) 1=2 then _ else _)=_
      rw [Ai (by rw [ha,Ai e])]
     ·by_cases h9:k≤c
      ·exact e2 k h9
      ·obtain rfl:k=c+1:=by omega
       omega
    ·refine .inr ⟨_,by
      unfold Gx
      rw [Ai (show ([0]:List Nat).length < [v,z].length by simp)]
      show (if HU [v,z] (c+1) 1=2 then _ else _)=_
      rw [Ae (by rw [ha,Ae e]; decide),Ai ⟨Sl (fun x hx=>by have:=hvf x hx; omega) hzf,Z6 (by have:=OP hvf 0; show (CH v 0).natAbs≤_; omega),h0⟩],rfl, ?_,c+1,Ah _,fun h=>e (by omega)⟩
     rw [Hb,Np]; rfl
   ·rw [Kx,e1,CP]
    refine .inr ⟨s, ?_,e2,e3,k,by omega,e5⟩
    unfold Gx
    rw [Ae (by omega)]
theorem Vh {v u:List Int} {n:Nat} (hn:1≤n) (hv:v.length=n) (hu:u.length=n) (hvf:∀ x,x ∈ v→x.natAbs≤1000000000) (huf:∀ x,x ∈ u→x.natAbs≤1000000000) (h0:CH v 0≠0) :
 ∃ s,Kx [v,u] n=some s∧((s.piv.length=1∧∀ k,k < n→CH v 0 * CH u k=CH u 0 * CH v k)∨(s.piv.length=2∧∃ k,CH v 0 * CH u k≠CH u 0 * CH v k)):=by
 have h:=SZ hv hu hvf huf h0 (n - 1) (by omega)
 rw [show n - 1+1=n by omega] at h
 rcases h with ⟨e1,e2⟩ | ⟨s,e1,e2,-,k,-,e5⟩
 ·exact ⟨_,e1,.inl ⟨rfl,fun k hk=>e2 k (by omega)⟩⟩
 ·exact ⟨s,e1,.inr ⟨e2,k,e5⟩⟩
theorem G0 {n:Nat} {v:List Int} (x:Nat→Int):Fu n [v] x ↔ (∀ k,n≤k→x k=0)∧Cd (fun j=>CH v j) x n=0:=by
 unfold Fu
 constructor
 ·rintro ⟨h0,h1⟩
  exact ⟨h0,h1 0 (by simp)⟩
 ·rintro ⟨h0,h1⟩
  refine ⟨h0,fun i hi=>?_⟩
  match i,hi with
  | 0,_=>exact h1
theorem Qj {v u:List Int} {n:Nat} (h0:CH v 0≠0) (hd:∀ k,k < n→CH v 0 * CH u k=CH u 0 * CH v k) (x:Nat→Int):Fu n [v,u] x ↔ Fu n [v] x:=by
 rw [FE,G0]
 constructor
 ·rintro ⟨a,b,-⟩; exact ⟨a,b⟩
 ·rintro ⟨a,b⟩
  refine ⟨a,b, ?_⟩
  have e:CH v 0 * Cd (fun j=>CH u j) x n=CH u 0 * Cd (fun j=>CH v j) x n:=by
   rw [← Co,← Co]
   exact Cv fun k hk=>⟨hd k hk,rfl⟩
  have b':Cd (fun j=>CH v j) x n=0:=b
  rw [b',BJ] at e
  rcases CB.1 e with h | h
  ·exact absurd h h0
  ·exact h
theorem XE {v u:List Int} {n:Nat} (hv:v.length=n) (hu:u.length=n) (hvf:∀ x,x ∈ v→Bk x=true) (huf:∀ x,x ∈ u→Bk x=true) (h0:CH v 0≠0) (hd:∀ k,k < n→CH v 0 * CH u k=CH u 0 * CH v k):Bp (Hx n [v,u])=true:=by
 obtain ⟨gF,tF,p,e1,e2,e3,e4,e5,e6,-⟩:=KY (n:=n) (B:=1000000000) (m:=[v,u]) (by simp) (GV hv hu) (by decide) C1 (JR hvf huf)
 obtain ⟨-,-,-,-,hU⟩:=F6 _ 0 0 [v,u] gF tF (fun _=>0) (GV hv hu) (FL.init _ _) e1
 have hsp:=LS hU
 have hd2:∀ k,CH v 0 * CH u k=CH u 0 * CH v k:=fun k=>by
  by_cases hk:k < n
  ·exact hd k hk
  ·unfold CH; rw [AG (show u.length≤k by omega),AG (show v.length≤k by omega)]; simp
 have hrow:∀ i,i < 2→∀ k,CH v 0 * Aw gF i k=Aw gF i 0 * CH v k:=fun i hi k=>by
  obtain ⟨c,hc⟩:=Di ((hsp _).2 (DF.row (i:=i) hi))
  have c1:∀ k,Aw gF i k=c 0 * CH v k+c 1 * CH u k:=fun k=>by rw [hc k]; show 0+c 0 * CH v k+c 1 * CH u k=_; omega
  rw [c1 k,c1 0]
  have:=hd2 k
  grind
 have hp:∀ i,i < tF→p i=0:=fun i hi=>by
  refine AX fun hne=>?_
  have h1:=hrow i (by simp at e3; omega) (p i)
  rw [e4.low i hi 0 (by omega),Dk] at h1
  have h2:=e4.pos i hi
  rcases CB.1 h1 with h | h
  ·exact h0 h
  ·omega
 have ht:tF≤1:=by
  refine AX fun hne=>?_
  have h1:=e4.inc 0 1 (by omega) (by omega)
  rw [hp 0 (by omega),hp 1 (by omega)] at h1
  omega
 have hz:∀ i,tF≤i→i < 2→∀ k,Aw gF i k=0:=fun i h1 h2 k=>by
  by_cases hk:k < n
  ·exact e4.zero i h1 (by rw [e6]; exact h2) k hk
  ·exact I7 e5 (by omega)
 obtain ⟨c,hc⟩:=Di ((hsp _).1 (DF.row (i:=0) (by simp)))
 have c1:∀ k,CH v k=c 0 * Aw gF 0 k+c 1 * Aw gF 1 k:=fun k=>by
  have:=hc k
  have e9:Aw [v,u] 0 k=CH v k:=rfl
  rw [e9] at this
  rw [this]; show 0+c 0 * Aw gF 0 k+c 1 * Aw gF 1 k=_; omega
 have c2:∀ k,CH v k=c 0 * Aw gF 0 k:=fun k=>by rw [c1 k,hz 1 ht (by omega) k]; omega
 have c0:c 0≠0:=fun h=>h0 (by rw [c2 0,h,Dk])
 rw [e2]
 refine KD fun r hr x hx=>?_
 obtain ⟨i,hi⟩:=BF.1 hr
 rw [Bf] at hi
 have hit:i < tF:=by
  refine AX fun h=>?_
  rw [Ae h] at hi; cases hi
 rw [Ai hit] at hi
 obtain rfl:i=0:=by omega
 obtain ⟨k,hk⟩:=BF.1 hx
 have e9:Aw gF 0 k=x:=by
  unfold Aw BB
  rw [hi,Bm,hk]; rfl
 rw [← e9]
 have h1:=c2 k
 have h2:=OP (B:=1000000000) (fun x hx=>C9 (hvf x hx)) k
 rw [h1,AZ] at h2
 have h3:(Aw gF 0 k).natAbs≤(c 0).natAbs * (Aw gF 0 k).natAbs:=EQ _ (by omega)
 unfold Bk
 exact Ab (by omega)
section
variable {P v u:List Int} (h1:1≤P.length) (h4:P.length≤4) (hp:BM P=0) (hvl:v.length=P.length) (hul:u.length=P.length) (hvf:∀ x,x ∈ v→Bk x=true) (huf:∀ x,x ∈ u→Bk x=true)
include h4 hvl hul hvf huf
theorem YX (h0:CH v 0≠0) (hd:∀ k,k < P.length→CH v 0 * CH u k=CH u 0 * CH v k) (hA:Bp (CI P.length [v])=true) (hS:Bp (CI P.length (CI P.length [v]))=true):Gp P.length (jL P v u)=true:=by
 have hL:=XE hvl hul hvf huf h0 hd
 obtain ⟨gW,p,t,r,k⟩:=Dz (n:=P.length) h4 (by decide) C1 (GL hL)
 obtain ⟨gW2,p2,t2,r2,k2⟩:=Dz (n:=P.length) (m:=[v]) (B:=1000000000) h4 (by decide) C1 (fun r hr x hx=>by rw [AY.1 hr] at hx; exact C9 (hvf x hx))
 have e:CI P.length (Hx P.length [v,u])=CI P.length [v]:=FL.uniq k.krect k2.krect k.kech k2.kech fun x=>
  (k.spans x).trans ((PK (by simp) (GV hvl hul) (JR hvf huf) x).trans ((Qj h0 hd x).trans (k2.spans x).symm))
 unfold Gp jL
 rw [e,hL,hA,hS]; rfl
include h1 hp
theorem XD (h0:CH v 0≠0) (hd:∀ k,k < P.length→CH v 0 * CH u k=CH u 0 * CH v k) (hj:Gp P.length (jL P v u)=true):(jS P v u).length < 2 :=
 JK h1 h4 hp hvl hul hvf huf hj (z:=fun j=>CH v j) fun x hx0 hx=>(Qj h0 hd x).2 ((G0 x).2 ⟨hx0,hx⟩)
theorem Xw (hj:Gp P.length (jL P v u)=true) (hd:∃ k,CH v 0 * CH u k≠CH u 0 * CH v k):2≤(jS P v u).length:=by
 refine AX fun hlt=>?_
 obtain ⟨k,hk⟩:=hd
 have hT:=Iy h1 h4 hp hvl hul hvf huf hj
 obtain ⟨s1,s2⟩:=P3 h4 hvl hul hvf huf hj
 obtain ⟨a,ha⟩:=Di ((hT.sup hvl).1 s1)
 obtain ⟨b,hb⟩:=Di ((hT.sup hul).1 s2)
 have hc:∀ c:Nat→Int,∀ k,Cd c (fun i=>Aw (jS P v u) i k) (jS P v u).length=if (jS P v u).length=0 then 0 else c 0 * Aw (jS P v u) 0 k:=fun c k=>by
  by_cases e:(jS P v u).length=0
  ·rw [Ai e,e]; rfl
  ·rw [Ae e,show (jS P v u).length=1 by omega]; show 0+c 0 * Aw (jS P v u) 0 k=_; omega
 apply hk
 have a0:CH v 0=_:=(ha 0).trans (hc a 0)
 have ak:CH v k=_:=(ha k).trans (hc a k)
 have b0:CH u 0=_:=(hb 0).trans (hc b 0)
 have bk:CH u k=_:=(hb k).trans (hc b k)
 rw [a0,ak,b0,bk]
 by_cases e:(jS P v u).length=0
 ·simp [e]
 ·simp only [Ae e]; grind
end
def Vz (P v u:List Int) (rk:Nat):Int:=if rk < 2 then 18 else if Gp P.length (jL P v u)=false then 4 else 0
theorem Xs {P v u:List Int} (h1:1≤P.length) (h4:P.length≤4) (hp:BM P=0) (hvl:v.length=P.length) (hul:u.length=P.length) (hvf:∀ x,x ∈ v→Bk x=true) (huf:∀ x,x ∈ u→Bk x=true) (h0:CH v 0≠0) (hA:Bp (CI P.length [v])=true) (hS:Bp (CI P.length (CI P.length [v]))=true) :
 ∃ s,Kx [v,u] P.length=some s∧s.piv.length≤2∧NG P v u=Vz P v u s.piv.length:=by
 obtain ⟨s,e1,h⟩:=Vh h1 hvl hul (fun x hx=>C9 (hvf x hx)) (fun x hx=>C9 (huf x hx)) h0
 refine ⟨s,e1,by omega, ?_⟩
 unfold NG Vz
 rcases h with ⟨e2,hd⟩ | ⟨e2,hd⟩
 ·have hf:=YX h4 hvl hul hvf huf h0 hd hA hS
  rw [Ai (show s.piv.length < 2 by omega),Ae (by rw [hf]; decide),Ai (XD h1 h4 hp hvl hul hvf huf h0 hd hf)]
 ·rw [Ae (show ¬ s.piv.length < 2 by omega)]
  cases hf:Gp P.length (jL P v u) with
  | false=>rw [Ai rfl,Ai rfl]
  | true=>
    have:=Xw h1 h4 hp hvl hul hvf huf hf hd
    rw [Ae (by decide),Ae (show ¬ (jS P v u).length < 2 by omega),Ae (by decide)]
end Go.Proofs.YtiniigadkknboaaGreatDoor
