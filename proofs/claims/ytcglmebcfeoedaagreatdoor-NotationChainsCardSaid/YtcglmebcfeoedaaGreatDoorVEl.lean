/- Contracts and laws: VEl. -/
import Derived.Test.YtcglmebcfeoedaaGreatDoorVRB
import Derived.Test.YtcglmebcfeoedaaGreatDoorVChk
import Derived.Test.YtcglmebcfeoedaaGreatDoorVD
import Derived.Test.YtcglmebcfeoedaaGreatDoorVRS
import Derived.Deep.CutRange

set_option maxRecDepth 100000
set_option maxHeartbeats 16000000
namespace Go.Proofs.YtcglmebcfeoedaaGreatDoor
open Go.RowKit Go.Lib
attribute [local go_sem ↓] AA AB
theorem SS (p x f y l:Int) (hp:Tz p) (hx:Tz x) (hf:Tz f) (hy:Tz y) (hl:Tz l) (h0:l≠0) (w:World) (hG:G w) :
 Calls Tryz.prog 129 #[.string (tx p),.string (tx x),.string (tx f),.string (tx y),.string (tx l)] w fun e w'=>e=.returned (.string (tx ((p * x - f * y).fdiv l)))∧Fr w w':=by
 have hp':Bn 2000 p:=hp
 have hx':Bn 2000 x:=hx
 have hf':Bn 2000 f:=hf
 have hy':Bn 2000 y:=hy
 have hl':Bn 2000 l:=hl
 have c1:=hZ (fun W (hW:G W)=>U1 2000 2000 (by decide) (by decide) p x hp' hx' W hW)
 have c2:=hZ (fun W (hW:G W)=>U1 2000 2000 (by decide) (by decide) f y hf' hy' W hW)
 have c3:=hZ (fun W (hW:G W)=>UZ 4000 (by decide) (p * x) (f * y) ((hp'.mul hx').mono (by decide)) ((hf'.mul hy').mono (by decide)) W hW)
 have c4:=hZ (fun W (hW:G W)=>SU 4001 2000 (by decide) (by decide) (p * x - f * y) l (((hp'.mul hx').sub (hf'.mul hy')).mono (by decide)) hl' h0 W hW)
 clear hp hx hf hy hl hp' hx' hf' hy' hl' h0
 go_enter Tryz.func129,Tryz.ntmps129
 go_wp2_with fail
 refine (c1.out _ hG).mono ?_; rintro e w1 ⟨rfl,hf1⟩
 go_wp2_with fail
 refine (c2.out _ (hG.fr hf1)).mono ?_; rintro e w2 ⟨rfl,hf2⟩
 go_wp2_with fail
 refine (c3.out _ (hG.fr (hf1.trans hf2))).mono ?_; rintro e w3 ⟨rfl,hf3⟩
 go_wp2_with fail
 refine (c4.out _ (hG.fr ((hf1.trans hf2).trans hf3))).mono ?_; rintro e w4 ⟨rfl,hf4⟩
 go_wp2_with fail
 go_ret
 exact ⟨rfl,((hf1.trans hf2).trans hf3).trans hf4⟩
theorem O6 {m:List (List Int)} {s:EZ}:∀ {n c:Nat},c≤n→G5 m n=some s→∃ s1,G5 m c=some s1
 | 0,c,h,hs=>by obtain rfl:c=0:=by omega
                exact ⟨s,hs⟩
 | n+1,c,h,hs=>by
   by_cases e:c=n+1
   ·subst e; exact ⟨s,hs⟩
   ·rw [G5] at hs
    obtain ⟨s1,h1,-⟩:=A2.1 hs
    exact O6 (by omega) h1
theorem O5 {m:List (List Int)} {s:EZ} {c:Nat} (h:G5 m c=some s) (hf:¬ s.piv.length < s.m.length):∀ k,G5 m (c+k)=some s
 | 0=>h
 | k+1=>by rw [show c+(k+1)=(c+k)+1 by omega,G5,O5 h hf k,AY,Gu,Ai hf]
theorem Uu {m:List (List Int)} {s sc:EZ} {n c:Nat} (hs:G5 m n=some s) (hc:c < n) (h:G5 m c=some sc):∃ s2,G5 m (c+1)=some s2∧Gu c sc=some s2:=by
 obtain ⟨s2,h2⟩:=O6 (c:=c+1) hc hs
 refine ⟨s2,h2, ?_⟩
 rw [G5,h,AY] at h2
 exact h2
theorem R5 {c:Nat} {s s2:EZ} (h:Gu c s=some s2) (h1:s.piv.length < s.m.length) (h2:FE s.m c s.piv.length=s.m.length):s2=s:=by
 unfold Gu at h
 rw [Aj h1,Aj h2] at h
 injection h with h; exact h.symm
theorem TE {c:Nat} {s s2:EZ} (h:Gu c s=some s2) (h1:s.piv.length < s.m.length) (h2:FE s.m c s.piv.length≠s.m.length):PY s.m=true∧Tz s.last∧s.last≠0 ∧
 s2=⟨Eh (Ej s.m s.piv.length (FE s.m c s.piv.length)) (Eu (Ej s.m s.piv.length (FE s.m c s.piv.length)) s.piv.length c) s.last s.piv.length c s.m.length,s.piv ++ [c],
     Eu (Ej s.m s.piv.length (FE s.m c s.piv.length)) s.piv.length c,s.odd != decide (FE s.m c s.piv.length≠s.piv.length)⟩:=by
 unfold Gu at h
 rw [Aj h1,Ai h2] at h
 split at h
 ·rename_i h3
  injection h with h
  exact ⟨h3.1,h3.2.1,h3.2.2,h.symm⟩
 ·cases h
theorem TB {m:List (List Int)} (h:PY m=true) {i:Nat} {r:List Int} (hi:m[i]?=some r):∀ x,x ∈ r→Tz x:=fun x hx=>
 Av (As.1 (As.1 h r (Ae hi)) x hx)
theorem UL {m:List (List Int)} {c k j:Nat} (h1:k≤j) (h2:j≤FE m c k) (h3:j < m.length) (hz:Eu m j c=0):j+1≤FE m c k:=by
 by_cases e:j=FE m c k
 ·exfalso
  have:=XN (m:=m) (c:=c) (k:=k) (by omega) (by omega)
  rw [← e] at this
  exact this hz
 ·omega
theorem UN {m:List (List Int)} {c k j:Nat} (h1:k≤j) (h2:j≤FE m c k) (h3:j < m.length) (hz:Eu m j c≠0):j=FE m c k:=by
 by_cases e:j=FE m c k
 ·exact e
 ·exfalso
  have hlt:j - k < (m.drop k).findIdx fun r=>decide ((r[c]?).getD 0≠0):=by unfold FE at h2 e; omega
  have h4:=List.not_of_lt_findIdx hlt
  rw [List.getElem_drop] at h4
  have h5:=QQ (Bool.eq_false_iff.2 (by simpa using h4):decide ((m[k+(j - k)][c]?).getD 0≠0)=false)
  apply hz
  unfold Eu DX
  rw [Ab h3]
  have:k+(j - k)=j:=by omega
  simp only [this] at h5
  exact De h5
theorem PZ {m:List (List Int)} {n k a:Nat} (h:Ce n m):Ce n (Ej m k a):=by
 unfold Ej; split
 ·exact h
 ·exact fun r hr=>h r (Ov hr)
theorem Ny {p f l:Int} {xs ys:List Int} {n:Nat} (h1:xs.length=n) (h2:ys.length=n):(JT p f l xs ys).length=n:=by
 unfold JT; rw [ZC]; omega
theorem SF {p f l:Int} {xs ys:List Int} {k:Nat} {x y:Int} (h1:xs[k]?=some x) (h2:ys[k]?=some y):(JT p f l xs ys)[k]?=some (Yp p f l x y):=by
 unfold JT; rw [DJ,h1,h2]
theorem NB {m:List (List Int)} {n:Nat} (h:Ce n m) {p l:Int} {d c:Nat} (hd:d < m.length) (t:Nat):Ce n (Eh m p l d c t):=fun r hr=>by
 obtain ⟨j,hj⟩:=EU.1 hr
 rw [Ma] at hj
 split at hj
 ·obtain ⟨r0,h0,rfl⟩:=AV.1 hj
  exact Ny (h r0 (Ae h0)) (by unfold DX; rw [Ab hd]; exact h.row hd)
 ·exact h r (Ae hj)
theorem Pj {m:List (List Int)} {p l:Int} {d c t j:Nat} (h:t≤j∨j=d):DX (Eh m p l d c t) j=DX m j:=by
 unfold DX; rw [Ma,Ai (by omega)]
theorem SH {m:List (List Int)} {p l:Int} {d c:Nat}:Eh m p l d c (d+1)=Eh m p l d c d:=by rw [Eh,Aj rfl]
theorem SG {m:List (List Int)} {p l:Int} {d c i:Nat} (h:i≠d):Eh m p l d c (i+1)=(Eh m p l d c i).set i (JT p (Eu (Eh m p l d c i) i c) l (DX (Eh m p l d c i) i) (DX (Eh m p l d c i) d)):=by rw [Eh,Ai h]
theorem JC {m:List (List Int)} {i:Nat} (h:i < m.length):DX m i=m[i]:=by unfold DX; rw [Ab h]; rfl
theorem MD {α:Type} (zs xs:List α) (k:Nat) (h1:zs.length≤k) (h2:xs.length≤k):zs.take k ++ xs.drop k=zs:=by
 rw [Ak h1,GN h2,BJ]
theorem Kz.refl (ob:Nat) (a:List (Nat×Nat×Nat)):Kz ob a a:=⟨fun _=>Iff.rfl,fun _ h=>h⟩
theorem Ty {m:List (List Int)} {k a:Nat} (h:PY m=true):PY (Ej m k a)=true:=by
 unfold Ej; split
 ·exact h
 ·exact As.2 fun r hr=>As.1 h r (Ov hr)
theorem Us {m:List (List Int)} {n i c:Nat} (h:PY m=true) (hr:Ce n m) (hi:i < m.length) (hc:c < n):Tz (Eu m i c) :=
 TB h (Ab hi) _ (Ae (E9 hr hi hc))
theorem Q8 {m:List (List Int)} {i:Nat} (h:PY m=true) (hi:i < m.length):∀ x,x ∈ DX m i→Tz x:=by
 rw [JC hi]; exact TB h (Ab hi)
theorem Fx.grownE {p:Nat→Prop} {a b c:World} {row:Option Nat} (h:Fx p a b) (hg:b.grownBy c row) (hr:∀ k,row=some k→a.heap.size≤k):Fx p a c:=by
 have k:=Fx.of_grown hg
 exact ⟨k.os.trans h.os,k.tape.trans h.tape,k.output.trans h.output,AE h.size k.size,fun q h1 h2=>(k.block q (An h1 h.size) (fun e=>by have:=hr q e; omega)).trans (h.block q h1 h2)⟩
def WC (w:World) (ob oo n L:Nat) (hs:List (Nat×Nat×Nat)) (s:EZ) (e:Ending) (w':World):Prop :=
 ∃ a c hs',e=.returned (.tuple #[.slice a s.piv.length c,.string (tx s.last),.bool s.odd])∧El w' iv a (s.piv.map fun k:Nat=>(k:Int))∧BH w' ob oo hs' s.m∧Ce n s.m∧s.m.length=L∧Kz ob hs' hs∧Fx (gb ob hs) w w'
theorem PD (ob oo cap n nc:Nat) (hs:List (Nat×Nat×Nat)) (g:List (List Int)) (s:EZ) (w:World) (hG:G w) (hg:BH w ob oo hs g) (hr:Ce n g) (hnc:nc≤n) (hn:n≤1000) (hl:g.length≤1000) (hz:G5 g nc=some s) :
 Calls Tryz.prog 70 #[.slice (some ⟨ob,oo,none⟩) g.length cap,.int .i64 nc] w (WC w ob oo n g.length hs s):=by
 have hgn:=CS hG
 obtain ⟨i1,ji,jz0,jz1,jz2⟩:=AQ DQ
 have hG1:=hZ hG
 have hge0:=hZ hg.ge
 have hoblt:=hg.outer
 have hbl0:Hid (∀ k,gb ob hs k→k < w.heap.size):=by
  rintro k (rfl | ⟨hd,hm,rfl⟩)
  ·exact hoblt
  ·obtain ⟨i,hi⟩:=AO hm
   have hlt:i < g.length:=by rw [← hg.len]; exact (Ah.1 hi).1
   exact (hg.row i hd _ hi (Ab hlt)).1.2.1
 obtain ⟨L,hL⟩:∃ L,L=g.length:=⟨_,rfl⟩
 rw [← hL] at hl ⊢
 have hz1:=hZ hz
 have h00:G5 g 0=some ⟨g,[],1,false⟩:=rfl
 replace hz:=hZ hz
 replace hG:=hZ hG
 replace hg:=hZ hg
 replace hr:=hZ hr
 replace hL:=hZ hL
 replace h00:=hZ h00
 clear hG hz
 go_enter Tryz.func70,Tryz.ntmps70
 go_wp2_with fail
 go_loopg [7,8,9,10] nc (fun k s7 s8 s9 s10 wr=>∃ (c q:Nat) (sc:EZ) (hsX:List (Nat×Nat×Nat)),s10=.int .i64 c∧c+k=nc∧Hid (G5 g c=some sc)∧s8=.string (tx sc.last)∧s9=.bool sc.odd∧Hid (q=sc.piv.length)∧Hid (wr.ownsRow w.heap.size 3 1 s7 q (sc.piv.map fun k:Nat=>iv k))∧Hid (BH wr ob oo hsX sc.m)∧Hid (Ce n sc.m)∧Hid (sc.m.length=L)∧Hid (Kz ob hsX hs)∧Fx (gb ob hs) w wr)
 case atStart=>exact ⟨0,0,⟨g,[],1,false⟩,hs,rfl,by omega,h00.out,by rw [show tx 1=⟨#[49]⟩ from GA],rfl,rfl,A6 _ _ _ _,hg.out,hr.out,hL.out.symm,Kz.refl _ _,Fx.refl _ _⟩
 case round=>
  obtain ⟨c,q,sc,hsX,rfl,hck,hsc,rfl,rfl,hq,hown,hgr,hrr,hlen,hsm,hfx⟩:=hrel
  have hqc:q≤c:=by rw [hq.out]; exact Ry hsc.out
  have zq:(0:Int)≤(q:Int):=Af _
  have zc:(0:Int)≤(c:Int):=Af _
  obtain ⟨a7,c7,rfl⟩:∃ a7 c7,u7=.slice a7 q c7:=by
   rcases hown.out.2 with ⟨h1,h2⟩ | ⟨g',cap',cur',hv,_⟩
   ·rw [h1,h2]; exact ⟨_,_,rfl⟩
   ·exact ⟨_,_,hv⟩
  by_cases hcn:c < nc
  ·have dcn:decide (c < nc)=true:=Ac hcn
   by_cases hqL:q < L
   ·have dqL:decide (q < L)=true:=Ac hqL
    obtain ⟨s2,hs2,hst⟩:=Uu hz1.out hcn hsc.out
    obtain ⟨A,hA⟩:∃ A,A=FE sc.m c q:=⟨_,rfl⟩
    have hAle:=UM sc.m c q (by rw [hlen.out]; omega)
    rw [← hA,hlen.out] at hAle
    replace hs2:=hZ hs2
    replace hst:=hZ hst
    replace hA:=hZ hA
    obtain ⟨wo,rfl⟩:∃ wo:World,wo=wr:=⟨_,rfl⟩
    obtain ⟨ko,rfl⟩:∃ ko:Nat,ko=gk:=⟨_,rfl⟩
    go_wp2_with fail
    go_loopg [12] (L - q) (fun k Vr wr2=>∃ j:Nat,Vr=.int .i64 j∧j+k=L∧q≤j∧j≤A∧wo=wr2)
    case atStart=>exact ⟨q,rfl,by omega,Ag _,hAle.1,rfl⟩
    case round=>
     obtain ⟨j,rfl,hjk,hqj,hjA,rfl⟩:=hrel
     by_cases hjL:j < L
     ·have hjg:j < sc.m.length:=by rw [hlen.out]; exact hjL
      obtain ⟨b1,o1,k1,e1,ca1,cf1,ro1,bo1⟩:=hgr.out.at hjg
      have ce1:=(ro1.2.2 c _ (E9 hrr.out hjg (by omega))).1
      rw [hrr.out.row hjg] at ca1
      have zj0:(0:Int)≤(j:Int):=Af _
      have zj1:(j:Int) < (L:Int):=by omega
      have zcn:(c:Int) < (n:Int):=by omega
      have dj:decide ((j:Int) < (L:Int))=true:=Ac zj1
      clear ro1
      by_cases h0:ent sc.m j c=0
      ·have hb:((tx (ent sc.m j c)).toList == [48])=true:=by rw [C8]; exact Ac h0
       have hA1:=UL hqj (by rw [← hA.out]; exact hjA) hjg h0
       rw [← hA.out] at hA1
       replace h0:=hZ h0
       go_wp2_with fail
       go_roundg (gk - 1)
       case measure=>omega
       case rel=>exact ⟨j+1,by go_num,by omega,by omega,hA1,rfl⟩
      ·have hb:((tx (ent sc.m j c)).toList == [48])=false:=by rw [C8]; exact Aa h0
       have hjA2:=(UN hqj (by rw [← hA.out]; exact hjA) hjg h0).trans hA.out.symm
       obtain ⟨hti,htl,hl0,hs2e⟩:=TE hst.out (by rw [hlen.out,← hq.out]; exact hqL) (by rw [← hq.out,← hA.out,hlen.out]; omega)
       rw [← hq.out,← hA.out,hlen.out,← hjA2] at hs2e
       obtain ⟨mX,hmX⟩:∃ mX,mX=Ej sc.m q j:=⟨_,rfl⟩
       obtain ⟨oX,hoX⟩:∃ oX,oX=(sc.odd != decide (j≠q)):=⟨_,rfl⟩
       rw [← hmX,← hoX] at hs2e
       have hRX:Ce n mX:=by rw [hmX]; exact PZ hrr.out
       have hLX:mX.length=L:=by rw [hmX,R2]; exact hlen.out
       have htX:PY mX=true:=by rw [hmX]; exact Ty hti
       have hp0:Eu mX q c≠0:=by rw [hmX,R3 (by rw [hlen.out]; exact hqL) hjg]; exact h0
       have hel:((j:Int) == (L:Int))=false:=Ay (by omega)
       replace hs2e:=hZ hs2e
       replace h0:=hZ h0
       replace hjA2:=hZ hjA2
       clear hti
       go_upto_if 54 with (fail)
       go_cut [9] from 17 to 131 (fun s9 wc=>∃ hsY:List (Nat×Nat×Nat),s9=.bool oX∧Hid (BH wc ob oo hsY mX)∧Hid (Kz ob hsY hs)∧Fx (gb ob hs) wo wc)
       case first=>
        by_cases hjq:j=q
        ·have hm2:mX=sc.m:=by rw [hmX]; unfold Ej; rw [Aj hjq]
         have ho2:oX=sc.odd:=by rw [hoX,Aa (by simp [hjq])]; simp
         have hne:((j:Int) != (q:Int))=false:=by rw [hjq]; simp
         replace hm2:=hZ hm2
         replace ho2:=hZ ho2
         replace hjq:=hZ hjq
         clear hmX hoX
         go_wp2_with fail
         go_meet
         case rel=>exact ⟨hsX,by rw [ho2.out],by show BH _ _ _ _ _; rw [hm2.out]; exact hgr.out,hsm.out,Fx.refl _ _⟩
        ·have hm2:mX=swp sc.m j q:=by rw [hmX]; unfold Ej; rw [Ai hjq]
         have ho2:oX=!sc.odd:=by rw [hoX,Ac hjq]; simp
         have hne:((j:Int) != (q:Int))=true:=by rw [Bl]; omega
         have hqg:q < sc.m.length:=by rw [hlen.out]; exact hqL
         obtain ⟨b2,o2,k2,e2,ca2,cf2,-,-⟩:=hgr.out.at hqg
         rw [hrr.out.row hqg] at ca2
         have hg1:=Ab hjg
         have hg2:=Ab hqg
         have hsw:=hgr.out.swap e1 e2 hg1 hg2 hjq
         rw [hrr.out.row hjg,hrr.out.row hqg] at hsw
         have hsmY:=hZ (show Kz ob (swp hsX j q) hs from ⟨fun k=>(Qs e1 e2 k).trans (hsm.out.1 k),fun h hm=>hsm.out.2 h (K6 hm)⟩)
         rw [← hm2] at hsw
         have hfS:Fx (gb ob hs) wo ((wo.setCell ⟨ob,oo+j,none⟩ (.slice (some ⟨b2,o2,none⟩) n k2)).setCell ⟨ob,oo+q,none⟩ (.slice (some ⟨b1,o1,none⟩) n k1)):=Fx.setCell (p:=gb ob hs) (q:=⟨ob,oo+q,none⟩) (Fx.setCell (p:=gb ob hs) (q:=⟨ob,oo+j,none⟩) (Fx.refl _ wo) (.inl (.inl rfl)) _) (.inl (.inl rfl)) _
         have ca3:(wo.setCell ⟨ob,oo+j,none⟩ (.slice (some ⟨b2,o2,none⟩) n k2)).cell? ⟨ob,oo+q,none⟩=some (.slice (some ⟨b2,o2,none⟩) n k2):=by
          rw [Ad _ _ _ _ (fun e=>by injection e with _ e; omega)]; exact ca2
         have zq1:(q:Int) < (L:Int):=by omega
         replace hsw:=hZ hsw
         replace hfS:=hZ hfS
         replace hjq:=hZ hjq
         replace ho2:=hZ ho2
         replace e1:=hZ e1
         replace e2:=hZ e2
         replace hg1:=hZ hg1
         replace hg2:=hZ hg2
         clear hmX hoX hm2
         go_wp2_with fail
         go_region
         go_wp2_with fail
         go_meet
         case rel=>exact ⟨swp hsX j q,by rw [ho2.out],hsw.out.fr (Fr.refl _).drew,hsmY.out,hfS.out.drew⟩
       case rest=>
        obtain ⟨hsY,rfl,hgY,hsmY,hfY⟩:=hcut
        have hqX:q < mX.length:=by rw [hLX]; exact hqL
        obtain ⟨bd,od,kd,ed,cad,cfd,rod,bod⟩:=hgY.out.at hqX
        rw [hRX.row hqX] at cad
        have ced:=(rod.2.2 c _ (E9 hRX hqX (by omega))).1
        obtain ⟨p,hp⟩:∃ p,p=Eu mX q c:=⟨_,rfl⟩
        have htp:Tz p:=by rw [hp]; exact Us htX hRX hqX (by omega)
        rw [show ent mX q c=p from hp.symm] at ced
        rw [← hp] at hp0
        have hs3e:=hs2e.out
        rw [← hp] at hs3e
        have zq1:(q:Int) < (L:Int):=by omega
        have hcl0:Hid (BH wc ob oo hsY (Eh mX p sc.last q c 0)):=hgY.out
        have hownY:=hZ (BM hown.out hfY (fun g hg e=>by have h1:=(hown.out.lt g hg).1; have h2:=hbl0.out g e; omega))
        have hfwY:=hfx.trans hfY
        replace hs3e:=hZ hs3e
        replace hp:=hZ hp
        replace hmX:=hZ hmX
        replace hoX:=hZ hoX
        replace hRX:=hZ hRX
        replace htX:=hZ htX
        replace ed:=hZ ed
        clear rod hown hfx hfY hgr ca1 cf1 ce1 e1 dj cfd
        obtain ⟨wd,rfl⟩:∃ wd:World,wd=wc:=⟨_,rfl⟩
        go_wp2_with fail
        go_loopg [14] L (fun k s14 wr3=>∃ i:Nat,s14=.int .i64 i∧i+k=L∧Hid (BH wr3 ob oo hsY (Eh mX p sc.last q c i))∧Fx (gb ob hs) wd wr3)
        case atStart=>exact ⟨0,rfl,by omega,hcl0,Fx.refl _ _⟩
        case round=>
         clear hcl0 cad ced
         obtain ⟨i,rfl,hik,hgi,hfi⟩:=hrel
         have zi0:(0:Int)≤(i:Int):=Af _
         by_cases hiL:i < L
         ·have zi1:(i:Int) < (L:Int):=by omega
          have di:decide (i < L)=true:=Ac hiL
          by_cases hiq:i=q
          ·have hqq:((i:Int) == (q:Int))=true:=by rw [hiq]; simp
           have hsk:Hid (BH wr ob oo hsY (Eh mX p sc.last q c (i+1))):=by
            show BH _ _ _ _ _
            have h9:=hgi.out; rw [hiq] at h9; rw [hiq,SH]; exact h9
           replace hiq:=hZ hiq
           go_wp2_with fail
           go_roundg (gk - 1)
           case measure=>omega
           case rel=>exact ⟨i+1,by go_num,by omega,hsk.out,hfi⟩
          ·have hqq:((i:Int) == (q:Int))=false:=Ay (by omega)
           have hstep:=hZ (SG (m:=mX) (p:=p) (l:=sc.last) (d:=q) (c:=c) hiq)
           have hRi:Ce n (Eh mX p sc.last q c i):=NB hRX.out hqX i
           have hLi:(Eh mX p sc.last q c i).length=L:=(Ij _ _ _ _ _ _).trans hLX
           have ho1:=Pj (m:=mX) (p:=p) (l:=sc.last) (d:=q) (c:=c) (t:=i) (j:=i) (.inl (Ag i))
           have ho2:=Pj (m:=mX) (p:=p) (l:=sc.last) (d:=q) (c:=c) (t:=i) (j:=q) (.inr rfl)
           generalize hgic:Eh mX p sc.last q c i=gi at *
           have hiX:i < gi.length:=by rw [hLi]; exact hiL
           have hqX2:q < gi.length:=by rw [hLi]; exact hqL
           obtain ⟨bi,oi,ki,ei,cai,cfi,roi,boi⟩:=hgi.out.at hiX
           obtain ⟨bd',od',kd',ed',cad,cfd,rod,bod'⟩:=hgi.out.at hqX2
           rw [ed.out] at ed'
           injection ed' with ed'
           injection ed' with g1 g2
           injection g2 with g2 g3
           subst g1; subst g2; subst g3
           have hne:bi≠bd:=hgi.out.apart i q _ _ ei ed.out hiq
           have cei:=(roi.2.2 c _ (E9 hRi hiX (by omega))).1
           have hfti:Tz (Eu gi i c):=by
            have:Eu gi i c=Eu mX i c:=by unfold Eu; rw [ho1]
            rw [this]; exact Us htX.out hRX.out (by omega) (by omega)
           rw [hRi.row hiX] at cai
           rw [hRi.row hqX2] at cad
           have hxl:(DX gi i).length=n:=by rw [JC hiX]; exact hRi.row hiX
           have hyl:(DX gi q).length=n:=by rw [JC hqX2]; exact hRi.row hqX2
           rw [← JC hiX] at roi
           rw [← JC hqX2] at rod
           have hxt:∀ x,x ∈ DX gi i→Tz x:=by rw [ho1]; exact Q8 htX.out (by omega)
           have hyt:∀ x,x ∈ DX gi q→Tz x:=by rw [ho2]; exact Q8 htX.out (by omega)
           change wr.cell? ⟨bi,oi+c,none⟩=some (sv (Eu gi i c)) at cei
           obtain ⟨f,hf⟩:∃ f,f=Eu gi i c:=⟨_,rfl⟩
           rw [← hf] at cei hfti hstep
           generalize DX gi i=xs at *
           generalize DX gi q=ys at *
           obtain ⟨zs,hzs⟩:∃ zs,zs=JT p f sc.last xs ys:=⟨_,rfl⟩
           rw [← hzs] at hstep
           have hzl:zs.length=n:=by rw [hzs]; exact Ny hxl hyl
           have hzg:=fun u x y (h1:xs[u]?=some x) (h2:ys[u]?=some y)=>show zs[u]?=some ((p * x - f * y).fdiv sc.last) from by rw [hzs]; exact SF h1 h2
           have hG3:=hZ ((hG1.out.fx hfwY hge0.out).fx hfi hge0.out)
           have hbig:=hge0.out bi (((hsmY.out.1 bi).1) (.inr ⟨_,Ae ei,rfl⟩))
           replace hf:=hZ hf
           replace hzs:=hZ hzs
           replace hzl:=hZ hzl
           replace hzg:=hZ hzg
           replace hxl:=hZ hxl
           replace hyl:=hZ hyl
           replace hxt:=hZ hxt
           replace hyt:=hZ hyt
           replace ei:=hZ ei
           replace hRi:=hZ hRi
           replace hLi:=hZ hLi
           replace hgic:=hZ hgic
           replace hiq:=hZ hiq
           replace rod:=hZ rod
           clear ho1 ho2
           have hroi:Hid (FJ wr bi oi (zs.take 0 ++ xs.drop 0)):=roi
           clear roi
           obtain ⟨wv,rfl⟩:∃ wv:World,wv=wr:=⟨_,rfl⟩
           obtain ⟨kv,rfl⟩:∃ kv:Nat,kv=gk:=⟨_,rfl⟩
           go_wp2_with fail
           go_loopg [16] n (fun k s16 wr4=>∃ u:Nat,s16=.int .i64 u∧u+k=n∧Hid (FJ wr4 bi oi (zs.take u ++ xs.drop u))∧Fx (·=bi) wv wr4)
           case atStart=>exact ⟨0,rfl,by omega,hroi.out,Fx.refl _ _⟩
           case round=>
            clear hroi
            obtain ⟨u,rfl,huk,hown4,hf4⟩:=hrel
            have cai4:=hf4.keep cai (fun e=>boi e.symm)
            have cfi4:=hf4.keepf cai cfi (fun e=>boi e.symm)
            have cad4:=hf4.keep cad (fun e=>boi e.symm)
            have zu0:(0:Int)≤(u:Int):=Af _
            by_cases hun:u < n
            ·have zu1:(u:Int) < (n:Int):=by omega
             have dun:decide (u < n)=true:=Ac hun
             obtain ⟨x,hx⟩:∃ x,xs[u]?=some x:=⟨_,Ab (by rw [hxl.out]; exact hun)⟩
             obtain ⟨y,hy⟩:∃ y,ys[u]?=some y:=⟨_,Ab (by rw [hyl.out]; exact hun)⟩
             obtain ⟨x1,x2⟩:=hown4.out.2.2 u x (by rw [Hw zs xs u (by rw [hzl.out,hxl.out]) (by rw [hxl.out]; exact hun)]; exact hx)
             have y1:=((rod.out.fx hf4 (fun e=>hne e.symm)).2.2 u y hy).1
             have hz:=hzg.out u x y hx hy
             have hms:=Hv zs xs u (by rw [hzl.out,hxl.out]) (by rw [hxl.out]; exact hun) _ hz
             have hco:=hZ (fun W (hW:G W)=>SS p x f y sc.last htp (hxt.out x (Ae hx)) hfti (hyt.out y (Ae hy)) htl hl0 W hW)
             have hGv:=hZ (hG3.out.fx hf4 (fun k e=>by rw [show k=bi from e]; exact hbig))
             have hS0:=hZ (fun W' (hW':Fr wr W')=>(⟨hW'.keep cai4,hW'.keep x1,hW'.keep cad4,hW'.keep y1⟩:W'.cell? ⟨ob,oo+i,none⟩=some (.slice (some ⟨bi,oi,none⟩) n ki)∧W'.cell? ⟨bi,oi+u,none⟩=some (sv x)∧W'.cell? ⟨ob,oo+q,none⟩=some (.slice (some ⟨bd,od,none⟩) n kd)∧W'.cell? ⟨bd,od+u,none⟩=some (sv y)))
             replace hx:=hZ hx
             replace hy:=hZ hy
             replace hz:=hZ hz
             replace hms:=hZ hms
             go_wp2_with fail
             refine BP (S:=fun W'=>W'.cell? ⟨ob,oo+i,none⟩=some (.slice (some ⟨bi,oi,none⟩) n ki)∧W'.cell? ⟨bi,oi+u,none⟩=some (sv x)∧W'.cell? ⟨ob,oo+q,none⟩=some (.slice (some ⟨bd,od,none⟩) n kd)∧W'.cell? ⟨bd,od+u,none⟩=some (sv y)) 24 (by kernel_rfl) (hS0.out _ ((Fr.refl _).drew)) (fun hHeld=>?_)
             refine uK 0 ?_
             refine uK 1 ?_
             refine uK 2 ?_
             refine uK 3 ?_
             refine uK 4 ?_
             refine uK 5 ?_
             refine uK 6 ?_
             refine uK 7 ?_
             refine uK 8 ?_
             refine uK 9 ?_
             refine uK 10 ?_
             refine uK 11 ?_
             refine uK 12 ?_
             refine uK 13 ?_
             refine uK 14 ?_
             refine uK 15 ?_
             refine uK 16 ?_
             refine uK 17 ?_
             refine uK 18 ?_
             refine uK 19 ?_
             refine uK 20 ?_
             refine uK 21 ?_
             refine uC 22 (fun K hK=>?_)
             go_simp
             (refine (hco.out _ (hGv.out.fr (by exact BR))).mono ?_; rintro e w6 ⟨rfl,hf6⟩)
             go_wp2_with fail
             refine hK.out _ _ (hS0.out _ (by exact BR)) (fun hHeld=>?_)
             clear hK K
             refine uK 23 ?_
             have hfr8:Fr wr w6:=by exact BR
             have z1:=hfr8.keep x1
             have z2:=hfr8.keepf x1 x2
             clear hHeld
             refine uL 24 (fun K hK=>?_)
             go_simp
             refine hK.out _ _ ?_
             clear hK K
             have hown8:=(hown4.out.fr hfr8).set (k:=u) (by rw [Ar,AG,B3,hxl.out,hzl.out]; omega) ((p * x - f * y).fdiv sc.last)
             rw [hms.out] at hown8
             have hf8x:=(hf4.fr hfr8).setCell (q:=⟨bi,oi+u,none⟩) (.inl rfl) (sv ((p * x - f * y).fdiv sc.last))
             replace hown8:=hZ hown8
             clear z1 z2
             go_wp2_with fail
             go_roundg (gk - 1)
             case measure=>omega
             case rel=>exact ⟨u+1,by go_num,by omega,hown8.out,hf8x⟩
            ·have dun:decide (u < n)=false:=Aa hun
             obtain rfl:u=n:=by omega
             have hown8:=hown4.out
             rw [MD _ _ _ (by rw [hzl.out]; exact Ag _) (by rw [hxl.out]; exact Ag _)] at hown8
             have hset:=hgi.out.setRow ei.out hf4 hown8 (fun r h=>by rw [Ab hiX] at h; injection h with h; rw [hzl.out,← h]; exact (hRi.out.row hiX).symm)
             rw [← hstep.out] at hset
             have hfset:=hfi.trans (hf4.mono (fun k e=>by rw [show k=bi from e]; exact (hsmY.out.1 bi).1 (.inr ⟨_,Ae ei.out,rfl⟩)))
             replace hset:=hZ hset
             clear hown8 hown4
             go_wp2_with fail
             go_roundg (kv - 1)
             case measure=>omega
             case rel=>exact ⟨i+1,by go_num,by omega,hset.out,hfset⟩
         ·have di:decide (i < L)=false:=Aa hiL
          obtain rfl:i=L:=by omega
          have hown3:=BM hownY.out hfi (fun g hg e=>by have h1:=(hownY.out.lt g hg).1; have h2:=hbl0.out g e; omega)
          have hfw:=hfwY.trans hfi
          have hszw:=hfw.size
          replace hown3:=hZ hown3
          go_wp2_with (at_builtin; refine At _ rfl _ _ 43 (by rfl) _ 3 _ _ 1 8 Tryz.underlying43 ji jz0 jz1 jz2 rfl (by decide) _ q _ (by rfl) (Au hown3.out _) ⟨wr.heap.size,0,none⟩ 1 1 [.int .i64 c] (by rfl) rfl (AF _ _ _ _ (by simp)) (by simp [Value.oneCell']) (by decide) (by unfold maxLen; omega) (by omega) (by skip; simp; omega) (wr.heap.size+1) (by simp) ?_; intro gA capA wA hownA hgrowA hatA hltA)
          have hgA:=((hgi.out.fr ((Fr.refl wr).alloc (.cells #[.int .i64 c] 3))).fx (Fx.of_grown hgrowA) (fun k hk e=>by have h1:=(hown3.out.lt k e).1; have h2:=hbl0.out k ((hsmY.out.1 k).1 hk); omega))
          have hfA:=(hfw.alloc (.cells #[.int .i64 c] 3)).grownE hgrowA (fun k e=>(hown3.out.lt k e).1)
          go_roundg (ko - 1)
          case measure=>omega
          case rel=>
           have h3:=hs3e.out
           subst h3
           refine ⟨c+1,q+1,_,hsY,by go_num,by omega,hs2.out,by show _=sv p; rfl,by show _=Value.bool oX; rfl, ?_, ?_,hgA, ?_, ?_,hsmY.out,hfA⟩
           ·show q+1=_
            rw [Ar,hq.out]; rfl
           ·show World.ownsRow _ _ _ _ _ _ _
            rw [Aw]; exact hownA
           ·exact NB hRX.out hqX _
           ·show _=_
            rw [Ij]; exact hLX
     ·have dj:decide ((j:Int) < (L:Int))=false:=Aa (by omega)
      obtain rfl:j=L:=by omega
      have hel:((j:Int) == (j:Int))=true:=by simp
      have hs2e:=R5 hst.out (by rw [hlen.out,← hq.out]; exact hqL) (by rw [← hq.out,← hA.out,hlen.out]; omega)
      have hs2:=hs2.out
      rw [hs2e] at hs2
      replace hs2:=hZ hs2
      replace hs2e:=hZ hs2e
      go_wp2_with fail
      go_roundg (ko - 1)
      case measure=>omega
      case rel=>exact ⟨c+1,q,sc,hsX,by go_num,by omega,hs2.out,rfl,rfl,hq.out,hown.out,hgr.out,hrr.out,hlen.out,hsm.out,hfx⟩
   ·have dqL:decide (q < L)=false:=Aa hqL
    have hfin:=O5 hsc.out (by rw [hlen.out,← hq.out]; exact hqL) (nc - c)
    rw [show c+(nc - c)=nc by omega,hz1.out] at hfin
    injection hfin with hfin
    obtain ⟨a9,c9,hv9,hel9⟩:=GW (show wr.ownsRow w.heap.size 3 1 (.slice a7 q c7) q ((sc.piv.map fun k:Nat=>(k:Int)).map iv) by rw [Da]; exact hown.out)
    injection hv9 with hv1 hv2 hv3
    subst hv1; subst hv3
    replace hfin:=hZ hfin
    go_wp2_with fail
    go_ret3
    rw [hfin.out]
    exact ⟨a7,c7,hsX,by rw [← hq.out]; rfl,hel9,hgr.out,hrr.out,hlen.out,hsm.out,hfx⟩
  ·have dcn:decide (c < nc)=false:=Aa hcn
   obtain rfl:c=nc:=by omega
   have hfin:s=sc:=by have:=hsc.out; rw [hz1.out] at this; injection this
   obtain ⟨a9,c9,hv9,hel9⟩:=GW (show wr.ownsRow w.heap.size 3 1 (.slice a7 q c7) q ((sc.piv.map fun k:Nat=>(k:Int)).map iv) by rw [Da]; exact hown.out)
   injection hv9 with hv1 hv2 hv3
   subst hv1; subst hv3
   replace hfin:=hZ hfin
   go_wp2_with fail
   go_ret3
   rw [hfin.out]
   exact ⟨a7,c7,hsX,by rw [← hq.out]; rfl,hel9,hgr.out,hrr.out,hlen.out,hsm.out,hfx⟩
end Go.Proofs.YtcglmebcfeoedaaGreatDoor
