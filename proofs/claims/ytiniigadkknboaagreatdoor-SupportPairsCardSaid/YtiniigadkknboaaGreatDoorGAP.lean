/- Contracts and laws: GAP. -/
import Derived.Test.YtiniigadkknboaaGreatDoorGAO
import Derived.Test.YtiniigadkknboaaGreatDoorGAH
import Derived.Test.YtiniigadkknboaaGreatDoorGAK
import Derived.Deep.Cut

set_option maxRecDepth 100000
set_option maxHeartbeats 8000000
namespace Go.Proofs.YtiniigadkknboaaGreatDoor
open Go.RowKit Go.Lib
attribute [local go_sem ↓] Go.wp_at_zero Go.wp_at_succ
theorem VC (u v:Nat) (h:¬ ((tx (u:Int)).size≤18∧(tx (v:Int)).size≤18)) (hu:(tx (u:Int)).size≤1000000000) (hv:(tx (v:Int)).size≤1000000000) (w:World) :
 Calls Tryz.prog 171 #[.string (tx (u:Int)),.string (tx (v:Int))] w fun e w'=>e=.returned (.tuple #[.int .u64 0,.int .u64 0,.bool false])∧Fr w w':=by
 by_cases h1:(tx (u:Int)).size≤18
 ·have d1:decide ((18:Int) < ((tx (u:Int)).size:Int))=false:=Aa (by omega)
  have d2:decide ((18:Int) < ((tx (v:Int)).size:Int))=true:=Ab (by omega)
  go_enter Tryz.func171,Tryz.ntmps171
  go_wp2_with fail
  go_ret3
  exact ⟨rfl,Fr.refl _⟩
 ·have d1:decide ((18:Int) < ((tx (u:Int)).size:Int))=true:=Ab (by omega)
  go_enter Tryz.func171,Tryz.ntmps171
  go_wp2_with fail
  go_ret3
  exact ⟨rfl,Fr.refl _⟩
theorem ML {u:Nat} (h:(tx (u:Int)).size≤18):u < 1000000000000000000:=by
 have:=EO (n:=(u:Int)) (by rw [AJ]; exact h)
 unfold RU at this
 omega
theorem Iz (u v:Nat) (hu:(tx (u:Int)).size≤1000000000) (hv:(tx (v:Int)).size≤1000000000):∃ (x y:Nat) (b:Bool),(b=true→x=u∧y=v∧u < 1000000000000000000∧v < 1000000000000000000)∧(b=false→¬ ((tx (u:Int)).size≤18∧(tx (v:Int)).size≤18))∧(b=true∨b=false) ∧
 Hid (∀ W,Calls Tryz.prog 171 #[.string (tx (u:Int)),.string (tx (v:Int))] W fun e w'=>e=.returned (.tuple #[.int .u64 x,.int .u64 y,.bool b])∧Fr W w'):=by
 by_cases h:(tx (u:Int)).size≤18∧(tx (v:Int)).size≤18
 ·exact ⟨u,v,true,fun _=>⟨rfl,rfl,ML h.1,ML h.2⟩,fun e=>(by cases e),.inl rfl,fun W=>Xp u v h.1 h.2 (ML h.1) (ML h.2) W⟩
 ·exact ⟨0,0,false,fun e=>(by cases e),fun _=>h,.inr rfl,fun W=>VC u v h hu hv W⟩
theorem EP {u v:Nat} (h:u≤v):(tx (u:Int)).size≤(tx (v:Int)).size:=by
 have e:=fun x:Nat=>show (tx (x:Int)).size=(decDigits x).length by rw [Id,BV (by omega),AR,DU]
 rw [e,e]
 have h1:=(Cr (decDigits v) 0 (B6 _)).2
 rw [B5,AN,E8] at h1
 refine KO _ _ ?_ (A4 h h1)
 cases e9:decDigits v with
 | nil=>exact absurd e9 (EY v)
 | cons=>simp
theorem DY {u k:Nat} (h:(tx (u:Int)).size≤9 * k):(digs u).length≤k:=by
 have h0:(tx (u:Int)).size=(decDigits u).length:=by rw [Id,BV (by omega),AR,DU]
 rw [h0] at h
 have h1:=(Cr (decDigits u) 0 (B6 _)).2
 rw [B5,AN,E8] at h1
 refine Ed k u (Aq h1 ?_)
 rw [p9]
 exact BP (by decide) h
theorem Xq (u v:Nat) (hu:(tx (u:Int)).size≤400000000) (hv:(tx (v:Int)).size≤400000000) (huv:(digs (u * v)).length≤100000000) (w:World) (hG:G w) :
 Calls Tryz.prog 149 #[.string (tx (u:Int)),.string (tx (v:Int))] w fun e w'=>e=.returned (.string (tx ((u * v:Nat):Int)))∧Fr w w':=by
 by_cases hs:(tx (u:Int)).size+(tx (v:Int)).size≤18
 ·have h1:=ML (u:=u) (by omega)
  have h2:=ML (u:=v) (by omega)
  have h3:=MM (a:=(u:Int)) (b:=(v:Int)) (by rw [AJ,AJ]; exact hs)
  exact Zn u v hs h1 h2 (by have:((u * v:Nat):Int)≤9223372036854775807:=by rw [AM]; exact h3.2
                            omega) w hG
 ·have du:=DY (u:=u) (k:=100000000) (by omega)
  have dv:=DY (u:=v) (k:=100000000) (by omega)
  have hn:val (digs u) * val (digs v)=((u * v:Nat):Int):=by rw [B4,B4,AM]
  have hc1:=hZ (fun W (_:Fr w W)=>PN u W (by omega))
  have hc2:=hZ (fun W (_:Fr w W)=>PN v W (by omega))
  have ht:=hZ (fun W a b ca cb (hx:El W uv a (digs u)) (hy:El W uv b (digs v))=>Vx (digs u) (digs v) (u * v) hn a b ca cb W hx hy (BK u) (BK v) (by omega) (by omega))
  have hx:=hZ (fun W a c (he:El W uv a (digs (u * v)))=>PM (u * v) a c W he huv)
  obtain ⟨lu,hlu⟩:∃ lu,lu=(digs u).length:=⟨_,rfl⟩
  obtain ⟨lv,hlv⟩:∃ lv,lv=(digs v).length:=⟨_,rfl⟩
  obtain ⟨lm,hlm⟩:∃ lm,lm=(digs (u * v)).length:=⟨_,rfl⟩
  rw [← hlu,← hlv] at ht
  rw [← hlm] at hx
  replace hlu:=hZ hlu
  replace hlv:=hZ hlv
  replace hlm:=hZ hlm
  have ks:IntKind.i64.wrap (((tx (u:Int)).size:Int)+((tx (v:Int)).size:Int))=((tx (u:Int)).size:Int)+((tx (v:Int)).size:Int):=Ak _ (by omega)
  have ds:decide (((tx (u:Int)).size:Int)+((tx (v:Int)).size:Int)≤18)=false:=Aa (by omega)
  clear hn
  go_enter Tryz.func149,Tryz.ntmps149
  go_wp2_with fail
  refine (hc1.out _ (Fr.refl _)).mono ?_
  rintro e w1 ⟨v1,rfl,ho1,hn1,hf1⟩
  go_wp2_with fail
  refine (hc2.out _ hf1).mono ?_
  rintro e w2 ⟨v2,rfl,ho2,hn2,hf2⟩
  obtain ⟨a1,c1,rfl,he1,-,-⟩:=DW ho1
  obtain ⟨a2,c2,rfl,he2,-,-⟩:=DW ho2
  have ht9:=hZ (ht.out w2 a1 a2 c1 c2 (he1.fr hf2) he2)
  rw [← hlu.out,← hlv.out]
  clear ho1 ho2 hn1 hn2 he1 he2
  go_wp2_with fail
  refine ht9.out.mono ?_
  rintro e w3 ⟨v3,rfl,ho3,hn3,hf3⟩
  obtain ⟨a3,c3,rfl,he3,-,-⟩:=DW ho3
  have hx9:=hZ (hx.out w3 a3 c3 he3)
  rw [← hlm.out]
  clear ho3 hn3 he3
  go_wp2_with fail
  refine hx9.out.mono ?_
  rintro e w4 ⟨rfl,hf4⟩
  go_wp2_with fail
  go_ret
  exact ⟨rfl,((hf1.trans hf2).trans hf3).trans hf4⟩
theorem VH (u v:Nat) (hv0:v≠0) (hu:(tx (u:Int)).size≤400000000) (hv:(tx (v:Int)).size≤400000000) (w:World) (hG:G w) :
 Calls Tryz.prog 155 #[.string (tx (u:Int)),.string (tx (v:Int))] w fun e w'=>e=.returned (.tuple #[.string (tx ((u / v:Nat):Int)),.string (tx ((u % v:Nat):Int)),.int .i64 0])∧Fr w w':=by
 have hb0:=Cn (v:Int)
 rw [Aa (show ¬ (v:Int)=0 by omega)] at hb0
 obtain ⟨x,y,bb,hT,hF,hbb,hbo⟩:=Iz u v (by omega) (by omega)
 rcases hbb with rfl | rfl
 ·obtain ⟨rfl,rfl,hu9,hv9⟩:=hT rfl
  clear hT hF
  have e0:¬ (y:Int)=0:=by omega
  have e1:((y:Int) == 0)=false:=A2 e0
  have hq:=DA x y
  have hr:=Ya x y
  obtain ⟨q,hqd⟩:∃ q,q=x / y:=⟨_,rfl⟩
  obtain ⟨r,hrd⟩:∃ r,r=x % y:=⟨_,rfl⟩
  rw [← hqd] at hq
  rw [← hrd] at hr
  rw [← hqd,← hrd]
  have w8:(x:Int) / (y:Int)=(q:Int):=by rw [hqd]; exact (Ea x y).symm
  have w9:(x:Int) % (y:Int)=(r:Int):=by rw [hrd]; exact (KC x y).symm
  have w9t:(x:Int).tmod (y:Int)=(r:Int):=by rw [ID (by omega)]; exact w9
  have w8w:IntKind.u64.wrap (q:Int)=(q:Int):=AH _ (by omega)
  have w9w:IntKind.u64.wrap (r:Int)=(r:Int):=AH _ (by omega)
  have ho1:=hZ (fun W (hW:Fr w W)=>Yp q (by omega) W (hG.fr hW))
  have ho2:=hZ (fun W (hW:Fr w W)=>Yp r (by omega) W (hG.fr hW))
  replace hqd:=hZ hqd
  replace hrd:=hZ hrd
  go_enter Tryz.func155,Tryz.ntmps155
  go_wp2_with fail
  refine (hbo.out _).mono ?_
  rintro e w1 ⟨rfl,hf1⟩
  go_wp2_with fail
  have hfd:=hf1.drew
  refine wp_region_held_drew (S:=fun _=>True) (by kernel_rfl) trivial (fun hHeld=>?_)
  refine hK 0 ?_
  change wpAnyH _ _ _ _ _ _ _ (Act.put _ (some 26) _) _
  simp only [Act.put,Dz,DO,DN]
  refine hK 1 ?_
  change wpAnyH _ _ _ _ _ _ _ (Act.put _ (some 27) _) _
  simp only [Act.put,Dz,DO,DN]
  refine hK 2 ?_
  change wpAnyH _ _ _ _ _ _ _ (Act.put _ (some 28) _) _
  simp only [Act.put,Dz,DO,DN]
  refine hK 4 ?_
  change wpAnyH _ _ _ _ _ _ _ (Act.put _ (some 30) _) _
  simp only [Act.put,Dz,DO,DN]
  refine hK 5 ?_
  change wpAnyH _ _ _ _ _ _ _ (Act.put _ (some 31) _) _
  simp only [Act.put,Dz,DO,DN]
  refine hK 6 ?_
  change wpAnyH _ _ _ _ _ _ _ (Act.put _ (some 32) _) _
  simp only [Act.put,Dz,DO,DN]
  refine hC 3 (fun K hK=>?_)
  go_simp
  (refine (ho1.out _ hfd).mono ?_; rintro e w2 ⟨rfl,hf2⟩)
  go_wp2_with fail
  refine hK.out _ _ (trivial) (fun hHeld=>?_)
  clear hK K
  refine hC 7 (fun K hK=>?_)
  go_simp
  (refine (ho2.out _ (hfd.trans hf2)).mono ?_; rintro e w3 ⟨rfl,hf3⟩)
  go_wp2_with fail
  refine hK.out _ _ (trivial) (fun hHeld=>?_)
  clear hK K
  refine hK 8 ?_
  change wpAnyH _ _ _ _ _ _ _ (Act.put _ (some 4) _) _
  simp only [Act.put,Dz,DO,DN]
  refine hK 9 ?_
  change wpAnyH _ _ _ _ _ _ _ (Act.put _ (some 5) _) _
  simp only [Act.put,Dz,DO,DN]
  refine hK 10 ?_
  change wpAnyH _ _ _ _ _ _ _ (Act.put _ (some 6) _) _
  simp only [Act.put,Dz,DO,DN]
  refine wpAnyH_done (by kernel_rfl) ?_ _
  go_wp2_with fail
  go_ret3
  exact ⟨rfl,(hfd.trans hf2).trans hf3⟩
 ·have hF:=hF rfl
  clear hT
  have du:=DY (u:=u) (k:=50000000) (by omega)
  have dv:=DY (u:=v) (k:=50000000) (by omega)
  have hlv0:(digs v).length≠0:=fun e=>hv0 (Dv.1 (Ky.1 e))
  have hc1:=hZ (fun W (_:Fr w W)=>PN u W (by omega))
  have hc2:=hZ (fun W (_:Fr w W)=>PN v W (by omega))
  have hcm:=hZ (fun W a b ca cb (hx:El W uv a (digs u)) (hy:El W uv b (digs v))=>VB u v a b ca cb W hx hy (by omega) (by omega))
  have hdv:=hZ (fun W a b ca cb (hx:El W uv a (digs u)) (hy:El W uv b (digs v)) (h2:2≤(digs v).length) (h3:v≤u)=>WQ u v a b ca cb W hx hy (by omega) h2 h3)
  have hsm:=hZ (fun W a ca (hx:El W uv a (digs u)) (h9:v < 1000000000)=>Vz u v (by omega) h9 a ca W hx (by omega))
  have hq1:(digs (u / v)).length≤(digs u).length:=CS (DA u v)
  have hq2:(digs (u % v)).length≤(digs u).length:=CS (Ya u v)
  have hx1:=hZ (fun W a c (he:El W uv a (digs (u / v)))=>PM (u / v) a c W he (by omega))
  have hx2:=hZ (fun W a c (he:El W uv a (digs (u % v)))=>PM (u % v) a c W he (by omega))
  have hof:=hZ (fun W (hW:Fr w W) (h9:v < 1000000000)=>Yp (u % v) (by have:=CE u (show 0 < v by omega); omega) W (hG.fr hW))
  have hv1:Hid ((digs v).length=1→v < 1000000000):=fun e=>by
   have:=Cx v
   rw [e] at this
   exact this
  have hle2:=hZ (fun e:(digs v).length=1=>HY v 0)
  obtain ⟨lu,hlu⟩:∃ lu,lu=(digs u).length:=⟨_,rfl⟩
  obtain ⟨lv,hlv⟩:∃ lv,lv=(digs v).length:=⟨_,rfl⟩
  rw [← hlu,← hlv] at hcm
  rw [← hlu,← hlv] at hdv
  rw [← hlu] at hsm
  rw [← hlv] at hv1 hlv0 dv
  replace hlu:=hZ hlu
  replace hlv:=hZ hlv
  clear hq1 hq2 du hle2
  go_enter Tryz.func155,Tryz.ntmps155
  go_wp2_with fail
  refine (hbo.out _).mono ?_
  rintro e w0 ⟨rfl,hf0⟩
  go_wp2_with fail
  refine (hc1.out _ hf0).mono ?_
  rintro e w1 ⟨v1,rfl,ho1,hn1,hf1⟩
  go_wp2_with fail
  refine (hc2.out _ (hf0.trans hf1)).mono ?_
  rintro e w2 ⟨v2,rfl,ho2,hn2,hf2⟩
  obtain ⟨a1,c1,rfl,he1,-,-⟩:=DW ho1
  obtain ⟨a2,c2,rfl,he2,-,-⟩:=DW ho2
  have hfw2:=(hf0.trans hf1).trans hf2
  have he1':=he1.fr hf2
  have hcm9:=hZ (hcm.out w2 a1 a2 c1 c2 he1' he2)
  rw [← hlu.out,← hlv.out]
  clear ho1 ho2 hn1 hn2 he1
  by_cases hlt:u < v
  ·have hs:=IR hlt
   have d1:decide ((-1:Int) < 0)=true:=by decide
   have q0:u / v=0:=Hd hlt
   have q1:u % v=u:=CH hlt
   have q2:tx ((0:Nat):Int)=⟨#[48]⟩:=HP
   rw [hs] at hcm9
   replace q0:=hZ q0
   replace q1:=hZ q1
   replace q2:=hZ q2
   replace hs:=hZ hs
   go_wp2_with fail
   refine hcm9.out.mono ?_
   rintro e w3 ⟨rfl,hf3⟩
   go_wp2_with fail
   go_ret3
   exact ⟨by rw [q0.out,q1.out,q2.out]; rfl,hfw2.trans hf3⟩
  ·have hs:0≤Ej u v:=by unfold Ej; rw [Ag hlt]; split <;> omega
   generalize Ej u v=sg at *
   have d1:decide (sg < 0)=false:=Aa (by omega)
   by_cases h1:lv=1
   ·have hv9:=hv1.out h1
    have e1:((lv:Int) == 1)=true:=by rw [h1]; rfl
    obtain ⟨b2,o2,rfl,-,hcell⟩:=El.at_gd he2 (i:=0) (by rw [← hlv.out]; omega)
    rw [HY,Em,E9,CH hv9,DG] at hcell
    have hsm9:=hZ (fun W (hW:Fr w2 W)=>hsm.out W a1 c1 (he1'.fr hW) hv9)
    have z1:(0:Int) < (lv:Int):=by omega
    replace h1:=hZ h1
    go_wp2_with fail
    refine hcm9.out.mono ?_
    rintro e w3 ⟨rfl,hf3⟩
    have hcell3:=hf3.keep hcell
    have h9:=hZ (hsm9.out w3 hf3)
    clear hcell
    go_wp2_with fail
    refine h9.out.mono ?_
    rintro e w4 ⟨a4,c4,rfl,he4,-,hf4⟩
    have h8:=hZ (hx1.out w4 a4 c4 he4)
    generalize (digs (u / v)).length=l4 at *
    go_wp2_with fail
    refine h8.out.mono ?_
    rintro e w5 ⟨rfl,hf5⟩
    have hfw5:=((hfw2.trans hf3).trans hf4).trans hf5
    have h7:=hZ (hof.out w5 hfw5 hv9)
    go_wp2_with fail
    refine h7.out.mono ?_
    rintro e w6 ⟨rfl,hf6⟩
    go_wp2_with fail
    go_ret3
    exact ⟨rfl,hfw5.trans hf6⟩
   ·have e1:((lv:Int) == 1)=false:=A2 (by omega)
    have hdv9:=hZ (fun W (hW:Fr w2 W)=>hdv.out W a1 a2 c1 c2 (he1'.fr hW) (he2.fr hW) (by omega) (by omega))
    go_wp2_with fail
    refine hcm9.out.mono ?_
    rintro e w3 ⟨rfl,hf3⟩
    have h9:=hZ (hdv9.out w3 hf3)
    go_wp2_with fail
    refine h9.out.mono ?_
    rintro e w4 ⟨a4,c4,a5,c5,rfl,he4,he5,-,-,hf4⟩
    have h8:=hZ (hx1.out w4 a4 c4 he4)
    have h7:=hZ (fun W (hW:Fr w4 W)=>hx2.out W a5 c5 (he5.fr hW))
    generalize (digs (u / v)).length=l4 at *
    generalize (digs (u % v)).length=l5 at *
    go_wp2_with fail
    refine h8.out.mono ?_
    rintro e w5 ⟨rfl,hf5⟩
    have h6:=hZ (h7.out w5 hf5)
    go_wp2_with fail
    refine h6.out.mono ?_
    rintro e w6 ⟨rfl,hf6⟩
    go_wp2_with fail
    go_ret3
    exact ⟨rfl,(((hfw2.trans hf3).trans hf4).trans hf5).trans hf6⟩
theorem Xr (u v:Nat) (hu:(tx (u:Int)).size≤400000000) (hv:(tx (v:Int)).size≤400000000) (w:World) (hG:G w) :
 Calls Tryz.prog 260 #[.string (tx (u:Int)),.string (tx (v:Int))] w fun e w'=>e=.returned (.string (tx ((Nat.gcd u v:Nat):Int)))∧Fr w w':=by
 obtain ⟨g,hg⟩:∃ g,g=Nat.gcd u v:=⟨_,rfl⟩
 rw [← hg]
 have hg0:Hid (Nat.gcd u v=g):=hg.symm
 clear hg
 go_enter Tryz.func260,Tryz.ntmps260
 go_wp2_with fail
 go_loopg [0,1] v (fun k s0 s1 wr=>∃ x:Nat,s0=.string (tx (x:Int))∧s1=.string (tx (k:Int))∧(tx (x:Int)).size≤400000000∧(tx (k:Int)).size≤400000000∧Fr w wr∧Hid (Nat.gcd x k=g))
 case atStart=>exact ⟨u,rfl,rfl,hu,hv,Fr.refl _,hg0⟩
 case round=>
  clear hg0 hu hv
  obtain ⟨x,rfl,rfl,hx,hk,hf,hgx⟩:=hrel
  obtain ⟨y,rfl⟩:∃ y:Nat,y=gk:=⟨_,rfl⟩
  have hb0:=Cn (y:Int)
  by_cases h0:y=0
  ·rw [Ab (show (y:Int)=0 by omega)] at hb0
   have hfin:Hid (x=g):=by have:=hgx.out; rw [h0,QW] at this; exact this
   replace h0:=hZ h0
   go_wp2_with fail
   go_ret
   exact ⟨by rw [← hfin.out]; rfl,hf⟩
  ·rw [Aa (show ¬ (y:Int)=0 by omega)] at hb0
   have hd:=hZ (VH x y h0 hx hk wr (hG.fr hf))
   have hrl:=CE x (show 0 < y by omega)
   have hrs:(tx ((x % y:Nat):Int)).size≤400000000:=by
    refine As ?_ hk
    exact EP (by omega)
   have hgr:Hid (Nat.gcd y (x % y)=g):=by
    have:=hgx.out
    rw [DF,ZN,DF] at this
    exact this
   generalize x % y=r at *
   generalize x / y=q at *
   go_wp2_with fail
   refine hd.out.mono ?_
   rintro e w3 ⟨rfl,hf3⟩
   go_wp2_with fail
   go_roundg r
   case measure=>omega
   case rel=>exact ⟨y,rfl,rfl,hk,hrs,hf.trans hf3,hgr⟩
theorem GA (l:List Int) (k j:Nat):gd (l ++ List.replicate k 0) j=gd l j:=by
 unfold gd
 by_cases h:j < l.length
 ·rw [Bt h]
 ·rw [Bi (by omega),A3 (l:=l) (by omega),Cc]
  split <;> rfl
theorem II (l:List Int) {m:Nat} (h:l.length≤m):vF (gd l) m=val l:=by
 rw [FJ]
 obtain ⟨d,rfl⟩:∃ d,m=l.length+d:=⟨m - l.length,by omega⟩
 exact GV d fun j h1 _=>by unfold gd; rw [A3 h1]; rfl
theorem KW {f:Nat→Int} {N s:Nat} (hd:∀ j,j < N→0≤f j∧f j < 1000000000) (hv:vF f N=(s:Int)):BA ((List.range N).map f)=digs s:=by
 have hdg:Dg ((List.range N).map f):=fun x hx=>by
  obtain ⟨i,hi,rfl⟩:=Bc.1 hx
  exact hd i (BH.1 hi)
 have e:val ((List.range N).map f)=(s:Int):=by
  rw [FJ,An,Co,← hv]
  exact Fe N fun j hj=>Uz f hj
 rw [Dp hdg,e,AR]
theorem RQ {u v m:Nat} (hu:(digs u).length=m) (hv:(digs v).length≤m) (P Q:Nat→Int) (hP:∀ j,P j=gd (digs u) j) (hQ:∀ j,Q j=gd (digs v) j) :
 (∀ j,j < m+1→0≤Mb P Q m 0 (m+1) j∧Mb P Q m 0 (m+1) j < 1000000000)∧vF (Mb P Q m 0 (m+1)) (m+1)=((u+v:Nat):Int):=by
 have hb:=UX (p:=fun j=>P (0+j)) (q:=Q) (m:=m)
 have hpd:∀ j,0≤P j∧P j < 1000000000:=fun j=>by rw [hP]; exact DP (BK u) j
 have hqd:∀ j,0≤Q j∧Q j < 1000000000:=fun j=>by rw [hQ]; exact DP (BK v) j
 have hc:=RP (p:=fun j=>P (0+j)) (q:=Q) (m:=m) (fun j _=>hpd _) (fun j _=>hqd _) (m+1) (by omega)
 have e1:vF (fun j=>P (0+j)) (m+1)=u:=by
  rw [Fe _ (fun j _=>by rw [AN,hP]),II _ (by omega),B4]
 have e2:vF Q m=v:=by rw [Fe _ (fun j _=>hQ j),II _ hv,B4]
 have hU:=Cx u
 have hV:=Cx v
 have hV2:v < 1000000000 ^ m:=Aq hV (BP (by decide) hv)
 rw [hu] at hU
 have hbo:=fun j (_:j < m+1)=>QB (fun j=>P (0+j)) Q m j
 have h1:=J8 (m+1) (fun j hj=>(hbo j hj).1)
 have hF:∀ j,j < m+1→Mb P Q m 0 (m+1) j=PY (fun j=>P (0+j)) Q m j:=fun j hj=>by
  unfold Mb; rw [Ai (by omega),DD]
 refine ⟨fun j hj=>by rw [hF j hj]; exact hbo j hj, ?_⟩
 rw [Fe _ hF]
 rw [e1,e2] at hb
 rcases hc with hc | hc
 ·rw [hc] at hb; omega
 ·rw [hc,JG,Br] at hb; omega
theorem V3 {u v m:Nat} (hu:(digs u).length=m) (hle:v≤u) (P Q:Nat→Int) (hP:∀ j,P j=gd (digs u) j) (hQ:∀ j,Q j=gd (digs v) j) :
 (∀ j,j < m+1→0≤IK P Q 1 m 0 (m+1) j∧IK P Q 1 m 0 (m+1) j < 1000000000)∧vF (IK P Q 1 m 0 (m+1)) (m+1)=((u - v:Nat):Int):=by
 have hv:(digs v).length≤m:=by rw [← hu]; exact CS hle
 have hpd:∀ j,0≤P j∧P j < 1000000000:=fun j=>by rw [hP]; exact DP (BK u) j
 have hqd:∀ j,0≤Q j∧Q j < 1000000000:=fun j=>by rw [hQ]; exact DP (BK v) j
 have ha:=Tw (p:=fun j=>P (0+j)) (q:=Q) (n:=1) (m:=m) (fun j _=>hpd _) (fun j _=>hqd _) ⟨by decide,by decide⟩
 have hc:=(K0 (p:=fun j=>P (0+j)) (q:=Q) (n:=1) (m:=m) (fun j _=>hpd _) (fun j _=>hqd _) ⟨by decide,by decide⟩ (m+1) (by omega)).2
 have e1:vF (fun j=>P (0+j)) (m+1)=u:=by
  rw [Fe _ (fun j _=>by rw [AN,hP]),II _ (by omega),B4]
 have e2:vF Q m=v:=by rw [Fe _ (fun j _=>hQ j),II _ hv,B4]
 have hbo:=fun j (hj:j < m+1)=>P6 (p:=fun j=>P (0+j)) (q:=Q) (n:=1) (m:=m) (fun j _=>hpd _) (fun j _=>hqd _) ⟨by decide,by decide⟩ (k:=j) (by omega)
 have h1:=J8 (m+1) (fun j hj=>(hbo j hj).1)
 have h2:=Mw (m+1) hbo
 have hF:∀ j,j < m+1→IK P Q 1 m 0 (m+1) j=L8 (fun j=>P (0+j)) Q 1 m j:=fun j hj=>by
  unfold IK; rw [Ai (by omega),DD]
 refine ⟨fun j hj=>by rw [hF j hj]; exact hbo j hj, ?_⟩
 rw [Fe _ hF]
 rw [e1,e2] at ha
 rcases hc with hc | hc
 ·rw [hc] at ha; omega
 ·rw [hc] at ha; omega
theorem WD {u v k:Nat} (du:(digs u).length≤k) (dv:(digs v).length≤k):(digs (u+v)).length≤k+1:=by
 refine Ed (k+1) _ ?_
 have h1:=Aq (Cx u) (BP (n:=1000000000) (by decide) du)
 have h2:=Aq (Cx v) (BP (n:=1000000000) (by decide) dv)
 rw [Br]
 generalize 1000000000 ^ k=B at *
 omega
theorem Xs (u v:Nat) (hu:(tx (u:Int)).size≤400000000) (hv:(tx (v:Int)).size≤400000000) (w:World) (hG:G w) :
 Calls Tryz.prog 146 #[.string (tx (u:Int)),.string (tx (v:Int))] w fun e w'=>e=.returned (.string (tx ((u+v:Nat):Int)))∧Fr w w':=by
 obtain ⟨i0,hi,hz0,hz1,hz2⟩:=AZ HW
 obtain ⟨x,y,bb,hT,hF,hbb,hbo⟩:=Iz u v (by omega) (by omega)
 rcases hbb with rfl | rfl
 ·obtain ⟨rfl,rfl,hu9,hv9⟩:=hT rfl
  clear hT hF
  have kw:IntKind.u64.wrap ((x:Int)+(y:Int))=((x+y:Nat):Int):=by rw [AH _ (by omega)]; omega
  obtain ⟨z,hz⟩:∃ z,z=x+y:=⟨_,rfl⟩
  rw [← hz] at kw
  rw [← hz]
  have ho:=hZ (fun W (hW:Fr w W)=>Yp z (by omega) W (hG.fr hW))
  replace hz:=hZ hz
  go_enter Tryz.func146,Tryz.ntmps146
  go_wp2_with fail
  refine (hbo.out _).mono ?_
  rintro e w1 ⟨rfl,hf1⟩
  have h9:=hZ (ho.out w1 hf1)
  go_wp2_with fail
  refine h9.out.mono ?_
  rintro e w2 ⟨rfl,hf2⟩
  go_wp2_with fail
  go_ret
  exact ⟨rfl,hf1.trans hf2⟩
 ·clear hT
  have du:=DY (u:=u) (k:=50000000) (by omega)
  have dv:=DY (u:=v) (k:=50000000) (by omega)
  have hc1:=hZ (fun W (_:Fr w W)=>PN u W (by omega))
  have hc2:=hZ (fun W (_:Fr w W)=>PN v W (by omega))
  have hsl:(digs (u+v)).length≤50000001:=WD du dv
  have hx1:=hZ (fun W a c (he:El W uv a (digs (u+v)))=>PM (u+v) a c W he (by omega))
  obtain ⟨lu,hlu⟩:∃ lu,lu=(digs u).length:=⟨_,rfl⟩
  obtain ⟨lv,hlv⟩:∃ lv,lv=(digs v).length:=⟨_,rfl⟩
  rw [← hlu] at du
  rw [← hlv] at dv
  replace hlu:=hZ hlu
  replace hlv:=hZ hlv
  go_enter Tryz.func146,Tryz.ntmps146
  go_wp2_with fail
  refine (hbo.out _).mono ?_
  rintro e w0 ⟨rfl,hf0⟩
  go_wp2_with fail
  refine (hc1.out _ hf0).mono ?_
  rintro e w1 ⟨v1,rfl,ho1,hn1,hf1⟩
  go_wp2_with fail
  refine (hc2.out _ (hf0.trans hf1)).mono ?_
  rintro e w2 ⟨v2,rfl,ho2,hn2,hf2⟩
  obtain ⟨g1,c1,rfl,hgb1,hgc1,hgw1⟩:=ES ho1 (.inr hn1)
  obtain ⟨g2,c2,rfl,hgb2,hgc2,hgw2⟩:=ES ho2 (.inr hn2)
  have hfw2:=(hf0.trans hf1).trans hf2
  have ho1b:=Cw (Bg ho1 hf2) hf0.size
  have ho2b:=Cw ho2 (hf0.trans hf1).size
  rw [← hlu.out] at ho1b
  rw [← hlv.out] at ho2b
  rw [← hlu.out,← hlv.out]
  have hg12:g1 < g2:=by omega
  clear ho1 ho2 hn1 hn2
  by_cases hlt:lu < lv
  ·have dl:decide ((lu:Int) < (lv:Int))=true:=Ab (by omega)
   rw [Gf u v] at hx1
   have hk9:lu+(lv - lu)=lv:=by omega
   obtain ⟨kz,hkz⟩:∃ kz,kz=lv - lu:=⟨_,rfl⟩
   have hkz2:lu+kz=lv:=by omega
   have kw1:IntKind.i64.wrap (((lv+1:Nat):Int) - 1)=(lv:Int):=by rw [Ak _ (by omega)]; omega
   have kw2:IntKind.i64.wrap ((lv:Int) - (lu:Int))=(kz:Int):=by rw [Ak _ (by omega)]; omega
   have kw3:((lv+1:Nat):Int) - 1=(lv:Int):=by omega
   have kw4:IntKind.i64.wrap (lv:Int)=(lv:Int):=Ak _ (by omega)
   replace hkz:=hZ hkz
   have hownP:=ho2b
   go_upto_region 8 with (at_builtin; refine wpList_append_lies _ rfl _ _ 229 (by rfl) _ 224 _ _ 1 8 Tryz.underlying229 hi hz0 hz1 hz2 rfl (by decide) _ lv _ (by rfl) (Az hownP _) ⟨w2.heap.size,0,none⟩ 1 1 [.int .u64 0] (by rfl) rfl (AK _ _ _ _ (by simp)) (by simp [Value.oneCell']) (by decide) (by unfold maxLen; omega) (by omega) (by have:=hfw2.size; simp; omega) (w2.heap.size+1) (by simp) ?_; intro gA capA wA hownA hgrowA hatA hltA)
   have hAl:((digs v).map uv ++ [Value.int .u64 0])=(digs v ++ [0]).map uv:=by rw [Ay]; rfl
   rw [hAl] at hownA
   have hfA:Fr w wA:=(hfw2.alloc _).grown hgrowA (fun k e=>(ho2b.lt k e).1)
   have hgA:=hownA.lt gA rfl
   have hA2:gA≠g1:=by
    rcases hatA with h | h
    ·have h:g2=gA:=by simpa [Value.ownBlock] using h
     omega
    ·have:=(ho1b.lt g1 rfl).2; omega
   have hownQ:=BW (ho1b.alloc (.cells #[.int .u64 0] 224)) (Fx.of_grown hgrowA) (fun q hq e=>by
    have hq:some g1=some q:=hq
    have e:some g2=some q:=e
    injection hq with hq
    injection e with e
    omega)
   have hNc:=(Bo hownA).2.2.2.1
   obtain ⟨g3,c3,w3,hr3,hown3,hgr3,hg3⟩:=Ga (P:=Tryz.prog) wA w.heap.size 229 3 229 224 i0 (.int .u64 0) 8 .i64 .i64 Tryz.underlying229 Tryz.underlying3 hi hz0 hz1 hz2 rfl rfl g1 lu c1 kz _ hownQ (by unfold maxLen; omega) (by omega) hfA.size
   have hfx3:=Fx.of_grown hgr3
   have hA3:=BW hownA hfx3 (fun q hq e=>by have hq:some gA=some q:=hq; have e:some g1=some q:=e; injection hq with hq; injection e with e; omega)
   have hg3A:g3≠gA:=by rcases hg3 with e | e; omega; omega
   have hZl:((digs u).map uv ++ List.replicate kz (Value.int .u64 0))=(digs u ++ List.replicate kz 0).map uv:=by rw [Ay,En]
   rw [hZl] at hown3
   rw [hkz2] at hown3 hr3
   have hP3:=DM hA3
   have hQ3:=(DM hown3).rd
   have hfr3:Fr w w3:=hfA.grown hgr3 (fun k e=>by have e:some g1=some k:=e; injection e with e; have:=(ho1b.lt g1 rfl).1; omega)
   go_wp2_with (at_builtin; refine wpList_append_run _ rfl _ _ _ _ rfl _ _ rfl rfl _ _ hr3 ?_)
   have hfin:=RQ (u:=v) (v:=u) (m:=lv) hlv.out.symm (by rw [← hlu.out]; omega) (gd (digs v ++ [0])) (gd (digs u ++ List.replicate kz 0)) (fun j=>EF _ _) (fun j=>GA _ _ _)
   refine (R5 gA (lv+1) capA 0 lv g3 0 c3 (gd (digs v ++ [0])) (gd (digs u ++ List.replicate kz 0)) w3 hP3 hQ3 hg3A (by omega) (by omega) (fun j _=>by rw [AN,EF]; exact DP (BK _) j) (fun j _=>by rw [GA]; exact DP (BK _) j)).mono ?_
   rintro e w4 ⟨rfl,hfx4,hA4⟩
   have hEl:=hA4.el
   have hll:((List.range (lv+1)).map (Mb (gd (digs v ++ [0])) (gd (digs u ++ List.replicate kz 0)) lv 0 (lv+1))).length=lv+1:=by rw [An,Co]
   have htr:=Jj ((List.range (lv+1)).map (Mb (gd (digs v ++ [0])) (gd (digs u ++ List.replicate kz 0)) lv 0 (lv+1))) (some ⟨gA,0,none⟩) capA w4 hEl (by rw [hll]; omega) (by rw [hll]; exact hNc)
   have hTl:=KW hfin.1 hfin.2
   have hle:=(BS ((List.range (lv+1)).map (Mb (gd (digs v ++ [0])) (gd (digs u ++ List.replicate kz 0)) lv 0 (lv+1)))).2
   have hEt:El w4 uv (some ⟨gA,0,none⟩) (digs (v+u)):=by rw [← hTl,(BS ((List.range (lv+1)).map (Mb (gd (digs v ++ [0])) (gd (digs u ++ List.replicate kz 0)) lv 0 (lv+1)))).1]; exact G7 hEl _
   rw [hTl,hll] at htr
   replace htr:=hZ htr
   have hxx:=hZ (fun W (hW:Fr w4 W)=>hx1.out W (some ⟨gA,0,none⟩) capA (hEt.fr hW))
   generalize (digs (v+u)).length=l9 at *
   have hf4:Fr w w4:=((Fx.of_fr hfr3).trans hfx4).toFr (fun k hk e=>by have e:k=gA:=e; omega)
   clear hEl hll hTl hle hEt hfin hA4 hP3 hQ3
   go_wp2_with fail
   refine htr.out.mono ?_
   rintro e w5 ⟨rfl,hf5⟩
   have h9:=hZ (hxx.out w5 hf5)
   go_wp2_with fail
   refine h9.out.mono ?_
   rintro e w6 ⟨rfl,hf6⟩
   go_wp2_with fail
   go_ret
   exact ⟨by rw [Gf u v]; rfl,(hf4.trans hf5).trans hf6⟩
  ·have dl:decide ((lu:Int) < (lv:Int))=false:=Aa (by omega)
   have hk9:lv+(lu - lv)=lu:=by omega
   obtain ⟨kz,hkz⟩:∃ kz,kz=lu - lv:=⟨_,rfl⟩
   have hkz2:lv+kz=lu:=by omega
   have kw1:IntKind.i64.wrap (((lu+1:Nat):Int) - 1)=(lu:Int):=by rw [Ak _ (by omega)]; omega
   have kw2:IntKind.i64.wrap ((lu:Int) - (lv:Int))=(kz:Int):=by rw [Ak _ (by omega)]; omega
   have kw3:((lu+1:Nat):Int) - 1=(lu:Int):=by omega
   have kw4:IntKind.i64.wrap (lu:Int)=(lu:Int):=Ak _ (by omega)
   replace hkz:=hZ hkz
   have hownP:=ho1b
   go_upto_region 8 with (at_builtin; refine wpList_append_lies _ rfl _ _ 229 (by rfl) _ 224 _ _ 1 8 Tryz.underlying229 hi hz0 hz1 hz2 rfl (by decide) _ lu _ (by rfl) (Az hownP _) ⟨w2.heap.size,0,none⟩ 1 1 [.int .u64 0] (by rfl) rfl (AK _ _ _ _ (by simp)) (by simp [Value.oneCell']) (by decide) (by unfold maxLen; omega) (by omega) (by have:=hfw2.size; simp; omega) (w2.heap.size+1) (by simp) ?_; intro gA capA wA hownA hgrowA hatA hltA)
   have hAl:((digs u).map uv ++ [Value.int .u64 0])=(digs u ++ [0]).map uv:=by rw [Ay]; rfl
   rw [hAl] at hownA
   have hfA:Fr w wA:=(hfw2.alloc _).grown hgrowA (fun k e=>(ho1b.lt k e).1)
   have hgA:=hownA.lt gA rfl
   have hA2:gA≠g2:=by
    rcases hatA with h | h
    ·have h:g1=gA:=by simpa [Value.ownBlock] using h
     omega
    ·have:=(ho2b.lt g2 rfl).2; omega
   have hownQ:=BW (ho2b.alloc (.cells #[.int .u64 0] 224)) (Fx.of_grown hgrowA) (fun q hq e=>by
    have hq:some g2=some q:=hq
    have e:some g1=some q:=e
    injection hq with hq
    injection e with e
    omega)
   have hNc:=(Bo hownA).2.2.2.1
   obtain ⟨g3,c3,w3,hr3,hown3,hgr3,hg3⟩:=Ga (P:=Tryz.prog) wA w.heap.size 229 3 229 224 i0 (.int .u64 0) 8 .i64 .i64 Tryz.underlying229 Tryz.underlying3 hi hz0 hz1 hz2 rfl rfl g2 lv c2 kz _ hownQ (by unfold maxLen; omega) (by omega) hfA.size
   have hfx3:=Fx.of_grown hgr3
   have hA3:=BW hownA hfx3 (fun q hq e=>by have hq:some gA=some q:=hq; have e:some g2=some q:=e; injection hq with hq; injection e with e; omega)
   have hg3A:g3≠gA:=by rcases hg3 with e | e; omega; omega
   have hZl:((digs v).map uv ++ List.replicate kz (Value.int .u64 0))=(digs v ++ List.replicate kz 0).map uv:=by rw [Ay,En]
   rw [hZl] at hown3
   rw [hkz2] at hown3 hr3
   have hP3:=DM hA3
   have hQ3:=(DM hown3).rd
   have hfr3:Fr w w3:=hfA.grown hgr3 (fun k e=>by have e:some g2=some k:=e; injection e with e; have:=(ho2b.lt g2 rfl).1; omega)
   go_wp2_with (at_builtin; refine wpList_append_run _ rfl _ _ _ _ rfl _ _ rfl rfl _ _ hr3 ?_)
   have hfin:=RQ (u:=u) (v:=v) (m:=lu) hlu.out.symm (by rw [← hlv.out]; omega) (gd (digs u ++ [0])) (gd (digs v ++ List.replicate kz 0)) (fun j=>EF _ _) (fun j=>GA _ _ _)
   refine (R5 gA (lu+1) capA 0 lu g3 0 c3 (gd (digs u ++ [0])) (gd (digs v ++ List.replicate kz 0)) w3 hP3 hQ3 hg3A (by omega) (by omega) (fun j _=>by rw [AN,EF]; exact DP (BK _) j) (fun j _=>by rw [GA]; exact DP (BK _) j)).mono ?_
   rintro e w4 ⟨rfl,hfx4,hA4⟩
   have hEl:=hA4.el
   have hll:((List.range (lu+1)).map (Mb (gd (digs u ++ [0])) (gd (digs v ++ List.replicate kz 0)) lu 0 (lu+1))).length=lu+1:=by rw [An,Co]
   have htr:=Jj ((List.range (lu+1)).map (Mb (gd (digs u ++ [0])) (gd (digs v ++ List.replicate kz 0)) lu 0 (lu+1))) (some ⟨gA,0,none⟩) capA w4 hEl (by rw [hll]; omega) (by rw [hll]; exact hNc)
   have hTl:=KW hfin.1 hfin.2
   have hle:=(BS ((List.range (lu+1)).map (Mb (gd (digs u ++ [0])) (gd (digs v ++ List.replicate kz 0)) lu 0 (lu+1)))).2
   have hEt:El w4 uv (some ⟨gA,0,none⟩) (digs (u+v)):=by rw [← hTl,(BS ((List.range (lu+1)).map (Mb (gd (digs u ++ [0])) (gd (digs v ++ List.replicate kz 0)) lu 0 (lu+1)))).1]; exact G7 hEl _
   rw [hTl,hll] at htr
   replace htr:=hZ htr
   have hxx:=hZ (fun W (hW:Fr w4 W)=>hx1.out W (some ⟨gA,0,none⟩) capA (hEt.fr hW))
   generalize (digs (u+v)).length=l9 at *
   have hf4:Fr w w4:=((Fx.of_fr hfr3).trans hfx4).toFr (fun k hk e=>by have e:k=gA:=e; omega)
   clear hEl hll hTl hle hEt hfin hA4 hP3 hQ3
   go_wp2_with fail
   refine htr.out.mono ?_
   rintro e w5 ⟨rfl,hf5⟩
   have h9:=hZ (hxx.out w5 hf5)
   go_wp2_with fail
   refine h9.out.mono ?_
   rintro e w6 ⟨rfl,hf6⟩
   go_wp2_with fail
   go_ret
   exact ⟨rfl,(hf4.trans hf5).trans hf6⟩
theorem VD (u v:Nat) (hle:v≤u) (hu:(tx (u:Int)).size≤400000000) (w:World) (hG:G w) :
 Calls Tryz.prog 148 #[.string (tx (u:Int)),.string (tx (v:Int))] w fun e w'=>e=.returned (.tuple #[.string (tx ((u - v:Nat):Int)),.int .i64 0])∧Fr w w':=by
 obtain ⟨i0,hi,hz0,hz1,hz2⟩:=AZ HW
 have hv:=As (EP hle) hu
 obtain ⟨x,y,bb,hT,hF,hbb,hbo⟩:=Iz u v (by omega) (by omega)
 have hcm:=hZ (fun W (_:Fr w W)=>KP u v W (by have:=CL u; omega) (by have:=CL v; omega))
 have hc0:decide (FG u v < 0)=false:=by
  refine Aa ?_
  unfold FG
  split <;> omega
 generalize FG (u:Int) (v:Int)=cm at *
 rcases hbb with rfl | rfl
 ·obtain ⟨rfl,rfl,hu9,hv9⟩:=hT rfl
  clear hT hF
  obtain ⟨z,hz⟩:∃ z,z=x - y:=⟨_,rfl⟩
  have kw:IntKind.u64.wrap ((x:Int) - (y:Int))=(z:Int):=by rw [AH _ (by omega)]; omega
  rw [← hz]
  have ho:=hZ (fun W (hW:Fr w W)=>Yp z (by omega) W (hG.fr hW))
  replace hz:=hZ hz
  replace hle:=hZ hle
  go_enter Tryz.func148,Tryz.ntmps148
  go_wp2_with fail
  refine (hcm.out _ (Fr.refl _)).mono ?_
  rintro e w0 ⟨rfl,rfl⟩
  go_wp2_with fail
  refine (hbo.out _).mono ?_
  rintro e w1 ⟨rfl,hf1⟩
  have h9:=hZ (ho.out w1 hf1)
  go_wp2_with fail
  refine h9.out.mono ?_
  rintro e w2 ⟨rfl,hf2⟩
  go_wp2_with fail
  go_ret2
  exact ⟨rfl,hf1.trans hf2⟩
 ·clear hT
  have du:=DY (u:=u) (k:=50000000) (by omega)
  have dv:=DY (u:=v) (k:=50000000) (by omega)
  have hc1:=hZ (fun W (_:Fr w W)=>PN u W (by omega))
  have hc2:=hZ (fun W (_:Fr w W)=>PN v W (by omega))
  have hsl:(digs (u - v)).length≤50000000:=As (CS (X9 u v)) du
  have hdl:=CS hle
  have hx1:=hZ (fun W a c (he:El W uv a (digs (u - v)))=>PM (u - v) a c W he (by omega))
  obtain ⟨lu,hlu⟩:∃ lu,lu=(digs u).length:=⟨_,rfl⟩
  obtain ⟨lv,hlv⟩:∃ lv,lv=(digs v).length:=⟨_,rfl⟩
  rw [← hlu] at du hdl
  rw [← hlv] at dv hdl
  replace hlu:=hZ hlu
  replace hlv:=hZ hlv
  go_enter Tryz.func148,Tryz.ntmps148
  go_wp2_with fail
  refine (hcm.out _ (Fr.refl _)).mono ?_
  rintro e w9 ⟨rfl,rfl⟩
  go_wp2_with fail
  refine (hbo.out _).mono ?_
  rintro e w0 ⟨rfl,hf0⟩
  go_wp2_with fail
  refine (hc1.out _ hf0).mono ?_
  rintro e w2 ⟨v1,rfl,ho1,hn1,hf1⟩
  obtain ⟨g1,c1,rfl,hgb1,hgc1,hgw1⟩:=ES ho1 (.inr hn1)
  have hfw2:=hf0.trans hf1
  have ho1b:=Cw ho1 hf0.size
  rw [← hlu.out] at ho1b
  rw [← hlu.out]
  clear ho1 hn1
  have hownP:=ho1b
  go_upto_region 7 with (at_builtin; refine wpList_append_lies _ rfl _ _ 229 (by rfl) _ 224 _ _ 1 8 Tryz.underlying229 hi hz0 hz1 hz2 rfl (by decide) _ lu _ (by rfl) (Az hownP _) ⟨w2.heap.size,0,none⟩ 1 1 [.int .u64 0] (by rfl) rfl (AK _ _ _ _ (by simp)) (by simp [Value.oneCell']) (by decide) (by unfold maxLen; omega) (by omega) (by have:=hfw2.size; simp; omega) (w2.heap.size+1) (by simp) ?_; intro gA capA wA hownA hgrowA hatA hltA)
  have hAl:((digs u).map uv ++ [Value.int .u64 0])=(digs u ++ [0]).map uv:=by rw [Ay]; rfl
  rw [hAl] at hownA
  have hfA:Fr w wA:=(hfw2.alloc _).grown hgrowA (fun k e=>(ho1b.lt k e).1)
  have hgA:=hownA.lt gA rfl
  have hNc:=(Bo hownA).2.2.2.1
  go_wp2_with fail
  refine (hc2.out _ hfA).mono ?_
  rintro e wB ⟨v2,rfl,ho2,hn2,hfB⟩
  obtain ⟨g2,c2,rfl,hgb2,hgc2,hgw2⟩:=ES ho2 (.inr hn2)
  go_wp2_with fail
  refine (hc2.out _ (hfA.trans hfB)).mono ?_
  rintro e wC ⟨v3,rfl,ho3,hn3,hfC⟩
  obtain ⟨g4,c4,rfl,-,-,-⟩:=ES ho3 (.inr hn3)
  rw [← hlv.out]
  have hfw:=(hfA.trans hfB).trans hfC
  have ho2b:=Cw (Bg ho2 hfC) hfA.size
  rw [← hlv.out] at ho2b
  have hA2b:=Bg hownA (hfB.trans hfC)
  have hgA2:gA < g2:=by omega
  obtain ⟨kz,hkz⟩:∃ kz,kz=lu - lv:=⟨_,rfl⟩
  have hkz2:lv+kz=lu:=by omega
  have kw1:IntKind.i64.wrap (((lu+1:Nat):Int) - 1)=(lu:Int):=by rw [Ak _ (by omega)]; omega
  have kw2:IntKind.i64.wrap ((lu:Int) - (lv:Int))=(kz:Int):=by rw [Ak _ (by omega)]; omega
  have kw3:((lu+1:Nat):Int) - 1=(lu:Int):=by omega
  have kw4:IntKind.i64.wrap (lu:Int)=(lu:Int):=Ak _ (by omega)
  replace hkz:=hZ hkz
  obtain ⟨g3,c3,w3,hr3,hown3,hgr3,hg3⟩:=Ga (P:=Tryz.prog) wC w.heap.size 229 3 229 224 i0 (.int .u64 0) 8 .i64 .i64 Tryz.underlying229 Tryz.underlying3 hi hz0 hz1 hz2 rfl rfl g2 lv c2 kz _ ho2b (by unfold maxLen; omega) (by omega) hfw.size
  have hfx3:=Fx.of_grown hgr3
  have hA3:=BW hA2b hfx3 (fun q hq e=>by have hq:some gA=some q:=hq; have e:some g2=some q:=e; injection hq with hq; injection e with e; omega)
  have hzC:=(hA2b.lt gA rfl).2
  have hg3A:g3≠gA:=by rcases hg3 with e | e; omega; omega
  have hZl:((digs v).map uv ++ List.replicate kz (Value.int .u64 0))=(digs v ++ List.replicate kz 0).map uv:=by rw [Ay,En]
  rw [hZl] at hown3
  rw [hkz2] at hown3 hr3
  have hP3:=DM hA3
  have hQ3:=(DM hown3).rd
  have hfr3:Fr w w3:=hfw.grown hgr3 (fun k e=>by have e:some g2=some k:=e; injection e with e; have:=(ho2b.lt g2 rfl).1; omega)
  go_wp2_with (at_builtin; refine wpList_append_run _ rfl _ _ _ _ rfl _ _ rfl rfl _ _ hr3 ?_)
  have hfin:=V3 (u:=u) (v:=v) (m:=lu) hlu.out.symm hle (gd (digs u ++ [0])) (gd (digs v ++ List.replicate kz 0)) (fun j=>EF _ _) (fun j=>GA _ _ _)
  refine (Vy gA (lu+1) capA 0 lu g3 0 c3 (gd (digs u ++ [0])) (gd (digs v ++ List.replicate kz 0)) 1 w3 hP3 hQ3 hg3A (by omega) (by omega) (fun j _=>by rw [AN,EF]; exact DP (BK _) j) (fun j _=>by rw [GA]; exact DP (BK _) j) ⟨by decide,by decide⟩).mono ?_
  rintro e w4 ⟨rfl,hfx4,hA4⟩
  generalize (He (fun j=>gd (digs u ++ [0]) (0+j)) (gd (digs v ++ List.replicate kz 0)) 1 lu (lu+1)).2=bo
  have hEl:=hA4.el
  have hll:((List.range (lu+1)).map (IK (gd (digs u ++ [0])) (gd (digs v ++ List.replicate kz 0)) 1 lu 0 (lu+1))).length=lu+1:=by rw [An,Co]
  have htr:=Jj ((List.range (lu+1)).map (IK (gd (digs u ++ [0])) (gd (digs v ++ List.replicate kz 0)) 1 lu 0 (lu+1))) (some ⟨gA,0,none⟩) capA w4 hEl (by rw [hll]; omega) (by rw [hll]; exact hNc)
  have hTl:=KW hfin.1 hfin.2
  have hle:=(BS ((List.range (lu+1)).map (IK (gd (digs u ++ [0])) (gd (digs v ++ List.replicate kz 0)) 1 lu 0 (lu+1)))).2
  have hEt:El w4 uv (some ⟨gA,0,none⟩) (digs (u - v)):=by rw [← hTl,(BS ((List.range (lu+1)).map (IK (gd (digs u ++ [0])) (gd (digs v ++ List.replicate kz 0)) 1 lu 0 (lu+1)))).1]; exact G7 hEl _
  rw [hTl,hll] at htr
  replace htr:=hZ htr
  have hxx:=hZ (fun W (hW:Fr w4 W)=>hx1.out W (some ⟨gA,0,none⟩) capA (hEt.fr hW))
  generalize (digs (u - v)).length=l9 at *
  have hf4:Fr w w4:=((Fx.of_fr hfr3).trans hfx4).toFr (fun k hk e=>by have e:k=gA:=e; omega)
  clear hEl hll hTl hle hEt hfin hA4 hP3 hQ3
  go_wp2_with fail
  refine htr.out.mono ?_
  rintro e w5 ⟨rfl,hf5⟩
  have h9:=hZ (hxx.out w5 hf5)
  go_wp2_with fail
  refine h9.out.mono ?_
  rintro e w6 ⟨rfl,hf6⟩
  go_wp2_with fail
  go_ret2
  exact ⟨rfl,(hf4.trans hf5).trans hf6⟩
end Go.Proofs.YtiniigadkknboaaGreatDoor
