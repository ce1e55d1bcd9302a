/- Contracts and laws: UUD. -/
import Derived.Test.YtkjemicelmabdaaGreatDoorUChk
import Derived.Test.YtkjemicelmabdaaGreatDoorUSA
import Derived.Test.YtkjemicelmabdaaGreatDoorUH
import Derived.Test.YtkjemicelmabdaaGreatDoorUE
import Derived.Test.YtkjemicelmabdaaGreatDoorUSC

set_option maxRecDepth 100000
set_option maxHeartbeats 4000000
namespace Go.Proofs.YtkjemicelmabdaaGreatDoor
open Go.RowKit Go.Lib
theorem S5 {a b c d e f g h i:Rat} (hdet:a * (e * i - f * h) - b * (d * i - f * g)+c * (d * h - e * g)≠0) (ka:Bd 9 1 a) (kb:Bd 9 1 b) (kc:Bd 9 1 c) (kd:Bd 9 1 d) (ke:Bd 9 1 e) (kf:Bd 9 1 f) (kg:Bd 9 1 g) (kh:Bd 9 1 h) (ki:Bd 9 1 i) :
 ∃ x y p q r s t:Rat,Dj 0 ⟨[[a,b,c],[d,e,f],[g,h,i]],[],1⟩=some ⟨[[1,x,y],[0,p,q],[0,r,s]],[0],t⟩∧Bd 9 9 x∧Bd 9 9 y∧Bd 162 9 p∧Bd 162 9 q∧Bd 162 9 r∧Bd 162 9 s∧p * s - q * r≠0∧Bd 9 1 t∧t * (p * s - q * r)=a * (e * i - f * h) - b * (d * i - f * g)+c * (d * h - e * g):=by
 have t1:Tq 1:=Bd.one.q
 have n1:∀ x:Rat,-1 * x=-x:=fun x=>by grind
 by_cases ha:a=0
 ·by_cases hd:d=0
  ·have hg:g≠0:=fun e=>hdet (by grind)
   obtain ⟨h1,b1,b2,b3,b4,b5,b6,h2⟩:=X6 hg kg kh ki kd ke kf ka kb kc
   have hgg:g / g=1:=by grind
   refine ⟨_,_,_,_,_,_,-g, ?_,b1,b2,b3,b4,b5,b6,fun e=>hdet (by rw [e] at h2; grind),kg.neg,by grind⟩
   simp [Dj,Ej,List.findIdx_cons,ha,hd,hg,BH,swp,BN,CI,GJ,C5,t1,kg.q,kh.q,ki.q,hgg]
   rw [ha,hd] at h1
   rw [h1]; simp [n1]
  ·obtain ⟨h1,b1,b2,b3,b4,b5,b6,h2⟩:=X6 hd kd ke kf ka kb kc kg kh ki
   have hgg:d / d=1:=by grind
   refine ⟨_,_,_,_,_,_,-d, ?_,b1,b2,b3,b4,b5,b6,fun e=>hdet (by rw [e] at h2; grind),kd.neg,by grind⟩
   simp [Dj,Ej,List.findIdx_cons,ha,hd,BH,swp,BN,CI,GJ,C5,t1,kd.q,ke.q,kf.q,hgg]
   rw [ha] at h1
   rw [h1]; simp [n1]
 ·obtain ⟨h1,b1,b2,b3,b4,b5,b6,h2⟩:=X6 ha ka kb kc kd ke kf kg kh ki
  have hgg:a / a=1:=by grind
  refine ⟨_,_,_,_,_,_,a, ?_,b1,b2,b3,b4,b5,b6,fun e=>hdet (by rw [e] at h2; grind),ka,by grind⟩
  simp [Dj,Ej,List.findIdx_cons,ha,BH,BN,CI,GJ,C5,t1,ka.q,kb.q,kc.q,hgg]
  rw [h1]
theorem S4 {x y p q r s t:Rat} (hdet:p * s - q * r≠0) (kx:Bd 9 9 x) (ky:Bd 9 9 y) (kp:Bd 162 9 p) (kq:Bd 162 9 q) (kr:Bd 162 9 r) (ks:Bd 162 9 s) (kt:Bd 9 1 t) :
 ∃ u v z m:Rat,Dj 1 ⟨[[1,x,y],[0,p,q],[0,r,s]],[0],t⟩=some ⟨[[1,0,u],[0,1,v],[0,0,z]],[0,1],m⟩∧Bd 236196 118098 u∧Bd 1458 1458 v∧Bd 4251528 118098 z∧z≠0∧Bd 1458 9 m∧m * z=t * (p * s - q * r):=by
 have t0:Tq 0:=Bd.zero.q
 by_cases hp:p=0
 ·have hr:r≠0:=fun e=>hdet (by grind)
  obtain ⟨h1,b1,b2,b3,h2⟩:=YM hr kx ky kr ks kp kq
  have hgg:r / r=1:=by grind
  have h0:0 / r=0:=by grind
  refine ⟨_,_,_,-t * r, ?_,b1,b2,b3,fun e=>hdet (by rw [e] at h2; grind),kt.neg.mul kr,by grind⟩
  simp [Dj,Ej,List.findIdx_cons,hp,hr,BH,swp,BN,CI,GJ,C5,t0,kt.q,kr.q,ks.q,hgg,h0]
  rw [hp] at h1
  rw [h1]; simp
 ·obtain ⟨h1,b1,b2,b3,h2⟩:=YM hp kx ky kp kq kr ks
  have hgg:p / p=1:=by grind
  have h0:0 / p=0:=by grind
  refine ⟨_,_,_,t * p, ?_,b1,b2,b3,fun e=>hdet (by rw [e] at h2; grind),kt.mul kp,by grind⟩
  simp [Dj,Ej,List.findIdx_cons,hp,BH,BN,CI,GJ,C5,t0,kt.q,kp.q,kq.q,hgg,h0]
  rw [h1]
theorem Wh {a b c d e f g h i:Rat} (hdet:a * (e * i - f * h) - b * (d * i - f * g)+c * (d * h - e * g)≠0) (ka:Bd 9 1 a) (kb:Bd 9 1 b) (kc:Bd 9 1 c) (kd:Bd 9 1 d) (ke:Bd 9 1 e) (kf:Bd 9 1 f) (kg:Bd 9 1 g) (kh:Bd 9 1 h) (ki:Bd 9 1 i) :
 ∃ F,BQ [[a,b,c],[d,e,f],[g,h,i]] 3=some F∧F.lead.length=3∧F.det=a * (e * i - f * h) - b * (d * i - f * g)+c * (d * h - e * g):=by
 obtain ⟨x,y,p,q,r,s,t,e1,kx,ky,kp,kq,kr,ks,h1,kt,q1⟩:=S5 hdet ka kb kc kd ke kf kg kh ki
 obtain ⟨u,v,z,m,e2,ku,kv,kz,h2,km,q2⟩:=S4 h1 kx ky kp kq kr ks kt
 exact ⟨_,by rw [BQ,BQ,BQ,BQ,AV,e1,AV,e2,AV,U3 h2 ku kv kz km],rfl,by show m * z=_; rw [q2,q1]⟩
theorem S6 {a b d e:Rat} (hdet:a * e - b * d≠0) (ka:Bd 9 1 a) (kb:Bd 9 1 b) (kd:Bd 9 1 d) (ke:Bd 9 1 e) :
 ∃ x p t:Rat,Dj 0 ⟨[[a,b],[d,e]],[],1⟩=some ⟨[[1,x],[0,p]],[0],t⟩∧Bd 9 9 x∧Bd 162 9 p∧p≠0∧Bd 9 1 t∧t * p=a * e - b * d:=by
 have t1:Tq 1:=Bd.one.q
 have n1:∀ x:Rat,-1 * x=-x:=fun x=>by grind
 by_cases ha:a=0
 ·have hd:d≠0:=fun e=>hdet (by grind)
  have kx:Bd 9 9 (e / d):=(ke.div kd hd).mono (by decide) (by decide)
  have hx:d * (e / d)=e:=by rw [Mz]; exact Gh hd
  have hgg:d / d=1:=by grind
  have h1:=YN (x:=e / d) (d:=a) (e:=b) (BO ka.q t1 (ka.mul Bd.one).q ka.q) (BO ka.q kx.q (ka.mul kx).q kb.q)
  refine ⟨_,_,-d, ?_,kx,(kb.sub (ka.mul kx)).mono (by decide) (by decide),fun h=>hdet (by grind),kd.neg,by grind⟩
  simp [Dj,Ej,List.findIdx_cons,ha,hd,BH,swp,BN,CI,GJ,C5,t1,kd.q,ke.q,hgg]
  rw [ha] at h1
  rw [h1]; simp [n1]
 ·have kx:Bd 9 9 (b / a):=(kb.div ka ha).mono (by decide) (by decide)
  have hx:a * (b / a)=b:=by rw [Mz]; exact Gh ha
  have hgg:a / a=1:=by grind
  have h1:=YN (x:=b / a) (d:=d) (e:=e) (BO kd.q t1 (kd.mul Bd.one).q kd.q) (BO kd.q kx.q (kd.mul kx).q ke.q)
  refine ⟨_,_,a, ?_,kx,(ke.sub (kd.mul kx)).mono (by decide) (by decide),fun h=>hdet (by grind),ka,by grind⟩
  simp [Dj,Ej,List.findIdx_cons,ha,BH,BN,CI,GJ,C5,t1,ka.q,kb.q,hgg]
  rw [h1]
theorem Wi {a b d e:Rat} (hdet:a * e - b * d≠0) (ka:Bd 9 1 a) (kb:Bd 9 1 b) (kd:Bd 9 1 d) (ke:Bd 9 1 e) :
 ∃ F,BQ [[a,b],[d,e]] 2=some F∧F.lead.length=2∧F.det=a * e - b * d:=by
 obtain ⟨x,p,t,e1,kx,kp,h1,kt,q1⟩:=S6 hdet ka kb kd ke
 have t0:Tq 0:=Bd.zero.q
 have t1:Tq 1:=Bd.one.q
 have hgg:p / p=1:=by grind
 have h0:0 / p=0:=by grind
 have h2:=Zr (x:=x) (BO kx.q t0 (kx.mul Bd.zero).q t1) (BO kx.q t1 (kx.mul Bd.one).q kx.q)
 have e2:Dj 1 ⟨[[1,x],[0,p]],[0],t⟩=some ⟨[[1,0],[0,1]],[0,1],t * p⟩:=by
  simp [Dj,Ej,List.findIdx_cons,h1,BH,BN,CI,GJ,C5,t0,kt.q,kp.q,hgg,h0]
  rw [h2]
 exact ⟨_,by rw [BQ,BQ,BQ,AV,e1,AV,e2],rfl,q1⟩
theorem Wj {a:Rat} (ha:a≠0) (ka:Bd 9 1 a):∃ F,BQ [[a]] 1=some F∧F.lead.length=1∧F.det=a:=by
 have t1:Tq 1:=Bd.one.q
 have hgg:a / a=1:=by grind
 have e1:Dj 0 ⟨[[a]],[],1⟩=some ⟨[[1]],[0],1 * a⟩:=by
  simp [Dj,Ej,List.findIdx_cons,ha,BH,BN,CI,GJ,C5,t1,ka.q,hgg,Cx]
 exact ⟨_,by rw [BQ,BQ,AV,e1],rfl,by show 1 * a=a; grind⟩
theorem Wg {m:List (List Int)} {n:Nat} (hn:n≤3) (hm:m.length=n) (hr:∀ r,r ∈ m→r.length=n) (hb:IB 9 m) (hd:Fv m≠0):∃ F,BQ (m.map CY) n=some F∧F.lead.length=n∧F.det=((Fv m:Int):Rat):=by
 have hn4:n=0∨n=1∨n=2∨n=3:=by omega
 rcases hn4 with rfl | rfl | rfl | rfl
 ·rw [Aq hm]; exact ⟨_,rfl,rfl,rfl⟩
 ·obtain ⟨r,rfl⟩:=Gt hm
  obtain ⟨a,rfl⟩:=Gt (hr r (by simp))
  have k:=hb [a] (by simp) a (by simp)
  exact Wj (a:=(a:Rat)) (fun e=>hd (BA.1 (show ((a:Int):Rat)=((0:Int):Rat) from e))) (Bd.int a k)
 ·obtain ⟨r,s,rfl⟩:=ED hm
  obtain ⟨a,b,rfl⟩:=ED (hr r (by simp))
  obtain ⟨c,e,rfl⟩:=ED (hr s (by simp))
  have k1:=hb [a,b] (by simp)
  have k2:=hb [c,e] (by simp)
  have key:((Fv [[a,b],[c,e]]:Int):Rat)=(a:Rat) * e - b * c:=by
   show ((a * e - b * c:Int):Rat)=_
   rw [Dx,Bb,Bb]
  rw [key]
  exact Wi (fun h=>hd (BA.1 (by rw [key,h]; rfl))) (Bd.int a (k1 a (by simp))) (Bd.int b (k1 b (by simp))) (Bd.int c (k2 c (by simp))) (Bd.int e (k2 e (by simp)))
 ·obtain ⟨r,s,t,rfl⟩:=Dz hm
  obtain ⟨a,b,c,rfl⟩:=Dz (hr r (by simp))
  obtain ⟨e,f,g,rfl⟩:=Dz (hr s (by simp))
  obtain ⟨h,i,j,rfl⟩:=Dz (hr t (by simp))
  have k1:=hb [a,b,c] (by simp)
  have k2:=hb [e,f,g] (by simp)
  have k3:=hb [h,i,j] (by simp)
  have key:((Fv [[a,b,c],[e,f,g],[h,i,j]]:Int):Rat)=(a:Rat) * (f * j - g * i) - b * (e * j - g * h)+c * (e * i - f * h):=by
   have:Fv [[a,b,c],[e,f,g],[h,i,j]]=a * (f * j - g * i) - b * (e * j - g * h)+c * (e * i - f * h):=by
    show Iy a b c e f g h i j=_
    unfold Iy
    grind
   rw [this]
   simp only [ME,Dx,Bb]
  rw [key]
  exact Wh (fun h9=>hd (BA.1 (by rw [key,h9]; rfl))) (Bd.int a (k1 a (by simp))) (Bd.int b (k1 b (by simp))) (Bd.int c (k1 c (by simp))) (Bd.int e (k2 e (by simp))) (Bd.int f (k2 f (by simp))) (Bd.int g (k2 g (by simp))) (Bd.int h (k3 h (by simp))) (Bd.int i (k3 i (by simp))) (Bd.int j (k3 j (by simp)))
attribute [local go_sem ↓] AQ AR
theorem Xg (m:List (List Int)) (a:Option Addr) (cap n:Nat) (F:RS) (w:World) (hG:G w) (hm:BS w a m) (hok:Gg n m) (hn:1≤n) (hmn:m.length=n) (hF:BQ (m.map CY) n=some F) :
 Calls Tryz.prog 60 #[.slice a n cap] w fun e w'=>e=.returned (.tuple #[sv F.det.num,.int .i64 0])∧Fr w w':=by
 have hck:=hZ (EP m a cap n w hm hok)
 obtain ⟨h1,h2,h3,h4⟩:=hok
 have hro:=hZ (fun W (hW:Fr w W)=>Nj m a cap n W (hG.fr hW) (hm.fr hW) h3 hn (by omega) (by omega) (fun r hr x hx=>Oe (h4 r hr x hx)))
 have hco:=hZ (fun W (hW:Fr w W)=>H8 m a cap W (hm.fr hW))
 have hcn:FE m=n:=by unfold FE; rw [BB (by omega)]; exact h3.row _
 rw [hcn] at hco
 have hrq:EG n (m.map CY):=fun r hr=>by
  obtain ⟨x,hx,rfl⟩:=AU.1 hr
  unfold CY; rw [Al]; exact h3 x hx
 have hlq:(m.map CY).length=n:=by rw [Al,hmn]
 have hre:=hZ (fun ob oo oc hs W (hGW:G W) (hg:DZ W ob oo hs (m.map CY))=>IZ ob oo oc n n hs (m.map CY) F W hGW hg hrq (by omega) (by omega) (Af _) hF)
 rw [hlq] at hre
 replace hrq:=hZ hrq
 replace hlq:=hZ hlq
 replace hF:=hZ hF
 have hGf:=hZ (fun W (hW:Fr w W)=>hG.fr hW)
 rw [hmn] at hck hro hco
 clear h1 h2 h3 h4 hcn hm hG hmn
 go_enter Tryz.func60,Tryz.ntmps60
 have d0:decide ((0:Int) < (n:Int))=true:=Ad (by omega)
 have d1:decide ((n:Int) > 0)=true:=Ad (by omega)
 go_wp2_with fail
 refine hck.out.mono ?_
 rintro e w1 ⟨rfl,hf1⟩
 go_wp2_with fail
 refine (hco.out _ hf1).mono ?_
 rintro e w2 ⟨rfl,hf2⟩
 go_wp2_with fail
 have hf12:=hf1.trans hf2
 refine (hro.out _ hf12).mono ?_
 rintro e w3 ⟨v,hs,rfl,hgg,hnew,hf3⟩
 rcases hgg.own.2 with ⟨hv,h0⟩ | ⟨g,cap2,-,hv,-⟩
 ·have:=hlq.out; omega
 subst hv
 obtain ⟨hg,-,hb,-⟩:=hgg.grid
 have hg1:=hZ hg
 have hf13:=hf12.trans hf3
 have hre2:=hre.out g 0 cap2 hs w3 (hGf.out _ hf13) hg1.out
 rw [hlq.out]
 replace hgg:=hZ hgg
 go_wp2_with fail
 refine hre2.mono ?_
 rintro e w4 ⟨a4,c4,hs4,rfl,-,hfx4,-,-⟩
 have hfr4:Fr w w4:=((Fx.of_fr hf13).trans hfx4).toFr (fun j hj hgb=>by
  have hsz:=hf12.size
  rcases hgb with h | ⟨hd,hm,h⟩
  ·have:w2.heap.size≤g:=hb; omega
  ·have h2:=hnew.out hd hm; have h:hd.1=j:=h; omega)
 clear hre2 hgg hg1 hg hb hnew hfx4
 go_wp2_with fail
 go_ret2
 exact ⟨rfl,hfr4.alloc _⟩
theorem Y1 (a:Option Addr) (cap:Nat) (w:World):Calls Tryz.prog 60 #[.slice a 0 cap] w fun e w'=>e=.returned (.tuple #[sv 1,.int .i64 0])∧Fr w w':=by
 have hck:=hZ (EP [] a cap 0 w (.inl rfl) ⟨by simp,by omega,(fun r hr=>by cases hr),(fun r hr=>by cases hr)⟩)
 have hro:=hZ (fun f W=>O0 a cap f W)
 have hre:=hZ (fun W=>IY W)
 go_enter Tryz.func60,Tryz.ntmps60
 go_wp2_with fail
 refine hck.out.mono ?_
 rintro e w1 ⟨rfl,hf1⟩
 go_wp2_with fail
 refine (hro.out _ _).mono ?_
 rintro e w2 ⟨rfl,rfl⟩
 go_wp2_with fail
 refine (hre.out _).mono ?_
 rintro e w3 ⟨rfl,hf3⟩
 go_wp2_with fail
 go_ret2
 exact ⟨rfl,(hf1.trans hf3).alloc _⟩
theorem P1 {x y:Int} (hx:x.natAbs≤9) (hy:y.natAbs≤9):(x * y).natAbs≤81:=Bz hx hy
theorem Yf {x y:Int} (hx:x.natAbs≤9) (hy:y.natAbs≤162):(x * y).natAbs≤1458:=Bz hx hy
theorem WM {m:List (List Int)} {n:Nat} (hn:n≤3) (hm:m.length=n) (hr:∀ r,r ∈ m→r.length=n) (hb:IB 9 m):(Fv m).natAbs≤4374:=by
 have hn4:n=0∨n=1∨n=2∨n=3:=by omega
 rcases hn4 with rfl | rfl | rfl | rfl
 ·rw [Aq hm]; decide
 ·obtain ⟨r,rfl⟩:=Gt hm
  obtain ⟨a,rfl⟩:=Gt (hr r (by simp))
  have k:=hb [a] (by simp) a (by simp)
  show a.natAbs≤_
  omega
 ·obtain ⟨r,s,rfl⟩:=ED hm
  obtain ⟨a,b,rfl⟩:=ED (hr r (by simp))
  obtain ⟨c,e,rfl⟩:=ED (hr s (by simp))
  have k1:=hb [a,b] (by simp)
  have k2:=hb [c,e] (by simp)
  have h1:=P1 (k1 a (by simp)) (k2 e (by simp))
  have h2:=P1 (k1 b (by simp)) (k2 c (by simp))
  show (a * e - b * c).natAbs≤_
  omega
 ·obtain ⟨r,s,t,rfl⟩:=Dz hm
  obtain ⟨a,b,c,rfl⟩:=Dz (hr r (by simp))
  obtain ⟨e,f,g,rfl⟩:=Dz (hr s (by simp))
  obtain ⟨h,i,j,rfl⟩:=Dz (hr t (by simp))
  have k1:=hb [a,b,c] (by simp)
  have k2:=hb [e,f,g] (by simp)
  have k3:=hb [h,i,j] (by simp)
  have h1:=P1 (k2 f (by simp)) (k3 j (by simp))
  have h2:=P1 (k2 g (by simp)) (k3 i (by simp))
  have h3:=P1 (k2 e (by simp)) (k3 j (by simp))
  have h4:=P1 (k2 g (by simp)) (k3 h (by simp))
  have h5:=P1 (k2 e (by simp)) (k3 i (by simp))
  have h6:=P1 (k2 f (by simp)) (k3 h (by simp))
  have g1:=Yf (k1 a (by simp)) (y:=f * j - g * i) (by omega)
  have g2:=Yf (k1 b (by simp)) (y:=e * j - g * h) (by omega)
  have g3:=Yf (k1 c (by simp)) (y:=e * i - f * h) (by omega)
  have key:Fv [[a,b,c],[e,f,g],[h,i,j]]=a * (f * j - g * i) - b * (e * j - g * h)+c * (e * i - f * h):=by
   show Iy a b c e f g h i j=_
   unfold Iy
   grind
  rw [key]
  omega
theorem TC {N A:List Sy} {d M:Nat} {aN aA:Option Addr} {cN cA:Nat} {w:World} (hn:DY w aN aA cN cA M d N A) (hG:G w) :
 Calls Tryz.prog 18 #[.agg #[.slice aN M cN,.slice aA d cA]] w fun e w'=>e=.returned (.tuple #[sv ((Fv (A.map Sy.row)).natAbs:Int),.int .i64 0])∧Fr w w':=by
 have hck:=hZ (fun W (hW:Fr w W)=>(hn.fr hW).check (hG.fr hW))
 have hacc:=hZ (fun W (hW:Fr w W)=>H9 aN aA M cN cA A W (hG.fr hW) (hn.hn.accs.fr hW) (by rw [hn.hd]; have:=hn.d3; omega))
 rw [hn.hd] at hacc
 have hdet:Hid (∀ W a c,Fr w W→BS W a (A.map Sy.row)→Calls Tryz.prog 60 #[.slice a d c] W fun e w'=>e=.returned (.tuple #[sv (Fv (A.map Sy.row)),.int .i64 0])∧Fr W w'):=fun W a c hW hm=>by
  by_cases hd:1≤d
  ·obtain ⟨F,h1,-,h3⟩:=Wg hn.d3 hn.lA hn.lRA hn.bA hn.det
   have:=Xg (A.map Sy.row) a c d F W (hG.fr hW) hm ⟨by rw [hn.lA]; have:=hn.d3; omega,by have:=hn.d3; omega,hn.lRA,fun q hq x hx=>MR (hn.bA q hq x hx)⟩ hd hn.lA h1
   rw [h3,EV] at this
   exact this
  ·obtain rfl:d=0:=by omega
   have hA0:A=[]:=Aq hn.hd
   rw [hA0]
   exact Y1 a c W
 have hdb:=WM hn.d3 hn.lA hn.lRA hn.bA
 have hsz:(tx (Fv (A.map Sy.row))).size≤1000000000:=by have:=BE 11 (Fv (A.map Sy.row)) (by omega) (by omega); omega
 have habs:=hZ (fun W=>OB (Fv (A.map Sy.row)) W hsz)
 clear hdb hsz
 have hC:=Bm.new w (.slice aN M cN) (.slice aA d cA) 32
 have f1:Fr w (w.alloc (.cells #[.slice aN M cN,.slice aA d cA] 32)):=(Fr.refl _).alloc _
 have n0:=hC.a
 have n1:=hC.b
 clear hC hn hG
 go_enter Tryz.func18,Tryz.ntmps18
 go_wp2_with fail
 refine (hck.out _ f1).mono ?_
 rintro e w2 ⟨rfl,hf2⟩
 replace n0:=hf2.keep n0
 replace n1:=hf2.keep n1
 have f2:=f1.trans hf2
 go_wp2_with fail
 refine (hacc.out _ f2).mono ?_
 rintro e w3 ⟨a3,c3,rfl,hm3,hf3⟩
 have hdet3:=hZ (hdet.out _ a3 c3 (f2.trans hf3) hm3)
 clear hm3
 go_wp2_with fail
 refine hdet3.out.mono ?_
 rintro e w4 ⟨rfl,hf4⟩
 go_wp2_with fail
 refine (habs.out _).mono ?_
 rintro e w5 ⟨rfl,hf5⟩
 go_wp2_with fail
 go_ret2
 exact ⟨rfl,((f2.trans hf3).trans hf4).trans hf5⟩
end Go.Proofs.YtkjemicelmabdaaGreatDoor
