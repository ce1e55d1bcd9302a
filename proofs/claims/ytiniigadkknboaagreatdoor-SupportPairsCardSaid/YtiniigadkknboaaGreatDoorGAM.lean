/- Contracts and laws: GAM. -/
import Derived.Test.YtiniigadkknboaaGreatDoorGAL
import Derived.Laws.OwnMore

set_option maxRecDepth 100000
set_option maxHeartbeats 4000000
namespace Go.Proofs.YtiniigadkknboaaGreatDoor
open Go.RowKit Go.Lib
attribute [local go_sem ↓] Go.wp_at_zero Go.wp_at_succ
def Ik (w:World) (g N:Nat) (f:Nat→Int):Prop:=g < w.heap.size∧∀ j,j < N→w.cell? ⟨g,j,none⟩=some (.int .u64 (f j))∧w.frozen? ⟨g,j,none⟩=false
def Tk (w:World) (b o m:Nat) (f:Nat→Int):Prop:=b < w.heap.size∧∀ j,j < m→w.cell? ⟨b,o+j,none⟩=some (.int .u64 (f j))
def Y4 (f:Nat→Int) (i:Nat) (x:Int) (j:Nat):Int:=if j=i then x else f j
theorem Ik.cg {w:World} {g N:Nat} {f h:Nat→Int} (k:Ik w g N f) (e:∀ j,j < N→f j=h j):Ik w g N h:=⟨k.1,fun j hj=>by rw [← e j hj]; exact k.2 j hj⟩
theorem Ik.fr {w w':World} {g N:Nat} {f:Nat→Int} (h:Ik w g N f) (k:Fr w w'):Ik w' g N f:=⟨Aq h.1 k.size,fun j hj=>⟨k.keep (h.2 j hj).1,k.keepf (h.2 j hj).1 (h.2 j hj).2⟩⟩
theorem Ik.fx {p:Nat→Prop} {w w':World} {g N:Nat} {f:Nat→Int} (h:Ik w g N f) (k:Fx p w w') (hp:¬ p g):Ik w' g N f:=⟨Aq h.1 k.size,fun j hj=>⟨k.keep (h.2 j hj).1 hp,k.keepf (h.2 j hj).1 (h.2 j hj).2 hp⟩⟩
theorem Tk.fr {w w':World} {b o m:Nat} {f:Nat→Int} (h:Tk w b o m f) (k:Fr w w'):Tk w' b o m f:=⟨Aq h.1 k.size,fun j hj=>k.keep (h.2 j hj)⟩
theorem Tk.fx {p:Nat→Prop} {w w':World} {b o m:Nat} {f:Nat→Int} (h:Tk w b o m f) (k:Fx p w w') (hp:¬ p b):Tk w' b o m f:=⟨Aq h.1 k.size,fun j hj=>k.keep (h.2 j hj) hp⟩
theorem Ik.rd {w:World} {g N:Nat} {f:Nat→Int} (h:Ik w g N f):Tk w g 0 N f:=⟨h.1,fun j hj=>by rw [AN]; exact (h.2 j hj).1⟩
theorem Ik.set {w:World} {g N:Nat} {f:Nat→Int} (h:Ik w g N f) {i:Nat} (hi:i < N) (x:Int):Ik (w.setCell ⟨g,i,none⟩ (.int .u64 x)) g N (Y4 f i x):=by
 refine ⟨by rw [World.size_setCell]; exact h.1,fun j hj=>⟨?_,by rw [Am]; exact (h.2 j hj).2⟩⟩
 unfold Y4
 by_cases e:j=i
 ·subst e; rw [Ai rfl,Al _ _ _ (by rw [(h.2 j hj).1]; rfl)]
 ·rw [Ag e,Ad _ _ _ _ (fun e2=>e (by injection e2 with _ e2; exact e2.symm))]; exact (h.2 j hj).1
def IK (p q:Nat→Int) (n:Int) (m at_ k j:Nat):Int:=if at_≤j∧j < at_+k then L8 (fun j=>p (at_+j)) q n m (j - at_) else p j
theorem Vy (g N cp a m qb qo cq:Nat) (p q:Nat→Int) (n:Int) (w:World) (hP:Ik w g N p) (hQ:Tk w qb qo m q) (hne:qb≠g) (hN:a+m < N) (hN9:N≤10000000000)
 (hp:∀ j,j≤m→0≤p (a+j)∧p (a+j) < 1000000000) (hq:∀ j,j < m→0≤q j∧q j < 1000000000) (hn:0≤n∧n < 1000000000) :
 Calls Tryz.prog 177 #[.slice (some ⟨g,0,none⟩) N cp,.slice (some ⟨qb,qo,none⟩) m cq,.int .u64 n,.int .i64 a] w fun e w'=>
  e=.returned (.bool (decide (0 < (He (fun j=>p (a+j)) q n m (m+1)).2)))∧Fx (·=g) w w'∧Ik w' g N (IK p q n m a (m+1)):=by
 obtain ⟨P,hPd⟩:∃ P,P=fun j=>p (a+j):=⟨_,rfl⟩
 have hp2:∀ j,j≤m→0≤P j∧P j < 1000000000:=by rw [hPd]; exact hp
 rw [← hPd]
 obtain ⟨nn,rfl⟩:∃ nn:Nat,n=nn:=⟨n.toNat,by omega⟩
 have hFd:Hid (∀ k j,IK p q nn m a k j=if a≤j∧j < a+k then L8 P q nn m (j - a) else p j):=fun k j=>by rw [hPd]; rfl
 have hPa:Hid (∀ j,P j=p (a+j)):=fun j=>by rw [hPd]
 clear hPd
 obtain ⟨n0,n1⟩:=hn
 have hn2:Hid ((0:Int)≤nn∧(nn:Int) < 1000000000):=⟨n0,n1⟩
 replace hp:=hZ hp2
 replace hq:=hZ hq
 replace hP:=hZ hP
 replace hQ:=hZ hQ
 clear hp2
 obtain ⟨fin,hfin⟩:∃ fin,fin=(He P q nn m (m+1)).2:=⟨_,rfl⟩
 rw [← hfin]
 replace hfin:=hZ hfin
 go_enter Tryz.func177,Tryz.ntmps177
 go_wp2_with fail
 go_loopg [9,10,11] (m+1) (fun gk s9 s10 s11 wr=>∃ k:Nat,s11=.int .i64 k∧k+gk=m+1∧s9=.int .i64 (He P q nn m k).2∧s10=.int .u64 (He P q nn m k).1∧Fx (·=g) w wr∧Hid (Ik wr g N (IK p q nn m a k)))
 case atStart=>exact ⟨0,rfl,by omega,rfl,rfl,Fx.refl _ _,hP.out.cg fun j _=>by rw [hFd.out,Ag (by omega)]⟩
 case round=>
  obtain ⟨k,rfl,hk,rfl,rfl,hf,hF⟩:=hrel
  by_cases hkm:k≤m
  ·have dk:decide ((k:Int)≤(m:Int))=true:=Ab (by omega)
   obtain ⟨⟨c0,c1⟩,hbo⟩:=K0 hp.out hq.out hn2.out k (by omega)
   obtain ⟨x0,x1,x2⟩:=Xx hp.out hq.out hn2.out hkm
   have eS1:Hid ((He P q nn m (k+1)).1=Kl P q nn m k / 1000000000):=rfl
   have eS2:Hid ((He P q nn m (k+1)).2=if L9 P q nn m k < 0 then 1 else 0):=rfl
   have eO:Hid (L8 P q nn m k=if L9 P q nn m k < 0 then L9 P q nn m k+1000000000 else L9 P q nn m k):=rfl
   have eX:Hid (Kl P q nn m k=(He P q nn m k).1+(if k < m then nn * q k else 0)):=rfl
   have eD:Hid (L9 P q nn m k=P k - Kl P q nn m k % 1000000000 - (He P q nn m k).2):=rfl
   obtain ⟨pc,pf⟩:=hF.out.2 (a+k) (by omega)
   rw [hFd.out,Ag (by omega),← hPa.out] at pc
   obtain ⟨p0,p1⟩:=hp.out k hkm
   generalize (He P q nn m k).2=bo at *
   generalize (He P q nn m k).1=c at *
   generalize L9 P q nn m k=D at *
   generalize Kl P q nn m k=X at *
   generalize P k=pk at *
   obtain ⟨cn,rfl⟩:∃ cn:Nat,c=cn:=⟨c.toNat,by omega⟩
   obtain ⟨xn,rfl⟩:∃ xn:Nat,X=xn:=⟨X.toNat,by omega⟩
   obtain ⟨pn,rfl⟩:∃ pn:Nat,pk=pn:=⟨pk.toNat,by omega⟩
   have hkn:Hid (∀ x:Int,x=L8 P q nn m k→Ik (wr.setCell ⟨g,a+k,none⟩ (.int .u64 x)) g N (IK p q nn m a (k+1))):=fun x hx=>by
    refine (hF.out.set (by omega:a+k < N) x).cg fun j hj=>?_
    unfold Y4
    rw [hFd.out,hFd.out]
    by_cases e:j=a+k
    ·subst e; rw [Ai rfl,Ai (by omega),hx,CI]
    ·rw [Ag e]
     by_cases e2:a≤j∧j < a+k
     ·rw [Ai e2,Ai (by omega)]
     ·rw [Ag e2,Ag (by omega)]
   have kk:IntKind.i64.wrap ((k:Int)+1)=(k:Int)+1:=Ak _ (by omega)
   have kak:IntKind.i64.wrap ((a:Int)+(k:Int))=((a+k:Nat):Int):=by rw [Ak _ (by omega)]; omega
   have y0:(0:Int)≤((a+k:Nat):Int):=by omega
   have y1:((a+k:Nat):Int) < (N:Int):=by omega
   have kp:IntKind.i64.wrap (pn:Int)=(pn:Int):=Ak _ (by omega)
   have kx:IntKind.i64.wrap ((xn:Int) % 1000000000)=(xn:Int) % 1000000000:=Ak _ (by omega)
   have kd1:IntKind.i64.wrap ((pn:Int) - (xn:Int) % 1000000000)=(pn:Int) - (xn:Int) % 1000000000:=Ak _ (by omega)
   have kd2:IntKind.i64.wrap ((pn:Int) - (xn:Int) % 1000000000 - bo)=D:=by rw [eD.out]; exact Ak _ (by omega)
   have hDb:-1000000000≤D∧D < 1000000000:=by rw [eD.out]; omega
   obtain ⟨D0,D1⟩:=hDb
   have kd3:IntKind.i64.wrap (D+1000000000)=D+1000000000:=Ak _ (by omega)
   have hfs:∀ v,Fx (·=g) w (wr.setCell ⟨g,a+k,none⟩ v):=fun v=>hf.setCell (q:=⟨g,a+k,none⟩) (.inl rfl) v
   replace hfs:=hZ hfs
   replace hbo:=hZ hbo
   by_cases hlt:k < m
   ·have dl:decide ((k:Int) < (m:Int))=true:=Ab (by omega)
    have ex:=eX.out
    rw [Ai hlt] at ex
    obtain ⟨q0,q1⟩:=hq.out k hlt
    obtain ⟨z0,z1⟩:=x2 hlt
    have qc:=(hQ.out.fx hf (by omega)).2 k hlt
    generalize q k=qk at *
    obtain ⟨qn,rfl⟩:∃ qn:Nat,qk=qn:=⟨qk.toNat,by omega⟩
    have y2:(k:Int) < (m:Int):=by omega
    have y3:(0:Int)≤(k:Int):=by omega
    have km:IntKind.u64.wrap ((nn:Int) * (qn:Int))=(nn:Int) * (qn:Int):=AH _ (by omega)
    have ka:IntKind.u64.wrap ((cn:Int)+(nn:Int) * (qn:Int))=(xn:Int):=by rw [← ex]; exact AH _ (by omega)
    replace ex:=hZ ex
    clear x2
    by_cases hD:D < 0
    ·have dd:decide (D < 0)=true:=Ab hD
     have ku:IntKind.u64.wrap (D+1000000000)=D+1000000000:=AH _ (by omega)
     have e1:=eO.out
     have e2:=eS2.out
     rw [Ai hD] at e1 e2
     replace e1:=hZ e1
     replace e2:=hZ e2
     go_wp2_with fail
     go_roundg (gk - 1)
     case measure=>omega
     case rel=>exact ⟨k+1,by go_num,by omega,by rw [e2.out],by rw [eS1.out],hfs.out _,hkn.out _ e1.out.symm⟩
    ·have dd:decide (D < 0)=false:=Aa hD
     have ku:IntKind.u64.wrap D=D:=AH _ (by omega)
     have e1:=eO.out
     have e2:=eS2.out
     rw [Ag hD] at e1 e2
     replace e1:=hZ e1
     replace e2:=hZ e2
     go_wp2_with fail
     go_roundg (gk - 1)
     case measure=>omega
     case rel=>exact ⟨k+1,by go_num,by omega,by rw [e2.out],by rw [eS1.out],hfs.out _,hkn.out _ e1.out.symm⟩
   ·have dl:decide ((k:Int) < (m:Int))=false:=Aa (by omega)
    have ex:=eX.out
    rw [Ag hlt,Gh] at ex
    have ex:xn=cn:=by omega
    subst ex
    clear x2
    by_cases hD:D < 0
    ·have dd:decide (D < 0)=true:=Ab hD
     have ku:IntKind.u64.wrap (D+1000000000)=D+1000000000:=AH _ (by omega)
     have e1:=eO.out
     have e2:=eS2.out
     rw [Ai hD] at e1 e2
     replace e1:=hZ e1
     replace e2:=hZ e2
     go_wp2_with fail
     go_roundg (gk - 1)
     case measure=>omega
     case rel=>exact ⟨k+1,by go_num,by omega,by rw [e2.out],by rw [eS1.out],hfs.out _,hkn.out _ e1.out.symm⟩
    ·have dd:decide (D < 0)=false:=Aa hD
     have ku:IntKind.u64.wrap D=D:=AH _ (by omega)
     have e1:=eO.out
     have e2:=eS2.out
     rw [Ag hD] at e1 e2
     replace e1:=hZ e1
     replace e2:=hZ e2
     go_wp2_with fail
     go_roundg (gk - 1)
     case measure=>omega
     case rel=>exact ⟨k+1,by go_num,by omega,by rw [e2.out],by rw [eS1.out],hfs.out _,hkn.out _ e1.out.symm⟩
  ·obtain rfl:k=m+1:=by omega
   rw [← hfin.out]
   generalize (He P q nn m (m+1)).1=c9
   clear hk hkm
   have dk:decide (((m+1:Nat):Int)≤(m:Int))=false:=Aa (by omega)
   have dk2:decide ((m:Int)+1≤(m:Int))=false:=Aa (by omega)
   go_wp2_with fail
   go_ret
   exact ⟨rfl,hf,hF.out⟩
def Mb (p q:Nat→Int) (m at_ k j:Nat):Int:=if at_≤j∧j < at_+k then PY (fun j=>p (at_+j)) q m (j - at_) else p j
theorem R5 (g N cp a m qb qo cq:Nat) (p q:Nat→Int) (w:World) (hP:Ik w g N p) (hQ:Tk w qb qo m q) (hne:qb≠g) (hN:a+m < N) (hN9:N≤10000000000)
 (hp:∀ j,j≤m→0≤p (a+j)∧p (a+j) < 1000000000) (hq:∀ j,j < m→0≤q j∧q j < 1000000000) :
 Calls Tryz.prog 174 #[.slice (some ⟨g,0,none⟩) N cp,.slice (some ⟨qb,qo,none⟩) m cq,.int .i64 a] w fun e w'=>
  e=.returned (.tuple #[])∧Fx (·=g) w w'∧Ik w' g N (Mb p q m a (m+1)):=by
 obtain ⟨P,hPd⟩:∃ P,P=fun j=>p (a+j):=⟨_,rfl⟩
 have hp2:∀ j,j≤m→0≤P j∧P j < 1000000000:=by rw [hPd]; exact hp
 have hFd:Hid (∀ k j,Mb p q m a k j=if a≤j∧j < a+k then PY P q m (j - a) else p j):=fun k j=>by rw [hPd]; rfl
 have hPa:Hid (∀ j,P j=p (a+j)):=fun j=>by rw [hPd]
 clear hPd
 replace hp:=hZ hp2
 replace hq:=hZ hq
 replace hP:=hZ hP
 replace hQ:=hZ hQ
 clear hp2
 go_enter Tryz.func174,Tryz.ntmps174
 go_wp2_with fail
 go_loopg [6,7] (m+1) (fun gk s6 s7 wr=>∃ k:Nat,s7=.int .i64 k∧k+gk=m+1∧s6=.int .u64 (PZ P q m k)∧Fx (·=g) w wr∧Hid (Ik wr g N (Mb p q m a k)))
 case atStart=>exact ⟨0,rfl,by omega,rfl,Fx.refl _ _,hP.out.cg fun j _=>by rw [hFd.out,Ag (by omega)]⟩
 case round=>
  obtain ⟨k,rfl,hk,rfl,hf,hF⟩:=hrel
  by_cases hkm:k≤m
  ·have dk:decide ((k:Int)≤(m:Int))=true:=Ab (by omega)
   have hbo:=RP hp.out hq.out k (by omega)
   have eS1:Hid (PZ P q m (k+1)=Ml P q m k / 1000000000):=rfl
   have eO:Hid (PY P q m k=Ml P q m k % 1000000000):=rfl
   have eX:Hid (Ml P q m k=PZ P q m k+P k+(if k < m then q k else 0)):=rfl
   obtain ⟨pc,pf⟩:=hF.out.2 (a+k) (by omega)
   rw [hFd.out,Ag (by omega),← hPa.out] at pc
   obtain ⟨p0,p1⟩:=hp.out k hkm
   generalize PZ P q m k=c at *
   generalize Ml P q m k=X at *
   generalize P k=pk at *
   obtain ⟨cn,rfl⟩:∃ cn:Nat,c=cn:=⟨c.toNat,by omega⟩
   obtain ⟨pn,rfl⟩:∃ pn:Nat,pk=pn:=⟨pk.toNat,by omega⟩
   have hkn:Hid (∀ x:Int,x=PY P q m k→Ik (wr.setCell ⟨g,a+k,none⟩ (.int .u64 x)) g N (Mb p q m a (k+1))):=fun x hx=>by
    refine (hF.out.set (by omega:a+k < N) x).cg fun j hj=>?_
    unfold Y4
    rw [hFd.out,hFd.out]
    by_cases e:j=a+k
    ·subst e; rw [Ai rfl,Ai (by omega),hx,CI]
    ·rw [Ag e]
     by_cases e2:a≤j∧j < a+k
     ·rw [Ai e2,Ai (by omega)]
     ·rw [Ag e2,Ag (by omega)]
   have kk:IntKind.i64.wrap ((k:Int)+1)=(k:Int)+1:=Ak _ (by omega)
   have kak:IntKind.i64.wrap ((a:Int)+(k:Int))=((a+k:Nat):Int):=by rw [Ak _ (by omega)]; omega
   have y0:(0:Int)≤((a+k:Nat):Int):=by omega
   have y1:((a+k:Nat):Int) < (N:Int):=by omega
   obtain ⟨sn,hsn⟩:∃ sn:Nat,sn=cn+pn:=⟨_,rfl⟩
   have kc:IntKind.u64.wrap ((cn:Int)+(pn:Int))=(sn:Int):=by rw [AH _ (by omega)]; omega
   have hfs:∀ v,Fx (·=g) w (wr.setCell ⟨g,a+k,none⟩ v):=fun v=>hf.setCell (q:=⟨g,a+k,none⟩) (.inl rfl) v
   replace hfs:=hZ hfs
   by_cases hlt:k < m
   ·have dl:decide ((k:Int) < (m:Int))=true:=Ab (by omega)
    have ex:=eX.out
    rw [Ai hlt] at ex
    obtain ⟨q0,q1⟩:=hq.out k hlt
    have qc:=(hQ.out.fx hf (by omega)).2 k hlt
    generalize q k=qk at *
    obtain ⟨qn,rfl⟩:∃ qn:Nat,qk=qn:=⟨qk.toNat,by omega⟩
    obtain ⟨xn,rfl⟩:∃ xn:Nat,X=xn:=⟨X.toNat,by omega⟩
    have y2:(k:Int) < (m:Int):=by omega
    have y3:(0:Int)≤(k:Int):=by omega
    have ka:IntKind.u64.wrap ((sn:Int)+(qn:Int))=(xn:Int):=by rw [AH _ (by omega)]; omega
    replace hsn:=hZ hsn
    have kq:IntKind.u64.wrap ((xn:Int) / 1000000000)=(xn:Int) / 1000000000:=AH _ (by omega)
    replace ex:=hZ ex
    replace hbo:=hZ hbo
    have e1:=eO.out
    have e2:=eS1.out
    replace e1:=hZ e1
    replace e2:=hZ e2
    clear eO eS1 eX
    go_wp2_with fail
    go_roundg (gk - 1)
    case measure=>omega
    case rel=>exact ⟨k+1,by go_num,by omega,by first | rw [e2.out] | exact congrArg (Value.int IntKind.u64) (by have:=e2.out; have:=ex.out; have:=hsn.out; omega),hfs.out _,hkn.out _ (by first | exact e1.out.symm | (have:=e1.out; have:=ex.out; have:=hsn.out; omega))⟩
   ·have dl:decide ((k:Int) < (m:Int))=false:=Aa (by omega)
    have ex:=eX.out
    rw [Ag hlt,Gh] at ex
    obtain ⟨xn,rfl⟩:∃ xn:Nat,X=xn:=⟨X.toNat,by omega⟩
    have ex2:sn=xn:=by omega
    rw [ex2] at kc
    have kq:IntKind.u64.wrap ((xn:Int) / 1000000000)=(xn:Int) / 1000000000:=AH _ (by omega)
    replace ex2:=hZ ex2
    replace ex:=hZ ex
    replace hsn:=hZ hsn
    replace hbo:=hZ hbo
    have e1:=eO.out
    have e2:=eS1.out
    replace e1:=hZ e1
    replace e2:=hZ e2
    clear eO eS1 eX
    go_wp2_with fail
    go_roundg (gk - 1)
    case measure=>omega
    case rel=>exact ⟨k+1,by go_num,by omega,by first | rw [e2.out] | exact congrArg (Value.int IntKind.u64) (by have:=e2.out; have:=ex.out; have:=hsn.out; omega),hfs.out _,hkn.out _ (by first | exact e1.out.symm | (have:=e1.out; have:=ex.out; have:=hsn.out; omega))⟩
  ·obtain rfl:k=m+1:=by omega
   generalize PZ P q m (m+1)=c9
   clear hk hkm
   have dk:decide (((m+1:Nat):Int)≤(m:Int))=false:=Aa (by omega)
   have dk2:decide ((m:Int)+1≤(m:Int))=false:=Aa (by omega)
   go_wp2_with fail
   exact bodyPost_end (Ia rfl _ _ _) rfl ⟨rfl,hf,hF.out⟩
theorem GV {f:Nat→Int} {a:Nat}:∀ b,(∀ j,a≤j→j < a+b→f j=0)→vF f (a+b)=vF f a
 | 0,_=>rfl
 | b+1,h=>by
   show vF f (a+b)+f (a+b) * pw (a+b)=vF f a
   rw [GV b (fun j h1 h2=>h j h1 (by omega)),h (a+b) (by omega) (by omega)]; omega
theorem Uy {l:List Int} {i:Nat} (hi:i < l.length) (x:Int) (j:Nat):gd (l.set i x) j=if j=i then x else gd l j:=by
 unfold gd
 rw [Cp]
 by_cases e:i=j
 ·subst e; rw [Ai rfl,Ai hi,Ai rfl]; rfl
 ·rw [Ag e,Ag (fun e2=>e e2.symm)]
theorem DP {l:List Int} (h:Dg l) (j:Nat):0≤gd l j∧gd l j < 1000000000:=by
 unfold gd
 cases e:l[j]? with
 | none=>exact ⟨Ju 0,by decide⟩
 | some x=>exact h x (Af e)
theorem Jb {l:List Int} {j:Nat} (hj:j < l.length):l[j]?=some (gd l j):=by unfold gd; rw [Ac hj]; rfl
theorem UQ {l:List Int} (h:∀ j,j < l.length→0≤gd l j∧gd l j < 1000000000):Dg l:=fun x hx=>by
 obtain ⟨i,hi⟩:=BJ hx
 have h1:=(Ae.1 hi).1
 have h2:=h i h1
 unfold gd at h2
 rw [hi] at h2; exact h2
structure Xk (xs ys L:List Int) (i:Nat):Prop where
 len:L.length=xs.length+ys.length
 dg:Dg L
 zero:∀ j,i+ys.length≤j→gd L j=0
 vl:val L=vF (gd xs) i * val ys
structure SS (xs ys L M:List Int) (i k:Nat):Prop where
 len:M.length=L.length
 at_:∀ j,gd M j=if i≤j∧j < i+k then JC (fun t=>gd L (i+t)) (gd ys) (gd xs i) (j - i) % 1000000000 else gd L j
theorem SS.start (xs ys L:List Int) (i:Nat):SS xs ys L L i 0:=⟨rfl,fun j=>by rw [Ag (by omega)]⟩
theorem SS.step {xs ys L M:List Int} {i k:Nat} (h:SS xs ys L M i k) (hk:i+k < L.length):SS xs ys L (M.set (i+k) (JC (fun t=>gd L (i+t)) (gd ys) (gd xs i) k % 1000000000)) i (k+1) :=
 ⟨by rw [A0]; exact h.len,fun j=>by
  rw [Uy (by rw [h.len]; exact hk),h.at_]
  by_cases e:j=i+k
  ·subst e; rw [Ai rfl,Ai (by omega),CI]
  ·rw [Ag e]
   by_cases e2:i≤j∧j < i+k
   ·rw [Ai e2,Ai (by omega)]
   ·rw [Ag e2,Ag (by omega)]⟩
theorem SS.fin {xs ys L M:List Int} {i:Nat} (h:Xk xs ys L i) (r:SS xs ys L M i ys.length) (hi:i < xs.length) (dx:Dg xs) (dy:Dg ys):Xk xs ys (M.set (i+ys.length) (JD (fun t=>gd L (i+t)) (gd ys) (gd xs i) ys.length)) (i+1):=by
 have hN:i+ys.length < M.length:=by rw [r.len,h.len]; omega
 have hc:=Rf (o:=fun t=>gd L (i+t)) (b:=gd ys) (d:=gd xs i) (m:=ys.length) (fun j _=>DP h.dg _) (fun j _=>DP dy _) (DP dx _) ys.length (Ah _)
 have hg:∀ j,gd (M.set (i+ys.length) (JD (fun t=>gd L (i+t)) (gd ys) (gd xs i) ys.length)) j=if j=i+ys.length then JD (fun t=>gd L (i+t)) (gd ys) (gd xs i) ys.length else if i≤j∧j < i+ys.length then JC (fun t=>gd L (i+t)) (gd ys) (gd xs i) (j - i) % 1000000000 else gd L j:=fun j=>by rw [Uy hN,r.at_]
 refine ⟨by rw [A0,r.len]; exact h.len,UQ fun j _=>?_,fun j hj=>?_, ?_⟩
 ·rw [hg]
  split
  ·exact hc
  ·split
   ·exact ⟨WX _ (by decide),Q2 _ (by decide)⟩
   ·exact DP h.dg j
 ·rw [hg,Ag (by omega),Ag (by omega)]; exact h.zero j (by omega)
 ·have hl:xs.length+ys.length=i+(ys.length+(1+(xs.length - i - 1))):=by omega
  have e0:=h.vl
  rw [FJ,h.len,hl,Hp,GV (a:=ys.length) _ (fun j h1 h2=>h.zero (i+j) (by omega))] at e0
  rw [FJ,A0,r.len,h.len,hl,Hp,Hp]
  have e1:vF (gd (M.set (i+ys.length) (JD (fun t=>gd L (i+t)) (gd ys) (gd xs i) ys.length))) i=vF (gd L) i:=Fe i fun j hj=>by rw [hg,Ag (by omega),Ag (by omega)]
  have e2:vF (fun j=>gd (M.set (i+ys.length) (JD (fun t=>gd L (i+t)) (gd ys) (gd xs i) ys.length)) (i+j)) ys.length=vF (fun j=>JC (fun t=>gd L (i+t)) (gd ys) (gd xs i) j % 1000000000) ys.length:=Fe _ fun j hj=>by
   show gd _ (i+j)=_
   rw [hg,Ag (by omega),Ai (by omega),CI]
  have e3:vF (fun j=>gd (M.set (i+ys.length) (JD (fun t=>gd L (i+t)) (gd ys) (gd xs i) ys.length)) (i+(ys.length+j))) (1+(xs.length - i - 1))=JD (fun t=>gd L (i+t)) (gd ys) (gd xs i) ys.length:=by
   rw [GV (a:=1) _ (fun j h1 h2=>by show gd _ (i+(ys.length+j))=0; rw [hg,Ag (by omega),Ag (by omega)]; exact h.zero _ (by omega))]
   show (0:Int)+gd _ (i+(ys.length+0)) * 1=_
   rw [hg,Ai (by omega)]; omega
  have e4:=TP (o:=fun t=>gd L (i+t)) (b:=gd ys) (d:=gd xs i) ys.length
  rw [e1,e2,e3,show vF (gd xs) (i+1)=vF (gd xs) i+gd xs i * pw i from rfl,VS,← e0,FJ ys]
  have e5:vF (fun j=>JC (fun t=>gd L (i+t)) (gd ys) (gd xs i) j % 1000000000) ys.length=vF (fun t=>gd L (i+t)) ys.length+gd xs i * vF (gd ys) ys.length - JD (fun t=>gd L (i+t)) (gd ys) (gd xs i) ys.length * pw ys.length:=by omega
  rw [e5]; grind
theorem Xk.start (xs ys:List Int):Xk xs ys (List.replicate (xs.length+ys.length) 0) 0:=by
 have hz:∀ j,gd (List.replicate (xs.length+ys.length) (0:Int)) j=0:=fun j=>by
  unfold gd
  rw [Cc]
  split <;> rfl
 refine ⟨AO,fun x hx=>by rw [B7 hx]; omega,fun j _=>hz j, ?_⟩
 rw [FJ,Q3 _ (fun j _=>hz j)]
 show (0:Int)=0 * val ys
 omega
theorem NA (n:Nat):(madeCells (Value.int IntKind.u64 0).cells (n * 1)).toList=(List.replicate n (0:Int)).map uv:=by
 rw [FV,En]
 refine DI fun i=>?_
 by_cases h:i < n
 ·simp [madeCells,Value.cells,h,Nat.mod_one]
 ·simp [madeCells,h]
theorem El.at_gd {w:World} {a:Option Addr} {l:List Int} (h:El w uv a l) {i:Nat} (hi:i < l.length):∃ b o,a=some ⟨b,o,none⟩∧b < w.heap.size∧w.cell? ⟨b,o+i,none⟩=some (.int .u64 (gd l i)):=by
 rcases h with h | ⟨b,o,e,hb,hc⟩
 ·rw [h] at hi; exact absurd hi (by simp)
 ·exact ⟨b,o,e,hb,hc i _ (Jb hi)⟩
theorem Vx (xs ys:List Int) (n:Nat) (hn:val xs * val ys=(n:Int)) (a b:Option Addr) (ca cb:Nat) (w:World) (hx:El w uv a xs) (hy:El w uv b ys) (dx:Dg xs) (dy:Dg ys) (hl:xs.length≤1000000000) (hm:ys.length≤1000000000) :
 Calls Tryz.prog 178 #[.slice a xs.length ca,.slice b ys.length cb] w fun e w'=>∃ v,e=.returned v∧w'.ownsRow w.heap.size 224 1 v (digs n).length ((digs n).map uv)∧v≠.slice none 0 0∧Fr w w':=by
 obtain ⟨i0,hi,hz0,hz1,hz2⟩:=AZ HW
 obtain ⟨nx,hnx⟩:∃ nx,nx=xs.length:=⟨_,rfl⟩
 obtain ⟨ny,hny⟩:∃ ny,ny=ys.length:=⟨_,rfl⟩
 have hT0:Hid (Xk xs ys (List.replicate (nx+ny) 0) 0):=by rw [hnx,hny]; exact Xk.start xs ys
 rw [← hnx] at hl
 rw [← hny] at hm
 rw [← hnx,← hny]
 replace hnx:=hZ hnx
 replace hny:=hZ hny
 replace hx:=hZ hx
 replace hy:=hZ hy
 replace dx:=hZ dx
 replace dy:=hZ dy
 replace hn:=hZ hn
 have hw1:IntKind.i64.wrap ((nx:Int)+(ny:Int))=(nx:Int)+(ny:Int):=Ak _ (by omega)
 go_enter Tryz.func178,Tryz.ntmps178
 go_wp2_with (at_make; refine Dk _ rfl _ _ 229 rfl w.heap.size 224 i0 _ 1 Tryz.underlying229 hi hz0 hz1 _ _ _ _ (nx+ny) (by rfl) (by rfl) (by omega) (by omega) (by rw [hz2]; omega) (by unfold maxLen; omega) (Ah _) ?_; intro w2 hown2 hgr2)
 have hf2:Fr w w2:=(Fr.refl w).grown hgr2 (fun k e=>by cases e)
 rw [NA] at hown2
 obtain ⟨B,hB⟩:∃ B,B=w.heap.size:=⟨_,rfl⟩
 rw [← hB] at hown2
 rw [← hB]
 have hBw:w.heap.size≤B:=by omega
 replace hB:=hZ hB
 replace hown2:=hZ hown2
 clear hgr2
 go_wp2_with fail
 go_loopg [19] nx (fun gk s19 wr=>∃ (i:Nat) (L:List Int),s19=.int .i64 i∧i+gk=nx∧Fr w wr∧Hid (wr.ownsRow B 224 1 (.slice (some ⟨B,0,none⟩) (nx+ny) (nx+ny)) (nx+ny) (L.map uv))∧Hid (Xk xs ys L i))
 case atStart=>exact ⟨0,_,rfl,by omega,hf2,hown2,hT0⟩
 case round=>
  clear hown2 hf2 hT0
  obtain ⟨i,L,rfl,hik,hf,hown,hT⟩:=hrel
  obtain ⟨ko,rfl⟩:∃ ko:Nat,ko=gk:=⟨_,rfl⟩
  obtain ⟨wo,rfl⟩:∃ wo:World,wo=wr:=⟨_,rfl⟩
  by_cases hi9:i < nx
  ·have dI:decide ((i:Int) < (nx:Int))=true:=Ab (by omega)
   obtain ⟨xb,xo,rfl,hxb,hxc⟩:=El.at_gd hx.out (i:=i) (by rw [← hnx.out]; exact hi9)
   have cell:=hf.keep hxc
   have dx0:=DP dx.out i
   obtain ⟨d,hd⟩:∃ d,d=gd xs i:=⟨_,rfl⟩
   rw [← hd] at cell dx0
   obtain ⟨dn,rfl⟩:∃ dn:Nat,d=dn:=⟨d.toNat,by omega⟩
   have y0:(0:Int)≤(i:Int):=by omega
   have y1:(i:Int) < (nx:Int):=by omega
   have ki:IntKind.i64.wrap ((i:Int)+1)=(i:Int)+1:=Ak _ (by omega)
   have hTR:Hid (SS xs ys L L i 0):=SS.start xs ys L i
   have hbd:Hid (∀ k,k≤ny→0≤JD (fun t=>gd L (i+t)) (gd ys) dn k∧JD (fun t=>gd L (i+t)) (gd ys) dn k < 1000000000):=fun k hk=>Rf (o:=fun t=>gd L (i+t)) (b:=gd ys) (m:=ny) (fun j _=>DP hT.out.dg _) (fun j _=>DP dy.out _) dx0 k hk
   have hxd:Hid (∀ k,k < ny→0≤dn * gd ys k∧dn * gd ys k≤999999999 * 999999999∧0≤JC (fun t=>gd L (i+t)) (gd ys) dn k∧JC (fun t=>gd L (i+t)) (gd ys) dn k≤1000000000 * 1000000000):=fun k hk=>XB (o:=fun t=>gd L (i+t)) (b:=gd ys) (m:=ny) (fun j _=>DP hT.out.dg _) (fun j _=>DP dy.out _) dx0 hk
   have hLl:Hid (L.length=nx+ny):=by show _=_; rw [hT.out.len,← hnx.out,← hny.out]
   have hiy:IntKind.i64.wrap ((i:Int)+(ny:Int))=((i+ny:Nat):Int):=by rw [Ak _ (by omega)]; omega
   have hownf:=hZ hown.out.frozenAt
   replace hd:=hZ hd
   clear hxc
   go_wp2_with fail
   go_loopg [8,26] ny (fun g2 s8 s26 wv=>∃ (k:Nat) (M:List Int),s26=.int .i64 k∧k+g2=ny∧s8=.int .u64 (JD (fun t=>gd L (i+t)) (gd ys) dn k)∧Fr w wv∧Hid (wv.ownsRow B 224 1 (.slice (some ⟨B,0,none⟩) (nx+ny) (nx+ny)) (nx+ny) (M.map uv))∧Hid (SS xs ys L M i k))
   case atStart=>exact ⟨0,L,rfl,by omega,rfl,hf,hown,hTR⟩
   case round=>
    clear hTR hownf cell
    obtain ⟨k,M,rfl,hkg,rfl,hf3,hown3,hR⟩:=hrel
    by_cases hk9:k < ny
    ·have dk:decide ((k:Int) < (ny:Int))=true:=Ab (by omega)
     obtain ⟨yb,yo,rfl,hyb,hyc⟩:=El.at_gd hy.out (i:=k) (by rw [← hny.out]; exact hk9)
     have ycell:=hf3.keep hyc
     have hMl:M.length=nx+ny:=by rw [hR.out.len]; exact hLl.out
     have mc:wr.cell? ⟨B,i+k,none⟩=some (.int .u64 (gd M (i+k))):=by
      rw [hown3.out.cellAt (i+k) (by omega),At,Jb (by omega)]; rfl
     have mf:=hown3.out.frozenAt (i+k)
     rw [hR.out.at_,Ag (by omega)] at mc
     have hst:=fun u:Value=>hown3.out.stored (i+k) u
     have hRn:Hid (SS xs ys L (M.set (i+k) (JC (fun t=>gd L (i+t)) (gd ys) dn k % 1000000000)) i (k+1)):=by
      have:=hR.out.step (k:=k) (by have:=hLl.out; omega)
      rw [← hd.out] at this
      exact this
     obtain ⟨c0,c1⟩:=hbd.out k (by omega)
     obtain ⟨z0,z1,x0,x1⟩:=hxd.out k hk9
     obtain ⟨o0,o1⟩:=DP hT.out.dg (i+k)
     obtain ⟨b0,b1⟩:=DP dy.out k
     have eX:Hid (JC (fun t=>gd L (i+t)) (gd ys) dn k=JD (fun t=>gd L (i+t)) (gd ys) dn k+(gd L (i+k)+dn * gd ys k)):=rfl
     have eC:Hid (JD (fun t=>gd L (i+t)) (gd ys) dn (k+1)=JC (fun t=>gd L (i+t)) (gd ys) dn k / 1000000000):=rfl
     have hstR:Hid (∀ x:Int,x=JC (fun t=>gd L (i+t)) (gd ys) dn k % 1000000000→∃ M':List Int,(wr.setCell ⟨B,i+k,none⟩ (.int .u64 x)).ownsRow B 224 1 (.slice (some ⟨B,0,none⟩) (nx+ny) (nx+ny)) (nx+ny) (M'.map uv)∧SS xs ys L M' i (k+1)):=fun x hx=>⟨_,by
      have h9:=(hst (.int .u64 x)).1
      rw [hx] at h9 ⊢
      have e:(M.map uv).set (i+k) (uv (JC (fun t=>gd L (i+t)) (gd ys) dn k % 1000000000))=(M.set (i+k) (JC (fun t=>gd L (i+t)) (gd ys) dn k % 1000000000)).map uv:=Fk.symm
      rw [← e]; exact h9,hRn.out⟩
     generalize JC (fun t=>gd L (i+t)) (gd ys) dn k=X at *
     generalize JD (fun t=>gd L (i+t)) (gd ys) dn k=c at *
     generalize gd L (i+k)=o at *
     generalize gd ys k=bb at *
     obtain ⟨xn,rfl⟩:∃ xn:Nat,X=xn:=⟨X.toNat,by omega⟩
     obtain ⟨cn,rfl⟩:∃ cn:Nat,c=cn:=⟨c.toNat,by omega⟩
     obtain ⟨on,rfl⟩:∃ on:Nat,o=on:=⟨o.toNat,by omega⟩
     obtain ⟨bn,rfl⟩:∃ bn:Nat,bb=bn:=⟨bb.toNat,by omega⟩
     have ex:=eX.out
     have kk:IntKind.i64.wrap ((k:Int)+1)=(k:Int)+1:=Ak _ (by omega)
     have hik2:IntKind.i64.wrap ((i:Int)+(k:Int))=((i+k:Nat):Int):=by rw [Ak _ (by omega)]; omega
     have y2:(0:Int)≤((i+k:Nat):Int):=by omega
     have y3:((i+k:Nat):Int) < ((nx+ny:Nat):Int):=by omega
     have y4:(0:Int)≤(k:Int):=by omega
     have y5:(k:Int) < (ny:Int):=by omega
     have km:IntKind.u64.wrap ((dn:Int) * (bn:Int))=(dn:Int) * (bn:Int):=AH _ (by omega)
     have ka:IntKind.u64.wrap ((on:Int)+(dn:Int) * (bn:Int))=(on:Int)+(dn:Int) * (bn:Int):=AH _ (by omega)
     have kx:IntKind.u64.wrap ((cn:Int)+((on:Int)+(dn:Int) * (bn:Int)))=(xn:Int):=by rw [← ex]; exact AH _ (by omega)
     have kq:IntKind.u64.wrap ((xn:Int) / 1000000000)=(xn:Int) / 1000000000:=AH _ (by omega)
     have hfs:Hid (∀ v,Fr w (wr.setCell ⟨B,i+k,none⟩ v)):=fun v=>hf3.setCell (p:=⟨B,i+k,none⟩) hBw v
     replace ex:=hZ ex
     clear hst hRn hyc
     go_wp2_with fail
     obtain ⟨M',hM1,hM2⟩:=hstR.out _ rfl
     go_roundg (gk - 1)
     case measure=>omega
     case rel=>exact ⟨k+1,M',by go_num,by omega,by first | rw [eC.out] | trace_state,hfs.out _,hM1,hM2⟩
    ·obtain rfl:k=ny:=by omega
     have dk:decide ((k:Int) < (k:Int))=false:=Aa (by omega)
     have hMl:M.length=nx+k:=by rw [hR.out.len]; exact hLl.out
     have mc:wr.cell? ⟨B,i+k,none⟩=some (.int .u64 (gd M (i+k))):=by
      rw [hown3.out.cellAt (i+k) (by omega),At,Jb (by omega)]; rfl
     have mf:=hown3.out.frozenAt (i+k)
     have hstR:Hid (∃ M':List Int,(wr.setCell ⟨B,i+k,none⟩ (.int .u64 (JD (fun t=>gd L (i+t)) (gd ys) dn k))).ownsRow B 224 1 (.slice (some ⟨B,0,none⟩) (nx+k) (nx+k)) (nx+k) (M'.map uv)∧Xk xs ys M' (i+1)):=⟨_,by
      have h9:=(hown3.out.stored (i+k) (.int .u64 (JD (fun t=>gd L (i+t)) (gd ys) dn k))).1
      have e:(M.map uv).set (i+k) (uv (JD (fun t=>gd L (i+t)) (gd ys) dn k))=(M.set (i+k) (JD (fun t=>gd L (i+t)) (gd ys) dn k)).map uv:=Fk.symm
      rw [← e]; exact h9,by
      have hy9:=hny.out
      have h:=SS.fin hT.out (M:=M) (by rw [← hy9]; exact hR.out) (by rw [← hnx.out]; exact hi9) dx.out dy.out
      rw [← hd.out,← hy9] at h
      exact h⟩
     have y2:(0:Int)≤((i+k:Nat):Int):=by omega
     have y3:((i+k:Nat):Int) < ((nx+k:Nat):Int):=by omega
     have hfs:Hid (∀ v,Fr w (wr.setCell ⟨B,i+k,none⟩ v)):=fun v=>hf3.setCell (p:=⟨B,i+k,none⟩) hBw v
     generalize JD (fun t=>gd L (i+t)) (gd ys) dn k=c at *
     go_wp2_with fail
     obtain ⟨M',hM1,hM2⟩:=hstR.out
     go_roundg (ko - 1)
     case measure=>omega
     case rel=>exact ⟨i+1,M',by go_num,by omega,hfs.out _,hM1,hM2⟩
  ·obtain rfl:i=nx:=by omega
   have dI:decide ((i:Int) < (i:Int))=false:=Aa (by omega)
   have hLl:L.length=i+ny:=by rw [hT.out.len,← hnx.out,← hny.out]
   have hown9:=hown.out
   rw [← hLl] at hown9
   obtain ⟨a9,c9,e9,he9,hc9,-⟩:=DW hown9
   have htr:=hZ (Jj L a9 c9 wo he9 (by rw [hLl]; omega) hc9)
   have hvl:val L=(n:Int):=by
    have h:=hT.out.vl
    rw [hnx.out,← FJ] at h
    rw [h]; exact hn.out
   have hq:BA L=digs n:=by rw [Dp hT.out.dg,hvl,AR]
   obtain ⟨hle1,hle⟩:=BS L
   rw [hq] at hle1 hle
   have hE:=I2 hown9 hle
   rw [← Y3,← hle1] at hE
   injection e9 with e1 e2 e3
   rw [← e1,← e3,hq,hLl] at htr
   rw [hLl] at hE
   replace hE:=hZ hE
   clear hown9 he9 hle1 hle hc9 e1 e2 e3 hvl hq hLl
   go_wp2_with fail
   refine htr.out.mono ?_
   rintro e w3 ⟨rfl,hf3⟩
   go_wp2_with fail
   go_ret
   exact ⟨_,rfl,by have h:=Cw (Bg hE.out hf3) hBw; exact h,(by intro e; injection e with e; cases e),hf.trans hf3⟩
theorem G7 {α:Type} {w:World} {enc:α→Value} {a:Option Addr} {l:List α} (h:El w enc a l) (k:Nat):El w enc a (l.take k):=by
 rcases h with h | ⟨b,o,e,hb,hc⟩
 ·exact .inl (by rw [h]; exact P1)
 ·exact .inr ⟨b,o,e,hb,fun i x hx=>hc i x (by
   rw [Bp] at hx
   split at hx
   ·exact hx
   ·cases hx)⟩
theorem R3 (xs:List Int) (d n:Nat) (hd:d < 1000000000) (hn:val xs * (d:Int)=(n:Int)) (a:Option Addr) (ca:Nat) (w:World) (hx:El w uv a xs) (dx:Dg xs) (hl:xs.length≤1000000000) :
 Calls Tryz.prog 210 #[.slice a xs.length ca,.int .u64 d] w fun e w'=>∃ v,e=.returned v∧w'.ownsRow w.heap.size 224 1 v (digs n).length ((digs n).map uv)∧v≠.slice none 0 0∧Fr w w':=by
 have hz:Hid (Dg (BA [(d:Int)])∧val (BA [(d:Int)])=d∧(BA [(d:Int)]).length≤1):=by
  have hD:Dg [(d:Int)]:=fun x hx=>by
   simp at hx; subst hx; omega
  have h1:BA [(d:Int)]=digs d:=by rw [Dp hD]; show digs (d+1000000000 * 0:Int).toNat=_; rw [B0,Gh,AR]
  refine ⟨by rw [h1]; exact BK d,by rw [h1]; exact B4 d,(BS [(d:Int)]).2⟩
 obtain ⟨W1,hW1⟩:∃ W1,W1=w.alloc (.cells #[.int .u64 d] 224):=⟨_,rfl⟩
 have hf1:Fr w W1:=by rw [hW1]; exact (Fr.refl w).alloc _
 have he1:El W1 uv (some ⟨w.heap.size,0,none⟩) [(d:Int)]:=.inr ⟨_,_,rfl,by rw [hW1]; simp,fun i x hi=>by
  cases i with
  | zero=>simp at hi; subst hi; rw [hW1]; exact Dt _ _ _
  | succ i=>simp at hi⟩
 have htr:=hZ (Jj [(d:Int)] (some ⟨w.heap.size,0,none⟩) 1 W1 he1 (by show 1≤4000000000; omega) (by show 1≤1; omega))
 have he2:El W1 uv (some ⟨w.heap.size,0,none⟩) (BA [(d:Int)]):=by rw [(BS [(d:Int)]).1]; exact G7 he1 _
 have htm:=hZ (fun W (hW:Fr W1 W)=>Vx xs (BA [(d:Int)]) n (by rw [hz.out.2.1]; exact hn) a (some ⟨w.heap.size,0,none⟩) ca 1 W (hx.fr (hf1.trans hW)) (he2.fr hW) dx hz.out.1 hl (by have:=hz.out.2.2; omega))
 generalize (BA [(d:Int)]).length=tl at *
 have h1:([(d:Int)]).length=1:=rfl
 rw [h1] at htr
 replace hW1:=hZ hW1
 clear hz he1 he2
 go_enter Tryz.func210,Tryz.ntmps210
 go_wp2_with fail
 rw [← hW1.out]
 refine htr.out.mono ?_
 rintro e w2 ⟨rfl,hf2⟩
 have h2:=hZ (htm.out w2 hf2)
 go_wp2_with fail
 refine h2.out.mono ?_
 rintro e w3 ⟨v,rfl,ho3,hn3,hf3⟩
 go_wp2_with fail
 go_ret
 exact ⟨v,rfl,Cw ho3 (hf1.trans hf2).size,hn3,(hf1.trans hf2).trans hf3⟩
theorem Vz (u n:Nat) (h0:0 < n) (hn:n < 1000000000) (a:Option Addr) (ca:Nat) (w:World) (hx:El w uv a (digs u)) (hl:(digs u).length≤1000000000) :
 Calls Tryz.prog 187 #[.slice a (digs u).length ca,.int .u64 n] w fun e w'=>∃ a' c',e=.returned (.tuple #[.slice a' (digs (u / n)).length c',.int .u64 (u % n:Nat)])∧El w' uv a' (digs (u / n))∧(digs (u / n)).length≤c'∧Fr w w':=by
 obtain ⟨i0,hi,hz0,hz1,hz2⟩:=AZ HW
 obtain ⟨m,hm⟩:∃ m,m=(digs u).length:=⟨_,rfl⟩
 have hD0:Hid (Hc u n m m (List.replicate m 0)):=by rw [hm]; exact Hc.start u n
 have hr0:Hid (u / 1000000000 ^ m % n=0):=by
  have h:=EW m u
  rw [hm,Fl] at h
  have h2:=Dv.1 h.symm
  show _=_
  rw [hm,h2,Nat.zero_mod]
 have hcell:Hid (∀ i,i < m→∃ b o:Nat,a=some ⟨b,o,none⟩∧b < w.heap.size∧w.cell? ⟨b,o+i,none⟩=some (.int .u64 ((u / 1000000000 ^ i % 1000000000:Nat):Int))):=fun i hi=>by
  obtain ⟨b,o,d,rfl,hb,hk,hc⟩:=hx.at (i:=i) (by rw [← hm]; exact hi)
  exact ⟨b,o,rfl,hb,by rw [← (HI hk).2]; exact hc⟩
 rw [← hm] at hl
 rw [← hm]
 replace hm:=hZ hm
 have km1:IntKind.i64.wrap ((m:Int) - 1)=(m:Int) - 1:=Ak _ (by omega)
 have hn0:¬ (n:Int)=0:=by omega
 have hnz:((n:Int) == 0)=false:=A2 hn0
 have hnz2:¬ n=0:=by omega
 go_enter Tryz.func187,Tryz.ntmps187
 go_wp2_with (at_make; refine Dk _ rfl _ _ 229 rfl w.heap.size 224 i0 _ 1 Tryz.underlying229 hi hz0 hz1 _ _ _ _ m (by rfl) (by rfl) (by omega) (by omega) (by rw [hz2]; omega) (by unfold maxLen; omega) (Ah _) ?_; intro w2 hown2 hgr2)
 have hf2:Fr w w2:=(Fr.refl w).grown hgr2 (fun k e=>by cases e)
 rw [NA] at hown2
 obtain ⟨B,hB⟩:∃ B,B=w.heap.size:=⟨_,rfl⟩
 rw [← hB] at hown2
 rw [← hB]
 have hBw:w.heap.size≤B:=by omega
 replace hB:=hZ hB
 replace hown2:=hZ hown2
 clear hgr2
 go_wp2_with fail
 go_loopg [7,8] m (fun k s7 s8 wr=>∃ out:List Int,s8=.int .i64 ((k:Int) - 1)∧s7=.int .u64 ((u / 1000000000 ^ k % n:Nat):Int)∧k≤m∧Fr w wr∧Hid (wr.ownsRow B 224 1 (.slice (some ⟨B,0,none⟩) m m) m (out.map uv))∧Hid (Hc u n m k out))
 case atStart=>exact ⟨_,rfl,by rw [hr0.out]; rfl,Ah _,hf2,hown2,hD0⟩
 case round=>
  clear hown2 hf2 hD0 hr0
  obtain ⟨out,rfl,rfl,hkm,hf,hown,hDI⟩:=hrel
  by_cases hk0:gk=0
  ·subst hk0
   have dk:decide ((0:Int)≤((0:Nat):Int) - 1)=false:=by decide
   have hol:=hDI.out.len
   have hown9:=hown.out
   rw [← hol] at hown9
   obtain ⟨a9,c9,e9,he9,hc9,-⟩:=DW hown9
   have htr:=hZ (Jj out a9 c9 wr he9 (by rw [hol]; omega) hc9)
   have hq:=hDI.out.fin
   have hE:El wr uv a9 (BA out):=by rw [(BS out).1]; exact G7 he9 _
   have hle:=(BS out).2
   injection e9 with e1 e2 e3
   rw [← e1,← e3,hq,hol] at htr
   rw [← e1,hq] at hE
   rw [hq,hol] at hle
   replace hE:=hZ hE
   rw [Em,E9]
   clear hown9 he9 hc9 e1 e2 e3 hq hol
   go_wp2_with fail
   refine htr.out.mono ?_
   rintro e w3 ⟨rfl,hf3⟩
   go_wp2_with fail
   go_ret2
   exact ⟨_,_,rfl,hE.out.fr hf3,hle,hf.trans hf3⟩
  ·obtain ⟨k,rfl⟩:∃ k,gk=k+1:=⟨gk - 1,by omega⟩
   obtain ⟨b,o,rfl,hb,hc⟩:=hcell.out k (by omega)
   have cell:=hf.keep hc
   have hkk:((k+1:Nat):Int) - 1=(k:Int):=by omega
   rw [hkk]
   have dk:decide ((0:Int)≤(k:Int))=true:=Ab (by omega)
   have y0:(0:Int)≤(k:Int):=by omega
   have y1:(k:Int) < (m:Int):=by omega
   have kk1:IntKind.i64.wrap ((k:Int) - 1)=(k:Int) - 1:=Ak _ (by omega)
   have hr:=CE (u / 1000000000 ^ (k+1)) h0
   have hd:=CE (u / 1000000000 ^ k) (show 0 < 1000000000 by decide)
   have hst:=JF u n k h0
   have hD9:=hZ (hDI.out.step (k:=k) (by omega) h0 rfl)
   have hol:=hDI.out.len
   have hq9:=HH (u / 1000000000 ^ (k+1)) n (u / 1000000000 ^ k % 1000000000) h0 hd
   obtain ⟨r,hrr⟩:∃ r,r=u / 1000000000 ^ (k+1) % n:=⟨_,rfl⟩
   obtain ⟨d,hdd⟩:∃ d,d=u / 1000000000 ^ k % 1000000000:=⟨_,rfl⟩
   rw [← hrr] at hr hst hD9 hq9
   rw [← hdd] at cell hd hst hD9 hq9
   rw [← hrr]
   obtain ⟨x,hx9⟩:∃ x,x=1000000000 * r+d:=⟨_,rfl⟩
   rw [← hx9] at hst hD9 hq9
   have kx1:IntKind.u64.wrap ((r:Int) * 1000000000)=(r:Int) * 1000000000:=AH _ (by omega)
   have kx2:IntKind.u64.wrap ((r:Int) * 1000000000+(d:Int))=(x:Int):=by rw [AH _ (by omega)]; omega
   have mc:wr.cell? ⟨B,k,none⟩=some (.int .u64 (gd out k)):=by
    rw [hown.out.cellAt k (by omega),At,Jb (by omega)]; rfl
   have mf:=hown.out.frozenAt k
   have hstR:Hid (∀ v:Int,v=((x / n:Nat):Int)→(wr.setCell ⟨B,k,none⟩ (.int .u64 v)).ownsRow B 224 1 (.slice (some ⟨B,0,none⟩) m m) m ((out.set k ((x / n:Nat):Int)).map uv)):=fun v hv=>by
    have h9:=(hown.out.stored k (.int .u64 v)).1
    rw [hv] at h9 ⊢
    rw [Fk]; exact h9
   have hfs:Hid (∀ v,Fr w (wr.setCell ⟨B,k,none⟩ v)):=fun v=>hf.setCell (p:=⟨B,k,none⟩) hBw v
   have kxn:IntKind.u64.wrap ((x:Int) / (n:Int))=(x:Int) / (n:Int):=by
    have e:(x:Int) / (n:Int)=((x / n:Nat):Int):=(Ea x n).symm
    rw [e]
    generalize x / n=z at hq9
    exact AH _ (by omega)
   have hxb:x < 18446744073709551616:=by omega
   have kxm:IntKind.u64.wrap ((x:Int) % (n:Int))=(x:Int) % (n:Int):=by
    have e:(x:Int) % (n:Int)=((x % n:Nat):Int):=(KC x n).symm
    rw [e]
    have hm9:=Ya x n
    generalize x % n=z at hm9
    exact AH _ (by omega)
   replace hst:=hZ hst
   replace hrr:=hZ hrr
   replace hdd:=hZ hdd
   replace hx9:=hZ hx9
   clear hc hq9 hkk
   go_wp2_with fail
   go_roundg k
   case measure=>omega
   case rel=>exact ⟨_,by first | rfl | go_num,by first | exact congrArg (Value.int IntKind.u64) (by rw [← hst.out,KC]) | trace_state,by omega,hfs.out _,hstR.out _ (by first | exact (Ea x n).symm | rfl | trace_state),hD9.out⟩
theorem VB (u v:Nat) (a b:Option Addr) (ca cb:Nat) (w:World) (hx:El w uv a (digs u)) (hy:El w uv b (digs v)) (hl:(digs u).length≤1000000000) (hm:(digs v).length≤1000000000) :
 Calls Tryz.prog 186 #[.slice a (digs u).length ca,.slice b (digs v).length cb] w fun e w'=>e=.returned (.int .i64 (Ej u v))∧Fr w w':=by
 by_cases hlen:(digs u).length=(digs v).length
 ·have hval:∀ k x y,(digs u)[k]?=some x→(digs v)[k]?=some y→x < y→(digs u).drop (k+1)=(digs v).drop (k+1)→Ej u v=-1:=fun k x y hk hk2 hxy hd=>by
   have:=Ho k (digs u) (digs v) (BK u) (BK v) hlen (fun x' y' e1 e2=>by rw [hk] at e1; rw [hk2] at e2; injection e1 with e1; injection e2 with e2; subst e1; subst e2; exact hxy) (Ae.1 hk).1 hd
   rw [B4,B4] at this
   exact IR (by omega)
  have hval2:∀ k x y,(digs u)[k]?=some x→(digs v)[k]?=some y→y < x→(digs u).drop (k+1)=(digs v).drop (k+1)→Ej u v=1:=fun k x y hk hk2 hxy hd=>by
   have:=Ho k (digs v) (digs u) (BK v) (BK u) hlen.symm (fun x' y' e1 e2=>by rw [hk2] at e1; rw [hk] at e2; injection e1 with e1; injection e2 with e2; subst e1; subst e2; exact hxy) (Ae.1 hk2).1 hd.symm
   rw [B4,B4] at this
   exact KE (by omega)
  have heq0:(digs u).drop 0=(digs v).drop 0→Ej u v=0:=fun h=>by
   rw [Fa,Fa] at h
   rw [Pl h]; exact Rb v
  generalize Ej u v=r at *
  generalize digs u=xs at *
  generalize digs v=ys at *
  have hne:((xs.length:Int) != ys.length)=false:=by rw [hlen]; simp
  obtain ⟨n,hn⟩:∃ n,n=xs.length:=⟨_,rfl⟩
  obtain ⟨m,hmm⟩:∃ m,m=ys.length:=⟨_,rfl⟩
  rw [← hn,← hmm] at hne
  rw [← hn] at hl
  rw [← hmm] at hm
  rw [← hn,← hmm]
  have hnm:(n:Int)≤m:=by omega
  have km1:IntKind.i64.wrap ((n:Int) - 1)=(n:Int) - 1:=Ak _ (by omega)
  replace hn:=hZ hn
  replace hmm:=hZ hmm
  replace hlen:=hZ hlen
  replace hval:=hZ hval
  replace hval2:=hZ hval2
  replace heq0:=hZ heq0
  replace hx:=hZ hx
  replace hy:=hZ hy
  go_enter Tryz.func186,Tryz.ntmps186
  go_wp2_with fail
  go_loopg [5] n (fun gk s5 wr=>∃ i:Int,s5=.int .i64 i∧i+1=gk∧gk≤n∧Fr w wr∧Hid (xs.drop gk=ys.drop gk))
  case atStart=>exact ⟨_,rfl,by omega,Ah _,Fr.refl _,by show _=_; rw [AQ (by have:=hn.out; omega),AQ (by have:=hn.out; have:=hlen.out; omega)]⟩
  case round=>
   obtain ⟨i,rfl,hik,hgn,hf,hb⟩:=hrel
   by_cases h0:gk=0
   ·subst h0
    obtain rfl:i=-1:=by omega
    have hfin:=hZ (heq0.out hb.out)
    go_wp2_with fail
    go_ret
    exact ⟨by rw [hfin.out]; rfl,hf⟩
   ·obtain ⟨k,rfl⟩:∃ k,gk=k+1:=⟨gk - 1,by omega⟩
    obtain rfl:i=(k:Int):=by omega
    obtain ⟨xb,xo,x,rfl,-,hxk,hxc⟩:=(hx.out.fr hf).at (i:=k) (by rw [← hn.out]; omega)
    obtain ⟨yb,yo,y,rfl,-,hyk,hyc⟩:=(hy.out.fr hf).at (i:=k) (by rw [← hlen.out,← hn.out]; omega)
    have z0:(0:Int)≤(k:Int):=by omega
    have z1:(k:Int) < (n:Int):=by omega
    have z2:(k:Int) < (m:Int):=by omega
    by_cases h1:x < y
    ·have d1:decide (x < y)=true:=Ab h1
     have hfin:=hZ (hval.out k x y hxk hyk h1 hb.out)
     go_wp2_with fail
     go_quiet (fail)
     go_wp2_with fail
     go_ret
     exact ⟨by rw [hfin.out]; rfl,hf.drewN _⟩
    ·have d1:decide (x < y)=false:=Aa h1
     by_cases h2:y < x
     ·have d2:decide (y < x)=true:=Ab h2
      have hfin:=hZ (hval2.out k x y hxk hyk h2 hb.out)
      go_wp2_with fail
      go_quiet (fail)
      go_wp2_with fail
      go_quiet (fail)
      go_wp2_with fail
      go_ret
      exact ⟨by rw [hfin.out]; rfl,(hf.drewN _).drewN _⟩
     ·have d2:decide (y < x)=false:=Aa h2
      obtain rfl:x=y:=by omega
      have hb2:=hZ (show xs.drop k=ys.drop k by rw [CD hxk,CD hyk,hb.out])
      go_wp2_with fail
      go_quiet (fail)
      go_wp2_with fail
      go_quiet (fail)
      go_wp2_with fail
      go_roundg k
      case measure=>omega
      case rel=>exact ⟨_,rfl,by omega,by omega,hf.drewN _,hb2⟩
 ·have hne:(((digs u).length:Int) != (digs v).length)=true:=by rw [Bs]; omega
  obtain ⟨n,hn⟩:∃ n,n=(digs u).length:=⟨_,rfl⟩
  obtain ⟨m,hmm⟩:∃ m,m=(digs v).length:=⟨_,rfl⟩
  rw [← hn,← hmm] at hne
  rw [← hn] at hl
  rw [← hmm] at hm
  rw [← hn,← hmm]
  have kw:IntKind.i64.wrap ((n:Int) - (m:Int))=(n:Int) - (m:Int):=Ak _ (by omega)
  by_cases h1:(digs u).length < (digs v).length
  ·have k1:max (-1:Int) ((n:Int) - (m:Int))=-1:=by omega
   have k2:min (1:Int) (-1)=-1:=by decide
   have hfin:=hZ (IR (Gy u v h1))
   replace hn:=hZ hn
   replace hmm:=hZ hmm
   clear hlen
   go_enter Tryz.func186,Tryz.ntmps186
   go_wp2_with fail
   go_ret
   exact ⟨by rw [hfin.out]; rfl,Fr.refl _⟩
  ·have k1:max (-1:Int) ((n:Int) - (m:Int))=(n:Int) - (m:Int):=by omega
   have k2:min (1:Int) ((n:Int) - (m:Int))=1:=by omega
   have hfin:=hZ (KE (Gy v u (by omega)))
   replace hn:=hZ hn
   replace hmm:=hZ hmm
   clear hlen
   go_enter Tryz.func186,Tryz.ntmps186
   go_wp2_with fail
   go_ret
   exact ⟨by rw [hfin.out]; rfl,Fr.refl _⟩
end Go.Proofs.YtiniigadkknboaaGreatDoor
