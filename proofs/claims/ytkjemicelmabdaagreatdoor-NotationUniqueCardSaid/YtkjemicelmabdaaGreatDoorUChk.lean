/- Contracts and laws: UChk. -/
import Derived.Test.YtkjemicelmabdaaGreatDoorUB
import Derived.Test.YtkjemicelmabdaaGreatDoorUE
import Derived.Test.YtkjemicelmabdaaGreatDoorUD
import Derived.Test.YtkjemicelmabdaaGreatDoorUKn
import Derived.Test.YtkjemicelmabdaaGreatDoorUH

set_option maxRecDepth 100000
set_option maxHeartbeats 8000000
namespace Go.Proofs.YtkjemicelmabdaaGreatDoor
open Go.RowKit Go.Lib
attribute [local go_sem ↓] AQ AR
theorem DQ (n:Int) (h0:-9223372036854775808≤n) (h1:n≤9223372036854775807) (w:World) (hG:G w) :
 Calls Tryz.prog 21 #[.int .i64 n] w fun e w'=>e=.returned (.string (tx n))∧Fr w w':=by
 go_enter Tryz.func21,Tryz.ntmps21
 go_wp2_with (go_at_call 63; refine (Fu _ h0 h1 _ hG).mono ?_; rintro e w' ⟨rfl,hf⟩)
 go_ret
 exact ⟨rfl,hf⟩
theorem KQ (r:List Int) (m:List (List Int)) (a:Option Addr) (cap:Nat) (w:World) (hm:BS w a (r :: m)) :
 Calls Tryz.prog 114 #[.slice a (r :: m).length cap] w fun e w'=>e=.returned (.int .i64 r.length)∧w=w':=by
 obtain ⟨b,o,a',c',rfl,hc,hel⟩:=hm.at (i:=0) (by simp)
 simp only [List.getElem_cons_zero,EK] at hc
 generalize r.length=d at *
 have y0:(0:Int) < (((r :: m).length:Nat):Int):=by rw [A6]; omega
 have y1:((((r :: m).length:Nat):Int) == 0)=false:=by rw [A6]; simp; omega
 generalize (r :: m).length=k at *
 go_enter Tryz.func114,Tryz.ntmps114
 go_wp2_with fail
 go_ret
 exact ⟨rfl,rfl⟩
theorem Hc (aA:Option Addr) (cA:Nat) (A:List Sy) (w:World) (hG:G w) (ha:IA w aA A) (hl:A.length≤1000000) :
 Calls Tryz.prog 62 #[.slice aA A.length cA] w fun e w'=>∃ a c,e=.returned (.slice a A.length c)∧BS w' a (A.map Sy.row)∧Fr w w':=by
 have hgn:=Ch hG
 obtain ⟨i1,ji,jz0,jz1,jz2⟩:=AG K7
 obtain ⟨n,hn⟩:∃ n,n=A.length:=⟨_,rfl⟩
 rw [← hn] at hl ⊢
 replace hn:=hZ hn
 replace ha:=hZ ha
 clear hG
 go_enter Tryz.func62,Tryz.ntmps62
 go_wp2_with fail
 go_loopg [3,4] n (fun k s3 s4 wr=>∃ i:Nat,s4=.int .i64 i∧i+k=n∧Fr w wr∧Hid (wr.ownsRow w.heap.size 29 1 s3 i ((A.take i).map HL)))
 case atStart=>exact ⟨0,rfl,by omega,Fr.refl _,AO _ _ _ _⟩
 case round=>
  obtain ⟨i,rfl,hik,hf,hown⟩:=hrel
  by_cases hi:i < n
  ·have hdI:decide (i < n)=true:=Ad hi
   obtain ⟨b,o,x,rfl,hbl,hxi,hc1,hc2,-⟩:=(ha.out.fr hf).at (i:=i) (by rw [← hn.out]; exact hi)
   have hsn:Hid ((A.take (i+1)).map HL=(A.take i).map HL ++ [.slice x.ra x.row.length x.rc]):=hZ (by rw [Bh hxi,Ax]; rfl)
   replace hxi:=hZ hxi
   have z0:(0:Int)≤(i:Int):=Ag _
   have z1:(i:Int) < (n:Int):=by omega
   generalize x.row.length=d at *
   generalize x.nm=nm at *
   generalize x.ra=ra at *
   generalize x.rc=rc at *
   have hownG:=hown.out
   have hz7:=hf.size
   go_wp2_with (at_builtin; refine As _ rfl _ _ 107 (by rfl) _ 29 _ _ 1 24 Tryz.underlying107 ji jz0 jz1 jz2 rfl (by decide) _ i _ (by rfl) (Av hownG _) ⟨wr.heap.size,0,none⟩ 1 1 [.slice ra d rc] (by rfl) rfl (AD _ _ _ _ (by simp)) (by simp [Value.oneCell']) (by decide) (by unfold maxLen; omega) (by omega) (by skip; simp; omega) (wr.heap.size+1) (by simp) ?_; intro gA capA wA hownA hgrowA hatA hltA)
   go_wp2_with fail
   go_roundg (gk - 1)
   case measure=>omega
   case rel=>exact ⟨i+1,by go_num,by omega,(hf.alloc _).grown hgrowA (fun k e=>(hown.out.lt k e).1),by show _; rw [hsn.out]; exact hownA⟩
  ·have hdI:decide (i < n)=false:=Ab hi
   obtain rfl:n=i:=by omega
   have hown9:=hown.out
   rw [Ai (by rw [← hn.out]; exact Af _)] at hown9
   obtain ⟨a,c,rfl,hm⟩:=LV hn.out hown9 (fun x hx=>((ha.out.fr hf).2 x hx))
   replace hm:=hZ hm
   clear hown9
   go_wp2_with fail
   go_ret
   exact ⟨a,c,rfl,hm.out,hf⟩
theorem JS (m:List (List Int)) (a:Option Addr) (cap n:Nat) (w:World) (hG:G w) (hm:BS w a m) (hr:BU n m) (hn:1≤n) (hn2:n≤1000000) (hl:m.length≤1000000) (hb:∀ r,r ∈ m→∀ x,x ∈ r→Sm x) :
 Calls Tryz.prog 113 #[.slice a m.length cap] w (VF w 76 m):=by
 have hG1:=hZ hG
 have hm1:=hZ hm
 have hr1:=hZ hr
 have hb1:=hZ hb
 have hgn:=Ch hG
 obtain ⟨i0,hi,hz0,hz1,hz2⟩:=AG GC
 obtain ⟨i1,ji,jz0,jz1,jz2⟩:=AG X3
 clear hG hm hr hb
 go_enter Tryz.func113,Tryz.ntmps113
 go_wp2_with fail
 go_loopg [3,4] m.length (fun k s3 s4 wr=>∃ (j:Nat) (hs:List (Nat×Nat×Nat)),s4=.int .i64 j∧j+k=m.length∧Fr w wr∧GG wr w.heap.size 76 s3 hs (m.take j)∧FF wr hs (m.take j)∧Hid (∀ h,h ∈ hs→w.heap.size≤h.1))
 case atStart=>exact ⟨0,[],rfl,by omega,Fr.refl _,GG.nil _ _ _ hgn,FF.nil _,fun h hm=>by simp at hm⟩
 case round=>
  obtain ⟨j,hs,rfl,hjk,hf,hgg,hrw,hnew⟩:=hrel
  by_cases hlt:j < m.length
  ·obtain ⟨b,o,a',c',rfl,hc,hel⟩:=(hm1.out.fr hf).at hlt
   have hrj:=hr1.out.row hlt
   rw [hrj] at hc
   have hgl:(m.take j).length=j:=by rw [AB]; omega
   have hsn:=Bh (Aa hlt)
   have hbj:=hb1.out _ (AK hlt)
   generalize m[j]=row at *
   replace hrj:=hZ hrj
   replace hgl:=hZ hgl
   replace hsn:=hZ hsn
   replace hbj:=hZ hbj
   have y0:(0:Int)≤(j:Int):=Ag _
   have y1:(j:Int) < (m.length:Int):=by omega
   have dJ:decide (j < m.length)=true:=Ad hlt
   obtain ⟨wo,rfl⟩:∃ wo:World,wo=wr:=⟨_,rfl⟩
   obtain ⟨ko,rfl⟩:∃ ko:Nat,ko=gk:=⟨_,rfl⟩
   replace hc:=hZ hc
   go_wp2_with fail
   go_loopg [5,6] n (fun k s5 s6 wr2=>∃ t:Nat,s6=.int .i64 t∧t+k=n∧Fr wo wr2∧wr2.ownsRow wo.heap.size 56 1 s5 t ((row.take t).map sv))
   case atStart=>exact ⟨0,rfl,by omega,Fr.refl _,AO _ _ _ _⟩
   case round=>
    obtain ⟨t,rfl,htk,hf2,hown⟩:=hrel
    have hc9:=hf2.keep hc.out
    by_cases ht:t < n
    ·obtain ⟨b2,o2,x,rfl,hbl2,hxt,hcell2⟩:=(hel.fr hf2).at (i:=t) (by rw [hrj.out]; exact ht)
     have hGr:=(hG1.out.fr hf).fr hf2
     have hsx:=hbj.out x (Ac hxt)
     unfold Sm at hsx
     have hsn2:=hZ (Bh hxt)
     replace hxt:=hZ hxt
     have dT:decide (t < n)=true:=Ad ht
     have z0:(0:Int)≤(t:Int):=Ag _
     have z1:(t:Int) < (n:Int):=by omega
     go_wp2_with fail
     refine (DQ _ (by omega) (by omega) _ hGr).mono ?_
     rintro e w2 ⟨rfl,hf3⟩
     go_wp2_with (at_builtin; refine As _ rfl _ _ 76 (by rfl) _ 56 _ _ 1 16 Tryz.underlying76 hi hz0 hz1 hz2 rfl (by decide) _ t _ (by rfl) (Av (A3 hown hf3) _) ⟨w2.heap.size,0,none⟩ 1 1 [sv x] (by rfl) rfl (AD _ _ _ _ (by simp)) (by simp [Value.oneCell']) (by decide) (by unfold maxLen; omega) (by omega) (by have:=(hf2.trans hf3).size; simp; omega) (w2.heap.size+1) (by simp) ?_; intro gA capA wA hownA hgrowA hatA hltA)
     go_wp2_with fail
     go_roundg (gk - 1)
     case measure=>omega
     case rel=>exact ⟨t+1,by go_num,by omega,((hf2.trans hf3).alloc _).grown hgrowA (fun k e=>(hown.lt k e).1),by rw [hsn2.out,Ax]; exact hownA⟩
    ·have hd:decide (t < n)=false:=Ab ht
     obtain rfl:t=n:=by omega
     obtain ⟨gb,cp,rfl⟩:=CF hown (by omega)
     rw [Ai (by rw [hrj.out]; omega)] at hown
     obtain ⟨hrow,-,-,hgb,-⟩:=CG (Aw hgn hf.size) hown
     have hgg2:=hgg.fr hf2
     have hrw0:=hZ (Dt hown (Aw hgn hf.size))
     have hrw2:=hZ (hrw.fr hf2)
     replace hown:=hZ hown
     replace hgg:=hZ hgg
     have hrj2:=hrj.out
     have hgl2:=hgl.out
     have hne:u3.ownBlock≠some gb:=fun e=>by have h9:=(hgg.out.own.lt gb e).2; exact Ck _ (An h9 hgb)
     have hne2:∀ h',h' ∈ hs→h'.1≠gb:=fun h' hm e2=>by have h9:=hgg.out.lt h' hm; rw [e2] at h9; exact Ck _ (An h9 hgb)
     have hown3:=hgg2.own
     rw [hgl2] at hown3
     clear hgl2 hrj2
     have hz9:=hf2.size
     go_wp2_with (at_builtin; refine As _ rfl _ _ 175 (by rfl) _ 76 _ _ 1 24 Tryz.underlying175 ji jz0 jz1 jz2 rfl (by decide) _ j _ (by rfl) (Av hown3 _) ⟨wr.heap.size,0,none⟩ 1 1 [.slice (some ⟨gb,0,none⟩) t cp] (by rfl) rfl (AD _ _ _ _ (by simp)) (by simp [Value.oneCell']) (by decide) (by unfold maxLen; omega) (by omega) (by have:=(hf.trans hf2).size; simp; omega) (wr.heap.size+1) (by simp) ?_; intro gA capA wA hownA hgrowA hatA hltA)
     have hpush:=(hgg2.fr ((Fr.refl wr).alloc _)).pushN (hd:=(gb,0,cp)) (hrow.fr ((Fr.refl wr).alloc _)) hne2 hne hgl.out (by unfold Kj; rw [hrj.out]) hownA hgrowA (hatA.imp id (fun e=>by rw [e]; simp))
     rw [← hsn.out] at hpush
     have hfrA:Fr w wA:=(((hf.trans hf2).alloc _)).grown hgrowA (fun k e=>(hgg2.own.lt k e).1)
     go_roundg (ko - 1)
     case measure=>omega
     case rel=>
      have hfxA:=Fx.of_grown hgrowA
      have hrwA:FF wA (hs ++ [(gb,0,cp)]) (m.take j ++ [row]):=by
       refine FF.push ((hrw2.out.fr ((Fr.refl wr).alloc _)).fx hfxA (fun hd hm e=>?_)) hgg.out.len rfl ?_
       ·obtain ⟨i9,hi9⟩:=AM hm
        have hl9:i9 < (m.take j).length:=by rw [← hgg.out.len]; exact (Ah.1 hi9).1
        exact (hgg.out.row i9 hd _ hi9 (Aa hl9)).2 e
       ·rw [hrj.out]
        exact B2 (A3 hrw0.out ((Fr.refl wr).alloc _)) hfxA (fun g9 hg9 e=>hne (by rw [e]; exact hg9.symm ▸ rfl))
      rw [← hsn.out] at hrwA
      exact ⟨j+1,_,by go_num,by omega,hfrA,hpush,hrwA,fun h hm=>by rcases A4.1 hm with h1 | h1; exact hnew.out h h1; (simp at h1; subst h1; exact Aw hf.size hgb)⟩
  ·have hd:decide (j < m.length)=false:=Ab hlt
   have hjm:m.take j=m:=Ai (by omega)
   rw [hjm] at hgg hrw
   replace hjm:=hZ hjm
   go_wp2_with fail
   go_ret
   exact ⟨_,hs,rfl,hgg,hrw,hnew,hf⟩
def Bd (A B:Nat) (q:Rat):Prop:=∃ x y:Int,q=Rat.divInt x y∧y≠0∧x.natAbs≤A∧y.natAbs≤B
theorem Bd.mono {A B A' B':Nat} {q:Rat} (h:Bd A B q) (h1:A≤A') (h2:B≤B'):Bd A' B' q:=by
 obtain ⟨x,y,e,h0,hx,hy⟩:=h; exact ⟨x,y,e,h0,by omega,by omega⟩
theorem Bd.int {A:Nat} (n:Int) (h:n.natAbs≤A):Bd A 1 (n:Rat):=⟨n,1,by have:=DR (n:Rat); rw [EV,FU] at this; exact this.symm,by decide,h,by decide⟩
theorem Bd.mul {A B C D:Nat} {p q:Rat} (h:Bd A B p) (k:Bd C D q):Bd (A * C) (B * D) (p * q):=by
 obtain ⟨x,y,rfl,h0,hx,hy⟩:=h
 obtain ⟨u,v,rfl,k0,hu,hv⟩:=k
 exact ⟨x * u,y * v,by rw [G4],FW h0 k0,by rw [A1]; exact BF hx hu,by rw [A1]; exact BF hy hv⟩
theorem Bd.div {A B C D:Nat} {p q:Rat} (h:Bd A B p) (k:Bd C D q) (hq:q≠0):Bd (A * D) (B * C) (p / q):=by
 obtain ⟨x,y,rfl,h0,hx,hy⟩:=h
 obtain ⟨u,v,rfl,k0,hu,hv⟩:=k
 have hu0:u≠0:=fun e=>hq (by rw [e,Rat.zero_divInt])
 exact ⟨x * v,y * u,by rw [HC,Rat.inv_divInt,G4],FW h0 hu0,by rw [A1]; exact BF hx hv,by rw [A1]; exact BF hy hu⟩
theorem Bd.sub {A B C D:Nat} {p q:Rat} (h:Bd A B p) (k:Bd C D q):Bd (A * D+C * B) (B * D) (p - q):=by
 obtain ⟨x,y,rfl,h0,hx,hy⟩:=h
 obtain ⟨u,v,rfl,k0,hu,hv⟩:=k
 refine ⟨x * v - u * y,y * v,by rw [Rat.divInt_sub_divInt _ _ h0 k0],FW h0 k0, ?_,by rw [A1]; exact BF hy hv⟩
 have h1:(x * v).natAbs≤A * D:=by rw [A1]; exact BF hx hv
 have h2:(u * y).natAbs≤C * B:=by rw [A1]; exact BF hu hy
 omega
theorem Bd.neg {A B:Nat} {p:Rat} (h:Bd A B p):Bd A B (-p):=by
 obtain ⟨x,y,rfl,h0,hx,hy⟩:=h
 exact ⟨-x,y,by rw [Rat.neg_divInt],h0,by rw [EA]; exact hx,hy⟩
theorem Bd.tq {A B:Nat} {q:Rat} (h:Bd A B q) (h1:A < 100000000) (h2:B < 100000000):Tq q:=by
 obtain ⟨x,y,rfl,h0,hx,hy⟩:=h
 have e1:(Rat.divInt x y).num.natAbs≤A:=by
  rw [Ys]
  refine Aw (Yz _ _) ?_
  rw [A1,Fl h0,Gj]; exact hx
 have e2:(Rat.divInt x y).den≤B:=by
  rw [Yt,Aj h0]
  exact Aw (MF _ _) hy
 unfold Tq Ti
 omega
theorem BO {f x y:Rat} (h1:Tq f) (h2:Tq y) (h3:Tq (f * y)) (h4:Tq x):Dr f x y=true:=Ad ⟨h1,h2,h3,h4⟩
theorem Zq {x y d e f g h i:Rat} (o1:Dr d d 1=true) (o2:Dr d e x=true) (o3:Dr d f y=true) (o4:Dr g g 1=true) (o5:Dr g h x=true) (o6:Dr g i y=true) :
 Cx [[1,x,y],[d,e,f],[g,h,i]] 0 0 3=some [[1,x,y],[0,e - d * x,f - d * y],[0,h - g * x,i - g * y]]:=by
 have e1:d - d * 1=0:=by grind
 have e2:g - g * 1=0:=by grind
 have z1:d=0→∀ t u:Rat,t - d * u=t:=fun h t u=>by grind
 have z2:g=0→∀ t u:Rat,t - g * u=t:=fun h t u=>by grind
 by_cases hd:d=0 <;> by_cases hg:g=0
 ·simp [Cx,BN,CI,hd,hg]; grind
 ·simp [Cx,BN,CI,hd,hg,Dw,o4,o5,o6]; grind
 ·simp [Cx,BN,CI,hd,hg,Dw,o1,o2,o3]; grind
 ·simp [Cx,BN,CI,hd,hg,Dw,o1,o2,o3,o4,o5,o6]; grind
theorem Zp {x y z h i:Rat} (o1:Dr x 1 0=true) (o2:Dr x x 1=true) (o3:Dr x y z=true) (o4:Dr h 0 0=true) (o5:Dr h h 1=true) (o6:Dr h i z=true) :
 Cx [[1,x,y],[0,1,z],[0,h,i]] 1 1 3=some [[1,0,y - x * z],[0,1,z],[0,0,i - h * z]]:=by
 by_cases hd:x=0 <;> by_cases hg:h=0
 ·simp [Cx,BN,CI,hd,hg]; grind
 ·simp [Cx,BN,CI,hd,hg,Dw,o4,o5,o6]; grind
 ·simp [Cx,BN,CI,hd,hg,Dw,o1,o2,o3]; grind
 ·simp [Cx,BN,CI,hd,hg,Dw,o1,o2,o3,o4,o5,o6]; grind
theorem Zo {y z:Rat} (o1:Dr y 1 0=true) (o2:Dr y 0 0=true) (o3:Dr y y 1=true) (o4:Dr z 0 0=true) (o5:Dr z 1 0=true) (o6:Dr z z 1=true) :
 Cx [[1,0,y],[0,1,z],[0,0,1]] 2 2 3=some [[1,0,0],[0,1,0],[0,0,1]]:=by
 by_cases hd:y=0 <;> by_cases hg:z=0
 ·simp [Cx,BN,CI,hd,hg]
 ·simp [Cx,BN,CI,hd,hg,Dw,o4,o5,o6]; grind
 ·simp [Cx,BN,CI,hd,hg,Dw,o1,o2,o3]; grind
 ·simp [Cx,BN,CI,hd,hg,Dw,o1,o2,o3,o4,o5,o6]; grind
theorem Bd.zero:Bd 0 1 (0:Rat):=Bd.int 0 (by decide)
theorem Bd.one:Bd 1 1 (1:Rat):=Bd.int 1 (by decide)
theorem X6 {a b c d e f g h i:Rat} (ha:a≠0) (ka:Bd 9 1 a) (kb:Bd 9 1 b) (kc:Bd 9 1 c) (kd:Bd 9 1 d) (ke:Bd 9 1 e) (kf:Bd 9 1 f) (kg:Bd 9 1 g) (kh:Bd 9 1 h) (ki:Bd 9 1 i) :
 Cx [[1,b / a,c / a],[d,e,f],[g,h,i]] 0 0 3=some [[1,b / a,c / a],[0,e - d * (b / a),f - d * (c / a)],[0,h - g * (b / a),i - g * (c / a)]] ∧
  Bd 9 9 (b / a)∧Bd 9 9 (c / a)∧Bd 162 9 (e - d * (b / a))∧Bd 162 9 (f - d * (c / a))∧Bd 162 9 (h - g * (b / a))∧Bd 162 9 (i - g * (c / a)) ∧
  a * ((e - d * (b / a)) * (i - g * (c / a)) - (f - d * (c / a)) * (h - g * (b / a)))=a * (e * i - f * h) - b * (d * i - f * g)+c * (d * h - e * g):=by
 have kx:=kb.div ka ha
 have ky:=kc.div ka ha
 have q:∀ {A B:Nat} {q:Rat},Bd A B q→A≤10000→B≤10000→Tq q:=fun h h1 h2=>h.tq (by omega) (by omega)
 have t1:Tq 1:=q Bd.one (by decide) (by decide)
 have hx:a * (b / a)=b:=by rw [Mz]; exact Gh ha
 have hy:a * (c / a)=c:=by rw [Mz]; exact Gh ha
 refine ⟨Zq ?_ ?_ ?_ ?_ ?_ ?_,kx.mono (by decide) (by decide),ky.mono (by decide) (by decide),(ke.sub (kd.mul kx)).mono (by decide) (by decide),(kf.sub (kd.mul ky)).mono (by decide) (by decide),(kh.sub (kg.mul kx)).mono (by decide) (by decide),(ki.sub (kg.mul ky)).mono (by decide) (by decide),by grind⟩
 ·exact BO (q kd (by decide) (by decide)) t1 (q (kd.mul Bd.one) (by decide) (by decide)) (q kd (by decide) (by decide))
 ·exact BO (q kd (by decide) (by decide)) (q kx (by decide) (by decide)) (q (kd.mul kx) (by decide) (by decide)) (q ke (by decide) (by decide))
 ·exact BO (q kd (by decide) (by decide)) (q ky (by decide) (by decide)) (q (kd.mul ky) (by decide) (by decide)) (q kf (by decide) (by decide))
 ·exact BO (q kg (by decide) (by decide)) t1 (q (kg.mul Bd.one) (by decide) (by decide)) (q kg (by decide) (by decide))
 ·exact BO (q kg (by decide) (by decide)) (q kx (by decide) (by decide)) (q (kg.mul kx) (by decide) (by decide)) (q kh (by decide) (by decide))
 ·exact BO (q kg (by decide) (by decide)) (q ky (by decide) (by decide)) (q (kg.mul ky) (by decide) (by decide)) (q ki (by decide) (by decide))
theorem Bd.q {A B:Nat} {q:Rat} (h:Bd A B q) (h1:A < 100000000:=by decide) (h2:B < 100000000:=by decide):Tq q:=h.tq h1 h2
theorem YM {x y p q r s:Rat} (hp:p≠0) (kx:Bd 9 9 x) (ky:Bd 9 9 y) (kp:Bd 162 9 p) (kq:Bd 162 9 q) (kr:Bd 162 9 r) (ks:Bd 162 9 s) :
 Cx [[1,x,y],[0,1,q / p],[0,r,s]] 1 1 3=some [[1,0,y - x * (q / p)],[0,1,q / p],[0,0,s - r * (q / p)]] ∧
  Bd 236196 118098 (y - x * (q / p))∧Bd 1458 1458 (q / p)∧Bd 4251528 118098 (s - r * (q / p))∧p * (s - r * (q / p))=p * s - q * r:=by
 have kz:Bd 1458 1458 (q / p):=(kq.div kp hp).mono (by decide) (by decide)
 have hz:p * (q / p)=q:=by rw [Mz]; exact Gh hp
 have t0:Tq 0:=Bd.zero.q
 have t1:Tq 1:=Bd.one.q
 refine ⟨Zp ?_ ?_ ?_ ?_ ?_ ?_,(ky.sub (kx.mul kz)).mono (by decide) (by decide),kz,(ks.sub (kr.mul kz)).mono (by decide) (by decide),by grind⟩
 ·exact BO kx.q t0 (kx.mul Bd.zero).q t1
 ·exact BO kx.q t1 (kx.mul Bd.one).q kx.q
 ·exact BO kx.q kz.q (kx.mul kz).q ky.q
 ·exact BO kr.q t0 (kr.mul Bd.zero).q t0
 ·exact BO kr.q t1 (kr.mul Bd.one).q kr.q
 ·exact BO kr.q kz.q (kr.mul kz).q ks.q
theorem U3 {u v z m:Rat} (hz:z≠0) (ku:Bd 236196 118098 u) (kv:Bd 1458 1458 v) (kz:Bd 4251528 118098 z) (km:Bd 1458 9 m) :
 Dj 2 ⟨[[1,0,u],[0,1,v],[0,0,z]],[0,1],m⟩=some ⟨[[1,0,0],[0,1,0],[0,0,1]],[0,1,2],m * z⟩:=by
 have t0:Tq 0:=Bd.zero.q
 have t1:Tq 1:=Bd.one.q
 have hgg:z / z=1:=by grind
 have h0:0 / z=0:=by grind
 have h1:=Zo (y:=u) (z:=v) (BO ku.q t0 (ku.mul Bd.zero).q t1) (BO ku.q t0 (ku.mul Bd.zero).q t0) (BO ku.q t1 (ku.mul Bd.one).q ku.q) (BO kv.q t0 (kv.mul Bd.zero).q t0) (BO kv.q t0 (kv.mul Bd.zero).q t1) (BO kv.q t1 (kv.mul Bd.one).q kv.q)
 simp [Dj,Ej,List.findIdx_cons,hz,BH,BN,CI,GJ,C5,t0,km.q,kz.q,hgg,h0]
 rw [h1]
theorem YN {x d e:Rat} (o1:Dr d d 1=true) (o2:Dr d e x=true):Cx [[1,x],[d,e]] 0 0 2=some [[1,x],[0,e - d * x]]:=by
 by_cases hd:d=0
 ·simp [Cx,BN,CI,hd]; grind
 ·simp [Cx,BN,CI,hd,Dw,o1,o2]; grind
theorem Zr {x:Rat} (o1:Dr x 1 0=true) (o2:Dr x x 1=true):Cx [[1,x],[0,1]] 1 1 2=some [[1,0],[0,1]]:=by
 by_cases hd:x=0
 ·simp [Cx,BN,CI,hd]
 ·simp [Cx,BN,CI,hd,Dw,o1,o2]; grind
instance (n:Int):Decidable (Ti n):=inferInstanceAs (Decidable (_∧_))
structure EZ where
 m:List (List Int)
 piv:List Nat
 last:Int
 odd:Bool
def C9 (m:List (List Int)) (i:Nat):List Int:=(m[i]?).getD []
def BD (m:List (List Int)) (i c:Nat):Int:=((C9 m i)[c]?).getD 0
def MU (p f l x y:Int):Int:=(p * x - f * y).fdiv l
def FD (p f l:Int) (xs ys:List Int):List Int:=List.zipWith (MU p f l) xs ys
def DB (m:List (List Int)) (p l:Int) (d c:Nat):Nat→List (List Int)
 | 0=>m
 | i+1=>if i=d then DB m p l d c i else (DB m p l d c i).set i (FD p (BD (DB m p l d c i) i c) l (C9 (DB m p l d c i) i) (C9 (DB m p l d c i) d))
def Eu (m:List (List Int)) (c k:Nat):Nat:=k+(m.drop k).findIdx fun r=>decide ((r[c]?).getD 0≠0)
def CE (m:List (List Int)) (k a:Nat):List (List Int):=if a=k then m else swp m a k
def NW (m:List (List Int)):Bool:=m.all fun r=>r.all fun x=>decide (Ti x)
def Ds (c:Nat) (s:EZ):Option EZ :=
 if s.piv.length < s.m.length then
  if Eu s.m c s.piv.length=s.m.length then some s else
   if NW s.m=true∧Ti s.last∧s.last≠0 then
    some ⟨DB (CE s.m s.piv.length (Eu s.m c s.piv.length)) (BD (CE s.m s.piv.length (Eu s.m c s.piv.length)) s.piv.length c) s.last s.piv.length c s.m.length,s.piv ++ [c],
     BD (CE s.m s.piv.length (Eu s.m c s.piv.length)) s.piv.length c,s.odd != decide (Eu s.m c s.piv.length≠s.piv.length)⟩
   else none
 else some s
def FL (m:List (List Int)):Nat→Option EZ
 | 0=>some ⟨m,[],1,false⟩
 | c+1=>(FL m c).bind (Ds c)
example:(FL [[2,1],[4,3]] 2).map (fun s=>(s.m,s.piv,s.last,s.odd))=some ([[2,0],[0,2]],[0,1],2,false):=by decide +kernel
example:(FL [[0,1],[4,3]] 2).map (fun s=>(s.m,s.piv,s.last,s.odd))=some ([[4,0],[0,4]],[0,1],4,true):=by decide +kernel
example:(FL [[0,0],[4,3]] 2).map (fun s=>(s.m,s.piv,s.last,s.odd))=some ([[4,3],[0,0]],[0],4,true):=by decide +kernel
def IB (B:Nat) (m:List (List Int)):Prop:=∀ r,r ∈ m→∀ x,x ∈ r→x.natAbs≤B
theorem IB.ti {B:Nat} {m:List (List Int)} (h:IB B m) (hB:B < 100000000):NW m=true :=
 Ar.2 fun r hr=>Ar.2 fun x hx=>Ad (by have:=h r hr x hx; exact ⟨by omega,by omega⟩)
theorem IB.row {B:Nat} {m:List (List Int)} (h:IB B m) (i:Nat):∀ x,x ∈ C9 m i→x.natAbs≤B:=by
 unfold C9
 cases e:m[i]? with
 | none=>intro x hx; cases hx
 | some r=>exact h r (Ac e)
theorem IB.ent {B:Nat} {m:List (List Int)} (h:IB B m) (i c:Nat):(BD m i c).natAbs≤B:=by
 unfold BD
 cases e:(C9 m i)[c]? with
 | none=>simp
 | some x=>exact h.row i x (Ac e)
theorem FH {f:Int→Int→Int}:∀ {xs ys:List Int} {z:Int},z ∈ List.zipWith f xs ys→∃ x y,x ∈ xs∧y ∈ ys∧z=f x y
 | [],_,z,h=>by simp at h
 | _ :: _,[],z,h=>by simp at h
 | x :: xs,y :: ys,z,h=>by
   rw [ZE] at h
   rcases A2.1 h with e | h
   ·exact ⟨x,y,Bx,Bx,e⟩
   ·obtain ⟨a,b,ha,hb,e⟩:=FH h
    exact ⟨a,b,BV _ ha,BV _ hb,e⟩
theorem WP {B:Nat} {p f l x y:Int} (hp:p.natAbs≤B) (hf:f.natAbs≤B) (hx:x.natAbs≤B) (hy:y.natAbs≤B):(MU p f l x y).natAbs≤2 * (B * B):=by
 refine Aw (Int.natAbs_fdiv_le_natAbs _ _) ?_
 have h1:(p * x).natAbs≤B * B:=by rw [A1]; exact BF hp hx
 have h2:(f * y).natAbs≤B * B:=by rw [A1]; exact BF hf hy
 omega
theorem H0 (m:List (List Int)) (p l:Int) (d c:Nat):∀ t,(DB m p l d c t).length=m.length
 | 0=>rfl
 | t+1=>by
   rw [DB]
   split
   ·exact H0 m p l d c t
   ·rw [AN]; exact H0 m p l d c t
theorem JR (m:List (List Int)) (p l:Int) (d c:Nat):∀ (t j:Nat),(DB m p l d c t)[j]?=if j < t∧j≠d then m[j]?.map fun r=>FD p ((r[c]?).getD 0) l r (C9 m d) else m[j]?
 | 0,j=>by rw [Aj (by omega)]; rfl
 | t+1,j=>by
   have ih:=JR m p l d c t
   rw [DB]
   by_cases h:t=d
   ·rw [Ak h,ih j]
    by_cases hj:j < t∧j≠d
    ·rw [Ak hj,Ak (by omega)]
    ·rw [Aj hj,Aj (by omega)]
   ·rw [Aj h,AX]
    have h1:C9 (DB m p l d c t) d=C9 m d:=by unfold C9; rw [ih d,Aj (by omega)]
    have h2:C9 (DB m p l d c t) t=C9 m t:=by unfold C9; rw [ih t,Aj (by omega)]
    by_cases hj:t=j
    ·subst hj
     rw [Ak rfl,Ak (by omega:t < t+1∧t≠d),H0]
     unfold BD
     rw [h1,h2]
     by_cases hl:t < m.length
     ·rw [Ak hl]; unfold C9; rw [Aa hl]; rfl
     ·rw [Aj hl,AJ (by omega)]; rfl
    ·rw [Aj hj,ih j]
     by_cases hk:j < t∧j≠d
     ·rw [Ak hk,Ak (by omega)]
     ·rw [Aj hk,Aj (by omega)]
theorem IB.mono {A B:Nat} {m:List (List Int)} (h:IB A m) (k:A≤B):IB B m:=fun r hr x hx=>Aw (h r hr x hx) k
theorem IB.clr {B:Nat} {m:List (List Int)} (h:IB B m) (hB:1≤B) {p:Int} (hp:p.natAbs≤B) (l:Int) (d c t:Nat):IB (2 * (B * B)) (DB m p l d c t):=by
 intro r hr x hx
 obtain ⟨j,hj⟩:=DV.1 hr
 have hBB:B≤2 * (B * B):=by have:=BF hB (Af B); omega
 rw [JR] at hj
 split at hj
 ·obtain ⟨r0,h0,rfl⟩:=AW.1 hj
  obtain ⟨u,v,hu,hv,rfl⟩:=FH hx
  refine WP hp ?_ (h r0 (Ac h0) u hu) (h.row d v hv)
  cases e:r0[c]? with
  | none=>simp
  | some y=>exact h r0 (Ac h0) y (Ac e)
 ·exact Aw (h r (Ac hj) x hx) hBB
theorem Ls {α:Type} {l:List α} {i j:Nat} {x:α} (h:x ∈ swp l i j):x ∈ l:=by
 unfold swp at h
 split at h
 ·rename_i a b h1 h2
  rcases Bt h with h | e
  ·rcases Bt h with h | e
   ·exact h
   ·rw [e]; exact Ac h2
  ·rw [e]; exact Ac h1
 ·exact h
theorem IB.swap {B:Nat} {m:List (List Int)} (h:IB B m) (k a:Nat):IB B (CE m k a):=by
 unfold CE; split
 ·exact h
 ·exact fun r hr=>h r (Ls hr)
theorem St (m:List (List Int)) (k a:Nat):(CE m k a).length=m.length:=by
 unfold CE swp; split
 ·rfl
 ·split
  ·rw [AN,AN]
  ·rfl
theorem Ra (m:List (List Int)) (c k:Nat) (h:k≤m.length):k≤Eu m c k∧Eu m c k≤m.length:=by
 unfold Eu
 have:=ZG (xs:=m.drop k) (p:=fun r=>decide ((r[c]?).getD 0≠0))
 rw [B3] at this
 omega
theorem Vf {m:List (List Int)} {c k:Nat} (h:k≤m.length) (hlt:Eu m c k≠m.length):BD m (Eu m c k) c≠0:=by
 have hle:=Ra m c k h
 unfold Eu at hlt hle ⊢
 have hl:(m.drop k).findIdx (fun r=>decide ((r[c]?).getD 0≠0)) < (m.drop k).length:=by rw [B3]; omega
 have:=List.findIdx_getElem (xs:=m.drop k) (p:=fun r=>decide ((r[c]?).getD 0≠0)) (w:=hl)
 have:=Au this
 unfold BD C9
 rw [List.getElem_drop] at this
 rw [B3] at hl
 rw [Aa (show _ < m.length by omega)]
 exact this
theorem Nc {m:List (List Int)} {k a c:Nat} (hk:k < m.length) (ha:a < m.length):BD (CE m k a) k c=BD m a c:=by
 unfold CE; split
 ·rename_i e; rw [e]
 ·rename_i e
  unfold BD C9 swp
  rw [Aa hk,Aa ha]
  simp only [AX,AN,hk,if_true]
theorem IV {B c:Nat} {s:EZ} (hB1:1≤B) (hB:B < 100000000) (h:IB B s.m) (hl:s.last.natAbs≤B) (h0:s.last≠0):∃ s',Ds c s=some s'∧IB (2 * (B * B)) s'.m∧s'.last.natAbs≤B∧s'.last≠0:=by
 have hBB:B≤2 * (B * B):=by have:=BF hB1 (Af B); omega
 unfold Ds
 split
 ·rename_i hk
  split
  ·exact ⟨s,rfl,h.mono hBB,hl,h0⟩
  ·rename_i hA
   have hle:=Ra s.m c s.piv.length (by omega)
   rw [Ak ⟨h.ti hB,⟨by omega,by omega⟩,h0⟩]
   refine ⟨_,rfl,(h.swap _ _).clr hB1 ((h.swap _ _).ent _ _) _ _ _ _,(h.swap _ _).ent _ _, ?_⟩
   show BD (CE _ _ _) _ _≠0
   rw [Nc hk (by omega)]
   exact Vf (by omega) hA
 ·exact ⟨s,rfl,h.mono hBB,hl,h0⟩
theorem UY {m:List (List Int)} (h:IB 9 m) {n:Nat} (hn:n≤3):∃ s,FL m n=some s:=by
 have h1:∃ s,FL m 1=some s∧IB 162 s.m∧s.last.natAbs≤9∧s.last≠0:=by
  obtain ⟨s,e,a,b,c⟩:=IV (c:=0) (s:=⟨m,[],1,false⟩) (by decide:1≤9) (by decide) h (by show (1:Int).natAbs≤9; decide) (by show (1:Int)≠0; decide)
  exact ⟨s,by rw [FL,FL,AV]; exact e,a,b,c⟩
 obtain ⟨s1,e1,a1,b1,c1⟩:=h1
 obtain ⟨s2,e2,a2,b2,c2⟩:=IV (c:=1) (s:=s1) (by decide:1≤162) (by decide) a1 (by omega) c1
 obtain ⟨s3,e3,-⟩:=IV (c:=2) (s:=s2) (by decide:1≤2 * (162 * 162)) (by decide) a2 (by omega) c2
 match n,hn with
 | 0,_=>exact ⟨_,rfl⟩
 | 1,_=>exact ⟨s1,e1⟩
 | 2,_=>exact ⟨s2,by rw [FL,e1,AV]; exact e2⟩
 | 3,_=>exact ⟨s3,by rw [FL,FL,e1,AV,e2,AV]; exact e3⟩
theorem Nd {c:Nat} {s s':EZ} (h:Ds c s=some s'):s'.piv.length≤s.piv.length+1∧s.piv.length≤s'.piv.length:=by
 unfold Ds at h
 split at h
 ·split at h
  ·injection h with h; subst h; omega
  ·split at h
   ·injection h with h; subst h; show (s.piv ++ [c]).length≤_∧_≤(s.piv ++ [c]).length; rw [At]; simp
   ·cases h
 ·injection h with h; subst h; omega
theorem JL {m:List (List Int)}:∀ {n:Nat} {s:EZ},FL m n=some s→s.piv.length≤n
 | 0,s,h=>by injection h with h; subst h; exact Af _
 | n+1,s,h=>by
   rw [FL] at h
   obtain ⟨s1,h1,h2⟩:=AZ.1 h
   have:=JL h1
   have:=(Nd h2).1
   omega
theorem GT {m:List (List Int)} {n:Nat} {s:EZ} (h:FL m (n+1)=some s) (hf:s.piv.length=n+1):∃ s1,FL m n=some s1∧s1.piv.length=n∧Ds n s1=some s:=by
 rw [FL] at h
 obtain ⟨s1,h1,h2⟩:=AZ.1 h
 have:=JL h1
 have:=(Nd h2).1
 exact ⟨s1,h1,by omega,h2⟩
def Iy (a b c d e f g h i:Int):Int:=a * (e * i - f * h) - b * (d * i - f * g)+c * (d * h - e * g)
theorem YL {a b c d e f g h i:Int} {s:EZ} (hs:Ds 0 ⟨[[a,b,c],[d,e,f],[g,h,i]],[],1,false⟩=some s) (hf:s.piv.length=1) :
 ∃ p x y P Q R S:Int,∃ o:Bool,s=⟨[[p,x,y],[0,P,Q],[0,R,S]],[0],p,o⟩∧p≠0∧(Iy a b c d e f g h i=0→P * S - Q * R=0):=by
 have q:∀ x y:Int,(x * y - y * x).fdiv 1=0:=fun x y=>by rw [Cd x y,Int.sub_self]; rfl
 unfold Ds at hs
 by_cases ha:a=0
 ·by_cases hd:d=0
  ·by_cases hg:g=0
   ·simp [Eu,List.findIdx_cons,ha,hd,hg] at hs
    subst hs; simp at hf
   ·simp [Eu,List.findIdx_cons,ha,hd,hg,CE,swp,BD,C9,DB,FD,MU,Int.fdiv_one] at hs
    obtain ⟨-,rfl⟩:=hs
    refine ⟨_,_,_,_,_,_,_,_,rfl,hg,fun h=>?_⟩
    unfold Iy at h; grind
  ·simp [Eu,List.findIdx_cons,ha,hd,CE,swp,BD,C9,DB,FD,MU,Int.fdiv_one] at hs
   obtain ⟨-,rfl⟩:=hs
   have e1:d * g - g * d=0:=by rw [Cd]; omega
   rw [e1]
   refine ⟨_,_,_,_,_,_,_,_,rfl,hd,fun h=>?_⟩
   unfold Iy at h; grind
 ·simp [Eu,List.findIdx_cons,ha,CE,BD,C9,DB,FD,MU,Int.fdiv_one] at hs
  obtain ⟨-,rfl⟩:=hs
  have e1:a * g - g * a=0:=by rw [Cd]; omega
  have e2:a * d - d * a=0:=by rw [Cd]; omega
  rw [e1,e2]
  refine ⟨_,_,_,_,_,_,_,_,rfl,ha,fun h=>?_⟩
  unfold Iy at h; grind
theorem YK {p x y P Q R S:Int} {o:Bool} {s:EZ} (hs:Ds 1 ⟨[[p,x,y],[0,P,Q],[0,R,S]],[0],p,o⟩=some s) (hf:s.piv.length=2) (h0:P * S - Q * R=0) :
 ∃ u v:List Int,∃ k z t:Int,∃ o:Bool,s=⟨[u,v,[k,z,0]],[0,1],t,o⟩:=by
 unfold Ds at hs
 by_cases hP:P=0
 ·by_cases hR:R=0
  ·simp [Eu,List.findIdx_cons,hP,hR] at hs
   subst hs; simp at hf
  ·simp [Eu,List.findIdx_cons,hP,hR,CE,swp,BD,C9,DB,FD,MU] at hs
   obtain ⟨-,rfl⟩:=hs
   have e:R * Q=0:=by grind
   rw [e]
   rw [Int.zero_fdiv]; exact ⟨_,_,_,_,_,_,rfl⟩
 ·simp [Eu,List.findIdx_cons,hP,CE,BD,C9,DB,FD,MU] at hs
  obtain ⟨-,rfl⟩:=hs
  have e:P * S - R * Q=0:=by grind
  rw [e]
  rw [Int.zero_fdiv]; exact ⟨_,_,_,_,_,_,rfl⟩
theorem U0 {a b c d e f g h i:Int} {s:EZ} (hs:FL [[a,b,c],[d,e,f],[g,h,i]] 3=some s) (hf:s.piv.length=3):Iy a b c d e f g h i≠0:=by
 intro h0
 obtain ⟨s2,h2,f2,k2⟩:=GT hs hf
 obtain ⟨s1,h1,f1,k1⟩:=GT h2 f2
 obtain ⟨s0,h9,f9,k9⟩:=GT h1 f1
 injection h9 with h9
 subst h9
 obtain ⟨p,x,y,P,Q,R,S,o,rfl,hp,hd⟩:=YL k9 f1
 obtain ⟨u,v,k,z,t,o',rfl⟩:=YK k1 f2 (hd h0)
 unfold Ds at k2
 simp [Eu,List.findIdx_cons] at k2
 subst k2
 simp at hf
theorem U1 {a b d e:Int} {s:EZ} (hs:FL [[a,b],[d,e]] 2=some s) (hf:s.piv.length=2):a * e - b * d≠0:=by
 intro h0
 obtain ⟨s1,h1,f1,k1⟩:=GT hs hf
 obtain ⟨s0,h9,f9,k9⟩:=GT h1 f1
 injection h9 with h9
 subst h9
 unfold Ds at k9
 by_cases ha:a=0
 ·by_cases hd:d=0
  ·simp [Eu,List.findIdx_cons,ha,hd] at k9
   subst k9; simp at f1
  ·simp [Eu,List.findIdx_cons,ha,hd,CE,swp,BD,C9,DB,FD,MU,Int.fdiv_one] at k9
   obtain ⟨-,rfl⟩:=k9
   have e1:d * b=0:=by grind
   unfold Ds at k1
   simp [Eu,List.findIdx_cons,e1] at k1
   subst k1; simp at hf
 ·simp [Eu,List.findIdx_cons,ha,CE,BD,C9,DB,FD,MU,Int.fdiv_one] at k9
  obtain ⟨-,rfl⟩:=k9
  have e1:a * e - d * b=0:=by grind
  unfold Ds at k1
  simp [Eu,List.findIdx_cons,e1] at k1
  subst k1; simp at hf
theorem U2 {a:Int} {s:EZ} (hs:FL [[a]] 1=some s) (hf:s.piv.length=1):a≠0:=by
 intro h0
 subst h0
 obtain ⟨s0,h9,f9,k9⟩:=GT hs hf
 injection h9 with h9
 subst h9
 unfold Ds at k9
 simp [Eu,List.findIdx_cons] at k9
 subst k9; simp at hf
theorem Gt {α:Type} {l:List α} (h:l.length=1):∃ a,l=[a]:=by
 match l,h with | [a],_=>exact ⟨a,rfl⟩
theorem ED {α:Type} {l:List α} (h:l.length=2):∃ a b,l=[a,b]:=by
 match l,h with | [a,b],_=>exact ⟨a,b,rfl⟩
theorem Dz {α:Type} {l:List α} (h:l.length=3):∃ a b c,l=[a,b,c]:=by
 match l,h with | [a,b,c],_=>exact ⟨a,b,c,rfl⟩
theorem Gu {n:Int} (h:n≠0):(n:Rat)≠0:=fun e=>h (BA.1 (by rw [e]; rfl))
def Fv:List (List Int)→Int
 | []=>1
 | [[a]]=>a
 | [[a,b],[d,e]]=>a * e - b * d
 | [[a,b,c],[d,e,f],[g,h,i]]=>Iy a b c d e f g h i
 | _=>0
theorem UX {m:List (List Int)} {n:Nat} (hn:n≤3) (hm:m.length=n) (hr:∀ r,r ∈ m→r.length=n) {s:EZ} (hs:FL m n=some s) (hf:s.piv.length=n):Fv m≠0:=by
 have hn4:n=0∨n=1∨n=2∨n=3:=by omega
 rcases hn4 with rfl | rfl | rfl | rfl
 ·rw [Aq hm]; decide
 ·obtain ⟨r,rfl⟩:=Gt hm
  obtain ⟨a,rfl⟩:=Gt (hr r (by simp))
  exact U2 hs hf
 ·obtain ⟨r,r',rfl⟩:=ED hm
  obtain ⟨a,b,rfl⟩:=ED (hr r (by simp))
  obtain ⟨d,e,rfl⟩:=ED (hr r' (by simp))
  exact U1 hs hf
 ·obtain ⟨r,r',r'',rfl⟩:=Dz hm
  obtain ⟨a,b,c,rfl⟩:=Dz (hr r (by simp))
  obtain ⟨d,e,f,rfl⟩:=Dz (hr r' (by simp))
  obtain ⟨g,h,i,rfl⟩:=Dz (hr r'' (by simp))
  exact U0 hs hf

theorem I2 (w:World) (base:Nat) (e:TypeId) (size:Nat) (h:base≤w.heap.size):(w.alloc (.cells #[] e)).ownsRow base e size (.slice (some ⟨w.heap.size,0,none⟩) 0 0) 0 [] :=
 ⟨by simp,.inr ⟨w.heap.size,0,#[],rfl,h,CJ w _,Af _,Bs _,by simp,by simp⟩⟩
theorem O5 {w:World} {b o:Nat} {xs:List (Value×Value)} (h:∀ i x,xs[i]?=some x→w.cell? ⟨b,o+i * 2,none⟩=some x.1∧w.cell? ⟨b,o+i * 2+1,none⟩=some x.2):∀ (j:Nat) (u:Value),(Ci xs)[j]?=some u→w.cell? ((⟨b,o,none⟩:Addr).add j)=some u:=fun j u hj=>by
 have e:∀ k,(⟨b,o,none⟩:Addr).add k=⟨b,o+k,none⟩:=fun k=>by
  unfold Addr.add; split
  ·rename_i h; rw [h]; rfl
  ·rfl
 rw [e]
 obtain ⟨i,x,hi,h2⟩:=JK _ j u hj
 rcases h2 with ⟨rfl,rfl⟩ | ⟨rfl,rfl⟩
 ·have:=(h i x hi).1
  exact this
 ·have:=(h i x hi).2
  rw [← Nat.add_assoc]; exact this
theorem KS {P:Program} {w:World} {ops:Array Oper} {o:Oper} {a:Act} {K:Act→World→Prop} {Q:Exit→Act→World→Prop} {E:Prop} (hgd:o.guard=none) (s x:Operand) (t:TypeId)
 (ho:o.op=.call { callee:=.builtin .append,args:=#[s,x],argTypes:=#[t,t] })
 (base:Nat) (e:TypeId) (i:TypeInfo) (z:Value) (size bytes:Nat) (ht:P.underlying t=some (.slice e)) (hi:P.info? e=some i) (hz:i.zero=some z)
 (hsize:i.size=size) (hby:i.bytes=bytes) (hzs:z.cells.size=size) (hsz:0 < size)
 (g0 n c0:Nat) (xs:List Value) (hs:a.eval s=.slice (some ⟨g0,0,none⟩) n c0) (hown:w.ownsRow base e size (.slice (some ⟨g0,0,none⟩) n c0) n xs)
 (src:Option Addr) (m c:Nat) (news:List Value) (hx:a.eval x=.slice src m c) (hl:news.length=m * size) (hsrc:(src=none∧m=0∧c=0∧news=[])∨∃ ad,src=some ad∧0 < m∧∀ (j:Nat) (u:Value),news[j]?=some u→w.cell? (ad.add j)=some u) (h1:∀ u ∈ news,u.oneCell'=true)
 (h63:n+m≤maxLen) (hbytes:(n+m) * bytes≤140737488355328) (hbase:base≤w.heap.size)
 (h:∀ (g cap:Nat) w',w'.ownsRow base e size (.slice (some ⟨g,0,none⟩) (n+m) cap) (n+m) (xs ++ news)→w.grownBy w' (some g0)→K (a.put o.dst (.slice (some ⟨g,0,none⟩) (n+m) cap)) w') :
 if Region.wanted o (yielded ops a.tmps)=true then Oper.wp P o a w K Q else E:=by
 rcases hsrc with ⟨e1,e2,e3,e4⟩ | ⟨ad,e1,e2,e3⟩
 ·have hw:Region.wanted o (yielded ops a.tmps)=true:=by simp [Region.wanted,hgd]
  rw [Ak hw]
  subst e1; subst e2; subst e3; subst e4
  have hrun:=run_append_owned_none (P:=P) (w:=w) base t o.type e i size ht hi _ n xs hown
  unfold Oper.wp
  simp [execOp,ho,resolve,invoke,builtin,hs,hx,hrun,Result.andThen]
  exact h g0 c0 w (by simpa using hown) ⟨rfl,rfl,rfl,Af _,fun _ _ _=>rfl⟩
 ·subst e1
  exact Dh w hgd s x t ho base e i z size bytes ht hi hz hsize hby hzs hsz _ n xs hs hown ad m c news hx hl e3 h1 e2 h63 hbytes hbase w.heap.size rfl (fun g cap w' h2 h3 _ _=>h g cap w' h2 h3)
theorem Qj (aN aA:Option Addr) (cN cA r:Nat) (N A:List Sy) (w:World) (hG:G w) (hn:DA w aN aA cA N A) (hs:Vm (N ++ A)) (hNl:N.length≤1000000000) (hAl:A.length≤1000000000) (hA1:1≤A.length∨(aA=none∧cA=0))
 (hR:CU A.length (N ++ A) (N ++ A).length 0=0→∀ (a:Option Addr) (c:Nat) (W:World),Fr w W→BS W a (A.map Sy.row)→Calls Tryz.prog 64 #[.slice a A.length c] W fun e w'=>e=.returned (.int .i64 r)∧Fr W w') :
 Calls Tryz.prog 22 #[.agg #[.slice aN N.length cN,.slice aA A.length cA]] w fun e w'=>e=.returned (.int .i64 (Cq N A r))∧Fr w w':=by
 have f0:Fr w (w.alloc (.cells #[.slice aN N.length cN,.slice aA A.length cA] 32)):=(Fr.refl w).alloc _
 by_cases hn1:N.length=0
 ·have hfin:=hZ (show Cq N A r=13 by unfold Cq; rw [Ak hn1])
  have d1:((N.length:Int) == 0)=true:=by rw [hn1]; rfl
  replace f0:=hZ f0
  clear hn hs hG hR
  replace hn1:=hZ hn1
  go_enter Tryz.func22,Tryz.ntmps22
  go_wp2_with fail
  go_ret
  exact ⟨Bp hfin.out.symm,f0.out⟩
 have d1:((N.length:Int) == 0)=false:=AF (by omega)
 by_cases hn60:60 < N.length
 ·have hfin:=hZ (show Cq N A r=4 by unfold Cq; rw [Aj hn1,Ak (.inl hn60)])
  have d2:decide ((60:Int) < (N.length:Int))=true:=Ad (by omega)
  replace f0:=hZ f0
  clear hn hs hG hR
  replace hn1:=hZ hn1
  go_enter Tryz.func22,Tryz.ntmps22
  go_wp2_with fail
  go_ret
  exact ⟨Bp hfin.out.symm,f0.out⟩
 have d2:decide ((60:Int) < (N.length:Int))=false:=Ab (by omega)
 by_cases ha6:6 < A.length
 ·have hfin:=hZ (show Cq N A r=4 by unfold Cq; rw [Aj hn1,Ak (.inr ha6)])
  have d3:decide ((6:Int) < (A.length:Int))=true:=Ad (by omega)
  replace f0:=hZ f0
  clear hn hs hG hR
  replace hn1:=hZ hn1
  go_enter Tryz.func22,Tryz.ntmps22
  go_wp2_with fail
  go_ret
  exact ⟨Bp hfin.out.symm,f0.out⟩
 have d3:decide ((6:Int) < (A.length:Int))=false:=Ab (by omega)
 have hlen:(N ++ A).length=N.length+A.length:=At
 have hE1:CU A.length (N ++ A) (N ++ A).length 0≠0→Cq N A r=CU A.length (N ++ A) (N ++ A).length 0:=fun h=>by unfold Cq; rw [Aj hn1,Aj (by omega),Ak h]
 have hE2:CU A.length (N ++ A) (N ++ A).length 0=0→Cq N A r=if r < A.length then 18 else 0:=fun h=>by unfold Cq; rw [Aj hn1,Aj (by omega),Aj (by rw [h]; simp)]
 have hrows:=fun W (hW:Fr w W)=>Hc aA cA A W (hG.fr hW) (hn.accs.fr hW) (by omega)
 replace hn1:0 < N.length:=by omega
 obtain ⟨bN,oN,rfl,hbN,hcN⟩:∃ b o,aN=some ⟨b,o,none⟩∧b < w.heap.size∧∀ i x,(N.map Sy.enc)[i]?=some x→w.cell? ⟨b,o+i * 2,none⟩=some x.1∧w.cell? ⟨b,o+i * 2+1,none⟩=some x.2:=by
  rcases hn.noms.1 with h | h
  ·simp at h; rw [h] at hn1; simp at hn1
  ·exact h
 have hsrcA:∀ W,Fr w W→(aA=none∧A.length=0∧cA=0∧Ci (A.map Sy.enc)=[])∨∃ ad,aA=some ad∧0 < A.length∧∀ (j:Nat) (u:Value),(Ci (A.map Sy.enc))[j]?=some u→W.cell? (ad.add j)=some u:=fun W hW=>by
  by_cases h0:A.length=0
  ·obtain ⟨h1,h2⟩:aA=none∧cA=0:=by
    rcases hA1 with h | h
    ·omega
    ·exact h
   exact .inl ⟨h1,h0,h2,by rw [Aq h0]; rfl⟩
  ·rcases hn.accs.1 with h | ⟨b,o,e,hb,hc⟩
   ·simp at h; rw [h] at h0; simp at h0
   ·exact .inr ⟨_,e,by omega,O5 (fun i x hx=>⟨hW.keep (hc i x hx).1,hW.keep (hc i x hx).2⟩)⟩
 have hgn:=Ch hG
 have hcN2:=hZ (fun W (hW:Fr w W)=>O5 (fun i x hx=>⟨hW.keep (hcN i x hx).1,hW.keep (hcN i x hx).2⟩))
 have hfN:(Ci (N.map Sy.enc)).length=N.length * 2:=by rw [Ep,Al]
 have hfA:(Ci (A.map Sy.enc)).length=A.length * 2:=by rw [Ep,Al]
 have h1N:∀ u ∈ Ci (N.map Sy.enc),u.oneCell'=true:=GR (Sy.one _)
 have h1A:∀ u ∈ Ci (A.map Sy.enc),u.oneCell'=true:=GR (Sy.one _)
 have hcat:Ci (N.map Sy.enc) ++ Ci (A.map Sy.enc)=Ci ((N ++ A).map Sy.enc):=by rw [Ax,Hk]
 have hEl:Hid (∀ x,x ∈ N ++ A→El w iv x.ra x.row):=fun x hx=>by
  rcases A4.1 hx with h9 | h9
  ·exact hn.noms.2 x h9
  ·exact hn.accs.2 x h9
 obtain ⟨T,hT⟩:∃ T,T=(N ++ A).length:=⟨_,rfl⟩
 rw [← hT] at hlen hE1 hE2 hR
 obtain ⟨n,hnn⟩:∃ n,n=N.length:=⟨_,rfl⟩
 obtain ⟨a,han⟩:∃ a,a=A.length:=⟨_,rfl⟩
 rw [← hnn] at hn1 hn60 d1 d2 f0 hlen hfN ⊢
 rw [← han] at ha6 d3 f0 hrows hE1 hE2 hR hlen hfA hsrcA ⊢
 replace hsrcA:=hZ hsrcA
 generalize Cq N A r=E at *
 generalize A.map Sy.row=M at *
 replace hcat:=hZ hcat
 replace hfN:=hZ hfN
 replace hfA:=hZ hfA
 replace h1N:=hZ h1N
 replace h1A:=hZ h1A
 generalize Ci (N.map Sy.enc)=FN at *
 generalize Ci (A.map Sy.enc)=FA at *
 generalize N ++ A=L at *
 clear hn hnn han hG hcN hNl hAl
 obtain ⟨S,hS⟩:∃ S,S=CU a L T 0:=⟨_,rfl⟩
 rw [← hS] at hE1 hE2 hR
 replace hs:=hZ hs
 replace hT:=hZ hT
 replace hE1:=hZ hE1
 replace hE2:=hZ hE2
 replace hS:=hZ hS
 replace hR:=hZ hR
 replace hrows:=hZ hrows
 obtain ⟨i1,ji,jz0,jz1,jz2⟩:=AG JF
 go_enter Tryz.func22,Tryz.ntmps22
 go_upto_region 5 with (fail)
 obtain ⟨wo,hwo⟩:∃ wo,wo=w.alloc (.cells #[.slice (some ⟨bN,oN,none⟩) n cN,.slice aA a cA] 32):=⟨_,rfl⟩
 have n0:wo.cell? ⟨w.heap.size,0,none⟩=some (.slice (some ⟨bN,oN,none⟩) n cN):=by rw [hwo]; exact (CL _ _ _ _).1
 have n1:wo.cell? ⟨w.heap.size,1,none⟩=some (.slice aA a cA):=by rw [hwo]; exact (CK _ _ _ _).1
 have z0s:wo.heap.size=w.heap.size+1:=by rw [hwo]; simp
 rw [← hwo] at f0 ⊢
 clear hwo
 obtain ⟨nb,hnb⟩:∃ nb,nb=w.heap.size:=⟨_,rfl⟩
 rw [← hnb] at n0 n1 z0s hbN hgn ⊢
 replace hnb:=hZ hnb
 have hS0:=hZ (fun W' (hW':Fr wo W')=>(⟨hW'.keep n0,hW'.keep n1⟩:W'.cell? ⟨nb,0,none⟩=some (.slice (some ⟨bN,oN,none⟩) n cN)∧W'.cell? ⟨nb,1,none⟩=some (.slice aA a cA)))
 refine BL (S:=fun W'=>W'.cell? ⟨nb,0,none⟩=some (.slice (some ⟨bN,oN,none⟩) n cN)∧W'.cell? ⟨nb,1,none⟩=some (.slice aA a cA)) 7 (by kernel_rfl) (hS0.out _ ((Fr.refl _).drew)) (fun hHeld=>?_)
 refine uM 1 24 ?_; try simp only [BT,Cp,Co]
 refine uM 2 25 ?_; try simp only [BT,Cp,Co]
 refine uM 4 27 ?_; try simp only [BT,Cp,Co]
 refine uM 5 28 ?_; try simp only [BT,Cp,Co]
 refine uC 0 (fun K hK=>?_)
 go_simp
 refine hK.out _ _ (hS0.out _ (by exact BM)) (fun hHeld=>?_)
 clear hK K
 try simp only [Act.put,BT]
 obtain ⟨W1,hW1⟩:∃ W1,W1=(wo.alloc (.cells #[] 65)).drew:=⟨_,rfl⟩
 have hw1:Fr wo W1:=by rw [hW1]; exact ((Fr.refl wo).alloc _).drew
 have hown0:W1.ownsRow (nb+1) 65 2 (.slice (some ⟨nb+1,0,none⟩) 0 0) 0 []:=by
  have h:=A3 (I2 wo (nb+1) 65 2 (by omega)) (Fr.refl _).drew
  rw [hW1,← z0s]; rw [z0s] at h ⊢; exact h
 have hs1:W1.heap.size=nb+2:=by rw [hW1,Ia,Az]; omega
 rw [← hW1] at hHeld ⊢
 clear hW1
 have hw1w:=hZ (f0.trans hw1)
 have hSA:Hid (∀ wA,W1.grownBy wA (some (nb+1))→Fr wo wA):=fun wA h=>hw1.grown h (fun k e=>by injection e with e; omega)
 refine uC 3 (fun K hK=>?_)
 (refine Dh _ rfl (.tmp 23) (.tmp 25) 30 rfl (nb+1) 65 i1 _ 2 40 Tryz.underlying30 ji jz0 jz1 jz2 rfl (by decide) (.slice (some ⟨nb+1,0,none⟩) 0 0) 0 [] (by simp [Act.eval]) hown0 ⟨bN,oN,none⟩ n cN FN (by simp [Act.eval]) hfN.out (hcN2.out _ hw1w.out) h1N.out (by omega) (by unfold maxLen; omega) (by omega) (by rw [hs1]; omega) (nb+2) hs1 ?_; intro gA capA wA hownA hgrowA hatA hltA)
 refine hK.out _ _ ((hS0.out _ (hSA.out wA hgrowA))) (fun hHeld=>?_)
 clear hK K
 try simp only [Act.put,BT]
 have hwA:=hSA.out wA hgrowA
 rw [FV,AE] at hownA
 simp only [AE] at hHeld ⊢
 have hgA:nb+1≤gA:=(hownA.lt gA rfl).1
 have hSB:Hid (∀ wB,wA.grownBy wB (some gA)→Fr wo wB):=fun wB h=>hwA.grown h (fun k e=>by injection e with e; omega)
 have hwAw:=hZ (f0.trans hwA)
 have hsA:=hwA.size
 clear hatA hltA hgrowA hSA hown0
 refine uC 6 (fun K hK=>?_)
 (refine KS rfl (.tmp 26) (.tmp 28) 30 rfl (nb+1) 65 i1 _ 2 40 Tryz.underlying30 ji jz0 jz1 jz2 rfl (by decide) gA n capA FN (by simp [Act.eval]) hownA aA a cA FA (by simp [Act.eval]) hfA.out (hsrcA.out _ hwAw.out) h1A.out (by unfold maxLen; omega) (by omega) (by omega) ?_; intro gB capB wB hownB hgrowB)
 refine hK.out _ _ ((hS0.out _ (hSB.out wB hgrowB))) (fun hHeld=>?_)
 clear hK K
 try simp only [Act.put]
 have hwB:=hSB.out wB hgrowB
 rw [hcat.out] at hownB
 have hsy:=hZ (show IA wB (some ⟨gB,0,none⟩) L from ⟨(ES hownB).1,fun x hx=>(hEl.out x hx).fr (f0.trans hwB)⟩)
 have hTn:n+a=T:=by omega
 rw [hTn]
 have hT2:T≤66:=by omega
 clear hTn
 replace hlen:=hZ hlen
 replace hs1:=hZ hs1
 replace z0s:=hZ z0s
 clear hHeld hgrowB hSB hownA hownB hcN2 hsrcA hEl
 refine uL 7 (fun K hK=>?_)
 go_simp
 refine hK.out _ _ ?_
 clear hK K
 have k1:=(hS0.out _ hwB).2
 have hFr:=f0.trans hwB
 clear hS0 n0 n1 hw1w hwAw hwA hw1
 have hwoB:=hwB
 obtain ⟨W2,rfl⟩:∃ W2:World,W2=wB:=⟨_,rfl⟩
 clear hwB hwoB
 have k1:=hZ k1
 have hFr:=hZ hFr
 go_wp2_with fail
 go_loopg [4] T (fun gk s4 wr=>∃ i:Nat,s4=.int .i64 i∧i+gk=T∧Hid (CU a L gk i=S)∧Fr W2 wr)
 case atStart=>exact ⟨0,rfl,by omega,hS.out.symm,Fr.refl _⟩
 case round=>
  obtain ⟨i,rfl,hik,hsc,hf⟩:=hrel
  have hFr2:=hFr.out.trans hf
  have k2:=hf.keep k1.out
  by_cases hi:i < T
  ·have hdI:decide (i < T)=true:=Ad hi
   obtain ⟨b,o,x,hae,hbl,hxi,hc1,hc2,-⟩:=(hsy.out.fr hf).at (i:=i) (by rw [← hT.out]; exact hi)
   injection hae with hae; injection hae with h1 h2
   subst h1; subst h2
   have hmem:x ∈ L:=Ac hxi
   obtain ⟨hnl,hrl⟩:=hs.out x hmem
   have hel:=(hsy.out.fr hf).2 x hmem
   have hN:=QN x.nm
   have hck:=fun W (hW:Fr wr W)=>D1 x.row x.ra x.rc W (hel.fr hW) hrl
   obtain ⟨j1,rfl⟩:∃ j1,gk=j1+1:=⟨gk - 1,by omega⟩
   have eN:=fun (h:BI x.nm=false)=>(DN (k:=j1) hxi (by rw [Hj h]; simp)).symm.trans hsc.out |>.symm.trans (Hj (d:=a) (p:=L.take i) h)
   have eD:=fun (h:BI x.nm=true) h2=>(DN (k:=j1) hxi (by rw [Ik h h2]; simp)).symm.trans hsc.out |>.symm.trans (Ik (d:=a) (p:=L.take i) h h2)
   have eR:=fun (h:BI x.nm=true) h2 h3=>(DN (k:=j1) hxi (by rw [Ij h h2 h3]; exact h3)).symm.trans hsc.out |>.symm.trans (Ij (d:=a) (p:=L.take i) h h2 h3)
   have eS:=fun (h:BI x.nm=true) h2 h3 h5=>(DN (k:=j1) hxi (by rw [Hi h h2 h3 h5]; simp)).symm.trans hsc.out |>.symm.trans (Hi (d:=a) (p:=L.take i) h h2 h3 h5)
   have eO:=fun (h:BI x.nm=true) h2 h3 h5=>(Ke (k:=j1) hxi (Pg (d:=a) (p:=L.take i) h h2 h3 h5)).symm.trans hsc.out
   have hE1':=fun (h:S≠0)=>hE1.out h
   have hany:Hid (∀ j y,L[j]?=some y→j < i→(y.nm.toList == x.nm.toList)=true→(L.take i).any (fun y=>y.nm.toList == x.nm.toList)=true):=fun j y hj hji he=>K0.2 ⟨y,Ac (i:=j) (by rw [BZ,Ak hji]; exact hj),he⟩
   have hnone:Hid ((∀ j y,L[j]?=some y→j < i→(y.nm.toList == x.nm.toList)=false)→(L.take i).any (fun y=>y.nm.toList == x.nm.toList)=false):=fun h=>by
    rw [CC]
    intro y hy
    obtain ⟨j,hj⟩:=AM hy
    rw [BZ] at hj
    split at hj
    ·rename_i hji; rw [h j y hj hji]; simp
    ·cases hj
   clear hsc hxi hmem hel
   replace hN:=hZ hN
   replace hck:=hZ hck
   replace eN:=hZ eN
   replace eD:=hZ eD
   replace eR:=hZ eR
   replace eS:=hZ eS
   replace eO:=hZ eO
   replace hE1':=hZ hE1'
   generalize (L.take i).any (fun y=>y.nm.toList == x.nm.toList)=bD at *
   generalize BI x.nm=bN at *
   generalize Dk x.row=bR at *
   generalize x.row.length=d at *
   generalize x.nm=nm at *
   generalize x.ra=ra at *
   generalize x.rc=rc at *
   rw [AE] at hc1 hc2
   have y1:(i:Int) < (T:Int):=by omega
   have y2:(0:Int)≤(i:Int):=by omega
   obtain ⟨wo2,rfl⟩:∃ wo2:World,wo2=wr:=⟨_,rfl⟩
   go_wp2_with fail
   refine (hN.out _ hnl).mono ?_
   rintro e w9 ⟨rfl,rfl⟩
   cases bN with
   | false=>
     have hS8:=eN.out (by trivial)
     have hfin:=hZ ((hE1'.out (by rw [hS8]; simp)).trans hS8)
     clear hS8
     go_wp2_with fail
     go_ret
     exact ⟨Bp hfin.out.symm,hFr2⟩
   | true=>
   go_wp2_with fail
   go_loopg [5] i (fun gk2 s5 wr2=>∃ j:Nat,s5=.int .i64 j∧j+gk2=i∧Hid (∀ j' y,L[j']?=some y→j' < j→(y.nm.toList == nm.toList)=false)∧Fr wo2 wr2)
   case atStart=>exact ⟨0,rfl,by omega,fun j' y _ h=>by omega,Fr.refl _⟩
   case round=>
    obtain ⟨j,rfl,hjk,hno,hf2⟩:=hrel
    have c1:=hf2.keep hc1
    have c2:=hf2.keep hc2
    have k3:=hf2.keep k2
    by_cases hj:j < i
    ·have hdJ:decide (j < i)=true:=Ad hj
     obtain ⟨b3,o3,y,hae3,hbl3,hyj,hd1,hd2,-⟩:=(hsy.out.fr (hf.trans hf2)).at (i:=j) (by rw [← hT.out]; omega)
     injection hae3 with hae3; injection hae3 with h1 h2
     subst h1; subst h2
     rw [AE] at hd1
     have y3:(j:Int) < (T:Int):=by omega
     have y4:(0:Int)≤(j:Int):=by omega
     have hyy:=hany.out j y hyj hj
     have hno2:=fun (h:(y.nm.toList == nm.toList)=false) (j':Nat) (y':Sy) (hj':L[j']?=some y') (h3:j' < j+1)=>show (y'.nm.toList == nm.toList)=false by
      by_cases e:j'=j
      ·subst e; rw [hyj] at hj'; injection hj' with hj'; rw [← hj']; exact h
      ·exact hno.out j' y' hj' (by omega)
     replace hyj:=hZ hyj
     replace hyy:=hZ hyy
     replace hno2:=hZ hno2
     clear hd2 c2
     generalize y.nm=nm2 at *
     obtain ⟨bE,hbE⟩:∃ bE,(nm2.toList == nm.toList)=bE:=⟨_,rfl⟩
     have hS8:=fun (h:bE=true)=>eD.out (by trivial) (hyy.out (hbE.trans h))
     have hno3:=fun (h:bE=false)=>hno2.out (hbE.trans h)
     replace hS8:=hZ hS8
     replace hno3:=hZ hno3
     clear hyy hno2
     cases bE with
     | true=>
       have hS9:=hS8.out (by trivial)
       have hfin:=hZ ((hE1'.out (by rw [hS9]; simp)).trans hS9)
       clear hS9
       go_wp2_with fail
       go_quiet (fail)
       go_wp2_with fail
       go_ret
       exact ⟨Bp hfin.out.symm,hFr2.trans (hf2.drewN _)⟩
     | false=>
       go_wp2_with fail
       go_quiet (fail)
       go_wp2_with fail
       go_roundg (gk - 1)
       case measure=>omega
       case rel=>exact ⟨j+1,by go_num,by omega,hno3.out (by trivial),hf2.drewN _⟩
    ·have hdJ:decide (j < i)=false:=Ab hj
     obtain rfl:i=j:=by omega
     have hbD:=hnone.out hno.out
     subst hbD
     go_wp2_with fail
     refine (hck.out _ hf2).mono ?_
     rintro e w5 ⟨rfl,hf5⟩
     have c3:=hf5.keep c2
     have k4:=hf5.keep k3
     have hFr5:=(hFr2.trans hf2).trans hf5
     clear hck hN c1 c2 hc1 hc2 k2 k3
     by_cases h3:bR≠0
     ·have q1:(bR != 0)=true:=by rw [BJ]; exact h3
      have hS8:=eR.out (by trivial) (by trivial) h3
      have hfin:=hZ ((hE1'.out (by rw [hS8]; exact h3)).trans hS8)
      clear hS8
      go_wp2_with fail
      go_ret
      exact ⟨Bp hfin.out.symm,hFr5⟩
     replace h3:bR=0:=Dp h3
     have q1:(bR != 0)=false:=by rw [h3]; rfl
     replace h3:=hZ h3
     by_cases h5:d≠a
     ·have q3:((d:Int) != (a:Int))=true:=by rw [BJ]; omega
      have hS8:=eS.out (by trivial) (by trivial) h3.out h5
      have hfin:=hZ ((hE1'.out (by rw [hS8]; simp)).trans hS8)
      clear hS8
      go_wp2_with fail
      go_quiet (fail)
      go_wp2_with fail
      go_ret
      exact ⟨Bp hfin.out.symm,hFr5.drewN _⟩
     replace h5:d=a:=Dp h5
     have q3:((d:Int) != (a:Int))=false:=by rw [h5]; simp
     have hO:=hZ (eO.out (by trivial) (by trivial) h3.out h5)
     clear eN eD eR eS eO
     replace h5:=hZ h5
     go_wp2_with fail
     go_quiet (fail)
     go_wp2_with fail
     go_roundg j1
     case measure=>omega
     case rel=>exact ⟨i+1,by go_num,by omega,hO,((hf.trans hf2).trans hf5).drewN _⟩
  ·have hdI:decide (i < T)=false:=Ab hi
   obtain rfl:gk=0:=by omega
   have hS0:S=0:=hsc.out.symm
   have hfin:=hE2.out hS0
   have hrk:=hR.out hS0
   clear hE1 hE2 hR hsc hsy
   replace hfin:=hZ hfin
   replace hrk:=hZ hrk
   replace hS0:=hZ hS0
   obtain ⟨wo,rfl⟩:∃ wo:World,wo=wr:=⟨_,rfl⟩
   go_wp2_with fail
   go_region_held3 (fun w'=>w'.cell? ⟨nb,1,none⟩=some (.slice aA a cA))
    (first | assumption | (refine Fr.keep (by assumption) ?_; assumption) | go_keep)
    (first
     | (go_at_call 62; (with_reducible refine (hrows.out _ ?_).mono ?_); (exact BM); rintro e w6 ⟨ra,rc,rfl,hma,hf6⟩)
     | (go_at_call 64; (with_reducible refine (hrk.out ra rc _ ?_ hma).mono ?_); (exact BM); rintro e w7 ⟨rfl,hf7⟩))
   have hfr7:Fr w w7:=(hFr2.trans ((Fr.refl wo).drew.trans hf6)).trans hf7
   by_cases hra:r < a
   ·have q1:decide (r < a)=true:=Ad hra
    have hfin2:=hZ (hfin.out.trans (Ak hra))
    go_wp2_with fail
    go_ret
    exact ⟨Bp hfin2.out.symm,hfr7⟩
   ·have q1:decide (r < a)=false:=Ab hra
    have hfin2:=hZ (hfin.out.trans (Aj hra))
    go_wp2_with fail
    go_ret
    exact ⟨Bp hfin2.out.symm,hfr7⟩
end Go.Proofs.YtkjemicelmabdaaGreatDoor
