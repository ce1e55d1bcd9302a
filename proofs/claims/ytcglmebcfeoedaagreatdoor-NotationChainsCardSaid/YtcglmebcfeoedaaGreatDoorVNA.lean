/- Contracts and laws: VNA. -/
import Derived.Test.YtcglmebcfeoedaaGreatDoorVE
import Derived.Test.YtcglmebcfeoedaaGreatDoorVL
import Derived.Test.YtcglmebcfeoedaaGreatDoorVGW

set_option maxRecDepth 100000
set_option maxHeartbeats 16000000
namespace Go.Proofs.YtcglmebcfeoedaaGreatDoor
open Go.RowKit Go.Lib
attribute [local go_sem ↓] AA AB
def Vm (w:World) (xs:List Int) (e:Ending) (w':World):Prop:=(xs.all Bi=true→WH w xs e w')∧(xs.all Bi=false→e=.returned (.tuple #[.slice none 0 0,.bool false])∧Fr w w')
theorem KB (xs:List Int) (a:Option Addr) (cap:Nat) (w:World) (hG:G w) (hx:El w sv a xs) (hl:xs.length≤1000000) (hb:∀ x,x ∈ xs→-9223372036854775808≤x∧x≤9223372036854775807) :
 Calls Tryz.prog 65 #[.slice a xs.length cap] w (Vm w xs):=by
 have hgn:=CS hG
 obtain ⟨i1,ji,jz0,jz1,jz2⟩:=AQ DQ
 obtain ⟨n,hn⟩:∃ n,n=xs.length:=⟨_,rfl⟩
 rw [← hn] at hl ⊢
 replace hn:=hZ hn
 replace hx:=hZ hx
 replace hb:=hZ hb
 replace hG:=hZ hG
 go_enter Tryz.func65,Tryz.ntmps65
 go_wp2_with fail
 have hf0:Fr w (w.alloc (.cells #[] 3)):=(Fr.refl w).alloc _
 have hown0:=EV (base:=w.heap.size) (e:=3) (size:=1) w #[] 0 (Ag _) (by decide) rfl
 go_loopg [4,12] n (fun k s4 Vr wr=>∃ i:Nat,Vr=.int .i64 i∧i+k=n∧Fr w wr∧Hid (wr.ownsRow w.heap.size 3 1 s4 i ((xs.take i).map iv))∧Hid (s4≠.slice none 0 0)∧Hid ((xs.take i).all Bi=true))
 case atStart=>exact ⟨0,rfl,by omega,hf0,hown0,fun e=>(by injection e with e; cases e),rfl⟩
 case round=>
  clear hf0 hown0
  obtain ⟨i,rfl,hik,hf,hown,hne,hfit⟩:=hrel
  by_cases hi:i < n
  ·have hdI:decide (i < n)=true:=Ac hi
   obtain ⟨b,o,x,rfl,hbl,hxi,hcell⟩:=(hx.out.fr hf).at (i:=i) (by rw [← hn.out]; exact hi)
   obtain ⟨x1,x2⟩:=hb.out x (Ae hxi)
   have htk:=Bx hxi
   have hmem:x ∈ xs:=Ae hxi
   replace hxi:=hZ hxi
   have z0:(0:Int)≤(i:Int):=Af _
   have z1:(i:Int) < (n:Int):=by omega
   by_cases hfx:-1000000000≤x∧x≤1000000000
   ·have hsn:Hid ((xs.take (i+1)).map iv=(xs.take i).map iv ++ [iv x]):=hZ (by rw [htk,Aw]; rfl)
    have hft:Hid ((xs.take (i+1)).all Bi=true):=hZ (by
     have h1:Bi x=true:=Ac hfx
     rw [htk,FY,hfit.out]; simp [h1])
    have d1:decide ((1000000000:Int) < x)=false:=Aa (by omega)
    have d2:decide (x < (-1000000000:Int))=false:=Aa (by omega)
    clear htk hmem
    go_wp2_with fail
    refine (ES _ (by omega) (by omega) _).mono ?_
    rintro e w1 ⟨rfl,hf1⟩
    have hownG:=Ba hown.out hf1
    have hz7:=hf.size
    have hz8:=hf1.size
    go_wp2_with (at_builtin; refine At _ rfl _ _ 44 (by rfl) _ 3 _ _ 1 8 Tryz.underlying44 ji jz0 jz1 jz2 rfl (by decide) _ i _ (by rfl) (Au hownG _) ⟨w1.heap.size,0,none⟩ 1 1 [.int .i64 x] (by rfl) rfl (AF _ _ _ _ (by simp)) (by simp [Value.oneCell']) (by decide) (by unfold maxLen; omega) (by omega) (by skip; simp; omega) (w1.heap.size+1) (by simp) ?_; intro gA capA wA hownA hgrowA hatA hltA)
    go_wp2_with fail
    go_roundg (gk - 1)
    case measure=>omega
    case rel=>exact ⟨i+1,by go_num,by omega,((hf.trans hf1).alloc _).grown hgrowA (fun k e=>(hown.out.lt k e).1),by show _; rw [hsn.out]; exact hownA,fun e=>(by injection e with e; cases e),hft.out⟩
   ·have hbad:Hid (xs.all Bi=false):=hZ (CV.2 ⟨x,hmem,by unfold Bi; rw [Aa hfx]; simp⟩)
    clear htk hmem
    by_cases hgt:(1000000000:Int) < x
    ·have d1:decide ((1000000000:Int) < x)=true:=Ac hgt
     clear hfx
     go_wp2_with fail
     refine (ES _ (by omega) (by omega) _).mono ?_
     rintro e w1 ⟨rfl,hf1⟩
     go_wp2_with fail
     go_ret2
     exact ⟨fun h=>(by rw [hbad.out] at h; cases h),fun _=>⟨rfl,hf.trans hf1⟩⟩
    ·have d1:decide ((1000000000:Int) < x)=false:=Aa hgt
     have d2:decide (x < (-1000000000:Int))=true:=Ac (by omega)
     clear hfx
     go_wp2_with fail
     refine (ES _ (by omega) (by omega) _).mono ?_
     rintro e w1 ⟨rfl,hf1⟩
     go_wp2_with fail
     go_ret2
     exact ⟨fun h=>(by rw [hbad.out] at h; cases h),fun _=>⟨rfl,hf.trans hf1⟩⟩
  ·have hdI:decide (i < n)=false:=Aa hi
   obtain rfl:n=i:=by omega
   have hown9:=hown.out
   rw [Ak (by rw [← hn.out]; exact Ag _)] at hown9
   replace hown9:=hZ hown9
   have hft:=hfit.out
   rw [Ak (by rw [← hn.out]; exact Ag _)] at hft
   replace hft:=hZ hft
   go_wp2_with fail
   go_ret2
   exact ⟨fun _=>⟨_,rfl,by rw [← hn.out]; exact hown9.out,hne.out,hf⟩,fun h=>(by rw [hft.out] at h; cases h)⟩
def Kk (RA:List (List Int)) (cs s0:List Int):Nat→List Int
 | 0=>s0
 | i+1=>List.zipWith (fun a x=>a+(cs[i]?).getD 0 * x) (Kk RA cs s0 i) (Bv RA i)
instance decTi (n:Int):Decidable (Ti n):=by unfold Ti; infer_instance
instance decSm (n:Int):Decidable (Sm n):=by unfold Sm; infer_instance
def Xl (RA:List (List Int)) (cs s0:List Int) (d:Nat):Bool :=
 (List.range d).all fun i=>decide (Ti ((cs[i]?).getD 0)) && (List.range d).all fun c=>decide (Sm (((Kk RA cs s0 i)[c]?).getD 0)) && decide (Ti (((Bv RA i)[c]?).getD 0))
theorem VN {RA:List (List Int)} {cs s0:List Int} {d i c:Nat} (h:Xl RA cs s0 d=true) (hi:i < d) (hc:c < d):Ti ((cs[i]?).getD 0)∧Sm (((Kk RA cs s0 i)[c]?).getD 0)∧Ti (((Bv RA i)[c]?).getD 0):=by
 have h1:=As.1 h i (AZ.2 hi)
 rw [Bb] at h1
 have h2:=As.1 h1.2 c (AZ.2 hc)
 rw [Bb] at h2
 exact ⟨Av h1.1,Av h2.1,Av h2.2⟩
theorem Rc {RA:List (List Int)} {cs s0:List Int} {d:Nat} (hs:s0.length=d) (hr:∀ i,i < d→(Bv RA i).length=d):∀ i,i≤d→(Kk RA cs s0 i).length=d
 | 0,_=>hs
 | i+1,h=>by
   rw [Kk,ZC,Rc hs hr i (by omega),hr i (by omega)]
   omega
def U8 (w:World) (xs:List Int) (d:Nat) (e:Ending) (w':World):Prop:=∃ g c,e=.returned (.tuple #[.slice (some ⟨g,0,none⟩) d c,.int .i64 0])∧El w' iv (some ⟨g,0,none⟩) xs∧xs.length=d∧Fr w w'
def Wy (w:World) (xs:List Int) (d:Nat) (e:Ending) (w':World):Prop:=(xs.all Bi=true→U8 w xs d e w')∧(xs.all Bi=false→e=.returned (.tuple #[.slice none 0 0,.int .i64 4])∧Fr w w')
theorem SY (N A:List Sy) (d i0:Nat) (cs s0:List Int) (ca aN aA:Option Addr) (cc cN cA:Nat) (w:World) (hG:G w) (hn:DS w aN aA cA N A) (d1:1≤d) (d6:d≤6) (lenA:A.length=d) (n60:N.length≤60)
 (rowA:∀ q,q ∈ A.map Sy.row→q.length=d∧∀ x,x ∈ q→Bi x=true) (r0:s0.length=d∧∀ x,x ∈ s0→Bi x=true) (hc:El w iv ca cs) (hcl:cs.length=d) (hcf:∀ x,x ∈ cs→Bi x=true)
 (hi0:i0 < N.length) (hs0:(N.map Sy.row)[i0]?=some s0) (hzz0:∀ i c,i < d→c < d→Sm (((Kk (A.map Sy.row) cs s0 i)[c]?).getD 0)∧Ti (((Bv (A.map Sy.row) i)[c]?).getD 0)) (hfs:∀ x,x ∈ Kk (A.map Sy.row) cs s0 d→Sm x)
 (hck:∀ W,Fr w W→Calls Tryz.prog 25 #[.agg #[.slice aN N.length cN,.slice aA A.length cA]] W fun e w'=>e=.returned (.int .i64 0)∧Fr W w') :
 Calls Tryz.prog 29 #[.agg #[.slice aN N.length cN,.slice aA A.length cA],.agg #[.int .i64 i0,.slice ca d cc]] w (Wy w (Kk (A.map Sy.row) cs s0 d) d):=by
 have hgn:=CS hG
 have n1:1≤N.length:=by omega
 have hcs9:=fun W (hW:Fr w W)=>JZ aN aA cN cA N A i0 cs ca cc W (hc.fr hW) (by omega) (by omega) (by omega)
 have hsp:R6 N A i0 cs=0:=by
  unfold R6
  rw [Ai (by omega),Ai (by omega)]
  exact Hm (by omega) (CE.2 (fun x hx=>by rw [hcf x hx]; simp))
 rw [hsp] at hcs9
 rw [lenA] at hck hcs9 ⊢
 rw [hcl] at hcs9
 obtain ⟨M,hM⟩:∃ M,M=N.length:=⟨_,rfl⟩
 rw [← hM] at n1 n60 hck hi0 hcs9 ⊢
 obtain ⟨x0,hx0,hx0r⟩:∃ x0,N[i0]?=some x0∧x0.row=s0:=by
  rw [Ao] at hs0
  obtain ⟨x0,h1,h2⟩:=AV.1 hs0
  exact ⟨x0,h1,h2⟩
 have hx0m:=Ae hx0
 have hin:=hZ (fun (W:World) (hW:Fr w W)=>Py s0 x0.ra x0.rc W (hG.fr hW) (by rw [← hx0r]; exact (hn.noms.2 x0 hx0m).fr hW) (by omega) (fun x hx=>Gz (r0.2 x hx)))
 have hrA:∀ i,i < d→(Bv (A.map Sy.row) i).length=d:=fun i hi=>by
  have hi2:i < (A.map Sy.row).length:=by rw [Am]; omega
  rw [Cb hi2]
  exact (rowA _ (A8 hi2)).1
 have hlen:=hZ (fun i (hi:i≤d)=>Rc (RA:=A.map Sy.row) (cs:=cs) r0.1 hrA i hi)
 have hat:∀ (i:Nat) (x:Sy),A[i]?=some x→Bv (A.map Sy.row) i=x.row∧x.row.length=d∧∀ z,z ∈ x.row→Bi z=true:=fun i x hx=>by
  have h1:(A.map Sy.row)[i]?=some x.row:=by rw [Ao,hx]; rfl
  have h2:=Ah.1 h1
  exact ⟨by rw [Cb h2.1]; exact h2.2,rowA _ (Ae h1)⟩
 have hbk:=hZ (fun (W:World) (hW:Fr w W) (g c:Nat) (h:El W sv (some ⟨g,0,none⟩) (Kk (A.map Sy.row) cs s0 d))=>KB (Kk (A.map Sy.row) cs s0 d) (some ⟨g,0,none⟩) c W (hG.fr hW) h (by rw [hlen.out d (Ag _)]; omega) (fun x hx=>by obtain ⟨h1,h2⟩:=hfs x hx; omega))
 have hz:∀ i c,i < d→c < d→(-1000000000≤(cs[i]?).getD 0∧(cs[i]?).getD 0≤1000000000)∧Sm (((Kk (A.map Sy.row) cs s0 i)[c]?).getD 0)∧Ti (((Bv (A.map Sy.row) i)[c]?).getD 0):=fun i c hi hc2=>by
  refine ⟨?_,hzz0 i c hi hc2⟩
  have h9:=Ab (show i < cs.length by omega)
  rw [h9]
  exact Av (hcf _ (Ae h9))
 have hGf:=hZ (fun W (hW:Fr w W)=>hG.fr hW)
 have hnm:=hZ hn.noms
 have hac:=hZ hn.accs
 have hl0:x0.row.length=d:=by rw [hx0r]; exact r0.1
 rw [r0.1] at hin
 replace hat:=hZ hat
 replace hz:=hZ hz
 replace hc:=hZ hc
 replace hcl:=hZ hcl
 replace hck:=hZ hck
 replace hcs9:=hZ hcs9
 replace hM:=hZ hM
 replace hx0:=hZ hx0
 replace lenA:=hZ lenA
 replace hl0:=hZ hl0
 generalize A.map Sy.row=RA at *
 clear hG hn rowA hs0 hzz0 hfs hsp r0 hcf hrA hx0r hx0m
 obtain ⟨nb,hnb⟩:∃ nb,nb=w.heap.size:=⟨_,rfl⟩
 obtain ⟨W1,hW1⟩:∃ W1,W1=(w.alloc (.cells #[.slice aN M cN,.slice aA d cA] 31)).alloc (.cells #[.int .i64 i0,.slice ca d cc] 50):=⟨_,rfl⟩
 have f1:Fr w W1:=by rw [hW1]; exact ((Fr.refl _).alloc _).alloc _
 have hN1:Br W1 nb (.slice aN M cN) (.slice aA d cA):=by rw [hW1,hnb]; exact (Br.new w _ _ _).fr ((Fr.refl _).alloc _)
 have hS1:Br W1 (nb+1) (.int .i64 i0) (.slice ca d cc):=by
  have:=Br.new (w.alloc (.cells #[.slice aN M cN,.slice aA d cA] 31)) (.int .i64 i0) (.slice ca d cc) 50
  rw [AK] at this
  rw [hW1,hnb]; exact this
 go_enter Tryz.func29,Tryz.ntmps29
 go_upto_region 1 with (fail)
 rw [← hW1,← hnb]
 clear hW1
 replace hnb:=hZ hnb
 have n0:=hN1.a
 have n1':=hN1.b
 have s0':=hS1.a
 have s1':=hS1.b
 replace hN1:=hZ hN1
 replace hS1:=hZ hS1
 go_wp2_with fail
 refine (hck.out _ f1).mono ?_
 rintro e w2 ⟨rfl,hf2⟩
 replace n0:=hf2.keep n0
 replace n1':=hf2.keep n1'
 replace s0':=hf2.keep s0'
 replace s1':=hf2.keep s1'
 have f2:=f1.trans hf2
 go_wp2_with fail
 refine (hcs9.out _ f2).mono ?_
 rintro e w3 ⟨rfl,hf3⟩
 replace n0:=hf3.keep n0
 replace n1':=hf3.keep n1'
 replace s0':=hf3.keep s0'
 replace s1':=hf3.keep s1'
 have f3:=f2.trans hf3
 have f13:=hf2.trans hf3
 obtain ⟨ab,ao,y0,rfl,hbl,hy0,hc1,hc2,-⟩:=(hnm.out.fr f3).at (i:=i0) (by rw [← hM.out]; exact hi0)
 obtain rfl:x0=y0:=by rw [hx0.out] at hy0; injection hy0
 rw [hl0.out] at hc2
 replace hy0:=hZ hy0
 have z0:(0:Int)≤(i0:Int):=Af _
 have z1:(i0:Int) < (M:Int):=by omega
 generalize x0.ra=ra0 at *
 generalize x0.rc=rc0 at *
 generalize x0.nm=nm0 at *
 go_wp2_with fail
 refine (hin.out _ f3).mono ?_
 rintro e w4 ⟨v,rfl,hown,hf4⟩
 have hsl:=hlen.out 0 (Bm _)
 rw [show Kk RA cs s0 0=s0 from rfl] at hsl
 rw [hsl] at hown
 obtain ⟨g,gc,rfl,-⟩:=Ct hown (by omega)
 have hO:=(DA (by have:=f3.size; omega) hown).1
 have hgw:=(hown.lt g rfl).1
 have f4:=f3.trans hf4
 replace n1':=hf4.keep n1'
 clear n0 s0' s1' hc1 hc2 hown hin hck hcs9
 replace hO:=hZ hO
 replace hsl:=hZ hsl
 have f14:=f13.trans hf4
 have hzz:w.heap.size≤w3.heap.size:=f3.size
 go_wp2_with fail
 go_loopg [36] d (fun k s36 wr=>∃ i:Nat,s36=.int .i64 i∧i+k=d∧Fx (·=g) w4 wr∧Hid (FJ wr g 0 (Kk RA cs s0 i)))
 case atStart=>exact ⟨0,rfl,by omega,Fx.refl _ _,hO.out⟩
 case round=>
  clear hO n1'
  obtain ⟨i,rfl,hik,hfx,hO⟩:=hrel
  have hF3:Fr w3 wr:=((Fx.of_fr hf4).trans hfx).toFr (fun k hk e=>by have e:k=g:=e; omega)
  have hFr:=f3.trans hF3
  obtain ⟨wo,rfl⟩:∃ wo:World,wo=wr:=⟨_,rfl⟩
  obtain ⟨ko,rfl⟩:∃ ko:Nat,ko=gk:=⟨_,rfl⟩
  by_cases hi:i < d
  ·have hdI:decide (i < d)=true:=Ac hi
   obtain ⟨bb,bo,x,hae,hbl,hxi,hc1,hc2,-⟩:=(hac.out.fr hFr).at (i:=i) (by rw [lenA.out]; exact hi)
   have hel:=hac.out.2 x (Ae hxi)
   subst hae
   obtain ⟨hx1,hx2,hx3⟩:=hat.out i x hxi
   rw [hx2] at hc2
   have y0:(0:Int)≤(i:Int):=Af _
   have y1:(i:Int) < (d:Int):=by omega
   obtain ⟨W6,hW6⟩:∃ W6,W6=wo.alloc (.cells #[.string x.nm,.slice x.ra d x.rc] 46):=⟨_,rfl⟩
   have f6:Fr wo W6:=by rw [hW6]; exact (Fr.refl _).alloc _
   obtain ⟨xb,hxb⟩:∃ xb,xb=wo.heap.size:=⟨_,rfl⟩
   have hX6:Br W6 xb (.string x.nm) (.slice x.ra d x.rc):=by rw [hW6,hxb]; exact Br.new _ _ _ _
   have hxg:xb≠g:=by have:=hO.out.2.1; omega
   have hO6:=hZ (hO.out.fr f6)
   have hfx6:=hfx.fr f6
   have hel6:=hZ hel
   go_upto_region 11 with (fail)
   rw [← hW6,← hxb]
   clear hW6 hc1 hc2 hel
   replace hxb:=hZ hxb
   replace hxi:=hZ hxi
   replace hx1:=hZ hx1
   replace hx3:=hZ hx3
   generalize x.ra=xa at *
   generalize x.rc=xc at *
   generalize x.nm=xn at *
   replace hX6:=hZ hX6
   have hF36:Fr w3 W6:=hF3.trans f6
   go_wp2_with fail
   go_loopg [43] d (fun k s43 wr=>∃ c:Nat,s43=.int .i64 c∧c+k=d∧Fx (·=g) W6 wr∧Hid (FJ wr g 0 ((Kk RA cs s0 (i+1)).take c ++ (Kk RA cs s0 i).drop c)))
   case atStart=>exact ⟨0,rfl,by omega,Fx.refl _ _,by show FJ _ _ _ _; rw [Fk,DG,FX]; exact hO6.out⟩
   case round=>
    clear hO6
    obtain ⟨c,rfl,hck,hfx7,hO7⟩:=hrel
    obtain ⟨wv,rfl⟩:∃ wv:World,wv=wr:=⟨_,rfl⟩
    obtain ⟨kv,rfl⟩:∃ kv:Nat,kv=gk:=⟨_,rfl⟩
    have hl1:=hlen.out i (by omega)
    have hl2:=hlen.out (i+1) (by omega)
    by_cases hcd:c < d
    ·have hdC:decide (c < d)=true:=Ac hcd
     obtain ⟨q1,q2,q3⟩:=hz.out i c hi hcd
     obtain ⟨kc,hkc⟩:∃ kc,cs[i]?=some kc:=⟨_,Ab (by rw [hcl.out]; exact hi)⟩
     obtain ⟨xe,hxe⟩:∃ xe,x.row[c]?=some xe:=⟨_,Ab (by omega)⟩
     obtain ⟨se,hse⟩:∃ se,(Kk RA cs s0 i)[c]?=some se:=⟨_,Ab (by omega)⟩
     have hnew:(Kk RA cs s0 (i+1))[c]?=some (se+kc * xe):=by
      rw [Kk,DJ,hse,hx1.out,hxe,hkc]; rfl
     rw [hx1.out] at q3
     rw [hkc] at q1
     rw [hse] at q2
     rw [hxe] at q3
     simp only [Cz] at q1 q2 q3
     have wdk:Wd kc:=⟨by omega,by omega⟩
     have wdx:Wd xe:=by obtain ⟨q4,q5⟩:=q3; exact ⟨by omega,by omega⟩
     have hm2:Sm (kc * xe):=by
      have h1:kc.natAbs * xe.natAbs≤1000000000 * 99999999:=CH (by omega) (by obtain ⟨q4,q5⟩:=q3; omega)
      rw [← BD] at h1
      exact ⟨by omega,by omega⟩
     have hmid:=(Hw (Kk RA cs s0 (i+1)) (Kk RA cs s0 i) c (by omega) (by omega)).trans hse
     have hset:=hZ (Hv (Kk RA cs s0 (i+1)) (Kk RA cs s0 i) c (by omega) (by omega) _ hnew)
     obtain ⟨x1,x2⟩:=hO7.out.2.2 c se hmid
     rw [Az] at x1 x2
     have hF37:Fr w3 wv:=((Fx.of_fr (hf4)).trans (hfx6.trans hfx7)).toFr (fun k hk e=>by have e:k=g:=e; omega)
     have hFrv:=f3.trans hF37
     obtain ⟨cb,co,kc',rfl,-,hkc',hc3⟩:=(hc.out.fr hFrv).at (i:=i) (by rw [hcl.out]; exact hi)
     obtain rfl:kc=kc':=by rw [hkc] at hkc'; injection hkc'
     have hel7:=hel6.out.fr hFrv
     obtain ⟨eb,eo,xe',hxa,hbe,hxe',hc4⟩:=hel7.at (i:=c) (by omega)
     obtain rfl:xe=xe':=by rw [hxe] at hxe'; injection hxe'
     subst hxa
     have m0:=(f13.trans hF37).keep hS1.out.b
     have m1:=hfx7.keep hX6.out.b hxg
     have hG7:=hGf.out _ hFrv
     have ho1:=hZ (fun W' (hW':Fr wv W')=>Du kc (by omega) (by omega) W' (hG7.fr hW'))
     have ho2:=hZ (fun W' (hW':Fr wv W')=>Du xe (by unfold Ti at q3; omega) (by unfold Ti at q3; omega) W' (hG7.fr hW'))
     have hmu:=hZ (fun W' (hW':Fr wv W')=>U9 kc xe wdk wdx W' (hG7.fr hW'))
     have had:=hZ (fun W' (hW':Fr wv W')=>YC se (kc * xe) q2.wd hm2.wd W' (hG7.fr hW'))
     have u0:(0:Int)≤(c:Int):=Af _
     have u1:(c:Int) < (d:Int):=by omega
     have hS0:=hZ (fun W' (hW':Fr wv W')=>(⟨hW'.keep m0,hW'.keep m1,hW'.keep hc3,hW'.keep hc4,hW'.keep x1⟩:W'.cell? ⟨nb+1,1,none⟩=some (.slice (some ⟨cb,co,none⟩) d cc)∧W'.cell? ⟨xb,1,none⟩=some (.slice (some ⟨eb,eo,none⟩) d xc)∧W'.cell? ⟨cb,co+i,none⟩=some (.int .i64 kc)∧W'.cell? ⟨eb,eo+c,none⟩=some (.int .i64 xe)∧W'.cell? ⟨g,c,none⟩=some (sv se)))
     replace hkc:=hZ hkc
     replace hxe:=hZ hxe
     replace hse:=hZ hse
     replace hnew:=hZ hnew
     replace hmid:=hZ hmid
     replace hkc':=hZ hkc'
     replace hxe':=hZ hxe'
     replace hl1:=hZ hl1
     replace hl2:=hZ hl2
     clear hm2 q1 q2 q3 hel7 wdk wdx
     go_wp2_with fail
     refine BP (S:=fun W'=>W'.cell? ⟨nb+1,1,none⟩=some (.slice (some ⟨cb,co,none⟩) d cc)∧W'.cell? ⟨xb,1,none⟩=some (.slice (some ⟨eb,eo,none⟩) d xc)∧W'.cell? ⟨cb,co+i,none⟩=some (.int .i64 kc)∧W'.cell? ⟨eb,eo+c,none⟩=some (.int .i64 xe)∧W'.cell? ⟨g,c,none⟩=some (sv se)) 21 (by kernel_rfl) (hS0.out _ ((Fr.refl _).drew)) (fun hHeld=>?_)
     refine uK 0 ?_
     refine uK 1 ?_
     refine uK 2 ?_
     refine uK 3 ?_
     refine uK 4 ?_
     refine uK 5 ?_
     refine uK 6 ?_
     refine uK 7 ?_
     refine uK 8 ?_
     refine uK 9 ?_
     refine uK 10 ?_
     refine uK 12 ?_
     refine uK 13 ?_
     refine uK 14 ?_
     refine uK 15 ?_
     refine uK 16 ?_
     refine uC 11 (fun K hK=>?_)
     go_simp
     (refine (ho1.out _ (by exact BR)).mono ?_; rintro e w10 ⟨rfl,hf10⟩)
     go_wp2_with fail
     refine hK.out _ _ (hS0.out _ (by exact BR)) (fun hHeld=>?_)
     clear hK K
     refine uC 17 (fun K hK=>?_)
     go_simp
     (refine (ho2.out _ (by exact BR)).mono ?_; rintro e w11 ⟨rfl,hf11⟩)
     go_wp2_with fail
     refine hK.out _ _ (hS0.out _ (by exact BR)) (fun hHeld=>?_)
     clear hK K
     refine uC 18 (fun K hK=>?_)
     go_simp
     (refine (hmu.out _ (by exact BR)).mono ?_; rintro e w12 ⟨rfl,hf12⟩)
     go_wp2_with fail
     refine hK.out _ _ (hS0.out _ (by exact BR)) (fun hHeld=>?_)
     clear hK K
     refine uC 19 (fun K hK=>?_)
     go_simp
     (refine (had.out _ (by exact BR)).mono ?_; rintro e w13 ⟨rfl,hf13⟩)
     go_wp2_with fail
     refine hK.out _ _ (hS0.out _ (by exact BR)) (fun hHeld=>?_)
     clear hK K
     have hfr8:Fr wv w13:=((((Fr.refl wv).drew.trans hf10).trans hf11).trans hf12).trans hf13
     refine uK 20 ?_
     have z1:=hfr8.keep x1
     have z2:=hfr8.keepf x1 x2
     clear hHeld
     refine uL 21 (fun K hK=>?_)
     go_simp
     refine hK.out _ _ ?_
     clear hK K
     have hown8:=(hO7.out.fr hfr8).set (k:=c) (by rw [Ar,AG,B3,hl1.out,hl2.out]; omega) (se+kc * xe)
     rw [hset.out,Az] at hown8
     have hf8x:=(hfx7.fr hfr8).setCell (q:=⟨g,c,none⟩) (.inl rfl) (sv (se+kc * xe))
     replace hown8:=hZ hown8
     clear z1 z2
     go_wp2_with fail
     go_roundg (kv - 1)
     case measure=>omega
     case rel=>exact ⟨c+1,by go_num,by omega,hf8x,hown8.out⟩
    ·have hdC:decide (c < d)=false:=Aa hcd
     obtain rfl:d=c:=by omega
     have hO8:=hO7.out
     rw [Ak (by omega),GN (by omega),BJ] at hO8
     replace hO8:=hZ hO8
     go_wp2_with fail
     go_roundg (ko - 1)
     case measure=>omega
     case rel=>exact ⟨i+1,by go_num,by omega,hfx6.trans hfx7,hO8.out⟩
  ·have hdI:decide (i < d)=false:=Aa hi
   obtain rfl:d=i:=by omega
   have hb2:=hbk.out _ hFr g gc hO.out.el
   rw [hlen.out d (Ag _)] at hb2
   replace hb2:=hZ hb2
   cases hft:(Kk RA cs s0 d).all Bi with
   | true=>
     have hft9:=hZ hft
     clear hft
     go_wp2_with fail
     refine hb2.out.mono ?_
     intro e wD hD
     obtain ⟨vD,rfl,hownD,-,hfD⟩:=hD.1 hft9.out
     rw [hlen.out d (Ag _)] at hownD
     obtain ⟨gD,cD,rfl,-⟩:=Ct hownD (by omega)
     have helD:=hZ (Ga hownD)
     clear hownD
     go_wp2_with fail
     go_ret2
     exact ⟨fun _=>⟨gD,cD,rfl,helD.out,hlen.out d (Ag _),hFr.trans hfD⟩,fun h=>(by rw [hft9.out] at h; cases h)⟩
   | false=>
     have hft9:=hZ hft
     clear hft
     go_wp2_with fail
     refine hb2.out.mono ?_
     intro e wD hD
     obtain ⟨rfl,hfD⟩:=hD.2 hft9.out
     go_wp2_with fail
     go_ret2
     exact ⟨fun h=>(by rw [hft9.out] at h; cases h),fun _=>⟨rfl,hFr.trans hfD⟩⟩
theorem U7 (N A:List Sy) (d i0:Nat) (I:List (List Rat)) (cs s0:List Int) (ca aN aA:Option Addr) (cc cN cA:Nat) (w:World) (hG:G w) (hn:DS w aN aA cA N A) (hU:XU (N.map Sy.row) (A.map Sy.row) d I) (hc:El w iv ca cs) (hcl:cs.length=d) (hcf:∀ x,x ∈ cs→Bi x=true)
 (hi0:i0 < N.length) (hs0:(N.map Sy.row)[i0]?=some s0) (hok:Xl (A.map Sy.row) cs s0 d=true) (hfin:∀ x,x ∈ Kk (A.map Sy.row) cs s0 d→Bi x=true)
 (hck:∀ W,Fr w W→Calls Tryz.prog 25 #[.agg #[.slice aN N.length cN,.slice aA A.length cA]] W fun e w'=>e=.returned (.int .i64 0)∧Fr W w') :
 Calls Tryz.prog 29 #[.agg #[.slice aN N.length cN,.slice aA A.length cA],.agg #[.int .i64 i0,.slice ca d cc]] w (U8 w (Kk (A.map Sy.row) cs s0 d) d):=by
 obtain ⟨d1,d6,lenA,n1,n60,rowA,rowN,-,-,-⟩:=hU
 rw [Am] at lenA n60
 exact (SY N A d i0 cs s0 ca aN aA cc cN cA w hG hn d1 d6 lenA n60 rowA (rowN s0 (Ae hs0)) hc hcl hcf hi0 hs0 (fun i c hi hc2=>(VN hok hi hc2).2) (fun x hx=>Gz (hfin x hx)) hck).mono fun e w' h=>h.1 (As.2 hfin)
end Go.Proofs.YtcglmebcfeoedaaGreatDoor
