/- Contracts and laws: GAI. -/
import Derived.Test.YtiniigadkknboaaGreatDoorGAH
import Derived.Test.YtiniigadkknboaaGreatDoorGAB
import Derived.Test.YtiniigadkknboaaGreatDoorGAG
import Derived.Test.YtiniigadkknboaaGreatDoorGAD
import Derived.Test.YtiniigadkknboaaGreatDoorGAC

set_option maxRecDepth 100000
set_option maxHeartbeats 2000000
namespace Go.Proofs.YtiniigadkknboaaGreatDoor
open Go.RowKit Go.Lib

attribute [local go_sem ↓] Go.wp_at_zero Go.wp_at_succ
theorem SQ (w:World) (x y:Value) (t:TypeId) (n:Nat) (hn:w.heap.size=n):∀ (j:Nat) (u:Value),[x,y][j]?=some u→(w.alloc (.cells #[x,y] t)).cell? ((⟨n,0,none⟩:Addr).add j)=some u:=fun j u hu=>by
 subst hn
 match j,hu with
 | 0,hu=>simp at hu; subst hu; exact (CC w x y t).1
 | 1,hu=>simp at hu; subst hu; exact (Ct w x y t).1
 | j+2,hu=>simp at hu

theorem DZ (n:Int) (h0:-9223372036854775808≤n) (h1:n≤9223372036854775807) (w:World) (hG:G w) :
 Calls Tryz.prog 81 #[.int .i64 n] w fun e w'=>e=.returned (.string (tx n))∧Fr w w':=by
 go_enter Tryz.func81,Tryz.ntmps81
 go_wp2_with (go_at_call 127; refine (EE _ h0 h1 _ hG).mono ?_; rintro e w' ⟨rfl,hf⟩)
 go_ret
 exact ⟨rfl,hf⟩
theorem PP (r:List Int) (m:List (List Int)) (a:Option Addr) (cap:Nat) (w:World) (hm:A5 w a (r :: m)) :
 Calls Tryz.prog 87 #[.slice a (r :: m).length cap] w fun e w'=>e=.returned (.int .i64 r.length)∧w=w':=by
 obtain ⟨b,o,a',c',rfl,hc,hel⟩:=hm.at (i:=0) (by simp)
 simp only [List.getElem_cons_zero,DG] at hc
 generalize r.length=d at *
 have y0:(0:Int) < (((r :: m).length:Nat):Int):=by rw [Aw]; omega
 have y1:((((r :: m).length:Nat):Int) == 0)=false:=by rw [Aw]; simp; omega
 generalize (r :: m).length=k at *
 go_enter Tryz.func87,Tryz.ntmps87
 go_wp2_with fail
 go_ret
 exact ⟨rfl,rfl⟩
theorem UZ (m:List (List Int)) (a:Option Addr) (cap n:Nat) (w:World) (hG:G w) (hm:A5 w a m) (hr:Bx n m) (hn:1≤n) (hn2:n≤1000000) (hl:m.length≤1000000) (hb:∀ r,r ∈ m→∀ x,x ∈ r→Sm x) :
 Calls Tryz.prog 86 #[.slice a m.length cap] w (Vq w 119 m):=by
 have hG1:=hZ hG
 have hm1:=hZ hm
 have hr1:=hZ hr
 have hb1:=hZ hb
 have hgn:=GB hG
 obtain ⟨i0,hi,hz0,hz1,hz2⟩:=AZ Iy
 obtain ⟨i1,ji,jz0,jz1,jz2⟩:=AZ XO
 clear hG hm hr hb
 go_enter Tryz.func86,Tryz.ntmps86
 go_wp2_with fail
 go_loopg [3,4] m.length (fun k s3 s4 wr=>∃ (j:Nat) (hs:List (Nat×Nat×Nat)),s4=.int .i64 j∧j+k=m.length∧Fr w wr∧GG wr w.heap.size 119 s3 hs (m.take j)∧Fw wr hs (m.take j)∧Hid (∀ h,h ∈ hs→w.heap.size≤h.1))
 case atStart=>exact ⟨0,[],rfl,by omega,Fr.refl _,GG.nil _ _ _ hgn,Fw.nil _,fun h hm=>by simp at hm⟩
 case round=>
  obtain ⟨j,hs,rfl,hjk,hf,hgg,hrw,hnew⟩:=hrel
  by_cases hlt:j < m.length
  ·obtain ⟨b,o,a',c',rfl,hc,hel⟩:=(hm1.out.fr hf).at hlt
   have hrj:=hr1.out.row hlt
   rw [hrj] at hc
   have hgl:(m.take j).length=j:=by rw [Av]; omega
   have hsn:=BN (Ac hlt)
   have hbj:=hb1.out _ (AG hlt)
   generalize m[j]=row at *
   replace hrj:=hZ hrj
   replace hgl:=hZ hgl
   replace hsn:=hZ hsn
   replace hbj:=hZ hbj
   have y0:(0:Int)≤(j:Int):=Aj _
   have y1:(j:Int) < (m.length:Int):=by omega
   have dJ:decide (j < m.length)=true:=Ab hlt
   obtain ⟨wo,rfl⟩:∃ wo:World,wo=wr:=⟨_,rfl⟩
   obtain ⟨ko,rfl⟩:∃ ko:Nat,ko=gk:=⟨_,rfl⟩
   replace hc:=hZ hc
   go_wp2_with fail
   go_loopg [5,6] n (fun k s5 s6 wr2=>∃ t:Nat,s6=.int .i64 t∧t+k=n∧Fr wo wr2∧wr2.ownsRow wo.heap.size 80 1 s5 t ((row.take t).map sv))
   case atStart=>exact ⟨0,rfl,by omega,Fr.refl _,Bl _ _ _ _⟩
   case round=>
    obtain ⟨t,rfl,htk,hf2,hown⟩:=hrel
    have hc9:=hf2.keep hc.out
    by_cases ht:t < n
    ·obtain ⟨b2,o2,x,rfl,hbl2,hxt,hcell2⟩:=(hel.fr hf2).at (i:=t) (by rw [hrj.out]; exact ht)
     have hGr:=(hG1.out.fr hf).fr hf2
     have hsx:=hbj.out x (Af hxt)
     unfold Sm at hsx
     have hsn2:=hZ (BN hxt)
     replace hxt:=hZ hxt
     have dT:decide (t < n)=true:=Ab ht
     have z0:(0:Int)≤(t:Int):=Aj _
     have z1:(t:Int) < (n:Int):=by omega
     go_wp2_with fail
     refine (DZ _ (by omega) (by omega) _ hGr).mono ?_
     rintro e w2 ⟨rfl,hf3⟩
     go_wp2_with (at_builtin; refine wpList_append_lies _ rfl _ _ 119 (by rfl) _ 80 _ _ 1 16 Tryz.underlying119 hi hz0 hz1 hz2 rfl (by decide) _ t _ (by rfl) (Az (Bg hown hf3) _) ⟨w2.heap.size,0,none⟩ 1 1 [sv x] (by rfl) rfl (AK _ _ _ _ (by simp)) (by simp [Value.oneCell']) (by decide) (by unfold maxLen; omega) (by omega) (by have:=(hf2.trans hf3).size; simp; omega) (w2.heap.size+1) (by simp) ?_; intro gA capA wA hownA hgrowA hatA hltA)
     go_wp2_with fail
     go_roundg (gk - 1)
     case measure=>omega
     case rel=>exact ⟨t+1,by go_num,by omega,((hf2.trans hf3).alloc _).grown hgrowA (fun k e=>(hown.lt k e).1),by rw [hsn2.out,Ay]; exact hownA⟩
    ·have hd:decide (t < n)=false:=Aa ht
     obtain rfl:t=n:=by omega
     obtain ⟨gb,cp,rfl⟩:=C5 hown (by omega)
     rw [Ao (by rw [hrj.out]; omega)] at hown
     obtain ⟨hrow,-,-,hgb,-⟩:=Fh (As hgn hf.size) hown
     have hgg2:=hgg.fr hf2
     have hrw0:=hZ (Cw hown (As hgn hf.size))
     have hrw2:=hZ (hrw.fr hf2)
     replace hown:=hZ hown
     replace hgg:=hZ hgg
     have hrj2:=hrj.out
     have hgl2:=hgl.out
     have hne:u3.ownBlock≠some gb:=fun e=>by have h9:=(hgg.out.own.lt gb e).2; exact JZ _ (Aq h9 hgb)
     have hne2:∀ h',h' ∈ hs→h'.1≠gb:=fun h' hm e2=>by have h9:=hgg.out.lt h' hm; rw [e2] at h9; exact JZ _ (Aq h9 hgb)
     have hown3:=hgg2.own
     rw [hgl2] at hown3
     clear hgl2 hrj2
     have hz9:=hf2.size
     go_wp2_with (at_builtin; refine wpList_append_lies _ rfl _ _ 137 (by rfl) _ 119 _ _ 1 24 Tryz.underlying137 ji jz0 jz1 jz2 rfl (by decide) _ j _ (by rfl) (Az hown3 _) ⟨wr.heap.size,0,none⟩ 1 1 [.slice (some ⟨gb,0,none⟩) t cp] (by rfl) rfl (AK _ _ _ _ (by simp)) (by simp [Value.oneCell']) (by decide) (by unfold maxLen; omega) (by omega) (by have:=(hf.trans hf2).size; simp; omega) (wr.heap.size+1) (by simp) ?_; intro gA capA wA hownA hgrowA hatA hltA)
     have hpush:=(hgg2.fr ((Fr.refl wr).alloc _)).pushN (hd:=(gb,0,cp)) (hrow.fr ((Fr.refl wr).alloc _)) hne2 hne hgl.out (by unfold Jq; rw [hrj.out]) hownA hgrowA (hatA.imp id (fun e=>by rw [e]; simp))
     rw [← hsn.out] at hpush
     have hfrA:Fr w wA:=(((hf.trans hf2).alloc _)).grown hgrowA (fun k e=>(hgg2.own.lt k e).1)
     go_roundg (ko - 1)
     case measure=>omega
     case rel=>
      have hfxA:=Fx.of_grown hgrowA
      have hrwA:Fw wA (hs ++ [(gb,0,cp)]) (m.take j ++ [row]):=by
       refine Fw.push ((hrw2.out.fr ((Fr.refl wr).alloc _)).fx hfxA (fun hd hm e=>?_)) hgg.out.len rfl ?_
       ·obtain ⟨i9,hi9⟩:=BJ hm
        have hl9:i9 < (m.take j).length:=by rw [← hgg.out.len]; exact (Ae.1 hi9).1
        exact (hgg.out.row i9 hd _ hi9 (Ac hl9)).2 e
       ·rw [hrj.out]
        exact BW (Bg hrw0.out ((Fr.refl wr).alloc _)) hfxA (fun g9 hg9 e=>hne (by rw [e]; exact hg9.symm ▸ rfl))
      rw [← hsn.out] at hrwA
      exact ⟨j+1,_,by go_num,by omega,hfrA,hpush,hrwA,fun h hm=>by rcases BD.1 hm with h1 | h1; exact hnew.out h h1; (simp at h1; subst h1; exact As hf.size hgb)⟩
  ·have hd:decide (j < m.length)=false:=Aa hlt
   have hjm:m.take j=m:=Ao (by omega)
   rw [hjm] at hgg hrw
   replace hjm:=hZ hjm
   go_wp2_with fail
   go_ret
   exact ⟨_,hs,rfl,hgg,hrw,hnew,hf⟩
theorem HK (n:Int) (w:World) (hs:(tx n).size≤1000000000) :
 Calls Tryz.prog 120 #[.string (tx n)] w fun e w'=>e=.returned (.string (tx (n.natAbs:Int)))∧w=w':=by
 have h1:=Hr n
 by_cases hn:n < 0
 ·have h2:=FM hn h1
  have h3:=hZ (show (tx n).extract 1 (tx n).size=tx (n.natAbs:Int) by rw [IJ hn]; congr 1; omega)
  generalize tx n=s at *
  go_enter Tryz.func120,Tryz.ntmps120
  go_wp2
  go_ret
  exact ⟨by rw [h3.out]; rfl,rfl⟩
 ·have h2:=FL (by omega) h1
  have h3:=hZ (show tx n=tx (n.natAbs:Int) by congr 1; omega)
  generalize tx n=s at *
  go_enter Tryz.func120,Tryz.ntmps120
  go_wp2
  go_ret
  exact ⟨V9 h3.out,rfl⟩
theorem Vh (n:Int) (w:World) :
 Calls Tryz.prog 160 #[.string (tx n)] w fun e w'=>e=.returned (.int .i64 n.sign)∧w=w':=by
 have hp:=Hr n
 have hb:=Cn n
 rcases Ce n 0 with h | h | h
 ·have h2:=FM h hp
  rw [Aa (by omega)] at hb
  have hs:=hZ (Int.sign_eq_neg_one_of_neg h); clear h
  go_enter Tryz.func160,Tryz.ntmps160
  go_wp2
  go_ret
  exact ⟨by rw [hs.out]; rfl,rfl⟩
 ·rw [Ab h] at hb
  have hs:=hZ h; clear h
  go_enter Tryz.func160,Tryz.ntmps160
  go_wp2
  go_ret
  exact ⟨by rw [hs.out]; rfl,rfl⟩
 ·have h2:=FL (Ib h) hp
  rw [Aa (by omega)] at hb
  have hs:=hZ (Int.sign_eq_one_of_pos h); clear h
  go_enter Tryz.func160,Tryz.ntmps160
  go_wp2
  go_ret
  exact ⟨by rw [hs.out]; rfl,rfl⟩
theorem V5 (n:Int):decide (n.sign < 0)=decide (n < 0):=by
 rcases Ce n 0 with h | h | h
 ·rw [Int.sign_eq_neg_one_of_neg h,Ab h]; rfl
 ·subst h; rfl
 ·rw [Int.sign_eq_one_of_pos h,Aa (by omega:¬ n < 0)]; rfl
theorem V6 (n:Int):(n.sign == 0)=decide (n=0):=by
 rcases Ce n 0 with h | h | h
 ·rw [Int.sign_eq_neg_one_of_neg h,Aa (by omega:¬ n=0)]; rfl
 ·subst h; rfl
 ·rw [Int.sign_eq_one_of_pos h,Aa (by omega:¬ n=0)]; rfl
theorem YR (n:Int) (w:World) (hs:(tx n).size≤1000000000) :
 Calls Tryz.prog 201 #[.string (tx n)] w fun e w'=>e=.returned (.string (tx (-n)))∧w=w':=by
 have hp:=Hr n
 have hsg:=fun W=>Vh n W
 have e1:=V5 n
 have e2:=V6 n
 rcases Ce n 0 with h | h | h
 ·have h3:=hZ (IJ h)
  rw [Ab h] at e1
  clear e2 h
  generalize n.sign=s at *
  generalize tx n=t at *
  replace hsg:=hZ hsg
  go_enter Tryz.func201,Tryz.ntmps201
  go_wp2_with (go_at_call 160; refine (hsg.out _).mono ?_; rintro e w1 ⟨rfl,rfl⟩)
  go_ret
  exact ⟨by rw [h3.out]; rfl,rfl⟩
 ·have h3:=hZ (show tx n=tx (-n) by rw [h]; rfl)
  rw [Aa (by omega:¬ n < 0)] at e1
  rw [Ab h] at e2
  clear h
  generalize n.sign=s at *
  generalize tx n=t at *
  replace hsg:=hZ hsg
  go_enter Tryz.func201,Tryz.ntmps201
  go_wp2_with (go_at_call 160; refine (hsg.out _).mono ?_; rintro e w1 ⟨rfl,rfl⟩)
  go_ret
  exact ⟨by rw [h3.out]; rfl,rfl⟩
 ·have h3:=hZ (Nl h)
  rw [Aa (by omega:¬ n < 0)] at e1
  rw [Aa (by omega:¬ n=0)] at e2
  clear h
  generalize n.sign=s at *
  generalize tx n=t at *
  replace hsg:=hZ hsg
  go_enter Tryz.func201,Tryz.ntmps201
  go_wp2_with (go_at_call 160; refine (hsg.out _).mono ?_; rintro e w1 ⟨rfl,rfl⟩)
  go_ret
  exact ⟨by rw [h3.out]; rfl,rfl⟩
theorem M3 (l m:List UInt8) (a:Nat) (hm:∀ c ∈ m,48≤c.toNat∧c.toNat≤57):Bh a l≤Bh a (l ++ m):=by
 rw [Ee]
 have:=(Cr m (Bh a l) hm).1
 have h2:=E7 (n:=m.length) (show 0 < 10 by decide)
 exact As (FW _ h2) this
theorem Xh (l:List UInt8) (i:Nat) (h:i < (⟨l.toArray⟩:ByteArray).size) (h2:i < l.length):(⟨l.toArray⟩:ByteArray)[i]'h=l[i]'h2:=rfl
theorem Yt (n:Int) (i:Nat) (hs:i < (tx n).size) (h2:i < (itoa n).length):(tx n)[i]'hs=(itoa n)[i]'h2:=Xh (itoa n) i hs h2
theorem LE (c:UInt8) (a:Nat):Bh a [c]=10 * a+(c.toNat - 48):=by
 show a * 10+(c.toNat - 48)=_
 omega
theorem Ts {n:Int} {off i:Nat} (ho:off=if n < 0 then 1 else 0) (hi:off≤i) (hs:i < (tx n).size):∃ c:UInt8,(tx n)[i]'hs=c∧48≤c.toNat∧c.toNat≤57∧Bh 0 ((decDigits n.natAbs).take (i+1 - off))=10 * Bh 0 ((decDigits n.natAbs).take (i - off))+(c.toNat - 48):=by
 refine ⟨_,rfl, ?_⟩
 have hl:i < (itoa n).length:=by rw [← Do]; exact hs
 rw [Yt n i hs hl]
 have hd:∃ h:i - off < (decDigits n.natAbs).length,(itoa n)[i]'hl=(decDigits n.natAbs)[i - off]'h:=by
  by_cases hn:n < 0
  ·rw [Ai hn] at ho
   subst ho
   have e2:=Fd hn
   refine ⟨by rw [e2] at hl; simp at hl; omega, ?_⟩
   obtain ⟨j,rfl⟩:∃ j,i=j+1:=⟨i - 1,by omega⟩
   simp only [e2,List.getElem_cons_succ,Nat.add_sub_cancel]
  ·rw [Ag hn] at ho
   subst ho
   have e2:=BV (n:=n) (by omega)
   have e3:n.toNat=n.natAbs:=by omega
   rw [e3] at e2
   refine ⟨by rw [e2] at hl; simpa using hl, ?_⟩
   simp only [e2,DD]
 obtain ⟨h1,h2⟩:=hd
 rw [h2]
 have h3:=B6 n.natAbs _ (AG h1)
 have h4:(decDigits n.natAbs).take (i+1 - off)=(decDigits n.natAbs).take (i - off) ++ [(decDigits n.natAbs)[i - off]'h1]:=by
  rw [show i+1 - off=(i - off)+1 by omega]; exact Ti h1
 rw [h4,Ee]
 clear h4 h2
 generalize (decDigits n.natAbs)[i - off]'h1=c at *
 generalize (decDigits n.natAbs).take (i - off)=l at *
 exact ⟨h3.1,h3.2,LE c (Bh 0 l)⟩
theorem Ro (d:Int) (h1:48≤d) (h2:d≤57):(-9223372036854775808+(d - 48)).tdiv 10≤-900000000000000000:=by
 rw [show -9223372036854775808+(d - 48)=-(9223372036854775808 - (d - 48)) by omega,Zt,Dq (by omega)]; omega
theorem TT {a b:Int} {c:Value} (h:a=b):Ending.returned (.tuple #[.int .i64 a,c])=Ending.returned (.tuple #[.int .i64 b,c]):=by rw [h]
theorem U7 (k:Nat) {a:Int} (hk:1≤k) (h:a.natAbs < 10 ^ k):(tx (a.natAbs:Int)).size≤k:=by
 rw [CL]; exact G4 k _ hk h
def RU (n:Int):Prop:=-1000000000000000000 < n∧n < 1000000000000000000
theorem RU.size {n:Int} (h:RU n):(tx n).size≤19:=Cl 18 n (by decide) (by obtain ⟨h1,h2⟩:=h; show _ < 1000000000000000000; omega)
theorem SY (n:Int) (hn:RU n) (w:World) :
 Calls Tryz.prog 158 #[.string (tx n)] w fun e w'=>e=.returned (.tuple #[.int .i64 n,.bool true])∧w=w':=by
 obtain ⟨hn1,hn2⟩:=hn
 have hp:=Hr n
 have hsz:(tx n).size≤19:=Cl 18 n (by omega) (by omega)
 obtain ⟨off,ho⟩:∃ off:Nat,off=if n < 0 then 1 else 0:=⟨_,rfl⟩
 have hlen:(tx n).size=(decDigits n.natAbs).length+off:=by
  rw [Do]
  by_cases h:n < 0
  ·rw [ho,Ai h,Fd h]; rfl
  ·rw [ho,Ag h,BV (by omega),show n.toNat=n.natAbs by omega]; rfl
 have hdp:0 < (decDigits n.natAbs).length:=Cy.2 (EY _)
 have hat:=fun i (h1:off≤i) (h2:i < (tx n).size)=>Ts ho h1 h2
 have hle:∀ j,Bh 0 ((decDigits n.natAbs).take j)≤n.natAbs:=fun j=>by
  have:=M3 ((decDigits n.natAbs).take j) ((decDigits n.natAbs).drop j) 0 (fun c hc=>B6 _ c (Oa hc))
  rw [EJ,B5] at this
  exact this
 have hall:∀ i,i=(tx n).size→Bh 0 ((decDigits n.natAbs).take (i - off))=n.natAbs:=fun i hi=>by
  rw [Ao (by omega),B5]
 have hz:Bh 0 ((decDigits n.natAbs).take (off - off))=0:=by rw [LZ]; rfl
 have hneg:((((tx n)[0]'hp).toNat:Int) == 45)=decide (n < 0):=by
  by_cases h:n < 0
  ·rw [FM h hp,Ab h]
  ·rw [FL (by omega) hp,Aa h]
 obtain ⟨V,hV⟩:∃ V:Nat→Nat,∀ i,Bh 0 ((decDigits n.natAbs).take (i - off))=V i:=⟨_,fun i=>rfl⟩
 simp only [hV] at hat hall hz
 have hle2:∀ i,V i≤n.natAbs:=fun i=>by rw [← hV]; exact hle _
 have hoff:off < (tx n).size:=by omega
 have hho:(n < 0→off=1)∧(¬ n < 0→off=0):=⟨fun h=>by rw [ho,Ai h],fun h=>by rw [ho,Ag h]⟩
 have hlo:=hle2 0
 clear hle hV hlen hdp ho hlo
 generalize tx n=t at *
 obtain ⟨s,hs⟩:∃ s,s=t.size:=⟨_,rfl⟩
 replace hall:=hZ hall
 replace hle2:=hZ hle2
 replace hat:=hZ hat
 by_cases h:n < 0
 ·
  obtain rfl:off=1:=by first | exact hho.1 h | exact hho.2 h
  have hng:=hZ h
  first | rw [Ab h] at hneg | rw [Aa h] at hneg
  clear h hho
  go_enter Tryz.func158,Tryz.ntmps158
  have z0:decide ((0:Int) < (t.size:Int))=true:=Ab (by omega)
  have z1:((1:Int) == (t.size:Int))=false:=A2 (by omega)
  go_wp2_with fail
  go_loopg [5,7] (s - 1) (fun k s5 s7 wr=>∃ i:Nat,s5=.int .i64 i∧s7=.int .i64 (-(V i:Int))∧1≤i∧i+k=s∧w=wr)
  case atStart=>exact ⟨1,by go_num,by rw [hz]; go_num,by omega,by omega,rfl⟩
  case round=>
   obtain ⟨i,rfl,rfl,hoi,hik,rfl⟩:=hrel
   by_cases hi:i < s
   ·have hdI:decide ((i:Int) < (t.size:Int))=true:=Ab (by omega)
    obtain ⟨c,hc,c1,c2,hV⟩:=hat.out i hoi (by omega)
    have hle:=hle2.out i
    have hle9:=hle2.out (i+1)
    have y1:(i:Int) < (t.size:Int):=by omega
    have y2:(0:Int)≤(i:Int):=by omega
    have hq:=Ro c.toNat (by omega) (by omega)
    go_wp2_with fail
    all_goals first
     | (exfalso; omega)
     | (go_roundg (gk - 1)
        case measure=>omega
        case rel=>exact ⟨i+1,by go_num,by show Value.int _ _=Value.int _ _; rw [show -(V i:Int) * 10 - ((c.toNat:Int) - 48)=-(V (i+1):Int) by omega],by omega,by omega,rfl⟩)
   ·have hdI:decide ((i:Int) < (t.size:Int))=false:=Aa (by omega)
    have hV:=hall.out i (by omega)
    have hng2:=hng.out
    have hfin:=hZ (show (if n < 0 then -(V i:Int) else (V i:Int))=n by split <;> omega)
    have hmin:(-(V i:Int) == -9223372036854775808)=false:=A2 (by omega)
    clear hfin
    go_wp2_with fail
    go_ret2
    refine ⟨TT ?_,rfl⟩
    omega
 ·
  obtain rfl:off=0:=by first | exact hho.1 h | exact hho.2 h
  have hng:=hZ h
  first | rw [Ab h] at hneg | rw [Aa h] at hneg
  clear h hho
  go_enter Tryz.func158,Tryz.ntmps158
  have z0:decide ((0:Int) < (t.size:Int))=true:=Ab (by omega)
  have z1:((0:Int) == (t.size:Int))=false:=A2 (by omega)
  go_wp2_with fail
  go_loopg [5,7] (s - 0) (fun k s5 s7 wr=>∃ i:Nat,s5=.int .i64 i∧s7=.int .i64 (-(V i:Int))∧0≤i∧i+k=s∧w=wr)
  case atStart=>exact ⟨0,by go_num,by rw [hz]; go_num,by omega,by omega,rfl⟩
  case round=>
   obtain ⟨i,rfl,rfl,hoi,hik,rfl⟩:=hrel
   by_cases hi:i < s
   ·have hdI:decide ((i:Int) < (t.size:Int))=true:=Ab (by omega)
    obtain ⟨c,hc,c1,c2,hV⟩:=hat.out i hoi (by omega)
    have hle:=hle2.out i
    have hle9:=hle2.out (i+1)
    have y1:(i:Int) < (t.size:Int):=by omega
    have y2:(0:Int)≤(i:Int):=by omega
    have hq:=Ro c.toNat (by omega) (by omega)
    go_wp2_with fail
    all_goals first
     | (exfalso; omega)
     | (go_roundg (gk - 1)
        case measure=>omega
        case rel=>exact ⟨i+1,by go_num,by show Value.int _ _=Value.int _ _; rw [show -(V i:Int) * 10 - ((c.toNat:Int) - 48)=-(V (i+1):Int) by omega],by omega,by omega,rfl⟩)
   ·have hdI:decide ((i:Int) < (t.size:Int))=false:=Aa (by omega)
    have hV:=hall.out i (by omega)
    have hng2:=hng.out
    have hfin:=hZ (show (if n < 0 then -(V i:Int) else (V i:Int))=n by split <;> omega)
    have hmin:(-(V i:Int) == -9223372036854775808)=false:=A2 (by omega)
    clear hfin
    go_wp2_with fail
    go_ret2
    refine ⟨TT ?_,rfl⟩
    omega
theorem E4 (n:Int) (hn:RU n) (w:World) :
 Calls Tryz.prog 118 #[.string (tx n)] w fun e w'=>e=.returned (.tuple #[.int .i64 n,.bool true])∧w=w':=by
 have hs:=hn.size
 have h2:(tx (n.natAbs:Int)).size≤18:=U7 18 (by decide) (by obtain ⟨h1,h2⟩:=hn; show _ < 1000000000000000000; omega)
 have hd:=hZ (fun W=>HK n W (by omega))
 have hm:=hZ (fun W=>SY n hn W)
 generalize tx (n.natAbs:Int)=u at *
 have d0:decide ((18:Int) < (u.size:Int))=false:=Aa (by omega)
 go_enter Tryz.func118,Tryz.ntmps118
 go_wp2_with fail
 refine (hd.out _).mono ?_
 rintro e w1 ⟨rfl,rfl⟩
 go_wp2_with fail
 refine (hm.out _).mono ?_
 rintro e w2 ⟨rfl,rfl⟩
 go_wp2_with fail
 go_ret2
 exact ⟨rfl,rfl⟩
theorem WI (a b:Int) (ha:RU a) (hb:RU b) (w:World) (hG:G w) :
 Calls Tryz.prog 79 #[.string (tx a),.string (tx b)] w fun e w'=>e=.returned (.string (tx (a+b)))∧Fr w w':=by
 have q1:=hZ (fun W=>E4 a ha W)
 have q2:=hZ (fun W=>E4 b hb W)
 obtain ⟨a1,a2⟩:=ha
 obtain ⟨b1,b2⟩:=hb
 go_enter Tryz.func79,Tryz.ntmps79
 go_wp2_with fail
 refine (q1.out _).mono ?_; rintro e w1 ⟨rfl,rfl⟩
 go_wp2_with fail
 refine (q2.out _).mono ?_; rintro e w2 ⟨rfl,rfl⟩
 go_wp2_with fail
 refine (DZ _ (by omega) (by omega) _ hG).mono ?_; rintro e w3 ⟨rfl,hf3⟩
 go_wp2_with fail
 go_ret
 exact ⟨rfl,hf3⟩
theorem WH (a b:Int) (ha:RU a) (hb:RU b) (hs:(tx (a.natAbs:Int)).size+(tx (b.natAbs:Int)).size≤18) (h0:-9223372036854775808≤a * b) (h1:a * b≤9223372036854775807) (w:World) (hG:G w) :
 Calls Tryz.prog 80 #[.string (tx a),.string (tx b)] w fun e w'=>e=.returned (.string (tx (a * b)))∧Fr w w':=by
 have q1:=hZ (fun W=>E4 a ha W)
 have q2:=hZ (fun W=>E4 b hb W)
 have s1:=ha.size
 have s2:=hb.size
 have e1:=hZ (fun W=>HK a W (by omega))
 have e2:=hZ (fun W=>HK b W (by omega))
 have hof:=hZ (fun W (hW:G W)=>DZ (a * b) h0 h1 W hW)
 obtain ⟨a1,a2⟩:=ha
 obtain ⟨b1,b2⟩:=hb
 generalize tx (a.natAbs:Int)=u at *
 generalize tx (b.natAbs:Int)=v at *
 have d0:decide ((u.size:Int)+(v.size:Int)≤18)=true:=Ab (by omega)
 go_enter Tryz.func80,Tryz.ntmps80
 go_wp2_with fail
 refine (e1.out _).mono ?_; rintro e w1 ⟨rfl,rfl⟩
 go_wp2_with fail
 refine (e2.out _).mono ?_; rintro e w1 ⟨rfl,rfl⟩
 go_wp2_with fail
 refine (q1.out _).mono ?_; rintro e w1 ⟨rfl,rfl⟩
 go_wp2_with fail
 refine (q2.out _).mono ?_; rintro e w2 ⟨rfl,rfl⟩
 go_wp2_with fail
 refine (hof.out _ hG).mono ?_; rintro e w3 ⟨rfl,hf3⟩
 go_wp2_with fail
 go_ret
 exact ⟨rfl,hf3⟩
theorem QI (a b:Int) (ha:RU a) (hb:RU b) (h0:b≠0) (w:World) (hG:G w) :
 Calls Tryz.prog 167 #[.string (tx a),.string (tx b)] w fun e w'=>e=.returned (.tuple #[.string (tx (a.fdiv b)),.string (tx (a.fmod b))])∧Fr w w':=by
 have q1:=hZ (fun W=>E4 a ha W)
 have q2:=hZ (fun W=>E4 b hb W)
 obtain ⟨a1,a2⟩:=ha
 obtain ⟨b1,b2⟩:=hb
 have td:=IL a b
 have tm:=FN a b h0
 have k1:IntKind.i64.wrap (a.tdiv b)=a.tdiv b:=Ak _ (by omega)
 have k2:IntKind.i64.wrap (a.tmod b)=a.tmod b:=Ak _ (by omega)
 by_cases hr0:a.tmod b=0
 ·have hfin:=hZ (show a.fdiv b=a.tdiv b∧a.fmod b=0 from by have:=C4 a b h0 (.inl hr0); rw [hr0] at this; exact this)
  have c1:(a.tmod b != 0)=false:=by rw [hr0]; rfl
  have tm1:-1000000000000000000 < a.tmod b∧a.tmod b < 1000000000000000000:=by omega
  have td1:-1000000000000000000 < a.tdiv b∧a.tdiv b < 1000000000000000000:=by omega
  obtain ⟨tm1,tm2⟩:=tm1
  obtain ⟨td1,td2⟩:=td1
  clear td tm
  go_enter Tryz.func167,Tryz.ntmps167
  go_wp2_with fail
  refine (q1.out _).mono ?_; rintro e w1 ⟨rfl,rfl⟩
  go_wp2_with fail
  refine (q2.out _).mono ?_; rintro e w2 ⟨rfl,rfl⟩
  go_wp2_with fail
  go_quiet (fail)
  clear k1 k2
  go_wp2_with fail
  refine (DZ _ (by omega) (by omega) _ (hG.fr (by exact B9))).mono ?_; rintro e w3 ⟨rfl,hf3⟩
  go_wp2_with fail
  refine (DZ _ (by omega) (by omega) _ (hG.fr (by exact B9))).mono ?_; rintro e w4 ⟨rfl,hf4⟩
  go_wp2_with fail
  go_ret2
  exact ⟨by rw [hfin.out.1,hfin.out.2]; rfl,by exact B9⟩
 ·have c1:(a.tmod b != 0)=true:=by rw [Bs]; exact hr0
  by_cases hr:a.tmod b < 0 <;> by_cases hb:b < 0
  ·have hfin:=hZ (C4 a b h0 (.inr (by simp [hr,hb])))
   have c2:(decide (a.tmod b < 0))=true:=Ab hr
   have c3:(decide (b < 0))=true:=Ab hb
   have tm1:-1000000000000000000 < a.tmod b:=by omega
   have tm2:a.tmod b < 1000000000000000000:=by omega
   have td1:-1000000000000000000 < a.tdiv b:=by omega
   have td2:a.tdiv b < 1000000000000000000:=by omega
   clear td tm hr0 hr hb
   go_enter Tryz.func167,Tryz.ntmps167
   go_wp2_with fail
   refine (q1.out _).mono ?_; rintro e w1 ⟨rfl,rfl⟩
   go_wp2_with fail
   refine (q2.out _).mono ?_; rintro e w2 ⟨rfl,rfl⟩
   go_wp2_with fail
   go_quiet (fail)
   clear k1 k2
   go_wp2_with fail
   refine (DZ _ (by omega) (by omega) _ (hG.fr (by exact B9))).mono ?_; rintro e w3 ⟨rfl,hf3⟩
   go_wp2_with fail
   refine (DZ _ (by omega) (by omega) _ (hG.fr (by exact B9))).mono ?_; rintro e w4 ⟨rfl,hf4⟩
   go_wp2_with fail
   go_ret2
   exact ⟨by rw [hfin.out.1,hfin.out.2]; rfl,by exact B9⟩
  ·have hfin:=hZ (Eq a b h0 hr0 (by simp [hr,hb]))
   have c2:(decide (a.tmod b < 0))=true:=Ab hr
   have c3:(decide (b < 0))=false:=Aa hb
   have tm1:-1000000000000000000 < a.tmod b:=by omega
   have tm2:a.tmod b < 1000000000000000000:=by omega
   have td1:-1000000000000000000 < a.tdiv b:=by omega
   have td2:a.tdiv b < 1000000000000000000:=by omega
   clear td tm hr0 hr hb
   go_enter Tryz.func167,Tryz.ntmps167
   go_wp2_with fail
   refine (q1.out _).mono ?_; rintro e w1 ⟨rfl,rfl⟩
   go_wp2_with fail
   refine (q2.out _).mono ?_; rintro e w2 ⟨rfl,rfl⟩
   go_wp2_with fail
   go_quiet (fail)
   clear k1 k2
   go_wp2_with fail
   refine (DZ _ (by omega) (by omega) _ (hG.fr (by exact B9))).mono ?_; rintro e w3 ⟨rfl,hf3⟩
   go_wp2_with fail
   refine (DZ _ (by omega) (by omega) _ (hG.fr (by exact B9))).mono ?_; rintro e w4 ⟨rfl,hf4⟩
   go_wp2_with fail
   go_ret2
   exact ⟨by rw [hfin.out.1,hfin.out.2]; rfl,by exact B9⟩
  ·have hfin:=hZ (Eq a b h0 hr0 (by simp [hr,hb]))
   have c2:(decide (a.tmod b < 0))=false:=Aa hr
   have c3:(decide (b < 0))=true:=Ab hb
   have tm1:-1000000000000000000 < a.tmod b:=by omega
   have tm2:a.tmod b < 1000000000000000000:=by omega
   have td1:-1000000000000000000 < a.tdiv b:=by omega
   have td2:a.tdiv b < 1000000000000000000:=by omega
   clear td tm hr0 hr hb
   go_enter Tryz.func167,Tryz.ntmps167
   go_wp2_with fail
   refine (q1.out _).mono ?_; rintro e w1 ⟨rfl,rfl⟩
   go_wp2_with fail
   refine (q2.out _).mono ?_; rintro e w2 ⟨rfl,rfl⟩
   go_wp2_with fail
   go_quiet (fail)
   clear k1 k2
   go_wp2_with fail
   refine (DZ _ (by omega) (by omega) _ (hG.fr (by exact B9))).mono ?_; rintro e w3 ⟨rfl,hf3⟩
   go_wp2_with fail
   refine (DZ _ (by omega) (by omega) _ (hG.fr (by exact B9))).mono ?_; rintro e w4 ⟨rfl,hf4⟩
   go_wp2_with fail
   go_ret2
   exact ⟨by rw [hfin.out.1,hfin.out.2]; rfl,by exact B9⟩
  ·have hfin:=hZ (C4 a b h0 (.inr (by simp [hr,hb])))
   have c2:(decide (a.tmod b < 0))=false:=Aa hr
   have c3:(decide (b < 0))=false:=Aa hb
   have tm1:-1000000000000000000 < a.tmod b:=by omega
   have tm2:a.tmod b < 1000000000000000000:=by omega
   have td1:-1000000000000000000 < a.tdiv b:=by omega
   have td2:a.tdiv b < 1000000000000000000:=by omega
   clear td tm hr0 hr hb
   go_enter Tryz.func167,Tryz.ntmps167
   go_wp2_with fail
   refine (q1.out _).mono ?_; rintro e w1 ⟨rfl,rfl⟩
   go_wp2_with fail
   refine (q2.out _).mono ?_; rintro e w2 ⟨rfl,rfl⟩
   go_wp2_with fail
   go_quiet (fail)
   clear k1 k2
   go_wp2_with fail
   refine (DZ _ (by omega) (by omega) _ (hG.fr (by exact B9))).mono ?_; rintro e w3 ⟨rfl,hf3⟩
   go_wp2_with fail
   refine (DZ _ (by omega) (by omega) _ (hG.fr (by exact B9))).mono ?_; rintro e w4 ⟨rfl,hf4⟩
   go_wp2_with fail
   go_ret2
   exact ⟨by rw [hfin.out.1,hfin.out.2]; rfl,by exact B9⟩
end Go.Proofs.YtiniigadkknboaaGreatDoor
