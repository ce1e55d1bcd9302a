/- Contracts and laws: UUq. -/
import Derived.Test.YtkjemicelmabdaaGreatDoorURd
import Derived.Test.YtkjemicelmabdaaGreatDoorUUL
import Derived.Test.YtkjemicelmabdaaGreatDoorUUD

set_option maxRecDepth 100000
set_option maxHeartbeats 16000000
namespace Go.Proofs.YtkjemicelmabdaaGreatDoor
open Go.RowKit Go.Lib
attribute [local go_sem ↓] AQ AR
theorem Ni (i:Int) (cs:List Int) (a b:Option Addr) (ca cb n m:Nat) (w:World) (hx:El w iv a cs) (hy:El w iv b cs) (hn:cs.length=n) (hm:cs.length=m) (h1:n≤1000000000) :
 Calls Tryz.prog 12 #[.agg #[.int .i64 i,.slice a n ca],.agg #[.int .i64 i,.slice b m cb]] w fun e w'=>e=.returned (.bool true)∧Fr w w':=by
 have hE:=fun W (hW:Fr w W)=>Hs cs cs a b ca cb n m W (hx.fr hW) (hy.fr hW) hn hm h1 (by omega)
 rw [Ad rfl] at hE
 replace hE:=hZ hE
 clear hx hy hn hm
 have q1:(i == i)=true:=Ez i
 have f2:Fr w ((w.alloc (.cells #[.int .i64 i,.slice a n ca] 37)).alloc (.cells #[.int .i64 i,.slice b m cb] 37)):=((Fr.refl w).alloc _).alloc _
 replace f2:=hZ f2
 go_enter Tryz.func12,Tryz.ntmps12
 go_wp2_with fail
 refine (hE.out _ f2.out).mono ?_
 rintro e w3 ⟨rfl,hf3⟩
 go_wp2_with fail
 go_ret
 exact ⟨rfl,f2.out.trans hf3⟩
theorem QG (q:Bool) (i j:Int) (r1 r2 r3:List Int) (a1 a2 a3 b1 b2 b3:Option Addr) (n1 n2 n3 c1 c2 c3 d1 d2 d3:Nat) (w:World) (h1:El w iv a1 r1) (h2:El w iv a2 r2) (h3:El w iv a3 r3) (k1:El w iv b1 r1) (k2:El w iv b2 r2) (k3:El w iv b3 r3) (l1:r1.length=n1) (l2:r2.length=n2) (l3:r3.length=n3) (m1:n1≤1000) (m2:n2≤1000) (m3:n3≤1000) :
 Calls Tryz.prog 20 #[.agg #[.bool q,.slice a1 n1 c1,.int .i64 i,.slice a2 n2 c2,.int .i64 j,.slice a3 n3 c3],.agg #[.bool q,.slice b1 n1 d1,.int .i64 i,.slice b2 n2 d2,.int .i64 j,.slice b3 n3 d3]] w fun e w'=>e=.returned (.bool true)∧Fr w w':=by
 have hE:=fun W (hW:Fr w W)=>Hs r1 r1 a1 b1 c1 d1 n1 n1 W (h1.fr hW) (k1.fr hW) l1 l1 (by omega) (by omega)
 rw [Ad rfl] at hE
 replace hE:=hZ hE
 have hS:=hZ (fun W (hW:Fr w W)=>Ni i r2 a2 b2 c2 d2 n2 n2 W (h2.fr hW) (k2.fr hW) l2 l2 (by omega))
 have hT:=hZ (fun W (hW:Fr w W)=>Ni j r3 a3 b3 c3 d3 n3 n3 W (h3.fr hW) (k3.fr hW) l3 l3 (by omega))
 clear h1 h2 h3 k1 k2 k3 l1 l2 l3
 have hq:(q == q)=true:=Ez q
 obtain ⟨W1,hW1⟩:∃ W1,W1=(w.alloc (.cells #[.bool q,.slice a1 n1 c1,.int .i64 i,.slice a2 n2 c2,.int .i64 j,.slice a3 n3 c3] 52)).alloc (.cells #[.bool q,.slice b1 n1 d1,.int .i64 i,.slice b2 n2 d2,.int .i64 j,.slice b3 n3 d3] 52):=⟨_,rfl⟩
 obtain ⟨s,hs⟩:∃ s,s=w.heap.size:=⟨_,rfl⟩
 have f1:Fr w W1:=by rw [hW1]; exact ((Fr.refl _).alloc _).alloc _
 have hA:FB W1 s (.bool q) (.slice a1 n1 c1) (.int .i64 i) (.slice a2 n2 c2) (.int .i64 j) (.slice a3 n3 c3):=by
  rw [hW1,hs]; exact (FB.new w _ _ _ _ _ _ _).fr ((Fr.refl _).alloc _)
 have hB:FB W1 (s+1) (.bool q) (.slice b1 n1 d1) (.int .i64 i) (.slice b2 n2 d2) (.int .i64 j) (.slice b3 n3 d3):=by
  have:=FB.new (w.alloc (.cells #[.bool q,.slice a1 n1 c1,.int .i64 i,.slice a2 n2 c2,.int .i64 j,.slice a3 n3 c3] 52)) (.bool q) (.slice b1 n1 d1) (.int .i64 i) (.slice b2 n2 d2) (.int .i64 j) (.slice b3 n3 d3) 52
  rw [Az] at this
  rw [hW1,hs]; exact this
 go_enter Tryz.func20,Tryz.ntmps20
 go_upto_region 1 with (fail)
 rw [← hW1,← hs]
 clear hW1 hs
 obtain ⟨x0,x1,x2,x3,x4,x5,-⟩:=hA
 obtain ⟨y0,y1,y2,y3,y4,y5,-⟩:=hB
 go_wp2_with fail
 refine (hE.out _ f1).mono ?_
 rintro e w2 ⟨rfl,hf2⟩
 replace x2:=hf2.keep x2
 replace x3:=hf2.keep x3
 replace x4:=hf2.keep x4
 replace x5:=hf2.keep x5
 replace y2:=hf2.keep y2
 replace y3:=hf2.keep y3
 replace y4:=hf2.keep y4
 replace y5:=hf2.keep y5
 go_wp2_with fail
 refine (hS.out _ (f1.trans hf2)).mono ?_
 rintro e w3 ⟨rfl,hf3⟩
 replace x4:=hf3.keep x4
 replace x5:=hf3.keep x5
 replace y4:=hf3.keep y4
 replace y5:=hf3.keep y5
 go_wp2_with fail
 refine (hT.out _ ((f1.trans hf2).trans hf3)).mono ?_
 rintro e w4 ⟨rfl,hf4⟩
 go_wp2_with fail
 go_ret
 exact ⟨rfl,((f1.trans hf2).trans hf3).trans hf4⟩
theorem Q0 {pr:Nat→Nat→Option (List Int)} {M i j i' j':Nat} {cs cs':List Int} (h1:i < j) (h2:j < M) (h3:pr i j=some cs) (h4:JY pr M i j) (k1:i' < j') (k2:j' < M) (k3:pr i' j'=some cs') (k4:JY pr M i' j'):i=i'∧j=j':=by
 refine Bl fun hne=>?_
 by_cases hlt:i < i'∨(i=i'∧j < j')
 ·rw [k4 i j hlt h1 h2] at h3; cases h3
 ·rw [h4 i' j' (by omega) k1 k2] at k3; cases k3
section
variable {N A:List Sy} {d M:Nat} {aN aA:Option Addr} {cN cA:Nat} {C:List (List Int)} {D:Int} {res:Option (List Int)}
theorem VU {W w':World} {e:Ending} (hd:d≤1000) (hrN:∀ x,x ∈ N→x.row.length=d) (h:Rb W N M d (Wm (N.map Sy.row) C D d) res e w'):∃ (is q:Bool) (i j:Int) (r1 r2 r3:List Int) (a1 a2 a3:Option Addr) (n1 n2 n3 c1 c2 c3:Nat),
 e=.returned (.tuple #[.bool is,.agg #[.bool q,.slice a1 n1 c1,.int .i64 i,.slice a2 n2 c2,.int .i64 j,.slice a3 n3 c3],.int .i64 0])∧Fr W w'∧Hid (El w' iv a1 r1∧El w' iv a2 r2∧El w' iv a3 r3)∧Hid ((r1.length=n1∧r2.length=n2∧r3.length=n3)∧n1≤1000∧n2≤1000∧n3≤1000)∧(is=true→P7 C D (N.map Sy.row) d M∧res=none) ∧
 Hid (∀ W2 e2 w2,Ow W2 N M d (Wm (N.map Sy.row) C D d) res e2 w2→(∀ x,x ∈ N→El w2 iv x.ra x.row)→∃ (b1 b2 b3:Option Addr) (d1 d2 d3:Nat),e2=.returned (.tuple #[.agg #[.bool q,.slice b1 n1 d1,.int .i64 i,.slice b2 n2 d2,.int .i64 j,.slice b3 n3 d3],.bool is,.int .i64 0])∧Fr W2 w2∧El w2 iv b1 r1∧El w2 iv b2 r2∧El w2 iv b3 r3):=by
 rcases h with ⟨i,j,cs,y,a1,c1,a2,c2,a3,c3,h1,h2,h3,h4,hy,rfl,e1,e2,e3,hf⟩ | ⟨hno,h⟩
 ·refine ⟨false,false,i,j,y.row,cs,List.replicate d 0,a1,a2,a3,d,d,d,c1,c2,c3,rfl,hf,⟨e1,e2,e3⟩,⟨⟨hrN y (Ac hy),K2 h3,AH⟩,hd,hd,hd⟩,fun h=>(by cases h),fun W2 e2' w2 h9 hel=>?_⟩
  rcases h9 with ⟨i',j',cs',y',b2,d2,b3,d3,k1,k2,k3,k4,ky,rfl,g2,g3,hf2⟩ | ⟨hno,-⟩
  ·obtain ⟨rfl,rfl⟩:=Q0 h1 h2 h3 h4 k1 k2 k3 k4
   rw [h3] at k3
   injection k3 with k3
   rw [hy] at ky
   injection ky with ky
   subst k3; subst ky
   exact ⟨_,_,_,_,_,_,rfl,hf2,hel y (Ac hy),g2,g3⟩
  ·rw [hno i j h1 h2] at h3; cases h3
 ·unfold R9 at h
  cases res with
  | none=>
    obtain ⟨rfl,hf⟩:=h
    refine ⟨true,false,0,0,[],[],[],none,none,none,0,0,0,0,0,0,rfl,hf,⟨.inl rfl,.inl rfl,.inl rfl⟩,⟨⟨rfl,rfl,rfl⟩,by omega,by omega,by omega⟩,fun _=>⟨hno,rfl⟩,fun W2 e2' w2 h9 _=>?_⟩
    rcases h9 with ⟨i',j',cs',y',b2,d2,b3,d3,k1,k2,k3,-⟩ | ⟨-,rfl,hf2⟩
    ·rw [hno i' j' k1 k2] at k3; cases k3
    ·exact ⟨_,_,_,_,_,_,rfl,hf2,.inl rfl,.inl rfl,.inl rfl⟩
  | some x=>
    obtain ⟨g,c,rfl,he,hxl,hf⟩:=h
    refine ⟨false,true,0,0,x,[],[],_,none,none,d,0,0,c,0,0,rfl,hf,⟨he,.inl rfl,.inl rfl⟩,⟨⟨hxl,rfl,rfl⟩,hd,by omega,by omega⟩,fun h=>(by cases h),fun W2 e2' w2 h9 _=>?_⟩
    rcases h9 with ⟨i',j',cs',y',b2,d2,b3,d3,k1,k2,k3,-⟩ | ⟨-,g',c',rfl,he2,hf2⟩
    ·rw [hno i' j' k1 k2] at k3; cases k3
    ·exact ⟨_,_,_,_,_,_,rfl,hf2,he2,.inl rfl,.inl rfl⟩
end
theorem Jc (R:Int) (hR0:0≤R) (hR1:R≤255) (L:List (List Int)) (a:Option Addr) (c:Nat) (b0 b1 b2 b3 b4 b5 b6 b7 b8:Int) (w:World) (hG:G w) (hEr:Er w) (hmx:∃ m,w.cell? ⟨2,0,none⟩=some (.int .i64 m)) (hL:Mn w a L) (hL8:Mo L) (hB8:Mo [[b0,b1,b2],[b3,b4,b5],[b6,b7,b8]]) :
 Calls Tryz.prog 6 #[.agg #[.int .u8 R,.slice a L.length c,.int .i8 b0,.int .i8 b1,.int .i8 b2,.int .i8 b3,.int .i8 b4,.int .i8 b5,.int .i8 b6,.int .i8 b7,.int .i8 b8]] w fun e w'=>e=.returned (.bool true)∧Fr w w':=by
 have hk:=hZ (fun W (hW:Fr w W)=>Ps W (hG.fr hW) (hEr.fr hW) (hmx.imp fun m h=>hW.keep h))
 obtain ⟨d,hd⟩:∃ d:Nat,(d:Int)=R % 4:=⟨(R % 4).toNat,by omega⟩
 have hd3:d≤3:=by omega
 have hmk:=hZ (fun W (hW:Fr w W)=>Rj R hR0 hR1 d hd L a c b0 b1 b2 b3 b4 b5 b6 b7 b8 W (hG.fr hW) (hL.fr hW) hL8 hB8)
 have hGf:=hZ (fun W (hW:Fr w W)=>hG.fr hW)
 obtain ⟨l,hl⟩:∃ l,l=L.length:=⟨_,rfl⟩
 rw [← hl] at hmk ⊢
 replace hl:=hZ hl
 replace hd:=hZ hd
 replace hL8:=hZ hL8
 replace hB8:=hZ hB8
 clear hG hmx hL hEr
 have f1:Fr w (w.alloc (.cells #[.int .u8 R,.slice a l c,.int .i8 b0,.int .i8 b1,.int .i8 b2,.int .i8 b3,.int .i8 b4,.int .i8 b5,.int .i8 b6,.int .i8 b7,.int .i8 b8] 27)):=(Fr.refl _).alloc _
 go_enter Tryz.func6,Tryz.ntmps6
 go_wp2_with fail
 refine (hmk.out _ f1).mono ?_
 rintro e w1 ⟨N,A,aN,cN,aA,cA,rk,fine,hN,hA,hn,hf1,hfine,hr1,hr2,rfl⟩
 have f2:=f1.trans hf1
 clear f1 hf1 hmk
 obtain ⟨M,hM⟩:∃ M,M=N.length:=⟨_,rfl⟩
 have hAd:A.length=d:=by rw [← Dc,hA]; unfold Hy; rw [Al,BP]
 have hnt:=fun (hf:Cq N A rk=0)=>Ws (cN:=cN) hn hN hA hd3 hL8.out hB8.out rfl hf hr1 hr2
 rw [← hM] at hnt ⊢
 rw [hAd]
 replace hM:=hZ hM
 replace hAd:=hZ hAd
 obtain ⟨nb,hnb⟩:∃ nb,nb=w1.heap.size:=⟨_,rfl⟩
 obtain ⟨W3,hW3⟩:∃ W3,W3=w1.alloc (.cells #[.slice aN M cN,.slice aA d cA] 32):=⟨_,rfl⟩
 have f13:Fr w1 W3:=by rw [hW3]; exact (Fr.refl _).alloc _
 have hC3:Bm W3 nb (.slice aN M cN) (.slice aA d cA):=by rw [hW3,hnb]; exact Bm.new _ _ _ _
 have f3:=f2.trans f13
 cases fine with
 | false=>
   clear hnt hfine hN hA hn hr1 hr2
   go_upto_region 2 with (fail)
   rw [← hW3,← hnb]
   clear hW3
   replace hnb:=hZ hnb
   go_wp2_with fail
   refine (hk.out _ f3).mono ?_
   rintro e w4 ⟨rfl,hf4⟩
   go_wp2_with fail
   refine (hk.out _ (f3.trans hf4)).mono ?_
   rintro e w5 ⟨rfl,hf5⟩
   go_wp2_with fail
   go_ret
   exact ⟨rfl,(f3.trans hf4).trans hf5⟩
 | true=>
   have hN3:=(hnt (Au hfine.symm)).fr f13
   clear hnt hfine hN hA hn hr1 hr2
   obtain ⟨C,D,C',D',hI⟩:=hN3.inv
   obtain ⟨B,F,res,hs⟩:=hN3.srch hI
   have hrN:∀ x,x ∈ N→x.row.length=d:=fun x hx=>(hN3.rN x hx).2.1
   have huq:=hZ (fun W (hW:Fr W3 W)=>(Tu hN3 hI hs W (hGf.out _ (f3.trans hW)) (hN3.fr hW)).mono fun e w' h=>VU (by omega) hrN h)
   have hcl:=hZ (fun W (hW:Fr W3 W)=>TC (hN3.fr hW) (hGf.out _ (f3.trans hW)))
   have hlu:=hZ (fun W (hW:Fr W3 W)=>Tx hN3 hI hs W (hGf.out _ (f3.trans hW)) (hN3.fr hW))
   have hel:=hZ (fun W (hW:Fr W3 W) x (hx:x ∈ N)=>(hN3.hn.noms.2 x hx).fr hW)
   have m8:=hN3.m8
   have hof:=hZ (fun W (hW:Fr W3 W)=>DQ (M:Int) (by omega) (by omega) W (hGf.out _ (f3.trans hW)))
   have hcnt:Hid (P7 C D (N.map Sy.row) d M→res=none→((Fv (A.map Sy.row)).natAbs:Int)=M):=fun h1 h2=>(hs.count h1 h2).symm
   clear hN3 hI hs hrN
   go_upto_region 2 with (fail)
   rw [← hW3,← hnb]
   clear hW3
   replace hnb:=hZ hnb
   have n0:=hC3.a
   have n1:=hC3.b
   replace hC3:=hZ hC3
   go_wp2_with fail
   refine (hk.out _ f3).mono ?_
   rintro e w4 ⟨rfl,hf4⟩
   replace n0:=hf4.keep n0
   replace n1:=hf4.keep n1
   go_wp2_with fail
   refine (huq.out _ hf4).mono ?_
   rintro e w5 ⟨is,q,i,j,r1,r2,r3,a1,a2,a3,k1,k2,k3,c1,c2,c3,rfl,hf5,hE,hlen,hiu,hboth⟩
   clear huq
   have hf35:=hf4.trans hf5
   go_upto_region 5 with (fail)
   obtain ⟨W6,hW6⟩:∃ W6,W6=w5.alloc (.cells #[.bool q,.slice a1 k1 c1,.int .i64 i,.slice a2 k2 c2,.int .i64 j,.slice a3 k3 c3] 52):=⟨_,rfl⟩
   obtain ⟨ub,hub⟩:∃ ub,ub=w5.heap.size:=⟨_,rfl⟩
   have f56:Fr w5 W6:=by rw [hW6]; exact (Fr.refl _).alloc _
   have hU6:FB W6 ub (.bool q) (.slice a1 k1 c1) (.int .i64 i) (.slice a2 k2 c2) (.int .i64 j) (.slice a3 k3 c3):=by rw [hW6,hub]; exact FB.new _ _ _ _ _ _ _ _
   rw [← hW6,← hub]
   clear hW6 hub
   have hf36:=hf35.trans f56
   replace n0:=(hf5.trans f56).keep n0
   replace n1:=(hf5.trans f56).keep n1
   replace hU6:=hZ hU6
   obtain ⟨cl,hcl9⟩:∃ cl:Int,cl=((Fv (A.map Sy.row)).natAbs:Int):=⟨_,rfl⟩
   rw [← hcl9] at hcl hcnt
   replace hcl9:=hZ hcl9
   go_wp2_with fail
   refine (hcl.out _ hf36).mono ?_
   rintro e w7 ⟨rfl,hf7⟩
   have hf37:=hf36.trans hf7
   replace n0:=hf7.keep n0
   replace n1:=hf7.keep n1
   go_wp2_with fail
   refine (hlu.out _ hf37).mono ?_
   intro e w8 hpost
   have hf38x:Fr w7 w8:=by
    rcases hpost with ⟨_,_,_,_,_,_,_,_,_,_,_,_,_,_,_,_,h⟩ | ⟨_,h⟩
    ·exact h
    ·cases res with
     | none=>exact h.2
     | some x=>obtain ⟨_,_,_,_,h⟩:=h; exact h
   obtain ⟨b1,b2,b3,d1,d2,d3,rfl,hf8,g1,g2,g3⟩:=hboth.out w7 e w8 hpost (hel.out _ (hf37.trans hf38x))
   clear hpost hboth hf38x hlu hcl hel
   replace n0:=hf8.keep n0
   replace n1:=hf8.keep n1
   go_upto_region 7 with (fail)
   obtain ⟨W9,hW9⟩:∃ W9,W9=w8.alloc (.cells #[.bool q,.slice b1 k1 d1,.int .i64 i,.slice b2 k2 d2,.int .i64 j,.slice b3 k3 d3] 52):=⟨_,rfl⟩
   obtain ⟨vb,hvb⟩:∃ vb,vb=w8.heap.size:=⟨_,rfl⟩
   have f89:Fr w8 W9:=by rw [hW9]; exact (Fr.refl _).alloc _
   have hV9:FB W9 vb (.bool q) (.slice b1 k1 d1) (.int .i64 i) (.slice b2 k2 d2) (.int .i64 j) (.slice b3 k3 d3):=by rw [hW9,hvb]; exact FB.new _ _ _ _ _ _ _ _
   rw [← hW9,← hvb]
   clear hW9 hvb
   have hf39:=(hf37.trans hf8).trans f89
   replace n0:=f89.keep n0
   have h69:=(hf7.trans hf8).trans f89
   have hU9:=hU6.out.fr h69
   have hEq:=hZ (QG q i j r1 r2 r3 a1 a2 a3 b1 b2 b3 k1 k2 k3 c1 c2 c3 d1 d2 d3 W9 (hE.out.1.fr (f56.trans h69)) (hE.out.2.1.fr (f56.trans h69)) (hE.out.2.2.fr (f56.trans h69)) (g1.fr f89) (g2.fr f89) (g3.fr f89) hlen.out.1.1 hlen.out.1.2.1 hlen.out.1.2.2 hlen.out.2.1 hlen.out.2.2.1 hlen.out.2.2.2)
   clear hE g1 g2 g3 hlen
   obtain ⟨x0,x1,x2,x3,x4,x5,-⟩:=hU9
   obtain ⟨y0,y1,y2,y3,y4,y5,-⟩:=hV9
   have hbb:(is != is)=false:=by cases is <;> rfl
   go_wp2_with fail
   refine hEq.out.mono ?_
   rintro e wA ⟨rfl,hfA⟩
   replace n0:=hfA.keep n0
   clear x0 x1 x2 x3 x4 x5 y0 y1 y2 y3 y4 y5
   cases is with
   | false=>
     go_wp2_with fail
     go_ret
     exact ⟨rfl,(f3.trans hf39).trans hfA⟩
   | true=>
     obtain ⟨h1,h2⟩:=hiu rfl
     obtain rfl:=hcnt.out h1 h2
     go_wp2_with fail
     refine (hof.out _ (hf39.trans hfA)).mono ?_
     rintro e wB ⟨rfl,hfB⟩
     go_wp2_with fail
     go_ret
     exact ⟨rfl,((f3.trans hf39).trans hfA).trans hfB⟩
end Go.Proofs.YtkjemicelmabdaaGreatDoor
