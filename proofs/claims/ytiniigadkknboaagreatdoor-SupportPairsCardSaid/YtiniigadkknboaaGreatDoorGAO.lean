/- Contracts and laws: GAO. -/
import Derived.Test.YtiniigadkknboaaGreatDoorGAN
import Derived.Test.YtiniigadkknboaaGreatDoorGAM
import Derived.Laws.OwnMore
import Derived.Lib.AppendZerosOnto

set_option maxRecDepth 100000
set_option maxHeartbeats 16000000
namespace Go.Proofs.YtiniigadkknboaaGreatDoor
open Go.RowKit Go.Lib
attribute [local go_sem ↓] Go.wp_at_zero Go.wp_at_succ
theorem LD {v:Nat} (h:0 < v):1000000000 ^ ((digs v).length - 1)≤v:=by
 refine AW fun h2=>?_
 have h3:=Ed ((digs v).length - 1) v (by omega)
 have h4:(digs v).length≠0:=fun e=>by
  have:=Dv.1 (Ky.1 e)
  omega
 omega
theorem CS {u v:Nat} (h:u≤v):(digs u).length≤(digs v).length:=by
 refine Ed _ _ (A4 h (Cx v))
theorem SI {v t f n:Nat} (hn:n=(digs v).length) (h0:0 < v) (ht:t=v / 1000000000 ^ (n - 1) % 1000000000) (hf:f=1000000000 / (t+1)):1≤t∧t < 1000000000∧1≤f∧f < 1000000000∧(digs (v * f)).length=n:=by
 have h1:=LD h0
 have h2:=Cx v
 rw [← hn] at h1 h2
 have hn1:1≤n:=by
  rw [hn]
  cases e:digs v with
  | nil=>rw [Dv] at e; omega
  | cons=>simp
 have hP:0 < 1000000000 ^ (n - 1):=E7 (by decide)
 have e1:1000000000 ^ n=1000000000 ^ (n - 1) * 1000000000:=by rw [← Br]; congr 1; omega
 have h3:v / 1000000000 ^ (n - 1) < 1000000000:=by
  rw [Cb hP,Di,← e1]; exact h2
 rw [CH h3] at ht
 have ht1:1≤t:=by rw [ht]; exact ZO h1 hP
 have ht2:t < 1000000000:=by rw [ht]; exact h3
 have hf1:1≤f:=by rw [hf]; exact ZO (by omega) (by omega)
 have hf2:f < 1000000000:=by
  rw [hf,Cb (by omega)]; omega
 have hft:f * (t+1)≤1000000000:=by rw [hf]; exact H4 _ _
 refine ⟨ht1,ht2,hf1,hf2, ?_⟩
 have h4:v < (t+1) * 1000000000 ^ (n - 1):=by
  rw [← Cb hP,← ht]; omega
 have h5:v * f < 1000000000 ^ n:=by
  rw [e1]
  have a1:v * f < (t+1) * 1000000000 ^ (n - 1) * f:=Nat.mul_lt_mul_of_pos_right h4 hf1
  have a2:(t+1) * 1000000000 ^ (n - 1) * f=f * (t+1) * 1000000000 ^ (n - 1):=by grind
  have a3:=AU (1000000000 ^ (n - 1)) hft
  rw [Di 1000000000] at a3
  omega
 have h6:=Ed n _ h5
 have h7:(digs v).length≤(digs (v * f)).length:=CS (FW _ hf1)
 omega
theorem DM {w:World} {base g n c:Nat} {l:List Int} (h:w.ownsRow base 224 1 (.slice (some ⟨g,0,none⟩) n c) n (l.map uv)):Ik w g n (gd l):=by
 have hl:l.length=n:=by have:=h.1; rw [An] at this; omega
 obtain ⟨-,-,h2,-,h4⟩:=Bo h
 exact ⟨h2,fun j hj=>h4 j _ (by rw [At,Jb (by omega)]; rfl)⟩
theorem Uz (A:Nat→Int) {N j:Nat} (h:j < N):gd ((List.range N).map A) j=A j:=by
 unfold gd
 rw [At,List.getElem?_range h]; rfl
theorem Ik.el {w:World} {g N:Nat} {A:Nat→Int} (h:Ik w g N A):El w uv (some ⟨g,0,none⟩) ((List.range N).map A) :=
 .inr ⟨g,0,rfl,h.1,fun i x hx=>by
  have hi:=(Ae.1 hx).1
  rw [An,Co] at hi
  rw [At,List.getElem?_range hi] at hx
  injection hx with hx
  rw [AN,(h.2 i hi).1,← hx]⟩
theorem Mq.fin {U V N:Nat} {A:Nat→Int} (h:Mq U V N 0 A):BA ((List.range N).map A)=digs (U % V):=by
 have hd:Dg ((List.range N).map A):=fun x hx=>by
  obtain ⟨i,hi,rfl⟩:=Bc.1 hx
  exact h.dg i (BH.1 hi)
 have hv:=h.hi
 rw [DD,Em,E9] at hv
 have e:val ((List.range N).map A)=((U % V:Nat):Int):=by
  rw [FJ,An,Co,← hv]
  exact Fe N fun j hj=>by rw [Uz A hj,AN]
 rw [Dp hd,e,AR]
theorem WQ (u v:Nat) (a b:Option Addr) (ca cb:Nat) (w:World) (hx:El w uv a (digs u)) (hy:El w uv b (digs v)) (hl:(digs u).length≤100000000) (h2:2≤(digs v).length) (huv:v≤u) :
 Calls Tryz.prog 188 #[.slice a (digs u).length ca,.slice b (digs v).length cb] w fun e w'=>∃ a1 c1 a2 c2,e=.returned (.tuple #[.slice a1 (digs (u / v)).length c1,.slice a2 (digs (u % v)).length c2])∧El w' uv a1 (digs (u / v))∧El w' uv a2 (digs (u % v))∧(digs (u / v)).length≤c1∧(digs (u % v)).length≤c2∧Fr w w':=by
 obtain ⟨i0,hi,hz0,hz1,hz2⟩:=AZ HW
 have hv0:0 < v:=by
  refine QV fun e=>?_
  rw [e,Bw] at h2; simp at h2
 obtain ⟨lu,hlu⟩:∃ lu,lu=(digs u).length:=⟨_,rfl⟩
 obtain ⟨n,hn⟩:∃ n,n=(digs v).length:=⟨_,rfl⟩
 obtain ⟨t,ht⟩:∃ t,t=v / 1000000000 ^ (n - 1) % 1000000000:=⟨_,rfl⟩
 obtain ⟨f,hf⟩:∃ f,f=1000000000 / (t+1):=⟨_,rfl⟩
 obtain ⟨ht1,ht2,hf1,hf2,hVn⟩:=SI hn hv0 ht hf
 have hnl:n≤lu:=by rw [hn,hlu]; exact CS huv
 obtain ⟨U,hU⟩:∃ U,U=u * f:=⟨_,rfl⟩
 obtain ⟨V,hV⟩:∃ V,V=v * f:=⟨_,rfl⟩
 rw [← hV] at hVn
 have hV0:0 < V:=by rw [hV]; exact ZL hv0 hf1
 have hVlo:=LD hV0
 have hVhi:=Cx V
 rw [hVn] at hVlo hVhi
 obtain ⟨lU,hlU⟩:∃ lU,lU=(digs U).length:=⟨_,rfl⟩
 have hlUu:lu≤lU:=by rw [hlu,hlU]; exact CS (by rw [hU]; exact FW _ hf1)
 have hlU2:lU≤lu+1:=by
  rw [hlU]
  refine Ed _ _ ?_
  rw [hU,Br,hlu]
  exact Nat.mul_lt_mul_of_lt_of_le (Cx u) (by omega) (by omega)
 have hq1:U / V=u / v:=by rw [hU,hV]; exact Nat.mul_div_mul_right _ _ hf1
 have hq2:U % V / f=u % v:=by rw [hU,hV,Nat.mul_mod_mul_right]; exact Nat.mul_div_cancel _ hf1
 rw [← hlu] at hl
 rw [← hn] at h2
 obtain ⟨yb,yo,hyb⟩:∃ yb yo,b=some ⟨yb,yo,none⟩:=by
  obtain ⟨b',o',e,-⟩:=El.at_gd hy (i:=0) (by omega)
  exact ⟨_,_,e⟩
 subst hyb
 have ycell:w.cell? ⟨yb,yo+(n - 1),none⟩=some (.int .u64 (t:Int)):=by
  obtain ⟨b',o',e,-,hc⟩:=El.at_gd hy (i:=n - 1) (by omega)
  injection e with e
  injection e with e1 e2
  subst e1; subst e2
  rw [HY,← ht] at hc
  exact hc
 have hs1:=hZ (R3 (digs u) f U hf2 (by rw [B4,hU]; omega) a ca w hx (BK u) (by omega))
 have hs2:=hZ (fun W (hW:Fr w W)=>R3 (digs v) f V hf2 (by rw [B4,hV]; omega) (some ⟨yb,yo,none⟩) cb W (hy.fr hW) (BK v) (by omega))
 rw [← hlu] at hs1
 rw [← hn] at hs2
 rw [← hlu,← hn,← hq1,← hq2]
 have kn1:IntKind.i64.wrap ((n:Int) - 1)=((n - 1:Nat):Int):=by rw [Ak _ (by omega)]; omega
 have y0:(0:Int)≤((n - 1:Nat):Int):=by omega
 have y1:((n - 1:Nat):Int) < (n:Int):=by omega
 obtain ⟨t1,htt⟩:∃ t1,t1=t+1:=⟨_,rfl⟩
 have kt:IntKind.u64.wrap ((t:Int)+1)=(t1:Int):=by rw [AH _ (by omega)]; omega
 have d0:¬ (t1:Int)=0:=by omega
 have d1:((t1:Int) == 0)=false:=A2 d0
 have d2:¬ t1=0:=by omega
 have kf:(1000000000:Int) / (t1:Int)=(f:Int):=by rw [hf,← htt]; exact (Ea 1000000000 t1).symm
 have hnn:n - 1+1=n:=by omega
 replace hlu:=hZ hlu
 replace hn:=hZ hn
 replace ht:=hZ ht
 replace hf:=hZ hf
 replace hU:=hZ hU
 replace hV:=hZ hV
 replace hVn:=hZ hVn
 replace hlU:=hZ hlU
 replace hq1:=hZ hq1
 replace hq2:=hZ hq2
 replace htt:=hZ htt
 replace hnn:=hZ hnn
 replace hVlo:=hZ hVlo
 replace hVhi:=hZ hVhi
 obtain ⟨n1,hn1⟩:∃ n1,n1=n - 1:=⟨_,rfl⟩
 rw [← hn1] at kn1 y0 y1 ycell
 replace hn1:=hZ hn1
 go_enter Tryz.func188,Tryz.ntmps188
 go_wp2_with fail
 refine hs1.out.mono ?_
 rintro e w1 ⟨v1,rfl,ho1,hn1v,hf1w⟩
 rw [← hlU.out] at ho1
 clear ycell
 have hown1:=ho1
 go_wp2_with (at_builtin; refine wpList_append_lies _ rfl _ _ 229 (by rfl) _ 224 _ _ 1 8 Tryz.underlying229 hi hz0 hz1 hz2 rfl (by decide) _ lU _ (by rfl) (Az hown1 _) ⟨w1.heap.size,0,none⟩ 1 1 [.int .u64 0] (by rfl) rfl (AK _ _ _ _ (by simp)) (by simp [Value.oneCell']) (by decide) (by unfold maxLen; omega) (by omega) (by have:=hf1w.size; simp; omega) (w1.heap.size+1) (by simp) ?_; intro gA capA wA hownA hgrowA hatA hltA)
 obtain ⟨N,hN⟩:∃ N,N=lU+1:=⟨_,rfl⟩
 rw [← hN] at hownA
 rw [← hN]
 have hAl:((digs U).map uv ++ [Value.int .u64 0])=(digs U ++ [0]).map uv:=by rw [Ay]; rfl
 rw [hAl] at hownA
 have hfA:Fr w wA:=(hf1w.alloc _).grown hgrowA (fun k e=>(ho1.lt k e).1)
 have hgA:=(hownA.lt gA rfl)
 have hNc:N≤capA:=(Bo hownA).2.2.2.1
 have hs3:=hZ (hs2.out wA hfA)
 have hN1:lu+1≤N:=by omega
 have hNb:N≤100000003:=by omega
 have hN0:Hid (N=(digs U).length+1):=by show _=_; rw [hN,hlU.out]
 replace hN:=hZ hN
 clear hs1 hs2 ho1 hown1 hgrowA hatA hltA hAl hn1v hf1w hlUu hlU2
 go_wp2_with fail
 refine hs3.out.mono ?_
 rintro e w2 ⟨v2,rfl,ho2,hn2v,hf2w⟩
 rw [hVn.out] at ho2
 obtain ⟨gb,cb2,rfl,hgb,hgbc,hgbw⟩:∃ gb cb2,v2=.slice (some ⟨gb,0,none⟩) n cb2∧wA.heap.size≤gb∧n≤cb2∧gb < w2.heap.size:=by
  have h9:=ho2
  rw [← hVn.out] at h9
  obtain ⟨g,c,h1,h3,h4,h5⟩:=ES h9 (.inr hn2v)
  exact ⟨g,c,by rw [h1,hVn.out],h3,by rw [← hVn.out]; exact h4,h5⟩
 have hA2:Ik w2 gA N (gd (digs U ++ [0])):=DM (Bg hownA hf2w)
 have hB2:Tk w2 gb 0 n (gd (digs V)):=(DM ho2).rd
 have hfw2:=hfA.trans hf2w
 have hAB:gA < gb:=by omega
 obtain ⟨K,hKd⟩:∃ K,K=N - n:=⟨_,rfl⟩
 have hK1:1≤K:=by omega
 have hKn:K+n=N:=by omega
 have hSt:=Mq.start (U:=U) (V:=V) (k:=K) (n:=n) (by rw [← hN0.out]; exact hKn) hVlo.out (by omega)
 rw [← hN0.out] at hSt
 obtain ⟨hD0,hI0⟩:=hSt
 have hI1:Hid (Hc U V K K (List.replicate K 0)):=Hc.start2 U V K hI0
 have d3:decide ((N:Int)≤(lu:Int))=false:=Aa (by omega)
 have kK:IntKind.i64.wrap ((N:Int) - (n:Int))=(K:Int):=by rw [Ak _ (by omega)]; omega
 have kK1:IntKind.i64.wrap ((K:Int) - 1)=(K:Int) - 1:=Ak _ (by omega)
 replace hA2:=hZ hA2
 replace hB2:=hZ hB2
 replace hD0:=hZ hD0
 replace hKd:=hZ hKd
 have hgA0:=hgA.1
 clear hs3 ho2 hn2v hownA hI0 hgA
 go_wp2_with fail
 go_loopg [7] 1 (fun k s7 wr=>s7=.slice (some ⟨gA,0,none⟩) N capA∧wr=w2)
 case atStart=>exact ⟨rfl,rfl⟩
 case round=>
  obtain ⟨rfl,rfl⟩:=hrel
  obtain ⟨w2,rfl⟩:∃ w2:World,w2=wr:=⟨_,rfl⟩
  go_wp2_with (at_make; refine Dk _ rfl _ _ 229 rfl w2.heap.size 224 i0 _ 1 Tryz.underlying229 hi hz0 hz1 _ _ _ _ K (by rfl) (by rfl) (by omega) (by omega) (by rw [hz2]; omega) (by unfold maxLen; omega) (Ah _) ?_; intro w4 hown4 hgr4)
  have hf4:Fr w2 w4:=(Fr.refl w2).grown hgr4 (fun k e=>by cases e)
  rw [NA] at hown4
  obtain ⟨B,hB⟩:∃ B,B=w2.heap.size:=⟨_,rfl⟩
  rw [← hB] at hown4
  rw [← hB]
  have hgbB:gb < B:=by rw [hB]; exact hB2.out.1
  have hwB:w.heap.size≤B:=by rw [hB]; exact hfw2.size
  have hA4:Hid (Ik w4 gA N (gd (digs U ++ [0]))):=hA2.out.fr hf4
  have hB4:Hid (Tk w4 gb 0 n (gd (digs V))):=hB2.out.fr hf4
  have hfw4:=hfw2.trans hf4
  replace hown4:=hZ hown4
  replace hB:=hZ hB
  clear hgr4 hA2 hB2 hfw2
  go_wp2_with fail
  go_loopg [11] K (fun k s11 wr=>∃ (A:Nat→Int) (out:List Int),s11=.int .i64 ((k:Int) - 1)∧k≤K∧Fr w wr∧Hid (Ik wr gA N A)∧Hid (Tk wr gb 0 n (gd (digs V)))∧Hid (Mq U V N k A)∧Hid (wr.ownsRow B 224 1 (.slice (some ⟨B,0,none⟩) K K) K (out.map uv))∧Hid (Hc U V K k out))
  case atStart=>exact ⟨_,_,rfl,Ah _,hfw4,hA4,hB4,hD0,hown4,hI1⟩
  case round=>
   clear hA4 hB4 hD0 hown4 hI1 hfw4 hf4
   obtain ⟨A,out,rfl,hkK,hf5,hA,hBr,hD,hown,hI⟩:=hrel
   by_cases hk0:gk=0
   ·subst hk0
    have dk:decide ((0:Int)≤((0:Nat):Int) - 1)=false:=by decide
    have hTl:=hD.out.fin
    have hEl:=hA.out.el
    have hle:=(BS ((List.range N).map A)).2
    have hll:((List.range N).map A).length=N:=by rw [An,Co]
    have htr:=Jj ((List.range N).map A) (some ⟨gA,0,none⟩) capA wr hEl (by rw [hll]; omega) (by rw [hll]; exact hNc)
    have hEt:El wr uv (some ⟨gA,0,none⟩) (digs (U % V)):=by rw [← hTl,(BS ((List.range N).map A)).1]; exact G7 hEl _
    rw [hTl,hll] at htr
    rw [hTl,hll] at hle
    have hsm:=hZ (fun W (hW:Fr wr W)=>Vz (U % V) f hf1 hf2 (some ⟨gA,0,none⟩) capA W (hEt.fr hW) (by omega))
    have hol:=hI.out.len
    have hown9:=hown.out
    rw [← hol] at hown9
    obtain ⟨a9,c9,e9,he9,hc9,-⟩:=DW hown9
    have htr2:=fun W (hW:Fr wr W)=>Jj out a9 c9 W (he9.fr hW) (by rw [hol]; omega) hc9
    have hq:=hI.out.fin
    have hE:El wr uv a9 (BA out):=by rw [(BS out).1]; exact G7 he9 _
    have hle2:=(BS out).2
    injection e9 with e1 e2 e3
    rw [← e1,← e3,hq,hol] at htr2
    rw [← e1,hq] at hE
    rw [hq,hol] at hle2
    replace htr:=hZ htr
    replace htr2:=hZ htr2
    replace hE:=hZ hE
    clear hown9 he9 hc9 e1 e2 e3 hq hol hTl hEl hll hEt
    go_wp2_with fail
    refine htr.out.mono ?_
    rintro e w6 ⟨rfl,hf6⟩
    have h7:=hZ (hsm.out w6 hf6)
    go_wp2_with fail
    refine h7.out.mono ?_
    rintro e w7 ⟨a7,c7,rfl,he7,hl7,hf7⟩
    have h8:=hZ (htr2.out w7 (hf6.trans hf7))
    go_wp2_with fail
    refine h8.out.mono ?_
    rintro e w8 ⟨rfl,hf8⟩
    go_wp2_with fail
    go_ret2
    exact ⟨_,_,_,_,rfl,hE.out.fr ((hf6.trans hf7).trans hf8),he7.fr hf8,hle2,hl7,((hf5.trans hf6).trans hf7).trans hf8⟩
   ·obtain ⟨k,rfl⟩:∃ k,gk=k+1:=⟨gk - 1,by omega⟩
    obtain ⟨W,hW⟩:∃ W,W=1000000000 * (U / 1000000000 ^ (k+1) % V)+U / 1000000000 ^ k % 1000000000:=⟨_,rfl⟩
    obtain ⟨n2,hn2⟩:∃ n2,n=n2+2:=⟨n - 2,by omega⟩
    have hkN:k+1+n≤N:=by omega
    have hdg:=hZ hD.out.dg
    obtain ⟨a1,ha1⟩:∃ a1:Nat,A (k+n)=a1:=⟨(A (k+n)).toNat,by have:=hdg.out (k+n) (by omega); omega⟩
    obtain ⟨a2,ha2⟩:∃ a2:Nat,A (k+n2+1)=a2:=⟨(A (k+n2+1)).toNat,by have:=hdg.out (k+n2+1) (by omega); omega⟩
    obtain ⟨a3,ha3⟩:∃ a3:Nat,A (k+n2)=a3:=⟨(A (k+n2)).toNat,by have:=hdg.out (k+n2) (by omega); omega⟩
    obtain ⟨b1,hb1⟩:∃ b1:Nat,gd (digs V) (n2+1)=b1:=⟨(gd (digs V) (n2+1)).toNat,by have:=Tj V (n2+1); omega⟩
    obtain ⟨b2,hb2⟩:∃ b2:Nat,gd (digs V) n2=b2:=⟨(gd (digs V) n2).toNat,by have:=Tj V n2; omega⟩
    have hgs:=hZ (hD.out.gs hn2 hkN hVn.out hV0 hW ha1 ha2 ha3 hb1 hb2)
    have hA9:=fun W9 (hW9:Fr wr W9)=>(hA.out.fr hW9).2
    have ca1:=(hA.out.2 (k+n) (by omega)).1
    have ca2:=(hA.out.2 (k+n2+1) (by omega)).1
    have ca3:=(hA.out.2 (k+n2) (by omega)).1
    have cb1:=hBr.out.2 (n2+1) (by omega)
    have cb2x:=hBr.out.2 n2 (by omega)
    rw [ha1] at ca1
    rw [ha2] at ca2
    rw [ha3] at ca3
    rw [hb1,AN] at cb1
    rw [hb2,AN] at cb2x
    obtain ⟨hab1,hab2,hab3⟩:=hgs.out.ab
    obtain ⟨hbb1,hbb2⟩:=hgs.out.bb
    have hbp:=hgs.out.bp
    have hkk:((k+1:Nat):Int) - 1=(k:Int):=by omega
    rw [hkk]
    have dk:decide ((0:Int)≤(k:Int))=true:=Ab (by omega)
    obtain ⟨kn,hkn⟩:∃ kn,kn=k+n:=⟨_,rfl⟩
    obtain ⟨knA,hkn1⟩:∃ knA,knA=k+n2+1:=⟨_,rfl⟩
    obtain ⟨knB,hkn2⟩:∃ knB,knB=k+n2:=⟨_,rfl⟩
    obtain ⟨nn1,hnn1⟩:∃ nn1,nn1=n2+1:=⟨_,rfl⟩
    have e9:nn1=n1:=by have h9:=hn1.out; omega
    subst e9
    rw [← hkn] at ca1
    rw [← hkn1] at ca2
    rw [← hkn2] at ca3
    rw [← hnn1] at cb1
    have w1:IntKind.i64.wrap ((k:Int)+(n:Int))=(kn:Int):=by rw [Ak _ (by omega)]; omega
    have w2':IntKind.i64.wrap ((kn:Int) - 1)=(knA:Int):=by rw [Ak _ (by omega)]; omega
    have w3:IntKind.i64.wrap ((kn:Int) - 2)=(knB:Int):=by rw [Ak _ (by omega)]; omega
    have w4':IntKind.i64.wrap ((n:Int) - 1)=(nn1:Int):=by rw [Ak _ (by omega)]; omega
    have w5:IntKind.i64.wrap ((n:Int) - 2)=(n2:Int):=by rw [Ak _ (by omega)]; omega
    have z1:(0:Int)≤(kn:Int):=by omega
    have z2:(kn:Int) < (N:Int):=by omega
    have z3:(0:Int)≤(knA:Int):=by omega
    have z4:(knA:Int) < (N:Int):=by omega
    have z5:(0:Int)≤(knB:Int):=by omega
    have z6:(knB:Int) < (N:Int):=by omega
    have z7:(0:Int)≤(nn1:Int):=by omega
    have z8:(nn1:Int) < (n:Int):=by omega
    have z9:(0:Int)≤(n2:Int):=by omega
    have z10:(n2:Int) < (n:Int):=by omega
    obtain ⟨hi,hhi⟩:∃ hi:Nat,hi=a1 * 1000000000+a2:=⟨_,rfl⟩
    have w6:IntKind.u64.wrap ((a1:Int) * 1000000000)=(a1:Int) * 1000000000:=AH _ (by omega)
    have w7:IntKind.u64.wrap ((a1:Int) * 1000000000+(a2:Int))=(hi:Int):=by rw [AH _ (by omega)]; omega
    have e0:¬ (b1:Int)=0:=by omega
    have e1:((b1:Int) == 0)=false:=A2 e0
    have e2:¬ b1=0:=by omega
    obtain ⟨g9,hg9⟩:∃ g9:Nat,g9=hi / b1:=⟨_,rfl⟩
    obtain ⟨r9,hr9⟩:∃ r9:Nat,r9=hi % b1:=⟨_,rfl⟩
    have w8:(hi:Int) / (b1:Int)=(g9:Int):=by rw [hg9]; exact (Ea hi b1).symm
    have w9:(hi:Int) % (b1:Int)=(r9:Int):=by rw [hr9]; exact (KC hi b1).symm
    have w9t:(hi:Int).tmod (b1:Int)=(r9:Int):=by rw [ID (by omega)]; exact w9
    have hg9b:g9≤hi:=by rw [hg9]; exact DA _ _
    have w8w:IntKind.u64.wrap (g9:Int)=(g9:Int):=AH _ (by omega)
    have hst:Hid (W / V≤g9):=by have:=hgs.out.start; rw [← hhi,← hg9] at this; exact this
    have hgr:Hid (g9 * b1+r9=hi):=by show _=_; rw [hg9,hr9,Di]; exact DB hi b1
    have hhib:hi < 1000000000 * 1000000000:=by omega
    have hov:=hZ (fun (g r:Nat) (h:g * b1+r=hi) (ht:1000000000≤g∨r * 1000000000+a3 < g * b2)=>hgs.out.over (h.trans hhi) ht)
    have hsy:=hZ (fun (g r:Nat) (h:g * b1+r=hi) (h9:g < 1000000000) (ht:1000000000≤r∨g * b2≤r * 1000000000+a3)=>hgs.out.stay (h.trans hhi) h9 ht)
    have hrt:=hZ (fun (g:Nat) (h1:W / V≤g) (h2:g * V≤W+V)=>hgs.out.right h1 h2)
    replace hW:=hZ hW
    replace hn2:=hZ hn2
    replace ha1:=hZ ha1
    replace ha2:=hZ ha2
    replace ha3:=hZ ha3
    replace hb1:=hZ hb1
    replace hb2:=hZ hb2
    replace hkn:=hZ hkn
    replace hkn1:=hZ hkn1
    replace hkn2:=hZ hkn2
    replace hnn1:=hZ hnn1
    replace hhi:=hZ hhi
    replace hg9:=hZ hg9
    replace hr9:=hZ hr9
    clear hkk hA9
    obtain ⟨wo,rfl⟩:∃ wo:World,wo=wr:=⟨_,rfl⟩
    go_wp2_with fail
    go_quiet (fail)
    go_wp2_with fail
    obtain ⟨wq,hwq⟩:∃ wq,wq=wo.drewN nq:=⟨_,rfl⟩
    rw [← hwq]
    have hfq:Fr wo wq:=by rw [hwq]; exact (Fr.refl wo).drewN _
    have cq1:=((hfq.drew).keep cb1)
    refine wp_region_held_drew (S:=fun W'=>W'.cell? ⟨gb,nn1,none⟩=some (.int .u64 (b1:Int))) (by kernel_rfl) cq1 (fun hHeld=>?_)
    refine hK 0 ?_
    change wpAnyH _ _ _ _ _ _ _ (Act.put _ (some 72) _) _
    simp only [Act.put,Dz,DO,DN]
    refine hK 1 ?_
    change wpAnyH _ _ _ _ _ _ _ (Act.put _ (some 73) _) _
    simp only [Act.put,Dz,DO,DN]
    refine hK 2 ?_
    change wpAnyH _ _ _ _ _ _ _ (Act.put _ (some 74) _) _
    simp only [Act.put,Dz,DO,DN]
    refine hK 3 ?_
    change wpAnyH _ _ _ _ _ _ _ (Act.put _ (some 75) _) _
    simp only [Act.put,Dz,DO,DN]
    refine hK 4 ?_
    change wpAnyH _ _ _ _ _ _ _ (Act.put _ (some 76) _) _
    simp only [Act.put,Dz,DO,DN]
    refine hK 5 ?_
    change wpAnyH _ _ _ _ _ _ _ (Act.put _ (some 77) _) _
    simp only [Act.put,Dz,DO,DN]
    refine hK 6 ?_
    change wpAnyH _ _ _ _ _ _ _ (Act.put _ (some 78) _) _
    simp only [Act.put,Dz,DO,DN]
    refine hK 7 ?_
    change wpAnyH _ _ _ _ _ _ _ (Act.put _ (some 79) _) _
    simp only [Act.put,Dz,DO,DN]
    refine hK 8 ?_
    change wpAnyH _ _ _ _ _ _ _ (Act.put _ (some 80) _) _
    simp only [Act.put,Dz,DO,DN]
    refine hK 9 ?_
    change wpAnyH _ _ _ _ _ _ _ (Act.put _ (some 81) _) _
    simp only [Act.put,Dz,DO,DN]
    refine hK 10 ?_
    change wpAnyH _ _ _ _ _ _ _ (Act.put _ (some 82) _) _
    simp only [Act.put,Dz,DO,DN]
    refine hK 11 ?_
    change wpAnyH _ _ _ _ _ _ _ (Act.put _ (some 83) _) _
    simp only [Act.put,Dz,DO,DN]
    refine hK 12 ?_
    change wpAnyH _ _ _ _ _ _ _ (Act.put _ (some 84) _) _
    simp only [Act.put,Dz,DO,DN]
    refine hK 13 ?_
    change wpAnyH _ _ _ _ _ _ _ (Act.put _ (some 85) _) _
    simp only [Act.put,Dz,DO,DN]
    refine hK 14 ?_
    change wpAnyH _ _ _ _ _ _ _ (Act.put _ (some 13) _) _
    simp only [Act.put,Dz,DO,DN]
    refine hK 15 ?_
    change wpAnyH _ _ _ _ _ _ _ (Act.put _ (some 14) _) _
    simp only [Act.put,Dz,DO,DN]
    refine wpAnyH_done (by kernel_rfl) ?_ _
    clear hHeld cq1
    go_wp2_with fail
    go_loopg [13,14] g9 (fun g s13 s14 wv=>∃ r:Nat,s13=.int .u64 (g:Int)∧s14=.int .u64 (r:Int)∧Hid (g * b1+r=hi)∧Hid (W / V≤g)∧Fr wo wv)
    case atStart=>exact ⟨r9,rfl,rfl,hgr,hst,hfq.drew⟩
    case round=>
     clear hst hgr
     obtain ⟨r,rfl,rfl,hgr2,hle,hf6⟩:=hrel
     obtain ⟨g,rfl⟩:∃ g:Nat,g=gk:=⟨_,rfl⟩
     have x1:=hf6.keep ca3
     have x2:=hf6.keep cb2x
     have x3:=hf6.keep cb1
     have hrb:r≤hi:=by have h9:=hgr2.out; omega
     have hgb8:g≤hi:=by have h9:=hgr2.out; have h8:g * 1≤g * b1:=Bb _ hbp; omega
     by_cases c1:1000000000≤g
     ·have d1:decide ((1000000000:Int)≤(g:Int))=true:=Ab (by omega)
      have hlt:=hov.out g r hgr2.out (.inl c1)
      have hgpos:0 < g:=A4 (Ck _) hlt
      obtain ⟨g1,hg1⟩:∃ g1,g1=g - 1:=⟨_,rfl⟩
      obtain ⟨r1,hr1⟩:∃ r1,r1=r+b1:=⟨_,rfl⟩
      have m9:IntKind.u64.wrap ((g:Int) - 1)=(g1:Int):=by rw [AH _ (by omega)]; omega
      have m10:IntKind.u64.wrap ((r:Int)+(b1:Int))=(r1:Int):=by rw [AH _ (by omega)]; omega
      have hn9:Hid (g1 * b1+r1=hi):=by
       have h9:=hgr2.out
       obtain ⟨g2,rfl⟩:∃ g2,g=g2+1:=⟨g - 1,by omega⟩
       have e:g1=g2:=by omega
       show _=_
       rw [e,hr1,← h9,Hl]; omega
      have hn8:Hid (W / V≤g1):=by show W / V≤g1; rw [hg1]; exact ZM hlt
      have hg0:g1 < g:=by omega
      replace hg1:=hZ hg1
      replace hr1:=hZ hr1
      replace hlt:=hZ hlt
      go_wp2_with fail
      go_quiet (fail)
      go_wp2_with fail
      go_roundg g1
      case measure=>omega
      case rel=>exact ⟨r1,rfl,rfl,hn9,hn8,by first | exact (hf6.drewN _).drewN _ | exact hf6.drewN _ | exact hf6⟩
     ·have d1:decide ((1000000000:Int)≤(g:Int))=false:=Aa (by omega)
      by_cases c2:r < 1000000000
      ·have d2:decide ((r:Int) < 1000000000)=true:=Ab (by omega)
       obtain ⟨x,hx⟩:∃ x,x=g * b2:=⟨_,rfl⟩
       obtain ⟨y,hy⟩:∃ y,y=r * 1000000000+a3:=⟨_,rfl⟩
       have hxb:g * b2≤1000000000 * 1000000000:=AD (by omega) (by omega)
       have hxe:(g:Int) * (b2:Int)=(x:Int):=by rw [hx,AM]
       have m1:IntKind.u64.wrap ((g:Int) * (b2:Int))=(x:Int):=by rw [hxe]; exact AH _ (by omega)
       have m2:IntKind.u64.wrap ((r:Int) * 1000000000)=(r:Int) * 1000000000:=AH _ (by omega)
       have m3:IntKind.u64.wrap ((r:Int) * 1000000000+(a3:Int))=(y:Int):=by rw [AH _ (by omega)]; omega
       by_cases c3:y < x
       ·have d3:decide ((y:Int) < (x:Int))=true:=Ab (by omega)
        have hdc:1000000000≤g∨r * 1000000000+a3 < g * b2:=.inr (by rw [← hx,← hy]; exact c3)
        replace hx:=hZ hx
        replace hy:=hZ hy
        replace hxe:=hZ hxe
        have hlt:=hov.out g r hgr2.out hdc
        have hgpos:0 < g:=A4 (Ck _) hlt
        obtain ⟨g1,hg1⟩:∃ g1,g1=g - 1:=⟨_,rfl⟩
        obtain ⟨r1,hr1⟩:∃ r1,r1=r+b1:=⟨_,rfl⟩
        have m9:IntKind.u64.wrap ((g:Int) - 1)=(g1:Int):=by rw [AH _ (by omega)]; omega
        have m10:IntKind.u64.wrap ((r:Int)+(b1:Int))=(r1:Int):=by rw [AH _ (by omega)]; omega
        have hn9:Hid (g1 * b1+r1=hi):=by
         have h9:=hgr2.out
         obtain ⟨g2,rfl⟩:∃ g2,g=g2+1:=⟨g - 1,by omega⟩
         have e:g1=g2:=by omega
         show _=_
         rw [e,hr1,← h9,Hl]; omega
        have hn8:Hid (W / V≤g1):=by show W / V≤g1; rw [hg1]; exact ZM hlt
        have hg0:g1 < g:=by omega
        replace hg1:=hZ hg1
        replace hr1:=hZ hr1
        replace hlt:=hZ hlt
        go_wp2_with fail
        go_quiet (fail)
        go_wp2_with fail
        go_roundg g1
        case measure=>omega
        case rel=>exact ⟨r1,rfl,rfl,hn9,hn8,by first | exact (hf6.drewN _).drewN _ | exact hf6.drewN _ | exact hf6⟩
       ·have d3:decide ((y:Int) < (x:Int))=false:=Aa (by omega)
        have hdc:1000000000≤r∨g * b2≤r * 1000000000+a3:=.inr (by rw [← hx,← hy]; omega)
        replace hx:=hZ hx
        replace hy:=hZ hy
        replace hxe:=hZ hxe
        have hst8:=hsy.out g r hgr2.out (by omega) hdc
        have hcs:=hrt.out g hle.out hst8
        have hTk:=hZ (fun W9 (hW9:Fr wo W9)=>Vy gA N capA k n gb 0 cb2 A (gd (digs V)) g W9 (hA.out.fr hW9) (hBr.out.fr hW9) (by omega) (by omega) (by omega) (fun j hj=>hdg.out _ (by omega)) (fun j _=>Tj V j) ⟨by omega,by omega⟩)
        have hgb9:g < 1000000000:=by omega
        go_wp2_with fail
        go_quiet (fail)
        obtain ⟨wp,hwp⟩:∃ wp,wp=wr.drewN nq:=⟨_,rfl⟩
        rw [← hwp]
        have hfp:Fr wo wp:=by rw [hwp]; exact hf6.drewN _
        clear hwp
        have hT1:=hZ (hTk.out wp hfp)
        go_wp2_with fail
        refine hT1.out.mono ?_
        rintro e w8 ⟨rfl,hfx8,hA8⟩
        have hfx8w:=(Fx.of_fr (p:=(·=gA)) hfp).trans hfx8
        rcases hcs with ⟨hcL,hq⟩ | ⟨hcR,hq⟩
        ·obtain ⟨hbz,hD9⟩:=hD.out.tk0 hkN hVn.out hV0 hW.out hgb9 hcL hq
         rw [hbz]
         replace hD9:=hZ hD9
         replace hA8:=hZ hA8
         have hq9:g=(1000000000 * (U / 1000000000 ^ (k+1) % V)+U / 1000000000 ^ k % 1000000000) / V:=by rw [← hW.out]; exact hq
         replace hcL:=hZ hcL
         replace hq:=hZ hq
         replace hq9:=hZ hq9
         clear hst8 hT1 hTk hbz
         have hown9:=hZ (BW hown.out hfx8w (fun q hq e=>by have hq:some B=some q:=hq; injection hq with hq; omega))
         have hol:=hI.out.len
         have mc:(w8).cell? ⟨B,k,none⟩=some (.int .u64 (gd out k)):=by
          rw [hown9.out.cellAt k (by omega),At,Jb (by omega)]; rfl
         have mf:=hown9.out.frozenAt k
         have zk1:(k:Int) < (K:Int):=by omega
         have zk0:(0:Int)≤(k:Int):=by omega
         have wk1:IntKind.i64.wrap ((k:Int) - 1)=(k:Int) - 1:=Ak _ (by omega)
         have hI9:=hZ (hI.out.step (q:=g) (by omega) hV0 hq9.out)
         have hst9:Hid (((w8).setCell ⟨B,k,none⟩ (.int .u64 ((g:Nat):Int))).ownsRow B 224 1 (.slice (some ⟨B,0,none⟩) K K) K ((out.set k ((g:Nat):Int)).map uv)):=by
          have h9:=(hown9.out.stored k (.int .u64 ((g:Nat):Int))).1
          show World.ownsRow _ _ _ _ _ _ _
          rw [Fk]; exact h9
         have hfz:Fx (·=B) (w8) ((w8).setCell ⟨B,k,none⟩ (.int .u64 ((g:Nat):Int))):=Fx.setCell (p:=(·=B)) (q:=⟨B,k,none⟩) (Fx.refl _ _) (.inl rfl) _
         have hAz:=hZ (Ik.fx hA8.out hfz (by omega))
         have hBz:=hZ ((hBr.out.fx hfx8w (by omega)).fx hfz (by omega))
         have hFz:Fr w ((w8).setCell ⟨B,k,none⟩ (.int .u64 ((g:Nat):Int))):=((((Fx.of_fr hf5).trans hfx8w).toFr (fun q hq e=>by have e:q=gA:=e; omega)).setCell (p:=⟨B,k,none⟩) hwB _)
         clear hol
         go_wp2_with fail
         go_roundg k
         case measure=>omega
         case rel=>exact ⟨_,_,by first | rfl | go_num,by omega,hFz,hAz,hBz,hD9,hst9,hI9⟩
        ·obtain ⟨hbz,hD9⟩:=hD.out.tk1 hkN hVn.out hV0 hW.out hgb9 hcR hq
         rw [hbz]
         replace hD9:=hZ hD9
         have hgp:0 < g:=by rw [hq]; exact Nat.succ_pos _
         obtain ⟨gq,hgq⟩:∃ gq,gq=g - 1:=⟨_,rfl⟩
         have hq9:gq=(1000000000 * (U / 1000000000 ^ (k+1) % V)+U / 1000000000 ^ k % 1000000000) / V:=by rw [← hW.out,hgq,hq]; rfl
         have m9:IntKind.u64.wrap ((g:Int) - 1)=(gq:Int):=by rw [AH _ (by omega)]; omega
         have hd8:=hZ (Np hD.out hkN hgb9)
         have hBk:=hZ (R5 gA N capA k n gb 0 cb2 (IK A (gd (digs V)) g n k (n+1)) (gd (digs V)) w8 hA8 (hBr.out.fx hfx8w (by omega)) (by omega) (by omega) (by omega) (fun j hj=>hd8.out _ (by omega)) (fun j _=>Tj V j))
         replace hcR:=hZ hcR
         replace hq:=hZ hq
         replace hq9:=hZ hq9
         replace hgq:=hZ hgq
         clear hst8 hT1 hTk hbz hA8
         go_wp2_with fail
         refine hBk.out.mono ?_
         rintro e w7 ⟨rfl,hfx7,hA7⟩
         have hfx7w:=hfx8w.trans hfx7
         replace hA7:=hZ hA7
         have hown9:=hZ (BW hown.out hfx7w (fun q hq e=>by have hq:some B=some q:=hq; injection hq with hq; omega))
         have hol:=hI.out.len
         have mc:(w7).cell? ⟨B,k,none⟩=some (.int .u64 (gd out k)):=by
          rw [hown9.out.cellAt k (by omega),At,Jb (by omega)]; rfl
         have mf:=hown9.out.frozenAt k
         have zk1:(k:Int) < (K:Int):=by omega
         have zk0:(0:Int)≤(k:Int):=by omega
         have wk1:IntKind.i64.wrap ((k:Int) - 1)=(k:Int) - 1:=Ak _ (by omega)
         have hI9:=hZ (hI.out.step (q:=gq) (by omega) hV0 hq9.out)
         have hst9:Hid (((w7).setCell ⟨B,k,none⟩ (.int .u64 ((gq:Nat):Int))).ownsRow B 224 1 (.slice (some ⟨B,0,none⟩) K K) K ((out.set k ((gq:Nat):Int)).map uv)):=by
          have h9:=(hown9.out.stored k (.int .u64 ((gq:Nat):Int))).1
          show World.ownsRow _ _ _ _ _ _ _
          rw [Fk]; exact h9
         have hfz:Fx (·=B) (w7) ((w7).setCell ⟨B,k,none⟩ (.int .u64 ((gq:Nat):Int))):=Fx.setCell (p:=(·=B)) (q:=⟨B,k,none⟩) (Fx.refl _ _) (.inl rfl) _
         have hAz:=hZ (Ik.fx hA7.out hfz (by omega))
         have hBz:=hZ ((hBr.out.fx hfx7w (by omega)).fx hfz (by omega))
         have hFz:Fr w ((w7).setCell ⟨B,k,none⟩ (.int .u64 ((gq:Nat):Int))):=((((Fx.of_fr hf5).trans hfx7w).toFr (fun q hq e=>by have e:q=gA:=e; omega)).setCell (p:=⟨B,k,none⟩) hwB _)
         clear hol
         go_wp2_with fail
         go_roundg k
         case measure=>omega
         case rel=>exact ⟨_,_,by first | rfl | go_num,by omega,hFz,hAz,hBz,hD9,hst9,hI9⟩
      ·have d2:decide ((r:Int) < 1000000000)=false:=Aa (by omega)
       have hdc:1000000000≤r∨g * b2≤r * 1000000000+a3:=.inl (by omega)
       have hst8:=hsy.out g r hgr2.out (by omega) hdc
       have hcs:=hrt.out g hle.out hst8
       have hTk:=hZ (fun W9 (hW9:Fr wo W9)=>Vy gA N capA k n gb 0 cb2 A (gd (digs V)) g W9 (hA.out.fr hW9) (hBr.out.fr hW9) (by omega) (by omega) (by omega) (fun j hj=>hdg.out _ (by omega)) (fun j _=>Tj V j) ⟨by omega,by omega⟩)
       have hgb9:g < 1000000000:=by omega
       go_wp2_with fail
       go_quiet (fail)
       obtain ⟨wp,hwp⟩:∃ wp,wp=wr.drewN nq:=⟨_,rfl⟩
       rw [← hwp]
       have hfp:Fr wo wp:=by rw [hwp]; exact hf6.drewN _
       clear hwp
       have hT1:=hZ (hTk.out wp hfp)
       go_wp2_with fail
       refine hT1.out.mono ?_
       rintro e w8 ⟨rfl,hfx8,hA8⟩
       have hfx8w:=(Fx.of_fr (p:=(·=gA)) hfp).trans hfx8
       rcases hcs with ⟨hcL,hq⟩ | ⟨hcR,hq⟩
       ·obtain ⟨hbz,hD9⟩:=hD.out.tk0 hkN hVn.out hV0 hW.out hgb9 hcL hq
        rw [hbz]
        replace hD9:=hZ hD9
        replace hA8:=hZ hA8
        have hq9:g=(1000000000 * (U / 1000000000 ^ (k+1) % V)+U / 1000000000 ^ k % 1000000000) / V:=by rw [← hW.out]; exact hq
        replace hcL:=hZ hcL
        replace hq:=hZ hq
        replace hq9:=hZ hq9
        clear hst8 hT1 hTk hbz
        have hown9:=hZ (BW hown.out hfx8w (fun q hq e=>by have hq:some B=some q:=hq; injection hq with hq; omega))
        have hol:=hI.out.len
        have mc:(w8).cell? ⟨B,k,none⟩=some (.int .u64 (gd out k)):=by
         rw [hown9.out.cellAt k (by omega),At,Jb (by omega)]; rfl
        have mf:=hown9.out.frozenAt k
        have zk1:(k:Int) < (K:Int):=by omega
        have zk0:(0:Int)≤(k:Int):=by omega
        have wk1:IntKind.i64.wrap ((k:Int) - 1)=(k:Int) - 1:=Ak _ (by omega)
        have hI9:=hZ (hI.out.step (q:=g) (by omega) hV0 hq9.out)
        have hst9:Hid (((w8).setCell ⟨B,k,none⟩ (.int .u64 ((g:Nat):Int))).ownsRow B 224 1 (.slice (some ⟨B,0,none⟩) K K) K ((out.set k ((g:Nat):Int)).map uv)):=by
         have h9:=(hown9.out.stored k (.int .u64 ((g:Nat):Int))).1
         show World.ownsRow _ _ _ _ _ _ _
         rw [Fk]; exact h9
        have hfz:Fx (·=B) (w8) ((w8).setCell ⟨B,k,none⟩ (.int .u64 ((g:Nat):Int))):=Fx.setCell (p:=(·=B)) (q:=⟨B,k,none⟩) (Fx.refl _ _) (.inl rfl) _
        have hAz:=hZ (Ik.fx hA8.out hfz (by omega))
        have hBz:=hZ ((hBr.out.fx hfx8w (by omega)).fx hfz (by omega))
        have hFz:Fr w ((w8).setCell ⟨B,k,none⟩ (.int .u64 ((g:Nat):Int))):=((((Fx.of_fr hf5).trans hfx8w).toFr (fun q hq e=>by have e:q=gA:=e; omega)).setCell (p:=⟨B,k,none⟩) hwB _)
        clear hol
        go_wp2_with fail
        go_roundg k
        case measure=>omega
        case rel=>exact ⟨_,_,by first | rfl | go_num,by omega,hFz,hAz,hBz,hD9,hst9,hI9⟩
       ·obtain ⟨hbz,hD9⟩:=hD.out.tk1 hkN hVn.out hV0 hW.out hgb9 hcR hq
        rw [hbz]
        replace hD9:=hZ hD9
        have hgp:0 < g:=by rw [hq]; exact Nat.succ_pos _
        obtain ⟨gq,hgq⟩:∃ gq,gq=g - 1:=⟨_,rfl⟩
        have hq9:gq=(1000000000 * (U / 1000000000 ^ (k+1) % V)+U / 1000000000 ^ k % 1000000000) / V:=by rw [← hW.out,hgq,hq]; rfl
        have m9:IntKind.u64.wrap ((g:Int) - 1)=(gq:Int):=by rw [AH _ (by omega)]; omega
        have hd8:=hZ (Np hD.out hkN hgb9)
        have hBk:=hZ (R5 gA N capA k n gb 0 cb2 (IK A (gd (digs V)) g n k (n+1)) (gd (digs V)) w8 hA8 (hBr.out.fx hfx8w (by omega)) (by omega) (by omega) (by omega) (fun j hj=>hd8.out _ (by omega)) (fun j _=>Tj V j))
        replace hcR:=hZ hcR
        replace hq:=hZ hq
        replace hq9:=hZ hq9
        replace hgq:=hZ hgq
        clear hst8 hT1 hTk hbz hA8
        go_wp2_with fail
        refine hBk.out.mono ?_
        rintro e w7 ⟨rfl,hfx7,hA7⟩
        have hfx7w:=hfx8w.trans hfx7
        replace hA7:=hZ hA7
        have hown9:=hZ (BW hown.out hfx7w (fun q hq e=>by have hq:some B=some q:=hq; injection hq with hq; omega))
        have hol:=hI.out.len
        have mc:(w7).cell? ⟨B,k,none⟩=some (.int .u64 (gd out k)):=by
         rw [hown9.out.cellAt k (by omega),At,Jb (by omega)]; rfl
        have mf:=hown9.out.frozenAt k
        have zk1:(k:Int) < (K:Int):=by omega
        have zk0:(0:Int)≤(k:Int):=by omega
        have wk1:IntKind.i64.wrap ((k:Int) - 1)=(k:Int) - 1:=Ak _ (by omega)
        have hI9:=hZ (hI.out.step (q:=gq) (by omega) hV0 hq9.out)
        have hst9:Hid (((w7).setCell ⟨B,k,none⟩ (.int .u64 ((gq:Nat):Int))).ownsRow B 224 1 (.slice (some ⟨B,0,none⟩) K K) K ((out.set k ((gq:Nat):Int)).map uv)):=by
         have h9:=(hown9.out.stored k (.int .u64 ((gq:Nat):Int))).1
         show World.ownsRow _ _ _ _ _ _ _
         rw [Fk]; exact h9
        have hfz:Fx (·=B) (w7) ((w7).setCell ⟨B,k,none⟩ (.int .u64 ((gq:Nat):Int))):=Fx.setCell (p:=(·=B)) (q:=⟨B,k,none⟩) (Fx.refl _ _) (.inl rfl) _
        have hAz:=hZ (Ik.fx hA7.out hfz (by omega))
        have hBz:=hZ ((hBr.out.fx hfx7w (by omega)).fx hfz (by omega))
        have hFz:Fr w ((w7).setCell ⟨B,k,none⟩ (.int .u64 ((gq:Nat):Int))):=((((Fx.of_fr hf5).trans hfx7w).toFr (fun q hq e=>by have e:q=gA:=e; omega)).setCell (p:=⟨B,k,none⟩) hwB _)
        clear hol
        go_wp2_with fail
        go_roundg k
        case measure=>omega
        case rel=>exact ⟨_,_,by first | rfl | go_num,by omega,hFz,hAz,hBz,hD9,hst9,hI9⟩
theorem Eb (z:Value) (h:z.cells=#[z]) (k:Nat):(Builtin.zeroCells z.cells k).toList=List.replicate k z:=by
 rw [h]
 refine DI fun i=>?_
 by_cases hi:i < k
 ·simp [Builtin.zeroCells,hi,Nat.mod_one]
 ·simp [Builtin.zeroCells,hi]
theorem Ga {P:Program} (w:World) (base:Nat) (t tn ty e:TypeId) (i:TypeInfo) (z:Value) (bytes:Nat) (kq kn:IntKind) (ht:P.underlying t=some (.slice e)) (htn:P.underlying tn=some (.int kn)) (hi:P.info? e=some i) (hz:i.zero=some z) (hsize:i.size=1) (hby:i.bytes=bytes) (hzc:z.cells=#[z]) (hz1:z.oneCell'=true)
 (g n cap k:Nat) (xs:List Value) (hown:w.ownsRow base e 1 (.slice (some ⟨g,0,none⟩) n cap) n xs) (h63:n+k≤maxLen) (hbytes:(n+k) * bytes≤140737488355328) (hbase:base≤w.heap.size) :
 ∃ g' cap' w',(Builtin.append_ #[t,tn] ty #[.slice (some ⟨g,0,none⟩) n cap,.int kq k]).run P w=.ok (.slice (some ⟨g',0,none⟩) (n+k) cap') w'∧w'.ownsRow base e 1 (.slice (some ⟨g',0,none⟩) (n+k) cap') (n+k) (xs ++ List.replicate k z)∧w.grownBy w' (some g)∧(g'=g∨w.heap.size≤g'):=by
 have hsmall:n+k≤9223372036854775807:=by simp only [maxLen] at h63; omega
 have hxl:xs.length=n:=by have:=hown.1; omega
 have hlen:(xs ++ List.replicate k z).length=(n+k) * 1:=by rw [Ar,AO,hxl,FV]
 have hself:w.grownBy w (some g):=⟨rfl,rfl,rfl,Ah _,fun _ _ _=>rfl⟩
 have hw:IntKind.i64.wrap (k:Int)=k:=by rw [IntKind.wrap_i64]; omega
 have hneg:¬ ((k:Int) < 0):=by omega
 have h48i:¬ (281474976710656 < (k:Int) * (i.bytes:Int)):=by
  rw [← AM,hby]
  have:k * bytes≤(n+k) * bytes:=AU _ (by omega)
  omega
 rcases hown.2 with ⟨e0,_⟩ | ⟨g',cap',cur,hv,hbg,hg,hnc,hcm,hcs,htake⟩
 ·cases e0
 ·injection hv with e1 e2 e3
  injection e1 with e1
  injection e1 with e1
  subst e1; subst e3
  by_cases hroom:n+k≤cap
  ·by_cases hk0:k=0
   ·subst hk0
    refine ⟨g,cap,w, ?_,by simpa using hown,hself,.inl rfl⟩
    have hw0:IntKind.i64.wrap 0=0:=by decide
    simp [Builtin.append_,run_underlying ht,run_underlying htn,sizeOf,typeInfo,hi,asInt,asIntOf,hnc,storeCells,hw0]
   ·have hfit:n+k≤cur.size:=by omega
    have hns:¬ (k * i.size=0):=by rw [hsize]; omega
    have hst:=run_storeCells_at P g n e (Builtin.zeroCells z.cells k).toList 0 cur w hg (by rw [Eb z hzc,AO]; omega) (fun v hv=>by rw [Eb z hzc] at hv; rw [B7 hv]; exact hz1)
    rw [DG,Eb z hzc,AO] at hst
    have hadd:(⟨g,0,none⟩:Addr).add (n * i.size)=⟨g,n,none⟩:=by rw [hsize,FV]; unfold Addr.add; split <;> simp_all
    have hzl:=Eb z hzc k
    refine ⟨g,cap,w.setRow g (cur.toList.take n ++ List.replicate k z ++ cur.toList.drop (n+k)).toArray, ?_,⟨hlen,.inr ⟨g,cap,_,rfl,hbg,setRow_heap w g cur _ e _ hg,hroom,hcm, ?_, ?_⟩⟩,⟨rfl,rfl,rfl,by simp,fun q _ hq=>setRow_other w g q _ (fun e=>hq (by simp [e]))⟩,.inl rfl⟩
    ·simp [Builtin.append_,run_underlying ht,run_underlying htn,sizeOf,typeInfo,zeroValue,hi,hz,asInt,asIntOf,hw,hneg,hns,h48i,hroom,hadd,hzl,hst]
    ·simp only [BL,Ar,Av,CJ,AO,De]
     omega
    ·have h1:cur.toList.take n=xs:=by rw [← htake,FV]
     rw [h1,← hlen]
     exact Yc
  ·have holds:∀ j u,xs[j]?=some u→w.cell? ((⟨g,0,none⟩:Addr).add j)=some u:=hown.cells (g:=g) rfl
   have hf:=run_firstCells_some (P:=P) w.drew i.size n ⟨g,0,none⟩ n cap xs (by rw [hsize]; omega) (fun j u hu=>by have:=holds j u hu; simpa using this)
   have hge:=grownCap_ge w (n+k) cap e
   have hcm2:grownCap w (n+k) cap e≤maxLen:=grownCap_le_maxLen w (n+k) cap e h63
   have hr:=run_append_grow_zeros (P:=P) w t tn ty e i z kq kn ht htn hi hz (some ⟨g,0,none⟩) n cap xs hf k (by omega) (by omega) (by omega) (by omega) (by
    have:k * i.bytes≤(n+k) * bytes:=by rw [hby]; exact AU _ (by omega)
    omega) (growslice_fits (by omega) (by rw [hby]; exact hbytes))
   refine ⟨w.heap.size,_,_,hr,⟨hlen,.inr ⟨w.heap.size,_,_,rfl,hbase,CB w.drew _,hge,hcm2, ?_, ?_⟩⟩,⟨rfl,rfl,rfl,by simp,fun q hq _=>heap_alloc_old w.drew _ hq⟩,.inr (Ah _)⟩
   ·simp only [Array.size_append,BL,size_zeroCells,hxl,hzc]
    simp; omega
   ·simp only [PV,Bd]
    rw [← Bd,Eb z hzc,← hlen]
    exact Yc
end Go.Proofs.YtiniigadkknboaaGreatDoor
