/- Contracts and laws: VM. -/
import Derived.Test.YtcglmebcfeoedaaGreatDoorVI
import Derived.Test.YtcglmebcfeoedaaGreatDoorVC
import Derived.Test.YtcglmebcfeoedaaGreatDoorVL

set_option maxRecDepth 100000
set_option maxHeartbeats 8000000
namespace Go.Proofs.YtcglmebcfeoedaaGreatDoor
open Go.RowKit Go.Lib
attribute [local go_sem ↓] AA AB
def Dd (names:List ByteArray) (s g0 g1:Int):List (ByteArray×List Int):=names.mapIdx fun i nm=>(nm,Bw (s+i) g0 g1)
theorem Gc {names:List ByteArray} {s g0 g1:Int} {i:Nat} {nm:ByteArray} (h:names[i]?=some nm):(Dd names s g0 g1)[i]?=some (nm,Bw (s+i) g0 g1):=by
 unfold Dd; rw [HQ,h]; rfl
theorem EC (names:List ByteArray) (s g0 g1:Int):(Dd names s g0 g1).length=names.length:=QT
structure Dv (w:World) (cb:Nat) (v0 v1 v2 v3 v4 v5:Value):Prop where
 c0:w.cell? ⟨cb,0,none⟩=some v0
 c1:w.cell? ⟨cb,1,none⟩=some v1
 c2:w.cell? ⟨cb,2,none⟩=some v2
 c3:w.cell? ⟨cb,3,none⟩=some v3
 c4:w.cell? ⟨cb,4,none⟩=some v4
 c5:w.cell? ⟨cb,5,none⟩=some v5
theorem Dv.fr {w w':World} {cb:Nat} {v0 v1 v2 v3 v4 v5:Value} (h:Dv w cb v0 v1 v2 v3 v4 v5) (k:Fr w w'):Dv w' cb v0 v1 v2 v3 v4 v5 :=
 ⟨k.keep h.c0,k.keep h.c1,k.keep h.c2,k.keep h.c3,k.keep h.c4,k.keep h.c5⟩
theorem Dv.new (w:World) (v0 v1 v2 v3 v4 v5:Value) (t:TypeId):Dv (w.alloc (.cells #[v0,v1,v2,v3,v4,v5] t)) w.heap.size v0 v1 v2 v3 v4 v5:=by
 have hb:(w.alloc (.cells #[v0,v1,v2,v3,v4,v5] t)).heap[w.heap.size]?=some (.cells #[v0,v1,v2,v3,v4,v5] t (0,0)):=CG w _
 exact ⟨Bt hb 0,Bt hb 1,Bt hb 2,Bt hb 3,Bt hb 4,Bt hb 5⟩
theorem Ds.lit2 {w:World} {base:Nat} {x y:Sy} {g k:Nat} (hb:base≤w.heap.size) (he:x.ra=some ⟨g,0,none⟩) (hg:base≤g) (hl:g < w.heap.size) (hel:El w iv x.ra x.row)
 (he2:y.ra=some ⟨k,0,none⟩) (hg2:base≤k) (hl2:k < w.heap.size) (hel2:El w iv y.ra y.row) :
 Ds (w.alloc (.cells #[x.enc.1,x.enc.2,y.enc.1,y.enc.2] 46)) base (.slice (some ⟨w.heap.size,0,none⟩) 2 2) 2 [x,y] :=
 ⟨rfl,EV w #[x.enc.1,x.enc.2,y.enc.1,y.enc.2] 2 hb (by decide) rfl,fun z hz=>by
  have key:∀ (j:Nat),j < w.heap.size→(Value.slice (some ⟨w.heap.size,0,none⟩) 2 2).ownBlock≠some j:=fun j hj e=>by
   have e:some w.heap.size=some j:=e
   injection e with e
   omega
  rcases A1.1 hz with rfl | hz
  ·exact ⟨g,he,hg,by rw [AK]; omega,key g hl,hel.fr ((Fr.refl _).alloc _)⟩
  ·rw [Bo] at hz
   subst hz
   exact ⟨k,he2,hg2,by rw [AK]; omega,key k hl2,hel2.fr ((Fr.refl _).alloc _)⟩⟩
theorem QP (b o c:Nat) (xs:List Int) (n:Nat) (w:World) (hn:xs.length=n) (hl:n≤1000000) (hc:∀ (j:Nat) (x:Int),xs[j]?=some x→w.cell? ⟨b,o+j,none⟩=some (iv x)) :
 Calls Tryz.prog 61 #[.slice (some ⟨b,o,none⟩) n c] w (fun e w'=>∃ g cp,e=.returned (.slice (some ⟨g,0,none⟩) n cp)∧w.heap.size≤g∧g < w'.heap.size∧El w' iv (some ⟨g,0,none⟩) xs∧Fr w w'):=by
 subst hn
 refine (KD b o c xs w hl hc).mono ?_
 rintro e w' ⟨g,cp,rfl,hf,hown⟩
 obtain ⟨-,h1,h2,-,-⟩:=Bf hown
 exact ⟨g,cp,rfl,h1,h2,Ga hown,hf⟩
theorem PM (names:List ByteArray) (a:Option Addr) (c r:Nat) (s g0 g1 e0 e1:Int) (gb go gc eb eo ec:Nat) (sh oct:ByteArray) (w:World) (hG:G w) (hx:El w X6 a names) (hl:names.length≤1000000) (hs:∀ s,s ∈ names→s.size≤1000000000) (hsh:sh.size≤1000000000) (ho:oct.size≤1000000000)
 (hs1:-1000≤s) (hs2:s≤1000) (hg:El w iv (some ⟨gb,go,none⟩) [g0,g1]) (he:El w iv (some ⟨eb,eo,none⟩) [e0,e1]) (hgl:CR [g0,g1]=0) (hel:CR [e0,e1]=0)
 (hF:Cx (Bw names.length g0 g1)=0→∃ F,Cg ([Bw names.length g0 g1,[e0,e1]].map CM) 2=some F∧F.lead.length=r) :
 Calls Tryz.prog 19 #[.agg #[.slice a names.length c,.int .i64 s,.slice (some ⟨gb,go,none⟩) 2 gc,.slice (some ⟨eb,eo,none⟩) 2 ec,.string sh,.string oct]] w
  (WV w (Dd names s g0 g1) [(sh,Bw names.length g0 g1),(oct,[e0,e1])] r):=by
 have hgn:=CS hG
 obtain ⟨i1,ji,jz0,jz1,jz2⟩:=AQ JK
 obtain ⟨n,hn⟩:∃ n,n=names.length:=⟨_,rfl⟩
 rw [← hn] at hl hF ⊢
 have hfg:Bi g0=true∧Bi g1=true:=by
  have h9:Cx [g0,g1]=0:=by
   unfold CR at hgl
   by_cases h:Cx [g0,g1]=0
   ·exact h
   ·rw [Aj h] at hgl; exact absurd hgl h
  have:=(FU h9).2
  exact ⟨this g0 (by simp),this g1 (by simp)⟩
 have hlg:=hZ (fun W (hW:Fr w W)=>Fu [g0,g1] (some ⟨gb,go,none⟩) gc W (hg.fr hW) (by simp))
 have hle:=hZ (fun W (hW:Fr w W)=>Fu [e0,e1] (some ⟨eb,eo,none⟩) ec W (he.fr hW) (by simp))
 rw [hgl] at hlg
 rw [hel] at hle
 have hcl:=hZ (fun W (hW:Fr w W)=>QP eb eo ec [e0,e1] 2 W rfl (by omega) (fun j x hx=>by
  rcases he with h | ⟨b,o,h1,-,h2⟩
  ·cases h
  ·injection h1 with h1; injection h1 with h3 h4; subst h3; subst h4; exact hW.keep (h2 j x hx)))
 have hGf:=hZ (fun W (hW:Fr w W)=>hG.fr hW)
 have k0:w.cell? ⟨gb,go,none⟩=some (.int .i64 g0):=by
  rcases hg with h | ⟨b,o,h1,-,h2⟩
  ·cases h
  ·injection h1 with h1; injection h1 with h3 h4; subst h3; subst h4; exact h2 0 g0 rfl
 have k1:w.cell? ⟨gb,go+1,none⟩=some (.int .i64 g1):=by
  rcases hg with h | ⟨b,o,h1,-,h2⟩
  ·cases h
  ·injection h1 with h1; injection h1 with h3 h4; subst h3; subst h4; exact h2 1 g1 rfl
 replace hn:=hZ hn
 replace hx:=hZ hx
 replace hs:=hZ hs
 replace hF:=hZ hF
 replace he:=hZ he
 replace hfg:=hZ hfg
 clear hG hg hgl hel
 obtain ⟨cb,hcb⟩:∃ cb,cb=w.heap.size:=⟨_,rfl⟩
 obtain ⟨rb,hrb⟩:∃ rb,rb=cb+1:=⟨_,rfl⟩
 obtain ⟨w1,hw1⟩:∃ w1,w1=(w.alloc (.cells #[.slice a n c,.int .i64 s,.slice (some ⟨gb,go,none⟩) 2 gc,.slice (some ⟨eb,eo,none⟩) 2 ec,.string sh,.string oct] 57)).alloc (.cells #[.slice none 0 0,.slice none 0 0] 31):=⟨_,rfl⟩
 have hL:Dv w1 cb (.slice a n c) (.int .i64 s) (.slice (some ⟨gb,go,none⟩) 2 gc) (.slice (some ⟨eb,eo,none⟩) 2 ec) (.string sh) (.string oct):=by rw [hw1,hcb]; exact (Dv.new w _ _ _ _ _ _ _).fr ((Fr.refl _).alloc _)
 have hR:Br w1 rb (.slice none 0 0) (.slice none 0 0):=by
  rw [hw1,hrb,hcb]
  have:=Br.new (w.alloc (.cells #[.slice a n c,.int .i64 s,.slice (some ⟨gb,go,none⟩) 2 gc,.slice (some ⟨eb,eo,none⟩) 2 ec,.string sh,.string oct] 57)) (.slice none 0 0) (.slice none 0 0) 31
  rw [AK] at this
  exact this
 have hf0:Fr w w1:=by rw [hw1]; exact ((Fr.refl _).alloc _).alloc _
 have d1:decide (s < (-1000:Int))=false:=Aa (by omega)
 have d2:decide ((1000:Int) < s)=false:=Aa (by omega)
 have i0:∀ W,(Instr.index 114 (.agg #[.slice (some ⟨gb,go,none⟩) 2 gc,.slice (some ⟨eb,eo,none⟩) 2 ec]) (.int .i64 0)).run Tryz.prog W=.ok (.slice (some ⟨gb,go,none⟩) 2 gc) W:=fun _=>by kernel_rfl
 have i2:∀ W,(Instr.index 114 (.agg #[.slice (some ⟨gb,go,none⟩) 2 gc,.slice (some ⟨eb,eo,none⟩) 2 ec]) (.int .i64 1)).run Tryz.prog W=.ok (.slice (some ⟨eb,eo,none⟩) 2 ec) W:=fun _=>by kernel_rfl
 have hL9:=hZ hL
 obtain ⟨l0,l1,l2,l3,l4,l5⟩:=hL
 go_enter Tryz.func19,Tryz.ntmps19
 go_upto_region 1 with (fail)
 rw [← hw1,← hcb,← hrb]
 clear hw1
 replace hcb:=hZ hcb
 replace hrb:=hZ hrb
 replace hR:=hZ hR
 go_wp2_with fail
 refine DE 3 ?_
 rw [Bh]
 go_wp2_with fail
 refine (hlg.out _ hf0).mono ?_
 rintro e w2 ⟨rfl,hf2⟩
 go_wp2_with fail
 rw [Bh]
 go_wp2_with fail
 refine (hle.out _ (hf0.trans hf2)).mono ?_
 rintro e w3 ⟨rfl,hf3⟩
 go_wp2_with fail
 rw [Bh]
 clear l0 l1 l2 l3 l4 l5
 go_upto_region 12 with (fail)
 obtain ⟨nb,hnb⟩:∃ nb,nb=w3.heap.size:=⟨_,rfl⟩
 obtain ⟨w4,hw4⟩:∃ w4,w4=w3.alloc (.cells #[.slice none 0 0,.slice none 0 0] 31):=⟨_,rfl⟩
 have f4:Fr w3 w4:=by rw [hw4]; exact (Fr.refl _).alloc _
 have hN4:Br w4 nb (.slice none 0 0) (.slice none 0 0):=by rw [hw4,hnb]; exact Br.new _ _ _ _
 have hf14:Fr w1 w4:=(hf2.trans hf3).trans f4
 have hL4:=hZ (hL9.out.fr hf14)
 have hR4:=hZ (hR.out.fr hf14)
 have hf4:=hf0.trans hf14
 have hz4:w4.heap.size=nb+1:=by rw [hw4,hnb]; simp
 have hz4':rb < nb:=by have:=hR.out.lt; have:=(hf2.trans hf3).size; omega
 have hw1n:w1.heap.size≤nb:=by rw [hnb]; exact (hf2.trans hf3).size
 rw [← hw4,← hnb]
 clear hw4 hnb hL9 hR i0 i2
 obtain ⟨l0,l1,l2,l3,l4,l5⟩:=hL4.out
 replace hN4:=hZ hN4
 replace hz4:=hZ hz4
 have hwn:w.heap.size≤nb:=AE hf0.size hw1n
 have hFW:Hid (∀ W,Fx (·=nb) w4 W→Fr w1 W):=fun W h=>((Fx.of_fr hf14).trans h).toFr (fun k hk e=>by have e:k=nb:=e; omega)
 go_wp2_with fail
 go_loopg [40] n (fun k s40 wr=>∃ (i:Nat) (L:List Sy) (v:Value),s40=.int .i64 i∧i+k=n∧Fx (·=nb) w4 wr∧Hid (Br wr nb v (.slice none 0 0))∧Hid (Ds wr (nb+1) v i L)∧Hid (Cd L=(Dd names s g0 g1).take i))
 case atStart=>exact ⟨0,[],_,rfl,by omega,Fx.refl _ _,hN4.out,Ds.nil _ _,rfl⟩
 case round=>
  clear hN4 l0 l1 l2 l3 l4 l5
  obtain ⟨i,L,v,rfl,hik,hfx,hcn,hsy,hba⟩:=hrel
  have hFr1:=hFW.out wr hfx
  have hFr:=hf0.trans hFr1
  have hL5:=hZ (fun W (hW:Fr w4 W)=>hL4.out.fr hW)
  by_cases hi:i < n
  ·have hdI:decide (i < n)=true:=Ac hi
   obtain ⟨b,o,nm,rfl,hbl,hxi,hcell⟩:=(hx.out.fr hFr).at (i:=i) (by rw [← hn.out]; exact hi)
   have hsn:=hZ (Bx (Gc (s:=s) (g0:=g0) (g1:=g1) hxi))
   replace hxi:=hZ hxi
   have z0:(0:Int)≤(i:Int):=Af _
   have z1:(i:Int) < (n:Int):=by omega
   have hcbn:cb≠nb:=by have:=hrb.out; omega
   have m1:=hfx.keep hL4.out.c1 hcbn
   have m2:=hfx.keep hL4.out.c2 hcbn
   have n0:=hFr.keep k0
   have n1:=hFr.keep k1
   have nv:=hcn.out.a
   have nf:=hcn.out.fa
   obtain ⟨wo,rfl⟩:∃ wo:World,wo=wr:=⟨_,rfl⟩
   obtain ⟨ko,rfl⟩:∃ ko:Nat,ko=gk:=⟨_,rfl⟩
   have htm:=hZ (fun W (hW:Fr wo W)=>ND (s+i) g0 g1 cb gb go gc W (hW.keep m2) (hW.keep n0) (hW.keep n1) hfg.out.1 hfg.out.2)
   have hwr:IntKind.i64.wrap (s+(i:Int))=s+i:=Al _ (by omega)
   have hS0:=hZ (fun W' (hW':Fr wo W')=>(⟨hW'.keep nv,hW'.keep m1⟩:W'.cell? ⟨nb,0,none⟩=some v∧W'.cell? ⟨cb,1,none⟩=some (.int .i64 s)))
   have hsz:nb+1≤wo.heap.size:=hcn.out.lt
   have hvb:∀ k,v.ownBlock=some k→nb+1≤k∧k < wo.heap.size:=hsy.out.own.lt
   replace hvb:=hZ hvb
   clear hFr1 m2 n0 n1
   go_wp2_with fail
   refine BP (S:=fun W'=>W'.cell? ⟨nb,0,none⟩=some v∧W'.cell? ⟨cb,1,none⟩=some (.int .i64 s)) 13 (by kernel_rfl) (hS0.out _ ((Fr.refl _).drew)) (fun hHeld=>?_)
   refine uK 0 ?_
   refine uK 1 ?_
   refine uK 2 ?_
   refine uK 3 ?_
   refine uK 4 ?_
   refine uK 5 ?_
   refine uK 6 ?_
   refine uK 7 ?_
   refine uC 8 (fun K hK=>?_)
   go_simp
   (refine (htm.out _ (by exact BR)).mono ?_; rintro e w6 ⟨g,rfl,hg1,hg2,hel6,hf6⟩)
   go_wp2_with fail
   refine hK.out _ _ (hS0.out _ (by exact BR)) (fun hHeld=>?_)
   clear hK K
   refine uK 9 ?_
   refine uC 10 (fun K hK=>?_)
   go_simp
   refine hK.out _ _ (hS0.out _ (by exact BR)) (fun hHeld=>?_)
   clear hK K
   have hf6w:Fr wo w6:=by exact BR
   have hf7:Fr wo (w6.alloc (.cells #[.string nm,.slice (some ⟨g,0,none⟩) 2 2] 46)):=hf6w.alloc _
   have hsy7:=hsy.out.fr hf7
   have hown7:=hsy7.own
   have hcs:=FW w6 (.string nm) (.slice (some ⟨g,0,none⟩) 2 2) 46 w6.heap.size rfl
   have hz6:=hf6w.size
   rw [It] at hg1
   have hSA:∀ wA,(w6.alloc (.cells #[.string nm,.slice (some ⟨g,0,none⟩) 2 2] 46)).grownBy wA v.ownBlock→(wA.cell? ⟨nb,0,none⟩=some v∧wA.cell? ⟨cb,1,none⟩=some (.int .i64 s))∧wA.frozen? ⟨nb,0,none⟩=false:=fun wA hgr=>
    ⟨⟨(Fx.of_grown hgr).keep (q:=⟨nb,0,none⟩) (hf7.keep nv) (fun e=>by have e1:nb+1≤nb:=(hvb.out nb e).1; omega),(Fx.of_grown hgr).keep (q:=⟨cb,1,none⟩) (hf7.keep m1) (fun e=>by have e1:nb+1≤cb:=(hvb.out cb e).1; have:=hrb.out; omega)⟩,
      (Fx.of_grown hgr).keepf (q:=⟨nb,0,none⟩) (hf7.keep nv) (hf7.keepf nv nf) (fun e=>by have e1:nb+1≤nb:=(hvb.out nb e).1; omega)⟩
   replace hSA:=hZ hSA
   replace hsy7:=hZ hsy7
   replace hcs:=hZ hcs
   refine uC 11 (fun K hK=>?_)
   (refine En _ rfl (.tmp 46) (.tmp 55) 29 rfl (nb+1) 46 i1 _ 2 40 Tryz.underlying29 ji jz0 jz1 jz2 rfl (by decide) v i (Ch (L.map Sy.enc)) (by simp [Act.eval]) hown7 ⟨w6.heap.size,0,none⟩ 1 1 [.string nm,.slice (some ⟨g,0,none⟩) 2 2] (by simp [Act.eval]) rfl hcs.out (by simp [Value.oneCell']) (by decide) (by unfold maxLen; omega) (by omega) (by simp; omega) (w6.heap.size+1) (by simp) ?_; intro gA capA wA hownA hgrowA hatA hltA)
   refine hK.out _ _ ((hSA.out wA hgrowA).1) (fun hHeld=>?_)
   clear hK K
   have hSA2:=hSA.out wA hgrowA
   obtain ⟨⟨p1,p2⟩,p3⟩:=hSA2
   replace hownA:=hZ hownA
   refine uK 12 ?_
   clear hHeld
   refine uL 13 (fun K hK=>?_)
   go_simp
   refine hK.out _ _ ?_
   clear hK K
   have hpush:=hsy7.out.push (x:=⟨nm,Bw (s+i) g0 g1,some ⟨g,0,none⟩,2⟩) rfl (by omega) (by rw [AK]; omega) (fun e=>by have e1:g < wo.heap.size:=(hvb.out g e).2; omega) (hel6.fr ((Fr.refl _).alloc _)) hownA.out hgrowA (hatA.imp id (fun e k hk=>by have hk:some gA=some k:=hk; injection hk with hk; rw [← hk,e]; simp))
   have hfx9:Fx (·=nb) wA (wA.setCell ⟨nb,0,none⟩ (.slice (some ⟨gA,0,none⟩) (i+1) capA)):=Fx.setCell (p:=(·=nb)) (q:=⟨nb,0,none⟩) (Fx.refl _ wA) (.inl rfl) _
   have hpush2:=hpush.fx hfx9 (fun j hj e=>by have e:j=nb:=e; omega)
   have hcn7:Br wA nb v (.slice none 0 0):=(hcn.out.fr hf7).fx (Fx.of_grown hgrowA) (fun e=>by have e1:nb+1≤nb:=(hvb.out nb e).1; omega)
   have hcn9:=hcn7.set0 (.slice (some ⟨gA,0,none⟩) (i+1) capA)
   have hfxA:Fx (·=nb) w4 wA:=by
    have h1:=(hfx.fr hf7)
    have h2:=Fx.of_grown hgrowA
    exact ⟨h2.os.trans h1.os,h2.tape.trans h1.tape,h2.output.trans h1.output,AE h1.size h2.size,fun q hq1 hq2=>by
     have h3:=h1.size
     have h4:=hz4.out
     rw [h2.block q (An hq1 h3) (fun e=>by have e1:=(hvb.out q e).1; omega)]
     exact h1.block q hq1 hq2⟩
   go_wp2_with fail
   go_roundg (ko - 1)
   case measure=>omega
   case rel=>exact ⟨i+1,_,_,by go_num,by omega,hfxA.trans hfx9,hcn9,hpush2,by show Cd _=_; rw [hsn.out,← hba.out]; unfold Cd; rw [Aw]; rfl⟩
  ·have hdI:decide (i < n)=false:=Aa hi
   obtain rfl:n=i:=by omega
   have hba9:Hid (Cd L=Dd names s g0 g1):=by
    have:=hba.out
    rw [Ak (by rw [EC,← hn.out]; exact Ag _)] at this
    exact this
   have hLn:=hZ (show n=L.length from hsy.out.len)
   obtain ⟨aN,cN,rfl,-,-⟩:=hsy.out.syms
   have hmem:∀ x,x ∈ L→x.nm.size≤1000000000∧x.row.length≤1000000000:=fun x hx9=>by
    have:=Gd hba9.out hx9
    obtain ⟨i,hi,e⟩:=Dn this
    have hi2:i < names.length:=by rw [EC] at hi; exact hi
    have e2:=Gc (s:=s) (g0:=g0) (g1:=g1) (Ab hi2)
    rw [Ab hi,e] at e2
    injection e2 with e2
    injection e2 with e2 e3
    exact ⟨by rw [e2]; exact hs.out _ (A8 hi2),by rw [e3]; simp [Bw]⟩
   replace hmem:=hZ hmem
   have hcbn:cb≠nb:=by have:=hrb.out; omega
   have hrbn:rb≠nb:=by omega
   have m0:=hfx.keep hL4.out.c0 hcbn
   have m2:=hfx.keep hL4.out.c2 hcbn
   have m3:=hfx.keep hL4.out.c3 hcbn
   have m4:=hfx.keep hL4.out.c4 hcbn
   have m5:=hfx.keep hL4.out.c5 hcbn
   have n0:=hFr.keep k0
   have n1:=hFr.keep k1
   have hR9:=hZ (hR4.out.fx hfx hrbn)
   obtain ⟨wo,rfl⟩:∃ wo:World,wo=wr:=⟨_,rfl⟩
   have nv:=hcn.out.b
   have nf:=hcn.out.fb
   have htm:=hZ (fun W (hW:Fr wo W)=>ND (n:Int) g0 g1 cb gb go gc W (hW.keep m2) (hW.keep n0) (hW.keep n1) hfg.out.1 hfg.out.2)
   have hcw:=hZ (fun W (hW:Fr wo W)=>hcl.out W (hFr.trans hW))
   have hS0:=hZ (fun W' (hW':Fr wo W')=>(⟨hW'.keep m0,hW'.keep m3,hW'.keep m4,hW'.keep m5⟩:W'.cell? ⟨cb,0,none⟩=some (.slice a n c)∧W'.cell? ⟨cb,3,none⟩=some (.slice (some ⟨eb,eo,none⟩) 2 ec)∧W'.cell? ⟨cb,4,none⟩=some (.string sh)∧W'.cell? ⟨cb,5,none⟩=some (.string oct)))
   have hsz:nb+1≤wo.heap.size:=hcn.out.lt
   have hFr8:=hZ hFr
   have hFr7:=hZ hFr1
   have hfx8:=hZ hfx
   clear hFr1 m2 n0 n1 hFr hfx
   go_wp2_with fail
   refine BP (S:=fun W'=>W'.cell? ⟨cb,0,none⟩=some (.slice a n c)∧W'.cell? ⟨cb,3,none⟩=some (.slice (some ⟨eb,eo,none⟩) 2 ec)∧W'.cell? ⟨cb,4,none⟩=some (.string sh)∧W'.cell? ⟨cb,5,none⟩=some (.string oct)) 16 (by kernel_rfl) (hS0.out _ ((Fr.refl _).drew)) (fun hHeld=>?_)
   refine uK 0 ?_
   refine uK 1 ?_
   refine uK 2 ?_
   refine uK 3 ?_
   refine uK 4 ?_
   refine uK 5 ?_
   refine uK 8 ?_
   refine uK 9 ?_
   refine uK 10 ?_
   refine uK 11 ?_
   refine uC 6 (fun K hK=>?_)
   go_simp
   (refine (htm.out _ (by exact BR)).mono ?_; rintro e w6 ⟨ga,rfl,hga1,hga2,hela,hf6⟩)
   go_wp2_with fail
   refine hK.out _ _ (hS0.out _ (by exact BR)) (fun hHeld=>?_)
   clear hK K
   refine uK 7 ?_
   refine uC 12 (fun K hK=>?_)
   go_simp
   (refine (hcw.out _ (by exact BR)).mono ?_; rintro e w7 ⟨ge,ce,rfl,hge1,hge2,hele,hf7⟩)
   go_wp2_with fail
   refine hK.out _ _ (hS0.out _ (by exact BR)) (fun hHeld=>?_)
   clear hK K
   refine uK 13 ?_
   refine uC 14 (fun K hK=>?_)
   go_simp
   refine hK.out _ _ (hS0.out _ (by exact BR)) (fun hHeld=>?_)
   clear hK K
   refine uK 15 ?_
   have hf7w:Fr wo w7:=by exact BR
   have hf8:Fr wo (w7.alloc (.cells #[.string sh,.slice (some ⟨ga,0,none⟩) 2 2,.string oct,.slice (some ⟨ge,0,none⟩) 2 ce] 46)):=hf7w.alloc _
   have z1:=hf8.keep nv
   have z2:=hf8.keepf nv nf
   clear hHeld
   refine uL 16 (fun K hK=>?_)
   go_simp
   refine hK.out _ _ ?_
   clear hK K
   obtain ⟨W8,hW8⟩:∃ W8,W8=w7.alloc (.cells #[.string sh,.slice (some ⟨ga,0,none⟩) 2 2,.string oct,.slice (some ⟨ge,0,none⟩) 2 ce] 46):=⟨_,rfl⟩
   obtain ⟨bA,hbA⟩:∃ bA,bA=w7.heap.size:=⟨_,rfl⟩
   obtain ⟨x1,hx1⟩:∃ x1:Sy,x1=⟨sh,Bw (n:Int) g0 g1,some ⟨ga,0,none⟩,2⟩:=⟨_,rfl⟩
   obtain ⟨x2,hx2⟩:∃ x2:Sy,x2=⟨oct,[e0,e1],some ⟨ge,0,none⟩,ce⟩:=⟨_,rfl⟩
   have hs6:=hf6.size
   have hs7:=hf7.size
   rw [It] at hga1 hs6
   have hlit:Ds W8 (nb+1) (.slice (some ⟨bA,0,none⟩) 2 2) 2 [x1,x2]:=by
    have:=Ds.lit2 (w:=w7) (base:=nb+1) (x:=x1) (y:=x2) (g:=ga) (k:=ge) (by omega) (by rw [hx1]) (by omega) (by omega) (by rw [hx1]; exact hela.fr hf7) (by rw [hx2]) (by omega) (by omega) (by rw [hx2]; exact hele)
    rw [hW8,hbA]
    rw [hx1,hx2] at this ⊢
    exact this
   rw [← hW8] at hf8
   rw [← hbA,← hW8]
   clear hW8 z1 z2
   obtain ⟨W9,hW9⟩:∃ W9,W9=W8.setCell ⟨nb,1,none⟩ (.slice (some ⟨bA,0,none⟩) 2 2):=⟨_,rfl⟩
   have hfx9:Fx (·=nb) W8 W9:=by rw [hW9]; exact Fx.setCell (p:=(·=nb)) (q:=⟨nb,1,none⟩) (Fx.refl _ W8) (.inl rfl) _
   have hcn9:Br W9 nb (.slice aN n cN) (.slice (some ⟨bA,0,none⟩) 2 2):=by rw [hW9]; exact (hcn.out.fr hf8).set1 _
   rw [← hW9]
   clear hW9
   have hfx4:Fx (·=nb) w4 W9:=(hfx8.out.fr hf8).trans hfx9
   have hfr9:Fr w W9:=(hf0).trans (hFW.out _ hfx4)
   have hR10:=hZ ((hR9.out.fr hf8).fx hfx9 (fun e=>by have e:rb=nb:=e; omega))
   have hso1:=hZ ((hsy.out.fr hf8).fx hfx9 (fun j hj e=>by have e:j=nb:=e; omega))
   have hso2:=hZ (hlit.fx hfx9 (fun j hj e=>by have e:j=nb:=e; omega))
   obtain ⟨aN2,cN2,e9,hs1,hs2⟩:=hso1.out.syms
   injection e9 with e9 e10 e11
   subst e9; subst e11
   obtain ⟨aA2,cA2,e9,hs3,hs4⟩:=hso2.out.syms
   injection e9 with e9 e10 e11
   subst e9; subst e11
   obtain ⟨A,hA⟩:∃ A,A=[x1,x2]:=⟨_,rfl⟩
   have hA1:A.length=2:=by rw [hA]; rfl
   rw [← hA] at hs3 hs4 hso2
   have hnot:DS W9 aN (some ⟨bA,0,none⟩) 2 L A:=⟨hs1,hs3,fun e=>by cases e⟩
   have hbA9:Cd A=[(sh,Bw (n:Int) g0 g1),(oct,[e0,e1])]:=by rw [hA]; unfold Cd; rw [hx1,hx2]; rfl
   have hck:=HG aN (some ⟨bA,0,none⟩) cN 2 r L A W9 (hGf.out _ hfr9) hnot (fun x hx9=>by
    rcases A5.1 hx9 with h9 | h9
    ·exact hmem.out x h9
    ·rw [hA] at h9
     rcases A1.1 h9 with h9 | h9
     ·rw [h9,hx1]; exact ⟨hsh,by simp [Bw]⟩
     ·rw [Bo] at h9
      rw [h9,hx2]; exact ⟨ho,by simp⟩) (by rw [← hLn.out]; omega) (by omega) (fun h1 h2 _ h4=>by
    have hz:=Fz _ _ h4 L.length x1 (Bm _) (by rw [Ar,hA1]; omega) (by rw [hA,AR (Ag _),ED]; rfl)
    have hr1:=(IC hz).2.2.1
    rw [hx1] at hr1
    have:=hF.out hr1
    rw [hA,hx1,hx2]
    exact this)
   rw [← hLn.out,hA1] at hck
   have hcN:(aN=none→cN=0)∧L.length≤cN:=⟨fun e=>(hs2 e).1,by rw [← hLn.out]; exact OP hso1.out.own⟩
   obtain ⟨E,hE⟩:∃ E,E=Ck L A r:=⟨_,rfl⟩
   rw [← hE] at hck
   replace hnot:=hZ hnot
   replace hcN:=hZ hcN
   replace hbA9:=hZ hbA9
   replace hA1:=hZ hA1
   replace hE:=hZ hE
   replace hck:=hZ hck
   replace hbA:=hZ hbA
   replace hx1:=hZ hx1
   replace hx2:=hZ hx2
   have q0:=hcn9.a
   have q1:=hcn9.b
   clear hs1 hs2 hs3 hs4 hA hlit hfx9 hmem hS0 hcw htm hFr8 hFr7 hfx8 hR9 hela hele
   go_wp2_with fail
   refine hck.out.mono ?_
   rintro e w5 ⟨rfl,hf5⟩
   have hcn5:=hcn9.fr hf5
   have hR5:=hR10.out.fr hf5
   have hfr5:=hfr9.trans hf5
   have t0:=hcn5.a
   have t1:=hcn5.b
   have hsz9:=hfr5.size
   have hrbw:w.heap.size≤rb:=by have:=hrb.out; have:=hcb.out; omega
   have hnF:Hid (∀ W,Fx (·=rb) w5 W→DS W aN (some ⟨bA,0,none⟩) 2 L A):=fun W hW=>by
    obtain ⟨a7,c7,e1,k1,-⟩:=((hso1.out.fr hf5).fx hW (fun j hj e=>by have e:j=rb:=e; omega)).syms
    injection e1 with e1 _ _; subst e1
    obtain ⟨a8,c8,e1,k3,-⟩:=((hso2.out.fr hf5).fx hW (fun j hj e=>by have e:j=rb:=e; omega)).syms
    injection e1 with e1 _ _; subst e1
    exact ⟨k1,k3,fun e=>by cases e⟩
   obtain ⟨a0,a1,f0,f1⟩:=hR5
   clear q0 q1 hso1 hso2 hcn9
   by_cases hE0:E=0
   ·have d1:(E != 0)=false:=by rw [hE0]; rfl
    have x1:(w5.setCell ⟨rb,0,none⟩ (.slice aN n cN)).cell? ⟨rb,1,none⟩=some (.slice none 0 0):=by rw [Ad _ _ _ _ (fun e=>by injection e with _ e; omega)]; exact a1
    obtain ⟨y0,y1,-,-⟩:=A7 w5 rb (.slice aN n cN) (.slice (some ⟨bA,0,none⟩) 2 2) _ _ a0 a1
    have hfx5:=(A7 w5 rb (.slice aN n cN) (.slice (some ⟨bA,0,none⟩) 2 2) _ _ a0 a1).2.2.2
    replace y0:=hZ y0
    replace y1:=hZ y1
    replace hE0:=hZ hE0
    go_wp2_with fail
    have q0:=y0.out
    have q1:=y1.out
    refine Ax (v:=.tuple #[.agg #[.slice aN n cN,.slice (some ⟨bA,0,none⟩) 2 2],.int .i64 0]) (by simp [results,Tryz.results19,go_sem,q0,q1]) rfl ?_
    exact ⟨L,A,aN,cN,_,2,hba9.out,hbA9.out,hnF.out _ hfx5,hcN.out,(hfr5.setCell (p:=⟨rb,0,none⟩) hrbw _).setCell (p:=⟨rb,1,none⟩) hrbw _,by rw [← hE.out,hE0.out,Aj rfl,← hLn.out,hA1.out]⟩
   ·have d1:(E != 0)=true:=by rw [Bl]; exact hE0
    have x1:(w5.setCell ⟨rb,0,none⟩ (.slice none 0 0)).cell? ⟨rb,1,none⟩=some (.slice none 0 0):=by rw [Ad _ _ _ _ (fun e=>by injection e with _ e; omega)]; exact a1
    obtain ⟨y0,y1,-,-⟩:=A7 w5 rb (.slice none 0 0) (.slice none 0 0) _ _ a0 a1
    have hfx5:=(A7 w5 rb (.slice none 0 0) (.slice none 0 0) _ _ a0 a1).2.2.2
    replace y0:=hZ y0
    replace y1:=hZ y1
    replace hE0:=hZ hE0
    go_wp2_with fail
    have q0:=y0.out
    have q1:=y1.out
    refine Ax (v:=.tuple #[.agg #[.slice none 0 0,.slice none 0 0],.int .i64 E]) (by simp [results,Tryz.results19,go_sem,q0,q1]) rfl ?_
    exact ⟨L,A,aN,cN,_,2,hba9.out,hbA9.out,hnF.out _ hfx5,hcN.out,(hfr5.setCell (p:=⟨rb,0,none⟩) hrbw _).setCell (p:=⟨rb,1,none⟩) hrbw _,by rw [← hE.out,Ai hE0.out]⟩
def KX (RA:List (List Int)) (d:Nat):List (List Rat):=((Cg (HD RA) d).map fun F=>F.g.map (List.drop d)).getD []
def MN (F:Nat) (RA:List (List Int)) (d:Nat):List (List Int):=((DR F d 0 RA 0).map fun r=>r.1.take r.2).getD []
def NP (l:List (List Int)) (d:Nat):Bool:=l.all fun q=>decide (q.length=d) && q.all Bi
def Xp (RN:List (List Int)) (I:List (List Rat)) (d:Nat):Bool :=
 (List.range RN.length).all fun i=>(List.range RN.length).all fun j=>!decide (i < j) || (Lt I (List.zipWith (· - ·) (Bv RN j) (Bv RN i)) d && (E4 I (List.zipWith (· - ·) (Bv RN j) (Bv RN i)) d).isNone)
def YT (RN B:List (List Int)) (d:Nat):Bool:=RN.all fun q=>match H7 B q d with
 | some s=>s.1.all Bi && s.2.all Bi
 | none=>false
theorem Km {l:List (List Int)} {d:Nat} (h:NP l d=true):∀ q,q ∈ l→q.length=d∧∀ x,x ∈ q→Bi x=true:=fun q hq=>by
 have h1:=As.1 h q hq
 rw [Bb,J7] at h1
 exact ⟨h1.1,As.1 h1.2⟩
theorem MO.of_check {RN RA:List (List Int)} {d F1 F2:Nat} {res:Option (List Int)} (h1:(decide (1≤d) && decide (d≤6) && decide (RA.length=d) && decide (1≤RN.length) && decide (RN.length≤60))=true) (h2:(NP RA d && NP RN d)=true)
 (h3:(DR F1 d 0 RA 0).isSome=true) (h4:(decide ((MN F1 RA d).length=d) && NP (MN F1 RA d) d && Hx (MN F1 RA d))=true) (h5:(Cg (HD RA) d).map (·.lead.length)=some d)
 (h6:(((KX RA d).all fun q=>decide (q.length=d)) && decide ((KX RA d).length=d))=true) (h7:Xp RN (KX RA d) d=true) (h8:YT RN (MN F1 RA d) d=true)
 (h9:Mk (MN F1 RA d) (RN.map fun q=>Dk (Db (MN F1 RA d) q)) d F2 (List.replicate d 0)=some res):MO RN RA d (MN F1 RA d) (KX RA d) res:=by
 simp only [Bb,J7] at h1 h2 h4 h6
 obtain ⟨⟨⟨⟨a1,a2⟩,a3⟩,a4⟩,a5⟩:=h1
 obtain ⟨b1,b2⟩:=h2
 obtain ⟨⟨c1,c2⟩,c3⟩:=h4
 refine ⟨a1,a2,a3,a4,a5,Km b1,Km b2, ?_,c1,Km c2,c3, ?_,fun q hq=>by simpa using As.1 h6.1 q hq,h6.2, ?_, ?_,⟨F2,h9⟩⟩
 ·obtain ⟨r,hr⟩:=Option.isSome_iff_exists.1 h3
  exact ⟨F1,r.1,r.2,hr,by unfold MN; rw [hr]; rfl⟩
 ·obtain ⟨Fq,hq,hl⟩:=AV.1 h5
  exact ⟨Fq,hq,hl,by unfold KX; rw [hq]; rfl⟩
 ·intro i j x y hx hy hij
  obtain ⟨hi,ei⟩:=Ah.1 hx
  obtain ⟨hj,ej⟩:=Ah.1 hy
  have h:=As.1 (As.1 h7 i (AZ.2 hi)) j (AZ.2 hj)
  rw [Ac hij,Cb hi,Cb hj,ei,ej,Bool.not_true,PU,Bb] at h
  exact ⟨h.1,by simpa using h.2⟩
 ·intro q hq
  have h:=As.1 h8 q hq
  split at h
  ·rename_i s hs
   rw [Bb] at h
   exact ⟨s,hs,As.1 h.1,As.1 h.2⟩
  ·cases h
def Xy:List (List Int):=[[1,-1],[0,0],[-1,1],[-2,2],[-3,3],[-4,4],[-5,5]]
def Sh:List (List Int):=[[-7,7],[1,0]]
theorem Uf:MO Xy Sh 2 (MN 20 Sh 2) (KX Sh 2) none :=
 MO.of_check (F1:=20) (F2:=20) (by decide +kernel) (by decide +kernel) (by decide +kernel) (by decide +kernel) (by decide +kernel) (by decide +kernel) (by decide +kernel) (by decide +kernel) (by decide +kernel)
theorem Yk:MO [[0],[1]] [[3]] 1 (MN 20 [[3]] 1) (KX [[3]] 1) (some [2]) :=
 MO.of_check (F1:=20) (F2:=20) (by decide +kernel) (by decide +kernel) (by decide +kernel) (by decide +kernel) (by decide +kernel) (by decide +kernel) (by decide +kernel) (by decide +kernel) (by decide +kernel)
end Go.Proofs.YtcglmebcfeoedaaGreatDoor
