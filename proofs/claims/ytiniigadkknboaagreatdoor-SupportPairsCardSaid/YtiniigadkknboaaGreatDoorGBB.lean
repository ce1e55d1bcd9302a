/- Contracts and laws: GBB. -/
import Derived.Test.YtiniigadkknboaaGreatDoorGBA

set_option maxRecDepth 100000
set_option maxHeartbeats 4000000
namespace Go.Proofs.YtiniigadkknboaaGreatDoor
open Go.RowKit Go.Lib
attribute [local go_sem ↓] Go.wp_at_zero Go.wp_at_succ
structure C2 (w:World) (r:Nat) (v u:Value):Prop where
 a:w.cell? ⟨r,0,none⟩=some v
 b:w.cell? ⟨r,1,none⟩=some u
 fa:w.frozen? ⟨r,0,none⟩=false
 fb:w.frozen? ⟨r,1,none⟩=false
theorem C2.fx {p:Nat→Prop} {w w':World} {r:Nat} {v u:Value} (h:C2 w r v u) (k:Fx p w w') (h1:¬ p r):C2 w' r v u :=
 ⟨k.keep h.a h1,k.keep h.b h1,k.keepf h.a h.fa h1,k.keepf h.b h.fb h1⟩
theorem C2.fr {w w':World} {r:Nat} {v u:Value} (h:C2 w r v u) (k:Fr w w'):C2 w' r v u:=h.fx (p:=fun _=>False) (Fx.of_fr k) (fun e=>e)
theorem C2.new (w:World) (v u:Value) (t:TypeId):C2 (w.alloc (.cells #[v,u] t)) w.heap.size v u :=
 ⟨(CC w v u t).1,(Ct w v u t).1,(CC w v u t).2,(Ct w v u t).2⟩
theorem C2.set0 {w:World} {r:Nat} {v u:Value} (h:C2 w r v u) (v':Value):C2 (w.setCell ⟨r,0,none⟩ v') r v' u :=
 ⟨Al _ _ _ (by rw [h.a]; rfl),by rw [Ad _ _ _ _ (fun e=>by injection e with _ e; omega)]; exact h.b,by rw [Am]; exact h.fa,by rw [Am]; exact h.fb⟩
theorem C2.set1 {w:World} {r:Nat} {v u:Value} (h:C2 w r v u) (u':Value):C2 (w.setCell ⟨r,1,none⟩ u') r v u' :=
 ⟨by rw [Ad _ _ _ _ (fun e=>by injection e with _ e; omega)]; exact h.a,Al _ _ _ (by rw [h.b]; rfl),by rw [Am]; exact h.fa,by rw [Am]; exact h.fb⟩
theorem YX (w:World) (hG:G w):Calls Tryz.prog 224 #[.agg #[.string (tx 1),.string (tx 1)],.agg #[.string (tx 2),.string (tx 1)]] w fun e w'=>e=.returned (.tuple #[.agg #[.string (tx 1),.string (tx 2)],.int .i64 0])∧Fr w w':=by
 have h:=VA 1 2 (by unfold Tq Bn; decide +kernel) (by unfold Tq Bn; decide +kernel) (by decide +kernel) w hG
 have e1:(1 / 2:Rat).num=1:=by decide +kernel
 have e2:(((1 / 2:Rat).den:Nat):Int)=2:=by decide +kernel
 unfold qv at h
 rw [e1,e2] at h
 exact h
theorem YT (y z:Int) (hy:y=2∧z=1∨y=0∧z=0) (w:World) (hG:G w):Calls Tryz.prog 225 #[.agg #[.string (tx 1),.string (tx 2)],.agg #[.string (tx y),.string (tx 1)]] w fun e w'=>e=.returned (.agg #[.string (tx z),.string (tx 1)])∧Fr w w':=by
 have e1:(1 / 2:Rat).num=1:=by decide +kernel
 have e2:(((1 / 2:Rat).den:Nat):Int)=2:=by decide +kernel
 rcases hy with ⟨rfl,rfl⟩ | ⟨rfl,rfl⟩
 ·have h:=PG (1 / 2) 2 (by unfold Tq Bn; rw [e1,e2]; decide +kernel) (by unfold Tq Bn; decide +kernel) w hG
  have e3:(1 / 2 * 2:Rat).num=1:=by decide +kernel
  have e4:(((1 / 2 * 2:Rat).den:Nat):Int)=1:=by decide +kernel
  unfold qv at h
  rw [e1,e2,e3,e4] at h
  exact h
 ·have h:=PG (1 / 2) 0 (by unfold Tq Bn; rw [e1,e2]; decide +kernel) (by unfold Tq Bn; decide +kernel) w hG
  have e3:(1 / 2 * 0:Rat).num=0:=by decide +kernel
  have e4:(((1 / 2 * 0:Rat).den:Nat):Int)=1:=by decide +kernel
  unfold qv at h
  rw [e1,e2,e3,e4] at h
  exact h
theorem QA (P A B:List Int) (pa aa ba:Option Addr) (pc ac bc:Nat) (w:World) (hP:El w iv pa P) (hp:BQ P=0) (hA:GJ w aa A) (hB:GJ w ba B) (hla:P.length=A.length) (hlb:P.length=B.length) (hl:P.length≤6) (hsA:∀ x,x ∈ A→Sm x) (hsB:∀ x,x ∈ B→Sm x) (hne:Et P B≠[]) (hG:G w) :
 Calls Tryz.prog 165 #[.slice pa P.length pc,.slice aa P.length ac,.slice ba P.length bc] w fun e w'=>e=.returned (.int .i64 0)∧Fr w w':=by
 have hf1:Fr w (w.alloc (.cells #[.slice aa P.length ac,.slice ba P.length bc] 193)):=(Fr.refl _).alloc _
 have n0:=(CC w (.slice aa P.length ac) (.slice ba P.length bc) 193).1
 have n1:=(Ct w (.slice aa P.length ac) (.slice ba P.length bc) 193).1
 have hca:=N8 P pa (some ⟨w.heap.size,0,none⟩) pc 2 [(aa,ac,A),(ba,bc,B)] _ (hP.fr hf1) hp (fun W hW i m hm=>by
  match i,hm with
  | 0,hm=>injection hm with hm; subst hm; exact ⟨_,_,rfl,Aq (by simp) hW.size,by rw [← hla]; exact hW.keep n0⟩
  | 1,hm=>injection hm with hm; subst hm; exact ⟨_,_,rfl,Aq (by simp) hW.size,by rw [← hlb]; exact hW.keep n1⟩) (fun m hm=>by
  rcases Bu.1 hm with rfl | hm
  ·exact ⟨hA.fr hf1,hla.symm,hsA⟩
  ·rcases Bu.1 hm with rfl | hm
   ·exact ⟨hB.fr hf1,hlb.symm,hsB⟩
   ·cases hm) (by simp) hl (hG.fr hf1)
 have hto:=hZ (fun W (hW:Fr w W)=>Hs P B pa ba pc bc W (hP.fr hW) (hB.fr hW) hlb (by omega) hsB (hG.fr hW))
 rw [← hlb] at hto
 have h0:((((Et P B).length:Int)) == 0)=false:=A2 (fun e=>hne (Bf (by omega)))
 generalize Et P B=L at *
 generalize P.length=n at *
 replace hca:=hZ hca
 replace hf1:=hZ hf1
 clear hP hp hA hB hla hlb hsA hsB hne hG n0 n1 hl
 go_enter Tryz.func165,Tryz.ntmps165
 go_wp2_with fail
 refine hca.out.mono ?_
 rintro e w2 ⟨rfl,hf2⟩
 have hf2':=hf1.out.trans hf2
 go_wp2_with fail
 refine (hto.out _ hf2').mono ?_
 rintro e w3 ⟨a1,a2,c1,c2,rfl,-,-,hf3⟩
 have hfd:∀ W:World,(Instr.field 256 (.agg #[.slice a1 L.length c1,.slice a2 L.length c2,.string (tx 1)]) 0).run Tryz.prog W=.ok (.slice a1 L.length c1) W:=fun _=>by kernel_rfl
 go_wp2_with fail
 go_ret
 exact ⟨rfl,hf2'.trans hf3⟩
theorem Sr (A B:List Int) (aa ba:Option Addr) (ac bc:Nat) (w:World) (hA:GJ w aa A) (hB:GJ w ba B) (hl:A.length=B.length) (hl6:A.length≤6) (hBv:∀ (i:Nat) y,B[i]?=some y→y=if i=0 then 2 else 0) (hA0:A[0]?=some 1) (hex:∃ (j:Nat) (x:Int),1≤j∧A[j]?=some x∧x≠0) (hG:G w) :
 Calls Tryz.prog 196 #[.slice aa A.length ac,.slice ba B.length bc] w fun e w'=>e=.returned (.tuple #[.agg #[.string (tx 1),.string (tx 2)],.bool false])∧Fr w w':=by
 rw [← hl]
 obtain ⟨n,hn⟩:∃ n,n=A.length:=⟨_,rfl⟩
 rw [← hn] at hl hl6 ⊢
 have hnb:=hZ (fun W (hW:Fr w W)=>Ql 0 (by decide) (by decide) W (hG.fr hW))
 have hdv:=hZ (fun W (hW:Fr w W)=>YX W (hG.fr hW))
 have hml:=hZ (fun (y z:Int) hy W (hW:Fr w W)=>YT y z hy W (hG.fr hW))
 replace hA:=hZ hA
 replace hB:=hZ hB
 replace hn:=hZ hn
 replace hl:=hZ hl
 replace hBv:=hZ hBv
 replace hA0:=hZ hA0
 replace hex:=hZ hex
 clear hG
 have hR1:C2 (w.alloc (.cells #[.string ⟨#[]⟩,.string ⟨#[]⟩] 221)) w.heap.size (.string ⟨#[]⟩) (.string ⟨#[]⟩):=C2.new _ _ _ _
 have hfa:Fr w (w.alloc (.cells #[.string ⟨#[]⟩,.string ⟨#[]⟩] 221)):=(Fr.refl _).alloc _
 replace hR1:=hZ hR1
 go_enter Tryz.func196,Tryz.ntmps196
 go_wp2_with fail
 refine (hnb.out _ hfa).mono ?_
 rintro e w1 ⟨rfl,hf1⟩
 obtain ⟨W1,hW1⟩:∃ W1,W1=w1.alloc (.cells #[.string (tx 0),.string (tx 1)] 221):=⟨_,rfl⟩
 have hK1:C2 W1 w1.heap.size (sv 0) (sv 1):=by rw [hW1]; exact C2.new _ _ _ _
 have hfw1:Fr w1 W1:=by rw [hW1]; exact (Fr.refl _).alloc _
 have hz1:W1.heap.size=w1.heap.size+1:=by rw [hW1]; simp
 have hR2:=(hR1.out.fr hf1).fr hfw1
 have hfW:=(hfa.trans hf1).trans hfw1
 have hzw:=(hfa.trans hf1).size
 have hzw2:=hf1.size
 rw [AF] at hzw2
 go_upto_region 2 with (fail)
 rw [← hW1]
 clear hW1 hfw1 hf1 hfa hR1
 obtain ⟨kb,hkb⟩:∃ kb,kb=w1.heap.size:=⟨_,rfl⟩
 rw [← hkb] at hK1 hz1 hzw hzw2 ⊢
 clear hkb
 obtain ⟨rb,hrb⟩:∃ rb,rb=w.heap.size:=⟨_,rfl⟩
 rw [← hrb] at hR2 hzw2 ⊢
 replace hrb:=hZ hrb
 replace hR2:=hZ hR2
 go_wp2_with fail
 go_loopg [14] n (fun k s14 wr=>∃ (i:Nat) (kn kd:Int),s14=.int .i64 i∧i+k=n∧Fx (·=kb) W1 wr∧Hid (C2 wr kb (sv kn) (sv kd))∧Hid (0 < i→kn=1∧kd=2))
 case atStart=>exact ⟨0,0,1,rfl,by omega,Fx.refl _ _,hK1,fun h=>absurd h (by decide)⟩
 case round=>
  clear hK1
  obtain ⟨i,kn,kd,rfl,hik,hfx,hK9,hkv⟩:=hrel
  have hfr:Fr w wr:=((Fx.of_fr hfW).trans hfx).toFr (fun k hk e=>by have e:k=kb:=e; have:=hrb.out; omega)
  obtain ⟨wo,rfl⟩:∃ wo:World,wo=wr:=⟨_,rfl⟩
  obtain ⟨kv,rfl⟩:∃ kv:Nat,kv=gk:=⟨_,rfl⟩
  by_cases hi:i < n
  ·have hd:decide (i < n)=true:=Ab hi
   have hd2:decide ((i:Int) < (n:Int))=true:=Ab (by omega)
   obtain ⟨b,o,y,rfl,hbl,hy,c1,c2⟩:=(hB.out.fr hfr).at (i:=i) (by rw [← hl.out]; exact hi)
   obtain ⟨ab,ao,x,rfl,habl,hx,d1,d2⟩:=(hA.out.fr hfr).at (i:=i) (by rw [← hn.out]; exact hi)
   have z0:(0:Int)≤(i:Int):=by omega
   have z1:(i:Int) < (n:Int):=by omega
   have hyv:=hBv.out i y hy
   have hb0:=Cn y
   have n2:=(CC wo (.string (tx y)) (.string (tx 1)) 221).1
   have n3:=(Ct wo (.string (tx y)) (.string (tx 1)) 221).1
   obtain ⟨W9,hW9⟩:∃ W9,W9=wo.alloc (.cells #[.string (tx y),.string (tx 1)] 221):=⟨_,rfl⟩
   have hf9:Fr wo W9:=by rw [hW9]; exact (Fr.refl _).alloc _
   rw [← hW9] at n2 n3
   replace hW9:=hZ hW9
   replace hy:=hZ hy
   replace hx:=hZ hx
   by_cases hi0:i=0
   ·rw [Ai hi0] at hyv
    subst hyv
    rw [Aa (by decide)] at hb0
    obtain rfl:x=1:=by have:=hx.out; rw [hi0,hA0.out] at this; injection this with this; exact this.symm
    have e1:=hf9.keep d1
    have e2:=hf9.keep d2
    have hK10:=hK9.out.fr hf9
    have g0:=hK10.a
    have g1:=hK10.b
    have g2:=hK10.fa
    have g3:=hK10.fb
    replace hi0:=hZ hi0
    go_upto_region 5 with (fail)
    rw [← hW9.out]
    clear d1 d2 c1 c2
    go_wp2_with fail
    have hS0:Hid (∀ W',Fr W9 W'→W'.cell? ⟨ab,ao+i * 2,none⟩=some (.string (tx 1))∧W'.cell? ⟨ab,ao+i * 2+1,none⟩=some (.string (tx 1))∧W'.cell? ⟨wo.heap.size,0,none⟩=some (.string (tx 2))∧W'.cell? ⟨wo.heap.size,1,none⟩=some (.string (tx 1))):=fun W' hW'=>⟨hW'.keep e1,hW'.keep e2,hW'.keep n2,hW'.keep n3⟩
    refine Dm (S:=fun W'=>W'.cell? ⟨ab,ao+i * 2,none⟩=some (.string (tx 1))∧W'.cell? ⟨ab,ao+i * 2+1,none⟩=some (.string (tx 1))∧W'.cell? ⟨wo.heap.size,0,none⟩=some (.string (tx 2))∧W'.cell? ⟨wo.heap.size,1,none⟩=some (.string (tx 1))) 9 (by kernel_rfl) (hS0.out _ ((Fr.refl _).drew)) (fun hHeld=>?_)
    clear e1 e2 n2 n3
    refine uM 0 23 ?_; try simp only [Dz,DO,DN]
    refine uM 1 24 ?_; try simp only [Dz,DO,DN]
    refine uM 2 25 ?_; try simp only [Dz,DO,DN]
    refine uM 3 26 ?_; try simp only [Dz,DO,DN]
    refine uM 4 27 ?_; try simp only [Dz,DO,DN]
    refine uC 5 (fun K hK=>?_)
    go_simp
    (refine (hdv.out _ (hfr.trans (hf9.trans (Fr.refl _).drew))).mono ?_; rintro e w6 ⟨rfl,hf6⟩)
    go_wp2_with fail
    refine hK.out _ _ (hS0.out _ ((Fr.refl W9).drew.trans hf6)) (fun hHeld=>?_)
    clear hK K
    try simp only [Act.put,Dz,DO,DN]
    have hf96:Fr W9 w6:=(Fr.refl W9).drew.trans hf6
    refine uM 6 22 ?_; try simp only [Dz,DO,DN]
    refine uM 7 29 ?_; try simp only [Dz,DO,DN]
    refine IG (i:=8) (v:=?_) rfl (by decide) (by kernel_rfl) (by kernel_rfl) (by kernel_rfl) (fun _ _ _ h=>h) (Or.inl ⟨by rfl, ?_⟩) (by assumption) ?_
    rotate_left
    ·(intro w _; go_simp; try (with_reducible rfl))
    change B8 _ _ _ _ _ _ _ _ (Act.put _ (some 30) _) _
    simp only [Act.put,Dz,DO,DN]
    have hK11:=hK10.fr hf96
    have g4:=hK11.a
    have g5:=hK11.b
    have g6:=hK11.fa
    have g7:=hK11.fb
    have hK12:=hK11.set0 (.string (tx 1))
    have g8:=hK12.b
    have g9:=hK12.fb
    have hK13:=hZ (hK12.set1 (.string (tx 2)))
    have hfx9:Fx (·=kb) w6 ((w6.setCell ⟨kb,0,none⟩ (.string (tx 1))).setCell ⟨kb,1,none⟩ (.string (tx 2))):=Fx.setCell (p:=(·=kb)) (q:=⟨kb,1,none⟩) (Fx.setCell (p:=(·=kb)) (q:=⟨kb,0,none⟩) (Fx.refl _ _) (.inl rfl) _) (.inl rfl) _
    have hfx10:=hZ (((hfx.fr hf9).fr hf96).trans hfx9)
    clear hK12 hfx9 hHeld
    refine uL 9 (fun K hK=>?_)
    go_simp
    refine hK.out _ _ ?_
    clear hK K
    go_wp2_with fail
    go_roundg (kv - 1)
    case measure=>omega
    case rel=>exact ⟨i+1,1,2,by go_num,by omega,hfx10.out,hK13,fun _=>⟨rfl,rfl⟩⟩
   ·rw [Ag hi0] at hyv
    subst hyv
    rw [Ab rfl] at hb0
    have hkv2:=hkv.out (by omega)
    replace hi0:=hZ hi0
    replace hkv2:=hZ hkv2
    have hK10:=hZ (hK9.out.fr hf9)
    go_upto_region 5 with (fail)
    rw [← hW9.out]
    clear d1 d2 c1 c2
    go_wp2_with fail
    go_roundg (kv - 1)
    case measure=>omega
    case rel=>exact ⟨i+1,kn,kd,by go_num,by omega,hfx.fr hf9,hK10,fun _=>hkv2.out⟩
  ·have hd:decide (i < n)=false:=Aa hi
   have hd2:decide ((i:Int) < (n:Int))=false:=Aa (by omega)
   have hn1:0 < n:=by have:=(Ae.1 hA0.out).1; have:=hn.out; omega
   obtain ⟨rfl,rfl⟩:=hkv.out (by omega)
   have hR3:=hR2.out.fx hfx (fun e=>by have e:rb=kb:=e; omega)
   replace hR3:=hZ hR3
   have hKw:=hK9.out
   clear hK9 hkv hR2 hdv hnb
   go_wp2_with fail
   go_loopg [34] n (fun k s34 wr=>∃ (i:Nat),s34=.int .i64 i∧i+k=n∧Fr wo wr∧Hid (∀ (j:Nat) (x:Int),1≤j→j < i→A[j]?=some x→x=0))
   case atStart=>exact ⟨0,rfl,by omega,Fr.refl _,fun j x h1 h2=>absurd h2 (Bj _)⟩
   case round=>
    obtain ⟨i,rfl,hik,hf2,hz⟩:=hrel
    have hfr2:=hfr.trans hf2
    obtain ⟨wv,rfl⟩:∃ wv:World,wv=wr:=⟨_,rfl⟩
    obtain ⟨ku,rfl⟩:∃ ku:Nat,ku=gk:=⟨_,rfl⟩
    by_cases hi:i < n
    ·have hd:decide (i < n)=true:=Ab hi
     have hd2:decide ((i:Int) < (n:Int))=true:=Ab (by omega)
     obtain ⟨b,o,y,rfl,hbl,hy,c1,c2⟩:=(hB.out.fr hfr2).at (i:=i) (by rw [← hl.out]; exact hi)
     obtain ⟨ab,ao,x,rfl,habl,hx,d1,d2⟩:=(hA.out.fr hfr2).at (i:=i) (by rw [← hn.out]; exact hi)
     have z0:(0:Int)≤(i:Int):=by omega
     have z1:(i:Int) < (n:Int):=by omega
     have hyv:=hBv.out i y hy
     obtain ⟨z,hyz,hxz⟩:∃ z:Int,(y=2∧z=1∨y=0∧z=0)∧(x=z∨1≤i∧x≠0∧x≠z):=by
      by_cases hi0:i=0
      ·rw [Ai hi0] at hyv
       rw [hi0,hA0.out] at hx
       injection hx with hx
       exact ⟨1,.inl ⟨hyv,rfl⟩,.inl hx.symm⟩
      ·rw [Ag hi0] at hyv
       refine ⟨0,.inr ⟨hyv,rfl⟩, ?_⟩
       by_cases hx0:x=0
       ·exact .inl hx0
       ·exact .inr ⟨by omega,hx0,hx0⟩
     have hmy:=hZ (hml.out y z hyz)
     have hb1:=Nm z x
     have hz2:Hid (x=z→∀ (j:Nat) (x:Int),1≤j→j < i+1→A[j]?=some x→x=0):=fun e j x' h1 h2 h3=>by
      by_cases hji:j=i
      ·subst hji
       rw [hx] at h3; injection h3 with h3
       rw [Ag (by omega)] at hyv
       omega
      ·exact hz.out j x' h1 (by omega) h3
     have n2:=(CC wv (.string (tx y)) (.string (tx 1)) 221).1
     have n3:=(Ct wv (.string (tx y)) (.string (tx 1)) 221).1
     obtain ⟨W9,hW9⟩:∃ W9,W9=wv.alloc (.cells #[.string (tx y),.string (tx 1)] 221):=⟨_,rfl⟩
     have hf9:Fr wv W9:=by rw [hW9]; exact (Fr.refl _).alloc _
     rw [← hW9] at n2 n3
     replace hW9:=hZ hW9
     replace hy:=hZ hy
     replace hx:=hZ hx
     replace hyv:=hZ hyv
     replace hyz:=hZ hyz
     have e1:=hf9.keep d1
     have e2:=hf9.keep d2
     have hK10:=(hKw.fr hf2).fr hf9
     have g0:=hK10.a
     have g1:=hK10.b
     replace hxz:=hZ hxz
     obtain ⟨X,hX⟩:∃ X,X=tx x:=⟨_,rfl⟩
     obtain ⟨Y,hY⟩:∃ Y,Y=tx y:=⟨_,rfl⟩
     obtain ⟨Z,hZv⟩:∃ Z,Z=tx z:=⟨_,rfl⟩
     rw [← hX] at e1 d1 hb1
     rw [← hY] at n2 hmy hW9 c1
     rw [← hZv] at hmy hb1
     replace hX:=hZ hX
     replace hY:=hZ hY
     replace hZv:=hZ hZv
     have hb2:((tx 1).toList == (tx 1).toList)=true:=by rw [Nm]; rfl
     go_upto_region 11 with (fail)
     rw [← hW9.out]
     clear d1 d2 c1 c2
     have hS0:Hid (∀ W',Fr W9 W'→W'.cell? ⟨ab,ao+i * 2,none⟩=some (.string X)∧W'.cell? ⟨ab,ao+i * 2+1,none⟩=some (.string (tx 1))∧W'.cell? ⟨wv.heap.size,0,none⟩=some (.string Y)∧W'.cell? ⟨wv.heap.size,1,none⟩=some (.string (tx 1))∧W'.cell? ⟨kb,0,none⟩=some (.string (tx 1))∧W'.cell? ⟨kb,1,none⟩=some (.string (tx 2))):=fun W' hW'=>⟨hW'.keep e1,hW'.keep e2,hW'.keep n2,hW'.keep n3,hW'.keep g0,hW'.keep g1⟩
     refine Dm (S:=fun W'=>W'.cell? ⟨ab,ao+i * 2,none⟩=some (.string X)∧W'.cell? ⟨ab,ao+i * 2+1,none⟩=some (.string (tx 1))∧W'.cell? ⟨wv.heap.size,0,none⟩=some (.string Y)∧W'.cell? ⟨wv.heap.size,1,none⟩=some (.string (tx 1))∧W'.cell? ⟨kb,0,none⟩=some (.string (tx 1))∧W'.cell? ⟨kb,1,none⟩=some (.string (tx 2))) 7 (by kernel_rfl) (hS0.out _ ((Fr.refl _).drew)) (fun hHeld=>?_)
     clear e1 e2 n2 n3 g0 g1
     refine uV 0 39 [2] ?_; try simp only [Dz,DO,DN]
     refine uV 1 40 [2] ?_; try simp only [Dz,DO,DN]
     refine uV 3 42 [5,6] ?_; try simp only [Dz,DO,DN]
     refine uV 4 43 [5,6] ?_; try simp only [Dz,DO,DN]
     refine uV 5 44 [6] ?_; try simp only [Dz,DO,DN]
     refine uM 6 45 ?_; try simp only [Dz,DO,DN]
     refine uC 2 (fun K hK=>?_)
     go_simp
     (refine (hmy.out _ (hfr2.trans (hf9.trans (Fr.refl _).drew))).mono ?_; rintro e w6 ⟨rfl,hf6⟩)
     go_wp2_with fail
     refine hK.out _ _ (hS0.out _ ((Fr.refl W9).drew.trans hf6)) (fun hHeld=>?_)
     clear hK K
     try simp only [Act.put,Dz,DO,DN]
     have hf96:Fr W9 w6:=(Fr.refl W9).drew.trans hf6
     clear hHeld
     refine uL 7 (fun K hK=>?_)
     go_simp
     have hf9a:=hf9.trans hf96
     by_cases ezx:z=x
     ·rw [Ai ezx]
      go_simp
      refine hK.out _ _ ?_
      clear hK K
      have hz3:=hZ (hz2.out ezx.symm)
      replace ezx:=hZ ezx
      go_wp2_with fail
      go_roundg (ku - 1)
      case measure=>omega
      case rel=>exact ⟨i+1,by go_num,by omega,hf2.trans hf9a,hz3.out⟩
     ·rw [Ag ezx]
      go_simp
      refine hK.out _ _ ?_
      clear hK K
      replace ezx:=hZ ezx
      have hK11:=hK10.fr hf96
      have g4:=hK11.a
      have g5:=hK11.b
      have hR9:=(hR3.out.fr hf2).fr hf9a
      have q0:=hR9.a
      have q1:=hR9.fa
      have q2:=hR9.fb
      have hR10:=hR9.set0 (.string (tx 1))
      have q3:=hR10.b
      have q4:=hR10.fb
      have hR11:=hR10.set1 (.string (tx 2))
      have y0:=hZ hR11.a
      have y1:=hZ hR11.b
      have hfx9:Fx (·=rb) w6 ((w6.setCell ⟨rb,0,none⟩ (.string (tx 1))).setCell ⟨rb,1,none⟩ (.string (tx 2))):=Fx.setCell (p:=(·=rb)) (q:=⟨rb,1,none⟩) (Fx.setCell (p:=(·=rb)) (q:=⟨rb,0,none⟩) (Fx.refl _ _) (.inl rfl) _) (.inl rfl) _
      have hfin:=hZ (((Fx.of_fr (hfr2.trans hf9a)).trans hfx9).toFr (fun k hk e=>by have e:k=rb:=e; have:=hrb.out; omega))
      clear hR9 hR10 hR11 hfx9 hK11 hK10
      go_wp2_with fail
      have v0:=y0.out
      have v1:=y1.out
      exact AP (v:=.tuple #[.agg #[.string (tx 1),.string (tx 2)],.bool false]) (by simp [results,Tryz.results196,go_sem,v0,v1]) rfl ⟨rfl,hfin.out⟩
    ·exfalso
     obtain ⟨j,x,h1,h2,h3⟩:=hex.out
     exact h3 (hz.out j x h1 (by have:=(Ae.1 h2).1; have:=hn.out; omega) h2)
structure Vu (P A B:List Int) (fv:Int→Int) (q:Int):Prop where
 pr:BQ P=0
 la:P.length=A.length
 lb:P.length=B.length
 l6:P.length≤6
 sA:∀ x,x ∈ A→Sm x
 sB:∀ x,x ∈ B→Sm x
 bv:∀ (i:Nat) y,B[i]?=some y→y=if i=0 then 2 else 0
 a0:A[0]?=some 1
 ex:∃ (j:Nat) (x:Int),1≤j∧A[j]?=some x∧x≠0
 ne:Et P B≠[]
 fA:N6 fv 100000 (Et P A)
 fB:N6 fv 100000 (Et P B)
 x0:0≤JI fv (Et P A)
 x1:0≤JJ fv (Et P A)
 y0:1≤JI fv (Et P B)
 y1:1≤JJ fv (Et P B)
 q1:JI fv (Et P A) / JJ fv (Et P B)=q
 q2:JJ fv (Et P A) / JI fv (Et P B)=q
 qb:0≤q∧q≤1000000000
theorem Ok {P ns:List Int} (h:P.length=ns.length):(Et P ns).length≤P.length:=by
 rw [← Oj h]
 have:=KZ (P:=P) (ns:=ns) ns.length
 omega
theorem SG (P A B:List Int) (fv:Int→Int) (q:Int) (pa aa ba:Option Addr) (pc ac bc:Nat) (w:World) (h:Vu P A B fv q) (hP:El w iv pa P) (hA:GJ w aa A) (hB:GJ w ba B) (hG:G w) :
 Calls Tryz.prog 166 #[.slice pa P.length pc,.slice aa P.length ac,.slice ba P.length bc] w fun e w'=>e=.returned (.string (tx q))∧Fr w w':=by
 have hl6:=h.l6
 have hrt:=Sr A B aa ba ac bc w hA hB (by rw [← h.la,← h.lb]) (by rw [← h.la]; exact h.l6) h.bv h.a0 h.ex hG
 rw [← h.la,← h.lb] at hrt
 have htA:=hZ (fun W (hW:Fr w W)=>Hs P A pa aa pc ac W (hP.fr hW) (hA.fr hW) h.la (by rw [← h.la]; exact h.l6) h.sA (hG.fr hW))
 have htB:=hZ (fun W (hW:Fr w W)=>Hs P B pa ba pc bc W (hP.fr hW) (hB.fr hW) h.lb (by rw [← h.lb]; exact h.l6) h.sB (hG.fr hW))
 rw [← h.la] at htA
 rw [← h.lb] at htB
 have hLA:=Ok h.la
 have hLB:=Ok h.lb
 have hof:=hZ (fun W (hW:Fr w W)=>Cs q (by have:=h.qb; omega) (by have:=h.qb; omega) W (hG.fr hW))
 obtain ⟨n,hn⟩:∃ n,n=P.length:=⟨_,rfl⟩
 rw [← hn] at hl6 hrt htA htB hLA hLB ⊢
 have hqt:=hZ (fun (W:World) (p1 f1 p2 f2:Option Addr) (c1 g1 c2 g2:Nat) (h1:El W iv p1 ((Et P A).map Prod.fst)) (h2:El W sv f1 ((Et P A).map Prod.snd)) (h3:El W iv p2 ((Et P B).map Prod.fst)) (h4:El W sv f2 ((Et P B).map Prod.snd))=>
  Vk fv (Et P A) (Et P B) p1 f1 p2 f2 c1 g1 c2 g2 q W ⟨h1,h2,by omega⟩ ⟨h3,h4,by omega⟩ h.fA h.fB h.x0 h.x1 h.y0 h.y1 h.q1 h.q2)
 generalize Et P A=LA at *
 generalize Et P B=LB at *
 replace hrt:=hZ hrt
 replace hn:=hZ hn
 clear h hP hA hB hG
 go_enter Tryz.func166,Tryz.ntmps166
 go_wp2_with fail
 refine hrt.out.mono ?_
 rintro e w1 ⟨rfl,hf1⟩
 go_wp2_with fail
 have hf2:Fr w (w1.alloc (.cells #[.string (tx 1),.string (tx 2)] 221)):=hf1.alloc _
 refine (htA.out _ hf2).mono ?_
 rintro e w3 ⟨p1,f1,c1,g1,rfl,hE1,hE2,hf3⟩
 go_wp2_with fail
 refine (htB.out _ (hf2.trans hf3)).mono ?_
 rintro e w4 ⟨p2,f2,c2,g2,rfl,hE3,hE4,hf4⟩
 have hf4w:=(hf2.trans hf3).trans hf4
 have k1:=(C3.new w4 (.slice p1 LA.length c1) (.slice f1 LA.length g1) (.string (tx 1)) 256).fr ((Fr.refl _).alloc (.cells #[.slice p2 LB.length c2,.slice f2 LB.length g2,.string (tx 1)] 256))
 have k2:=C3.new (w4.alloc (.cells #[.slice p1 LA.length c1,.slice f1 LA.length g1,.string (tx 1)] 256)) (.slice p2 LB.length c2) (.slice f2 LB.length g2) (.string (tx 1)) 256
 rw [AF] at k2
 obtain ⟨W5,hW5⟩:∃ W5,W5=(w4.alloc (.cells #[.slice p1 LA.length c1,.slice f1 LA.length g1,.string (tx 1)] 256)).alloc (.cells #[.slice p2 LB.length c2,.slice f2 LB.length g2,.string (tx 1)] 256):=⟨_,rfl⟩
 have hf5:Fr w4 W5:=by rw [hW5]; exact ((Fr.refl _).alloc _).alloc _
 rw [← hW5] at k1 k2
 go_upto_region 5 with (fail)
 rw [← hW5]
 clear hW5
 have a0:=k1.a
 have a1:=k1.b
 have a2:=k1.c
 have b0:=k2.a
 have b1:=k2.b
 have b2:=k2.c
 have hq:=hZ (hqt.out W5 p1 f1 p2 f2 c1 g1 c2 g2 ((hE1.fr hf4).fr hf5) ((hE2.fr hf4).fr hf5) (hE3.fr hf5) (hE4.fr hf5))
 have hf5w:=hf4w.trans hf5
 clear k1 k2 hE1 hE2 hE3 hE4 hqt
 go_wp2_with fail
 refine hq.out.mono ?_
 rintro e w6 ⟨rfl,hf6⟩
 go_wp2_with fail
 refine (hof.out _ (hf5w.trans hf6)).mono ?_
 rintro e w7 ⟨rfl,hf7⟩
 go_wp2_with fail
 go_ret
 exact ⟨rfl,(hf5w.trans hf6).trans hf7⟩
theorem S6 (P A B:List Int) (fv:Int→Int) (q:Int) (pa aa ba:Option Addr) (pc ac bc:Nat) (w:World) (h:Vu P A B fv q) (hP:El w iv pa P) (hA:GJ w aa A) (hB:GJ w ba B) (hG:G w) :
 Calls Tryz.prog 133 #[.slice pa P.length pc,.slice aa P.length ac,.slice ba P.length bc] w fun e w'=>e=.returned (.tuple #[.string (tx q),.int .i64 0])∧Fr w w':=by
 have hck:=hZ (QA P A B pa aa ba pc ac bc w hP h.pr hA hB h.la h.lb h.l6 h.sA h.sB h.ne hG)
 have hfl:=hZ (fun W (hW:Fr w W)=>SG P A B fv q pa aa ba pc ac bc W h (hP.fr hW) (hA.fr hW) (hB.fr hW) (hG.fr hW))
 generalize P.length=n at *
 clear h hP hA hB hG
 go_enter Tryz.func133,Tryz.ntmps133
 go_wp2_with fail
 refine hck.out.mono ?_
 rintro e w1 ⟨rfl,hf1⟩
 go_wp2_with fail
 refine (hfl.out _ hf1).mono ?_
 rintro e w2 ⟨rfl,hf2⟩
 go_wp2_with fail
 go_ret2
 exact ⟨rfl,hf1.trans hf2⟩
theorem XN:(Tryz.prog.info? 221).map (fun i=>(i.zero,i.size,i.bytes))=some (some (.agg #[.string ⟨#[]⟩,.string ⟨#[]⟩]),2,32):=by kernel_rfl
def S1 (W:World) (g:Nat) (xs:List (Value×Value)):Prop:=∀ j x,xs[j]?=some x→W.cell? ⟨g,j * 2,none⟩=some x.1∧W.cell? ⟨g,j * 2+1,none⟩=some x.2∧W.frozen? ⟨g,j * 2,none⟩=false∧W.frozen? ⟨g,j * 2+1,none⟩=false
theorem S1.fr {W W':World} {g:Nat} {xs:List (Value×Value)} (h:S1 W g xs) (k:Fr W W'):S1 W' g xs:=fun j x hx=>by
 obtain ⟨h1,h2,h3,h4⟩:=h j x hx
 exact ⟨k.keep h1,k.keep h2,k.keepf h1 h3,k.keepf h2 h4⟩
theorem S1.set {W:World} {g:Nat} {xs:List (Value×Value)} (h:S1 W g xs) {i:Nat} (hi:i < xs.length) (u v:Value):S1 ((W.setCell ⟨g,i * 2,none⟩ u).setCell ⟨g,i * 2+1,none⟩ v) g (xs.set i (u,v)):=fun j x hx=>by
 rw [Am,Am,Am,Am]
 by_cases e:i=j
 ·subst e
  rw [Gg hi] at hx
  injection hx with hx
  subst hx
  obtain ⟨h1,h2,h3,h4⟩:=h i _ (Ac hi)
  obtain ⟨q0,q1,-,-⟩:=Jw W g (i * 2) u v _ _ h1 h2
  exact ⟨q0,q1,h3,h4⟩
 ·rw [ZP e] at hx
  obtain ⟨h1,h2,h3,h4⟩:=h j x hx
  refine ⟨?_, ?_,h3,h4⟩
  ·rw [Ad _ _ _ _ (Gb (by omega)),Ad _ _ _ _ (Gb (by omega))]; exact h1
  ·rw [Ad _ _ _ _ (Gb (by omega)),Ad _ _ _ _ (Gb (by omega))]; exact h2
theorem S1.prs {W:World} {g:Nat} {ns:List Int} (h:S1 W g (ns.map fun n=>(sv n,sv 1))) (hg:g < W.heap.size):GJ W (some ⟨g,0,none⟩) ns :=
 .inr ⟨g,0,rfl,hg,fun i x hx=>by
  obtain ⟨h1,h2,-,-⟩:=h i x hx
  rw [AN]; exact ⟨h1,h2⟩⟩
theorem OP (s:Value) (m j:Nat) (h:j < m):(madeCells #[s,s] m).toList[j]?=some s:=by
 rw [Array.getElem?_toList]
 unfold madeCells
 simp [h]
 have:j % 2=0∨j % 2=1:=by omega
 rcases this with e | e <;> rw [e] <;> rfl
def FQ (n:Nat) (a:Int) (i:Nat) (b:Int) (k:Nat):List Int :=
 if i=k then ((List.replicate n 0).set i a).set i (a+b) else if b=0 then (List.replicate n 0).set i a else ((List.replicate n 0).set i a).set k b
theorem HC (l:List Int) (i:Nat) (a:Int):(l.set i a).map (fun n=>(sv n,sv 1))=(l.map fun n=>(sv n,sv 1)).set i (sv a,sv 1):=Fk
def QL (w:World) (L:List Int) (e:Ending) (w':World):Prop:=∃ g c,e=.returned (.slice (some ⟨g,0,none⟩) L.length c)∧GJ w' (some ⟨g,0,none⟩) L∧Fr w w'
theorem OS (n:Nat) (pa:Option Addr) (pc:Nat) (a b:Int) (i k:Nat) (w:World) (hi:i < n) (hk:k < n) (hn:n≤1000) (ha:-1000000000≤a∧a≤1000000000) (hb:-1000000000≤b∧b≤1000000000) (hG:G w) :
 Calls Tryz.prog 134 #[.slice pa n pc,.int .i64 a,.int .i64 i,.int .i64 b,.int .i64 k] w fun e w'=>QL w (FQ n a i b k) e w':=by
 obtain ⟨i0,ji,jz0,jz1,jz2⟩:=AZ XN
 have hof:=hZ (fun (x:Int) (h:-1000000000000≤x∧x≤1000000000000) W (hW:Fr w W)=>Cs x (by omega) (by omega) W (hG.fr hW))
 have e0:sv 0=.string ⟨#[48]⟩:=by unfold sv; rw [HP]
 have e1:sv 1=.string ⟨#[49]⟩:=by unfold sv; rw [Fo]
 replace e0:=hZ e0
 replace e1:=hZ e1
 clear hG
 obtain ⟨ha1,ha2⟩:=ha
 obtain ⟨hb1,hb2⟩:=hb
 go_enter Tryz.func134,Tryz.ntmps134
 go_wp2_with (at_make; refine Dk _ rfl _ _ 193 rfl w.heap.size 221 i0 _ 2 Tryz.underlying193 ji jz0 jz1 _ _ _ _ n (by rfl) (by rfl) (by omega) (by omega) (by rw [jz2]; omega) (by unfold maxLen; omega) (Ah _) ?_; intro w2 hown2 hgr2)
 have hf2:Fr w w2:=(Fr.refl w).grown hgr2 (fun k e=>by cases e)
 have hO:S1 w2 w.heap.size (List.replicate n (.string ⟨#[]⟩,.string ⟨#[]⟩)):=fun j x hx=>by
  have hj:j < n:=by have:=(Ae.1 hx).1; rw [AO] at this; exact this
  rw [Cc,Ai hj] at hx
  injection hx with hx
  subst hx
  exact ⟨(hown2.cellAt (j * 2) (by omega)).trans (OP _ _ _ (by omega)),(hown2.cellAt (j * 2+1) (by omega)).trans (OP _ _ _ (by omega)),hown2.frozenAt _,hown2.frozenAt _⟩
 have hg2:w.heap.size < w2.heap.size:=by
  obtain ⟨-,-,h2,-,-⟩:=Bo hown2
  exact h2
 clear hown2 hgr2
 go_wp2_with fail
 go_loopg [18] n (fun kk s18 wr=>∃ (t:Nat) (xs:List (Value×Value)),s18=.int .i64 t∧t+kk=n∧Hid (xs.length=n)∧Hid (∀ j,j < t→xs[j]?=some (sv 0,sv 1))∧Hid (S1 wr w.heap.size xs)∧Fr w wr∧w.heap.size < wr.heap.size)
 case atStart=>exact ⟨0,_,rfl,by omega,AO ..,fun j h=>absurd h (Bj _),hO,hf2,hg2⟩
 case round=>
  clear hO hg2
  obtain ⟨t,xs,rfl,htk,hxl,hxs,hO,hfr,hg2⟩:=hrel
  obtain ⟨wo,rfl⟩:∃ wo:World,wo=wr:=⟨_,rfl⟩
  obtain ⟨kv,rfl⟩:∃ kv:Nat,kv=gk:=⟨_,rfl⟩
  by_cases ht:t < n
  ·have hd:decide (t < n)=true:=Ab ht
   have hd2:decide ((t:Int) < (n:Int))=true:=Ab (by omega)
   have z0:(0:Int)≤(t:Int):=by omega
   have z1:(t:Int) < (n:Int):=by omega
   obtain ⟨x,hx⟩:∃ x,xs[t]?=some x:=⟨_,Ac (by rw [hxl.out]; exact ht)⟩
   obtain ⟨p1,p2,p3,p4⟩:=hO.out t x hx
   obtain ⟨q0,q1,q2,q3⟩:=Jw wo w.heap.size (t * 2) (.string ⟨#[48]⟩) (.string ⟨#[49]⟩) _ _ p1 p2
   have q4:(wo.setCell ⟨w.heap.size,t * 2,none⟩ (.string ⟨#[48]⟩)).frozen? ⟨w.heap.size,t * 2+1,none⟩=false:=by rw [Am]; exact p4
   have hO2:=hZ (hO.out.set (i:=t) (by rw [hxl.out]; exact ht) (.string ⟨#[48]⟩) (.string ⟨#[49]⟩))
   replace hx:=hZ hx
   replace q3:=hZ q3
   clear q0 q1
   go_wp2_with fail
   go_roundg (kv - 1)
   case measure=>omega
   case rel=>
    refine ⟨t+1,_,by go_num,by omega,hZ (by rw [A0]; exact hxl.out),hZ (fun j hj=>?_),hO2,((Fx.of_fr hfr).trans q3.out).toFr (fun k hk e=>by have e:k=w.heap.size:=e; omega),by simpa using hg2⟩
    by_cases e:t=j
    ·subst e; rw [Gg (by rw [hxl.out]; exact ht),e0.out,e1.out]
    ·rw [ZP e]; exact hxs.out j (by omega)
  ·have hd:decide (t < n)=false:=Aa ht
   have hd2:decide ((t:Int) < (n:Int))=false:=Aa (by omega)
   have hxsE:xs=(List.replicate n (0:Int)).map fun n=>(sv n,sv 1):=by
    rw [En]
    refine DI fun j=>?_
    by_cases hj:j < n
    ·rw [hxs.out j (by omega),Cc,Ai hj]
    ·rw [A3 (by rw [hxl.out]; omega),A3 (by rw [AO]; omega)]
   have hO1:=hO.out
   rw [hxsE] at hO1
   clear hxsE hxs hxl hO ht
   obtain ⟨L0,hL0⟩:∃ L0,L0=List.replicate n (0:Int):=⟨_,rfl⟩
   have hl0:L0.length=n:=by rw [hL0,AO]
   rw [← hL0] at hO1
   have hLr:∀ e w',QL w (if i=k then (L0.set i a).set i (a+b) else if b=0 then L0.set i a else (L0.set i a).set k b) e w'→QL w (FQ n a i b k) e w':=fun e w' h=>by unfold FQ; rw [← hL0]; exact h
   replace hL0:=hZ hL0
   replace hLr:=hZ hLr
   replace hO1:=hZ hO1
   have zi:(i:Int) < (n:Int):=by omega
   have zi0:(0:Int)≤(i:Int):=by omega
   have zk:(k:Int) < (n:Int):=by omega
   have zk0:(0:Int)≤(k:Int):=by omega
   go_wp2_with fail
   refine (hof.out a (by omega) _ hfr).mono ?_
   rintro e w5 ⟨rfl,hf5⟩
   have hO5:=hO1.out.fr hf5
   obtain ⟨p1,p2,p3,p4⟩:=hO5 i _ (by rw [At,Ac (by rw [hl0]; exact hi)]; rfl)
   obtain ⟨-,-,q2,q3⟩:=Jw w5 w.heap.size (i * 2) (.string (tx a)) (.string ⟨#[49]⟩) _ _ p1 p2
   have q4:(w5.setCell ⟨w.heap.size,i * 2,none⟩ (.string (tx a))).frozen? ⟨w.heap.size,i * 2+1,none⟩=false:=by rw [Am]; exact p4
   have hO6:=hO5.set (i:=i) (by rw [An,hl0]; exact hi) (sv a) (sv 1)
   rw [← HC] at hO6
   unfold sv at hO6
   rw [Fo] at hO6
   obtain ⟨W6,hW6⟩:∃ W6,W6=(w5.setCell ⟨w.heap.size,i * 2,none⟩ (.string (tx a))).setCell ⟨w.heap.size,i * 2+1,none⟩ (.string ⟨#[49]⟩):=⟨_,rfl⟩
   rw [← hW6] at hO6 q3
   have hz6:w.heap.size < W6.heap.size:=Aq (Aq hg2 hf5.size) q3.size
   have hf6:Fr w W6:=((Fx.of_fr (hfr.trans hf5)).trans q3).toFr (fun k hk e=>by have e:k=w.heap.size:=e; omega)
   go_upto_region 8 with (fail)
   rw [← hW6]
   clear hO5 p1 p2 p3 p4 q2 q3 q4 hW6
   by_cases hik:i=k
   ·replace hLr:=hLr.out
    rw [Ai hik] at hLr
    replace hLr:=hZ hLr
    have b1:((i:Int) == (k:Int))=true:=by rw [hik]; simp
    have kab:IntKind.i64.wrap (a+b)=a+b:=Ak _ (by omega)
    replace hik:=hZ hik
    go_wp2_with fail
    refine (hof.out (a+b) (by omega) _ hf6).mono ?_
    rintro e w7 ⟨rfl,hf7⟩
    have hO7:=hO6.fr hf7
    obtain ⟨p1,p2,p3,p4⟩:=hO7 i _ (by rw [At,Ac (by rw [A0,hl0]; exact hi)]; rfl)
    obtain ⟨-,-,q2,q3⟩:=Jw w7 w.heap.size (i * 2) (.string (tx (a+b))) (.string ⟨#[49]⟩) _ _ p1 p2
    have q4:(w7.setCell ⟨w.heap.size,i * 2,none⟩ (.string (tx (a+b)))).frozen? ⟨w.heap.size,i * 2+1,none⟩=false:=by rw [Am]; exact p4
    have hO8:=hO7.set (i:=i) (by rw [An,A0,hl0]; exact hi) (.string (tx (a+b))) (.string ⟨#[49]⟩)
    obtain ⟨W8,hW8⟩:∃ W8,W8=(w7.setCell ⟨w.heap.size,i * 2,none⟩ (.string (tx (a+b)))).setCell ⟨w.heap.size,i * 2+1,none⟩ (.string ⟨#[49]⟩):=⟨_,rfl⟩
    rw [← hW8] at hO8 q3
    have hz8:w.heap.size < W8.heap.size:=Aq (Aq hz6 hf7.size) q3.size
    have hf8:Fr w W8:=((Fx.of_fr (hf6.trans hf7)).trans q3).toFr (fun k hk e=>by have e:k=w.heap.size:=e; omega)
    replace hO8:=hZ hO8
    go_upto_region 13 with (fail)
    rw [← hW8]
    clear hO7 p1 p2 p3 p4 q2 q3 q4 hW8
    go_wp2_with fail
    go_ret
    refine hLr.out _ _ ⟨w.heap.size,n,by rw [A0,A0,hl0]; rfl,S1.prs ?_ hz8,hf8⟩
    rw [HC]
    unfold sv
    rw [Fo]
    exact hO8.out
   ·rw [Ag hik] at hLr
    have b1:((i:Int) == (k:Int))=false:=A2 (by omega)
    by_cases hb0:b=0
    ·rw [Ai hb0] at hLr
     have b2:(b == 0)=true:=by rw [hb0]; rfl
     have b3:(b != 0)=false:=by rw [hb0]; rfl
     replace hb0:=hZ hb0
     replace hik:=hZ hik
     replace hO6:=hZ hO6
     go_wp2_with fail
     go_ret
     refine hLr.out _ _ ⟨w.heap.size,n,by rw [A0,hl0]; rfl,S1.prs ?_ hz6,hf6⟩
     unfold sv
     rw [Fo]
     exact hO6.out
    ·rw [Ag hb0] at hLr
     have b2:(b == 0)=false:=A2 hb0
     have b3:(b != 0)=true:=by rw [bne,b2]; rfl
     replace hb0:=hZ hb0
     replace hik:=hZ hik
     go_wp2_with fail
     refine (hof.out b (by omega) _ hf6).mono ?_
     rintro e w7 ⟨rfl,hf7⟩
     have hO7:=hO6.fr hf7
     obtain ⟨p1,p2,p3,p4⟩:=hO7 k _ (by rw [At,Ac (by rw [A0,hl0]; exact hk)]; rfl)
     obtain ⟨-,-,q2,q3⟩:=Jw w7 w.heap.size (k * 2) (.string (tx b)) (.string ⟨#[49]⟩) _ _ p1 p2
     have q4:(w7.setCell ⟨w.heap.size,k * 2,none⟩ (.string (tx b))).frozen? ⟨w.heap.size,k * 2+1,none⟩=false:=by rw [Am]; exact p4
     have hO8:=hO7.set (i:=k) (by rw [An,A0,hl0]; exact hk) (.string (tx b)) (.string ⟨#[49]⟩)
     obtain ⟨W8,hW8⟩:∃ W8,W8=(w7.setCell ⟨w.heap.size,k * 2,none⟩ (.string (tx b))).setCell ⟨w.heap.size,k * 2+1,none⟩ (.string ⟨#[49]⟩):=⟨_,rfl⟩
     rw [← hW8] at hO8 q3
     have hz8:w.heap.size < W8.heap.size:=Aq (Aq hz6 hf7.size) q3.size
     have hf8:Fr w W8:=((Fx.of_fr (hf6.trans hf7)).trans q3).toFr (fun k hk e=>by have e:k=w.heap.size:=e; omega)
     replace hO8:=hZ hO8
     go_upto_region 13 with (fail)
     rw [← hW8]
     clear hO7 p1 p2 p3 p4 q2 q3 q4 hW8
     go_wp2_with fail
     go_ret
     refine hLr.out _ _ ⟨w.heap.size,n,by rw [A0,A0,hl0]; rfl,S1.prs ?_ hz8,hf8⟩
     rw [HC]
     unfold sv
     rw [Fo]
     exact hO8.out
def Xe:List (Int×Int):=[(2,67108864),(3,106365032),(5,155821956),(7,188398399),(11,232158526),(13,248332305),(17,274304987),(19,285073589),(23,303571104),(29,326013585),(31,332470486),(37,349600497),(41,359539228),(43,364150463),(47,372762147),(53,384394234),(59,394777492),(61,398005045),(67,407088354),(71,412702543),(73,415392094),(79,423039564),(83,427821654),(89,434579114),(97,442912653)]
def Oe (p:Int):Int:=(Xe.lookup p).getD 0
def TX:List Int:=Xe.map Prod.fst
theorem Uv {n:Int} (h:G5 n=true):n ∈ TX:=by
 have hb:2≤n∧n≤97:=by
  unfold G5 at h
  by_cases hc:n < 2∨97 < n
  ·rw [Ai hc] at h; cases h
  ·omega
 have key:∀ m:Fin 98,G5 ((m.val:Nat):Int)=true→((m.val:Nat):Int) ∈ TX:=by decide +kernel
 have:=key ⟨n.toNat,by omega⟩
 simp only at this
 rw [show ((n.toNat:Nat):Int)=n by omega] at this
 exact this h
def Xf (p:Nat):Bool:=decide (Lib.bitLen p=Nat.log2 p+1∧Nat.log2 p≤60∧p * 2 ^ (62 - Nat.log2 p) < 18446744073709551616∧0≤Oe p∧Oe p≤1000000000) && (Lx 26 (p * 2 ^ (62 - Nat.log2 p)) (p * 2 ^ (62 - Nat.log2 p)) (Nat.log2 p) == some (Oe p).toNat)
theorem UF:∀ p,p ∈ TX→0≤p∧Xf p.toNat=true:=by decide +kernel
theorem RD (p:Int) (h:G5 p=true):0≤Oe p∧Oe p≤1000000000∧∀ W,Calls Tryz.prog 250 #[.int .i64 p] W fun e w'=>e=.returned (.tuple #[.int .i64 (Oe p),.bool true])∧Fr W w':=by
 obtain ⟨h0,hk⟩:=UF p (Uv h)
 unfold Xf at hk
 rw [Bm] at hk
 obtain ⟨k1,k2⟩:=hk
 obtain ⟨a1,a2,a3,a4,a5⟩:=AL k1
 rw [show ((p.toNat:Nat):Int)=p by omega] at a4 a5 k2
 refine ⟨a4,a5,fun W=>?_⟩
 have hf:=Vv p.toNat _ _ W a1 a2 a3 (eq_of_beq k2)
 rw [show ((p.toNat:Nat):Int)=p by omega,show (((Oe p).toNat:Nat):Int)=Oe p by omega] at hf
 exact hf
def qA (p0 p s:Int):List (Int×Int):=[(p0,1),(p,2 * s)]
def qB (p0:Int):List (Int×Int):=[(p0,2)]
def qV (p0 p s:Int):Int:=JI Oe (qA p0 p s) / JJ Oe (qB p0)
def Zj (p0 p s:Int):Bool:=decide (0≤JI Oe (qA p0 p s)∧0≤JJ Oe (qA p0 p s)∧1≤JI Oe (qB p0)∧1≤JJ Oe (qB p0)∧JJ Oe (qA p0 p s) / JI Oe (qB p0)=qV p0 p s∧0≤qV p0 p s∧qV p0 p s≤1000000000)
def BM (P:List Int) (s:Int):List Int:=match P with
 | []=>[]
 | p0 :: r=>s :: r.map fun p=>qV p0 p s
def FP (P:List Int) (s:Int):Bool:=match P with
 | []=>true
 | p0 :: r=>r.all fun p=>Zj p0 p s
theorem JN:∀ (r:List Int),((r.zip (List.replicate r.length (0:Int))).filter fun x=>decide (x.2≠0))=[]
 | []=>rfl
 | x :: r=>by
   rw [Aw,Fs,FS,FY (by simp)]
   exact JN r
theorem Pc:∀ (r:List Int) (j:Nat) (p h:Int),r[j]?=some p→h≠0→((r.zip ((List.replicate r.length (0:Int)).set j h)).filter fun x=>decide (x.2≠0))=[(p,h)]
 | [],j,p,h,hp,_=>by simp at hp
 | x :: r,0,p,h,hp,hh=>by
   have hp:x=p:=by simpa using hp
   subst hp
   rw [Aw,Fs,Au,FS,D8 (by simpa using hh),JN r]
 | x :: r,j+1,p,h,hp,hh=>by
   rw [Aw,Fs,AA,FS,FY (by simp)]
   exact Pc r j p h (by simpa using hp) hh
theorem OT (n j:Nat) (h:Int):FQ (n+1) h (j+1) 1 0=1 :: (List.replicate n 0).set j h:=by
 unfold FQ
 rw [Ag (by omega),Ag (by decide),Fs,AA,Au]
theorem Rq (n:Nat):FQ (n+1) 2 0 0 0=2 :: List.replicate n 0:=by
 unfold FQ
 rw [Ai rfl,Fs,Au,Au]; rfl
theorem Oi {p0:Int} {r:List Int} {j:Nat} {p s:Int} (hp:r[j]?=some p) (hs:s≠0):Et (p0 :: r) (FQ (r.length+1) (2 * s) (j+1) 1 0)=qA p0 p s:=by
 rw [OT]
 unfold Et qA
 rw [FS,D8 (by simp),Pc r j p (2 * s) hp (by omega)]
theorem My (p0:Int) (r:List Int):Et (p0 :: r) (FQ (r.length+1) 2 0 0 0)=qB p0:=by
 rw [Rq]
 unfold Et qB
 rw [FS,D8 (by simp),JN r]
theorem Rk:∀ (l:List Int) (o:Option Int),OA o l=0→∀ x,x ∈ l→G5 x=true
 | [],_,_,x,hx=>by cases hx
 | y :: l,o,h,x,hx=>by
   cases hy:G5 y with
   | false=>rw [Rm hy] at h; cases h
   | true=>
     rcases Bu.1 hx with rfl | hx
     ·exact hy
     ·refine Rk l (some y) ?_ x hx
      cases o with
      | none=>rw [Rj hy] at h; exact h
      | some z=>
        by_cases hz:y≤z
        ·rw [Rl hy hz] at h; cases h
        ·rw [T0 hy hz] at h; exact h
theorem CV {P:List Int} (h:BQ P=0):1≤P.length∧P.length≤6∧∀ x,x ∈ P→G5 x=true:=by
 unfold BQ at h
 by_cases h1:P.length=0
 ·rw [Ai h1] at h; cases h
 ·rw [Ag h1] at h
  by_cases h2:6 < P.length
  ·rw [Ai h2] at h; cases h
  ·rw [Ag h2] at h
   exact ⟨by omega,by omega,Rk P none h⟩
theorem XP {p0:Int} {r:List Int} {j:Nat} {p s:Int} (hp:r[j]?=some p) (hs:1≤s∧s≤50000) (hE:BQ (p0 :: r)=0) (hq:Zj p0 p s=true) :
 Vu (p0 :: r) (FQ (r.length+1) (2 * s) (j+1) 1 0) (FQ (r.length+1) 2 0 0 0) Oe (qV p0 p s):=by
 obtain ⟨h1,h6,hm⟩:=CV hE
 have hj:=(Ae.1 hp).1
 obtain ⟨q1,q2,q3,q4,q5,q6,q7⟩:=AL hq
 have hP:=RD p (hm p (BI _ (Af hp)))
 have hP0:=RD p0 (hm p0 BC)
 rw [Aw] at h6
 refine ⟨hE, ?_, ?_,by rw [Aw]; exact h6, ?_, ?_, ?_, ?_, ?_, ?_, ?_, ?_, ?_, ?_, ?_, ?_, ?_, ?_,⟨q6,q7⟩⟩
 ·rw [OT]; simp
 ·rw [Rq]; simp
 ·rw [OT]
  intro x hx
  rcases Bu.1 hx with rfl | hx
  ·unfold Sm; decide
  ·rcases Cf hx with hx | rfl
   ·rw [(QY.1 hx).2]; unfold Sm; decide
   ·unfold Sm; omega
 ·rw [Rq]
  intro x hx
  rcases Bu.1 hx with rfl | hx
  ·unfold Sm; decide
  ·rw [(QY.1 hx).2]; unfold Sm; decide
 ·rw [Rq]
  intro i y hy
  cases i with
  | zero=>rw [Ai rfl]; simpa using hy.symm
  | succ i=>
    rw [Ag (by omega)]
    rw [Kz] at hy
    exact (QY.1 (Af hy)).2
 ·rw [OT]; rfl
 ·refine ⟨j+1,2 * s,by omega, ?_,by omega⟩
  rw [OT,Kz,Gg (by rw [AO]; exact hj)]
 ·rw [My]; unfold qB; simp
 ·rw [Oi hp (by omega)]
  intro x hx
  unfold qA at hx
  rcases Bu.1 hx with rfl | hx
  ·exact ⟨by simp,by simp,hP0.1,hP0.2.1,hP0.2.2⟩
  ·rw [AX.1 hx]
   exact ⟨by simp only; omega,by simp only; omega,hP.1,hP.2.1,hP.2.2⟩
 ·rw [My]
  intro x hx
  unfold qB at hx
  rw [AX.1 hx]
  exact ⟨by simp,by simp,hP0.1,hP0.2.1,hP0.2.2⟩
 ·rw [Oi hp (by omega)]; exact q1
 ·rw [Oi hp (by omega)]; exact q2
 ·rw [My]; exact q3
 ·rw [My]; exact q4
 ·rw [Oi hp (by omega),My]; rfl
 ·rw [Oi hp (by omega),My]; exact q5
end Go.Proofs.YtiniigadkknboaaGreatDoor
