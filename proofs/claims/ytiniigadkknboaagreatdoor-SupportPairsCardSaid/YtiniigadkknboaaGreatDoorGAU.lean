/- Contracts and laws: GAU. -/
import Derived.Test.YtiniigadkknboaaGreatDoorGAT
import Derived.Test.YtiniigadkknboaaGreatDoorGAD
import Derived.Test.YtiniigadkknboaaGreatDoorGAG

set_option maxRecDepth 100000
set_option maxHeartbeats 2000000
namespace Go.Proofs.YtiniigadkknboaaGreatDoor
open Go.RowKit Go.Lib
attribute [local go_sem ↓] Go.wp_at_zero Go.wp_at_succ
theorem GG.mats {w:World} {base:Nat} {E:TypeId} {v:Value} {hs:List (Nat×Nat×Nat)} {g:List (List Int)} (h:GG w base E v hs g):∃ a c,v=.slice a g.length c∧H9 w a g:=by
 obtain ⟨a,c,rfl,h2⟩:=C9 h.own
 refine ⟨a,c,rfl, ?_⟩
 rcases h2 with h2 | ⟨g0,rfl⟩
 ·exact .inl (Bf h2)
 ·have:=h.grid.1.mats g.length
  rw [Kx] at this
  exact this
theorem Bz.take {w:World} {ob oo:Nat} {hs:List (Nat×Nat×Nat)} {g:List (List Int)} (h:Bz w ob oo hs g) (t:Nat):Bz w ob oo (hs.take t) (g.take t):=by
 have key:∀ {α:Type} {l:List α} {i:Nat} {x:α},(l.take t)[i]?=some x→l[i]?=some x:=fun {α l i x} hx=>by
  rw [Bp] at hx
  split at hx
  ·exact hx
  ·cases hx
 exact ⟨by rw [Av,Av,h.len],h.outer,h.gob,fun i hd xs h1 h2=>h.cell i hd xs (key h1) (key h2),fun i hd xs h1 h2=>h.row i hd xs (key h1) (key h2),fun i j hi hj h1 h2=>h.apart i j hi hj (key h1) (key h2)⟩
theorem J9 (B n:Nat) (v:Value) (g:List (List Int)) (w:World) (hG:G w) (hv:LG w B v g) (hl:g.length≤1000000) (hr:∀ r,r ∈ g→r.length≤1000000) (hb:∀ r,r ∈ g→∀ x,x ∈ r→Bq x=true) :
 Calls Tryz.prog 91 #[v,.int .i64 n] w (N4 w n g):=by
 rcases hv with ⟨rfl,rfl⟩ | ⟨ob,oc,hs,gF,tF,rfl,hg,h2,-,rfl,-⟩
 ·exact (JA n w).mono fun e w' ⟨he,hf⟩=>⟨none,0,he,fun W _=>.inl rfl,hf⟩
 ·have:=Si ob oc tF n (hs.take tF) (gF.take tF) w hG (hg.take tF) hl (by rw [Av]; omega) hr hb
  rw [Ao (by rw [Av]; omega)] at this
  exact this
def Hb (w:World) (n:Nat) (a:Option Addr) (k c:Nat):Prop:=∀ W,Fr w W→Calls Tryz.prog 65 #[.agg #[.int .i64 n,.slice a k c]] W fun e w'=>e=.returned (.int .i64 0)∧Fr W w'
def Dc (F n:Nat) (m:List (List Int)):Option (List (List Int)) :=
 (CF F (m.length+n) 0 (D3 n m) 0).bind fun r=>(CF F n 0 (DX m.length (r.1.take r.2)) 0).map fun q=>q.1.take q.2
theorem Lo {F n:Nat} {m K:List (List Int)} (h:Dc F n m=some K):∃ gW tW gK tK,CF F (m.length+n) 0 (D3 n m) 0=some (gW,tW)∧CF F n 0 (DX m.length (gW.take tW)) 0=some (gK,tK)∧gK.take tK=K:=by
 unfold Dc at h
 obtain ⟨⟨gW,tW⟩,h1,h2⟩:=AY.1 h
 obtain ⟨⟨gK,tK⟩,h3,h4⟩:=BO.1 h2
 exact ⟨gW,tW,gK,tK,h1,h3,h4⟩
theorem Ep (m K:List (List Int)) (a:Option Addr) (cap n F:Nat) (w:World) (hG:G w) (hm:H9 w a m) (hr:Bx n m) (hn:1≤n) (hn2:n≤1000) (hl:m.length≤1000) (hk:Dc F n m=some K) :
 Calls Tryz.prog 92 #[.slice a m.length cap,.int .i64 n] w fun e w'=>∃ v,e=.returned v∧LG w' w.heap.size v K∧Fr w w':=by
 obtain ⟨gW,tW,gK,tK,h1,h2,rfl⟩:=Lo hk
 exact OY m gW gK a cap n F F tW tK w hG hm hr hn hn2 hl h1 h2
theorem Te (m K:List (List Int)) (a:Option Addr) (cap n F:Nat) (w:World) (hG:G w) (hm:A5 w a m) (hC:Hb w n a m.length cap) (hr:Bx n m) (hn:1≤n) (hn2:n≤12) (hl:m.length≤12) (hsm:∀ r,r ∈ m→∀ x,x ∈ r→Sm x)
 (hk:Dc F n m=some K) (hKl:K.length≤1000000) (hKr:∀ r,r ∈ K→r.length≤1000000) (hKf:∀ r,r ∈ K→∀ x,x ∈ r→Bq x=true) :
 Calls Tryz.prog 49 #[.agg #[.int .i64 n,.slice a m.length cap]] w (N4 w n K):=by
 obtain ⟨k,hkl⟩:∃ k,k=m.length:=⟨_,rfl⟩
 have hlo:=fun W (hW:Fr w W)=>Fi m a cap W (hG.fr hW) (hm.fr hW) (fun r hrm=>by rw [hr r hrm]; omega) (by omega) hsm
 have hke:=fun W a' c' (hW:Fr w W) (hx:H9 W a' m)=>Ep m K a' c' n F W (hG.fr hW) hx hr hn (by omega) (by omega) hk
 have hsh:=fun W B v (hW:Fr w W) (hx:LG W B v K)=>J9 B n v K W (hG.fr hW) hx hKl hKr hKf
 obtain ⟨wb,hwb⟩:∃ wb,wb=Ef w [(.cells #[.int .i64 n,.slice a m.length cap] 76),(.cells #[.int .i64 0,.slice none 0 0] 76)]:=⟨_,rfl⟩
 have hfb:Fr w wb:=by rw [hwb]; exact EG _ w
 have g0:wb.heap[w.heap.size]?=some (.cells #[.int .i64 n,.slice a m.length cap] 76 (0,0)):=by rw [hwb]; exact Cu _ w 0 _ rfl
 have g1:wb.heap[w.heap.size+1]?=some (.cells #[.int .i64 0,.slice none 0 0] 76 (0,0)):=by rw [hwb]; exact Cu _ w 1 _ rfl
 have b0:wb.cell? ⟨w.heap.size,0,none⟩=some (.int .i64 n):=A1 g0 0
 have b1:wb.cell? ⟨w.heap.size,1,none⟩=some (.slice a m.length cap):=A1 g0 1
 have q4:wb.cell? ⟨w.heap.size+1,0,none⟩=some (.int .i64 0):=A1 g1 0
 have q5:wb.cell? ⟨w.heap.size+1,1,none⟩=some (.slice none 0 0):=A1 g1 1
 have q6:wb.frozen? ⟨w.heap.size+1,0,none⟩=false:=by unfold World.frozen?; rw [g1]; rfl
 have q7:wb.frozen? ⟨w.heap.size+1,1,none⟩=false:=by unfold World.frozen?; rw [g1]; rfl
 clear g0 g1
 have hC1:=hC wb hfb
 rw [← hkl] at hlo hke hC1 b1 hwb ⊢
 replace hC1:=hZ hC1
 replace hlo:=hZ hlo
 replace hke:=hZ hke
 replace hsh:=hZ hsh
 replace hkl:=hZ hkl
 clear hC hm hr hk hsm hKl hKr hKf
 go_enter Tryz.func49,Tryz.ntmps49
 go_upto_region 1 with (fail)
 change Code.wp _ _ _ _ (Ef w [(.cells #[.int .i64 n,.slice a k cap] 76),(.cells #[.int .i64 0,.slice none 0 0] 76)])
 rw [← hwb]
 clear hwb
 go_wp2_with fail
 refine hC1.out.mono ?_
 rintro e w2 ⟨rfl,hf2⟩
 replace q6:=hf2.keepf q4 q6
 replace q7:=hf2.keepf q5 q7
 replace q4:=hf2.keep q4
 replace q5:=hf2.keep q5
 replace b0:=hf2.keep b0
 replace b1:=hf2.keep b1
 replace q4:=hZ q4
 replace q5:=hZ q5
 replace q6:=hZ q6
 replace q7:=hZ q7
 have hfw:=hfb.trans hf2
 clear hfb hf2 hC1
 go_wp2_with fail
 go_region_held3 (fun w'=>w'.cell? ⟨w.heap.size,0,none⟩=some (.int .i64 n)∧w'.cell? ⟨w.heap.size,1,none⟩=some (.slice a k cap))
  (first | go_keep | (go_split_ands; refine ⟨?_, ?_⟩ <;> (refine Fr.keep (by assumption) ?_; assumption)) | (refine Gk _ _ _ _ _ _ _ ⟨by assumption,by assumption⟩ (by omega)))
  (first
   | (go_at_call 89; (with_reducible refine (hlo.out _ ?_).mono ?_); (exact B9); rintro e w3 ⟨v3,hs3,rfl,hgg3,-,hf3⟩; obtain ⟨a3,c3,hv3,hm3⟩:=hgg3.mats; rw [← hkl.out] at hv3; subst hv3; replace hm3:=hZ hm3; clear hgg3)
   | (go_at_call 92; (with_reducible refine (hke.out _ _ _ ?_ hm3.out).mono ?_); (exact B9); rintro e w4 ⟨v4,rfl,hl4,hf4⟩; replace hl4:=hZ hl4)
   | (go_at_call 91; (with_reducible refine (hsh.out _ _ _ ?_ hl4.out).mono ?_); (exact B9); rintro e w5 ⟨a5,c5,rfl,hm5,hf5⟩; replace hm5:=hZ hm5; have hfz:Fr w2 w5:=(by exact B9); have t4:=hfz.keep q4.out; have t5:=hfz.keep q5.out; have t6:=hfz.keepf q4.out q6.out; have t7:=hfz.keepf q5.out q7.out; have qs:=Cq w5 (w.heap.size+1) (.int .i64 n) (.slice a5 K.length c5) _ _ t4 t5; have q8:=qs.2.2.1; have u0:=hZ qs.1; have u1:=hZ qs.2.1; have hfx:=hZ qs.2.2.2; clear qs))
 have hsz4:=(show Fr w2 w4 by exact B9).size
 have hszb:w.heap.size+1 < w2.heap.size:=A6 w2 ⟨w.heap.size+1,0,none⟩ q4.out
 clear q8 t4 t5 t6 t7
 go_wp2_with fail
 have v0:=u0.out
 have v1:=u1.out
 refine AP (v:=.tuple #[.agg #[.int .i64 n,.slice a5 K.length c5],.int .i64 0]) (by simp [results,Tryz.results49,go_sem,v0,v1]) rfl ⟨a5,c5,rfl, ?_, ?_⟩
 ·intro W hW
  exact hm5.out W ((hfx.out.mono (fun k e=>by have e:k=w.heap.size+1:=e; show k < _; omega)).trans (hW.mono (fun k e=>by have e:k < w.heap.size:=e; show k < _; omega)))
 ·exact ((Fx.of_fr (p:=fun q=>q=w.heap.size+1) (hfw.trans hfz)).trans hfx.out).toFr (fun q hq e=>by have e:q=w.heap.size+1:=e; omega)
theorem SV (m K1 K:List (List Int)) (a:Option Addr) (cap n F:Nat) (w:World) (hG:G w) (hm:A5 w a m) (hC:Hb w n a m.length cap) (hr:Bx n m) (hn:1≤n) (hn2:n≤12) (hl:m.length≤12) (hsm:∀ r,r ∈ m→∀ x,x ∈ r→Sm x)
 (hk:Dc F n m=some K1) (hk2:Dc F n K1=some K) (hr1:Bx n K1) (hl1:K1.length≤1000) (hKl:K.length≤1000000) (hKr:∀ r,r ∈ K→r.length≤1000000) (hKf:∀ r,r ∈ K→∀ x,x ∈ r→Bq x=true) :
 Calls Tryz.prog 50 #[.agg #[.int .i64 n,.slice a m.length cap]] w (N4 w n K):=by
 obtain ⟨k,hkl⟩:∃ k,k=m.length:=⟨_,rfl⟩
 have hlo:=fun W (hW:Fr w W)=>Fi m a cap W (hG.fr hW) (hm.fr hW) (fun r hrm=>by rw [hr r hrm]; omega) (by omega) hsm
 have hke:=fun W a' c' (hW:Fr w W) (hx:H9 W a' m)=>Ep m K1 a' c' n F W (hG.fr hW) hx hr hn (by omega) (by omega) hk
 have hkf:=fun W a' c' (hW:Fr w W) (hx:H9 W a' K1)=>Ep K1 K a' c' n F W (hG.fr hW) hx hr1 hn (by omega) hl1 hk2
 have hsh:=fun W B v (hW:Fr w W) (hx:LG W B v K)=>J9 B n v K W (hG.fr hW) hx hKl hKr hKf
 obtain ⟨wb,hwb⟩:∃ wb,wb=Ef w [(.cells #[.int .i64 n,.slice a m.length cap] 76),(.cells #[.int .i64 0,.slice none 0 0] 76)]:=⟨_,rfl⟩
 have hfb:Fr w wb:=by rw [hwb]; exact EG _ w
 have g0:wb.heap[w.heap.size]?=some (.cells #[.int .i64 n,.slice a m.length cap] 76 (0,0)):=by rw [hwb]; exact Cu _ w 0 _ rfl
 have g1:wb.heap[w.heap.size+1]?=some (.cells #[.int .i64 0,.slice none 0 0] 76 (0,0)):=by rw [hwb]; exact Cu _ w 1 _ rfl
 have b0:wb.cell? ⟨w.heap.size,0,none⟩=some (.int .i64 n):=A1 g0 0
 have b1:wb.cell? ⟨w.heap.size,1,none⟩=some (.slice a m.length cap):=A1 g0 1
 have q4:wb.cell? ⟨w.heap.size+1,0,none⟩=some (.int .i64 0):=A1 g1 0
 have q5:wb.cell? ⟨w.heap.size+1,1,none⟩=some (.slice none 0 0):=A1 g1 1
 have q6:wb.frozen? ⟨w.heap.size+1,0,none⟩=false:=by unfold World.frozen?; rw [g1]; rfl
 have q7:wb.frozen? ⟨w.heap.size+1,1,none⟩=false:=by unfold World.frozen?; rw [g1]; rfl
 clear g0 g1
 have hC1:=hC wb hfb
 rw [← hkl] at hlo hke hC1 b1 hwb ⊢
 replace hC1:=hZ hC1
 replace hlo:=hZ hlo
 replace hke:=hZ hke
 replace hkf:=hZ hkf
 replace hsh:=hZ hsh
 replace hkl:=hZ hkl
 clear hC hm hr hk hk2 hr1 hl1 hsm hKl hKr hKf
 go_enter Tryz.func50,Tryz.ntmps50
 go_upto_region 1 with (fail)
 change Code.wp _ _ _ _ (Ef w [(.cells #[.int .i64 n,.slice a k cap] 76),(.cells #[.int .i64 0,.slice none 0 0] 76)])
 rw [← hwb]
 clear hwb
 go_wp2_with fail
 refine hC1.out.mono ?_
 rintro e w2 ⟨rfl,hf2⟩
 replace q6:=hf2.keepf q4 q6
 replace q7:=hf2.keepf q5 q7
 replace q4:=hf2.keep q4
 replace q5:=hf2.keep q5
 replace b0:=hf2.keep b0
 replace b1:=hf2.keep b1
 replace q4:=hZ q4
 replace q5:=hZ q5
 replace q6:=hZ q6
 replace q7:=hZ q7
 have hfw:=hfb.trans hf2
 clear hfb hf2 hC1
 go_wp2_with fail
 go_region_held3 (fun w'=>w'.cell? ⟨w.heap.size,0,none⟩=some (.int .i64 n)∧w'.cell? ⟨w.heap.size,1,none⟩=some (.slice a k cap))
  (first | go_keep | (go_split_ands; refine ⟨?_, ?_⟩ <;> (refine Fr.keep (by assumption) ?_; assumption)) | (refine Gk _ _ _ _ _ _ _ ⟨by assumption,by assumption⟩ (by omega)))
  (first
   | (go_at_call 89; (with_reducible refine (hlo.out _ ?_).mono ?_); (exact B9); rintro e w3 ⟨v3,hs3,rfl,hgg3,-,hf3⟩; obtain ⟨a3,c3,hv3,hm3⟩:=hgg3.mats; rw [← hkl.out] at hv3; subst hv3; replace hm3:=hZ hm3; clear hgg3)
   | (go_at_call 92; (with_reducible refine (hkf.out _ _ _ ?_ hm6.out).mono ?_); (exact B9); rintro e w4 ⟨v4,rfl,hl4,hf4⟩; replace hl4:=hZ hl4)
   | (go_at_call 92; (with_reducible refine (hke.out _ _ _ ?_ hm3.out).mono ?_); (exact B9); rintro e w6 ⟨v6,rfl,hl6,hf6⟩; obtain ⟨a6,c6,hv6,hm6⟩:=hl6.mats; subst hv6; replace hm6:=hZ hm6; clear hl6)
   | (go_at_call 91; (with_reducible refine (hsh.out _ _ _ ?_ hl4.out).mono ?_); (exact B9); rintro e w5 ⟨a5,c5,rfl,hm5,hf5⟩; replace hm5:=hZ hm5; have hfz:Fr w2 w5:=(by exact B9); have t4:=hfz.keep q4.out; have t5:=hfz.keep q5.out; have t6:=hfz.keepf q4.out q6.out; have t7:=hfz.keepf q5.out q7.out; have qs:=Cq w5 (w.heap.size+1) (.int .i64 n) (.slice a5 K.length c5) _ _ t4 t5; have q8:=qs.2.2.1; have u0:=hZ qs.1; have u1:=hZ qs.2.1; have hfx:=hZ qs.2.2.2; clear qs))
 have hsz4:=(show Fr w2 w4 by exact B9).size
 have hszb:w.heap.size+1 < w2.heap.size:=A6 w2 ⟨w.heap.size+1,0,none⟩ q4.out
 clear q8 t4 t5 t6 t7
 go_wp2_with fail
 have v0:=u0.out
 have v1:=u1.out
 refine AP (v:=.tuple #[.agg #[.int .i64 n,.slice a5 K.length c5],.int .i64 0]) (by simp [results,Tryz.results50,go_sem,v0,v1]) rfl ⟨a5,c5,rfl, ?_, ?_⟩
 ·intro W hW
  exact hm5.out W ((hfx.out.mono (fun k e=>by have e:k=w.heap.size+1:=e; show k < _; omega)).trans (hW.mono (fun k e=>by have e:k < w.heap.size:=e; show k < _; omega)))
 ·exact ((Fx.of_fr (p:=fun q=>q=w.heap.size+1) (hfw.trans hfz)).trans hfx.out).toFr (fun q hq e=>by have e:q=w.heap.size+1:=e; omega)
theorem Uh {xs:List Int} {p:Nat} (h0:∀ k,k < p→(xs[k]?).getD 0=0) (h1:(xs[p]?).getD 0≠0):HD xs=p:=by
 unfold HD
 rcases JL (fun x:Int=>x != 0) xs with ⟨-,h⟩ | ⟨k,x,h2,h3,h4,h5⟩
 ·exfalso
  cases e:xs[p]? with
  | none=>rw [e] at h1; exact h1 rfl
  | some y=>
    rw [e] at h1
    have:=h y (Af e)
    simp at this
    exact h1 this
 ·rw [h2]
  have h4:x≠0:=by simpa using h4
  by_cases e1:k < p
  ·have:=h0 k e1; rw [h3] at this; exact absurd this h4
  ·by_cases e2:p < k
   ·cases e:xs[p]? with
    | none=>rw [e] at h1; exact absurd rfl h1
    | some y=>
      rw [e] at h1
      have:=h5 p y e2 e
      simp at this
      exact absurd this h1
   ·omega
theorem FU.lead {p:Nat→Nat} {c t:Nat} {g:List (List Int)} (h:FU p c t g) {i:Nat} (hi:i < t):HD (BT g i)=p i :=
 Uh (fun k hk=>h.low i hi k hk) (by have:=h.pos i hi; show AC g i (p i)≠0; omega)
theorem UR {p:Nat→Nat} {d:Nat}:∀ a,(∀ i j,i < j→j < a→p i < p j)→∃ r,r≤a∧∀ i,i < a→(p i < d ↔ i < r)
 | 0,_=>⟨0,Ah _,fun i h=>absurd h (Bj _)⟩
 | a+1,h=>by
   obtain ⟨r,h1,h2⟩:=UR a (fun i j x y=>h i j x (by omega))
   by_cases e:p a < d
   ·refine ⟨a+1,Ah _,fun i hi=>⟨fun _=>hi,fun _=>?_⟩⟩
    by_cases e2:i=a
    ·rw [e2]; exact e
    ·have:=h i a (by omega) (by omega); omega
   ·refine ⟨r,by omega,fun i hi=>?_⟩
    by_cases e2:i=a
    ·rw [e2]; exact ⟨fun x=>absurd x e,fun x=>by omega⟩
    ·exact h2 i (by omega)
theorem HF {α:Type} (P:α→Bool):∀ (l:List α) (r:Nat),(∀ i x,l[i]?=some x→(P x=true ↔ r≤i))→l.filter P=l.drop r
 | [],r,_=>by simp
 | x :: l,0,h=>by
   have h0:=(h 0 x rfl).2 (Ck _)
   rw [D8 h0,HF P l 0 (fun i y hy=>⟨fun _=>Ck _,fun _=>(h (i+1) y hy).2 (Ck _)⟩)]; rfl
 | x :: l,r+1,h=>by
   have h0:¬ P x=true:=fun hp=>by have:=(h 0 x rfl).1 hp; omega
   rw [FY h0,HF P l r (fun i y hy=>by
    have:=h (i+1) y hy
    exact ⟨fun q=>by have:=this.1 q; omega,fun q=>this.2 (by omega)⟩)]; rfl
theorem UI {g:List (List Int)} {K:Nat} (h:∀ r,r ∈ g→∀ x,x ∈ r→x.natAbs≤K) (i k:Nat):(AC g i k).natAbs≤K:=by
 unfold AC BT
 cases e:g[i]? with
 | none=>simp
 | some r=>
   rw [BB]
   cases e2:r[k]? with
   | none=>simp
   | some x=>exact h r (Af e) x (Af e2)
theorem U0 {g:List (List Int)} {K:Nat} (h:∀ i,i < g.length→∀ k,(AC g i k).natAbs≤K):∀ r,r ∈ g→∀ x,x ∈ r→x.natAbs≤K:=fun r hr x hx=>by
 obtain ⟨i,hi⟩:=BJ hr
 obtain ⟨k,hk⟩:=BJ hx
 have:=h i (Ae.1 hi).1 k
 unfold AC BT at this
 rw [hi,BB,hk] at this
 exact this
theorem Uo {p:Nat→Nat} {N t d:Nat} {g:List (List Int)} (_hr:Bx N g) (he:FU p N t g) (hd:d≤N):∃ r,r≤t∧(∀ i,i < t→(p i < d ↔ i < r))∧(DX d (g.take t)).length=t - r∧(∀ i,i < t - r→∀ k,AC (DX d (g.take t)) i k=AC g (r+i) (d+k))∧FU (fun i=>p (r+i) - d) (N - d) (t - r) (DX d (g.take t)):=by
 obtain ⟨r,r1,r2⟩:=UR (p:=p) (d:=d) t he.inc
 have hlt:=he.le
 have hk:DX d (g.take t)=((g.take t).drop r).map (·.drop d):=by
  unfold DX
  rw [HF _ _ r fun i x hx=>?_]
  have hi:=(Ae.1 hx).1
  rw [Av] at hi
  rw [Bp,Ai (by omega)] at hx
  have e:x=BT g i:=by unfold BT; rw [hx]; rfl
  rw [decide_eq_true_iff,e,he.lead (by omega)]
  have:=r2 i (by omega)
  constructor
  ·intro h9
   exact AB fun h8=>by have:=this.2 (by omega); omega
  ·intro h9
   exact AB fun h8=>by have:=this.1 (by omega); omega
 have hl:(DX d (g.take t)).length=t - r:=by rw [hk,An,CJ,Av]; omega
 have hent:∀ i,i < t - r→∀ k,AC (DX d (g.take t)) i k=AC g (r+i) (d+k):=fun i hi k=>by
  unfold AC BT
  have e:(DX d (g.take t))[i]?=some ((g[r+i]'(by omega)).drop d):=by
   rw [hk,At,IC,Bp,Ai (by omega),Ac (by omega)]; rfl
  rw [e,Ac (show r+i < g.length by omega),BB,BB,IC]
 have hpd:∀ i,i < t - r→d≤p (r+i):=fun i hi=>AB fun h9=>by
  have:=(r2 (r+i) (by omega)).1 (by omega); omega
 refine ⟨r,r1,r2,hl,hent,by omega,fun i a b=>by omega,fun i hi=>?_,fun i j hij hj=>?_,fun i hi=>?_,fun i hi k hk2=>?_,fun i j hij hj=>?_⟩
 ·have:=he.lt (r+i) (by omega); have:=hpd i hi
  show p (r+i) - d < N - d
  omega
 ·have:=he.inc (r+i) (r+j) (by omega) (by omega); have:=hpd i (by omega)
  show p (r+i) - d < p (r+j) - d
  omega
 ·rw [hent i hi,show d+(p (r+i) - d)=p (r+i) by have:=hpd i hi; omega]; exact he.pos _ (by omega)
 ·have hk2:k < p (r+i) - d:=hk2
  rw [hent i hi]; exact he.low _ (by omega) _ (by omega)
 ·rw [hent i (by omega),hent j hj,show d+(p (r+j) - d)=p (r+j) by have:=hpd j hj; omega]; exact he.up _ _ (by omega) (by omega)
theorem Tm {n K:Nat} {m:List (List Int)} (hK:1≤K) (h:∀ r,r ∈ m→∀ x,x ∈ r→x.natAbs≤K):∀ r,r ∈ D3 n m→∀ x,x ∈ r→x.natAbs≤K:=fun r hr x hx=>by
 obtain ⟨c,-,rfl⟩:=Bc.1 hr
 rcases BD.1 hx with h1 | h1
 ·obtain ⟨y,hy,rfl⟩:=Bc.1 h1
  cases e:y[c]? with
  | none=>simp
  | some z=>exact h y hy z (Af e)
 ·unfold Dy at h1
  have:=Cf h1
  rcases this with h2 | h2
  ·have:=B7 h2; omega
  ·omega
structure PI (F n d B:Nat) (m gW K:List (List Int)) (p:Nat→Nat) (t r:Nat):Prop where
 wide:N0 n (AC (D3 n m)) (AC gW)
 rect:Bx (d+n) gW
 len:gW.length=n
 ech:FU p (d+n) t gW
 cut:r≤t
 low:∀ i,i < t→(p i < d ↔ i < r)
 klen:K.length=t - r
 krect:Bx n K
 kent:∀ i,i < t - r→∀ k,AC K i k=AC gW (r+i) (d+k)
 kech:FU (fun i=>p (r+i) - d) n K.length K
 kbd:∀ r,r ∈ K→∀ x,x ∈ r→x.natAbs≤B
 out:Dc F n m=some K
theorem Um {F n B:Nat} {m:List (List Int)} (hK:1≤B) (h:∀ r,r ∈ m→∀ x,x ∈ r→x.natAbs≤B) (hZ:Lr n B < Mm) (hF:Lr n B < F):∃ gW K p t r,PI F n m.length (Lr n B) m gW K p t r:=by
 have hw:=Tm (n:=n) hK h
 obtain ⟨gW,tW,h1,h2⟩:=HZ (F:=F) (m:=n) (m.length+n) 0 0 B (D3 n m) (Ip n m) (Jv n m) hK (by rw [DD]; exact hZ) (by rw [DD]; exact hF) (fun i _ k=>UI hw i k)
 obtain ⟨p,e1,e2,e3,e4⟩:=GC _ 0 0 (D3 n m) gW tW (fun _=>0) (Ip n m) (FU.init _ _) h1
 rw [AN] at e1
 rw [Jv] at e3 e4
 rw [DD] at h2
 obtain ⟨r,r1,r2,r3,r4,r5⟩:=Uo e2 e1 (show m.length≤m.length+n by omega)
 have hrK:Bx n (DX m.length (gW.take tW)):=by have:=MQ (n:=m.length) e2 tW; rwa [show m.length+n - m.length=n by omega] at this
 rw [show m.length+n - m.length=n by omega,← r3] at r5
 have hle:=e1.le
 have hbK:∀ i,i < (DX m.length (gW.take tW)).length→∀ k,(AC (DX m.length (gW.take tW)) i k).natAbs≤Lr n B:=fun i hi k=>by
  rw [r3] at hi
  rw [r4 i hi]; exact h2 _ (by omega) _
 cases F with
 | zero=>omega
 | succ F=>
   have hfix:=JM (F:=F) hrK r5 (fun i hi k=>Hu (A4 (hbK i hi k) hZ)) n 0 0 (by omega) (Ck _) (fun i _=>⟨fun h9=>absurd h9 (Bj _),fun h9=>absurd h9 (Bj _)⟩)
   refine ⟨gW,DX m.length (gW.take tW),p,tW,r,e4,e2,e3,e1,r1,r2,r3,hrK,r4,r5,U0 hbK, ?_⟩
   unfold Dc
   rw [h1]
   show (CF (F+1) n 0 (DX m.length (gW.take tW)) 0).map _=_
   rw [hfix]
   show some ((DX m.length (gW.take tW)).take (DX m.length (gW.take tW)).length)=_
   rw [Kx]
def Dn (f g:Nat→Int):Nat→Int
 | 0=>0
 | k+1=>Dn f g k+f k * g k
theorem F9 (f g h:Nat→Int):∀ n,Dn (fun j=>f j+g j) h n=Dn f h n+Dn g h n
 | 0=>rfl
 | n+1=>by show Dn _ h n+(f n+g n) * h n=Dn f h n+f n * h n+(Dn g h n+g n * h n); rw [F9 f g h n,VS]; omega
theorem Ec (a:Int) (f h:Nat→Int):∀ n,Dn (fun j=>a * f j) h n=a * Dn f h n
 | 0=>by show (0:Int)=a * 0; omega
 | n+1=>by show Dn _ h n+a * f n * h n=a * (Dn f h n+f n * h n); rw [Ec a f h n,Oc,P3]
theorem Es (h:Nat→Int):∀ n,Dn (fun _=>0) h n=0
 | 0=>rfl
 | n+1=>by show Dn _ h n+0 * h n=0; rw [Es h n]; omega
theorem CT {f g f' g':Nat→Int}:∀ {n:Nat},(∀ j,j < n→f j=f' j∧g j=g' j)→Dn f g n=Dn f' g' n
 | 0,_=>rfl
 | n+1,h=>by
   show Dn f g n+f n * g n=Dn f' g' n+f' n * g' n
   rw [CT (fun j hj=>h j (by omega)),(h n (by omega)).1,(h n (by omega)).2]
theorem GD (D:Int) (k:Nat) (g:Nat→Int):∀ n,Dn (fun j=>if k=j then D else 0) g n=if k < n then D * g k else 0
 | 0=>by rw [Ag (Bj _)]; rfl
 | n+1=>by
   show Dn _ g n+(if k=n then D else 0) * g n=_
   rw [GD D k g n]
   by_cases h1:k < n
   ·rw [Ai h1,Ag (by omega),Ai (by omega)]; omega
   ·by_cases h2:k=n
    ·subst h2; rw [Ag h1,Ai rfl,Ai (by omega)]; omega
    ·rw [Ag h1,Ag h2,Ag (by omega)]; omega
theorem FR {f g:Nat→Int} {j:Nat}:∀ {n:Nat},(∀ i,i < n→i≠j→f i * g i=0)→Dn f g n=if j < n then f j * g j else 0
 | 0,_=>by rw [Ag (Bj _)]; rfl
 | n+1,h=>by
   show Dn f g n+f n * g n=_
   rw [FR (n:=n) (fun i a b=>h i (by omega) b)]
   by_cases e:n=j
   ·subst e; rw [Ag (by omega),Ai (by omega)]; omega
   ·rw [h n (by omega) e]
    by_cases e2:j < n
    ·rw [Ai e2,Ai (by omega)]; omega
    ·rw [Ag e2,Ag (by omega)]; rfl
theorem Eh {m:Nat} {E:Nat→Nat→Int} {x:Nat→Int} (h:DL m E x):∃ c:Nat→Int,∀ k,x k=Dn c (fun i=>E i k) m:=by
 induction h with
 | zero e=>exact ⟨fun _=>0,fun k=>by rw [e,Es]⟩
 | @add x y i q hi _ e ih=>
   obtain ⟨c,hc⟩:=ih
   refine ⟨fun j=>c j+if i=j then q else 0,fun k=>?_⟩
   have:=GD q i (fun i=>E i k) m
   rw [Ai hi] at this
   rw [e,hc,F9,this]
theorem Nq {m:Nat} {E:Nat→Nat→Int} (c:Nat→Int):∀ j,j≤m→DL m E fun k=>Dn c (fun i=>E i k) j
 | 0,_=>.zero fun _=>rfl
 | j+1,h=>.add j (c j) (by omega) (Nq c j (by omega)) fun _=>rfl
theorem FU.left {p:Nat→Nat} {N t:Nat} {g:List (List Int)} (h:FU p N t g) {c M:Nat} (hM:t≤M) (hMg:M≤g.length) (hcN:c≤N) {b:Nat→Int} (hb:∀ k,k < c→Dn b (fun i=>AC g i k) M=0):∀ n i,i≤n→i < t→p i < c→b i=0
 | n,i,hin,hi,hp=>by
   have hx:=hb (p i) hp
   rw [FR (j:=i) (fun j hj hij=>by
    by_cases e:j < i
    ·have hpj:=h.inc j i e hi
     match n,hin with
     | 0,hin=>omega
     | n+1,hin=>rw [h.left hM hMg hcN hb n j (by omega) (by omega) (by omega),CZ]
    ·by_cases e2:j < t
     ·rw [h.low j e2 (p i) (h.inc i j (by omega) e2),B0]
     ·rw [h.zero j (by omega) (by omega) (p i) (h.lt i hi),B0]),Ai (by omega)] at hx
   rcases FI.1 hx with h9 | h9
   ·exact h9
   ·have:=h.pos i hi; omega
theorem FU.zero_of {p:Nat→Nat} {N:Nat} {g:List (List Int)} (h:FU p N g.length g) {x:Nat→Int} (hx:DL g.length (AC g) x) (hs:∀ j,j < g.length→(x (p j)).natAbs < (AC g j (p j)).natAbs):∀ k,x k=0:=by
 obtain ⟨b,hb⟩:=Eh hx
 have key:∀ n j,j≤n→j < g.length→b j=0:=fun n=>by
  induction n with
  | zero=>
    intro j hj hl
    obtain rfl:j=0:=by omega
    have h1:=hb (p 0)
    rw [FR (j:=0) (fun i hi hij=>by rw [h.low i hi (p 0) (h.inc 0 i (by omega) hi),B0]),Ai hl] at h1
    have h2:=hs 0 hl
    rw [h1,Be] at h2
    exact AB fun h9=>by
     have:=AU (AC g 0 (p 0)).natAbs (show 1≤(b 0).natAbs by omega)
     omega
  | succ n ih=>
    intro j hj hl
    by_cases e:j≤n
    ·exact ih j e hl
    ·have h1:=hb (p j)
     rw [FR (j:=j) (fun i hi hij=>by
      by_cases e:i < j
      ·rw [ih i (by omega) hi,CZ]
      ·rw [h.low i hi (p j) (h.inc j i (by omega) hi),B0]),Ai hl] at h1
     have h2:=hs j hl
     rw [h1,Be] at h2
     exact AB fun h9=>by
      have:=AU (AC g j (p j)).natAbs (show 1≤(b j).natAbs by omega)
      omega
 intro k
 rw [hb k]
 have:∀ q,q≤g.length→Dn b (fun i=>AC g i k) q=0:=fun q=>by
  induction q with
  | zero=>intro _; rfl
  | succ q ih=>intro hq; show Dn b (fun i=>AC g i k) q+b q * AC g q k=0; rw [ih (by omega),key q q (Ah _) (by omega),CZ]; rfl
 exact this _ (Ah _)
theorem FU.pivot_in {p q:Nat→Nat} {N:Nat} {g h:List (List Int)} (hg:FU p N g.length g) (hh:FU q N h.length h) (hs:∀ x,DL g.length (AC g) x→DL h.length (AC h) x) {i:Nat} (hi:i < g.length):∃ j,j < h.length∧q j=p i∧∃ b,AC g i (p i)=b * AC h j (p i):=by
 obtain ⟨b,hb⟩:=Eh (hs _ (DL.row hi))
 have hz:∀ k,k < p i→Dn b (fun l=>AC h l k) h.length=0:=fun k hk=>by rw [← hb k]; exact hg.low i hi k hk
 have hl:=hh.left (c:=p i) (Ah _) (Ah _) (Ch (hg.lt i hi)) hz
 have hp:=hb (p i)
 by_cases e:∃ j,j < h.length∧q j=p i
 ·obtain ⟨j,hj,hq⟩:=e
  refine ⟨j,hj,hq,b j, ?_⟩
  rw [hp,FR (j:=j) (fun l hl2 hlj=>by
   by_cases e:l < j
   ·rw [hl l l (Ah _) hl2 (by rw [← hq]; exact hh.inc l j e hj),CZ]
   ·rw [hh.low l hl2 (p i) (by rw [← hq]; exact hh.inc j l (by omega) hl2),B0]),Ai hj]
 ·exfalso
  have h0:∀ n,n≤h.length→Dn b (fun l=>AC h l (p i)) n=0:=fun n=>by
   induction n with
   | zero=>intro _; rfl
   | succ n ih=>
     intro hn
     show Dn b (fun l=>AC h l (p i)) n+b n * AC h n (p i)=0
     rw [ih (by omega)]
     by_cases e3:q n < p i
     ·rw [hl n n (Ah _) (by omega) e3,CZ]; rfl
     ·have:q n≠p i:=fun h9=>e ⟨n,by omega,h9⟩
      rw [hh.low n (by omega) (p i) (by omega),B0]; rfl
  rw [h0 _ (Ah _)] at hp
  have:=hg.pos i hi
  omega
theorem NL {p q:Nat→Nat} {a b:Nat} (hp:∀ i j,i < j→j < a→p i < p j) (hq:∀ i j,i < j→j < b→q i < q j) (h1:∀ i,i < a→∃ j,j < b∧q j=p i) (h2:∀ j,j < b→∃ i,i < a∧p i=q j):∀ n,n≤a→n≤b∧∀ i,i < n→p i=q i
 | 0,_=>⟨Ck _,fun i hi=>absurd hi (Bj _)⟩
 | n+1,hn=>by
   obtain ⟨h3,h4⟩:=NL hp hq h1 h2 n (by omega)
   obtain ⟨j,hj,hjq⟩:=h1 n (by omega)
   have hnj:n≤j:=AB fun h9=>by
    have e:=h4 j (by omega)
    have:=hp j n (by omega) (by omega)
    omega
   have hn2:n < b:=by omega
   obtain ⟨i,hi,hiq⟩:=h2 n hn2
   have hni:n≤i:=AB fun h9=>by
    have e:=h4 i (by omega)
    have:=hq i n (by omega) hn2
    omega
   have e:p n=q n:=by
    by_cases a1:j=n
    ·rw [← a1]; rw [a1] at hjq ⊢; exact hjq.symm
    ·have b1:=hq n j (by omega) hj
     by_cases a2:i=n
     ·rw [a2] at hiq; exact hiq
     ·have b2:=hp n i (by omega) hi
      omega
   exact ⟨hn2,fun i hi=>by
    by_cases c:i=n
    ·rw [c]; exact e
    ·exact h4 i (by omega)⟩
theorem FU.uniq {p q:Nat→Nat} {N:Nat} {g h:List (List Int)} (rg:Bx N g) (rh:Bx N h) (hg:FU p N g.length g) (hh:FU q N h.length h) (hs:∀ x,DL g.length (AC g) x ↔ DL h.length (AC h) x):g=h:=by
 have k1:=fun i (hi:i < g.length)=>hg.pivot_in hh (fun x=>(hs x).1) hi
 have k2:=fun j (hj:j < h.length)=>hh.pivot_in hg (fun x=>(hs x).2) hj
 have a1:=NL hg.inc hh.inc (fun i hi=>(k1 i hi).imp fun j h=>⟨h.1,h.2.1⟩) (fun j hj=>(k2 j hj).imp fun i h=>⟨h.1,h.2.1⟩) g.length (Ah _)
 have a2:=NL hh.inc hg.inc (fun j hj=>(k2 j hj).imp fun i h=>⟨h.1,h.2.1⟩) (fun i hi=>(k1 i hi).imp fun j h=>⟨h.1,h.2.1⟩) h.length (Ah _)
 have hl:g.length=h.length:=by omega
 have hp:=a1.2
 have hpiv:∀ i,i < g.length→AC g i (p i)=AC h i (p i):=fun i hi=>by
  obtain ⟨j,hj,hq,b,hb⟩:=k1 i hi
  obtain ⟨j2,hj2,hq2,b2,hb2⟩:=k2 i (by omega)
  have e1:j=i:=AB fun h9=>by
   rw [hp i hi] at hq
   by_cases e:j < i
   ·have:=hh.inc j i e (by omega); omega
   ·have:=hh.inc i j (by omega) hj; omega
  have e2:j2=i:=AB fun h9=>by
   rw [← hp i hi] at hq2
   by_cases e:j2 < i
   ·have:=hg.inc j2 i e hi; omega
   ·have:=hg.inc i j2 (by omega) hj2; omega
  rw [e1] at hb
  rw [e2,← hp i hi] at hb2
  have p1:=hg.pos i hi
  have p2:=hh.pos i (by omega)
  rw [← hp i hi] at p2
  have d1:AC h i (p i) ∣ AC g i (p i):=⟨b,by rw [hb,Fn]⟩
  have d2:AC g i (p i) ∣ AC h i (p i):=⟨b2,by rw [hb2,Fn]⟩
  have l1:=Int.le_of_dvd p1 d1
  have l2:=Int.le_of_dvd p2 d2
  omega
 have hrow:∀ i,i < g.length→∀ k,AC g i k=AC h i k:=fun i hi k=>by
  have hd:DL g.length (AC g) fun k=>AC g i k - AC h i k:=by
   have h1:=(hs _).2 (DL.row (E:=AC h) (i:=i) (by omega))
   have h2:=DL.addmul (-1) (DL.row (E:=AC g) hi) h1
   exact h2.congr fun k=>by omega
  have h0:=hg.zero_of hd (fun j hj=>by
   show (AC g i (p j) - AC h i (p j)).natAbs < _
   have pj:=hg.pos j hj
   by_cases e:j < i
   ·have h1:=hg.low i hi (p j) (hg.inc j i e hi)
    have h2:=hh.low i (by omega) (p j) (by rw [hp j hj]; exact hh.inc j i e (by omega))
    omega
   ·by_cases e2:j=i
    ·rw [e2] at pj ⊢; rw [hpiv i hi] at pj ⊢; omega
    ·have h1:=hg.up i j (by omega) hj
     have h2:=hh.up i j (by omega) (by omega)
     rw [← hp j hj,← hpiv j hj] at h2
     omega) k
  have h0:AC g i k - AC h i k=0:=h0
  omega
 refine VK hl fun i hi hi2=>?_
 have r1:=rg.row hi
 have r2:=rh.row hi2
 refine VK (by rw [r1,r2]) fun k hk hk2=>?_
 have:=hrow i hi k
 unfold AC BT at this
 rw [Ac hi,Ac hi2,BB,BB,Ac hk,Ac hk2] at this
 exact this
theorem J7 {n c:Nat} (m:List (List Int)) (hc:c < n):BT (D3 n m) c=Ij m c ++ Dy n c:=by unfold BT; rw [Mv m hc]; rfl
theorem KT {n c k:Nat} {m:List (List Int)} (hc:c < n) (hk:k < m.length):AC (D3 n m) c k=AC m k c:=by
 unfold AC
 rw [J7 m hc,Bt (by rw [GF]; exact hk)]
 unfold Ij BT
 rw [At,Ac hk]; rfl
theorem F1 {n c j:Nat} {m:List (List Int)} (hc:c < n) (hj:j < n):AC (D3 n m) c (m.length+j)=if c=j then 1 else 0:=by
 unfold AC
 rw [J7 m hc,Bi (by rw [GF]; omega),GF,show m.length+j - m.length=j by omega]
 unfold Dy
 rw [Cp]
 by_cases e:c=j
 ·rw [Ai e,Ai e,Ai (by rw [AO]; omega)]; rfl
 ·rw [Ag e,Ag e,Cc,Ai hj]; rfl
theorem Pj {b e:Nat→Int} {r:Nat} (h:∀ i,i < r→b i=0):∀ n,Dn b e (r+n)=Dn (fun i=>b (r+i)) (fun i=>e (r+i)) n
 | 0=>by
   show Dn b e r=0
   have:∀ q,q≤r→Dn b e q=0:=fun q=>by
    induction q with
    | zero=>intro _; rfl
    | succ q ih=>intro hq; show Dn b e q+b q * e q=0; rw [ih (by omega),h q (by omega),CZ]; rfl
   exact this r (Ah _)
 | n+1=>by
   show Dn b e (r+n)+b (r+n) * e (r+n)=_
   rw [Pj h n]; rfl
theorem Pi {b e:Nat→Int} {t:Nat}:∀ n,(∀ i,t≤i→i < t+n→b i * e i=0)→Dn b e (t+n)=Dn b e t
 | 0,_=>rfl
 | n+1,h=>by
   show Dn b e (t+n)+b (t+n) * e (t+n)=_
   rw [Pi n (fun i a c=>h i a (by omega)),h (t+n) (by omega) (by omega)]; omega
theorem CM (f g:Nat→Int):∀ n,Dn f g n=Dn g f n
 | 0=>rfl
 | n+1=>by show Dn f g n+f n * g n=Dn g f n+g n * f n; rw [CM f g n,Fn]
def Jh (n:Nat) (m:List (List Int)) (x:Nat→Int):Prop:=(∀ k,n≤k→x k=0)∧∀ i,i < m.length→Dn (AC m i) x n=0
theorem PI.spans {F n B:Nat} {m gW K:List (List Int)} {p:Nat→Nat} {t r:Nat} (h:PI F n m.length B m gW K p t r) (x:Nat→Int):DL K.length (AC K) x ↔ Jh n m x:=by
 have hlen:=h.len
 have hcut:=h.cut
 have hkl:=h.klen
 have hle:=h.ech.le
 have hK0:∀ i k,n≤k→AC K i k=0:=fun i k hk=>NU h.krect hk
 constructor
 ·intro hx
  -- each row of the kernel is orthogonal
  have hrow:∀ i,i < K.length→Jh n m (AC K i):=fun i hi=>by
   have hs:DL n (AC gW) (AC gW (r+i)):=DL.row (by omega)
   obtain ⟨a,ha⟩:=Eh ((Nk h.wide _).2 hs)
   have hr9:¬ p (r+i) < m.length:=fun h9=>by have:=(h.low (r+i) (by omega)).1 h9; omega
   have hac:∀ c,c < n→a c=AC K i c:=fun c hc=>by
    rw [h.kent i (by omega) c,ha (m.length+c),FR (j:=c) (fun l hl hlc=>by rw [F1 hl hc,Ag hlc,B0]),Ai hc,F1 hc hc,Ai rfl,VQ]
   refine ⟨fun k hk=>hK0 i k hk,fun k hk=>?_⟩
   have h1:=ha k
   rw [h.ech.low (r+i) (by omega) k (by omega)] at h1
   rw [CM,h1]
   exact CT fun c hc=>⟨(hac c hc).symm,(KT hc hk).symm⟩
  induction hx with
  | zero e=>exact ⟨fun k _=>e k,fun i _=>by rw [CM,CT (f':=fun _=>0) (g':=AC m i) (fun j _=>⟨e j,rfl⟩),Es]⟩
  | @add x y i q hi _ e ih=>
    have h2:=hrow i hi
    refine ⟨fun k hk=>by rw [e,ih.1 k hk,h2.1 k hk]; omega,fun j hj=>?_⟩
    rw [CM,CT (f':=fun k=>x k+q * AC K i k) (g':=AC m j) (fun k _=>⟨e k,rfl⟩),F9,Ec,CM,ih.2 j hj,CM,h2.2 j hj]; omega
 ·rintro ⟨hx0,hx⟩
  have h1:=(Nk h.wide _).1 (Nq (E:=AC (D3 n m)) x n (Ah _))
  obtain ⟨b,hb⟩:=Eh h1
  have hb0:∀ k,k < m.length→Dn b (fun i=>AC gW i k) n=0:=fun k hk=>by
   rw [← hb k,CT (f':=x) (g':=AC m k) (fun c hc=>⟨rfl,KT hc hk⟩),CM]
   exact hx k hk
  have hleft:=h.ech.left (c:=m.length) (M:=n) (by omega) (by omega) (by omega) hb0
  have hbr:∀ i,i < r→b i=0:=fun i hi=>hleft i i (Ah _) (by omega) ((h.low i (by omega)).2 hi)
  have hval:∀ c,c < n→x c=Dn (fun i=>b (r+i)) (fun i=>AC K i c) K.length:=fun c hc=>by
   have h2:=hb (m.length+c)
   rw [FR (j:=c) (fun l hl hlc=>by rw [F1 hl hc,Ag hlc,B0]),Ai hc,F1 hc hc,Ai rfl,VQ] at h2
   rw [h2]
   have e1:n=t+(n - t):=by omega
   rw [e1,Pi (n - t) (fun i a a2=>by rw [h.ech.zero i a (by omega) _ (by omega),B0])]
   have e2:t=r+(t - r):=by omega
   rw [e2,Pj hbr,hkl]
   exact CT fun i hi=>⟨rfl,(h.kent i hi c).symm⟩
  have:=Nq (m:=K.length) (E:=AC K) (fun i=>b (r+i)) K.length (Ah _)
  refine this.congr fun k=>?_
  by_cases hk:k < n
  ·exact hval k hk
  ·rw [hx0 k (by omega),CM,CT (f':=fun _=>0) (g':=fun i=>b (r+i)) (fun i _=>⟨hK0 i k (by omega),rfl⟩),Es]
theorem Qk {F n B1 B2 B3:Nat} {m g1 g2 g3 K1 K2 K3:List (List Int)} {p1 p2 p3:Nat→Nat} {t1 t2 t3 r1 r2 r3:Nat} (hm:Bx n m) (h1:PI F n m.length B1 m g1 K1 p1 t1 r1) (h2:PI F n K1.length B2 K1 g2 K2 p2 t2 r2) (h3:PI F n K2.length B3 K2 g3 K3 p3 t3 r3):K3=K1:=by
 refine FU.uniq h3.krect h1.krect h3.kech h1.kech fun x=>?_
 rw [h3.spans,h1.spans]
 constructor
 ·rintro ⟨a,b⟩
  refine ⟨a,fun i hi=>?_⟩
  -- a row of m is a sum of rows of K2
  have hmi:DL K2.length (AC K2) (AC m i):=(h2.spans _).2 ⟨fun k hk=>NU hm hk,fun j hj=>by
   rw [CM]; exact ((h1.spans _).1 (DL.row hj)).2 i hi⟩
  obtain ⟨c,hc⟩:=Eh hmi
  rw [CT (f':=fun k=>Dn c (fun l=>AC K2 l k) K2.length) (g':=x) (fun k _=>⟨hc k,rfl⟩)]
  have:∀ q,q≤K2.length→Dn (fun k=>Dn c (fun l=>AC K2 l k) q) x n=0:=fun q=>by
   induction q with
   | zero=>intro _; exact Es _ _
   | succ q ih=>
     intro hq
     show Dn (fun k=>Dn c (fun l=>AC K2 l k) q+c q * AC K2 q k) x n=0
     rw [F9,ih (by omega),Ec,b q (by omega)]; omega
  exact this _ (Ah _)
 ·rintro ⟨a,b⟩
  have hx:DL K1.length (AC K1) x:=(h1.spans _).2 ⟨a,b⟩
  refine ⟨a,fun i hi=>?_⟩
  have h9:=((h2.spans _).1 (DL.row hi)).2
  obtain ⟨c,hc⟩:=Eh hx
  rw [CM,CT (f':=fun k=>Dn c (fun l=>AC K1 l k) K1.length) (g':=AC K2 i) (fun k _=>⟨hc k,rfl⟩)]
  have:∀ q,q≤K1.length→Dn (fun k=>Dn c (fun l=>AC K1 l k) q) (AC K2 i) n=0:=fun q=>by
   induction q with
   | zero=>intro _; exact Es _ _
   | succ q ih=>
     intro hq
     show Dn (fun k=>Dn c (fun l=>AC K1 l k) q+c q * AC K1 q k) (AC K2 i) n=0
     rw [F9,ih (by omega),Ec,h9 q (by omega)]; omega
  exact this _ (Ah _)
end Go.Proofs.YtiniigadkknboaaGreatDoor
