/- Contracts and laws: GAC. -/
import Derived.Test.YtiniigadkknboaaGreatDoorGAB
import Derived.Laws.CopyOwn
import Derived.Laws.MakeOwn
import Derived.OwnWalk
import Derived.Deep.RegionHeld3
import Derived.Deep.RegionLaw
import Derived.WalkSpells

set_option maxRecDepth 100000
set_option maxHeartbeats 4000000
namespace Go.Proofs.YtiniigadkknboaaGreatDoor
open Go.RowKit Go.Lib
attribute [local go_sem ↓] Go.wp_at_zero Go.wp_at_succ
theorem TK:(Tryz.prog.info? 80).map (·.size)=some 1:=by kernel_rfl
theorem WK (n:Nat) (hn:n≤1000000) (w:World):Calls Tryz.prog 232 #[.int .u64 1,.int .u64 n] w fun e w'=>e=.returned (.tuple #[.int .u64 0,.int .u64 n])∧w=w':=by
 have h:=Tryz.bits_Mul 1 n (by decide) (by omega) w
 have e1:1 * n / 18446744073709551616=0:=by omega
 have e2:1 * n % 18446744073709551616=n:=by omega
 rw [e1,e2] at h
 exact h.mono fun e w' ⟨he,hw⟩=>⟨he,hw.symm⟩
theorem Ih {w:World} {base:Nat} {e:TypeId} {g n:Nat} {xs:List Value} (h:w.ownsRow base e 1 (.slice (some ⟨g,0,none⟩) n n) n xs):w.heap[g]?=some (.cells xs.toArray e (0,0))∧base≤g∧xs.length=n:=by
 obtain ⟨h1,h2⟩:=h
 rcases h2 with ⟨h2,_⟩ | ⟨g',cap',cur,hv,hg,hh,hn,hc,hs,ht⟩
 ·cases h2
 ·injection hv with hv1 hv2 hv3
  injection hv1 with hv1; injection hv1 with hv1
  subst hv1; subst hv3
  refine ⟨?_,hg,by simpa using h1⟩
  rw [hh,← ht,Ao (by simp [hs])]
theorem Ig {w:World} {base:Nat} {e:TypeId} {g n:Nat} {xs:List Value} (h:w.heap[g]?=some (.cells xs.toArray e (0,0))) (hb:base≤g) (hl:xs.length=n) (hm:n≤maxLen):w.ownsRow base e 1 (.slice (some ⟨g,0,none⟩) n n) n xs :=
 ⟨by simpa using hl,.inr ⟨g,n,xs.toArray,rfl,hb,h,Ah _,hm,by simpa using hl,by rw [← hl]; simp⟩⟩
theorem K8 {α:Type} (cur:List α) (z:α) (k m n:Nat) (hl:cur.length=n) (hk:cur.take k=List.replicate k z) (hm:k+m≤n):(splice cur k (List.replicate m z)).length=n∧(splice cur k (List.replicate m z)).take (k+m)=List.replicate (k+m) z:=by
 refine ⟨by rw [length_splice _ _ _ (by simp; omega),hl], ?_⟩
 unfold splice
 have h1:(cur.take k).length=k:=by rw [Av]; omega
 rw [hk,List.take_append,AO,CI,Ao (by simp),List.take_append,AO,LZ,N9,BE,Ao (by simp),List.replicate_append_replicate]
theorem XD {w:World} {b o:Nat} {v:Value} (h:w.cell? ⟨b,o,none⟩=some v):∀ j u,[v][j]?=some u→w.cell? ((⟨b,o,none⟩:Addr).add j)=some u:=fun j u hu=>by
 cases j with
 | zero=>simp at hu; subst hu; simpa [Addr.add] using h
 | succ j=>simp at hu
theorem XC {w:World} {g k m:Nat} {cur:List Value} {v:Value} {e:TypeId} (h:w.heap[g]?=some (.cells cur.toArray e (0,0))) (ht:cur.take k=List.replicate k v):∀ j u,(List.replicate (min k m) v)[j]?=some u→w.cell? ((⟨g,0,none⟩:Addr).add j)=some u:=fun j u hu=>by
 rw [Cc] at hu
 split at hu
 ·injection hu with hu; subst hu
  have hj:cur[j]?=some v:=by
   have:(cur.take k)[j]?=some v:=by rw [ht,Cc,Ai (by omega)]
   rw [Bp] at this
   split at this
   ·exact this
   ·simp at this
  have e1:((⟨g,0,none⟩:Addr).add j)=⟨g,j,none⟩:=by unfold Addr.add; split <;> simp_all
  rw [e1]
  simp [World.cell?,h,hj]
 ·simp at hu
theorem Wb (m:Nat) (z:Int):∀ v ∈ List.replicate m (sv z),v.oneCell'=true:=fun v h=>by rw [B7 h]; rfl
def WE (w:World) (n:Nat) (xs:List Value) (e:Ending) (w':World):Prop:=∃ g c,e=.returned (.slice (some ⟨g,0,none⟩) n c)∧Fr w w'∧w'.ownsRow w.heap.size 80 1 (.slice (some ⟨g,0,none⟩) n c) n xs
theorem QH (b o cp n:Nat) (z:Int) (w:World) (hn1:1≤n) (hn2:n≤1000000) (hc:w.cell? ⟨b,o,none⟩=some (sv z)) :
 Calls Tryz.prog 208 #[.slice (some ⟨b,o,none⟩) 1 cp,.int .i64 n] w (WE w n (List.replicate n (sv z))):=by
 obtain ⟨i0,hi,hz0,hz1,hz2⟩:=AZ Iy
 go_enter Tryz.func208,Tryz.ntmps208
 go_wp2_with fail
 refine (WK n hn2 _).mono ?_; rintro e w' ⟨rfl,rfl⟩
 go_wp2_with (first | (at_make; refine Dk _ rfl _ _ 119 rfl w.heap.size 80 i0 _ 1 Tryz.underlying119 hi hz0 hz1 _ _ _ _ n (by rfl) (by rfl) (by omega) (by omega) (by rw [hz2]; omega) (by unfold maxLen; omega) (Ah _) ?_; intro w2 hown2 hgr2; obtain ⟨hw2,-,hlen2⟩:=Ih hown2; have hf2:=(Fr.refl w).grown hgr2 (fun k e=>by cases e); generalize (madeCells (Value.cells (Value.string ⟨#[]⟩)) (n * 1)).toList=L at hown2 hw2 hlen2; replace hw2:=hZ hw2; replace hlen2:=hZ hlen2; have hc2:=hf2.keep hc; have hfB:Below w.heap.size w w2:=hf2) | ((with_reducible refine wpList_copy_splice (o:=⟨some 33,_,_,_,_,_⟩) rfl (.tmp 31) (.tmp 32) 119 119 ?ho 80 Tryz.underlying119 TK (some ⟨w.heap.size,0,none⟩) (some ⟨b,o,none⟩) n n 1 cp ?hd ?hs w.heap.size 0 L 80 hw2.out [sv z] ?hn ?hpos ?hfit ?h1 w.heap.size w hfB (Ah _) ?_); (try case ho=>rfl); (try case hd=>rfl); (try case hs=>rfl); (case hn=>exact (Db hn1).symm); (case hpos=>exact fun _=>⟨rfl,_,rfl,XD hc2⟩); (case hfit=>have:=hlen2.out; simp; omega); (case h1=>simp [Value.oneCell']); intro w3 hw3 hf3))
 have hst:=K8 L (sv z) 0 1 n hlen2.out (by simp) (by omega)
 replace hst:=hZ hst
 clear hown2 hw2 hc2 hfB hgr2 hf2
 go_loopg [8] n (fun m s8 wr=>∃ (k:Nat) (cur:List Value),s8=.int .i64 k∧1≤k∧k≤n∧n - k≤m∧Hid (wr.heap[w.heap.size]?=some (.cells cur.toArray 80 (0,0)))∧Hid (cur.length=n)∧Hid (cur.take k=List.replicate k (sv z))∧Fr w wr)
 case atStart=>exact ⟨1,splice L 0 [sv z],rfl,by omega,by omega,by omega,hw3,hst.out.1,hst.out.2,hf3⟩
 case round=>
  clear hw3 hf3 hst
  obtain ⟨k,cur,rfl,hk1,hk2,hm,hw,hlc,htk,hf⟩:=hrel
  by_cases hlt:k < n
  ·have z0:(0:Int)≤(k:Int):=Aj _
   have z1:(k:Int)≤(n:Int):=by omega
   have zne:¬ n=k:=by omega
   obtain ⟨c,hce⟩:∃ c,c=min k (n - k):=⟨_,rfl⟩
   have hc1:1≤c:=by omega
   have hc2:k+c≤n:=by omega
   replace hce:=hZ hce
   go_wp2_with fail
   have hBw:Below w.heap.size w wr.drew:=hf.drew
   have hww:wr.drew.heap[w.heap.size]?=some (.cells cur.toArray 80 (0,0)):=hw.out
   have hcs:∀ j u,(List.replicate c (sv z))[j]?=some u→wr.drew.cell? ((⟨w.heap.size,0,none⟩:Addr).add j)=some u:=by rw [hce.out]; exact XC hww htk.out
   replace hww:=hZ hww
   replace hcs:=hZ hcs
   go_region_held3 (fun _=>True) (exact trivial) ((refine step_copy_splice (by rfl) (.tmp 41) (.tmp 44) 119 119 (by rfl) 80 Tryz.underlying119 TK (some ⟨w.heap.size,k,none⟩) (some ⟨w.heap.size,0,none⟩) (n - k) (n - k) k n (by rfl) (by rfl) w.heap.size k cur 80 hww.out (List.replicate c (sv z)) (by rw [AO]; exact hce.out) (fun _=>⟨rfl,_,rfl,hcs.out⟩) (by have:=hlc.out; simp; omega) (Wb _ _) w.heap.size w hBw (Ah _) ?_; intro w4 hw4 hf4))
   have hsp:=K8 cur (sv z) k c n hlc.out htk.out hc2
   go_wp2_with fail
   go_roundg (gk - 1)
   case measure=>omega
   case rel=>exact ⟨k+c,splice cur k (List.replicate c (sv z)),by simp; exact Ak _ (by omega),by omega,by omega,by omega,hw4,hsp.1,hsp.2,hf4⟩
  ·have hd:decide (k < n)=false:=Aa hlt
   obtain rfl:k=n:=by omega
   have hcur:cur=List.replicate k (sv z):=by have:=htk.out; rw [Ao (by rw [hlc.out]; omega)] at this; exact this
   replace hcur:=hZ hcur
   go_wp2_with fail
   go_ret
   exact ⟨_,_,rfl,hf,by have h:=hw.out; rw [hcur.out] at h; exact Ig h (Ah _) (by simp) (by unfold maxLen; omega)⟩
def Dy (n i:Nat):List Int:=(List.replicate n 0).set i 1
theorem Hq (n i:Nat):(Dy n i).length=n:=by simp [Dy]
theorem Own.el {w:World} {b o:Nat} {xs:List Int} (h:Own w b o xs):El w sv (some ⟨b,o,none⟩) xs :=
 .inr ⟨b,o,rfl,h.2.1,fun i x hx=>(h.2.2 i x hx).1⟩
theorem Own.drop {w:World} {b o:Nat} {xs:List Int} (h:Own w b o xs) (n:Nat):Own w b (o+n) (xs.drop n) :=
 ⟨h.1,h.2.1,fun j x hx=>by rw [IC] at hx; have:=h.2.2 (n+j) x hx; rw [show o+n+j=o+(n+j) by omega]; exact this⟩
def IB (w:World) (b o:Nat) (xs:List Int):Prop :=
 gN≤b∧b < w.heap.size∧∀ j x,xs[j]?=some x→w.cell? ⟨b,o+j,none⟩=some (iv x)∧w.frozen? ⟨b,o+j,none⟩=false
theorem IB.fx {p:Nat→Prop} {w w':World} {b o:Nat} {xs:List Int} (h:IB w b o xs) (k:Fx p w w') (hp:¬ p b):IB w' b o xs :=
 ⟨h.1,Aq h.2.1 k.size,fun j x hx=>by rw [k.cell h.2.1 hp,k.frozen h.2.1 hp]; exact h.2.2 j x hx⟩
theorem IB.fr {w w':World} {b o:Nat} {xs:List Int} (h:IB w b o xs) (k:Fr w w'):IB w' b o xs :=
 h.fx (p:=fun _=>False) (Fx.of_fr k) (fun e=>e)
theorem IB.el {w:World} {b o:Nat} {xs:List Int} (h:IB w b o xs):El w iv (some ⟨b,o,none⟩) xs :=
 .inr ⟨b,o,rfl,h.2.1,fun i x hx=>(h.2.2 i x hx).1⟩
theorem DV {w:World} {base:Nat} {e:TypeId} {g n m cap:Nat} {xs:List Int} (hb:gN≤base) (h:w.ownsRow base e 1 (.slice (some ⟨g,0,none⟩) n cap) m (xs.map iv)):IB w g 0 xs∧n=m∧m=xs.length∧base≤g∧n≤cap:=by
 have h1:=h.1
 obtain ⟨a,b,c,d,f⟩:=Bo h
 refine ⟨⟨by omega,c,fun j x hx=>?_⟩,a,by simpa using h1.symm,b,d⟩
 have:=f j (iv x) (by rw [At,hx]; rfl)
 simpa using this
structure GI (w:World) (base:Nat) (E:TypeId) (v:Value) (hs:List (Nat×Nat×Nat)) (g:List (List Int)):Prop where
 gbase:gN≤base
 len:hs.length=g.length
 own:w.ownsRow base E 1 v g.length (Lt hs g)
 row:∀ (i:Nat) (h:Nat×Nat×Nat) (xs:List Int),hs[i]?=some h→g[i]?=some xs→IB w h.1 h.2.1 xs∧v.ownBlock≠some h.1
 apart:∀ (i j:Nat) (hi hj:Nat×Nat×Nat),hs[i]?=some hi→hs[j]?=some hj→i≠j→hi.1≠hj.1
theorem GI.nil (w:World) (base:Nat) (E:TypeId) (h:gN≤base):GI w base E (.slice none 0 0) [] [] :=
 ⟨h,rfl,Bl _ _ _ _,fun i h xs h1=>by simp at h1,fun i j hi hj h1=>by simp at h1⟩
theorem GI.fr {w w':World} {base:Nat} {E:TypeId} {v:Value} {hs:List (Nat×Nat×Nat)} {g:List (List Int)} (h:GI w base E v hs g) (k:Fr w w'):GI w' base E v hs g :=
 ⟨h.gbase,h.len,Bg h.own k,fun i hd xs h1 h2=>⟨(h.row i hd xs h1 h2).1.fr k,(h.row i hd xs h1 h2).2⟩,h.apart⟩
theorem GI.lt {w:World} {base:Nat} {E:TypeId} {v:Value} {hs:List (Nat×Nat×Nat)} {g:List (List Int)} (h:GI w base E v hs g):∀ hd,hd ∈ hs→hd.1 < w.heap.size:=fun hd hm=>by
 obtain ⟨i,hi⟩:=BJ hm
 have hl:i < g.length:=by rw [← h.len]; exact (Ae.1 hi).1
 exact (h.row i hd _ hi (Ac hl)).1.2.1
theorem GI.push {w w':World} {base:Nat} {E:TypeId} {v:Value} {hs:List (Nat×Nat×Nat)} {g:List (List Int)} (h:GI w base E v hs g) {hd:Nat×Nat×Nat} {xs:List Int} (ho:IB w hd.1 hd.2.1 xs)
 (hne:∀ h',h' ∈ hs→h'.1≠hd.1) (hv:v.ownBlock≠some hd.1) {gb cap:Nat} (hown:w'.ownsRow base E 1 (.slice (some ⟨gb,0,none⟩) (g.length+1) cap) (g.length+1) (Lt hs g ++ [Jq hd xs]))
 (hg:w.grownBy w' v.ownBlock) (hat:v.ownBlock=some gb∨w.heap.size≤gb):GI w' base E (.slice (some ⟨gb,0,none⟩) (g.length+1) cap) (hs ++ [hd]) (g ++ [xs]):=by
 have hfx:=Fx.of_grown hg
 have hrow:∀ (i:Nat) (h0:Nat×Nat×Nat) (ys:List Int),hs[i]?=some h0→g[i]?=some ys→IB w' h0.1 h0.2.1 ys∧gb≠h0.1:=fun i h0 ys h1 h2=>by
  obtain ⟨a,b⟩:=h.row i h0 ys h1 h2
  refine ⟨a.fx hfx (fun e=>b e), ?_⟩
  rcases hat with e | e
  ·intro e2; rw [e2] at e; exact b e
  ·have:=a.2.1; omega
 refine ⟨h.gbase,by simp [h.len], ?_,fun i h0 ys h1 h2=>?_,fun i j hi hj h1 h2 hij=>?_⟩
 ·rw [MT _ _ _ _ h.len]; simpa using hown
 ·by_cases hi:i < g.length
  ·rw [Bt (by rw [h.len]; exact hi)] at h1
   rw [Bt hi] at h2
   obtain ⟨a,b⟩:=hrow i h0 ys h1 h2
   exact ⟨a,fun e=>by injection e with e; exact b e⟩
  ·rw [Bi (by omega)] at h2
   rw [Bi (by rw [h.len]; omega)] at h1
   rw [C8] at h1 h2
   split at h1
   ·split at h2
    ·injection h1 with h1; injection h2 with h2; subst h1; subst h2
     refine ⟨ho.fx hfx (fun e=>hv e),fun e=>?_⟩
     injection e with e
     rcases hat with e2 | e2
     ·have e3:gb=hd.1:=e
      rw [e3] at e2; exact hv e2
     ·have:=ho.2.1
      have e3:gb=hd.1:=e
      omega
    ·simp at h2
   ·simp at h1
 ·have key:∀ (i:Nat) (h0:Nat×Nat×Nat),(hs ++ [hd])[i]?=some h0→(i < hs.length∧hs[i]?=some h0)∨(i=hs.length∧h0=hd):=fun i h0 h=>by
   by_cases hi:i < hs.length
   ·rw [Bt hi] at h; exact .inl ⟨hi,h⟩
   ·rw [Bi (by omega),C8] at h
    split at h
    ·injection h with h; exact .inr ⟨by omega,h.symm⟩
    ·simp at h
  rcases key i hi h1 with ⟨a1,a2⟩ | ⟨a1,a2⟩ <;> rcases key j hj h2 with ⟨b1,b2⟩ | ⟨b1,b2⟩
  ·exact h.apart i j _ _ a2 b2 hij
  ·subst b2; exact hne _ (Af a2)
  ·subst a2; exact (hne _ (Af b2)).symm
  ·omega
theorem GI.pushN {w w':World} {base:Nat} {E:TypeId} {v u:Value} {hs:List (Nat×Nat×Nat)} {g:List (List Int)} (h:GI w base E v hs g) {hd:Nat×Nat×Nat} {xs:List Int} (ho:IB w hd.1 hd.2.1 xs)
 (hne:∀ h',h' ∈ hs→h'.1≠hd.1) (hv:v.ownBlock≠some hd.1) {gb cap n:Nat} (hn:g.length=n) (hu:u=Jq hd xs) (hown:w'.ownsRow base E 1 (.slice (some ⟨gb,0,none⟩) (n+1) cap) (n+1) (Lt hs g ++ [u]))
 (hg:w.grownBy w' v.ownBlock) (hat:v.ownBlock=some gb∨w.heap.size≤gb):GI w' base E (.slice (some ⟨gb,0,none⟩) (n+1) cap) (hs ++ [hd]) (g ++ [xs]):=by
 subst hn; subst hu
 exact h.push ho hne hv hown hg hat
theorem C9 {w:World} {base:Nat} {e:TypeId} {size:Nat} {v:Value} {n:Nat} {xs:List Value} (h:w.ownsRow base e size v n xs):∃ a c,v=.slice a n c∧(n=0∨∃ g,a=some ⟨g,0,none⟩):=by
 obtain ⟨_,h2⟩:=h
 rcases h2 with ⟨hv,h2⟩ | ⟨g,cap,_,hv,_⟩
 ·subst h2; exact ⟨none,0,hv,.inl rfl⟩
 ·exact ⟨_,cap,hv,.inr ⟨g,rfl⟩⟩
theorem GI.fx {w w':World} {p:Nat→Prop} {base:Nat} {E:TypeId} {v:Value} {hs:List (Nat×Nat×Nat)} {g:List (List Int)} (h:GI w base E v hs g) (k:Fx p w w') (hp:∀ b,v.ownBlock=some b→¬ p b) (hr:∀ hd,hd ∈ hs→¬ p hd.1):GI w' base E v hs g :=
 ⟨h.gbase,h.len,BW h.own k hp,fun i hd xs h1 h2=>⟨(h.row i hd xs h1 h2).1.fx k (hr hd (Af h1)),(h.row i hd xs h1 h2).2⟩,h.apart⟩
theorem GI.mat {w:World} {base n:Nat} {E:TypeId} {a:Option Addr} {c:Nat} {hs:List (Nat×Nat×Nat)} {g:List (List Int)} (h:GI w base E (.slice a n c) hs g):A5 w a g:=by
 by_cases h0:g.length=0
 ·exact .inl (Bf h0)
 ·obtain ⟨gb,cp,hv⟩:=C5 h.own (by omega)
  injection hv with hv1 hv2 hv3
  subst hv1; subst hv2; subst hv3
  obtain ⟨p1,p2,p3,p4,p5⟩:=Bo h.own
  refine .inr ⟨gb,0,rfl,p3,fun i xs hx=>?_⟩
  have hl:i < hs.length:=by rw [h.len]; exact (Ae.1 hx).1
  have hi:=Ac hl
  have hc:=p5 i (Jq hs[i] xs) (by unfold Lt; rw [GQ,hi,hx])
  exact ⟨_,_,by rw [AN]; exact hc.1,(h.row i _ _ hi hx).1.el⟩
theorem C6:(Tryz.prog.info? 3).map (fun i=>(i.zero,i.size,i.bytes))=some (some (.int .i64 0),1,8):=by kernel_rfl
theorem NK:(Tryz.prog.info? 33).map (fun i=>(i.zero,i.size,i.bytes))=some (some (.slice none 0 0),1,24):=by kernel_rfl
theorem G3 {w:World} {base:Nat} {e:TypeId} {size:Nat} {v:Value} {n:Nat} {xs:List Value} (h:w.ownsRow base e size v n xs) (hn:v≠.slice none 0 0):∃ g cap,v=.slice (some ⟨g,0,none⟩) n cap:=by
 obtain ⟨_,h2⟩:=h
 rcases h2 with ⟨h2,_⟩ | ⟨g,cap,_,hv,_⟩
 ·exact absurd h2 hn
 ·exact ⟨g,cap,hv⟩
def Zx (n:Int):Bool:=decide (1000000000 < n∨n < -1000000000)
theorem SD (n:Int) (w:World):Calls Tryz.prog 179 #[.int .i64 n] w fun e w'=>e=.returned (.bool (!Bq n))∧w=w':=by
 by_cases h1:1000000000 < n
 ·have hf:=hZ (show (!Bq n)=true by unfold Bq; rw [Aa (by omega)]; rfl)
  have d1:decide ((1000000000:Int) < n)=true:=Ab h1
  clear h1
  go_enter Tryz.func179,Tryz.ntmps179
  go_wp2_with fail
  go_ret
  exact ⟨Ds hf.out.symm,rfl⟩
 ·have d1:decide ((1000000000:Int) < n)=false:=Aa h1
  by_cases h2:n < -1000000000
  ·have hf:=hZ (show (!Bq n)=true by unfold Bq; rw [Aa (by omega)]; rfl)
   have d2:decide (n < -1000000000)=true:=Ab h2
   clear h1 h2
   go_enter Tryz.func179,Tryz.ntmps179
   go_wp2_with fail
   go_ret
   exact ⟨Ds hf.out.symm,rfl⟩
  ·have hf:=hZ (show (!Bq n)=false by unfold Bq; rw [Ab (by omega)]; rfl)
   have d2:decide (n < -1000000000)=false:=Aa h2
   clear h1 h2
   go_enter Tryz.func179,Tryz.ntmps179
   go_wp2_with fail
   go_ret
   exact ⟨Ds hf.out.symm,rfl⟩
theorem Qv (w:World) (xs:List Int):JV w 179 #[] iv (fun n=>!Bq n) xs:=fun x W _ _=>
 (SD x W).mono fun _ _ ⟨h,k⟩=>⟨h,Fr.of_eq k⟩
def EI (n:Nat) (m:List (List Int)):Prop:=m.length≤12∧n≤12∧Bx n m∧∀ r,r ∈ m→∀ x,x ∈ r→Bq x=true
theorem Om (m:List (List Int)) (a:Option Addr) (cap n:Nat) (w:World) (hm:A5 w a m) (hok:EI n m) :
 Calls Tryz.prog 150 #[.slice a m.length cap] w fun e w'=>e=.returned (.int .i64 0)∧Fr w w':=by
 obtain ⟨h1,h2,h3,h4⟩:=hok
 replace hm:=hZ hm
 replace h3:=hZ h3
 replace h4:=hZ h4
 go_enter Tryz.func150,Tryz.ntmps150
 go_wp2_with fail
 go_loopg [10] m.length (fun k s10 wr=>∃ j:Nat,s10=.int .i64 j∧j+k=m.length∧Fr w wr)
 case atStart=>exact ⟨0,rfl,by omega,Fr.refl _⟩
 case round=>
  obtain ⟨j,rfl,hjk,hf⟩:=hrel
  by_cases hlt:j < m.length
  ·obtain ⟨b,o,a',c',rfl,hc,hel⟩:=(hm.out.fr hf).at hlt
   obtain ⟨b9,o9,a9,c9,hae,hc9,hel9⟩:=(hm.out.fr hf).at (i:=0) (by omega)
   injection hae with hae; injection hae with hb9 ho9
   subst hb9; subst ho9
   rw [h3.out.row hlt] at hc
   rw [h3.out.row (i:=0) (by omega),DG] at hc9
   have hany:(m[j]).any (fun x=>!Bq x)=false:=CO.2 (fun x hx=>by rw [h4.out _ (AG hlt) x hx]; simp)
   have eg:∀ args w,(callFunc 179 args).run Tryz.prog w=.ok (.enter 179 args) w:=Ey Tryz.func179 (by kernel_rfl) rfl
   have hcf:=GN m[j] a' c' 179 #[] (fun n=>!Bq n) wr eg hel (by rw [h3.out.row hlt]; omega) (Qv wr _)
   rw [h3.out.row hlt,hany] at hcf
   clear eg hel hel9 hany
   have z0:(0:Int)≤(j:Int):=Aj _
   have z1:(j:Int) < (m.length:Int):=by omega
   go_wp2_with fail
   refine hcf.mono ?_
   clear hcf
   rintro e w2 ⟨rfl,hf2⟩
   go_wp2_with fail
   go_roundg (gk - 1)
   case measure=>omega
   case rel=>exact ⟨j+1,by go_num,by omega,hf.trans hf2⟩
  ·have hd:decide (j < m.length)=false:=Aa hlt
   go_wp2_with fail
   go_ret
   exact ⟨rfl,hf⟩
theorem UE {x:Int} (h:Bq x=true):Sm x:=by
 unfold Bq at h; have h:=AL h; exact ⟨by omega,by omega⟩
theorem PS (m:List (List Int)) (a:Option Addr) (cap n:Nat) (w:World) (hm:A5 w a m) (hr:Bx n m) (hl:m.length≤1000000) (he:∀ r,r ∈ m→CA r=0) (hn:n≤1000000) :
 Calls Tryz.prog 136 #[.slice a m.length cap,.int .i64 n] w fun e w'=>e=.returned (.int .i64 0)∧Fr w w':=by
 replace hm:=hZ hm
 replace hr:=hZ hr
 replace he:=hZ he
 go_enter Tryz.func136,Tryz.ntmps136
 go_wp2_with fail
 go_loopg [10] m.length (fun k s10 wr=>∃ j:Nat,s10=.int .i64 j∧j+k=m.length∧Fr w wr)
 case atStart=>exact ⟨0,rfl,by omega,Fr.refl _⟩
 case round=>
  obtain ⟨j,rfl,hjk,hf⟩:=hrel
  by_cases hlt:j < m.length
  ·obtain ⟨b,o,a',c',rfl,hc,hel⟩:=(hm.out.fr hf).at hlt
   have hck:=D2 m[j] a' c' wr hel (by rw [hr.out.row hlt]; omega)
   rw [he.out _ (AG hlt)] at hck
   rw [hr.out.row hlt] at hc hck
   clear hel
   have z0:(0:Int)≤(j:Int):=Aj _
   have z1:(j:Int) < (m.length:Int):=by omega
   go_wp2_with fail
   refine hck.mono ?_
   clear hck
   rintro e w2 ⟨rfl,hf2⟩
   go_wp2_with fail
   go_roundg (gk - 1)
   case measure=>omega
   case rel=>exact ⟨j+1,by go_num,by omega,hf.trans hf2⟩
  ·have hd:decide (j < m.length)=false:=Aa hlt
   go_wp2_with fail
   go_ret
   exact ⟨rfl,hf⟩
theorem HE (m:List (List Int)) (a:Option Addr) (cap n:Nat) (w:World) (hm:A5 w a m) (hr:Bx n m) (hl:m.length≤12) (he:∀ r,r ∈ m→CA r=0) (hn:n≤12) :
 Calls Tryz.prog 88 #[.int .i64 n,.slice a m.length cap] w fun e w'=>e=.returned (.int .i64 0)∧Fr w w':=by
 have hc:=PS m a cap n w hm hr (by omega) he (by omega)
 clear hm he
 have d1:decide ((n:Int) < 0)=false:=Aa (by omega)
 go_enter Tryz.func88,Tryz.ntmps88
 go_wp2_with fail
 refine hc.mono ?_
 clear hc
 rintro e w2 ⟨rfl,hf2⟩
 go_wp2_with fail
 go_ret
 exact ⟨rfl,hf2⟩
def XY (w:World) (xs:List Int) (e:Ending) (w':World):Prop:=∃ g c,e=.returned (.slice (some ⟨g,0,none⟩) xs.length c)∧Fr w w'∧w'.ownsRow w.heap.size 80 1 (.slice (some ⟨g,0,none⟩) xs.length c) xs.length (xs.map sv)
theorem Lm (xs:List Int) (a:Option Addr) (cap:Nat) (w:World) (hG:G w) (hx:El w iv a xs) (hl:xs.length≤1000000) (hb:∀ x,x ∈ xs→Sm x) :
 Calls Tryz.prog 110 #[.slice a xs.length cap] w (XY w xs):=by
 obtain ⟨i0,hi,hz0,hz1,hz2⟩:=AZ Iy
 obtain ⟨n,hn⟩:∃ n,n=xs.length:=⟨_,rfl⟩
 rw [← hn] at hl
 replace hn:=hZ hn
 replace hx:=hZ hx
 replace hb:=hZ hb
 replace hG:=hZ hG
 go_enter Tryz.func110,Tryz.ntmps110
 rw [← hn.out]
 go_wp2_with (at_make; refine Ew _ rfl _ _ 120 rfl w.heap.size 80 i0 _ 1 Tryz.underlying120 hi hz0 hz1 _ _ _ n (by rfl) (by rfl) (by omega) (by rw [hz2]; omega) (by unfold maxLen; omega) (Ah _) ?_; intro w2 hown2 hgr2)
 have hf2:Fr w w2:=(Fr.refl w).grown hgr2 (fun k e=>by cases e)
 replace hown2:=hZ hown2
 clear hgr2
 go_loopg [3,11] n (fun k s3 s11 wr=>∃ t:Nat,s11=.int .i64 t∧t+k=n∧Fr w wr∧wr.ownsRow w.heap.size 80 1 s3 t ((xs.take t).map sv)∧s3≠.slice none 0 0)
 case atStart=>exact ⟨0,rfl,by omega,hf2,by simpa using hown2.out,by simp⟩
 case round=>
  obtain ⟨t,rfl,htk,hf,hown,hnn⟩:=hrel
  by_cases ht:t < n
  ·obtain ⟨b2,o2,x,rfl,hbl2,hxt,hcell2⟩:=(hx.out.fr hf).at (i:=t) (by rw [← hn.out]; exact ht)
   have hGr:=hG.out.fr hf
   have hsx:=hb.out x (Af hxt)
   unfold Sm at hsx
   have hsn2:=hZ (BN hxt)
   replace hxt:=hZ hxt
   go_wp2_with fail
   refine (Cs _ (by omega) (by omega) _ hGr).mono ?_
   rintro e w3 ⟨rfl,hf3⟩
   go_wp2_with (at_builtin; refine wpList_append_lies _ rfl _ _ 120 (by rfl) _ 80 _ _ 1 16 Tryz.underlying120 hi hz0 hz1 hz2 rfl (by decide) _ t _ (by rfl) (Az (Bg hown hf3) _) ⟨w3.heap.size,0,none⟩ 1 1 [sv x] (by rfl) rfl (AK _ _ _ _ (by simp)) (by simp [Value.oneCell']) (by decide) (by unfold maxLen; omega) (by omega) (by have:=(hf.trans hf3).size; simp; omega) (w3.heap.size+1) (by simp) ?_; intro gA capA wA hownA hgrowA hatA hltA)
   go_wp2_with fail
   go_roundg (gk - 1)
   case measure=>omega
   case rel=>exact ⟨t+1,by go_num,by omega,((hf.trans hf3).alloc _).grown hgrowA (fun k e=>(hown.lt k e).1),by rw [hsn2.out,Ay]; exact hownA,by simp⟩
  ·have hd:decide (t < n)=false:=Aa ht
   obtain rfl:t=n:=by omega
   obtain ⟨gb7,cp7,rfl⟩:=G3 hown hnn
   rw [Ao (by rw [← hn.out]; omega)] at hown
   clear hnn
   go_wp2_with fail
   go_ret
   exact ⟨gb7,cp7,by rw [← hn.out]; rfl,hf,by rw [← hn.out]; exact hown⟩
theorem Ls:(Tryz.prog.info? 120).map (fun i=>(i.zero,i.size,i.bytes))=some (some (.slice none 0 0),1,24):=by kernel_rfl
theorem Fi (m:List (List Int)) (a:Option Addr) (cap:Nat) (w:World) (hG:G w) (hm:A5 w a m) (hr:∀ r,r ∈ m→r.length≤1000000) (hl:m.length≤1000000) (hb:∀ r,r ∈ m→∀ x,x ∈ r→Sm x) :
 Calls Tryz.prog 89 #[.slice a m.length cap] w (WM w 120 m):=by
 have hgn:=GB hG
 obtain ⟨i1,ji,jz0,jz1,jz2⟩:=AZ Ls
 replace hm:=hZ hm
 replace hr:=hZ hr
 replace hb:=hZ hb
 replace hG:=hZ hG
 go_enter Tryz.func89,Tryz.ntmps89
 go_wp2_with fail
 go_loopg [3,8] m.length (fun k s3 s8 wr=>∃ (j:Nat) (hs:List (Nat×Nat×Nat)),s8=.int .i64 j∧j+k=m.length∧Fr w wr∧GG wr w.heap.size 120 s3 hs (m.take j)∧Hid (∀ h,h ∈ hs→w.heap.size≤h.1))
 case atStart=>exact ⟨0,[],rfl,by omega,Fr.refl _,GG.nil _ _ _ hgn,fun h hm=>by simp at hm⟩
 case round=>
  obtain ⟨j,hs,rfl,hjk,hf,hgg,hnew⟩:=hrel
  by_cases hlt:j < m.length
  ·obtain ⟨b,o,a',c',rfl,hc,hel⟩:=(hm.out.fr hf).at hlt
   have hsn:=BN (Ac hlt)
   have hrj:=hr.out _ (AG hlt)
   have hlong:=Lm m[j] a' c' wr (hG.out.fr hf) hel hrj (hb.out _ (AG hlt))
   have hgl:(m.take j).length=j:=by rw [Av]; omega
   generalize m[j]=row at *
   obtain ⟨n,hn⟩:∃ n,n=row.length:=⟨_,rfl⟩
   rw [← hn] at hc hlong
   replace hn:=hZ hn
   replace hsn:=hZ hsn
   replace hgl:=hZ hgl
   replace hgg:=hZ hgg
   clear hel
   go_wp2_with fail
   refine hlong.mono ?_
   clear hlong
   rintro e w2 ⟨g,c,rfl,hf2,hown2⟩
   obtain ⟨hO,-,-,hgb,hcp⟩:=Fh (As hgn hf.size) hown2
   have hgg2:=hgg.out.fr hf2
   have hne:u3.ownBlock≠some g:=fun e=>by have h9:=(hgg.out.own.lt g e).2; omega
   have hne2:∀ h',h' ∈ hs→h'.1≠g:=fun h' hm e2=>by have h9:=hgg.out.lt h' hm; omega
   have hown3:=hgg2.own
   rw [hgl.out] at hown3
   rw [← hn.out]
   replace hgg2:=hZ hgg2
   replace hown2:=hZ hown2
   go_wp2_with (at_builtin; refine wpList_append_lies _ rfl _ _ 141 (by rfl) _ 120 _ _ 1 24 Tryz.underlying141 ji jz0 jz1 jz2 rfl (by decide) _ j _ (by rfl) (Az hown3 _) ⟨w2.heap.size,0,none⟩ 1 1 [.slice (some ⟨g,0,none⟩) n c] (by rfl) rfl (AK _ _ _ _ (by simp)) (by simp [Value.oneCell']) (by decide) (by unfold maxLen; omega) (by omega) (by have:=(hf.trans hf2).size; simp; omega) (w2.heap.size+1) (by simp) ?_; intro gA capA wA hownA hgrowA hatA hltA)
   have hpush:=(hgg2.out.fr ((Fr.refl _).alloc _)).pushN (hd:=(g,0,c)) (hO.fr ((Fr.refl _).alloc _)) hne2 hne hgl.out (by unfold Jq; rw [← hn.out]) hownA hgrowA (hatA.imp id (fun e=>by rw [e]; simp))
   rw [← hsn.out] at hpush
   have hfrA:Fr w wA:=(((hf.trans hf2).alloc _)).grown hgrowA (fun k e=>(hgg2.out.own.lt k e).1)
   go_roundg (gk - 1)
   case measure=>omega
   case rel=>exact ⟨j+1,_,by go_num,by omega,hfrA,hpush,fun h hm=>by rcases BD.1 hm with h1 | h1; exact hnew.out h h1; (simp at h1; subst h1; exact As hf.size hgb)⟩
  ·have hd:decide (j < m.length)=false:=Aa hlt
   have hjm:m.take j=m:=Ao (by omega)
   rw [hjm] at hgg
   replace hjm:=hZ hjm
   go_wp2_with fail
   go_ret
   exact ⟨_,hs,rfl,hgg,hnew,hf⟩
def RW (w:World) (xs:List Int) (e:Ending) (w':World):Prop:=∃ g c,e=.returned (.tuple #[.slice (some ⟨g,0,none⟩) xs.length c,.int .i64 0])∧Fr w w'∧w'.ownsRow w.heap.size 3 1 (.slice (some ⟨g,0,none⟩) xs.length c) xs.length (xs.map iv)
theorem Nr (xs:List Int) (b o c:Nat) (w:World) (hG:G w) (hx:Own w b o xs) (hl:xs.length≤1000000) (hb:∀ x,x ∈ xs→Bq x=true) :
 Calls Tryz.prog 74 #[.slice (some ⟨b,o,none⟩) xs.length c] w (RW w xs):=by
 obtain ⟨i0,hi,hz0,hz1,hz2⟩:=AZ C6
 obtain ⟨n,hn⟩:∃ n,n=xs.length:=⟨_,rfl⟩
 rw [← hn] at hl
 replace hn:=hZ hn
 replace hx:=hZ hx
 replace hb:=hZ hb
 replace hG:=hZ hG
 go_enter Tryz.func74,Tryz.ntmps74
 rw [← hn.out]
 go_wp2_with (at_make; refine Ew _ rfl _ _ 33 rfl w.heap.size 3 i0 _ 1 Tryz.underlying33 hi hz0 hz1 _ _ _ n (by rfl) (by rfl) (by omega) (by rw [hz2]; omega) (by unfold maxLen; omega) (Ah _) ?_; intro w2 hown2 hgr2)
 have hf2:Fr w w2:=(Fr.refl w).grown hgr2 (fun k e=>by cases e)
 replace hown2:=hZ hown2
 clear hgr2
 go_loopg [4,14] n (fun k s4 s14 wr=>∃ t:Nat,s14=.int .i64 t∧t+k=n∧Fr w wr∧wr.ownsRow w.heap.size 3 1 s4 t ((xs.take t).map iv)∧s4≠.slice none 0 0)
 case atStart=>exact ⟨0,rfl,by omega,hf2,by simpa using hown2.out,by simp⟩
 case round=>
  obtain ⟨t,rfl,htk,hf,hown,hnn⟩:=hrel
  by_cases ht:t < n
  ·obtain ⟨b2,o2,x,hae,hbl2,hxt,hcell2⟩:=(hx.out.el.fr hf).at (i:=t) (by rw [← hn.out]; exact ht)
   injection hae with hae; injection hae with hb2 ho2
   subst hb2; subst ho2
   have hfx:=hb.out x (Af hxt)
   unfold Bq at hfx
   have hfx:=AL hfx
   obtain ⟨x1,x2⟩:=hfx
   have hd1:decide ((1000000000:Int) < x)=false:=Aa (by omega)
   have hd2:decide (x < -1000000000)=false:=Aa (by omega)
   have hsn2:=hZ (BN hxt)
   replace hxt:=hZ hxt
   go_wp2_with fail
   refine (Eg x (by omega) (by omega) _).mono ?_
   rintro e w3 ⟨rfl,hf3⟩
   go_wp2_with (at_builtin; refine wpList_append_lies _ rfl _ _ 33 (by rfl) _ 3 _ _ 1 8 Tryz.underlying33 hi hz0 hz1 hz2 rfl (by decide) _ t _ (by rfl) (Az (Bg hown hf3) _) ⟨w3.heap.size,0,none⟩ 1 1 [iv x] (by rfl) rfl (AK _ _ _ _ (by simp)) (by simp [Value.oneCell']) (by decide) (by unfold maxLen; omega) (by omega) (by have:=(hf.trans hf3).size; simp; omega) (w3.heap.size+1) (by simp) ?_; intro gA capA wA hownA hgrowA hatA hltA)
   go_wp2_with fail
   go_roundg (gk - 1)
   case measure=>omega
   case rel=>exact ⟨t+1,by go_num,by omega,((hf.trans hf3).alloc _).grown hgrowA (fun k e=>(hown.lt k e).1),by rw [hsn2.out,Ay]; exact hownA,by simp⟩
  ·have hd:decide (t < n)=false:=Aa ht
   obtain rfl:t=n:=by omega
   obtain ⟨gb7,cp7,rfl⟩:=G3 hown hnn
   rw [Ao (by rw [← hn.out]; omega)] at hown
   clear hnn
   go_wp2_with fail
   go_ret2
   exact ⟨gb7,cp7,by rw [← hn.out]; rfl,hf,by rw [← hn.out]; exact hown⟩
def LW (w:World):Prop:=∃ ev,w.cell? ⟨1,0,none⟩=some ev∧(ev=.nilIface∨∃ te pe,ev=.iface te pe)
theorem LW.fr {w w':World} (h:LW w) (hf:Fr w w'):LW w':=h.imp fun _ h=>⟨hf.keep h.1,h.2⟩
theorem UP:∀ (l:List UInt8) (a:Nat),a≤Bh a l
 | [],a=>Ah _
 | c :: r,a=>As (by omega) (UP r (a * 10+(c.toNat - 48)))
theorem Le:∀ (l:List UInt8) (acc:Nat),(∀ c ∈ l,48≤c.toNat∧c.toNat≤57)→Lib.parseUint10 acc l=.ok (Bh acc l)∨(Lib.parseUint10 acc l=.range∧18446744073709551616≤Bh acc l)
 | [],acc,_=>.inl rfl
 | c :: r,acc,h=>by
   have hc:=h c BC
   have hr:=fun x hx=>h x (BI c hx)
   have e:Bh acc (c :: r)=Bh (acc * 10+(c.toNat - 48)) r:=rfl
   have hle:=(UP r (acc * 10+(c.toNat - 48)))
   unfold Lib.parseUint10
   rw [Ai hc,e]
   split
   ·exact .inr ⟨rfl,by omega⟩
   ·split
    ·exact .inr ⟨rfl,by omega⟩
    ·exact Le r _ hr
theorem U1 {n:Int} (h:n < -9223372036854775808∨9223372036854775807 < n):Lib.atoiAll (tx n).data.toList=.range:=by
 have hd:=B6 n.natAbs
 have hv:=B5 n.natAbs
 have hp:Lib.parseMag (decDigits n.natAbs)=.ok n.natAbs∨Lib.parseMag (decDigits n.natAbs)=.range:=by
  unfold Lib.parseMag
  rw [Ag (EY _)]
  rcases Le (decDigits n.natAbs) 0 hd with h1 | ⟨h1,-⟩
  ·rw [h1,hv]; exact .inl rfl
  ·exact .inr h1
 by_cases hn:n < 0
 ·rw [Fy,Fd hn]
  unfold Lib.atoiAll
  simp only
  rw [Ai (by right; rfl)]
  have e45:(45:UInt8).toNat=45:=rfl
  rcases hp with hp | hp
  ·rw [hp]
   simp only [e45,not_true_eq_false,false_and,ZK,true_and]
   rw [Ai (by omega)]
  ·rw [hp]
 ·have e:(tx n).data.toList=decDigits n.natAbs:=by rw [Fy,BV (by omega),show n.toNat=n.natAbs by omega]
  rw [e]
  obtain ⟨c,r,hr⟩:=Ye (EY n.natAbs)
  rw [hr] at hd hp ⊢
  have hc:=hd c BC
  unfold Lib.atoiAll
  simp only
  rw [Ag (by omega)]
  rcases hp with hp | hp
  ·rw [hp]
   simp only
   rw [Ai ⟨by omega,by omega⟩]
  ·rw [hp]
theorem Nc (n:Int) (h:n < -9223372036854775808∨9223372036854775807 < n) (hs:(tx n).size≤1000000000) (w:World) (hE:LW w) :
 Calls Tryz.prog 116 #[.string (tx n)] w fun e w'=>e=.returned (.tuple #[.int .i64 0,.bool false])∧Fr w w':=by
 obtain ⟨ev,h1,h2⟩:=hE
 have hp:parseIntB 64 (tx n).data.toList=.range:=by rw [parseIntB_64]; exact U1 h
 go_enter Tryz.func116,Tryz.ntmps116
 go_wp2_with fail
 refine (Tryz.strconv_ParseInt_10_at64_range (tx n) (by omega) hp ev _ h1 h2).mono ?_
 rintro e w1 ⟨N,rfl,-,-,hw⟩
 have hf:Fr w w1:=hw
 clear hw
 go_wp2_with fail
 go_ret2
 exact ⟨rfl,hf⟩
def YU (w:World) (xs:List Int) (e:Ending) (w':World):Prop:=(xs.all Bq=true→RW w xs e w')∧(xs.all Bq=false→e=.returned (.tuple #[.slice none 0 0,.int .i64 4])∧Fr w w')
theorem QE (xs:List Int) (b o c:Nat) (w:World) (hx:El w sv (some ⟨b,o,none⟩) xs) (hl:xs.length≤1000000) (hb:∀ x,x ∈ xs→(tx x).size≤1000000000) (hE:LW w) :
 Calls Tryz.prog 74 #[.slice (some ⟨b,o,none⟩) xs.length c] w (YU w xs):=by
 obtain ⟨i0,hi,hz0,hz1,hz2⟩:=AZ C6
 obtain ⟨n,hn⟩:∃ n,n=xs.length:=⟨_,rfl⟩
 rw [← hn] at hl
 replace hn:=hZ hn
 replace hx:=hZ hx
 replace hb:=hZ hb
 go_enter Tryz.func74,Tryz.ntmps74
 rw [← hn.out]
 go_wp2_with (at_make; refine Ew _ rfl _ _ 33 rfl w.heap.size 3 i0 _ 1 Tryz.underlying33 hi hz0 hz1 _ _ _ n (by rfl) (by rfl) (by omega) (by rw [hz2]; omega) (by unfold maxLen; omega) (Ah _) ?_; intro w2 hown2 hgr2)
 have hf2:Fr w w2:=(Fr.refl w).grown hgr2 (fun k e=>by cases e)
 replace hown2:=hZ hown2
 clear hgr2
 go_loopg [4,14] n (fun k s4 s14 wr=>∃ t:Nat,s14=.int .i64 t∧t+k=n∧Fr w wr∧wr.ownsRow w.heap.size 3 1 s4 t ((xs.take t).map iv)∧s4≠.slice none 0 0∧Hid ((xs.take t).all Bq=true))
 case atStart=>exact ⟨0,rfl,by omega,hf2,by simpa using hown2.out,by simp,rfl⟩
 case round=>
  obtain ⟨t,rfl,htk,hf,hown,hnn,hfit⟩:=hrel
  by_cases ht:t < n
  ·obtain ⟨b2,o2,x,hae,hbl2,hxt,hcell2⟩:=(hx.out.fr hf).at (i:=t) (by rw [← hn.out]; exact ht)
   injection hae with hae; injection hae with hb2 ho2
   subst hb2; subst ho2
   have hmem:=Af hxt
   have hsz:=hb.out x hmem
   have hEr:=hE.fr hf
   have hsn:=BN hxt
   replace hxt:=hZ hxt
   by_cases hfx:-1000000000≤x∧x≤1000000000
   ·have hd1:decide ((1000000000:Int) < x)=false:=Aa (by omega)
    have hd2:decide (x < -1000000000)=false:=Aa (by omega)
    have hft:Hid ((xs.take (t+1)).all Bq=true):=hZ (by
     have h1:Bq x=true:=Ab hfx
     rw [hsn,WV,hfit.out]; simp [h1])
    have hsn2:=hZ hsn
    clear hmem hsn
    go_wp2_with fail
    refine (Eg x (by omega) (by omega) _).mono ?_
    rintro e w3 ⟨rfl,hf3⟩
    go_wp2_with (at_builtin; refine wpList_append_lies _ rfl _ _ 33 (by rfl) _ 3 _ _ 1 8 Tryz.underlying33 hi hz0 hz1 hz2 rfl (by decide) _ t _ (by rfl) (Az (Bg hown hf3) _) ⟨w3.heap.size,0,none⟩ 1 1 [iv x] (by rfl) rfl (AK _ _ _ _ (by simp)) (by simp [Value.oneCell']) (by decide) (by unfold maxLen; omega) (by omega) (by have:=(hf.trans hf3).size; simp; omega) (w3.heap.size+1) (by simp) ?_; intro gA capA wA hownA hgrowA hatA hltA)
    go_wp2_with fail
    go_roundg (gk - 1)
    case measure=>omega
    case rel=>exact ⟨t+1,by go_num,by omega,((hf.trans hf3).alloc _).grown hgrowA (fun k e=>(hown.lt k e).1),by rw [hsn2.out,Ay]; exact hownA,by simp,hft.out⟩
   ·have hbad:Hid (xs.all Bq=false):=hZ (Jt.2 ⟨x,hmem,by unfold Bq; rw [Aa hfx]; simp⟩)
    clear hmem hsn
    by_cases hfar:x < -9223372036854775808∨9223372036854775807 < x
    ·clear hfx
     go_wp2_with fail
     refine (Nc x hfar hsz _ hEr).mono ?_
     rintro e w3 ⟨rfl,hf3⟩
     go_wp2_with fail
     go_ret2
     exact ⟨fun h=>(by rw [hbad.out] at h; cases h),fun _=>⟨rfl,hf.trans hf3⟩⟩
    have x1:-9223372036854775808≤x:=by omega
    have x2:x≤9223372036854775807:=by omega
    clear hfar
    by_cases hgt:(1000000000:Int) < x
    ·have d1:decide ((1000000000:Int) < x)=true:=Ab hgt
     clear hfx
     go_wp2_with fail
     refine (Eg x (by omega) (by omega) _).mono ?_
     rintro e w3 ⟨rfl,hf3⟩
     go_wp2_with fail
     go_ret2
     exact ⟨fun h=>(by rw [hbad.out] at h; cases h),fun _=>⟨rfl,hf.trans hf3⟩⟩
    ·have d1:decide ((1000000000:Int) < x)=false:=Aa hgt
     have d2:decide (x < (-1000000000:Int))=true:=Ab (by omega)
     clear hfx
     go_wp2_with fail
     refine (Eg x (by omega) (by omega) _).mono ?_
     rintro e w3 ⟨rfl,hf3⟩
     go_wp2_with fail
     go_ret2
     exact ⟨fun h=>(by rw [hbad.out] at h; cases h),fun _=>⟨rfl,hf.trans hf3⟩⟩
  ·have hd:decide (t < n)=false:=Aa ht
   obtain rfl:t=n:=by omega
   obtain ⟨gb7,cp7,rfl⟩:=G3 hown hnn
   rw [Ao (by rw [← hn.out]; omega)] at hown hfit
   clear hnn
   go_wp2_with fail
   go_ret2
   exact ⟨fun _=>⟨gb7,cp7,by rw [← hn.out]; rfl,hf,by rw [← hn.out]; exact hown⟩,fun h=>(by rw [hfit.out] at h; cases h)⟩
theorem Vp (xs:List Int) (b o c:Nat) (w:World) (hx:El w sv (some ⟨b,o,none⟩) xs) (hl:xs.length≤1000000) (hb:∀ x,x ∈ xs→(tx x).size≤1000000000) (hE:LW w) :
 Calls Tryz.prog 107 #[.slice (some ⟨b,o,none⟩) xs.length c] w (YU w xs):=by
 obtain ⟨i0,hi,hz0,hz1,hz2⟩:=AZ C6
 obtain ⟨n,hn⟩:∃ n,n=xs.length:=⟨_,rfl⟩
 rw [← hn] at hl
 replace hn:=hZ hn
 replace hx:=hZ hx
 replace hb:=hZ hb
 go_enter Tryz.func107,Tryz.ntmps107
 rw [← hn.out]
 go_wp2_with (at_make; refine Ew _ rfl _ _ 33 rfl w.heap.size 3 i0 _ 1 Tryz.underlying33 hi hz0 hz1 _ _ _ n (by rfl) (by rfl) (by omega) (by rw [hz2]; omega) (by unfold maxLen; omega) (Ah _) ?_; intro w2 hown2 hgr2)
 have hf2:Fr w w2:=(Fr.refl w).grown hgr2 (fun k e=>by cases e)
 replace hown2:=hZ hown2
 clear hgr2
 go_loopg [4,14] n (fun k s4 s14 wr=>∃ t:Nat,s14=.int .i64 t∧t+k=n∧Fr w wr∧wr.ownsRow w.heap.size 3 1 s4 t ((xs.take t).map iv)∧s4≠.slice none 0 0∧Hid ((xs.take t).all Bq=true))
 case atStart=>exact ⟨0,rfl,by omega,hf2,by simpa using hown2.out,by simp,rfl⟩
 case round=>
  obtain ⟨t,rfl,htk,hf,hown,hnn,hfit⟩:=hrel
  by_cases ht:t < n
  ·obtain ⟨b2,o2,x,hae,hbl2,hxt,hcell2⟩:=(hx.out.fr hf).at (i:=t) (by rw [← hn.out]; exact ht)
   injection hae with hae; injection hae with hb2 ho2
   subst hb2; subst ho2
   have hmem:=Af hxt
   have hsz:=hb.out x hmem
   have hEr:=hE.fr hf
   have hsn:=BN hxt
   replace hxt:=hZ hxt
   by_cases hfx:-1000000000≤x∧x≤1000000000
   ·have hd1:decide ((1000000000:Int) < x)=false:=Aa (by omega)
    have hd2:decide (x < -1000000000)=false:=Aa (by omega)
    have hft:Hid ((xs.take (t+1)).all Bq=true):=hZ (by
     have h1:Bq x=true:=Ab hfx
     rw [hsn,WV,hfit.out]; simp [h1])
    have hsn2:=hZ hsn
    clear hmem hsn
    go_wp2_with fail
    refine (Eg x (by omega) (by omega) _).mono ?_
    rintro e w3 ⟨rfl,hf3⟩
    go_wp2_with (at_builtin; refine wpList_append_lies _ rfl _ _ 33 (by rfl) _ 3 _ _ 1 8 Tryz.underlying33 hi hz0 hz1 hz2 rfl (by decide) _ t _ (by rfl) (Az (Bg hown hf3) _) ⟨w3.heap.size,0,none⟩ 1 1 [iv x] (by rfl) rfl (AK _ _ _ _ (by simp)) (by simp [Value.oneCell']) (by decide) (by unfold maxLen; omega) (by omega) (by have:=(hf.trans hf3).size; simp; omega) (w3.heap.size+1) (by simp) ?_; intro gA capA wA hownA hgrowA hatA hltA)
    go_wp2_with fail
    go_roundg (gk - 1)
    case measure=>omega
    case rel=>exact ⟨t+1,by go_num,by omega,((hf.trans hf3).alloc _).grown hgrowA (fun k e=>(hown.lt k e).1),by rw [hsn2.out,Ay]; exact hownA,by simp,hft.out⟩
   ·have hbad:Hid (xs.all Bq=false):=hZ (Jt.2 ⟨x,hmem,by unfold Bq; rw [Aa hfx]; simp⟩)
    clear hmem hsn
    by_cases hfar:x < -9223372036854775808∨9223372036854775807 < x
    ·clear hfx
     go_wp2_with fail
     refine (Nc x hfar hsz _ hEr).mono ?_
     rintro e w3 ⟨rfl,hf3⟩
     go_wp2_with fail
     go_ret2
     exact ⟨fun h=>(by rw [hbad.out] at h; cases h),fun _=>⟨rfl,hf.trans hf3⟩⟩
    have x1:-9223372036854775808≤x:=by omega
    have x2:x≤9223372036854775807:=by omega
    clear hfar
    by_cases hgt:(1000000000:Int) < x
    ·have d1:decide ((1000000000:Int) < x)=true:=Ab hgt
     clear hfx
     go_wp2_with fail
     refine (Eg x (by omega) (by omega) _).mono ?_
     rintro e w3 ⟨rfl,hf3⟩
     go_wp2_with fail
     go_ret2
     exact ⟨fun h=>(by rw [hbad.out] at h; cases h),fun _=>⟨rfl,hf.trans hf3⟩⟩
    ·have d1:decide ((1000000000:Int) < x)=false:=Aa hgt
     have d2:decide (x < (-1000000000:Int))=true:=Ab (by omega)
     clear hfx
     go_wp2_with fail
     refine (Eg x (by omega) (by omega) _).mono ?_
     rintro e w3 ⟨rfl,hf3⟩
     go_wp2_with fail
     go_ret2
     exact ⟨fun h=>(by rw [hbad.out] at h; cases h),fun _=>⟨rfl,hf.trans hf3⟩⟩
  ·have hd:decide (t < n)=false:=Aa ht
   obtain rfl:t=n:=by omega
   obtain ⟨gb7,cp7,rfl⟩:=G3 hown hnn
   rw [Ao (by rw [← hn.out]; omega)] at hown hfit
   clear hnn
   go_wp2_with fail
   go_ret2
   exact ⟨fun _=>⟨gb7,cp7,by rw [← hn.out]; rfl,hf,by rw [← hn.out]; exact hown⟩,fun h=>(by rw [hfit.out] at h; cases h)⟩
theorem CC (w:World) (x y:Value) (t:TypeId):(w.alloc (.cells #[x,y] t)).cell? ⟨w.heap.size,0,none⟩=some x∧(w.alloc (.cells #[x,y] t)).frozen? ⟨w.heap.size,0,none⟩=false:=by
 have h:=CB w (.cells #[x,y] t (0,0))
 exact ⟨by unfold World.cell?; rw [h]; rfl,by unfold World.frozen?; rw [h]; rfl⟩
theorem Ct (w:World) (x y:Value) (t:TypeId):(w.alloc (.cells #[x,y] t)).cell? ⟨w.heap.size,1,none⟩=some y∧(w.alloc (.cells #[x,y] t)).frozen? ⟨w.heap.size,1,none⟩=false:=by
 have h:=CB w (.cells #[x,y] t (0,0))
 exact ⟨by unfold World.cell?; rw [h]; rfl,by unfold World.frozen?; rw [h]; rfl⟩
def WJ (w:World) (a:Option Addr) (xs:List (Value×Value)):Prop :=
 xs=[]∨∃ b o,a=some ⟨b,o,none⟩∧b < w.heap.size∧∀ i x,xs[i]?=some x→w.cell? ⟨b,o+i * 2,none⟩=some x.1∧w.cell? ⟨b,o+i * 2+1,none⟩=some x.2
theorem WJ.fr {w w':World} {a:Option Addr} {xs:List (Value×Value)} (h:WJ w a xs) (k:Fr w w'):WJ w' a xs:=by
 rcases h with h | ⟨b,o,ha,hb,hc⟩
 ·exact .inl h
 ·exact .inr ⟨b,o,ha,Aq hb k.size,fun i x hx=>by rw [k.cell hb,k.cell hb]; exact hc i x hx⟩
theorem WJ.at {w:World} {a:Option Addr} {xs:List (Value×Value)} (h:WJ w a xs) {i:Nat} (hi:i < xs.length) :
 ∃ b o x,a=some ⟨b,o,none⟩∧b < w.heap.size∧xs[i]?=some x∧w.cell? ⟨b,o+i * 2,none⟩=some x.1∧w.cell? ⟨b,o+i * 2+1,none⟩=some x.2:=by
 rcases h with h | ⟨b,o,ha,hb,hc⟩
 ·subst h; simp at hi
 ·exact ⟨b,o,xs[i],ha,hb,Ac hi,hc i _ (Ac hi)⟩

end Go.Proofs.YtiniigadkknboaaGreatDoor
