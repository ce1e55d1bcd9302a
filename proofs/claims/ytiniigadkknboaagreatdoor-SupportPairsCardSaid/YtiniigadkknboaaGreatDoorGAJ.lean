/- Contracts and laws: GAJ. -/
import Derived.Test.YtiniigadkknboaaGreatDoorGAD
import Derived.Test.YtiniigadkknboaaGreatDoorGAI
import Derived.Deep.RegionHeld3
import Derived.Deep.Cut
import Derived.Test.YtiniigadkknboaaGreatDoorGAC
import Derived.IntWalk

set_option maxRecDepth 100000
set_option maxHeartbeats 2000000
namespace Go.Proofs.YtiniigadkknboaaGreatDoor
open Go.RowKit Go.Lib
attribute [local go_sem ↓] Go.wp_at_zero Go.wp_at_succ
theorem Mx (l:List Int):∀ n,n≤l.length→BA (l.take n)=l.take (BA (l.take n)).length∧(BA (l.take n)).length≤n
 | 0,_=>⟨rfl,Ah _⟩
 | n+1,h=>by
   obtain ⟨d,hd⟩:∃ d,l[n]?=some d:=⟨_,Ac (by omega)⟩
   by_cases h0:d=0
   ·rw [Ir hd h0]
    obtain ⟨h1,h2⟩:=Mx l n (by omega)
    exact ⟨h1,by omega⟩
   ·rw [Is hd h0,Av,Db h]
    exact ⟨rfl,Ah _⟩
theorem BS (l:List Int):BA l=l.take (BA l).length∧(BA l).length≤l.length:=by
 have h:=Mx l l.length (Ah _)
 rw [Kx] at h
 exact h
theorem GX {w:World} {a:Option Addr} {l:List Int} (h:El w iv a l):El w iv a (BA l):=by
 rw [(BS l).1]; exact h.take _
theorem IA (l:List Int) (a:Option Addr) (cap:Nat) (w:World) (hel:El w iv a l) (hl:l.length≤4000000) (hc:l.length≤cap) :
 Calls Tryz.prog 159 #[.slice a l.length cap] w fun e w'=>e=.returned (.slice a (BA l).length cap)∧Fr w w':=by
 obtain ⟨n,hn⟩:∃ n,n=l.length:=⟨_,rfl⟩
 rw [← hn] at hl hc
 rw [← hn]
 replace hn:=hZ hn
 go_enter Tryz.func159,Tryz.ntmps159
 go_wp2_with fail
 go_loopg [3] n (fun k s3 wr=>s3=.int .i64 (k:Int)∧k≤n∧Fr w wr∧Hid (BA (l.take k)=BA l))
 case atStart=>exact ⟨rfl,Ah _,Fr.refl _,by show _=_; rw [Ao (by rw [hn.out]; exact Ah _)]⟩
 case round=>
  obtain ⟨rfl,hle,hf,ht⟩:=hrel
  by_cases hk0:gk=0
  ·subst hk0
   have hlen:Hid ((BA l).length=0):=by show _=_; rw [← ht.out]; rfl
   go_wp2_with fail
   go_ret
   exact ⟨by rw [hlen.out]; rfl,hf⟩
  ·obtain ⟨k,rfl⟩:∃ k,gk=k+1:=⟨gk - 1,by omega⟩
   obtain ⟨b,o,d,rfl,hb,hk,hcell⟩:=(hel.fr hf).at (i:=k) (by have:=hn.out; omega)
   have z0:(0:Int)≤(k:Int):=by omega
   have z1:(k:Int) < (n:Int):=by omega
   have z2:decide ((0:Int) < (k:Int)+1)=true:=Ab (by omega)
   have z3:decide ((0:Int) < ((k+1:Nat):Int))=true:=Ab (by omega)
   have hw1:IntKind.i64.wrap (((k+1:Nat):Int) - 1)=(k:Int):=by rw [show ((k+1:Nat):Int) - 1=(k:Int) by omega]; exact Ak _ (by omega)
   by_cases hd:d=0
   ·have e0:(d == 0)=true:=by rw [hd]; rfl
    have ht2:Hid (BA (l.take k)=BA l):=(Ir hk hd).symm.trans ht.out
    replace hk:=hZ hk
    go_wp2_with fail
    go_roundg k
    case measure=>omega
    case rel=>exact ⟨by go_num,by omega,hf,ht2⟩
   ·have e0:(d == 0)=false:=A2 hd
    have hlen:Hid ((BA l).length=k+1):=by show _=_; rw [← ht.out,Is hk hd,Av]; have:=hn.out; omega
    have z4:((k:Int)+1).toNat=k+1:=by omega
    have z5:(k:Int)+1≤(cap:Int):=by omega
    have z6:((k+1:Nat):Int)≤(cap:Int):=by omega
    replace hk:=hZ hk
    go_wp2_with fail
    go_ret
    exact ⟨by rw [hlen.out]; rfl,hf⟩
theorem RY (u v:Nat) (a b:Option Addr) (ca cb:Nat) (w:World) (hx:El w iv a (digs u)) (hy:El w iv b (digs v)) (hl:(digs u).length≤1000000) (hm:(digs v).length≤1000000) :
 Calls Tryz.prog 124 #[.slice a (digs u).length ca,.slice b (digs v).length cb] w fun e w'=>e=.returned (.int .i64 (Ej u v))∧Fr w w':=by
 by_cases hlen:(digs u).length=(digs v).length
 ·have hval:∀ k x y,(digs u)[k]?=some x→(digs v)[k]?=some y→x < y→(digs u).drop (k+1)=(digs v).drop (k+1)→Ej u v=-1:=fun k x y hk hk2 hxy hd=>by
   have:=Ho k (digs u) (digs v) (BK u) (BK v) hlen (fun x' y' e1 e2=>by rw [hk] at e1; rw [hk2] at e2; injection e1 with e1; injection e2 with e2; subst e1; subst e2; exact hxy) (Ae.1 hk).1 hd
   rw [B4,B4] at this
   exact IR (by omega)
  have hval2:∀ k x y,(digs u)[k]?=some x→(digs v)[k]?=some y→y < x→(digs u).drop (k+1)=(digs v).drop (k+1)→Ej u v=1:=fun k x y hk hk2 hxy hd=>by
   have:=Ho k (digs v) (digs u) (BK v) (BK u) hlen.symm (fun x' y' e1 e2=>by rw [hk2] at e1; rw [hk] at e2; injection e1 with e1; injection e2 with e2; subst e1; subst e2; exact hxy) (Ae.1 hk2).1 hd.symm
   rw [B4,B4] at this
   exact KE (by omega)
  have heq0:(digs u).drop 0=(digs v).drop 0→Ej u v=0:=fun h=>by
   rw [Fa,Fa] at h
   rw [Pl h]; exact Rb v
  generalize Ej u v=r at *
  generalize digs u=xs at *
  generalize digs v=ys at *
  have hne:((xs.length:Int) != ys.length)=false:=by rw [hlen]; simp
  obtain ⟨n,hn⟩:∃ n,n=xs.length:=⟨_,rfl⟩
  obtain ⟨m,hmm⟩:∃ m,m=ys.length:=⟨_,rfl⟩
  rw [← hn,← hmm] at hne
  rw [← hn] at hl
  rw [← hmm] at hm
  rw [← hn,← hmm]
  have hnm:(n:Int)≤m:=by omega
  replace hn:=hZ hn
  replace hmm:=hZ hmm
  replace hlen:=hZ hlen
  replace hval:=hZ hval
  replace hval2:=hZ hval2
  replace heq0:=hZ heq0
  replace hx:=hZ hx
  replace hy:=hZ hy
  go_enter Tryz.func124,Tryz.ntmps124
  go_wp2_with fail
  go_loopg [5] n (fun gk s5 wr=>∃ i:Int,s5=.int .i64 i∧i+1=gk∧gk≤n∧Fr w wr∧Hid (xs.drop gk=ys.drop gk))
  case atStart=>exact ⟨_,rfl,by omega,Ah _,Fr.refl _,by show _=_; rw [AQ (by have:=hn.out; omega),AQ (by have:=hn.out; have:=hlen.out; omega)]⟩
  case round=>
   obtain ⟨i,rfl,hik,hgn,hf,hb⟩:=hrel
   by_cases h0:gk=0
   ·subst h0
    obtain rfl:i=-1:=by omega
    have hfin:=hZ (heq0.out hb.out)
    go_wp2_with fail
    go_ret
    exact ⟨by rw [hfin.out]; rfl,hf⟩
   ·obtain ⟨k,rfl⟩:∃ k,gk=k+1:=⟨gk - 1,by omega⟩
    obtain rfl:i=(k:Int):=by omega
    obtain ⟨xb,xo,x,rfl,-,hxk,hxc⟩:=(hx.out.fr hf).at (i:=k) (by rw [← hn.out]; omega)
    obtain ⟨yb,yo,y,rfl,-,hyk,hyc⟩:=(hy.out.fr hf).at (i:=k) (by rw [← hlen.out,← hn.out]; omega)
    have z0:(0:Int)≤(k:Int):=by omega
    have z1:(k:Int) < (n:Int):=by omega
    have z2:(k:Int) < (m:Int):=by omega
    by_cases h1:x < y
    ·have d1:decide (x < y)=true:=Ab h1
     have hfin:=hZ (hval.out k x y hxk hyk h1 hb.out)
     go_wp2_with fail
     go_quiet (fail)
     go_wp2_with fail
     go_ret
     exact ⟨by rw [hfin.out]; rfl,hf.drewN _⟩
    ·have d1:decide (x < y)=false:=Aa h1
     by_cases h2:y < x
     ·have d2:decide (y < x)=true:=Ab h2
      have hfin:=hZ (hval2.out k x y hxk hyk h2 hb.out)
      go_wp2_with fail
      go_quiet (fail)
      go_wp2_with fail
      go_quiet (fail)
      go_wp2_with fail
      go_ret
      exact ⟨by rw [hfin.out]; rfl,(hf.drewN _).drewN _⟩
     ·have d2:decide (y < x)=false:=Aa h2
      obtain rfl:x=y:=by omega
      have hb2:=hZ (show xs.drop k=ys.drop k by rw [CD hxk,CD hyk,hb.out])
      go_wp2_with fail
      go_quiet (fail)
      go_wp2_with fail
      go_quiet (fail)
      go_wp2_with fail
      go_roundg k
      case measure=>omega
      case rel=>exact ⟨_,rfl,by omega,by omega,hf.drewN _,hb2⟩
 ·have hne:(((digs u).length:Int) != (digs v).length)=true:=by rw [Bs]; omega
  by_cases h1:(digs u).length < (digs v).length
  ·have d1:decide ((digs u).length < (digs v).length)=true:=Ab h1
   have hfin:=hZ (IR (Gy u v h1))
   clear hlen
   go_enter Tryz.func124,Tryz.ntmps124
   go_wp2_with fail
   go_ret
   exact ⟨by rw [hfin.out]; rfl,Fr.refl _⟩
  ·have d1:decide ((digs u).length < (digs v).length)=false:=Aa h1
   have hfin:=hZ (KE (Gy v u (by omega)))
   clear hlen
   go_enter Tryz.func124,Tryz.ntmps124
   go_wp2_with fail
   go_ret
   exact ⟨by rw [hfin.out]; rfl,Fr.refl _⟩
theorem XZ (xs ys:List Int) (a b:Option Addr) (ca cb:Nat) (w:World) (hx:El w iv a xs) (hy:El w iv b ys) (dx:Dg xs) (dy:Dg ys) (hl:xs.length≤1000000) (hm:ys.length≤1000000) :
 Calls Tryz.prog 123 #[.slice a xs.length ca,.slice b ys.length cb] w fun e w'=>∃ a' c',e=.returned (.slice a' (CW xs ys 0).length c')∧El w' iv a' (CW xs ys 0)∧(CW xs ys 0).length≤c'∧Fr w w'∧∀ ad,a'=some ad→w.heap.size≤ad.block:=by
 obtain ⟨n,hn⟩:∃ n,n=xs.length:=⟨_,rfl⟩
 obtain ⟨m,hmm⟩:∃ m,m=ys.length:=⟨_,rfl⟩
 rw [← hn] at hl
 rw [← hmm] at hm
 rw [← hn,← hmm]
 obtain ⟨M,hM1,hM2,hM3⟩:∃ M,n≤M∧m≤M∧M≤1000000:=⟨max n m,by omega,by omega,by omega⟩
 replace hn:=hZ hn
 replace hmm:=hZ hmm
 replace hx:=hZ hx
 replace hy:=hZ hy
 replace dx:=hZ dx
 replace dy:=hZ dy
 obtain ⟨i0,hi,hz0,hz1,hz2⟩:=AZ C6
 go_enter Tryz.func123,Tryz.ntmps123
 go_wp2_with fail
 go_loopg [5,6,7] (M+1) (fun gk s5 s6 s7 wr=>∃ (j:Nat) (c:Int) (out:List Int),s7=.int .i64 j∧s6=.int .i64 c∧(0≤c∧c≤1)∧j+gk=M+1∧(gk=0→c=0)∧Hid (out.length=j)∧Fr w wr∧Hid (wr.ownsRow w.heap.size 3 1 s5 j (out.map iv))∧Hid (CW xs ys 0=out ++ CW (xs.drop j) (ys.drop j) c))
 case atStart=>exact ⟨0,0,[],rfl,rfl,by omega,by omega,fun h=>by omega,rfl,Fr.refl _,Bl _ _ _ _,rfl⟩
 case round=>
  obtain ⟨j,c,out,rfl,rfl,hc,hjk,hg0,hol,hf,hown,hb⟩:=hrel
  obtain ⟨hc0,hc1⟩:=hc
  by_cases h1:j < n
  ·have d1:decide (j < n)=true:=Ab h1
   obtain ⟨xb,xo,x,rfl,-,hxj,hxc⟩:=(hx.out.fr hf).at (i:=j) (by rw [← hn.out]; exact h1)
   obtain ⟨x0,x1⟩:=dx.out x (Af hxj)
   by_cases h2:j < m
   ·have d2:decide (j < m)=true:=Ab h2
    obtain ⟨yb,yo,y,rfl,-,hyj,hyc⟩:=(hy.out.fr hf).at (i:=j) (by rw [← hmm.out]; exact h2)
    obtain ⟨y0,y1⟩:=dy.out y (Af hyj)
    have z0:(0:Int)≤(j:Int):=by omega
    have z1:(j:Int) < (n:Int):=by omega
    have z2:(j:Int) < (m:Int):=by omega
    have hs:=hZ (show CW xs ys 0=(out ++ [(c+x+y) % 1000000000]) ++ CW (xs.drop (j+1)) (ys.drop (j+1)) ((c+x+y) / 1000000000) by
     rw [hb.out,CD hxj,CD hyj,OD,Bd]; rfl)
    go_wp2_with (at_builtin; refine wpList_append_lies _ rfl _ _ 23 (by rfl) _ 3 _ _ 1 8 Tryz.underlying23 hi hz0 hz1 hz2 rfl (by decide) _ j _ (by rfl) (Az hown.out _) ⟨wr.heap.size,0,none⟩ 1 1 [iv ((c+x+y) % 1000000000)] (by rfl) rfl (AK _ _ _ _ (by simp)) (by simp [Value.oneCell']) (by decide) (by unfold maxLen; omega) (by omega) (by have:=hf.size; simp; omega) (wr.heap.size+1) (by simp) ?_; intro gA capA wA hownA hgrowA hatA hltA)
    go_wp2_with fail
    go_roundg (gk - 1)
    case measure=>omega
    case rel=>exact ⟨j+1,(c+x+y) / 1000000000,out ++ [(c+x+y) % 1000000000],by go_num,rfl,by omega,by omega,fun h=>by omega,by show _=_; rw [Ar,hol.out]; rfl,(hf.alloc _).grown hgrowA (fun k e=>(hown.out.lt k e).1),by show _; rw [Ay]; exact hownA,hs⟩
   ·have d2:decide (j < m)=false:=Aa h2
    have hs:=hZ (show CW xs ys 0=(out ++ [(c+x) % 1000000000]) ++ CW (xs.drop (j+1)) (ys.drop (j+1)) ((c+x) / 1000000000) by
     rw [hb.out,CD hxj,show ys.drop j=[] from AQ (by have:=hmm.out; omega),show ys.drop (j+1)=[] from AQ (by have:=hmm.out; omega),OC,Bd]; rfl)
    have z0:(0:Int)≤(j:Int):=by omega
    have z1:(j:Int) < (n:Int):=by omega
    go_wp2_with (at_builtin; refine wpList_append_lies _ rfl _ _ 23 (by rfl) _ 3 _ _ 1 8 Tryz.underlying23 hi hz0 hz1 hz2 rfl (by decide) _ j _ (by rfl) (Az hown.out _) ⟨wr.heap.size,0,none⟩ 1 1 [iv ((c+x) % 1000000000)] (by rfl) rfl (AK _ _ _ _ (by simp)) (by simp [Value.oneCell']) (by decide) (by unfold maxLen; omega) (by omega) (by have:=hf.size; simp; omega) (wr.heap.size+1) (by simp) ?_; intro gA capA wA hownA hgrowA hatA hltA)
    go_wp2_with fail
    go_roundg (gk - 1)
    case measure=>omega
    case rel=>exact ⟨j+1,(c+x) / 1000000000,out ++ [(c+x) % 1000000000],by go_num,rfl,by omega,by omega,fun h=>by omega,by show _=_; rw [Ar,hol.out]; rfl,(hf.alloc _).grown hgrowA (fun k e=>(hown.out.lt k e).1),by show _; rw [Ay]; exact hownA,hs⟩
  ·have d1:decide (j < n)=false:=Aa h1
   have hdx:xs.drop j=[]:=AQ (by have:=hn.out; omega)
   have hdx1:xs.drop (j+1)=[]:=AQ (by have:=hn.out; omega)
   by_cases h2:j < m
   ·have d2:decide (j < m)=true:=Ab h2
    obtain ⟨yb,yo,y,rfl,-,hyj,hyc⟩:=(hy.out.fr hf).at (i:=j) (by rw [← hmm.out]; exact h2)
    obtain ⟨y0,y1⟩:=dy.out y (Af hyj)
    have z0:(0:Int)≤(j:Int):=by omega
    have z2:(j:Int) < (m:Int):=by omega
    have hs:=hZ (show CW xs ys 0=(out ++ [(c+y) % 1000000000]) ++ CW (xs.drop (j+1)) (ys.drop (j+1)) ((c+y) / 1000000000) by
     rw [hb.out,hdx,hdx1,CD hyj,OB,Bd]; rfl)
    clear hdx hdx1
    go_wp2_with (at_builtin; refine wpList_append_lies _ rfl _ _ 23 (by rfl) _ 3 _ _ 1 8 Tryz.underlying23 hi hz0 hz1 hz2 rfl (by decide) _ j _ (by rfl) (Az hown.out _) ⟨wr.heap.size,0,none⟩ 1 1 [iv ((c+y) % 1000000000)] (by rfl) rfl (AK _ _ _ _ (by simp)) (by simp [Value.oneCell']) (by decide) (by unfold maxLen; omega) (by omega) (by have:=hf.size; simp; omega) (wr.heap.size+1) (by simp) ?_; intro gA capA wA hownA hgrowA hatA hltA)
    go_wp2_with fail
    go_roundg (gk - 1)
    case measure=>omega
    case rel=>exact ⟨j+1,(c+y) / 1000000000,out ++ [(c+y) % 1000000000],by go_num,rfl,by omega,by omega,fun h=>by omega,by show _=_; rw [Ar,hol.out]; rfl,(hf.alloc _).grown hgrowA (fun k e=>(hown.out.lt k e).1),by show _; rw [Ay]; exact hownA,hs⟩
   ·have d2:decide (j < m)=false:=Aa h2
    have hdy:ys.drop j=[]:=AQ (by have:=hmm.out; omega)
    have hdy1:ys.drop (j+1)=[]:=AQ (by have:=hmm.out; omega)
    by_cases h3:c=0
    ·subst h3
     have hfin:CW xs ys 0=out:=by rw [hb.out,hdx,hdy,Hx,Ag (by omega),BE]
     have hown9:=hown.out
     rw [← hol.out] at hown9
     obtain ⟨a9,c9,rfl,he9,hc9,hb9⟩:=Gt hown9
     replace hb9:=hZ hb9
     rw [← hfin] at he9 hc9
     have hr9:=hZ (show CW xs ys 0=out from hfin)
     have he9:=hZ he9
     clear hown9 hfin hdx hdx1 hdy hdy1
     go_wp2_with fail
     go_ret
     exact ⟨a9,c9,by rw [hr9.out]; rfl,he9.out,hc9,hf,hb9.out⟩
    ·obtain rfl:c=1:=by omega
     have hs:=hZ (show CW xs ys 0=(out ++ [(1:Int)]) ++ CW (xs.drop (j+1)) (ys.drop (j+1)) 0 by
      rw [hb.out,hdx,hdx1,hdy,hdy1,Hx,Hx,Ai (by omega),Ag (by omega),BE])
     clear hdx hdx1 hdy hdy1
     go_wp2_with (at_builtin; refine wpList_append_lies _ rfl _ _ 23 (by rfl) _ 3 _ _ 1 8 Tryz.underlying23 hi hz0 hz1 hz2 rfl (by decide) _ j _ (by rfl) (Az hown.out _) ⟨wr.heap.size,0,none⟩ 1 1 [iv 1] (by rfl) rfl (AK _ _ _ _ (by simp)) (by simp [Value.oneCell']) (by decide) (by unfold maxLen; omega) (by omega) (by have:=hf.size; simp; omega) (wr.heap.size+1) (by simp) ?_; intro gA capA wA hownA hgrowA hatA hltA)
     go_wp2_with fail
     go_roundg (gk - 1)
     case measure=>omega
     case rel=>exact ⟨j+1,0,out ++ [1],by go_num,rfl,by omega,by omega,fun _=>rfl,by show _=_; rw [Ar,hol.out]; rfl,(hf.alloc _).grown hgrowA (fun k e=>(hown.out.lt k e).1),by show _; rw [Ay]; exact hownA,hs⟩
theorem N1 (xs ys:List Int) (a b:Option Addr) (ca cb:Nat) (w:World) (hx:El w iv a xs) (hy:El w iv b ys) (dx:Dg xs) (dy:Dg ys) (hl:xs.length≤1000000) (hm:ys.length≤1000000) :
 Calls Tryz.prog 125 #[.slice a xs.length ca,.slice b ys.length cb] w fun e w'=>∃ a' c',e=.returned (.slice a' (BA (CN xs ys 0)).length c')∧El w' iv a' (BA (CN xs ys 0))∧(BA (CN xs ys 0)).length≤c'∧Fr w w'∧(0 < xs.length→∃ ad,a'=some ad):=by
 obtain ⟨n,hn⟩:∃ n,n=xs.length:=⟨_,rfl⟩
 obtain ⟨m,hmm⟩:∃ m,m=ys.length:=⟨_,rfl⟩
 rw [← hn] at hl
 rw [← hmm] at hm
 rw [← hn,← hmm]
 replace hn:=hZ hn
 replace hmm:=hZ hmm
 replace hx:=hZ hx
 replace hy:=hZ hy
 replace dx:=hZ dx
 replace dy:=hZ dy
 obtain ⟨i0,hi,hz0,hz1,hz2⟩:=AZ C6
 go_enter Tryz.func125,Tryz.ntmps125
 go_wp2_with fail
 go_loopg [5,6,7] n (fun gk s5 s6 s7 wr=>∃ (j:Nat) (c:Int) (out:List Int),s7=.int .i64 j∧s6=.int .i64 c∧(0≤c∧c≤1)∧j+gk=n∧Hid (out.length=j)∧Fr w wr∧Hid (wr.ownsRow w.heap.size 3 1 s5 j (out.map iv))∧Hid (CN xs ys 0=out ++ CN (xs.drop j) (ys.drop j) c))
 case atStart=>exact ⟨0,0,[],rfl,rfl,by omega,by omega,rfl,Fr.refl _,Bl _ _ _ _,rfl⟩
 case round=>
  obtain ⟨j,c,out,rfl,rfl,hc,hjk,hol,hf,hown,hb⟩:=hrel
  obtain ⟨hc0,hc1⟩:=hc
  by_cases h1:j < n
  ·have d1:decide (j < n)=true:=Ab h1
   obtain ⟨xb,xo,x,rfl,-,hxj,hxc⟩:=(hx.out.fr hf).at (i:=j) (by rw [← hn.out]; exact h1)
   obtain ⟨x0,x1⟩:=dx.out x (Af hxj)
   have z0:(0:Int)≤(j:Int):=by omega
   have z1:(j:Int) < (n:Int):=by omega
   by_cases h2:j < m
   ·have d2:decide (j < m)=true:=Ab h2
    obtain ⟨yb,yo,y,rfl,-,hyj,hyc⟩:=(hy.out.fr hf).at (i:=j) (by rw [← hmm.out]; exact h2)
    obtain ⟨y0,y1⟩:=dy.out y (Af hyj)
    have z2:(j:Int) < (m:Int):=by omega
    have hs:=hZ (show CN xs ys 0=(out ++ [Hi (x - c - y)]) ++ CN (xs.drop (j+1)) (ys.drop (j+1)) (FA (x - c - y)) by
     rw [hb.out,CD hxj,CD hyj,MO,Bd]; rfl)
    by_cases h3:x - c - y < 0
    ·have d3:decide (x - c - y < 0)=true:=Ab h3
     rw [show Hi (x - c - y)=x - c - y+1000000000 by unfold Hi; rw [Ai h3],show FA (x - c - y)=1 by unfold FA; rw [Ai h3]] at hs
     go_wp2_with (at_builtin; refine wpList_append_lies _ rfl _ _ 23 (by rfl) _ 3 _ _ 1 8 Tryz.underlying23 hi hz0 hz1 hz2 rfl (by decide) _ j _ (by rfl) (Az hown.out _) ⟨wr.heap.size,0,none⟩ 1 1 [iv (x - c - y+1000000000)] (by rfl) rfl (AK _ _ _ _ (by simp)) (by simp [Value.oneCell']) (by decide) (by unfold maxLen; omega) (by omega) (by have:=hf.size; simp; omega) (wr.heap.size+1) (by simp) ?_; intro gA capA wA hownA hgrowA hatA hltA)
     go_wp2_with fail
     go_roundg (gk - 1)
     case measure=>omega
     case rel=>exact ⟨j+1,1,out ++ [x - c - y+1000000000],by go_num,rfl,by omega,by omega,by show _=_; rw [Ar,hol.out]; rfl,(hf.alloc _).grown hgrowA (fun k e=>(hown.out.lt k e).1),by show _; rw [Ay]; exact hownA,hs⟩
    ·have d3:decide (x - c - y < 0)=false:=Aa h3
     rw [show Hi (x - c - y)=x - c - y by unfold Hi; rw [Ag h3],show FA (x - c - y)=0 by unfold FA; rw [Ag h3]] at hs
     go_wp2_with (at_builtin; refine wpList_append_lies _ rfl _ _ 23 (by rfl) _ 3 _ _ 1 8 Tryz.underlying23 hi hz0 hz1 hz2 rfl (by decide) _ j _ (by rfl) (Az hown.out _) ⟨wr.heap.size,0,none⟩ 1 1 [iv (x - c - y)] (by rfl) rfl (AK _ _ _ _ (by simp)) (by simp [Value.oneCell']) (by decide) (by unfold maxLen; omega) (by omega) (by have:=hf.size; simp; omega) (wr.heap.size+1) (by simp) ?_; intro gA capA wA hownA hgrowA hatA hltA)
     go_wp2_with fail
     go_roundg (gk - 1)
     case measure=>omega
     case rel=>exact ⟨j+1,0,out ++ [x - c - y],by go_num,rfl,by omega,by omega,by show _=_; rw [Ar,hol.out]; rfl,(hf.alloc _).grown hgrowA (fun k e=>(hown.out.lt k e).1),by show _; rw [Ay]; exact hownA,hs⟩
   ·have d2:decide (j < m)=false:=Aa h2
    have hs:=hZ (show CN xs ys 0=(out ++ [Hi (x - c)]) ++ CN (xs.drop (j+1)) (ys.drop (j+1)) (FA (x - c)) by
     rw [hb.out,CD hxj,show ys.drop j=[] from AQ (by have:=hmm.out; omega),show ys.drop (j+1)=[] from AQ (by have:=hmm.out; omega),MN,Bd]; rfl)
    by_cases h3:x - c < 0
    ·have d3:decide (x - c < 0)=true:=Ab h3
     rw [show Hi (x - c)=x - c+1000000000 by unfold Hi; rw [Ai h3],show FA (x - c)=1 by unfold FA; rw [Ai h3]] at hs
     go_wp2_with (at_builtin; refine wpList_append_lies _ rfl _ _ 23 (by rfl) _ 3 _ _ 1 8 Tryz.underlying23 hi hz0 hz1 hz2 rfl (by decide) _ j _ (by rfl) (Az hown.out _) ⟨wr.heap.size,0,none⟩ 1 1 [iv (x - c+1000000000)] (by rfl) rfl (AK _ _ _ _ (by simp)) (by simp [Value.oneCell']) (by decide) (by unfold maxLen; omega) (by omega) (by have:=hf.size; simp; omega) (wr.heap.size+1) (by simp) ?_; intro gA capA wA hownA hgrowA hatA hltA)
     go_wp2_with fail
     go_roundg (gk - 1)
     case measure=>omega
     case rel=>exact ⟨j+1,1,out ++ [x - c+1000000000],by go_num,rfl,by omega,by omega,by show _=_; rw [Ar,hol.out]; rfl,(hf.alloc _).grown hgrowA (fun k e=>(hown.out.lt k e).1),by show _; rw [Ay]; exact hownA,hs⟩
    ·have d3:decide (x - c < 0)=false:=Aa h3
     rw [show Hi (x - c)=x - c by unfold Hi; rw [Ag h3],show FA (x - c)=0 by unfold FA; rw [Ag h3]] at hs
     go_wp2_with (at_builtin; refine wpList_append_lies _ rfl _ _ 23 (by rfl) _ 3 _ _ 1 8 Tryz.underlying23 hi hz0 hz1 hz2 rfl (by decide) _ j _ (by rfl) (Az hown.out _) ⟨wr.heap.size,0,none⟩ 1 1 [iv (x - c)] (by rfl) rfl (AK _ _ _ _ (by simp)) (by simp [Value.oneCell']) (by decide) (by unfold maxLen; omega) (by omega) (by have:=hf.size; simp; omega) (wr.heap.size+1) (by simp) ?_; intro gA capA wA hownA hgrowA hatA hltA)
     go_wp2_with fail
     go_roundg (gk - 1)
     case measure=>omega
     case rel=>exact ⟨j+1,0,out ++ [x - c],by go_num,rfl,by omega,by omega,by show _=_; rw [Ar,hol.out]; rfl,(hf.alloc _).grown hgrowA (fun k e=>(hown.out.lt k e).1),by show _; rw [Ay]; exact hownA,hs⟩
  ·obtain rfl:j=n:=by omega
   have d1:decide (j < j)=false:=Aa h1
   have hfin:CN xs ys 0=out:=by rw [hb.out,show xs.drop j=[] from AQ (by have:=hn.out; omega),OO,BE]
   have hown9:=hown.out
   rw [← hol.out] at hown9
   obtain ⟨a9,c9,rfl,he9,hc9,-⟩:=Gt hown9
   have hsm:Hid (0 < out.length→∃ ad,a9=some ad):=fun h=>by
    obtain ⟨g,c,e,-⟩:=World.ownsRow.form hown9 h
    injection e with e
    exact ⟨_,e⟩
   have hlo:out.length≤1000000:=by rw [hol.out]; omega
   have htr:=hZ (IA out a9 c9 wr he9 (by omega) hc9)
   have hr9:=hZ (show CN xs ys 0=out from hfin)
   have he9:=hZ he9
   clear hown9 hfin hlo
   go_wp2_with fail
   refine htr.out.mono ?_
   rintro e w3 ⟨rfl,hf3⟩
   go_wp2_with fail
   go_ret
   have hle:=(BS out).2
   exact ⟨a9,c9,by rw [hr9.out]; rfl,by rw [hr9.out]; exact (GX he9.out).fr hf3,by rw [hr9.out]; omega,hf.trans hf3,fun h=>hsm.out (by rw [hol.out]; exact h)⟩
theorem El.fxr {W W':World} {a:Option Addr} {l:List Int} {r:Nat} (h:El W iv a l) (k:Fx (·=r) W W') (hr:∀ ad,a=some ad→ad.block≠r):El W' iv a l:=by
 rcases h with h | ⟨b,o,ha,hb,hc⟩
 ·exact .inl h
 ·exact .inr ⟨b,o,ha,Aq hb k.size,fun i x hx=>k.keep (hc i x hx) (show b≠r from hr _ ha)⟩
def Gn (d:Int):List Int→List Int→Int→List Int
 | [],_,_=>[]
 | o :: os,[],c=>if 0 < c then ((c+o) % 1000000000) :: Gn d os [] ((c+o) / 1000000000) else o :: os
 | o :: os,b :: bs,c=>((c+o+d * b) % 1000000000) :: Gn d os bs ((c+o+d * b) / 1000000000)
theorem KF (d o b c:Int) (os bs:List Int):Gn d (o :: os) (b :: bs) c=((c+o+d * b) % 1000000000) :: Gn d os bs ((c+o+d * b) / 1000000000):=by rw [Gn]
theorem IW (d o c:Int) (os:List Int):Gn d (o :: os) [] c=if 0 < c then ((c+o) % 1000000000) :: Gn d os [] ((c+o) / 1000000000) else o :: os:=by rw [Gn]
theorem Ns (d c:Int) (bs:List Int):Gn d [] bs c=[]:=by rw [Gn]
def pw:Nat→Int
 | 0=>1
 | n+1=>1000000000 * pw n
theorem G2:∀ n,0 < pw n
 | 0=>by show (0:Int) < 1; omega
 | n+1=>by have:=G2 n; show 0 < 1000000000 * pw n; omega
theorem P5:∀ {l:List Int},Dg l→val l < pw l.length
 | [],_=>by show (0:Int) < 1; omega
 | d :: l,h=>by
   have h1:=h.cons.1
   have:=P5 h.cons.2
   show d+1000000000 * val l < 1000000000 * pw l.length
   omega
theorem FK:∀ (a b:List Int),val (a ++ b)=val a+pw a.length * val b
 | [],b=>by show val b=0+1 * val b; omega
 | d :: a,b=>by
   show d+1000000000 * val (a ++ b)=d+1000000000 * val a+1000000000 * pw a.length * val b
   rw [FK a b,Oc,P3]; omega
def HN (d:Int) (os bs:List Int) (c:Int):Prop:=val os+d * val bs+c < pw os.length
theorem HN.step {d o b c:Int} {os bs:List Int} (h:HN d (o :: os) (b :: bs) c):HN d os bs ((c+o+d * b) / 1000000000):=by
 unfold HN at *
 have e:val (o :: os)+d * val (b :: bs)+c=(c+o+d * b)+1000000000 * (val os+d * val bs):=by
  show o+1000000000 * val os+d * (b+1000000000 * val bs)+c=_
  rw [Oc,Int.mul_left_comm d]; omega
 rw [e] at h
 have h:c+o+d * b+1000000000 * (val os+d * val bs) < 1000000000 * pw os.length:=h
 generalize val os+d * val bs=V at *
 generalize d * b=q at *
 omega
theorem HN.step0 {d o c:Int} {os:List Int} (h:HN d (o :: os) [] c):HN d os [] ((c+o) / 1000000000):=by
 unfold HN at *
 have h:o+1000000000 * val os+d * 0+c < 1000000000 * pw os.length:=h
 show val os+d * 0+_ < _
 rw [B0] at h ⊢
 omega
theorem HN.ne {d c:Int} {bs:List Int} (h:HN d [] bs c) (hd:0≤d) (hb:Dg bs) (hc:0≤c):c=0:=by
 unfold HN at h
 have h:0+d * val bs+c < 1:=h
 have:=BR hd (Iq hb)
 omega
theorem Lb (d:Int):∀ (os bs:List Int) (c:Int),(Gn d os bs c).length=os.length
 | [],bs,c=>by rw [Ns]
 | o :: os,[],c=>by
   rw [IW]
   split
   ·rw [Aw,Aw,Lb d os]
   ·rfl
 | o :: os,b :: bs,c=>by rw [KF,Aw,Aw,Lb d os]
theorem Nt {d:Int} (hd:0≤d∧d < 1000000000):∀ (os bs:List Int) (c:Int),Dg os→Dg bs→0≤c→Dg (Gn d os bs c)
 | [],bs,c,_,_,_=>by rw [Ns]; intro x hx; simp at hx
 | o :: os,[],c,ho,hb,hc=>by
   rw [IW]
   have h1:=ho.cons
   split
   ·exact Dg.mk (by omega) (Nt hd os [] _ h1.2 hb (by omega))
   ·exact ho
 | o :: os,b :: bs,c,ho,hb,hc=>by
   rw [KF]
   have h1:=ho.cons
   have h2:=hb.cons
   have h3:=BR hd.1 h2.1.1
   exact Dg.mk (by omega) (Nt hd os bs _ h1.2 h2.2 (by omega))
theorem La {d:Int} (hd:0≤d):∀ (os bs:List Int) (c:Int),Dg os→Dg bs→0≤c→HN d os bs c→val (Gn d os bs c)=val os+d * val bs+c
 | [],bs,c,_,hb,hc,h=>by
   rw [Ns]
   have h0:=h.ne hd hb hc
   unfold HN at h
   have h:0+d * val bs+c < 1:=h
   have:=BR hd (Iq hb)
   show (0:Int)=0+d * val bs+c
   omega
 | o :: os,[],c,ho,hb,hc,h=>by
   rw [IW]
   have h1:=ho.cons
   split
   ·have ih:=La hd os [] ((c+o) / 1000000000) h1.2 hb (by omega) h.step0
    show (c+o) % 1000000000+1000000000 * val (Gn d os [] ((c+o) / 1000000000))=o+1000000000 * val os+d * 0+c
    rw [ih]
    show (c+o) % 1000000000+1000000000 * (val os+d * 0+(c+o) / 1000000000)=_
    rw [B0]
    omega
   ·show o+1000000000 * val os=o+1000000000 * val os+d * 0+c
    rw [B0]; omega
 | o :: os,b :: bs,c,ho,hb,hc,h=>by
   rw [KF]
   have h1:=ho.cons
   have h2:=hb.cons
   have h3:=BR hd h2.1.1
   have ih:=La hd os bs ((c+o+d * b) / 1000000000) h1.2 h2.2 (by omega) h.step
   show (c+o+d * b) % 1000000000+1000000000 * val (Gn d os bs ((c+o+d * b) / 1000000000))=o+1000000000 * val os+d * (b+1000000000 * val bs)+c
   rw [ih,Oc d,Int.mul_left_comm d]
   generalize d * val bs=q
   generalize d * b=r
   omega
theorem Qe:∀ (a b:Nat),pw (a+b)=pw a * pw b
 | 0,b=>by rw [AN]; show pw b=1 * pw b; omega
 | a+1,b=>by
   rw [Nat.add_right_comm]
   show 1000000000 * pw (a+b)=1000000000 * pw a * pw b
   rw [Qe a b,P3]
theorem Ri {a b:Nat} (h:a≤b):pw a≤pw b:=by
 obtain ⟨k,rfl⟩:∃ k,b=a+k:=⟨b - a,by omega⟩
 rw [Qe]
 have h1:=G2 a
 have h2:=G2 k
 have:=VR (show (1:Int)≤pw k by omega) (Ib h1)
 omega
theorem Dg.take {l:List Int} (h:Dg l) (k:Nat):Dg (l.take k):=fun x hx=>h x (BZ hx)
theorem Dg.drop {l:List Int} (h:Dg l) (k:Nat):Dg (l.drop k):=fun x hx=>h x (Oa hx)
structure Mo (xs ys out:List Int) (i:Nat):Prop where
 dg:Dg out
 len:out.length=xs.length+ys.length+1
 vl:val out=val (xs.take i) * val ys
theorem Mo.fit {xs ys out:List Int} {i:Nat} {d:Int} (h:Mo xs ys out i) (hx:Dg xs) (hy:Dg ys) (hd:xs[i]?=some d):HN d (out.drop i) ys 0:=by
 obtain ⟨hi,he⟩:=Ae.1 hd
 obtain ⟨d0,d1⟩:=hx d (Af hd)
 have h1:=FK (out.take i) (out.drop i)
 rw [EJ,h.vl,Av,h.len,Db (by omega)] at h1
 have h2:=P5 (hx.take i)
 rw [Av,Db (by omega)] at h2
 have h3:=P5 hy
 have h4:=Iq hy
 have h5:=Iq (h.dg.take i)
 have h6:=Iq (h.dg.drop i)
 have p1:=G2 i
 have p2:=G2 ys.length
 have h7:pw i * val (out.drop i) < pw i * pw ys.length:=by
  have a1:val (xs.take i) * val ys≤pw i * val ys:=Ba (by omega) h4
  have a2:pw i * val ys < pw i * pw ys.length:=Int.mul_lt_mul_of_pos_left h3 p1
  omega
 have h8:val (out.drop i) < pw ys.length:=Int.lt_of_mul_lt_mul_left h7 (Ib p1)
 have h9:d * val ys≤999999999 * val ys:=Ba (by omega) h4
 have h10:=Ri (show ys.length+1≤(out.drop i).length by rw [CJ,h.len]; omega)
 have h11:pw (ys.length+1)=1000000000 * pw ys.length:=rfl
 unfold HN
 omega
theorem Mo.step {xs ys out:List Int} {i:Nat} {d:Int} (h:Mo xs ys out i) (hx:Dg xs) (hy:Dg ys) (hd:xs[i]?=some d):Mo xs ys (out.take i ++ Gn d (out.drop i) ys 0) (i+1):=by
 have hf:=h.fit hx hy hd
 obtain ⟨hi,he⟩:=Ae.1 hd
 obtain ⟨d0,d1⟩:=hx d (Af hd)
 have hl:(out.take i).length=i:=by rw [Av,h.len]; omega
 refine ⟨?_, ?_, ?_⟩
 ·intro x hx'
  rcases BD.1 hx' with h1 | h1
  ·exact h.dg.take i x h1
  ·exact Nt ⟨d0,d1⟩ _ _ _ (h.dg.drop i) hy (Ju _) x h1
 ·rw [Ar,hl,Lb,CJ,h.len]; omega
 ·have h1:=FK (out.take i) (out.drop i)
  rw [EJ,h.vl,hl] at h1
  have h2:xs.take (i+1)=xs.take i ++ [d]:=by rw [DH,hd]; rfl
  rw [FK,La d0 _ _ _ (h.dg.drop i) hy (Ju _) hf,hl,h2,FK,Av,Db (by omega)]
  show val (out.take i)+pw i * (val (out.drop i)+d * val ys+0)=(val (xs.take i)+pw i * (d+1000000000 * 0)) * val ys
  rw [Gh,B0,Gh,Oc,VS,← Int.add_assoc,← h1,P3]
def Hj (w:World) (b:Nat) (xs:List Int):Prop :=
 b < w.heap.size∧∀ j x,xs[j]?=some x→w.cell? ⟨b,j,none⟩=some (iv x)∧w.frozen? ⟨b,j,none⟩=false
theorem Hj.fx {p:Nat→Prop} {w w':World} {b:Nat} {xs:List Int} (h:Hj w b xs) (k:Fx p w w') (hp:¬ p b):Hj w' b xs :=
 ⟨Aq h.1 k.size,fun j x hx=>by rw [k.cell h.1 hp,k.frozen h.1 hp]; exact h.2 j x hx⟩
theorem Hj.fr {w w':World} {b:Nat} {xs:List Int} (h:Hj w b xs) (k:Fr w w'):Hj w' b xs :=
 h.fx (p:=fun _=>False) (Fx.of_fr k) (fun e=>e)
theorem Hj.set {w:World} {b:Nat} {xs:List Int} (h:Hj w b xs) {k:Nat} (hk:k < xs.length) (x:Int):Hj (w.setCell ⟨b,k,none⟩ (iv x)) b (xs.set k x):=by
 obtain ⟨h2,h3⟩:=h
 refine ⟨by simpa [World.setCell] using h2,fun j y hy=>?_⟩
 rw [Am]
 rw [Cp] at hy
 by_cases e:k=j
 ·subst e
  rw [Ai rfl,Ai hk] at hy
  injection hy with hy; subst hy
  have h4:=h3 k xs[k] (Ac hk)
  exact ⟨Al _ _ _ (by rw [h4.1]; rfl),h4.2⟩
 ·rw [Ag e] at hy
  have h4:=h3 j y hy
  refine ⟨?_,h4.2⟩
  rw [Ad w ⟨b,k,none⟩ ⟨b,j,none⟩ _ (fun e2=>by injection e2 with e3 e4; omega)]
  exact h4.1
theorem Hj.el {w:World} {b:Nat} {xs:List Int} (h:Hj w b xs):El w iv (some ⟨b,0,none⟩) xs :=
 .inr ⟨b,0,rfl,h.1,fun i x hx=>by rw [AN]; exact (h.2 i x hx).1⟩
structure Jg (d:Int) (pre F:List Int) (i N:Nat) (ys:List Int) (k:Nat) (c:Int) (cur:List Int):Prop where
 len:cur.length=N
 dg:Dg cur
 fit:HN d (cur.drop (i+k)) (ys.drop k) c
 eq:cur.take (i+k) ++ Gn d (cur.drop (i+k)) (ys.drop k) c=pre ++ F
theorem Ot {l:List Int} {j:Nat} (h:j < l.length) (v:Int):(l.set j v).take (j+1)=l.take j ++ [v]:=by
 rw [DH,ZV (Ah _),Gg h]; rfl
theorem IU {l:List Int} {j:Nat} (v:Int):(l.set j v).drop (j+1)=l.drop (j+1):=by
 rw [ZX (by omega)]
theorem Dg.set {l:List Int} (h:Dg l) (j:Nat) {v:Int} (hv:0≤v∧v < 1000000000):Dg (l.set j v):=fun x hx=>by
 rcases Cf hx with h1 | rfl
 ·exact h x h1
 ·exact hv
theorem Jg.at {d:Int} {pre F:List Int} {i N:Nat} {ys:List Int} {k:Nat} {c:Int} {cur:List Int} (h:Jg d pre F i N ys k c cur) (hd:0≤d) (hy:Dg ys) (hc:0≤c) (hk:k < ys.length∧i+ys.length < N∨0 < c):i+k < N:=by
 rcases hk with h1 | h1
 ·omega
 ·by_cases hl:i+k < N
  ·exact hl
  ·have h2:=h.fit
   rw [AQ (by rw [h.len]; omega)] at h2
   have:=h2.ne hd (hy.drop k) hc
   omega
theorem Jg.step1 {d:Int} {pre F:List Int} {i N:Nat} {ys:List Int} {k:Nat} {c b o:Int} {cur:List Int} (h:Jg d pre F i N ys k c cur) (hb:ys[k]?=some b) (ho:cur[i+k]?=some o) :
 Jg d pre F i N ys (k+1) ((c+o+d * b) / 1000000000) (cur.set (i+k) ((c+o+d * b) % 1000000000)):=by
 have hl:=(Ae.1 ho).1
 have h1:=h.fit
 have h2:=h.eq
 rw [CD ho,CD hb] at h1 h2
 refine ⟨by rw [A0]; exact h.len,h.dg.set _ (by omega), ?_, ?_⟩
 ·rw [← Nat.add_assoc,IU]; exact h1.step
 ·rw [← Nat.add_assoc,IU,Ot hl,← h2,KF,Bd]; rfl
theorem Jg.step0 {d:Int} {pre F:List Int} {i N:Nat} {ys:List Int} {k:Nat} {c o:Int} {cur:List Int} (h:Jg d pre F i N ys k c cur) (hc:0 < c) (hb:ys.length≤k) (ho:cur[i+k]?=some o) :
 Jg d pre F i N ys (k+1) ((c+o) / 1000000000) (cur.set (i+k) ((c+o) % 1000000000)):=by
 have hl:=(Ae.1 ho).1
 have h1:=h.fit
 have h2:=h.eq
 rw [CD ho,AQ hb] at h1 h2
 refine ⟨by rw [A0]; exact h.len,h.dg.set _ (by omega), ?_, ?_⟩
 ·rw [← Nat.add_assoc,IU,show ys.drop (k+1)=[] from AQ (by omega)]; exact h1.step0
 ·rw [← Nat.add_assoc,IU,Ot hl,← h2,show ys.drop (k+1)=[] from AQ (by omega),IW,Ai hc,Bd]; rfl
theorem Jg.fin {d:Int} {pre F:List Int} {i N:Nat} {ys:List Int} {k:Nat} {cur:List Int} (h:Jg d pre F i N ys k 0 cur) (hb:ys.length≤k):cur=pre ++ F:=by
 rw [← h.eq,AQ hb]
 have e:Gn d (cur.drop (i+k)) [] 0=cur.drop (i+k):=by
  cases cur.drop (i+k) with
  | nil=>rw [Ns]
  | cons o os=>rw [IW,Ag (by omega)]
 rw [e,EJ]
theorem Jg.start {d:Int} {out ys:List Int} {i N:Nat} (hl:out.length=N) (hg:Dg out) (hf:HN d (out.drop i) ys 0):Jg d (out.take i) (Gn d (out.drop i) ys 0) i N ys 0 0 out :=
 ⟨hl,hg,hf,rfl⟩
theorem Mo.zero (xs ys:List Int):Mo xs ys (List.replicate (xs.length+ys.length+1) 0) 0:=by
 refine ⟨fun x hx=>by have:=B7 hx; omega,AO, ?_⟩
 have:∀ n,val (List.replicate n 0)=0:=fun n=>by
  induction n with
  | zero=>rfl
  | succ n ih=>show (0:Int)+1000000000 * val (List.replicate n 0)=0; rw [ih]; rfl
 rw [this]
 show (0:Int)=0 * val ys
 rw [CZ]
theorem Ud (v:Value) (n:Nat):(madeCells #[v] n).toList=List.replicate n v:=by
 refine DI (fun i=>?_)
 by_cases hi:i < n
 ·simp [madeCells,hi,Nat.mod_one]
 ·simp [madeCells,hi]
theorem Rh {w2:World} {b n:Nat} {base:Nat} {e:TypeId} {z:Value} (hz:z.cells=#[iv 0]) (h:w2.ownsRow base e 1 (.slice (some ⟨b,0,none⟩) n n) n (madeCells z.cells (n * 1)).toList):Hj w2 b (List.replicate n 0):=by
 obtain ⟨h1,h2,h3⟩:=Ih h
 have hL:(madeCells z.cells (n * 1)).toList=List.replicate n (iv 0):=by
  rw [hz,FV]
  exact Ud _ n
 rw [hL] at h1
 refine ⟨Ll h1,fun j x hx=>?_⟩
 have hj:j < n:=by simpa using (Ae.1 hx).1
 have hx0:x=0:=B7 (Af hx)
 subst hx0
 exact ⟨by rw [A1 h1 j]; simp [hj],by unfold World.frozen?; rw [h1]; rfl⟩
theorem RX (xs ys:List Int) (n:Nat) (hn:val xs * val ys=(n:Int)) (a b:Option Addr) (ca cb:Nat) (w:World) (hx:El w iv a xs) (hy:El w iv b ys) (dx:Dg xs) (dy:Dg ys) (hl:xs.length≤1000000) (hm:ys.length≤1000000) :
 Calls Tryz.prog 126 #[.slice a xs.length ca,.slice b ys.length cb] w fun e w'=>∃ a' c',e=.returned (.slice a' (digs n).length c')∧El w' iv a' (digs n)∧(digs n).length≤c'∧Fr w w':=by
 obtain ⟨nx,hnx⟩:∃ nx,nx=xs.length:=⟨_,rfl⟩
 obtain ⟨ny,hny⟩:∃ ny,ny=ys.length:=⟨_,rfl⟩
 rw [← hnx] at hl
 rw [← hny] at hm
 rw [← hnx,← hny]
 replace hnx:=hZ hnx
 replace hny:=hZ hny
 replace hx:=hZ hx
 replace hy:=hZ hy
 replace dx:=hZ dx
 replace dy:=hZ dy
 replace hn:=hZ hn
 obtain ⟨i0,hi,hz0,hz1,hz2⟩:=AZ C6
 have hw1:IntKind.i64.wrap ((nx:Int)+(ny:Int))=(nx:Int)+(ny:Int):=Ak _ (by omega)
 have hw2:IntKind.i64.wrap ((nx:Int)+(ny:Int)+1)=(nx:Int)+(ny:Int)+1:=Ak _ (by omega)
 go_enter Tryz.func126,Tryz.ntmps126
 go_wp2_with (at_make; refine Dk _ rfl _ _ 23 rfl w.heap.size 3 i0 _ 1 Tryz.underlying23 hi hz0 hz1 _ _ _ _ (nx+ny+1) (by rfl) (by rfl) (by omega) (by omega) (by rw [hz2]; omega) (by unfold maxLen; omega) (Ah _) ?_; intro w2 hown2 hgr2)
 have hfw2:Fr w w2:=(Fr.refl w).grown hgr2 (fun k e=>by cases e)
 obtain ⟨B,hB⟩:∃ B,B=w.heap.size:=⟨_,rfl⟩
 have hown0:Hj w2 B (List.replicate (nx+ny+1) 0):=by
  rw [hB]; exact Rh rfl hown2
 have hM0:Mo xs ys (List.replicate (nx+ny+1) 0) 0:=by rw [hnx.out,hny.out]; exact Mo.zero xs ys
 rw [← hB]
 replace hown0:=hZ hown0
 replace hM0:=hZ hM0
 replace hB:=hZ hB
 clear hown2 hgr2 hw1 hw2
 go_loopg [6] nx (fun gk s6 wr=>∃ (i:Nat) (out:List Int),s6=.int .i64 i∧i+gk=nx∧Fr w wr∧Hid (Hj wr B out)∧Hid (Mo xs ys out i))
 case atStart=>exact ⟨0,_,rfl,by omega,hfw2,hown0,hM0⟩
 case round=>
  clear hown0 hM0 hfw2
  obtain ⟨i,out,rfl,hig,hf,hown,hM⟩:=hrel
  by_cases hi1:i < nx
  ·have d1:decide (i < nx)=true:=Ab hi1
   obtain ⟨xb,xo,d,rfl,-,hxi,hxc0⟩:=(hx.out.fr hf).at (i:=i) (by rw [← hnx.out]; exact hi1)
   obtain ⟨e0,e1⟩:=dx.out d (Af hxi)
   have hfit:=hM.out.fit dx.out dy.out hxi
   have hMs:=hZ (hM.out.step dx.out dy.out hxi)
   have hR0:=hZ (Jg.start (ys:=ys) (d:=d) (i:=i) hM.out.len hM.out.dg hfit)
   replace hxi:=hZ hxi
   clear hfit
   have hNl:=hZ (show xs.length+ys.length+1=nx+ny+1 by rw [hnx.out,hny.out])
   have z0:(0:Int)≤(i:Int):=by omega
   have z1:(i:Int) < (nx:Int):=by omega
   obtain ⟨ko,rfl⟩:∃ ko:Nat,ko=gk:=⟨_,rfl⟩
   go_wp2_with fail
   go_loopg [7,8] (nx+ny+1 - i) (fun gk s7 s8 wr2=>∃ (k:Nat) (c:Int) (cur:List Int),s7=.int .i64 c∧s8=.int .i64 k∧i+k+gk=nx+ny+1∧(0≤c∧c < 1000000000)∧Fr w wr2∧Hid (Hj wr2 B cur)∧Hid (Jg d (out.take i) (Gn d (out.drop i) ys 0) i (xs.length+ys.length+1) ys k c cur))
   case atStart=>exact ⟨0,0,out,rfl,rfl,by omega,by omega,hf,hown,hR0⟩
   case round=>
    clear hown hR0 hM
    obtain ⟨k,c,cur,rfl,rfl,hkg,⟨hc0,hc1⟩,hf2,hown,hR⟩:=hrel
    clear hxc0
    obtain ⟨xb',xo',d',hae,-,hxi',hxc0⟩:=(hx.out.fr hf2).at (i:=i) (by rw [← hnx.out]; exact hi1)
    injection hae with hae; injection hae with hb9 ho9
    subst hb9; subst ho9
    rw [hxi.out] at hxi'
    injection hxi' with hxi'; subst hxi'
    by_cases hk1:k < ny
    ·have d2:decide (k < ny)=true:=Ab hk1
     have hN:=hR.out.at e0 dy.out hc0 (.inl ⟨by rw [← hny.out]; exact hk1,by have:=hNl.out; rw [this,← hny.out]; omega⟩)
     rw [hNl.out] at hN
     obtain ⟨yb,yo,y,rfl,-,hyk,hyc0⟩:=(hy.out.fr hf2).at (i:=k) (by rw [← hny.out]; exact hk1)
     obtain ⟨y0,y1⟩:=dy.out y (Af hyk)
     obtain ⟨o,ho⟩:∃ o,cur[i+k]?=some o:=⟨_,Ac (by rw [hR.out.len,hNl.out]; exact hN)⟩
     obtain ⟨o0,o1⟩:=hR.out.dg o (Af ho)
     obtain ⟨w0,w1⟩:=hown.out.2 _ _ ho
     have hRs0:=hR.out.step1 hyk ho
     have p0:0≤d * y:=BR e0 y0
     have p1:d * y≤999999999 * 999999999:=Int.mul_le_mul (by omega) (by omega) y0 (by omega)
     have p2:IntKind.i64.wrap (d * y)=d * y:=Ak _ (by omega)
     rw [show c+o+d * y=o+c+d * y by omega] at hRs0
     have hRs:=hZ hRs0
     have p3:((i:Int)+(k:Int)).toNat=i+k:=by omega
     have z2:(0:Int)≤(k:Int):=by omega
     have z3:(k:Int) < (ny:Int):=by omega
     have z4:(0:Int)≤(i:Int)+(k:Int):=by omega
     have z5:(i:Int)+(k:Int) < ((nx+ny+1:Nat):Int):=by omega
     replace hyk:=hZ hyk
     replace ho:=hZ ho
     have hlc:=hZ (Ae.1 ho.out).1
     clear hRs0
     go_wp2_with fail
     go_quiet (fail)
     go_wp2_with fail
     go_roundg (gk - 1)
     case measure=>omega
     case rel=>exact ⟨k+1,_,_,rfl,by go_num,by omega,by omega,(hf2.drewN _).setCell (by rw [hB.out]; exact Ah _) _,(hown.out.fr ((Fr.refl _).drewN _)).set hlc.out _,hRs⟩
    ·have d2:decide (k < ny)=false:=Aa hk1
     by_cases hc:0 < c
     ·have d3:decide (0 < c)=true:=Ab hc
      have hN:=hR.out.at e0 dy.out hc0 (.inr hc)
      rw [hNl.out] at hN
      obtain ⟨o,ho⟩:∃ o,cur[i+k]?=some o:=⟨_,Ac (by rw [hR.out.len,hNl.out]; exact hN)⟩
      obtain ⟨o0,o1⟩:=hR.out.dg o (Af ho)
      obtain ⟨w0,w1⟩:=hown.out.2 _ _ ho
      have hRs0:=hR.out.step0 hc (by rw [← hny.out]; omega) ho
      rw [show c+o=o+c by omega] at hRs0
      have hRs:=hZ hRs0
      have p3:((i:Int)+(k:Int)).toNat=i+k:=by omega
      have z2:(0:Int)≤(k:Int):=by omega
      have z4:(0:Int)≤(i:Int)+(k:Int):=by omega
      have z5:(i:Int)+(k:Int) < ((nx+ny+1:Nat):Int):=by omega
      replace ho:=hZ ho
      have hlc:=hZ (Ae.1 ho.out).1
      clear hRs0
      go_wp2_with fail
      go_roundg (gk - 1)
      case measure=>omega
      case rel=>exact ⟨k+1,_,_,rfl,by go_num,by omega,by omega,hf2.setCell (by rw [hB.out]; exact Ah _) _,hown.out.set hlc.out _,hRs⟩
     ·have d3:decide (0 < c)=false:=Aa hc
      obtain rfl:c=0:=by omega
      have hfin:=hR.out.fin (by rw [← hny.out]; omega)
      have hMs2:=hMs.out
      rw [← hfin] at hMs2
      replace hMs2:=hZ hMs2
      clear hfin
      go_wp2_with fail
      go_roundg (ko - 1)
      case measure=>omega
      case rel=>exact ⟨i+1,cur,by go_num,by omega,hf2,hown,hMs2⟩
  ·have d1:decide (i < nx)=false:=Aa hi1
   obtain rfl:nx=i:=by omega
   have hol:out.length=nx+ny+1:=by rw [hM.out.len,hnx.out,hny.out]
   have hv:val out=(n:Int):=by
    rw [hM.out.vl,Ao (by rw [hnx.out]; exact Ah _)]; exact hn.out
   have htr:BA out=digs n:=by rw [Dp hM.out.dg,hv,AR]
   have htrim:=IA out (some ⟨B,0,none⟩) (nx+ny+1) wr hown.out.el (by rw [hol]; omega) (by rw [hol]; exact Ah _)
   have hle:=(BS out).2
   have hE:=GX hown.out.el
   rw [htr,hol] at hle htrim
   rw [htr] at hE
   replace htrim:=hZ htrim
   replace hE:=hZ hE
   clear hol hv htr
   go_wp2_with fail
   refine htrim.out.mono ?_
   rintro e w3 ⟨rfl,hf3⟩
   go_wp2_with fail
   go_ret
   exact ⟨_,_,rfl,hE.out.fr hf3,hle,hf.trans hf3⟩
end Go.Proofs.YtiniigadkknboaaGreatDoor
