/- Contracts and laws: GAN. -/
import Derived.Test.YtiniigadkknboaaGreatDoorGAG
import Derived.Test.YtiniigadkknboaaGreatDoorGAB
import Derived.Deep.LoopGhost
import Derived.Test.YtiniigadkknboaaGreatDoorGAL
import Derived.Test.YtiniigadkknboaaGreatDoorGAM

set_option maxRecDepth 100000
set_option maxHeartbeats 4000000
namespace Go.Proofs.YtiniigadkknboaaGreatDoor
open Go.RowKit Go.Lib
attribute [local go_sem ↓] Go.wp_at_zero Go.wp_at_succ
section
variable {P:Program} {ops:Array Oper} {Q:Exit→Act→World→Prop} {md:Region.Mode} {S:World→Prop} {n:Nat}
theorem uF (i:Nat) {oi:Oper} {v:Value} {fuel:Nat} {listed:Array Bool} {a:Act} {w:World} (h:B8 P md ops Q S n fuel (listed.setIfInBounds i true) (a.put oi.dst v) w) (hi:ops[i]?=some oi:=by rfl) (hin:i≠n:=by decide) (hs:Region.noSelect ops=true:=by kernel_rfl) (hf:Region.free md ops listed i=true:=by kernel_rfl) (hr:(Region.ready md ops listed).contains i=true:=by kernel_rfl)
 (hw:Region.wanted oi (yielded ops a.tmps)=true:=by rfl) (hy:∀ w,True→(execOp a.eval oi).run P w=.ok (.value v) w:=by (intro w _; go_simp; try (with_reducible rfl))) (hS:S w:=by assumption) (hQ:∀ c a w,Q (.panic c) (a.put oi.dst v) w→Q (.panic c) a w:=by exact fun _ _ _ h=>h):B8 P md ops Q S n (fuel+1) listed a w :=
 IG hi hin hs hf hr hQ (.inl ⟨hw,hy⟩) hS h
end
def bv (b:UInt8):Value:=.int .u8 b.toNat
def Ld (x:Nat→UInt8) (n t j:Nat):UInt8:=if j < t∨n - t≤j then x (n - 1 - j) else x j
theorem VF (g n cap:Nat) (x:Nat→UInt8) (w:World) (hn:n≤10000000000) (_hg:g < w.heap.size) (hx:∀ j,j < n→w.cell? ⟨g,j,none⟩=some (.int .u8 (x j).toNat)∧w.frozen? ⟨g,j,none⟩=false) :
 Calls Tryz.prog 205 #[.slice (some ⟨g,0,none⟩) n cap] w fun e w'=>e=.returned (.tuple #[])∧Fx (·=g) w w'∧∀ j,j < n→w'.cell? ⟨g,j,none⟩=some (.int .u8 (x (n - 1 - j)).toNat):=by
 replace hx:=hZ hx
 have kn:IntKind.i64.wrap ((n:Int) - 1)=(n:Int) - 1:=Ak _ (by omega)
 go_enter Tryz.func205,Tryz.ntmps205
 go_wp2_with fail
 go_loopg [2,3] n (fun k s2 s3 wr=>∃ t:Nat,s2=.int .i64 t∧s3=.int .i64 ((n:Int) - 1 - (t:Int))∧t+k=n∧2 * t≤n+1∧Fx (·=g) w wr∧Hid (∀ j,j < n→wr.cell? ⟨g,j,none⟩=some (.int .u8 (Ld x n t j).toNat)∧wr.frozen? ⟨g,j,none⟩=false))
 case atStart=>exact ⟨0,rfl,by go_num,by omega,by omega,Fx.refl _ _,fun j hj=>by unfold Ld; rw [Ag (by omega)]; exact hx.out j hj⟩
 case round=>
  obtain ⟨t,rfl,rfl,htk,ht2,hf,hc⟩:=hrel
  by_cases h:(t:Int) < (n:Int) - 1 - (t:Int)
  ·have dj:decide ((t:Int) < (n:Int) - 1 - (t:Int))=true:=Ab h
   obtain ⟨u,hu⟩:∃ u:Nat,u=n - 1 - t:=⟨_,rfl⟩
   have eu:(n:Int) - 1 - (t:Int)=(u:Int):=by omega
   rw [eu] at dj ⊢
   obtain ⟨c1,f1⟩:=hc.out t (by omega)
   obtain ⟨c2,f2⟩:=hc.out u (by omega)
   have z0:(0:Int)≤(t:Int):=by omega
   have z1:(t:Int) < (n:Int):=by omega
   have z2:(0:Int)≤(u:Int):=by omega
   have z3:(u:Int) < (n:Int):=by omega
   have k1:IntKind.i64.wrap ((t:Int)+1)=(t:Int)+1:=Ak _ (by omega)
   have k2:IntKind.i64.wrap ((u:Int) - 1)=(u:Int) - 1:=Ak _ (by omega)
   have e1:Ld x n t t=x t:=by unfold Ld; rw [Ag (by omega)]
   have e2:Ld x n t u=x u:=by unfold Ld; rw [Ag (by omega)]
   rw [e1] at c1
   rw [e2] at c2
   have htu:t < u:=by omega
   have hune:u≠t:=by omega
   have htm:2 * (t+1)≤n+1:=by omega
   replace eu:=hZ eu
   clear e1 e2 h
   replace ht2:=hZ ht2
   replace htm:=hZ htm
   replace hu:=hZ hu
   go_wp2_with fail
   have Jq:=(Fr.refl wr).drew
   have c3:=Jq.keep c1
   have c4:=Jq.keep c2
   have f3:=Jq.keepf c1 f1
   have f4:=Jq.keepf c2 f2
   refine Dm (S:=fun W=>W.cell? ⟨g,t,none⟩=some (.int .u8 (x t).toNat)∧W.cell? ⟨g,u,none⟩=some (.int .u8 (x u).toNat)) 13 (by kernel_rfl) ⟨c3,c4⟩ (fun hHeld=>?_)
   refine uM 0 14 ?_; try simp only [Dz,DO,DN]
   refine uM 1 15 ?_; try simp only [Dz,DO,DN]
   refine uF 2 ?_
   change B8 _ _ _ _ _ _ _ _ (Act.put _ (some 16) _) _
   simp only [Act.put,Dz,DO,DN]
   refine uF 3 ?_
   change B8 _ _ _ _ _ _ _ _ (Act.put _ (some 17) _) _
   simp only [Act.put,Dz,DO,DN]
   refine uM 4 18 ?_; try simp only [Dz,DO,DN]
   refine uM 5 19 ?_; try simp only [Dz,DO,DN]
   refine uM 6 20 ?_; try simp only [Dz,DO,DN]
   refine uM 7 21 ?_; try simp only [Dz,DO,DN]
   refine uF 8 ?_
   change B8 _ _ _ _ _ _ _ _ (Act.put _ (some 22) _) _
   simp only [Act.put,Dz,DO,DN]
   refine uF 9 ?_
   change B8 _ _ _ _ _ _ _ _ (Act.put _ (some 23) _) _
   simp only [Act.put,Dz,DO,DN]
   refine uF 10 ?_
   change B8 _ _ _ _ _ _ _ _ (Act.put _ (some 24) _) _
   simp only [Act.put,Dz,DO,DN]
   refine uM 11 25 ?_; try simp only [Dz,DO,DN]
   refine uM 12 26 ?_; try simp only [Dz,DO,DN]
   have hA1:(⟨g,t,none⟩:Addr)≠⟨g,u,none⟩:=fun e=>by injection e with _ e; omega
   have c5:(wr.drew.setCell ⟨g,t,none⟩ (.int .u8 (x u).toNat)).cell? ⟨g,u,none⟩=some (.int .u8 (x u).toNat):=by rw [Ad _ _ _ _ hA1]; exact c4
   have f5:(wr.drew.setCell ⟨g,t,none⟩ (.int .u8 (x u).toNat)).frozen? ⟨g,u,none⟩=false:=by rw [Am]; exact f4
   refine uD 13 (fun K hK=>?_)
   go_simp
   refine hK.out _ _ ?_
   clear hK K
   clear hHeld
   refine uD 14 (fun K hK=>?_)
   go_simp
   refine hK.out _ _ ?_
   clear hK K
   try simp only [Act.put,Dz,DO,DN]
   refine uD 15 (fun K hK=>?_)
   go_simp
   refine hK.out _ _ ?_
   clear hK K
   refine uE ?_
   have hfx:Fx (·=g) w ((wr.drew.setCell ⟨g,t,none⟩ (.int .u8 (x u).toNat)).setCell ⟨g,u,none⟩ (.int .u8 (x t).toNat)):=((hf.fr Jq).setCell (q:=⟨g,t,none⟩) (.inl rfl) _).setCell (q:=⟨g,u,none⟩) (.inl rfl) _
   have hc9:Hid (∀ j,j < n→((wr.drew.setCell ⟨g,t,none⟩ (.int .u8 (x u).toNat)).setCell ⟨g,u,none⟩ (.int .u8 (x t).toNat)).cell? ⟨g,j,none⟩=some (.int .u8 (Ld x n (t+1) j).toNat)∧((wr.drew.setCell ⟨g,t,none⟩ (.int .u8 (x u).toNat)).setCell ⟨g,u,none⟩ (.int .u8 (x t).toNat)).frozen? ⟨g,j,none⟩=false):=fun j hj=>by
    obtain ⟨d1,d2⟩:=hc.out j hj
    have hun:=hu.out
    refine ⟨?_,by rw [Am,Am]; exact Jq.keepf d1 d2⟩
    by_cases e1:j=u
    ·subst e1
     rw [Al _ _ _ (by rw [c5]; rfl)]
     unfold Ld
     rw [Ai (by omega),show n - 1 - j=t by omega]
    ·rw [Ad _ _ _ _ (fun e=>e1 (by injection e with _ e; exact e.symm))]
     by_cases e2:j=t
     ·subst e2
      rw [Al _ _ _ (by rw [c3]; rfl)]
      unfold Ld
      rw [Ai (by omega),hun]
     ·rw [Ad _ _ _ _ (fun e=>e2 (by injection e with _ e; exact e.symm)),Jq.keep d1]
      unfold Ld
      by_cases e3:j < t∨n - t≤j
      ·rw [Ai e3,Ai (by omega)]
      ·rw [Ag e3,Ag (by omega)]
   clear hc c1 c2 c3 c4 c5 f1 f2 f3 f4 f5
   go_wp2_with fail
   go_roundg (gk - 1)
   case measure=>omega
   case rel=>exact ⟨t+1,by go_num,by exact congrArg (Value.int IntKind.i64) (by have:=eu.out; omega),by omega,htm.out,hfx,hc9.out⟩
  ·have dj:decide ((t:Int) < (n:Int) - 1 - (t:Int))=false:=Aa h
   have hfin:Hid (∀ j,j < n→wr.cell? ⟨g,j,none⟩=some (.int .u8 (x (n - 1 - j)).toNat)):=fun j hj=>by
    rw [(hc.out j hj).1]
    unfold Ld
    by_cases h1:j < t∨n - t≤j
    ·rw [Ai h1]
    ·rw [Ag h1,show n - 1 - j=j by omega]
   go_wp2_with fail
   exact bodyPost_end (Ia rfl _ _ _) rfl ⟨rfl,hf,hfin.out⟩
def Gx (u:Nat):Nat→List UInt8
 | 0=>[]
 | k+1=>Gx u k ++ [UInt8.ofNat (48+u / 10 ^ k % 10)]
theorem Gw (u:Nat):∀ k,(Gx u k).length=k
 | 0=>rfl
 | k+1=>by show (Gx u k ++ [_]).length=k+1; rw [Ar,Gw u k]; rfl
theorem MG:∀ (k u:Nat),Gr (k+1) u=UInt8.ofNat (48+u / 10 ^ k % 10) :: Gr k u
 | 0,u=>by show [] ++ [_]=_; rw [Em,E9]; rfl
 | k+1,u=>by
   show Gr (k+1) (u / 10) ++ [_]=_ :: (Gr k (u / 10) ++ [_])
   rw [MG k (u / 10),BF,← Nat.pow_succ']; rfl
theorem OQ (u:Nat):∀ k,(Gx u k).reverse=Gr k u
 | 0=>rfl
 | k+1=>by show (Gx u k ++ [_]).reverse=_; rw [List.reverse_append,OQ u k,MG]; rfl
theorem XM:(Tryz.prog.info? 5).map (fun i=>(i.zero,i.size,i.bytes))=some (some (.int .u8 0),1,1):=by kernel_rfl
theorem Ue {u c:Nat} (h:u < 10 ^ c) (h0:∀ k,c=k+1→10 ^ k≤u) (hc:1≤c):(Gx u c).reverse=decDigits u:=by
 rw [OQ,Lh c u hc h]
 obtain ⟨k,rfl⟩:∃ k,c=k+1:=⟨c - 1,by omega⟩
 have h1:=h0 k rfl
 rw [decDigits_length,nDigits_unique k u h1 h,LZ]; rfl
theorem UO (U k:Nat) (hk:k < 9):U % 1000000000 / 10 ^ k % 10=U / 10 ^ k % 10:=by
 have:k=0∨k=1∨k=2∨k=3∨k=4∨k=5∨k=6∨k=7∨k=8:=by omega
 rcases this with rfl | rfl | rfl | rfl | rfl | rfl | rfl | rfl | rfl <;> simp <;> omega
theorem Cx:∀ u,u < 1000000000 ^ (digs u).length:=fun u=>by
 induction u using Nat.strongRecOn with
 | _ u ih=>
   by_cases h:u=0
   ·subst h; rw [Bw]; decide
   ·rw [Cd (by omega),Aw,Br]
    have:=ih (u / 1000000000) (by omega)
    generalize 1000000000 ^ (digs (u / 1000000000)).length=B at *
    omega
theorem p9:∀ i,1000000000 ^ i=10 ^ (9 * i):=fun i=>by rw [Nat.pow_mul]
theorem PM (u:Nat) (a:Option Addr) (cap:Nat) (w:World) (hel:El w uv a (digs u)) (hl:(digs u).length≤100000000) :
 Calls Tryz.prog 176 #[.slice a (digs u).length cap] w fun e w'=>e=.returned (.string (tx (u:Int)))∧Fr w w':=by
 obtain ⟨i0,hi,hz0,hz1,hz2⟩:=AZ XM
 by_cases hu0:u=0
 ·subst hu0
  rw [Bw]
  have h0:tx ((0:Nat):Int)=⟨#[48]⟩:=HP
  rw [h0]
  go_enter Tryz.func176,Tryz.ntmps176
  go_wp2_with fail
  go_ret
  exact ⟨rfl,Fr.refl _⟩
 have h0:tx (u:Int)=tb (decDigits u):=by rw [Id,BV (by omega),AR]
 obtain ⟨m,hm⟩:∃ m,m=(digs u).length:=⟨_,rfl⟩
 have hm1:1≤m:=by rw [hm,Cd (by omega)]; simp
 have hum:u < 10 ^ (9 * m):=by rw [← p9,hm]; exact Cx u
 rw [← hm] at hl
 rw [← hm,h0]
 have hdg:Hid (∀ i,i < m→∃ b o:Nat,a=some ⟨b,o,none⟩∧b < w.heap.size∧w.cell? ⟨b,o+i,none⟩=some (.int .u64 ((u / 10 ^ (9 * i) % 1000000000:Nat):Int))∧0 < u / 10 ^ (9 * i)):=fun i hi=>by
  obtain ⟨b,o,d,rfl,hb,hk,hc⟩:=hel.at (i:=i) (by rw [← hm]; exact hi)
  obtain ⟨h1,h2⟩:=HI hk
  rw [p9] at h1 h2
  exact ⟨b,o,rfl,hb,by rw [← h2]; exact hc,h1⟩
 replace hm:=hZ hm
 replace hum:=hZ hum
 replace h0:=hZ h0
 clear hu0
 have dm:((m:Int) == 0)=false:=A2 (by omega)
 have k9:IntKind.i64.wrap (9 * (m:Int))=((9 * m:Nat):Int):=by rw [Ak _ (by omega)]; omega
 go_enter Tryz.func176,Tryz.ntmps176
 go_wp2_with (at_make; refine Ew _ rfl _ _ 177 rfl w.heap.size 5 i0 _ 1 Tryz.underlying177 hi hz0 hz1 _ _ _ (9 * m) (by rfl) (by rfl) (by first | omega | go_num) (by rw [hz2]; omega) (by unfold maxLen; omega) (Ah _) ?_; intro w2 hown2 hgr2)
 have hf2:Fr w w2:=(Fr.refl w).grown hgr2 (fun k e=>by cases e)
 replace hown2:=hZ hown2
 clear hgr2
 go_wp2_with fail
 go_loopg [3,16] m (fun gk s3 s16 wr=>∃ (i c:Nat),s16=.int .i64 i∧i+gk=m∧(i < m∧c=9 * i∨i=m∧Hid (u < 10 ^ c∧(∀ k,c=k+1→10 ^ k≤u)∧1≤c))∧c≤9 * m∧Fr w wr∧Hid (wr.ownsRow w.heap.size 5 1 s3 c ((Gx u c).map bv))∧Hid (s3≠.slice none 0 0))
 case atStart=>exact ⟨0,0,rfl,by omega,.inl ⟨by omega,rfl⟩,by omega,hf2,hZ (by simpa [Gx] using hown2.out),hZ (by intro e; cases e)⟩
 case round=>
  clear hown2 hf2
  obtain ⟨i,c,rfl,him,hc,hcm,hf,hown,hnn⟩:=hrel
  obtain ⟨ko,rfl⟩:∃ ko:Nat,ko=gk:=⟨_,rfl⟩
  by_cases hi9:i < m
  ·obtain ⟨b,o,rfl,hb,hcell,hpos⟩:=hdg.out i hi9
   have dI:decide ((i:Int) < (m:Int))=true:=Ab (by omega)
   have hc9:c=9 * i:=by rcases hc with ⟨_,h⟩ | ⟨h,_⟩; exact h; omega
   clear hc
   replace hpos:=hZ hpos
   have hpq:Hid (u / 10 ^ (9 * i) % 1000000000 < 1000000000):=CE _ (by decide)
   obtain ⟨U,hU⟩:∃ U,U=u / 10 ^ (9 * i):=⟨_,rfl⟩
   rw [← hU] at hcell hpos hpq
   have cell:=hf.keep hcell
   have y0:(0:Int)≤(i:Int):=by omega
   have y1:(i:Int) < (m:Int):=by omega
   have ki:IntKind.i64.wrap ((i:Int)+1)=(i:Int)+1:=Ak _ (by omega)
   replace hU:=hZ hU
   obtain ⟨dd,hdd⟩:∃ dd:Nat,dd=U % 1000000000:=⟨_,rfl⟩
   rw [← hdd] at cell hpq
   replace hdd:=hZ hdd
   clear hcell
   obtain ⟨wo,rfl⟩:∃ wo:World,wo=wr:=⟨_,rfl⟩
   go_wp2_with fail
   go_loopg [3,5,6] 9 (fun g2 s3 s5 s6 wv=>∃ k:Nat,s6=.int .i64 k∧s5=.int .u64 ((dd / 10 ^ k:Nat):Int)∧k+g2=9∧Fr w wv∧Hid (wv.ownsRow w.heap.size 5 1 s3 (9 * i+k) ((Gx u (9 * i+k)).map bv))∧Hid (s3≠.slice none 0 0)∧Hid (∀ j,9 * i+k=j+1→k≠0→i+1=m→10 ^ j≤u))
   case atStart=>exact ⟨0,rfl,by rw [Em,E9],by omega,hf,by rw [hc9] at hown; exact hown,hnn.out,fun j _ h=>absurd rfl h⟩
   case round=>
    obtain ⟨k,rfl,rfl,hk9,hf3,hown3,hnn3,hlow⟩:=hrel
    have ki2:IntKind.i64.wrap ((k:Int)+1)=(k:Int)+1:=Ak _ (by omega)
    obtain ⟨n,hn⟩:∃ n,n=dd / 10 ^ k:=⟨_,rfl⟩
    have hnb:n < 1000000000:=by rw [hn]; exact A4 (DA ..) hpq.out
    rw [← hn]
    replace hn:=hZ hn
    have ku:IntKind.u8.wrap (48+(n:Int) % 10)=((48+n % 10:Nat):Int):=by rw [P2 _ (by omega)]; omega
    have hle:Hid (0 < n→10 ^ (9 * i+k)≤u):=fun h=>by
     rw [hn.out,hdd.out] at h
     refine AW fun h2=>?_
     have h3:U / 10 ^ k=0:=by rw [hU.out,BF,← C1]; exact Hd (by omega)
     have h4:U % 1000000000 / 10 ^ k≤U / 10 ^ k:=Nat.div_le_div_right (Ya _ _)
     omega
    have hdig:Hid (k < 9→(Gx u (9 * i+k+1)).map bv=(Gx u (9 * i+k)).map bv ++ [.int .u8 (48+(n:Int) % 10)]):=fun hk=>by
     show (Gx u (9 * i+k) ++ [_]).map bv=_
     rw [Ay]
     have e:u / 10 ^ (9 * i+k) % 10=n % 10:=by rw [hn.out,hdd.out,UO U k hk,hU.out,BF,← C1]
     rw [e]
     show _ ++ [Value.int .u8 ((UInt8.ofNat (48+n % 10)).toNat:Int)]=_
     rw [EX _ (by omega)]
     have e2:((48+n % 10:Nat):Int)=48+(n:Int) % 10:=by omega
     rw [e2]
    by_cases hk:k < 9
    ·replace hdig:=hZ (hdig.out hk)
     have dk:decide ((k:Int) < 9)=true:=Ab (by omega)
     by_cases hlast:i+1 < m
     ·have dl:decide ((i:Int)+1 < (m:Int))=true:=Ab (by omega)
      have hownG:=hown3.out
      go_wp2_with (at_builtin; refine wpList_append_lies _ rfl _ _ 177 (by rfl) _ 5 _ _ 1 1 Tryz.underlying177 hi hz0 hz1 hz2 rfl (by decide) _ (9 * i+k) _ (by rfl) (Az hownG _) ⟨wr.heap.size,0,none⟩ 1 1 [.int .u8 (48+(n:Int) % 10)] (by rfl) rfl (AK _ _ _ _ (by simp)) (by simp [Value.oneCell']) (by decide) (by unfold maxLen; omega) (by omega) (by have:=hf3.size; simp; omega) (wr.heap.size+1) (by simp) ?_; intro gA capA wA hownA hgrowA hatA hltA)
      go_wp2_with fail
      go_roundg (gk - 1)
      case measure=>omega
      case rel=>exact ⟨k+1,by go_num,by rw [Br,← BF,← hn.out]; first | rfl | exact congrArg (Value.int IntKind.u64) (by omega),by omega,(hf3.alloc _).grown hgrowA (fun k e=>(hownG.lt k e).1),hZ (by show World.ownsRow _ _ _ _ _ _ _; rw [show 9 * i+(k+1)=9 * i+k+1 by omega,hdig.out]; exact hownA),hZ (by intro e; injection e with e; cases e),hZ (fun j hj _ hl=>by obtain rfl:j=9 * i+k:=(by omega); first | exact hle.out (by omega) | omega)⟩
     ·have dl:decide ((i:Int)+1 < (m:Int))=false:=Aa (by omega)
      by_cases hn0:n=0
      ·have dn:decide ((0:Int) < (n:Int))=false:=Aa (by omega)
       have hUlt:U < 1000000000:=by
        rw [hU.out]
        refine (Cb (E7 (by decide))).2 ?_
        have:=hum.out
        rw [show 9 * m=9+9 * i by omega,C1] at this
        exact this
       have hk1:k≠0:=fun e=>by
        have h1:=hn.out
        rw [e,Em,E9,hdd.out,CH hUlt] at h1
        have:=hpos.out; omega
       have hfin:Hid (u < 10 ^ (9 * i+k)∧(∀ j,9 * i+k=j+1→10 ^ j≤u)∧1≤9 * i+k):=by
        refine ⟨?_,fun j hj=>hlow.out j hj hk1 (by omega),by omega⟩
        have h1:=hn.out
        rw [hn0,hdd.out,CH hUlt] at h1
        have h2:U < 10 ^ k:=by
         refine AW fun h=>?_
         have:=ZO (Nat.le_of_not_lt h) (E7 (n:=k) (by decide:0 < 10))
         omega
        rw [hU.out,Cb (E7 (by decide)),← C1,Gf] at h2
        exact h2
       go_wp2_with fail
       go_roundg (ko - 1)
       case measure=>omega
       case rel=>exact ⟨i+1,9 * i+k,by go_num,by omega,.inr ⟨by omega,hfin⟩,by omega,hf3,hown3,hnn3⟩
      ·have dn:decide ((0:Int) < (n:Int))=true:=Ab (by omega)
       have hownG:=hown3.out
       go_wp2_with (at_builtin; refine wpList_append_lies _ rfl _ _ 177 (by rfl) _ 5 _ _ 1 1 Tryz.underlying177 hi hz0 hz1 hz2 rfl (by decide) _ (9 * i+k) _ (by rfl) (Az hownG _) ⟨wr.heap.size,0,none⟩ 1 1 [.int .u8 (48+(n:Int) % 10)] (by rfl) rfl (AK _ _ _ _ (by simp)) (by simp [Value.oneCell']) (by decide) (by unfold maxLen; omega) (by omega) (by have:=hf3.size; simp; omega) (wr.heap.size+1) (by simp) ?_; intro gA capA wA hownA hgrowA hatA hltA)
       go_wp2_with fail
       go_roundg (gk - 1)
       case measure=>omega
       case rel=>exact ⟨k+1,by go_num,by rw [Br,← BF,← hn.out]; first | rfl | exact congrArg (Value.int IntKind.u64) (by omega),by omega,(hf3.alloc _).grown hgrowA (fun k e=>(hownG.lt k e).1),hZ (by show World.ownsRow _ _ _ _ _ _ _; rw [show 9 * i+(k+1)=9 * i+k+1 by omega,hdig.out]; exact hownA),hZ (by intro e; injection e with e; cases e),hZ (fun j hj _ hl=>by obtain rfl:j=9 * i+k:=(by omega); first | exact hle.out (by omega) | omega)⟩
    ·have dk:decide ((k:Int) < 9)=false:=Aa (by omega)
     obtain rfl:k=9:=by omega
     have hfin:Hid (i+1=m→u < 10 ^ (9 * i+9)∧(∀ j,9 * i+9=j+1→10 ^ j≤u)∧1≤9 * i+9):=fun h=>⟨by have:=hum.out; rw [← h] at this; exact this,fun j hj=>hlow.out j hj (by decide) h,by omega⟩
     go_wp2_with fail
     go_roundg (ko - 1)
     case measure=>omega
     case rel=>exact ⟨i+1,9 * i+9,by go_num,by omega,(by by_cases h:i+1 < m; exact .inl ⟨h,by omega⟩; exact .inr ⟨by omega,hfin.out (by omega)⟩),by omega,hf3,hown3,hnn3⟩
  ·obtain rfl:i=m:=by omega
   have dI:decide ((i:Int) < (i:Int))=false:=Aa (by omega)
   obtain ⟨h1,h2,h3⟩:u < 10 ^ c∧(∀ k,c=k+1→10 ^ k≤u)∧1≤c:=by
    rcases hc with ⟨h,_⟩ | ⟨_,h⟩
    ·omega
    ·exact h.out
   have hrev:=Ue h1 h2 h3
   obtain ⟨g,cp,hu3⟩:∃ g cp,u3=.slice (some ⟨g,0,none⟩) c cp:=by
    rcases hown.out.2 with ⟨h,_⟩ | ⟨g,cap',cur,hv,_⟩
    ·exact absurd h hnn.out
    ·exact ⟨_,_,hv⟩
   subst hu3
   obtain ⟨-,hgb,hgw,hgc,hcl⟩:=Bo hown.out
   have hx:∀ j,j < c→wr.cell? ⟨g,j,none⟩=some (.int .u8 (((Gx u c)[j]?).getD 0).toNat)∧wr.frozen? ⟨g,j,none⟩=false:=fun j hj=>by
    have e:=Ac (l:=Gx u c) (show j < (Gx u c).length by rw [Gw]; exact hj)
    have:=hcl j (bv ((Gx u c)[j]'(by rw [Gw]; exact hj))) (by rw [At,e]; rfl)
    rw [e]; exact this
   have hrv:=hZ (VF g c cp (fun j=>((Gx u c)[j]?).getD 0) wr (by omega) hgw hx)
   have hlen:(decDigits u).length=c:=by rw [← hrev,List.length_reverse,Gw]
   have hbk:Hid (∀ W,(∀ j,j < c→W.cell? ⟨g,j,none⟩=some (.int .u8 (((Gx u c)[c - 1 - j]?).getD 0).toNat))→(convert 177 80 (.slice (some ⟨g,0,none⟩) c cp)).run Tryz.prog W=.ok (.string (tb (decDigits u))) W):=fun W hW=>by
    have h:=Zp (P:=Tryz.prog) W 177 80 5 ⟨g,0,none⟩ cp (decDigits u) Tryz.underlying177 Tryz.underlying5 Tryz.underlying80 (fun j hj=>by
     have hj2:j < c:=by omega
     have e:=hW j hj2
     have e2:((Gx u c)[c - 1 - j]?).getD 0=(decDigits u)[j]:=by
      have e3:(decDigits u)[j]?=(Gx u c)[c - 1 - j]?:=by rw [← hrev,List.getElem?_reverse (by rw [Gw]; exact hj2),Gw]
      rw [← e3,Ac hj]; rfl
     rw [e2] at e
     have e4:(⟨g,0,none⟩:Addr).add j=⟨g,j,none⟩:=by unfold Addr.add; split <;> simp_all
     rw [e4]; exact e)
    rw [hlen] at h
    exact h
   clear hc h1 h2 hrev hx hcl hown hnn hlen
   go_wp2_with fail
   refine hrv.out.mono ?_
   rintro e w5 ⟨rfl,hf5,hc5⟩
   have hcv:=hbk.out w5 hc5
   have hf9:Fr w w5:=((Fx.of_fr hf).trans hf5).toFr (fun k hk e=>by have e:k=g:=e; omega)
   clear hc5
   go_wp2_with fail
   go_ret
   exact ⟨rfl,hf9⟩
structure Gs (V W P a1 a2 a3 b1 b2:Nat):Prop where
 vlo:(b1 * 1000000000+b2) * P≤V
 vhi:V < (b1 * 1000000000+b2+1) * P
 wlo:(a1 * 1000000000 * 1000000000+a2 * 1000000000+a3) * P≤W
 whi:W < (a1 * 1000000000 * 1000000000+a2 * 1000000000+a3+1) * P
 bp:1≤b1
 bb:b1 < 1000000000∧b2 < 1000000000
 ab:a1 < 1000000000∧a2 < 1000000000∧a3 < 1000000000
 fit:W < V * 1000000000
 Pp:1≤P
section
variable {V W P a1 a2 a3 b1 b2:Nat}
theorem Gs.V1 (h:Gs V W P a1 a2 a3 b1 b2):1≤V:=by
 have h1:=h.vlo
 have h2:1 * P≤(b1 * 1000000000+b2) * P:=AU _ (by have:=h.bp; omega)
 have:=h.Pp
 omega
theorem Gs.q_lt (h:Gs V W P a1 a2 a3 b1 b2):W / V < 1000000000:=(Cb h.V1).2 (by rw [Di]; exact h.fit)
theorem Gs.start (h:Gs V W P a1 a2 a3 b1 b2):W / V≤(a1 * 1000000000+a2) / b1:=by
 rw [GP h.bp]
 have h1:=H4 W V
 have h2:W / V * ((b1 * 1000000000) * P)≤W / V * V:=Bb _ (As (AU _ (by omega)) h.vlo)
 have h3:=h.whi
 have h4:W / V * ((b1 * 1000000000) * P)=W / V * b1 * (1000000000 * P):=by grind
 have h5:(a1 * 1000000000 * 1000000000+a2 * 1000000000+a3+1) * P≤(a1 * 1000000000+a2+1) * (1000000000 * P):=by
  have:(a1 * 1000000000+a2+1) * (1000000000 * P)=((a1 * 1000000000+a2+1) * 1000000000) * P:=by grind
  rw [this]
  exact AU _ (by have:=h.ab; omega)
 have h6:W / V * b1 * (1000000000 * P) < (a1 * 1000000000+a2+1) * (1000000000 * P):=by omega
 have h7:=Nat.lt_of_mul_lt_mul_right h6
 omega
theorem Gs.over (h:Gs V W P a1 a2 a3 b1 b2) {g r:Nat} (hg:g * b1+r=a1 * 1000000000+a2) (ht:1000000000≤g∨r * 1000000000+a3 < g * b2):W / V < g:=by
 rcases ht with ht | ht
 ·have:=h.q_lt; omega
 ·rw [Cb h.V1]
  have e:g * (b1 * 1000000000+b2)=(g * b1) * 1000000000+g * b2:=by grind
  have h1:a1 * 1000000000 * 1000000000+a2 * 1000000000+a3+1≤g * (b1 * 1000000000+b2):=by
   rw [e]
   generalize g * b1=x at *
   generalize g * b2=y at *
   omega
  have h2:=AU P h1
  have h3:g * (b1 * 1000000000+b2) * P≤g * V:=by rw [P0]; exact Bb _ h.vlo
  have:=h.whi
  omega
theorem Gs.stay (h:Gs V W P a1 a2 a3 b1 b2) {g r:Nat} (hg:g * b1+r=a1 * 1000000000+a2) (h9:g < 1000000000) (ht:1000000000≤r∨g * b2≤r * 1000000000+a3):g * V≤W+V:=by
 have e:g * (b1 * 1000000000+b2)=(g * b1) * 1000000000+g * b2:=by grind
 have h1:g * (b1 * 1000000000+b2)≤a1 * 1000000000 * 1000000000+a2 * 1000000000+a3:=by
  rw [e]
  rcases ht with ht | ht
  ·have h3:g * b2≤1000000000 * 1000000000:=AD (by omega) (by have:=h.bb; omega)
   generalize g * b1=x at *
   generalize g * b2=y at *
   omega
  ·generalize g * b1=x at *
   generalize g * b2=y at *
   omega
 have h2:=AU P h1
 have h3:=h.wlo
 have h4:g * V≤g * ((b1 * 1000000000+b2+1) * P):=Bb _ (Ch h.vhi)
 have h5:g * ((b1 * 1000000000+b2+1) * P)=g * (b1 * 1000000000+b2) * P+g * P:=by grind
 have h6:g * P≤V:=by
  refine As ?_ h.vlo
  exact AU _ (by have:=h.bp; omega)
 omega
theorem Gs.right (h:Gs V W P a1 a2 a3 b1 b2) {g:Nat} (h1:W / V≤g) (h2:g * V≤W+V):(g * V≤W∧g=W / V)∨(W < g * V∧g=W / V+1):=by
 have h3:=H4 W V
 have h4:=Nat.lt_div_mul_add (a:=W) (b:=V) h.V1
 by_cases e:g * V≤W
 ·exact .inl ⟨e,Nat.le_antisymm ((GP h.V1).2 e) h1⟩
 ·refine .inr ⟨by omega, ?_⟩
  have h5:g≠W / V:=fun e2=>e (by rw [e2]; exact h3)
  have h6:¬ W / V+2≤g:=fun e2=>by
   have h7:=AU V e2
   rw [Hl] at h7
   omega
  omega
end
structure Mq (U V N k:Nat) (A:Nat→Int):Prop where
 dg:∀ j,j < N→0≤A j∧A j < 1000000000
 low:∀ j,j < k→A j=((U / 1000000000 ^ j % 1000000000:Nat):Int)
 hi:vF (fun j=>A (k+j)) (N - k)=((U / 1000000000 ^ k % V:Nat):Int)
theorem Mq.win {U V N k n:Nat} {A:Nat→Int} (h:Mq U V N (k+1) A) (hN:k+1+n≤N) (hV:V≤1000000000 ^ n) (hV1:1≤V) :
 vF (fun j=>A (k+j)) (n+1)=((1000000000 * (U / 1000000000 ^ (k+1) % V)+U / 1000000000 ^ k % 1000000000:Nat):Int)∧(∀ j,k+n+1≤j→j < N→A j=0)∧1000000000 * (U / 1000000000 ^ (k+1) % V)+U / 1000000000 ^ k % 1000000000 < V * 1000000000:=by
 have hm:=CE (U / 1000000000 ^ (k+1)) hV1
 have hd:=CE (U / 1000000000 ^ k) (show 0 < 1000000000 by decide)
 have hz:∀ j,k+n+1≤j→j < N→A j=0:=fun j h1 h2=>by
  have e:N - (k+1)=n+(N - (k+1) - n):=by omega
  have hh:=h.hi
  rw [e] at hh
  have:=Xw (f:=fun j=>A (k+1+j)) (a:=n) (b:=N - (k+1) - n) (fun j hj=>h.dg _ (by omega)) (by rw [hh,JG]; omega) (j - (k+1) - n) (by omega)
  rw [show k+1+(n+(j - (k+1) - n))=j by omega] at this
  exact this
 refine ⟨?_,hz,by omega⟩
 rw [Q4]
 show A (k+0)+1000000000 * vF (fun j=>A (k+(j+1))) n=_
 rw [DG,h.low k (by omega)]
 have e1:vF (fun j=>A (k+(j+1))) n=vF (fun j=>A (k+1+j)) (N - (k+1)):=by
  have e:N - (k+1)=n+(N - (k+1) - n):=by omega
  rw [e,GV (a:=n) _ (fun j h1 h2=>hz _ (by omega) (by omega))]
  exact Fe n fun j _=>by rw [show k+(j+1)=k+1+j by omega]
 rw [e1,h.hi]; omega
theorem Mq.next {U V N k n:Nat} {A A':Nat→Int} (h:Mq U V N (k+1) A) (hN:k+1+n≤N) (hV:V≤1000000000 ^ n) (hV1:1≤V) (hd:∀ j,j < N→0≤A' j∧A' j < 1000000000) (ho:∀ j,j < k∨k+n+1≤j→j < N→A' j=A j)
 (hw:vF (fun j=>A' (k+j)) (n+1)=(((1000000000 * (U / 1000000000 ^ (k+1) % V)+U / 1000000000 ^ k % 1000000000) % V:Nat):Int)):Mq U V N k A':=by
 obtain ⟨-,hz,-⟩:=h.win hN hV hV1
 refine ⟨hd,fun j hj=>by rw [ho j (.inl hj) (by omega)]; exact h.low j (by omega), ?_⟩
 have e:N - k=(n+1)+(N - k - (n+1)):=by omega
 rw [e,GV (a:=n+1) _ (fun j h1 h2=>by rw [ho _ (.inr (by omega)) (by omega)]; exact hz _ (by omega) (by omega)),hw,JF U V k hV1]
theorem Hc.start2 (u v m:Nat) (h:u / 1000000000 ^ m / v=0):Hc u v m m (List.replicate m 0):=by
 refine ⟨AO,fun d hd=>?_, ?_, ?_⟩
 ·rw [B7 hd]; omega
 ·rw [Ao (by rw [AO]; exact Ah _)]
 ·rw [AQ (by rw [AO]; exact Ah _),h]; rfl
theorem HY (u j:Nat):gd (digs u) j=((u / 1000000000 ^ j % 1000000000:Nat):Int):=by
 unfold gd
 cases e:(digs u)[j]? with
 | some d=>rw [(HI e).2]; rfl
 | none=>
   have h1:=List.getElem?_eq_none_iff.1 e
   have h2:=EW j u
   rw [AQ h1] at h2
   rw [Dv.1 h2.symm]; rfl
theorem EF (l:List Int) (j:Nat):gd (l ++ [0]) j=gd l j:=by
 unfold gd
 by_cases h:j < l.length
 ·rw [Bt h]
 ·rw [Bi (by omega),A3 (l:=l) (by omega)]
  cases e:j - l.length with
  | zero=>rfl
  | succ i=>rfl
theorem VV (u k:Nat):∀ n,u / 1000000000 ^ k < 1000000000 ^ n→vF (fun j=>gd (digs u) (k+j)) n=((u / 1000000000 ^ k:Nat):Int):=fun n h=>by
 have e:∀ j,gd (digs u) (k+j)=gd (digs (u / 1000000000 ^ k)) j:=fun j=>by rw [HY,HY,BF,← C1]
 rw [Fe n (fun j _=>e j)]
 have hl:=Ed n _ h
 have h2:=B4 (u / 1000000000 ^ k)
 rw [FJ] at h2
 have e2:n=(digs (u / 1000000000 ^ k)).length+(n - (digs (u / 1000000000 ^ k)).length):=by omega
 rw [e2,GV _ (fun j h1 _=>by unfold gd; rw [A3 h1]; rfl)]
 exact h2
theorem Mq.start {U V k n:Nat} (hk:k+n=(digs U).length+1) (hV:1000000000 ^ (n - 1)≤V) (hn:1≤n):Mq U V ((digs U).length+1) k (gd (digs U ++ [0]))∧U / 1000000000 ^ k / V=0:=by
 have hb:U / 1000000000 ^ k < 1000000000 ^ (n - 1):=by
  rw [Cb (E7 (by decide)),← C1]
  have:=Cx U
  rw [show n - 1+k=(digs U).length by omega]
  exact this
 refine ⟨⟨fun j _=>by rw [EF]; exact DP (BK U) j,fun j _=>by rw [EF,HY], ?_⟩,Hd (by omega)⟩
 rw [Fe _ (fun j _=>EF _ _),VV U k _ (Aq hb (BP (by decide) (by omega))),CH (by omega)]
theorem VT {f:Nat→Int} {n:Nat} (h:∀ j,j < n+3→0≤f j∧f j < 1000000000):(f (n+2) * 1000000000 * 1000000000+f (n+1) * 1000000000+f n) * pw n≤vF f (n+3)∧vF f (n+3) < (f (n+2) * 1000000000 * 1000000000+f (n+1) * 1000000000+f n+1) * pw n:=by
 have h1:=J8 (f:=f) n (fun j hj=>(h j (by omega)).1)
 have h2:=Mw (f:=f) n (fun j hj=>h j (by omega))
 have e:vF f (n+3)=vF f n+f n * pw n+f (n+1) * (1000000000 * pw n)+f (n+2) * (1000000000 * (1000000000 * pw n)):=rfl
 rw [e]
 constructor <;> grind
theorem VU {f:Nat→Int} {n:Nat} (h:∀ j,j < n+2→0≤f j∧f j < 1000000000):(f (n+1) * 1000000000+f n) * pw n≤vF f (n+2)∧vF f (n+2) < (f (n+1) * 1000000000+f n+1) * pw n:=by
 have h1:=J8 (f:=f) n (fun j hj=>(h j (by omega)).1)
 have h2:=Mw (f:=f) n (fun j hj=>h j (by omega))
 have e:vF f (n+2)=vF f n+f n * pw n+f (n+1) * (1000000000 * pw n):=rfl
 rw [e]
 constructor <;> grind
section
variable {U V N k n:Nat} {A:Nat→Int}
theorem Nj (hVn:(digs V).length=n):vF (gd (digs V)) n=(V:Int):=by rw [← hVn,← FJ]; exact B4 V
theorem Tj (V j:Nat):0≤gd (digs V) j∧gd (digs V) j < 1000000000:=DP (BK V) j
theorem Np (h:Mq U V N (k+1) A) (hN:k+1+n≤N) {g:Nat} (hg:g < 1000000000):∀ j,j < N→0≤IK A (gd (digs V)) g n k (n+1) j∧IK A (gd (digs V)) g n k (n+1) j < 1000000000:=fun j hj=>by
 unfold IK
 split
 ·exact P6 (p:=fun j=>A (k+j)) (fun j hj=>h.dg _ (by omega)) (fun j _=>Tj V j) ⟨by omega,by omega⟩ (by omega)
 ·exact h.dg j hj
theorem Q6 (g:Nat):vF (fun j=>IK A (gd (digs V)) g n k (n+1) (k+j)) (n+1)=vF (L8 (fun j=>A (k+j)) (gd (digs V)) g n) (n+1):=Fe _ fun j hj=>by
 unfold IK
 rw [Ai (by omega),CI]
theorem Tu (h:Mq U V N (k+1) A) (hN:k+1+n≤N) (hVn:(digs V).length=n) {g:Nat} (hg:g < 1000000000):vF (L8 (fun j=>A (k+j)) (gd (digs V)) g n) (n+1)=vF (fun j=>A (k+j)) (n+1) - g * V+(He (fun j=>A (k+j)) (gd (digs V)) g n (n+1)).2 * pw (n+1)∧0≤vF (L8 (fun j=>A (k+j)) (gd (digs V)) g n) (n+1)∧vF (L8 (fun j=>A (k+j)) (gd (digs V)) g n) (n+1) < pw (n+1)∧((He (fun j=>A (k+j)) (gd (digs V)) g n (n+1)).2=0∨(He (fun j=>A (k+j)) (gd (digs V)) g n (n+1)).2=1):=by
 have hp:∀ j,j≤n→0≤(fun j=>A (k+j)) j∧(fun j=>A (k+j)) j < 1000000000:=fun j hj=>h.dg _ (by omega)
 have hq:∀ j,j < n→0≤gd (digs V) j∧gd (digs V) j < 1000000000:=fun j _=>Tj V j
 have hn:(0:Int)≤g∧(g:Int) < 1000000000:=⟨by omega,by omega⟩
 have h1:=Tw hp hq hn
 rw [Nj hVn] at h1
 have hb:=fun j (hj:j < n+1)=>P6 hp hq hn (k:=j) (by omega)
 exact ⟨h1,J8 _ (fun j hj=>(hb j hj).1),Mw _ hb,(K0 hp hq hn (n+1) (by omega)).2⟩
theorem Mq.tk0 {g W:Nat} (h:Mq U V N (k+1) A) (hN:k+1+n≤N) (hVn:(digs V).length=n) (hV0:0 < V) (hW:W=1000000000 * (U / 1000000000 ^ (k+1) % V)+U / 1000000000 ^ k % 1000000000) (hg:g < 1000000000) (hgV:g * V≤W) (hq:g=W / V) :
 (He (fun j=>A (k+j)) (gd (digs V)) g n (n+1)).2=0∧Mq U V N k (IK A (gd (digs V)) g n k (n+1)):=by
 have hVb:=Cx V
 rw [hVn] at hVb
 obtain ⟨w1,-,w3⟩:=h.win hN (Ch hVb) hV0
 rw [← hW] at w1 w3
 obtain ⟨e1,e2,e3,e4⟩:=Tu h hN hVn hg
 have hgI:((g * V:Nat):Int)≤W:=by omega
 rw [AM] at hgI
 have hz:(He (fun j=>A (k+j)) (gd (digs V)) g n (n+1)).2=0:=by
  rcases e4 with e4 | e4
  ·exact e4
  ·rw [e4,w1] at e1; omega
 refine ⟨hz,h.next hN (Ch hVb) hV0 (Np h hN hg) (fun j hj hjN=>by unfold IK; rw [Ag (by omega)]) ?_⟩
 rw [Q6,e1,hz,w1,← hW]
 have hm:=DB W V
 rw [← hq] at hm
 have hm2:(V:Int) * g+((W % V:Nat):Int)=W:=by rw [← AM]; omega
 have:(g:Int) * V=V * g:=Fn _ _
 omega
theorem Mq.tk1 {g W:Nat} (h:Mq U V N (k+1) A) (hN:k+1+n≤N) (hVn:(digs V).length=n) (hV0:0 < V) (hW:W=1000000000 * (U / 1000000000 ^ (k+1) % V)+U / 1000000000 ^ k % 1000000000) (hg:g < 1000000000) (hgV:W < g * V) (hq:g=W / V+1) :
 (He (fun j=>A (k+j)) (gd (digs V)) g n (n+1)).2=1∧Mq U V N k (Mb (IK A (gd (digs V)) g n k (n+1)) (gd (digs V)) n k (n+1)):=by
 have hVb:=Cx V
 rw [hVn] at hVb
 obtain ⟨w1,-,w3⟩:=h.win hN (Ch hVb) hV0
 rw [← hW] at w1 w3
 obtain ⟨e1,e2,e3,e4⟩:=Tu h hN hVn hg
 have hgI:(W:Int) < ((g * V:Nat):Int):=by omega
 rw [AM] at hgI
 have hz:(He (fun j=>A (k+j)) (gd (digs V)) g n (n+1)).2=1:=by
  rcases e4 with e4 | e4
  ·rw [e4,w1] at e1; omega
  ·exact e4
 have hd:=Np h hN hg
 have hb:=UX (p:=fun j=>IK A (gd (digs V)) g n k (n+1) (k+j)) (q:=gd (digs V)) (m:=n)
 have hc:=RP (p:=fun j=>IK A (gd (digs V)) g n k (n+1) (k+j)) (q:=gd (digs V)) (m:=n) (fun j hj=>hd _ (by omega)) (fun j _=>Tj V j) (n+1) (by omega)
 have hbo:=fun j (_:j < n+1)=>QB (fun j=>IK A (gd (digs V)) g n k (n+1) (k+j)) (gd (digs V)) n j
 have hb1:=J8 (n+1) (fun j hj=>(hbo j hj).1)
 have hb2:=Mw (n+1) hbo
 have hm:=DB W V
 have hml:=CE W hV0
 have hq2:W / V=g - 1:=Nat.eq_sub_of_add_eq hq.symm
 rw [hq2] at hm
 have hm2:(V:Int) * ((g:Int) - 1)+((W % V:Nat):Int)=W:=by
  have:((V * (g - 1):Nat):Int)=(V:Int) * ((g:Int) - 1):=by rw [AM]; congr 1; omega
  rw [← this]; omega
 rw [Q6,e1,hz,w1,Nj hVn] at hb
 have e5:(V:Int) * ((g:Int) - 1)=g * V - V:=by grind
 have hVp:(V:Int) < pw (n+1):=by
  rw [JG]
  have:1000000000 ^ n≤1000000000 ^ (n+1):=BP (by decide) (by omega)
  omega
 refine ⟨hz,h.next hN (Ch hVb) hV0 (fun j hj=>?_) (fun j hj hjN=>by unfold Mb; rw [Ag (by omega)]; unfold IK; rw [Ag (by omega)]) ?_⟩
 ·unfold Mb
  split
  ·exact QB _ _ _ _
  ·exact hd j hj
 ·have e6:vF (fun j=>Mb (IK A (gd (digs V)) g n k (n+1)) (gd (digs V)) n k (n+1) (k+j)) (n+1)=vF (PY (fun j=>IK A (gd (digs V)) g n k (n+1) (k+j)) (gd (digs V)) n) (n+1):=Fe _ fun j hj=>by
   unfold Mb
   rw [Ai (by omega),CI]
  rw [e6,← hW]
  rcases hc with hc | hc
  ·rw [hc] at hb; omega
  ·rw [hc] at hb; omega
theorem Mq.gs {W n2 a1 a2 a3 b1 b2:Nat} (h:Mq U V N (k+1) A) (hn:n=n2+2) (hN:k+1+n≤N) (hVn:(digs V).length=n) (hV0:0 < V) (hW:W=1000000000 * (U / 1000000000 ^ (k+1) % V)+U / 1000000000 ^ k % 1000000000)
 (h1:A (k+n)=a1) (h2:A (k+n2+1)=a2) (h3:A (k+n2)=a3) (h4:gd (digs V) (n2+1)=b1) (h5:gd (digs V) n2=b2):Gs V W (1000000000 ^ n2) a1 a2 a3 b1 b2:=by
 have hVb:=Cx V
 rw [hVn] at hVb
 obtain ⟨w1,-,w3⟩:=h.win hN (Ch hVb) hV0
 rw [← hW] at w1 w3
 have hT:=VT (f:=fun j=>A (k+j)) (n:=n2) (fun j hj=>h.dg _ (by omega))
 rw [show n2+3=n+1 by omega,w1,JG] at hT
 have e1:A (k+(n2+2))=a1:=by rw [← hn]; exact h1
 have e2:A (k+(n2+1))=a2:=by rw [← Nat.add_assoc]; exact h2
 simp only [e1,e2,h3] at hT
 have hS:=VU (f:=gd (digs V)) (n:=n2) (fun j _=>Tj V j)
 rw [← hn,Nj hVn,JG,h4,h5] at hS
 have g1:=Tj V (n2+1)
 have g2:=Tj V n2
 rw [h4] at g1
 rw [h5] at g2
 have d1:=h.dg (k+n) (by omega)
 have d2:=h.dg (k+n2+1) (by omega)
 have d3:=h.dg (k+n2) (by omega)
 rw [h1] at d1
 rw [h2] at d2
 rw [h3] at d3
 have hP:1≤1000000000 ^ n2:=E7 (by decide)
 refine ⟨Zs.1 (by have:=hS.1; rw [AM]; generalize ((1000000000 ^ n2:Nat):Int)=P at *; rw [CR,AM]; exact this),Int.ofNat_lt.1 (by have:=hS.2; rw [AM]; generalize ((1000000000 ^ n2:Nat):Int)=P at *; rw [CR,CR,AM]; exact this),Zs.1 (by have:=hT.1; rw [AM]; generalize ((1000000000 ^ n2:Nat):Int)=P at *; rw [CR,CR,AM,AM,AM]; exact this),Int.ofNat_lt.1 (by have:=hT.2; rw [AM]; generalize ((1000000000 ^ n2:Nat):Int)=P at *; rw [CR,CR,CR,AM,AM,AM]; exact this), ?_,⟨by omega,by omega⟩,⟨by omega,by omega,by omega⟩,w3,hP⟩
 have hl:1000000000 ^ (n2+1)≤V:=by
  refine AW fun h9=>?_
  have:=Ed (n2+1) V (by omega)
  omega
 refine AW fun h9=>?_
 have hb0:b1=0:=by omega
 have h7:=hS.2
 rw [hb0] at h7
 rw [Br] at hl
 generalize 1000000000 ^ n2=P at *
 have h8:((b2:Int)+1) * (P:Int)≤1000000000 * (P:Int):=Ba (by omega) (by omega)
 have h7:(V:Int) < ((0:Int) * 1000000000+b2+1) * (P:Int):=h7
 rw [CZ,Int.zero_add] at h7
 omega
end
end Go.Proofs.YtiniigadkknboaaGreatDoor
