/- Contracts and laws: GAL. -/
import Derived.Test.YtiniigadkknboaaGreatDoorGAK
import Derived.Laws.AppendOwnNone
import Derived.Deep.CutRange
import Derived.Laws.IdiomStrings

set_option maxRecDepth 100000
set_option maxHeartbeats 4000000
namespace Go.Proofs.YtiniigadkknboaaGreatDoor
open Go.RowKit Go.Lib
attribute [local go_sem ↓] Go.wp_at_zero Go.wp_at_succ
structure Hc (u v n k:Nat) (out:List Int):Prop where
 len:out.length=n
 dg:Dg out
 low:out.take k=List.replicate k 0
 vl:val (out.drop k)=((u / 1000000000 ^ k / v:Nat):Int)
theorem Hc.start (u v:Nat):Hc u v (digs u).length (digs u).length (List.replicate (digs u).length 0):=by
 refine ⟨AO,fun d hd=>?_, ?_, ?_⟩
 ·rw [B7 hd]; omega
 ·rw [Ao (by rw [AO]; exact Ah _)]
 ·rw [AQ (by rw [AO]; exact Ah _)]
  have h:=EW (digs u).length u
  rw [Fl] at h
  rw [Dv.1 h.symm,Nat.zero_div]; rfl
theorem Hc.fin {u v n:Nat} {out:List Int} (h:Hc u v n 0 out):BA out=digs (u / v):=by
 have:=h.vl
 rw [Fa,Em,E9] at this
 rw [Dp h.dg,this,AR]
theorem MZ (U v d:Nat) (_hv:0 < v):(1000000000 * U+d) / v=1000000000 * (U / v)+(1000000000 * (U % v)+d) / v∧(1000000000 * U+d) % v=(1000000000 * (U % v)+d) % v:=by
 have h:=DB U v
 have e:1000000000 * U+d=v * (1000000000 * (U / v))+(1000000000 * (U % v)+d):=by
  have:v * (1000000000 * (U / v))=1000000000 * (v * (U / v)):=Nat.mul_left_comm _ _ _
  rw [this]; omega
 rw [e]
 exact ⟨by rw [Nat.mul_add_div _hv],by rw [Nat.mul_add_mod]⟩
theorem HH (U v d:Nat) (hv:0 < v) (hd:d < 1000000000):(1000000000 * (U % v)+d) / v < 1000000000:=by
 rw [Cb hv]
 have h:=CE U hv
 have h2:1000000000 * (U % v+1)≤1000000000 * v:=Bb _ h
 omega
theorem Hc.step {u v n k q:Nat} {out:List Int} (h:Hc u v n (k+1) out) (hk:k < n) (hv:0 < v) (hq:q=(1000000000 * (u / 1000000000 ^ (k+1) % v)+u / 1000000000 ^ k % 1000000000) / v):Hc u v n k (out.set k (q:Int)):=by
 have e:u / 1000000000 ^ (k+1)=u / 1000000000 ^ k / 1000000000:=by rw [Br,BF]
 have hl:=h.len
 have hq9:q < 1000000000:=by rw [hq]; exact HH _ _ _ hv (CE _ (by decide))
 refine ⟨by rw [A0]; exact hl,h.dg.set k ⟨Aj _,by omega⟩, ?_, ?_⟩
 ·have h1:=h.low
  rw [ZV (Ah _)]
  have h2:(out.take (k+1)).take k=(List.replicate (k+1) (0:Int)).take k:=by rw [h1]
  rw [Yb,Db (by omega),List.take_replicate,Db (by omega)] at h2
  exact h2
 ·have h1:=h.vl
  rw [Dx (by rw [A0]; omega),List.getElem_set_self,ZX (by omega)]
  show (q:Int)+1000000000 * val (out.drop (k+1))=_
  rw [h1,hq,e]
  have h2:=(MZ (u / 1000000000 ^ k / 1000000000) v (u / 1000000000 ^ k % 1000000000) hv).1
  rw [DB] at h2
  rw [h2]
  omega
theorem JF (u v k:Nat) (hv:0 < v):(1000000000 * (u / 1000000000 ^ (k+1) % v)+u / 1000000000 ^ k % 1000000000) % v=u / 1000000000 ^ k % v:=by
 have e:u / 1000000000 ^ (k+1)=u / 1000000000 ^ k / 1000000000:=by rw [Br,BF]
 have h2:=(MZ (u / 1000000000 ^ k / 1000000000) v (u / 1000000000 ^ k % 1000000000) hv).2
 rw [DB] at h2
 rw [e]; exact h2.symm
theorem R8 (d r:Nat) (hd:d < 1000000000):BA ((d:Int) :: digs r)=digs (1000000000 * r+d):=by
 have h:Dg ((d:Int) :: digs r):=Dg.mk ⟨Aj _,by omega⟩ (BK r)
 rw [Dp h]
 congr 1
 show ((d:Int)+1000000000 * val (digs r)).toNat=_
 rw [B4]; omega
theorem V7 {x y:Nat}:decide (Ej x y≤0)=decide (x≤y):=by
 unfold Ej
 by_cases h:x < y
 ·rw [Ai h,Ab (show x≤y by omega)]; rfl
 ·rw [Ag h]
  by_cases h2:y < x
  ·rw [Ai h2,Aa (show ¬ x≤y by omega)]; rfl
  ·rw [Ag h2,Ab (show x≤y by omega)]; rfl
theorem Wq {v m r q:Nat} (hv:0 < v) (hq:q=r / v):v * m≤r ↔ m≤q:=by
 rw [hq,GP hv,Di]
theorem Vf (u v:Nat) (hv:0 < v) (a b:Option Addr) (ca cb:Nat) (w:World) (hx:El w iv a (digs u)) (hy:El w iv b (digs v)) (hl:(digs u).length≤100000) (hm:(digs v).length≤100000) :
 Calls Tryz.prog 200 #[.slice a (digs u).length ca,.slice b (digs v).length cb] w fun e w'=>∃ a1 c1 a2 c2,e=.returned (.tuple #[.slice a1 (digs (u / v)).length c1,.slice a2 (digs (u % v)).length c2])∧El w' iv a1 (digs (u / v))∧(digs (u / v)).length≤c1∧El w' iv a2 (digs (u % v))∧(digs (u % v)).length≤c2∧Fr w w':=by
 obtain ⟨i0,hi,hz0,hz1,hz2⟩:=AZ C6
 obtain ⟨nx,hnx⟩:∃ nx,nx=(digs u).length:=⟨_,rfl⟩
 obtain ⟨ny,hny⟩:∃ ny,ny=(digs v).length:=⟨_,rfl⟩
 have hM0:Hc u v nx nx (List.replicate nx 0):=by rw [hnx]; exact Hc.start u v
 have hget:=hZ (fun i d (h:(digs u)[i]?=some d)=>HI h)
 have hR0:u / 1000000000 ^ nx=0:=by
  have h:=EW (digs u).length u
  rw [Fl] at h
  rw [hnx]; exact Dv.1 h.symm
 have hvl:∀ x,x < v→(digs x).length≤100001:=fun x hx9=>by
  by_cases h9:(digs v).length < (digs x).length
  ·have:=Gy v x h9; omega
  ·omega
 have hvl2:∀ x d,x < v→d < 1000000000→(digs (1000000000 * x+d)).length≤100002:=fun x d hx9 hd=>by
  by_cases h0:1000000000 * x+d=0
  ·rw [h0,Bw]; exact Ck _
  ·rw [Cd (by omega),Aw,show (1000000000 * x+d) / 1000000000=x by omega]
   have:=hvl x hx9; omega
 have htm:Hid (∀ (m:Nat) W q c d o,m < 1000000000→El W iv q (digs v)→El W iv o [(m:Int)]→Calls Tryz.prog 126 #[.slice q (digs v).length c,.slice o 1 d] W fun e w'=>∃ a' c',e=.returned (.slice a' (digs (v * m)).length c')∧El w' iv a' (digs (v * m))∧(digs (v * m)).length≤c'∧Fr W w'):=fun m W q c d o hm9 h1 h2=>
  RX (digs v) [(m:Int)] (v * m) (by rw [B4]; show (v:Int) * ((m:Int)+1000000000 * 0)=_; rw [B0,Gh]; exact (AM _ _).symm) q o c d W h1 h2 (BK _) (fun x hx9=>by rw [AX] at hx9; subst hx9; exact ⟨Aj _,by omega⟩) (by omega) (by simp)
 have hvm:∀ m,m < 1000000000→(digs (v * m)).length≤100002:=fun m hm9=>by
  by_cases h9:(digs (1000000000 * (v - 1)+999999999)).length < (digs (v * m)).length
  ·have h1:=Gy _ _ h9
   have h2:v * m≤v * 999999999:=Bb _ (by omega)
   omega
  ·have:=hvl2 (v - 1) 999999999 (by omega) (by omega); omega
 rw [← hnx] at hl ⊢
 rw [← hny] at hm htm ⊢
 replace hvm:=hZ hvm
 replace hvl2:=hZ hvl2
 replace hvl:=hZ hvl
 replace hx:=hZ hx
 replace hy:=hZ hy
 replace hnx:=hZ hnx
 replace hny:=hZ hny
 replace hM0:=hZ hM0
 replace hR0:=hZ hR0
 replace hv:=hZ hv
 obtain ⟨B,hB⟩:∃ B,B=w.heap.size:=⟨_,rfl⟩
 go_enter Tryz.func200,Tryz.ntmps200
 go_wp2_with (at_make; refine Dk _ rfl _ _ 23 rfl w.heap.size 3 i0 _ 1 Tryz.underlying23 hi hz0 hz1 _ _ _ _ nx (by rfl) (by rfl) (by omega) (by omega) (by rw [hz2]; omega) (by unfold maxLen; omega) (Ah _) ?_; intro w2 hown2 hgr2)
 have hfw2:Fr w w2:=(Fr.refl w).grown hgr2 (fun k e=>by cases e)
 have hown0:Hj w2 B (List.replicate nx 0):=by
  rw [hB]; exact Rh rfl hown2
 rw [← hB]
 replace hown0:=hZ hown0
 replace hB:=hZ hB
 clear hown2 hgr2
 have hw1:IntKind.i64.wrap ((nx:Int) - 1)=(nx:Int) - 1:=Ak _ (by omega)
 go_wp2_with fail
 go_loopg [7,8] nx (fun gk s7 s8 wr=>∃ (i:Int) (r:Nat) (ra:Option Addr) (rc:Nat) (out:List Int),s8=.int .i64 i∧i+1=gk∧gk≤nx∧s7=.slice ra (digs r).length rc∧Hid (r=u / 1000000000 ^ gk % v)∧Hid (El wr iv ra (digs r))∧Hid ((digs r).length≤rc)∧Hid (ra=none→rc=0)∧Fr w wr∧Hid (Hj wr B out)∧Hid (Hc u v nx gk out))
 case atStart=>exact ⟨_,0,none,0,_,rfl,by omega,Ah _,by rw [Bw]; rfl,by show _=_; rw [hR0.out,Nat.zero_mod],.inl Bw,by show _≤_; rw [Bw]; exact Ah _,fun _=>rfl,hfw2,hown0,hM0⟩
 case round=>
  clear hown0 hM0 hfw2 hw1
  obtain ⟨i,r,ra,rc,out,rfl,hik,hgn,rfl,hr,hre,hrc,hrn,hf,hown,hM⟩:=hrel
  obtain ⟨ko,rfl⟩:∃ ko:Nat,ko=gk:=⟨_,rfl⟩
  by_cases h0:ko=0
  ·subst h0
   obtain rfl:i=-1:=by omega
   have hq:=hM.out.fin
   have hlen:=hM.out.len
   have htr:=IA out (some ⟨B,0,none⟩) nx wr hown.out.el (by omega) (by omega)
   have hle:=(BS out).2
   have hE:=GX hown.out.el
   rw [hq,hlen] at htr hle
   rw [hq] at hE
   have hr9:Hid (u % v=r):=by show _=_; rw [hr.out,Em,E9]
   replace htr:=hZ htr
   replace hE:=hZ hE
   replace hle:=hZ hle
   clear hq hlen
   go_wp2_with fail
   refine htr.out.mono ?_
   rintro e w3 ⟨rfl,hf3⟩
   go_wp2_with fail
   go_ret2
   rw [hr9.out]
   exact ⟨_,_,_,_,rfl,hE.out.fr hf3,hle.out,hre.out.fr hf3,hrc.out,hf.trans hf3⟩
  ·obtain ⟨k,rfl⟩:∃ k,ko=k+1:=⟨ko - 1,by omega⟩
   obtain rfl:i=(k:Int):=by omega
   obtain ⟨xb,xo,d,rfl,-,hdk,hdc⟩:=(hx.out.fr hf).at (i:=k) (by rw [← hnx.out]; omega)
   obtain ⟨-,hd2⟩:=hget.out k d hdk
   obtain ⟨dg,hdg⟩:∃ dg,dg=u / 1000000000 ^ k % 1000000000:=⟨_,rfl⟩
   rw [← hdg] at hd2
   have hdl:dg < 1000000000:=by rw [hdg]; exact CE _ (by decide)
   subst hd2
   have hrv:r < v:=by rw [hr.out]; exact CE _ hv.out
   have hrl:=hvl.out r hrv
   have hr2l:=hvl2.out r dg hrv hdl
   have htc:=R8 dg r hdl
   obtain ⟨r2,hr2⟩:∃ r2,r2=1000000000 * r+dg:=⟨_,rfl⟩
   rw [← hr2] at htc hr2l
   obtain ⟨q,hq⟩:∃ q,q=r2 / v:=⟨_,rfl⟩
   have hq9:q < 1000000000:=by rw [hq,hr2,hr.out]; exact HH _ _ _ hv.out hdl
   have hMs:Hid (Hc u v nx k (out.set k (q:Int))):=hM.out.step (by omega) hv.out (by rw [hq,hr2,hr.out,hdg])
   have hrs:Hid (r2 % v=u / 1000000000 ^ k % v):=by show _=_; rw [hr2,hr.out,hdg]; exact JF u v k hv.out
   have hhalf:=hZ (fun m=>Wq (m:=m) hv.out hq)
   have hkn:k < out.length:=by rw [hM.out.len]; omega
   have hown9:=hown.out
   have y0:(0:Int)≤(k:Int):=by omega
   have y1:(k:Int) < (nx:Int):=by omega
   have y2:((k+1:Nat):Int) - 1=(k:Int):=by omega
   have hlit:∀ W,Fr wr W→Hid ((W.alloc (.cells #[.int .i64 dg] 3)).ownsRow W.heap.size 3 1 (.slice (some ⟨W.heap.size,0,none⟩) 1 1) 1 [iv dg]):=fun W hW=>World.ownsRow_lit W #[.int .i64 dg] 1 (Ah _) (by decide) rfl
   have hL9:=(hlit wr (Fr.refl _)).out
   replace hdk:=hZ hdk
   replace hdg:=hZ hdg
   replace hr2:=hZ hr2
   replace hq:=hZ hq
   replace hM:=hZ hM
   clear hlit
   have hnews:Hid (∀ ad,ra=some ad→∀ (j:Nat) (u9:Value),((digs r).map iv)[j]?=some u9→(wr.alloc (.cells #[.int .i64 dg] 3)).cell? (ad.add j)=some u9):=fun ad e j u9 hj=>by
    rw [At] at hj
    cases hg:(digs r)[j]? with
    | none=>rw [hg] at hj; cases hj
    | some x=>
      rw [hg] at hj
      injection hj with hj
      rw [← hj]
      rcases hre.out with h | ⟨b',o',ha,-,hc⟩
      ·rw [h] at hg; simp at hg
      ·rw [ha] at e
       injection e with e
       subst e
       have h9:=((Fr.refl wr).alloc (.cells #[.int .i64 dg] 3)).keep (hc j x hg)
       have e9:(⟨b',o',none⟩:Addr).add j=⟨b',o'+j,none⟩:=by
        unfold Addr.add
        by_cases h0:j=0
        ·rw [Ai h0,h0]; rfl
        ·rw [Ag h0]
       rw [e9]; exact h9
   have hone:Hid (∀ u9,u9 ∈ (digs r).map iv→u9.oneCell'=true):=fun u9 h9=>by
    obtain ⟨x,-,rfl⟩:=Bc.1 h9
    rfl
   have hnil:Hid (ra=none→digs r=[]):=fun e=>by
    rcases hre.out with h | ⟨b',o',ha,-,hc⟩
    ·exact h
    ·rw [e] at ha; cases ha
   have hr2e:Hid (digs r2=BA ((dg:Int) :: digs r)):=htc.symm
   have hwz:=hf.size
   go_upto_region 6 with (fail)
   go_cut [7] from 22 to 30 (fun s7 wc=>∃ a2 c2,s7=.slice (some a2) (digs r2).length c2∧Fr wr wc∧El wc iv (some a2) (digs r2)∧(digs r2).length≤c2∧B < a2.block)
   case first=>
    clear hMs hrs hhalf hM hx hy hget htm hvm hvl hvl2
    have hBl:B < wr.heap.size:=hown.out.1
    have hfa:Fr wr (wr.alloc (.cells #[.int .i64 dg] 3)):=(Fr.refl _).alloc _
    cases ra with
    | none=>
      obtain rfl:=hrn.out rfl
      have hz9:=hnil.out rfl
      have hE1:=Gt (l:=[(dg:Int)]) hL9
      obtain ⟨a9,c9,he9,hE1,hc9,-⟩:=hE1
      have he9:a9=some ⟨wr.heap.size,0,none⟩∧c9=1:=by
       injection he9 with h1 h2 h3
       exact ⟨h1.symm,h3.symm⟩
      obtain ⟨rfl,rfl⟩:=he9
      have htr:=IA [(dg:Int)] (some ⟨wr.heap.size,0,none⟩) 1 _ hE1 (by simp) hc9
      have hle:=(BS [(dg:Int)]).2
      have hE2:=GX hE1
      rw [hz9] at hr2e
      rw [← hr2e.out] at htr hle hE2
      replace htr:=hZ htr
      replace hE2:=hZ hE2
      have hlz:(digs r).length=0:=by rw [hz9]; rfl
      rw [hlz]
      clear hz9 hlz hE1 hr2e
      go_wp2_with (at_builtin; refine wpList_append_own_none rfl _ _ 23 (by rfl) wr.heap.size 3 i0 1 Tryz.underlying23 hi _ 1 _ (by rfl) hL9 (by rfl) ?_)
      go_wp2_with fail
      refine htr.out.mono ?_
      rintro e w3 ⟨rfl,hf3⟩
      go_wp2_with fail
      go_meet
      case rel=>exact ⟨_,_,rfl,hfa.trans hf3,hE2.out.fr hf3,hle,hBl⟩
    | some ad=>
      go_wp2_with (at_builtin; refine wpList_append_own _ rfl _ _ 23 (by rfl) wr.heap.size 3 i0 _ 1 8 Tryz.underlying23 hi hz0 hz1 hz2 rfl (by decide) _ 1 _ (by rfl) hL9 ad (digs r).length rc ((digs r).map iv) (by rfl) (by rw [An,FV]) (hnews.out ad rfl) hone.out (by unfold maxLen; omega) (by omega) (by simp) ?_; intro v9 w9 ho9 hg9 hn9)
      obtain ⟨g9,c9,rfl,-⟩:=World.ownsRow.form ho9 (by omega)
      have hgb9:wr.heap.size≤g9:=(ho9.lt g9 rfl).1
      have hf9:Fr wr w9:=hfa.grown hg9 (fun k e=>by have e:wr.heap.size=k:=by simpa [Value.ownBlock] using e
                                                    omega)
      have ho8:w9.ownsRow wr.heap.size 3 1 (.slice (some ⟨g9,0,none⟩) ((dg:Int) :: digs r).length c9) ((dg:Int) :: digs r).length (((dg:Int) :: digs r).map iv):=by
       rw [Aw,Gf]; exact ho9
      obtain ⟨a8,c8,he8,hE1,hc8,-⟩:=Gt ho8
      have he9:a8=some ⟨g9,0,none⟩∧c8=c9:=by
       injection he8 with h1 h2 h3
       exact ⟨h1.symm,h3.symm⟩
      obtain ⟨rfl,rfl⟩:=he9
      have htr:=IA ((dg:Int) :: digs r) (some ⟨g9,0,none⟩) c8 _ hE1 (by rw [Aw]; omega) hc8
      have hle:=(BS ((dg:Int) :: digs r)).2
      have hE2:=GX hE1
      rw [← hr2e.out] at htr hle hE2
      rw [Aw,Gf] at htr
      rw [Aw] at hle hc8
      replace htr:=hZ htr
      replace hE2:=hZ hE2
      clear hE1 hr2e ho8 ho9 he8 hn9
      go_wp2_with fail
      refine htr.out.mono ?_
      rintro e w3 ⟨rfl,hf3⟩
      go_wp2_with fail
      go_meet
      case rel=>exact ⟨_,_,rfl,hf9.trans hf3,hE2.out.fr hf3,by omega,Aq hBl hgb9⟩
   obtain ⟨a2,c2,rfl,hfc,hE2,hc2,ha2B⟩:=hcut
   replace hE2:=hZ hE2
   obtain ⟨W5,rfl⟩:∃ W5:World,W5=wc:=⟨_,rfl⟩
   have hF5:=hf.trans hfc
   clear hL9 hnews hone hnil hre hrn hrc hdc hr2e hwz hown9
   obtain ⟨G9,hG9⟩:∃ G,G=999999999:=⟨_,rfl⟩
   go_wp2_with fail
   go_loopg [9,10] G9 (fun gk s9 s10 wr2=>∃ lo hi:Nat,s9=.int .i64 lo∧s10=.int .i64 hi∧hi≤lo+gk∧lo≤q∧q≤hi∧hi≤999999999∧Fr W5 wr2)
   case atStart=>exact ⟨0,999999999,rfl,rfl,by omega,by omega,by omega,by omega,Fr.refl _⟩
   case round=>
    obtain ⟨lo,hi',rfl,rfl,hgh,hlq,hqh,hh9,hf2⟩:=hrel
    obtain ⟨wx,rfl⟩:∃ wx:World,wx=wr:=⟨_,rfl⟩
    by_cases hlt:lo < hi'
    ·have d0:decide (lo < hi')=true:=Ab hlt
     have d1:decide ((lo:Int) < (hi':Int))=true:=Ab (by omega)
     obtain ⟨mid,hmid⟩:∃ mid,mid=(lo+hi'+1) / 2:=⟨_,rfl⟩
     have t1:((lo:Int)+(hi':Int)+1).tdiv 2=(mid:Int):=by rw [Dq (by omega)]; omega
     have t2:((lo:Int)+(hi':Int)+1) / 2=(mid:Int):=by omega
     have hm1:1≤mid∧lo < mid∧mid≤hi':=by omega
     replace hmid:=hZ hmid
     have hml:=hvm.out mid (by omega)
     have hE3:El (wx.alloc (.cells #[.int .i64 mid] 3)) iv (some ⟨wx.heap.size,0,none⟩) [(mid:Int)]:=.inr ⟨_,_,rfl,by simp,fun j x hj=>by
      match j,hj with
      | 0,hj=>injection hj with hj; subst hj; exact Dt _ _ _
      | j+1,hj=>simp at hj⟩
     have ha3:Fr wx (wx.alloc (.cells #[.int .i64 mid] 3)):=(Fr.refl _).alloc _
     have hFx:=hF5.trans hf2
     have ht9:=hZ (fun W (hW:Fr wx W) d o (h:El W iv o [(mid:Int)])=>htm.out mid W b cb d o (by omega) (hy.out.fr (hFx.trans hW)) h)
     have ho9:=hZ (fun W (hW:Fr wx W) p c (h:El W iv p (digs (v * mid)))=>RY (v * mid) r2 p (some a2) c c2 W h (hE2.out.fr (hf2.trans hW)) (by omega) (by omega))
     have hdle:=hZ (V7 (x:=v * mid) (y:=r2))
     have hhf:=hhalf.out mid
     replace hE3:=hZ hE3
     by_cases hmq:mid≤q
     ·have d2:decide (Ej (v * mid) r2≤0)=true:=by rw [hdle.out]; exact Ab (hhf.2 hmq)
      generalize Ej (v * mid) r2=sg at *
      clear hhf
      go_wp2_with fail
      refine (ht9.out _ ha3 1 _ hE3.out).mono ?_
      rintro e w3 ⟨pc,cc,rfl,hec,-,hf3⟩
      replace hec:=hZ hec
      go_wp2_with fail
      refine (ho9.out _ (ha3.trans hf3) _ _ hec.out).mono ?_
      rintro e w4 ⟨rfl,hf4⟩
      go_wp2_with fail
      go_roundg (gk - 1)
      case measure=>omega
      case rel=>exact ⟨mid,hi',rfl,rfl,by omega,by omega,by omega,by omega,((hf2.trans ha3).trans hf3).trans hf4⟩
     ·have d2:decide (Ej (v * mid) r2≤0)=false:=by rw [hdle.out]; exact Aa (fun h=>hmq (hhf.1 h))
      generalize Ej (v * mid) r2=sg at *
      clear hhf
      go_wp2_with fail
      refine (ht9.out _ ha3 1 _ hE3.out).mono ?_
      rintro e w3 ⟨pc,cc,rfl,hec,-,hf3⟩
      replace hec:=hZ hec
      go_wp2_with fail
      refine (ho9.out _ (ha3.trans hf3) _ _ hec.out).mono ?_
      rintro e w4 ⟨rfl,hf4⟩
      go_wp2_with fail
      go_roundg (gk - 1)
      case measure=>omega
      case rel=>exact ⟨lo,mid - 1,rfl,congrArg (Value.int IntKind.i64) (by omega),by omega,by omega,by omega,by omega,((hf2.trans ha3).trans hf3).trans hf4⟩
    ·have d0:decide (lo < hi')=false:=Aa hlt
     have d1:decide ((lo:Int) < (hi':Int))=false:=Aa (by omega)
     obtain rfl:hi'=q:=by omega
     obtain rfl:lo=hi':=by omega
     have hownx:=hZ (hown.out.fr (hfc.trans hf2))
     obtain ⟨z9,hz9⟩:∃ z,out[k]?=some z:=⟨_,Ac hkn⟩
     obtain ⟨c0,g0⟩:=hownx.out.2 _ _ hz9
     have hw8:=hownx.out.set hkn (lo:Int)
     have hFx:Fr w wx:=hF5.trans hf2
     have hfz:Hid (Fx (·=B) wx (wx.setCell ⟨B,k,none⟩ (.int .i64 lo))):=Fx.setCell (p:=(·=B)) (q:=⟨B,k,none⟩) (Fx.refl _ _) (.inl rfl) _
     have hFz:Hid (Fr w (wx.setCell ⟨B,k,none⟩ (.int .i64 lo))):=((Fx.of_fr hFx).trans hfz.out).toFr (fun k hk e=>by have e:k=B:=e; have:=hB.out; omega)
     have hEx:El wx iv (some a2) (digs r2):=hE2.out.fr hf2
     have hE6:=hZ (El.fxr hEx hfz.out (fun ad e=>by injection e with e; subst e; show ¬ a2.block=B; omega))
     obtain ⟨W6,hW6⟩:∃ W,W=wx.setCell ⟨B,k,none⟩ (.int .i64 lo):=⟨_,rfl⟩
     have hw9:Hid (Hj W6 B (out.set k (lo:Int))):=by rw [hW6]; exact hw8
     rw [← hW6] at hFz hE6
     have z2:(0:Int)≤(k:Int):=by omega
     replace hz9:=hZ hz9
     clear hw8 hfz hEx
     go_upto_region 14 with (fail)
     rw [← hW6]
     clear hW6 c0 g0
     by_cases hz:lo=0
     ·have d2:decide ((0:Int) < (lo:Int))=false:=Aa (by omega)
      have d3:decide (0 < lo)=false:=Aa (by omega)
      have hlt9:Hid (r2 % v=r2):=by
       show _=_
       have:=DB r2 v
       rw [← hq.out,hz,Nat.mul_zero,AN] at this
       exact this
      replace hz:=hZ hz
      go_wp2_with fail
      go_roundg k
      case measure=>omega
      case rel=>exact ⟨_,r2,some a2,c2,out.set k (lo:Int),rfl,by omega,by omega,rfl,by show _=_; rw [← hrs.out,hlt9.out],hE6,hc2,(fun e=>by cases e),hFz.out,hw9,hMs⟩
     ·have d2:decide ((0:Int) < (lo:Int))=true:=Ab (by omega)
      have d3:decide (0 < lo)=true:=Ab (by omega)
      have hml:=hvm.out lo hq9
      have hle9:v * lo≤r2:=(hhalf.out lo).2 (Ah _)
      have hmd:BA (CN (digs r2) (digs (v * lo)) 0)=digs (r2 % v):=by
       have h9:=HB r2 (v * lo) 0 (by omega) (by omega)
       have h8:=DB r2 v
       rw [← hq.out] at h8
       rw [show r2 - v * lo - 0=r2 % v by omega] at h9
       exact h9
      have hpos:0 < (digs r2).length:=Cy.2 (fun e=>by
       have h9:=Dv.1 e
       have h8:1 * 1≤v * lo:=AD hv.out (by omega)
       omega)
      have hE3:El (W6.alloc (.cells #[.int .i64 lo] 3)) iv (some ⟨W6.heap.size,0,none⟩) [(lo:Int)]:=.inr ⟨_,_,rfl,by simp,fun j x hj=>by
       match j,hj with
       | 0,hj=>injection hj with hj; subst hj; exact Dt _ _ _
       | j+1,hj=>simp at hj⟩
      have ha3:Fr W6 (W6.alloc (.cells #[.int .i64 lo] 3)):=(Fr.refl _).alloc _
      have ht9:=hZ (fun W (hW:Fr W6 W) d o (h:El W iv o [(lo:Int)])=>htm.out lo W b cb d o hq9 (hy.out.fr (hFz.out.trans hW)) h)
      have hm9:=hZ (fun W (hW:Fr W6 W) q d (h:El W iv q (digs (v * lo)))=>N1 (digs r2) (digs (v * lo)) (some a2) q c2 d W (hE6.out.fr hW) h (BK _) (BK _) (by omega) (by omega))
      rw [hmd] at hm9
      replace hE3:=hZ hE3
      replace hpos:=hZ hpos
      replace hz:=hZ hz
      clear hmd
      go_wp2_with fail
      refine (ht9.out _ ha3 1 _ hE3.out).mono ?_
      rintro e w3 ⟨pc,cc,rfl,hec,-,hf3⟩
      replace hec:=hZ hec
      go_wp2_with fail
      refine (hm9.out _ (ha3.trans hf3) _ _ hec.out).mono ?_
      rintro e w4 ⟨pd,cd,rfl,hed,hcd,hf4,hsm⟩
      replace hed:=hZ hed
      replace hsm:=hZ hsm
      have hf64:=(ha3.trans hf3).trans hf4
      go_wp2_with fail
      go_roundg k
      case measure=>omega
      case rel=>exact ⟨_,r2 % v,pd,cd,out.set k (lo:Int),rfl,by omega,by omega,rfl,hrs,hed,hcd,(fun e=>by obtain ⟨ad,h9⟩:=hsm.out hpos.out; rw [e] at h9; cases h9),hFz.out.trans hf64,hw9.out.fr hf64,hMs⟩
def gd (l:List Int) (j:Nat):Int:=(l[j]?).getD 0
def vF (f:Nat→Int):Nat→Int
 | 0=>0
 | n+1=>vF f n+f n * pw n
theorem Fe {f g:Nat→Int}:∀ n,(∀ j,j < n→f j=g j)→vF f n=vF g n
 | 0,_=>rfl
 | n+1,h=>by
   show vF f n+f n * pw n=vF g n+g n * pw n
   rw [Fe n (fun j hj=>h j (by omega)),h n (by omega)]
theorem JG:∀ n,pw n=((1000000000 ^ n:Nat):Int)
 | 0=>rfl
 | n+1=>by
   show 1000000000 * pw n=_
   rw [JG n,Br]; omega
theorem Hp (f:Nat→Int) (a:Nat):∀ b,vF f (a+b)=vF f a+pw a * vF (fun j=>f (a+j)) b
 | 0=>by show vF f a=vF f a+pw a * 0; omega
 | b+1=>by
   show vF f (a+b)+f (a+b) * pw (a+b)=vF f a+pw a * (vF (fun j=>f (a+j)) b+f (a+b) * pw b)
   rw [Hp f a b,Qe]; grind
theorem Q4 (f:Nat→Int) (n:Nat):vF f (n+1)=f 0+1000000000 * vF (fun j=>f (j+1)) n:=by
 have h:=Hp f 1 n
 rw [Gf 1 n] at h
 rw [h]
 have e:vF (fun j=>f (1+j)) n=vF (fun j=>f (j+1)) n:=Fe n fun j _=>by rw [Gf]
 rw [e]
 show 0+f 0 * pw 0+pw 1 * _=_
 show 0+f 0 * 1+1000000000 * 1 * _=_
 grind
theorem FJ:∀ l:List Int,val l=vF (gd l) l.length
 | []=>rfl
 | d :: l=>by
   rw [Aw,Q4]
   show d+1000000000 * val l=_
   rw [FJ l]; rfl
theorem J8 {f:Nat→Int}:∀ n,(∀ j,j < n→0≤f j)→0≤vF f n
 | 0,_=>Ju 0
 | n+1,h=>by
   have h1:=J8 n (fun j hj=>h j (by omega))
   have h2:=BR (h n (by omega)) (Ib (G2 n))
   show 0≤vF f n+f n * pw n
   omega
theorem Mw {f:Nat→Int}:∀ n,(∀ j,j < n→0≤f j∧f j < 1000000000)→vF f n < pw n
 | 0,_=>G2 0
 | n+1,h=>by
   have h1:=Mw n (fun j hj=>h j (by omega))
   have h2:=Ba (show f n≤999999999 by have:=(h n (by omega)).2; omega) (Ib (G2 n))
   show vF f n+f n * pw n < 1000000000 * pw n
   omega
theorem Q3 {f:Nat→Int}:∀ n,(∀ j,j < n→f j=0)→vF f n=0
 | 0,_=>rfl
 | n+1,h=>by
   show vF f n+f n * pw n=0
   rw [Q3 n (fun j hj=>h j (by omega)),h n (by omega)]; omega
theorem Xw {f:Nat→Int} {a b:Nat} (hf:∀ j,j < a+b→0≤f j∧f j < 1000000000) (h:vF f (a+b) < pw a):∀ j,j < b→f (a+j)=0:=by
 induction b with
 | zero=>intro j hj; omega
 | succ b ih=>
   have e:vF f (a+(b+1))=vF f (a+b)+f (a+b) * pw (a+b):=rfl
   have h0:=J8 (f:=f) (a+b) (fun j hj=>(hf j (by omega)).1)
   have h1:=(hf (a+b) (by omega)).1
   have hz:f (a+b)=0:=by
    refine AW fun hne=>?_
    have h2:pw (a+b)≤f (a+b) * pw (a+b):=by
     have:=Ba (show 1≤f (a+b) by omega) (Ib (G2 (a+b)))
     omega
    have h3:=Ri (a:=a) (b:=a+b) (by omega)
    omega
   rw [e,hz] at h
   have h:=ih (fun j hj=>hf j (by omega)) (by omega)
   intro j hj
   by_cases e:j=b
   ·subst e; exact hz
   ·exact h j (by omega)
section
variable (p q:Nat→Int) (n:Int)
def He (m:Nat):Nat→Int×Int
 | 0=>(0,0)
 | k+1=>
   let x:=(He m k).1+(if k < m then n * q k else 0)
   (x / 1000000000,if p k - x % 1000000000 - (He m k).2 < 0 then 1 else 0)
def Kl (m k:Nat):Int:=(He p q n m k).1+(if k < m then n * q k else 0)
def L9 (m k:Nat):Int:=p k - Kl p q n m k % 1000000000 - (He p q n m k).2
def L8 (m k:Nat):Int:=if L9 p q n m k < 0 then L9 p q n m k+1000000000 else L9 p q n m k
end
theorem Tx (p q:Nat→Int) (n:Int) (m k:Nat):He p q n m (k+1)=(Kl p q n m k / 1000000000,if L9 p q n m k < 0 then 1 else 0):=rfl
theorem K0 {p q:Nat→Int} {n:Int} {m:Nat} (hp:∀ j,j≤m→0≤p j∧p j < 1000000000) (hq:∀ j,j < m→0≤q j∧q j < 1000000000) (hn:0≤n∧n < 1000000000):∀ k,k≤m+1→(0≤(He p q n m k).1∧(He p q n m k).1 < 1000000000)∧((He p q n m k).2=0∨(He p q n m k).2=1)
 | 0,_=>⟨⟨Ju 0,(by decide:(0:Int) < 1000000000)⟩,.inl rfl⟩
 | k+1,h=>by
   obtain ⟨⟨h1,h2⟩,h3⟩:=K0 hp hq hn k (by omega)
   rw [Tx]
   refine ⟨?_,by show (if L9 p q n m k < 0 then (1:Int) else 0)=0∨(if L9 p q n m k < 0 then (1:Int) else 0)=1; split; exact .inr rfl; exact .inl rfl⟩
   show 0≤Kl p q n m k / 1000000000∧Kl p q n m k / 1000000000 < 1000000000
   have hx:0≤Kl p q n m k∧Kl p q n m k≤999999999+999999999 * 999999999:=by
    unfold Kl
    by_cases hk:k < m
    ·rw [Ai hk]
     have a1:=BR hn.1 (hq k hk).1
     have a2:n * q k≤999999999 * q k:=Ba (by omega) (hq k hk).1
     have a3:=(hq k hk).2
     constructor <;> omega
    ·rw [Ag hk]; constructor <;> omega
   constructor
   ·exact Int.ediv_nonneg hx.1 (by decide)
   ·omega
theorem Xx {p q:Nat→Int} {n:Int} {m:Nat} (hp:∀ j,j≤m→0≤p j∧p j < 1000000000) (hq:∀ j,j < m→0≤q j∧q j < 1000000000) (hn:0≤n∧n < 1000000000) {k:Nat} (hk:k≤m):0≤Kl p q n m k∧Kl p q n m k≤999999999+999999999 * 999999999∧(k < m→0≤n * q k∧n * q k≤999999999 * 999999999):=by
 obtain ⟨⟨h1,h2⟩,-⟩:=K0 hp hq hn k (by omega)
 unfold Kl
 by_cases hk:k < m
 ·rw [Ai hk]
  have a1:=BR hn.1 (hq k hk).1
  have a2:n * q k≤999999999 * q k:=Ba (by omega) (hq k hk).1
  have a3:=(hq k hk).2
  exact ⟨by omega,by omega,fun _=>⟨a1,by omega⟩⟩
 ·rw [Ag hk]; exact ⟨by omega,by omega,fun h=>absurd h hk⟩
theorem P6 {p q:Nat→Int} {n:Int} {m:Nat} (hp:∀ j,j≤m→0≤p j∧p j < 1000000000) (hq:∀ j,j < m→0≤q j∧q j < 1000000000) (hn:0≤n∧n < 1000000000) {k:Nat} (hk:k≤m):0≤L8 p q n m k∧L8 p q n m k < 1000000000:=by
 obtain ⟨⟨h1,h2⟩,h3⟩:=K0 hp hq hn k (by omega)
 have h4:=hp k hk
 have h5:=WX (Kl p q n m k) (by decide:(1000000000:Int)≠0)
 have h6:=Q2 (Kl p q n m k) (by decide:(0:Int) < 1000000000)
 unfold L8 L9
 split <;> constructor <;> omega
theorem Tv {p q:Nat→Int} {n:Int} {m:Nat}:∀ k,k≤m→vF (L8 p q n m) k=vF p k - n * vF q k+((He p q n m k).1+(He p q n m k).2) * pw k
 | 0,_=>by show (0:Int)=0 - n * 0+(0+0) * 1; omega
 | k+1,h=>by
   have ih:=Tv (p:=p) (q:=q) (n:=n) (m:=m) k (by omega)
   show vF (L8 p q n m) k+L8 p q n m k * pw k=vF p k+p k * pw k - n * (vF q k+q k * pw k)+(Kl p q n m k / 1000000000+(if L9 p q n m k < 0 then 1 else 0)) * (1000000000 * pw k)
   have hx:Kl p q n m k=(He p q n m k).1+n * q k:=by unfold Kl; rw [Ai (by omega)]
   have hd:L8 p q n m k=p k - Kl p q n m k % 1000000000 - (He p q n m k).2+1000000000 * (if L9 p q n m k < 0 then 1 else 0):=by
    unfold L8
    split
    ·unfold L9; omega
    ·unfold L9; omega
   have hm:=GS (Kl p q n m k) 1000000000
   rw [ih,hd]
   generalize (if L9 p q n m k < 0 then (1:Int) else 0)=c
   generalize Kl p q n m k / 1000000000=d at *
   generalize Kl p q n m k % 1000000000=e at *
   generalize (He p q n m k).2=f
   rw [hx] at hm
   generalize (He p q n m k).1=g at *
   have e2:e=g+n * q k - 1000000000 * d:=by omega
   rw [e2]; grind
theorem Tw {p q:Nat→Int} {n:Int} {m:Nat} (hp:∀ j,j≤m→0≤p j∧p j < 1000000000) (hq:∀ j,j < m→0≤q j∧q j < 1000000000) (hn:0≤n∧n < 1000000000):vF (L8 p q n m) (m+1)=vF p (m+1) - n * vF q m+(He p q n m (m+1)).2 * pw (m+1):=by
 have ih:=Tv (p:=p) (q:=q) (n:=n) (m:=m) m (Ah _)
 obtain ⟨⟨h1,h2⟩,h3⟩:=K0 hp hq hn m (by omega)
 have hx:Kl p q n m m=(He p q n m m).1:=by unfold Kl; rw [Ag (JZ _)]; omega
 show vF (L8 p q n m) m+L8 p q n m m * pw m=vF p m+p m * pw m - n * vF q m+(if L9 p q n m m < 0 then 1 else 0) * (1000000000 * pw m)
 have hd:L8 p q n m m=p m - (He p q n m m).1 - (He p q n m m).2+1000000000 * (if L9 p q n m m < 0 then 1 else 0):=by
  unfold L8
  split
  ·unfold L9; rw [hx]; omega
  ·unfold L9; rw [hx]; omega
 rw [ih,hd]; grind
section
variable (p q:Nat→Int)
def PZ (m:Nat):Nat→Int
 | 0=>0
 | k+1=>(PZ m k+p k+(if k < m then q k else 0)) / 1000000000
def Ml (m k:Nat):Int:=PZ p q m k+p k+(if k < m then q k else 0)
def PY (m k:Nat):Int:=Ml p q m k % 1000000000
end
theorem UY (p q:Nat→Int) (m k:Nat):PZ p q m (k+1)=Ml p q m k / 1000000000:=rfl
theorem RP {p q:Nat→Int} {m:Nat} (hp:∀ j,j≤m→0≤p j∧p j < 1000000000) (hq:∀ j,j < m→0≤q j∧q j < 1000000000):∀ k,k≤m+1→PZ p q m k=0∨PZ p q m k=1
 | 0,_=>.inl rfl
 | k+1,h=>by
   have ih:=RP hp hq k (by omega)
   have h1:=hp k (by omega)
   rw [UY]; unfold Ml
   by_cases hk:k < m
   ·have:=hq k hk
    rw [Ai hk]; omega
   ·rw [Ag hk]; omega
theorem QB (p q:Nat→Int) (m k:Nat):0≤PY p q m k∧PY p q m k < 1000000000:=⟨WX _ (by decide),Q2 _ (by decide)⟩
theorem UW {p q:Nat→Int} {m:Nat}:∀ k,k≤m→vF (PY p q m) k+PZ p q m k * pw k=vF p k+vF q k
 | 0,_=>by show (0:Int)+0 * 1=0+0; omega
 | k+1,h=>by
   have ih:=UW (p:=p) (q:=q) (m:=m) k (by omega)
   show vF (PY p q m) k+PY p q m k * pw k+Ml p q m k / 1000000000 * (1000000000 * pw k)=vF p k+p k * pw k+(vF q k+q k * pw k)
   have hx:Ml p q m k=PZ p q m k+p k+q k:=by unfold Ml; rw [Ai (by omega)]
   have hm:=GS (Ml p q m k) 1000000000
   have ho:PY p q m k=Ml p q m k % 1000000000:=rfl
   rw [ho]
   generalize Ml p q m k / 1000000000=d at *
   generalize Ml p q m k % 1000000000=e at *
   have e2:e=PZ p q m k+p k+q k - 1000000000 * d:=by omega
   rw [e2]; grind
theorem UX {p q:Nat→Int} {m:Nat}:vF (PY p q m) (m+1)+PZ p q m (m+1) * pw (m+1)=vF p (m+1)+vF q m:=by
 have ih:=UW (p:=p) (q:=q) (m:=m) m (Ah _)
 have hx:Ml p q m m=PZ p q m m+p m:=by unfold Ml; rw [Ag (JZ _)]; omega
 have hm:=GS (Ml p q m m) 1000000000
 show vF (PY p q m) m+PY p q m m * pw m+Ml p q m m / 1000000000 * (1000000000 * pw m)=vF p m+p m * pw m+vF q m
 have ho:PY p q m m=Ml p q m m % 1000000000:=rfl
 rw [ho]
 generalize Ml p q m m / 1000000000=d at *
 generalize Ml p q m m % 1000000000=e at *
 have e2:e=PZ p q m m+p m - 1000000000 * d:=by omega
 rw [e2]; grind
section
variable (o b:Nat→Int) (d:Int)
def JD:Nat→Int
 | 0=>0
 | k+1=>(JD k+(o k+d * b k)) / 1000000000
def JC (k:Nat):Int:=JD o b d k+(o k+d * b k)
end
theorem TQ (o b:Nat→Int) (d:Int) (k:Nat):JD o b d (k+1)=JC o b d k / 1000000000:=rfl
theorem Rf {o b:Nat→Int} {d:Int} {m:Nat} (ho:∀ j,j < m→0≤o j∧o j < 1000000000) (hb:∀ j,j < m→0≤b j∧b j < 1000000000) (hd:0≤d∧d < 1000000000):∀ k,k≤m→0≤JD o b d k∧JD o b d k < 1000000000
 | 0,_=>⟨Ju 0,(by decide:(0:Int) < 1000000000)⟩
 | k+1,h=>by
   have ih:=Rf ho hb hd k (by omega)
   have h1:=ho k (by omega)
   have h2:=hb k (by omega)
   have a1:=BR hd.1 h2.1
   have a2:d * b k≤999999999 * b k:=Ba (by omega) h2.1
   rw [TQ]; unfold JC
   constructor <;> omega
theorem XB {o b:Nat→Int} {d:Int} {m:Nat} (ho:∀ j,j < m→0≤o j∧o j < 1000000000) (hb:∀ j,j < m→0≤b j∧b j < 1000000000) (hd:0≤d∧d < 1000000000) {k:Nat} (hk:k < m):0≤d * b k∧d * b k≤999999999 * 999999999∧0≤JC o b d k∧JC o b d k≤1000000000 * 1000000000:=by
 have ih:=Rf ho hb hd k (by omega)
 have h1:=ho k hk
 have h2:=hb k hk
 have a1:=BR hd.1 h2.1
 have a2:d * b k≤999999999 * b k:=Ba (by omega) h2.1
 unfold JC
 refine ⟨a1, ?_, ?_, ?_⟩ <;> omega
theorem TP {o b:Nat→Int} {d:Int}:∀ k,vF (fun j=>JC o b d j % 1000000000) k+JD o b d k * pw k=vF o k+d * vF b k
 | 0=>by show (0:Int)+0 * 1=0+d * 0; omega
 | k+1=>by
   have ih:=TP (o:=o) (b:=b) (d:=d) k
   show vF (fun j=>JC o b d j % 1000000000) k+JC o b d k % 1000000000 * pw k+JC o b d k / 1000000000 * (1000000000 * pw k)=vF o k+o k * pw k+d * (vF b k+b k * pw k)
   have hm:=GS (JC o b d k) 1000000000
   have hx:JC o b d k=JD o b d k+(o k+d * b k):=rfl
   generalize JC o b d k / 1000000000=u at *
   generalize JC o b d k % 1000000000=e at *
   have e2:e=JD o b d k+(o k+d * b k) - 1000000000 * u:=by omega
   rw [e2]; grind
abbrev uv:Int→Value:=fun n=>.int .u64 n
theorem HW:(Tryz.prog.info? 224).map (fun i=>(i.zero,i.size,i.bytes))=some (some (.int .u64 0),1,8):=by kernel_rfl
theorem I2 {w:World} {base g n cap k:Nat} {e:TypeId} {xs:List Value} (h:w.ownsRow base e 1 (.slice (some ⟨g,0,none⟩) n cap) n xs) (hk:k≤n):w.ownsRow base e 1 (.slice (some ⟨g,0,none⟩) k cap) k (xs.take k):=by
 have hx:=h.1
 refine ⟨by rw [Av]; omega, ?_⟩
 rcases h.2 with ⟨e1,_⟩ | ⟨g',cap',cur,hv,hb,hc,hn,hm,hs,ht⟩
 ·cases e1
 ·injection hv with e1 e2 e3
  injection e1 with e1
  injection e1 with e1
  subst e1; subst e3
  exact .inr ⟨g,cap,cur,rfl,hb,hc,by omega,hm,hs,by rw [← ht,Yb]; congr 1; omega⟩
theorem DW {w:World} {base:Nat} {v:Value} {l:List Int} (h:w.ownsRow base 224 1 v l.length (l.map uv)):∃ a c,v=.slice a l.length c∧El w uv a l∧l.length≤c∧∀ ad,a=some ad→base≤ad.block:=by
 rcases h.2 with ⟨h1,h2⟩ | ⟨g,cap,cur,hv,_⟩
 ·have:=Bf h2
  subst this
  exact ⟨none,0,h1,.inl rfl,Ah _,fun ad e=>by cases e⟩
 ·subst hv
  obtain ⟨-,h1,h2,h3,h4⟩:=Bo h
  refine ⟨_,_,rfl,.inr ⟨g,0,rfl,h2,fun i x hx=>?_⟩,h3,fun ad e=>by injection e with e; subst e; exact h1⟩
  rw [AN]
  exact (h4 i (uv x) (by rw [At,hx]; rfl)).1
theorem ES {w:World} {base:Nat} {v:Value} {l:List Int} (h:w.ownsRow base 224 1 v l.length (l.map uv)) (h0:l≠[]∨v≠.slice none 0 0):∃ g c,v=.slice (some ⟨g,0,none⟩) l.length c∧base≤g∧l.length≤c∧g < w.heap.size:=by
 rcases h.2 with ⟨h1,h2⟩ | ⟨g,cap,cur,hv,_⟩
 ·rcases h0 with h0 | h0
  ·exact absurd (Bf h2) h0
  ·exact absurd h1 h0
 ·subst hv
  obtain ⟨-,h1,h2,h3,h4⟩:=Bo h
  exact ⟨_,_,rfl,h1,h3,h2⟩
theorem Jj (l:List Int) (a:Option Addr) (cap:Nat) (w:World) (hel:El w uv a l) (hl:l.length≤4000000000) (hc:l.length≤cap) :
 Calls Tryz.prog 175 #[.slice a l.length cap] w fun e w'=>e=.returned (.slice a (BA l).length cap)∧Fr w w':=by
 obtain ⟨n,hn⟩:∃ n,n=l.length:=⟨_,rfl⟩
 rw [← hn] at hl hc
 rw [← hn]
 replace hn:=hZ hn
 go_enter Tryz.func175,Tryz.ntmps175
 go_wp2_with fail
 go_loopg [0] n (fun k s0 wr=>s0=.slice a k cap∧k≤n∧Fr w wr∧Hid (BA (l.take k)=BA l))
 case atStart=>exact ⟨rfl,Ah _,Fr.refl _,by show _=_; rw [Ao (by rw [hn.out]; exact Ah _)]⟩
 case round=>
  obtain ⟨rfl,hle,hf,ht⟩:=hrel
  by_cases hk0:gk=0
  ·subst hk0
   have hlen:Hid ((BA l).length=0):=by show _=_; rw [← ht.out]; rfl
   go_wp2_with fail
   go_ret
   exact ⟨by rw [hlen.out]; rfl,hf⟩
  ·obtain ⟨k,rfl⟩:∃ k,gk=k+1:=⟨gk - 1,by omega⟩
   obtain ⟨b,o,d,rfl,hb,hk,hcell⟩:=(hel.fr hf).at (i:=k) (by have:=hn.out; omega)
   have z0:(0:Int)≤(k:Int):=by omega
   have z1:(k:Int) < (n:Int):=by omega
   have z2:decide ((0:Int) < (k:Int)+1)=true:=Ab (by omega)
   have z3:decide ((0:Int) < ((k+1:Nat):Int))=true:=Ab (by omega)
   have hw1:IntKind.i64.wrap (((k+1:Nat):Int) - 1)=(k:Int):=by rw [show ((k+1:Nat):Int) - 1=(k:Int) by omega]; exact Ak _ (by omega)
   have z7:(k:Int) < ((k+1:Nat):Int):=by omega
   by_cases hd:d=0
   ·have e0:(d == 0)=true:=by rw [hd]; rfl
    have ht2:Hid (BA (l.take k)=BA l):=(Ir hk hd).symm.trans ht.out
    have z4:(k:Int).toNat=k:=by omega
    have z5:(k:Int)≤(cap:Int):=by omega
    replace hk:=hZ hk
    go_wp2_with fail
    go_roundg k
    case measure=>omega
    case rel=>exact ⟨by first | rfl | go_num,by omega,hf,ht2⟩
   ·have e0:(d == 0)=false:=A2 hd
    have hlen:Hid ((BA l).length=k+1):=by show _=_; rw [← ht.out,Is hk hd,Av]; have:=hn.out; omega
    replace hk:=hZ hk
    go_wp2_with fail
    go_ret
    exact ⟨by rw [hlen.out]; rfl,hf⟩
theorem RN (w:World) (l:List UInt8):∃ cap W,(convert 80 177 (.string (tb l))).run Tryz.prog w=.ok (.slice (some ⟨w.heap.size,0,none⟩) l.length cap) W∧Fr w W∧w.heap.size < W.heap.size∧∀ j (h:j < l.length),W.cell? ⟨w.heap.size,j,none⟩=some (.int .u8 (l[j].toNat:Int)):=by
 have h:=run_bytes_of_string (P:=Tryz.prog) w 80 177 5 (tb l) Tryz.underlying80 Tryz.underlying177 Tryz.underlying5
 rw [DU] at h
 refine ⟨_,_,h,(Fr.refl w).drew.alloc _,by simp,fun j hj=>?_⟩
 have e:=World.cell?_alloc_mark w.drew (bytesRow (tb l) (grownCap w l.length 0 5)) 5 ((bytesRow (tb l) (grownCap w l.length 0 5)).size,(bytesRow (tb l) (grownCap w l.length 0 5)).size+1) j
 have hs:w.drew.heap.size=w.heap.size:=by simp
 rw [hs] at e
 rw [e]
 unfold bytesRow
 rw [Array.getElem?_append_left (by simp [tb]; exact hj)]
 simp [tb,hj]
theorem PN (u:Nat) (w:World) (hs:(tx (u:Int)).size≤1000000000) :
 Calls Tryz.prog 173 #[.string (tx (u:Int))] w fun e w'=>∃ v,e=.returned v∧w'.ownsRow w.heap.size 224 1 v (digs u).length ((digs u).map uv)∧v≠.slice none 0 0∧Fr w w':=by
 obtain ⟨i0,hi,hz0,hz1,hz2⟩:=AZ HW
 have h0:tx (u:Int)=tb (decDigits u):=by rw [Id,BV (by omega),AR]
 rw [h0,DU] at hs
 rw [h0]
 obtain ⟨L,hL⟩:∃ L,L=decDigits u:=⟨_,rfl⟩
 rw [← hL] at hs
 rw [← hL]
 obtain ⟨N,hN⟩:∃ N,N=L.length:=⟨_,rfl⟩
 rw [← hN] at hs
 have hT0:Hid (Kr u (L.take N) []):=.inr ⟨u,by rw [hN,Kx,hL],rfl⟩
 have hSz:(tb L).size=N:=by rw [DU,hN]
 have hex:Hid (∀ q e,(tb L).extract q e=tb ((L.take e).drop q)):=fun q e=>K4 L q e
 replace hN:=hZ hN
 replace hL:=hZ hL
 clear h0
 obtain ⟨S,hS⟩:∃ S,S=tb L:=⟨_,rfl⟩
 rw [← hS] at hex hSz
 rw [← hS]
 replace hS:=hZ hS
 have k9:IntKind.i64.wrap ((N:Int).tdiv 9)=((N / 9:Nat):Int):=by rw [show (N:Int).tdiv 9=((N / 9:Nat):Int) by rw [Dq (by omega)]; omega]; exact Ak _ (by omega)
 go_enter Tryz.func173,Tryz.ntmps173
 go_wp2_with (at_make; refine Ew _ rfl _ _ 229 rfl w.heap.size 224 i0 _ 1 Tryz.underlying229 hi hz0 hz1 _ _ _ (N / 9+1) (by rfl) (by rfl) (by first | omega | go_num) (by rw [hz2]; omega) (by unfold maxLen; omega) (Ah _) ?_; intro w2 hown2 hgr2)
 have hf2:Fr w w2:=(Fr.refl w).grown hgr2 (fun k e=>by cases e)
 replace hown2:=hZ hown2
 clear hgr2
 go_loopg [3,4] N (fun gk s3 s4 wr=>∃ (e i:Nat) (ei:Int) (out:List Int),s4=.int .i64 ei∧(ei=e∨e=0∧-9≤ei∧ei≤0)∧e≤gk∧i+e≤N∧Fr w wr∧Hid (wr.ownsRow w.heap.size 224 1 s3 i (out.map uv))∧Hid (out.length=i)∧Hid (s3≠.slice none 0 0)∧Hid (Kr u (L.take e) out))
 case atStart=>exact ⟨N,0,N,[],rfl,.inl rfl,by omega,by omega,hf2,hZ (by simpa using hown2.out),rfl,(by intro e; cases e),hT0.out⟩
 case round=>
  clear hown2 hf2 hT0
  obtain ⟨e,i,ei,out,rfl,hei,hek,hie,hf,hown,hol,hnn,hTs⟩:=hrel
  obtain ⟨ko,rfl⟩:∃ ko:Nat,ko=gk:=⟨_,rfl⟩
  by_cases he0:e=0
  ·subst he0
   have dz:decide ((0:Int) < ei)=false:=Aa (by omega)
   have hch:out=C0 u:=by
    rcases hTs.out with ⟨_,h⟩ | ⟨m',h,_⟩
    ·exact h
    ·exact absurd (by rw [N9] at h; exact h.symm) (EY m')
   subst hch
   have hown9:=hown.out
   rw [← hol.out] at hown9
   obtain ⟨a9,c9,rfl,he9,hc9,-⟩:=DW hown9
   have htr:=hZ (Jj (C0 u) a9 c9 wr he9 (by rw [hol.out]; omega) hc9)
   have hq:Hid (BA (C0 u)=digs u):=Kk u
   obtain ⟨hle1,hle⟩:=BS (C0 u)
   rw [hq.out] at htr hle hle1
   obtain ⟨g9,rfl⟩:∃ g9,a9=some ⟨g9,0,none⟩:=by
    rcases ES hown9 (.inr hnn.out) with ⟨g,c,h,-⟩
    injection h with h
    exact ⟨g,h⟩
   have hE:=I2 hown9 hle
   rw [← Y3,← hle1] at hE
   replace hE:=hZ hE
   clear hown9 he9 hle1
   go_wp2_with fail
   refine htr.out.mono ?_
   rintro e w3 ⟨rfl,hf3⟩
   go_wp2_with fail
   go_ret
   exact ⟨_,rfl,Bg hE.out hf3,(by intro e; injection e with e; cases e),hf.trans hf3⟩
  ·obtain rfl:ei=e:=by omega
   clear hei
   obtain ⟨m',hm,hch⟩:∃ m',L.take e=decDigits m'∧out ++ C0 m'=C0 u:=by
    rcases hTs.out with ⟨h,_⟩ | h
    ·have:=congrArg List.length h
     rw [Av,← hN.out] at this
     simp at this; omega
    ·exact h
   obtain ⟨q,r,T1,T2,hT,hq,hr,r1,r9,hb1,hb2,hd,hv,hTs2⟩:=Kr.step hch
   have hTe:L.take e=T1 ++ T2:=hm.trans hT
   have hqr:q+r=e:=by
    have:=congrArg List.length hTe
    rw [Av,Ar,← hN.out,hq,hr] at this
    omega
   have hT1:T1=L.take q:=by
    have h:=congrArg (List.take q) hTe
    rw [Yb,List.take_append_of_le_length (Nat.le_of_eq hq.symm),Ao (l:=T1) (Nat.le_of_eq hq),show min q e=q by omega] at h
    exact h.symm
   have hT2:Hid (S.extract q e=tb T2):=by
    show _=_
    rw [hex.out,hTe,← hq,List.drop_left]
   rw [hT1] at hTs2
   have hdg:Hid (∀ (j:Nat) (hj:j < r),∃ c:UInt8,(∀ h:j < T2.length,T2[j]'h=c)∧48≤c.toNat∧c.toNat≤57∧Bh 0 (T2.take (j+1))=10 * Bh 0 (T2.take j)+(c.toNat - 48)∧Bh 0 (T2.take j) < 1000000000):=fun j hj=>by
    obtain ⟨h1,h2,h3,h4⟩:=M0 T2 hd hv j (by omega)
    exact ⟨T2[j]'(by omega),fun h=>rfl,h1,h2,h3,h4⟩
   have hdv:Hid (Bh 0 (T2.take r) < 1000000000):=by show _ < _; rw [Ao (by omega)]; exact hv
   have hTs:Hid (Kr u (L.take q) (out ++ [(Bh 0 (T2.take r):Int)])):=by show Kr _ _ _; rw [Ao (l:=T2) (by omega)]; exact hTs2
   obtain ⟨wo,rfl⟩:∃ wo:World,wo=wr:=⟨_,rfl⟩
   obtain ⟨cap5,W5,hcv,hf5,hz5,hc5⟩:=RN wo T2
   rw [hr] at hcv
   replace hc5:=hZ hc5
   have z0:decide ((0:Int) < (e:Int))=true:=Ab (by omega)
   have kq:IntKind.i64.wrap ((e:Int) - 9)=(e:Int) - 9:=Ak _ (by omega)
   have kmax:max (0:Int) ((e:Int) - 9)=(q:Int):=by
    by_cases h9:9 < q+r
    ·have:=hb1 h9; omega
    ·have:=hb2 (by omega); omega
   have zq:(q:Int)≤(e:Int):=by omega
   have zeN:(e:Int)≤(N:Int):=by omega
   have zeS:(e:Int)≤(S.size:Int):=by omega
   replace hT1:=hZ hT1
   replace hTe:=hZ hTe
   replace hm:=hZ hm
   replace hT:=hZ hT
   replace hch:=hZ hch
   replace hq:=hZ hq
   replace hr:=hZ hr
   replace hd:=hZ hd
   replace hv:=hZ hv
   replace hTs2:=hZ hTs2
   replace hb1:=hZ hb1
   replace hb2:=hZ hb2
   have hT2x:=hT2.out
   go_wp2_with fail
   go_loopg [5,27] r (fun k s5 s27 wr2=>∃ j:Nat,s27=.int .i64 j∧s5=.int .u64 (Bh 0 (T2.take j):Nat)∧j+k=r∧wr2=W5)
   case atStart=>exact ⟨0,rfl,rfl,by omega,rfl⟩
   case round=>
    obtain ⟨j,rfl,rfl,hjk,rfl⟩:=hrel
    by_cases hj:j < r
    ·obtain ⟨c,hcE,hc1,hc2,hcv2,hcb⟩:=hdg.out j hj
     have dj:decide ((j:Int) < (r:Int))=true:=Ab (by omega)
     have cj:wr.cell? ⟨wo.heap.size,j,none⟩=some (.int .u8 (c.toNat:Int)):=by
      have:=hc5.out j (by rw [hr.out]; exact hj)
      rw [hcE] at this; exact this
     have y0:(0:Int)≤(j:Int):=by omega
     have y1:(j:Int) < (r:Int):=by omega
     have hu:IntKind.u8.wrap ((c.toNat:Int) - 48)=(c.toNat:Int) - 48:=P2 _ (by omega)
     have hu2:IntKind.u64.wrap ((c.toNat:Int) - 48)=(c.toNat:Int) - 48:=AH _ (by omega)
     have kj:IntKind.i64.wrap ((j:Int)+1)=(j:Int)+1:=Ak _ (by omega)
     generalize Bh 0 (T2.take j)=V at *
     have hw9:IntKind.u64.wrap (10 * (V:Int))=10 * (V:Int):=AH _ (by omega)
     have hw8:IntKind.u64.wrap (10 * (V:Int)+((c.toNat:Int) - 48))=10 * (V:Int)+((c.toNat:Int) - 48):=AH _ (by omega)
     go_wp2_with fail
     go_roundg (gk - 1)
     case measure=>omega
     case rel=>exact ⟨j+1,by go_num,by rw [hcv2]; exact congrArg (Value.int IntKind.u64) (by omega),by omega,rfl⟩
    ·obtain rfl:j=r:=by omega
     have dj:decide ((j:Int) < (j:Int))=false:=Aa (by omega)
     have hV9:=hdv.out
     generalize Bh 0 (T2.take j)=V at *
     have hownG:=Bg hown.out hf5
     go_wp2_with (at_builtin; refine wpList_append_lies _ rfl _ _ 229 (by rfl) _ 224 _ _ 1 8 Tryz.underlying229 hi hz0 hz1 hz2 rfl (by decide) _ i _ (by rfl) (Az hownG _) ⟨wr.heap.size,0,none⟩ 1 1 [.int .u64 V] (by rfl) rfl (AK _ _ _ _ (by simp)) (by simp [Value.oneCell']) (by decide) (by unfold maxLen; omega) (by omega) (by have:=(hf.trans hf5).size; simp; omega) (wr.heap.size+1) (by simp) ?_; intro gA capA wA hownA hgrowA hatA hltA)
     go_wp2_with fail
     go_roundg (ko - 1)
     case measure=>omega
     case rel=>exact ⟨q,i+1,(e:Int) - 9,out ++ [(V:Int)],by first | rfl | (rw [kq]),by (by_cases h9:9 < q+j; have:=hb1.out h9; omega; have:=hb2.out (by omega); omega),by omega,by omega,((hf.trans hf5).alloc _).grown hgrowA (fun k e=>(hownG.lt k e).1),by show World.ownsRow _ _ _ _ _ _ _; rw [Ay]; exact hownA,by show _=_; rw [Ar,hol.out]; rfl,(by intro e; injection e with e; cases e),hTs.out⟩
end Go.Proofs.YtiniigadkknboaaGreatDoor
