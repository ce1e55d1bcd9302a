/- Contracts and laws: ANA. -/
import Derived.Test.YtklpnlbmdknjeaaGreatDoorAE
import Derived.Test.YtklpnlbmdknjeaaGreatDoorAL
import Derived.Test.YtklpnlbmdknjeaaGreatDoorAD

set_option maxRecDepth 100000
set_option maxHeartbeats 2000000
namespace Go.Proofs.YtklpnlbmdknjeaaGreatDoor
open Go.RowKit Go.Lib
attribute [local go_sem ↓] Go.wp_at_zero Go.wp_at_succ
def BackRetA (w:World) (xs:List Int) (e:Ending) (w':World):Prop:=(xs.all fitB=true→BackRet w xs e w')∧(xs.all fitB=false→e=.returned (.tuple #[.slice none 0 0,.bool false])∧Fr w w')
theorem NBack_any (xs:List Int) (a:Option Addr) (cap:Nat) (w:World) (hG:G w) (hx:El w sv a xs) (hl:xs.length≤1000000) (hb:∀ x,x ∈ xs→-9223372036854775808≤x∧x≤9223372036854775807) :
 Calls Tryz.prog 43 #[.slice a xs.length cap] w (BackRetA w xs):=by
 have hgn:=gN_le hG
 obtain ⟨i1,ji,jz0,jz1,jz2⟩:=info_parts infoInt
 obtain ⟨n,hn⟩:∃ n,n=xs.length:=⟨_,rfl⟩
 rw [← hn] at hl ⊢
 replace hn:=hZ hn
 replace hx:=hZ hx
 replace hb:=hZ hb
 replace hG:=hZ hG
 go_enter Tryz.func43,Tryz.ntmps43
 go_wp2_with fail
 have hf0:Fr w (w.alloc (.cells #[] 3)):=(Fr.refl w).alloc _
 have hown0:=World.ownsRow_lit (base:=w.heap.size) (e:=3) (size:=1) w #[] 0 (Nat.le_refl _) (by decide) rfl
 go_loopg [4,12] n (fun k s4 s12 wr=>∃ i:Nat,s12=.int .i64 i∧i+k=n∧Fr w wr∧Hid (wr.ownsRow w.heap.size 3 1 s4 i ((xs.take i).map iv))∧Hid (s4≠.slice none 0 0)∧Hid ((xs.take i).all fitB=true))
 case atStart=>exact ⟨0,rfl,by omega,hf0,hown0,fun e=>(by injection e with e; cases e),rfl⟩
 case round=>
  clear hf0 hown0
  obtain ⟨i,rfl,hik,hf,hown,hne,hfit⟩:=hrel
  by_cases hi:i < n
  ·have hdI:decide (i < n)=true:=decide_eq_true hi
   obtain ⟨b,o,x,rfl,hbl,hxi,hcell⟩:=(hx.out.fr hf).at (i:=i) (by rw [← hn.out]; exact hi)
   obtain ⟨x1,x2⟩:=hb.out x (List.mem_of_getElem? hxi)
   have htk:=take_snoc hxi
   have hmem:x ∈ xs:=List.mem_of_getElem? hxi
   replace hxi:=hZ hxi
   have z0:(0:Int)≤(i:Int):=Int.natCast_nonneg _
   have z1:(i:Int) < (n:Int):=by omega
   by_cases hfx:-1000000000≤x∧x≤1000000000
   ·have hsn:Hid ((xs.take (i+1)).map iv=(xs.take i).map iv ++ [iv x]):=hZ (by rw [htk,List.map_append]; rfl)
    have hft:Hid ((xs.take (i+1)).all fitB=true):=hZ (by
     have h1:fitB x=true:=decide_eq_true hfx
     rw [htk,List.all_append,hfit.out]; simp [h1])
    have d1:decide ((1000000000:Int) < x)=false:=decide_eq_false (by omega)
    have d2:decide (x < (-1000000000:Int))=false:=decide_eq_false (by omega)
    clear htk hmem
    go_wp2_with fail
    refine (Small_ok _ (by omega) (by omega) _).mono ?_
    rintro e w1 ⟨rfl,hf1⟩
    have hownG:=ownsRow_fr hown.out hf1
    have hz7:=hf.size
    have hz8:=hf1.size
    go_wp2_with (at_builtin; refine wpList_append_lies _ rfl _ _ 44 (by rfl) _ 3 _ _ 1 8 Tryz.underlying44 ji jz0 jz1 jz2 rfl (by decide) _ i _ (by rfl) (World.ownsRow.alloc hownG _) ⟨w1.heap.size,0,none⟩ 1 1 [.int .i64 x] (by rfl) rfl (cell_one_newN _ _ _ _ (by simp)) (by simp [Value.oneCell']) (by decide) (by unfold maxLen; omega) (by omega) (by skip; simp; omega) (w1.heap.size+1) (by simp) ?_; intro gA capA wA hownA hgrowA hatA hltA)
    go_wp2_with fail
    go_roundg (gk - 1)
    case measure=>omega
    case rel=>exact ⟨i+1,by go_num,by omega,((hf.trans hf1).alloc _).grown hgrowA (fun k e=>(hown.out.lt k e).1),by show _; rw [hsn.out]; exact hownA,fun e=>(by injection e with e; cases e),hft.out⟩
   ·have hbad:Hid (xs.all fitB=false):=hZ (List.all_eq_false.2 ⟨x,hmem,by unfold fitB; rw [decide_eq_false hfx]; simp⟩)
    clear htk hmem
    by_cases hgt:(1000000000:Int) < x
    ·have d1:decide ((1000000000:Int) < x)=true:=decide_eq_true hgt
     clear hfx
     go_wp2_with fail
     refine (Small_ok _ (by omega) (by omega) _).mono ?_
     rintro e w1 ⟨rfl,hf1⟩
     go_wp2_with fail
     go_ret2
     exact ⟨fun h=>(by rw [hbad.out] at h; cases h),fun _=>⟨rfl,hf.trans hf1⟩⟩
    ·have d1:decide ((1000000000:Int) < x)=false:=decide_eq_false hgt
     have d2:decide (x < (-1000000000:Int))=true:=decide_eq_true (by omega)
     clear hfx
     go_wp2_with fail
     refine (Small_ok _ (by omega) (by omega) _).mono ?_
     rintro e w1 ⟨rfl,hf1⟩
     go_wp2_with fail
     go_ret2
     exact ⟨fun h=>(by rw [hbad.out] at h; cases h),fun _=>⟨rfl,hf.trans hf1⟩⟩
  ·have hdI:decide (i < n)=false:=decide_eq_false hi
   obtain rfl:n=i:=by omega
   have hown9:=hown.out
   rw [List.take_of_length_le (by rw [← hn.out]; exact Nat.le_refl _)] at hown9
   replace hown9:=hZ hown9
   have hft:=hfit.out
   rw [List.take_of_length_le (by rw [← hn.out]; exact Nat.le_refl _)] at hft
   replace hft:=hZ hft
   go_wp2_with fail
   go_ret2
   exact ⟨fun _=>⟨_,rfl,by rw [← hn.out]; exact hown9.out,hne.out,hf⟩,fun h=>(by rw [hft.out] at h; cases h)⟩
def rdT (RA:List (List Int)) (cs s0:List Int):Nat→List Int
 | 0=>s0
 | i+1=>List.zipWith (fun a x=>a+(cs[i]?).getD 0 * x) (rdT RA cs s0 i) (rowAt RA i)
instance decTi (n:Int):Decidable (Ti n):=by unfold Ti; infer_instance
instance decSm (n:Int):Decidable (Sm n):=by unfold Sm; infer_instance
theorem rdT_len {RA:List (List Int)} {cs s0:List Int} {d:Nat} (hs:s0.length=d) (hr:∀ i,i < d→(rowAt RA i).length=d):∀ i,i≤d→(rdT RA cs s0 i).length=d
 | 0,_=>hs
 | i+1,h=>by
   rw [rdT,List.length_zipWith,rdT_len hs hr i (by omega),hr i (by omega)]
   omega
end Go.Proofs.YtklpnlbmdknjeaaGreatDoor
