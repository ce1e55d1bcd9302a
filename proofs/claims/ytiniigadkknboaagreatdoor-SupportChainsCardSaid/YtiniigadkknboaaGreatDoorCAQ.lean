/- Contracts and laws: CAQ. -/
import Derived.Test.YtiniigadkknboaaGreatDoorCAP
import Derived.Test.YtiniigadkknboaaGreatDoorCAH
import Derived.Test.YtiniigadkknboaaGreatDoorCAL

set_option maxRecDepth 100000
set_option maxHeartbeats 16000000
namespace Go.Proofs.YtiniigadkknboaaGreatDoor
open Go.RowKit Go.Lib
attribute [local go_sem ↓] Go.wp_at_zero Go.wp_at_succ
theorem split_any (n:Int) (w:World) (hs:(tx n).size≤1000000000) :
 Calls Tryz.prog 144 #[.string (tx n)] w fun e w'=>e=.returned (.tuple #[.bool (decide (n < 0)),.string (tx (n.natAbs:Int))])∧Fr w w':=by
 by_cases h:n < 0
 ·rw [decide_eq_true h,show (n.natAbs:Int)=-n by omega]; exact split_ng n h w hs
 ·rw [decide_eq_false h,show (n.natAbs:Int)=n by omega]; exact split_nn n (by omega) w hs
theorem Bn.int18 {n:Int} (h:(tx n).size≤18):-1000000000000000000 < n∧n < 1000000000000000000:=by
 have h1:(tx (n.natAbs:Int)).size≤18:=by
  by_cases h0:n < 0
  ·have:=tx_neg_size n h0
   rw [show (n.natAbs:Int)=-n by omega]; omega
  ·rw [show (n.natAbs:Int)=n by omega]; exact h
 exact sm_of_size h1
theorem wl_or (n:Int) (m:Nat) (hm:m≤18) (hb:(tx n).size≤1000000000):∃ (v:Int) (b:Bool),(b=true→v=n∧-1000000000000000000 < n∧n < 1000000000000000000∧(tx n).size≤m)∧(b=true∨b=false)∧Hid (∀ W,Calls Tryz.prog 143 #[.string (tx n),.int .i64 m] W fun e w'=>e=.returned (.tuple #[.int .i64 v,.bool b])∧Fr W w'):=by
 by_cases h:(tx n).size≤m
 ·have h1:=Bn.int18 (n:=n) (by omega)
  exact ⟨n,true,fun _=>⟨rfl,h1.1,h1.2,h⟩,.inl rfl,fun W=>little_ok n m (by omega) (by omega) W (by omega)⟩
 ·exact ⟨0,false,fun e=>(by cases e),.inr rfl,fun W=>(little_no n m W (by omega) hb).mono fun e w' h=>⟨h.1,Fr.of_eq h.2⟩⟩
theorem WAddG (k:Nat) (hk:k≤90000000) (a b:Int) (ha:Bn k a) (hb:Bn k b) (w:World) (hG:G w) :
 Calls Tryz.prog 94 #[.string (tx a),.string (tx b)] w fun e w'=>e=.returned (.string (tx (a+b)))∧Fr w w':=by
 have sa:=ha.size
 have sb:=hb.size
 have sa2:=ha.size2
 have sb2:=hb.size2
 have sab:=(ha.add hb).size2
 obtain ⟨va,ba,hva,hba,hla⟩:=wl_or a 18 (by omega) (by omega)
 obtain ⟨vb,bb,hvb,hbb,hlb⟩:=wl_or b 18 (by omega) (by omega)
 have hsa:=hZ (fun W=>split_any a W (by omega))
 have hsb:=hZ (fun W=>split_any b W (by omega))
 by_cases hboth:ba=true∧bb=true
 ·obtain ⟨rfl,rfl⟩:=hboth
  obtain ⟨rfl,a1,a2,-⟩:=hva rfl
  obtain ⟨rfl,b1,b2,-⟩:=hvb rfl
  clear hva hvb hba hbb hsa hsb ha hb sa sb sa2 sb2 sab
  have kw:IntKind.i64.wrap (va+vb)=va+vb:=IntWalk.i64_in _ (by omega)
  have ho:=hZ (fun W (hW:Fr w W)=>Of_any (va+vb) (by omega) (by omega) W (hG.fr hW))
  go_enter Tryz.func94,Tryz.ntmps94
  go_wp2_with fail
  refine (hla.out _).mono ?_
  rintro e w1 ⟨rfl,hf1⟩
  go_wp2_with fail
  refine (hlb.out _).mono ?_
  rintro e w2 ⟨rfl,hf2⟩
  have h9:=hZ (ho.out w2 (hf1.trans hf2))
  go_wp2_with fail
  refine h9.out.mono ?_
  rintro e w3 ⟨rfl,hf3⟩
  go_wp2_with fail
  go_ret
  exact ⟨rfl,(hf1.trans hf2).trans hf3⟩
 ·have hbb2:ba=false∨(ba=true∧bb=false):=by
   rcases hba with rfl | rfl
   ·rcases hbb with rfl | rfl
    ·exact absurd ⟨rfl,rfl⟩ hboth
    ·exact .inr ⟨rfl,rfl⟩
   ·exact .inl rfl
  clear hva hvb hba hbb hboth
  obtain ⟨x,hx⟩:∃ x,x=a.natAbs:=⟨_,rfl⟩
  obtain ⟨y,hy⟩:∃ y,y=b.natAbs:=⟨_,rfl⟩
  rw [← hx] at hsa sa
  rw [← hy] at hsb sb
  by_cases hsg:(a < 0 ↔ b < 0)
  ·have hda:=hZ (fun W (hW:Fr w W)=>DAddG x y (by omega) (by omega) W (hG.fr hW))
   have hres:(if decide (a < 0)=true then -((x+y:Nat):Int) else ((x+y:Nat):Int))=a+b:=by
    by_cases h0:a < 0
    ·have:=hsg.1 h0
     rw [if_pos (decide_eq_true h0)]; omega
    ·have:¬ b < 0:=fun h=>h0 (hsg.2 h)
     rw [if_neg (by rw [decide_eq_false h0]; decide)]; omega
   have hjn:=hZ (fun W=>by
    have h:=join_any (decide (a < 0)) ((x+y:Nat):Int) (Int.natCast_nonneg _) W (by
     have h1:((x+y:Nat):Int)=((a+b).natAbs:Int):=by
      by_cases h0:a < 0
      ·have:=hsg.1 h0; omega
      ·have:¬ b < 0:=fun h=>h0 (hsg.2 h)
       omega
     rw [h1]; have:=(ha.add hb).size; omega)
    rw [hres] at h
    exact h)
   clear hres
   have hde:decide (a < 0)=decide (b < 0):=by
    by_cases h0:a < 0
    ·rw [decide_eq_true h0,decide_eq_true (hsg.1 h0)]
    ·rw [decide_eq_false h0,decide_eq_false (fun h=>h0 (hsg.2 h))]
   rw [← hde] at hsb
   have hee:(decide (a < 0) == decide (a < 0))=true:=by simp
   generalize decide (a < 0)=sg at *
   replace hx:=hZ hx
   replace hy:=hZ hy
   replace hde:=hZ hde
   replace hsg:=hZ hsg
   rcases hbb2 with rfl | ⟨rfl,rfl⟩
   ·go_enter Tryz.func94,Tryz.ntmps94
    go_wp2_with fail
    refine (hla.out _).mono ?_
    rintro e w1 ⟨rfl,hf1⟩
    go_wp2_with fail
    refine (hsa.out _).mono ?_
    rintro e w3 ⟨rfl,hf3⟩
    go_wp2_with fail
    refine (hsb.out _).mono ?_
    rintro e w4 ⟨rfl,hf4⟩
    have hfw:=(hf1.trans hf3).trans hf4
    have h9:=hZ (hda.out w4 hfw)
    go_wp2_with fail
    refine h9.out.mono ?_
    rintro e w5 ⟨rfl,hf5⟩
    have h8:=hZ (hjn.out w5)
    go_wp2_with fail
    refine h8.out.mono ?_
    rintro e w6 ⟨rfl,rfl⟩
    go_wp2_with fail
    go_ret
    exact ⟨rfl,hfw.trans hf5⟩
   ·go_enter Tryz.func94,Tryz.ntmps94
    go_wp2_with fail
    refine (hla.out _).mono ?_
    rintro e w1 ⟨rfl,hf1⟩
    go_wp2_with fail
    refine (hlb.out _).mono ?_
    rintro e w2 ⟨rfl,hf2⟩
    go_wp2_with fail
    refine (hsa.out _).mono ?_
    rintro e w3 ⟨rfl,hf3⟩
    go_wp2_with fail
    refine (hsb.out _).mono ?_
    rintro e w4 ⟨rfl,hf4⟩
    have hfw:=((hf1.trans hf2).trans hf3).trans hf4
    have h9:=hZ (hda.out w4 hfw)
    go_wp2_with fail
    refine h9.out.mono ?_
    rintro e w5 ⟨rfl,hf5⟩
    have h8:=hZ (hjn.out w5)
    go_wp2_with fail
    refine h8.out.mono ?_
    rintro e w6 ⟨rfl,rfl⟩
    go_wp2_with fail
    go_ret
    exact ⟨rfl,hfw.trans hf5⟩
  ·have hne:(decide (a < 0) == decide (b < 0))=false:=by
    by_cases h0:a < 0
    ·have:¬ b < 0:=fun h=>hsg ⟨fun _=>h,fun _=>h0⟩
     rw [decide_eq_true h0,decide_eq_false this]; rfl
    ·have:b < 0:=Decidable.byContradiction fun h=>hsg ⟨fun h1=>absurd h1 h0,fun h1=>absurd h1 h⟩
     rw [decide_eq_false h0,decide_eq_true this]; rfl
   have hopp:(a < 0∧¬ b < 0)∨(¬ a < 0∧b < 0):=by
    by_cases h0:a < 0
    ·exact .inl ⟨h0,fun h=>hsg ⟨fun _=>h,fun _=>h0⟩⟩
    ·exact .inr ⟨h0,Decidable.byContradiction fun h=>hsg ⟨fun h1=>absurd h1 h0,fun h1=>absurd h1 h⟩⟩
   clear hsg
   by_cases hxy:x < y
   ·have hcm:=hZ (fun W=>by
     have h:=cmp_nat x y W (by have:=tx_size_nat x; omega) (by have:=tx_size_nat y; omega)
     rw [show cmpI (x:Int) (y:Int)=-1 by unfold cmpI; rw [if_pos (by omega)]] at h
     exact h)
    have hds:=hZ (fun W (hW:Fr w W)=>DSubG y x (by omega) (by omega) W (hG.fr hW))
    have hres:(if decide (b < 0)=true then -((y - x:Nat):Int) else ((y - x:Nat):Int))=a+b:=by
     by_cases h0:b < 0
     ·rw [if_pos (decide_eq_true h0)]; omega
     ·rw [if_neg (by rw [decide_eq_false h0]; decide)]; omega
    have hjn:=hZ (fun W=>by
     have h:=join_any (decide (b < 0)) ((y - x:Nat):Int) (Int.natCast_nonneg _) W (by have:=size_mono (Nat.sub_le y x); omega)
     rw [hres] at h
     exact h)
    clear hres hopp
    generalize y - x=z at *
    generalize decide (a < 0)=s1 at *
    generalize decide (b < 0)=s2 at *
    replace hx:=hZ hx
    replace hy:=hZ hy
    rcases hbb2 with rfl | ⟨rfl,rfl⟩
    ·go_enter Tryz.func94,Tryz.ntmps94
     go_wp2_with fail
     refine (hla.out _).mono ?_
     rintro e w1 ⟨rfl,hf1⟩
     go_wp2_with fail
     refine (hsa.out _).mono ?_
     rintro e w3 ⟨rfl,hf3⟩
     go_wp2_with fail
     refine (hsb.out _).mono ?_
     rintro e w4 ⟨rfl,hf4⟩
     have hfw:=(hf1.trans hf3).trans hf4
     have h9:=hZ (hcm.out w4)
     go_wp2_with fail
     refine h9.out.mono ?_
     rintro e w5 ⟨rfl,rfl⟩
     have h8:=hZ (hds.out _ hfw)
     go_wp2_with fail
     refine h8.out.mono ?_
     rintro e w6 ⟨rfl,hf6⟩
     have h7:=hZ (hjn.out w6)
     go_wp2_with fail
     refine h7.out.mono ?_
     rintro e w7 ⟨rfl,rfl⟩
     go_wp2_with fail
     go_ret
     exact ⟨rfl,hfw.trans hf6⟩
    ·go_enter Tryz.func94,Tryz.ntmps94
     go_wp2_with fail
     refine (hla.out _).mono ?_
     rintro e w1 ⟨rfl,hf1⟩
     go_wp2_with fail
     refine (hlb.out _).mono ?_
     rintro e w2 ⟨rfl,hf2⟩
     go_wp2_with fail
     refine (hsa.out _).mono ?_
     rintro e w3 ⟨rfl,hf3⟩
     go_wp2_with fail
     refine (hsb.out _).mono ?_
     rintro e w4 ⟨rfl,hf4⟩
     have hfw:=((hf1.trans hf2).trans hf3).trans hf4
     have h9:=hZ (hcm.out w4)
     go_wp2_with fail
     refine h9.out.mono ?_
     rintro e w5 ⟨rfl,rfl⟩
     have h8:=hZ (hds.out _ hfw)
     go_wp2_with fail
     refine h8.out.mono ?_
     rintro e w6 ⟨rfl,hf6⟩
     have h7:=hZ (hjn.out w6)
     go_wp2_with fail
     refine h7.out.mono ?_
     rintro e w7 ⟨rfl,rfl⟩
     go_wp2_with fail
     go_ret
     exact ⟨rfl,hfw.trans hf6⟩
   ·have hc0:0≤cmpI (x:Int) (y:Int):=by unfold cmpI; rw [if_neg (by omega)]; split <;> omega
    have hcm:=hZ (fun W=>cmp_nat x y W (by have:=tx_size_nat x; omega) (by have:=tx_size_nat y; omega))
    generalize cmpI (x:Int) (y:Int)=cm at *
    have dc:decide (cm < 0)=false:=decide_eq_false (by omega)
    have hds:=hZ (fun W (hW:Fr w W)=>DSubG x y (by omega) (by omega) W (hG.fr hW))
    have hres:(if decide (a < 0)=true then -((x - y:Nat):Int) else ((x - y:Nat):Int))=a+b:=by
     by_cases h0:a < 0
     ·rw [if_pos (decide_eq_true h0)]; omega
     ·rw [if_neg (by rw [decide_eq_false h0]; decide)]; omega
    have hjn:=hZ (fun W=>by
     have h:=join_any (decide (a < 0)) ((x - y:Nat):Int) (Int.natCast_nonneg _) W (by have:=size_mono (Nat.sub_le x y); omega)
     rw [hres] at h
     exact h)
    clear hres hopp
    generalize x - y=z at *
    generalize decide (a < 0)=s1 at *
    generalize decide (b < 0)=s2 at *
    replace hx:=hZ hx
    replace hy:=hZ hy
    rcases hbb2 with rfl | ⟨rfl,rfl⟩
    ·go_enter Tryz.func94,Tryz.ntmps94
     go_wp2_with fail
     refine (hla.out _).mono ?_
     rintro e w1 ⟨rfl,hf1⟩
     go_wp2_with fail
     refine (hsa.out _).mono ?_
     rintro e w3 ⟨rfl,hf3⟩
     go_wp2_with fail
     refine (hsb.out _).mono ?_
     rintro e w4 ⟨rfl,hf4⟩
     have hfw:=(hf1.trans hf3).trans hf4
     have h9:=hZ (hcm.out w4)
     go_wp2_with fail
     refine h9.out.mono ?_
     rintro e w5 ⟨rfl,rfl⟩
     have h8:=hZ (hds.out _ hfw)
     go_wp2_with fail
     refine h8.out.mono ?_
     rintro e w6 ⟨rfl,hf6⟩
     have h7:=hZ (hjn.out w6)
     go_wp2_with fail
     refine h7.out.mono ?_
     rintro e w7 ⟨rfl,rfl⟩
     go_wp2_with fail
     go_ret
     exact ⟨rfl,hfw.trans hf6⟩
    ·go_enter Tryz.func94,Tryz.ntmps94
     go_wp2_with fail
     refine (hla.out _).mono ?_
     rintro e w1 ⟨rfl,hf1⟩
     go_wp2_with fail
     refine (hlb.out _).mono ?_
     rintro e w2 ⟨rfl,hf2⟩
     go_wp2_with fail
     refine (hsa.out _).mono ?_
     rintro e w3 ⟨rfl,hf3⟩
     go_wp2_with fail
     refine (hsb.out _).mono ?_
     rintro e w4 ⟨rfl,hf4⟩
     have hfw:=((hf1.trans hf2).trans hf3).trans hf4
     have h9:=hZ (hcm.out w4)
     go_wp2_with fail
     refine h9.out.mono ?_
     rintro e w5 ⟨rfl,rfl⟩
     have h8:=hZ (hds.out _ hfw)
     go_wp2_with fail
     refine h8.out.mono ?_
     rintro e w6 ⟨rfl,hf6⟩
     have h7:=hZ (hjn.out w6)
     go_wp2_with fail
     refine h7.out.mono ?_
     rintro e w7 ⟨rfl,rfl⟩
     go_wp2_with fail
     go_ret
     exact ⟨rfl,hfw.trans hf6⟩
theorem WSubG (k:Nat) (hk:k≤90000000) (a b:Int) (ha:Bn k a) (hb:Bn k b) (w:World) (hG:G w) :
 Calls Tryz.prog 156 #[.string (tx a),.string (tx b)] w fun e w'=>e=.returned (.string (tx (a - b)))∧Fr w w':=by
 have sb:=hb.size2
 have h1:=hZ (fun W=>Neg_any b W (by omega))
 have h2:=hZ (fun W (hW:Fr w W)=>WAddG k hk a (-b) ha hb.neg W (hG.fr hW))
 rw [← Int.sub_eq_add_neg] at h2
 go_enter Tryz.func156,Tryz.ntmps156
 go_wp2_with fail
 refine (h1.out _).mono ?_
 rintro e w1 ⟨rfl,hf1⟩
 have h9:=hZ (h2.out w1 hf1)
 go_wp2_with fail
 refine h9.out.mono ?_
 rintro e w2 ⟨rfl,hf2⟩
 go_wp2_with fail
 go_ret
 exact ⟨rfl,hf1.trans hf2⟩
theorem WMulG (j k:Nat) (hj:j≤40000000) (hk:k≤40000000) (a b:Int) (ha:Bn j a) (hb:Bn k b) (w:World) (hG:G w) :
 Calls Tryz.prog 95 #[.string (tx a),.string (tx b)] w fun e w'=>e=.returned (.string (tx (a * b)))∧Fr w w':=by
 have sa:=ha.size
 have sb:=hb.size
 have sa2:=ha.size2
 have sb2:=hb.size2
 have hab:=ha.mul hb
 obtain ⟨va,ba,hva,hba,hla⟩:=wl_or a 9 (by omega) (by omega)
 obtain ⟨vb,bb,hvb,hbb,hlb⟩:=wl_or b 9 (by omega) (by omega)
 have hsa:=hZ (fun W=>split_any a W (by omega))
 have hsb:=hZ (fun W=>split_any b W (by omega))
 by_cases hboth:ba=true∧bb=true
 ·obtain ⟨rfl,rfl⟩:=hboth
  obtain ⟨rfl,-,-,a3⟩:=hva rfl
  obtain ⟨rfl,-,-,b3⟩:=hvb rfl
  have ha9:=size9_lt a3
  have hb9:=size9_lt b3
  have hm9:(va * vb).natAbs≤1000000000 * 1000000000:=by rw [Int.natAbs_mul]; exact Nat.mul_le_mul (by omega) (by omega)
  clear hva hvb hba hbb hsa hsb ha hb sa sb sa2 sb2 hab
  have kw:IntKind.i64.wrap (va * vb)=va * vb:=IntWalk.i64_in _ (by omega)
  have ho:=hZ (fun W (hW:Fr w W)=>Of_any (va * vb) (by omega) (by omega) W (hG.fr hW))
  go_enter Tryz.func95,Tryz.ntmps95
  go_wp2_with fail
  refine (hla.out _).mono ?_
  rintro e w1 ⟨rfl,hf1⟩
  go_wp2_with fail
  refine (hlb.out _).mono ?_
  rintro e w2 ⟨rfl,hf2⟩
  have h9:=hZ (ho.out w2 (hf1.trans hf2))
  go_wp2_with fail
  refine h9.out.mono ?_
  rintro e w3 ⟨rfl,hf3⟩
  go_wp2_with fail
  go_ret
  exact ⟨rfl,(hf1.trans hf2).trans hf3⟩
 ·have hbb2:ba=false∨(ba=true∧bb=false):=by
   rcases hba with rfl | rfl
   ·rcases hbb with rfl | rfl
    ·exact absurd ⟨rfl,rfl⟩ hboth
    ·exact .inr ⟨rfl,rfl⟩
   ·exact .inl rfl
  clear hva hvb hba hbb hboth
  obtain ⟨x,hx⟩:∃ x,x=a.natAbs:=⟨_,rfl⟩
  obtain ⟨y,hy⟩:∃ y,y=b.natAbs:=⟨_,rfl⟩
  rw [← hx] at hsa sa
  rw [← hy] at hsb sb
  have hxy:x * y=(a * b).natAbs:=by rw [hx,hy,Int.natAbs_mul]
  have hdl:(digs (x * y)).length≤100000000:=by
   rw [hxy]
   exact digs_size (k:=100000000) (by have:=hab.size; omega)
  have hda:=hZ (fun W (hW:Fr w W)=>DMulG x y (by omega) (by omega) hdl W (hG.fr hW))
  have hres:(if (decide (a < 0) != decide (b < 0))=true then -((x * y:Nat):Int) else ((x * y:Nat):Int))=a * b:=by
   have h1:=sgnT_mul a b
   unfold sgnT at h1
   have h2:(decide (a < 0) != decide (b < 0))=(sd a != sd b):=by
    unfold sd
    by_cases h0:a < 0 <;> by_cases h3:b < 0 <;> simp [h0,h3]
   rw [h2,hx,hy]; exact h1
  have hjn:=hZ (fun W=>by
   have h:=join_any (decide (a < 0) != decide (b < 0)) ((x * y:Nat):Int) (Int.natCast_nonneg _) W (by rw [hxy]; have:=hab.size; omega)
   rw [hres] at h
   exact h)
  clear hres
  generalize x * y=z at *
  generalize decide (a < 0)=s1 at *
  generalize decide (b < 0)=s2 at *
  replace hx:=hZ hx
  replace hy:=hZ hy
  replace hxy:=hZ hxy
  replace hab:=hZ hab
  cases s1 <;> cases s2
  all_goals
   rcases hbb2 with rfl | ⟨rfl,rfl⟩
   ·go_enter Tryz.func95,Tryz.ntmps95
    go_wp2_with fail
    refine (hla.out _).mono ?_
    rintro e w1 ⟨rfl,hf1⟩
    go_wp2_with fail
    refine (hsa.out _).mono ?_
    rintro e w3 ⟨rfl,hf3⟩
    go_wp2_with fail
    refine (hsb.out _).mono ?_
    rintro e w4 ⟨rfl,hf4⟩
    have hfw:=(hf1.trans hf3).trans hf4
    have h9:=hZ (hda.out w4 hfw)
    go_wp2_with fail
    refine h9.out.mono ?_
    rintro e w5 ⟨rfl,hf5⟩
    have h8:=hZ (hjn.out w5)
    go_wp2_with fail
    refine h8.out.mono ?_
    rintro e w6 ⟨rfl,rfl⟩
    go_wp2_with fail
    go_ret
    exact ⟨rfl,hfw.trans hf5⟩
   ·go_enter Tryz.func95,Tryz.ntmps95
    go_wp2_with fail
    refine (hla.out _).mono ?_
    rintro e w1 ⟨rfl,hf1⟩
    go_wp2_with fail
    refine (hlb.out _).mono ?_
    rintro e w2 ⟨rfl,hf2⟩
    go_wp2_with fail
    refine (hsa.out _).mono ?_
    rintro e w3 ⟨rfl,hf3⟩
    go_wp2_with fail
    refine (hsb.out _).mono ?_
    rintro e w4 ⟨rfl,hf4⟩
    have hfw:=((hf1.trans hf2).trans hf3).trans hf4
    have h9:=hZ (hda.out w4 hfw)
    go_wp2_with fail
    refine h9.out.mono ?_
    rintro e w5 ⟨rfl,hf5⟩
    have h8:=hZ (hjn.out w5)
    go_wp2_with fail
    refine h8.out.mono ?_
    rintro e w6 ⟨rfl,rfl⟩
    go_wp2_with fail
    go_ret
    exact ⟨rfl,hfw.trans hf5⟩
theorem int_sg (a:Int):(∃ n:Nat,a=n∧¬ a < 0)∨∃ n:Nat,a=-(n:Int)∧a < 0:=by
 by_cases h:a < 0
 ·exact .inr ⟨a.natAbs,by omega,h⟩
 ·exact .inl ⟨a.natAbs,by omega,h⟩
theorem sgnT_tdiv (a b:Int):sgnT (sd a != sd b) (a.natAbs / b.natAbs)=a.tdiv b:=by
 rcases int_sg a with ⟨m,rfl,ha⟩ | ⟨m,rfl,ha⟩ <;> rcases int_sg b with ⟨n,rfl,hb⟩ | ⟨n,rfl,hb⟩ <;> unfold sd sgnT
 ·rw [if_neg ha,if_neg hb,Int.natAbs_natCast,Int.natAbs_natCast,if_neg (by decide)]; exact (Int.ofNat_tdiv m n).symm
 ·rw [if_neg ha,if_pos hb,Int.natAbs_natCast,Int.natAbs_neg,Int.natAbs_natCast,if_pos (by decide),Int.tdiv_neg]; exact congrArg Neg.neg (Int.ofNat_tdiv m n).symm
 ·rw [if_pos ha,if_neg hb,Int.natAbs_natCast,Int.natAbs_neg,Int.natAbs_natCast,if_pos (by decide),Int.neg_tdiv]; exact congrArg Neg.neg (Int.ofNat_tdiv m n).symm
 ·rw [if_pos ha,if_pos hb,Int.natAbs_neg,Int.natAbs_neg,Int.natAbs_natCast,Int.natAbs_natCast,if_neg (by decide),Int.neg_tdiv,Int.tdiv_neg,Int.neg_neg]; exact (Int.ofNat_tdiv m n).symm
theorem sgnT_tmod (a b:Int):sgnT (decide (sd a < 0)) (a.natAbs % b.natAbs)=a.tmod b:=by
 have hb:a.tmod b=a.tmod (b.natAbs:Int):=by
  rcases int_sg b with ⟨n,rfl,-⟩ | ⟨n,rfl,-⟩
  ·rw [Int.natAbs_natCast]
  ·rw [Int.natAbs_neg,Int.natAbs_natCast,Int.tmod_neg]
 rw [hb]
 rcases int_sg a with ⟨m,rfl,ha⟩ | ⟨m,rfl,ha⟩ <;> unfold sd sgnT
 ·rw [if_neg ha,Int.natAbs_natCast,if_neg (by decide)]; exact (Int.ofNat_tmod m _).symm
 ·rw [if_pos ha,Int.natAbs_neg,Int.natAbs_natCast,if_pos (by decide),Int.neg_tmod]; exact congrArg Neg.neg (Int.ofNat_tmod m _).symm
theorem sd_ne (a b:Int):(sd a != sd b)=true ↔ ¬ (a < 0 ↔ b < 0):=by
 unfold sd
 by_cases ha:a < 0 <;> by_cases hb:b < 0 <;> simp [ha,hb]
theorem tmod_sg {a b:Int} (h:a.tmod b≠0):a.tmod b < 0 ↔ a < 0:=by
 have e:=sgnT_tmod a b
 unfold sd sgnT at e
 by_cases ha:a < 0
 ·rw [if_pos ha,if_pos (by decide)] at e; omega
 ·rw [if_neg ha,if_neg (by decide)] at e; omega
theorem DivMod_18 (a b:Int) (a1:-1000000000000000000 < a) (a2:a < 1000000000000000000) (b1:-1000000000000000000 < b) (b2:b < 1000000000000000000) (sa:(tx a).size≤18) (sb:(tx b).size≤18) (h0:b≠0) (w:World) (hG:G w) :
 Calls Tryz.prog 112 #[.string (tx a),.string (tx b)] w fun e w'=>e=.returned (.tuple #[.string (tx (a.fdiv b)),.string (tx (a.fmod b)),.int .i64 0])∧Fr w w':=by
 have hz:((tx b).toList == [48])=false:=by rw [tx_beq0]; exact decide_eq_false h0
 have td:=tdiv_abs a b
 have tm:=tmod_abs a b h0
 have k1:IntKind.i64.wrap (a.tdiv b)=a.tdiv b:=IntWalk.i64_in _ (by omega)
 have k2:IntKind.i64.wrap (a.tmod b)=a.tmod b:=IntWalk.i64_in _ (by omega)
 by_cases hr0:a.tmod b=0
 ·have hfin:=hZ (show a.fdiv b=a.tdiv b∧a.fmod b=0 from by have:=fdiv_same a b h0 (.inl hr0); rw [hr0] at this; exact this)
  have c1:(a.tmod b != 0)=false:=by rw [hr0]; rfl
  have tm1:-1000000000000000000 < a.tmod b∧a.tmod b < 1000000000000000000:=by omega
  have td1:-1000000000000000000 < a.tdiv b∧a.tdiv b < 1000000000000000000:=by omega
  obtain ⟨tm1,tm2⟩:=tm1
  obtain ⟨td1,td2⟩:=td1
  clear td tm
  go_enter Tryz.func112,Tryz.ntmps112
  go_wp2_with fail
  refine (little_ok a 18 (by omega) (by omega) _ (by omega)).mono ?_; rintro e w1 ⟨rfl,hf1⟩
  go_wp2_with fail
  refine (little_ok b 18 (by omega) (by omega) _ (by omega)).mono ?_; rintro e w2 ⟨rfl,hf2⟩
  go_wp2_with fail
  go_quiet (fail)
  clear k1 k2
  have hfq:=hf1.trans hf2
  go_wp2_with fail
  refine (Of_any _ (by omega) (by omega) _ (hG.fr (by exact fr9))).mono ?_; rintro e w3 ⟨rfl,hf3⟩
  go_wp2_with fail
  refine (Of_any _ (by omega) (by omega) _ (hG.fr (by exact fr9))).mono ?_; rintro e w4 ⟨rfl,hf4⟩
  go_wp2_with fail
  go_ret3
  exact ⟨by rw [hfin.out.1,hfin.out.2]; rfl,by exact fr9⟩
 ·have c1:(a.tmod b != 0)=true:=by rw [bne_iff_ne]; exact hr0
  by_cases hr:a.tmod b < 0 <;> by_cases hb:b < 0
  ·have hfin:=hZ (fdiv_same a b h0 (.inr (by simp [hr,hb])))
   have c2:(decide (a.tmod b < 0))=true:=decide_eq_true hr
   have c3:(decide (b < 0))=true:=decide_eq_true hb
   have tm1:-1000000000000000000 < a.tmod b:=by omega
   have tm2:a.tmod b < 1000000000000000000:=by omega
   have td1:-1000000000000000000 < a.tdiv b:=by omega
   have td2:a.tdiv b < 1000000000000000000:=by omega
   clear td tm hr0 hr hb
   go_enter Tryz.func112,Tryz.ntmps112
   go_wp2_with fail
   refine (little_ok a 18 (by omega) (by omega) _ (by omega)).mono ?_; rintro e w1 ⟨rfl,hf1⟩
   go_wp2_with fail
   refine (little_ok b 18 (by omega) (by omega) _ (by omega)).mono ?_; rintro e w2 ⟨rfl,hf2⟩
   go_wp2_with fail
   go_quiet (fail)
   clear k1 k2
   have hfq:=hf1.trans hf2
   go_wp2_with fail
   refine (Of_any _ (by omega) (by omega) _ (hG.fr (by exact fr9))).mono ?_; rintro e w3 ⟨rfl,hf3⟩
   go_wp2_with fail
   refine (Of_any _ (by omega) (by omega) _ (hG.fr (by exact fr9))).mono ?_; rintro e w4 ⟨rfl,hf4⟩
   go_wp2_with fail
   go_ret3
   exact ⟨by rw [hfin.out.1,hfin.out.2]; rfl,by exact fr9⟩
  ·have hfin:=hZ (fdiv_less a b h0 hr0 (by simp [hr,hb]))
   have c2:(decide (a.tmod b < 0))=true:=decide_eq_true hr
   have c3:(decide (b < 0))=false:=decide_eq_false hb
   have tm1:-1000000000000000000 < a.tmod b:=by omega
   have tm2:a.tmod b < 1000000000000000000:=by omega
   have td1:-1000000000000000000 < a.tdiv b:=by omega
   have td2:a.tdiv b < 1000000000000000000:=by omega
   clear td tm hr0 hr hb
   go_enter Tryz.func112,Tryz.ntmps112
   go_wp2_with fail
   refine (little_ok a 18 (by omega) (by omega) _ (by omega)).mono ?_; rintro e w1 ⟨rfl,hf1⟩
   go_wp2_with fail
   refine (little_ok b 18 (by omega) (by omega) _ (by omega)).mono ?_; rintro e w2 ⟨rfl,hf2⟩
   go_wp2_with fail
   go_quiet (fail)
   clear k1 k2
   have hfq:=hf1.trans hf2
   go_wp2_with fail
   refine (Of_any _ (by omega) (by omega) _ (hG.fr (by exact fr9))).mono ?_; rintro e w3 ⟨rfl,hf3⟩
   go_wp2_with fail
   refine (Of_any _ (by omega) (by omega) _ (hG.fr (by exact fr9))).mono ?_; rintro e w4 ⟨rfl,hf4⟩
   go_wp2_with fail
   go_ret3
   exact ⟨by rw [hfin.out.1,hfin.out.2]; rfl,by exact fr9⟩
  ·have hfin:=hZ (fdiv_less a b h0 hr0 (by simp [hr,hb]))
   have c2:(decide (a.tmod b < 0))=false:=decide_eq_false hr
   have c3:(decide (b < 0))=true:=decide_eq_true hb
   have tm1:-1000000000000000000 < a.tmod b:=by omega
   have tm2:a.tmod b < 1000000000000000000:=by omega
   have td1:-1000000000000000000 < a.tdiv b:=by omega
   have td2:a.tdiv b < 1000000000000000000:=by omega
   clear td tm hr0 hr hb
   go_enter Tryz.func112,Tryz.ntmps112
   go_wp2_with fail
   refine (little_ok a 18 (by omega) (by omega) _ (by omega)).mono ?_; rintro e w1 ⟨rfl,hf1⟩
   go_wp2_with fail
   refine (little_ok b 18 (by omega) (by omega) _ (by omega)).mono ?_; rintro e w2 ⟨rfl,hf2⟩
   go_wp2_with fail
   go_quiet (fail)
   clear k1 k2
   have hfq:=hf1.trans hf2
   go_wp2_with fail
   refine (Of_any _ (by omega) (by omega) _ (hG.fr (by exact fr9))).mono ?_; rintro e w3 ⟨rfl,hf3⟩
   go_wp2_with fail
   refine (Of_any _ (by omega) (by omega) _ (hG.fr (by exact fr9))).mono ?_; rintro e w4 ⟨rfl,hf4⟩
   go_wp2_with fail
   go_ret3
   exact ⟨by rw [hfin.out.1,hfin.out.2]; rfl,by exact fr9⟩
  ·have hfin:=hZ (fdiv_same a b h0 (.inr (by simp [hr,hb])))
   have c2:(decide (a.tmod b < 0))=false:=decide_eq_false hr
   have c3:(decide (b < 0))=false:=decide_eq_false hb
   have tm1:-1000000000000000000 < a.tmod b:=by omega
   have tm2:a.tmod b < 1000000000000000000:=by omega
   have td1:-1000000000000000000 < a.tdiv b:=by omega
   have td2:a.tdiv b < 1000000000000000000:=by omega
   clear td tm hr0 hr hb
   go_enter Tryz.func112,Tryz.ntmps112
   go_wp2_with fail
   refine (little_ok a 18 (by omega) (by omega) _ (by omega)).mono ?_; rintro e w1 ⟨rfl,hf1⟩
   go_wp2_with fail
   refine (little_ok b 18 (by omega) (by omega) _ (by omega)).mono ?_; rintro e w2 ⟨rfl,hf2⟩
   go_wp2_with fail
   go_quiet (fail)
   clear k1 k2
   have hfq:=hf1.trans hf2
   go_wp2_with fail
   refine (Of_any _ (by omega) (by omega) _ (hG.fr (by exact fr9))).mono ?_; rintro e w3 ⟨rfl,hf3⟩
   go_wp2_with fail
   refine (Of_any _ (by omega) (by omega) _ (hG.fr (by exact fr9))).mono ?_; rintro e w4 ⟨rfl,hf4⟩
   go_wp2_with fail
   go_ret3
   exact ⟨by rw [hfin.out.1,hfin.out.2]; rfl,by exact fr9⟩
theorem fd_same {a b:Int} (hb:b≠0) (h:(a < 0 ↔ b < 0)∨a.natAbs % b.natAbs=0):(if (decide (a < 0) != decide (b < 0))=true then -((a.natAbs / b.natAbs:Nat):Int) else ((a.natAbs / b.natAbs:Nat):Int))=a.fdiv b∧(if decide (b < 0)=true then -((a.natAbs % b.natAbs:Nat):Int) else ((a.natAbs % b.natAbs:Nat):Int))=a.fmod b:=by
 have h1:=sgnT_tdiv a b
 have h2:=sgnT_tmod a b
 have hs:(decide (a < 0) != decide (b < 0))=(sd a != sd b):=by
  unfold sd
  by_cases h0:a < 0 <;> by_cases h3:b < 0 <;> simp [h0,h3]
 have hs2:decide (sd a < 0)=decide (a < 0):=by
  unfold sd
  by_cases h0:a < 0 <;> simp [h0]
 rw [hs2] at h2
 unfold sgnT at h1 h2
 rw [hs,h1]
 have hz:a.tmod b=0∨(a.tmod b < 0 ↔ b < 0):=by
  by_cases h0:a.tmod b=0
  ·exact .inl h0
  ·rcases h with h | h
   ·exact .inr (by rw [tmod_sg h0]; exact h)
   ·rw [h] at h2
    refine absurd h2.symm (fun e=>h0 ?_)
    rw [e]; split <;> rfl
 obtain ⟨e1,e2⟩:=fdiv_same a b hb hz
 refine ⟨e1.symm, ?_⟩
 rw [e2,← h2]
 rcases h with h | h
 ·by_cases h0:a < 0
  ·rw [decide_eq_true h0,decide_eq_true (h.1 h0)]
  ·rw [decide_eq_false h0,decide_eq_false (fun e=>h0 (h.2 e))]
 ·rw [h]; split <;> split <;> rfl
theorem fd_less {a b:Int} (hb:b≠0) (h:¬ (a < 0 ↔ b < 0)) (h0:a.natAbs % b.natAbs≠0):-((a.natAbs / b.natAbs+1:Nat):Int)=a.fdiv b∧(if decide (b < 0)=true then -((b.natAbs - a.natAbs % b.natAbs:Nat):Int) else ((b.natAbs - a.natAbs % b.natAbs:Nat):Int))=a.fmod b:=by
 have h1:=sgnT_tdiv a b
 have h2:=sgnT_tmod a b
 have hs2:decide (sd a < 0)=decide (a < 0):=by
  unfold sd
  by_cases h0:a < 0 <;> simp [h0]
 rw [hs2] at h2
 have hs3:(sd a != sd b)=true:=(sd_ne a b).2 h
 rw [hs3] at h1
 unfold sgnT at h1 h2
 rw [if_pos rfl] at h1
 have hml:=Nat.mod_lt a.natAbs (show 0 < b.natAbs by omega)
 have ht0:a.tmod b≠0:=fun e=>by
  rw [e] at h2
  split at h2 <;> omega
 obtain ⟨e1,e2⟩:=fdiv_less a b hb ht0 (by rw [tmod_sg ht0]; exact h)
 rw [e1,e2,← h1,← h2]
 generalize a.natAbs / b.natAbs=q
 generalize a.natAbs % b.natAbs=r at *
 refine ⟨by omega, ?_⟩
 by_cases h3:a < 0
 ·have h4:¬ b < 0:=fun e=>h ⟨fun _=>e,fun _=>h3⟩
  rw [decide_eq_true h3,decide_eq_false h4,if_pos rfl,if_neg (by decide)]; omega
 ·have h4:b < 0:=Decidable.byContradiction fun e=>h ⟨fun e2=>absurd e2 h3,fun e2=>absurd e2 e⟩
  rw [decide_eq_false h3,decide_eq_true h4,if_pos rfl,if_neg (by decide)]; omega
theorem WDivModG (j k:Nat) (hj:j≤40000000) (hk:k≤40000000) (a b:Int) (ha:Bn j a) (hb:Bn k b) (h0:b≠0) (w:World) (hG:G w) :
 Calls Tryz.prog 112 #[.string (tx a),.string (tx b)] w fun e w'=>e=.returned (.tuple #[.string (tx (a.fdiv b)),.string (tx (a.fmod b)),.int .i64 0])∧Fr w w':=by
 have sa:=ha.size
 have sb:=hb.size
 have sa2:=ha.size2
 have sb2:=hb.size2
 obtain ⟨va,ba,hva,hba,hla⟩:=wl_or a 18 (by omega) (by omega)
 obtain ⟨vb,bb,hvb,hbb,hlb⟩:=wl_or b 18 (by omega) (by omega)
 by_cases hboth:ba=true∧bb=true
 ·obtain ⟨-,a1,a2,a3⟩:=hva hboth.1
  obtain ⟨-,b1,b2,b3⟩:=hvb hboth.2
  exact DivMod_18 a b a1 a2 b1 b2 a3 b3 h0 w hG
 have hbb2:ba=false∨(ba=true∧bb=false):=by
  rcases hba with rfl | rfl
  ·rcases hbb with rfl | rfl
   ·exact absurd ⟨rfl,rfl⟩ hboth
   ·exact .inr ⟨rfl,rfl⟩
  ·exact .inl rfl
 clear hva hvb hba hbb hboth
 have hsa:=hZ (fun W=>split_any a W (by omega))
 have hsb:=hZ (fun W=>split_any b W (by omega))
 have hz0:((tx b).toList == [48])=false:=by rw [tx_beq0]; exact decide_eq_false h0
 have hy0:b.natAbs≠0:=by omega
 have hdv:=hZ (fun W (hW:Fr w W)=>DDivG a.natAbs b.natAbs hy0 (by omega) (by omega) W (hG.fr hW))
 have hqs:=size_mono (Nat.div_le_self a.natAbs b.natAbs)
 have hml:=Nat.mod_lt a.natAbs (show 0 < b.natAbs by omega)
 have hrs:=size_mono (Nat.le_of_lt hml)
 have hr0:=tx_beq0 ((a.natAbs % b.natAbs:Nat):Int)
 by_cases hsg:(a < 0 ↔ b < 0)
 ·obtain ⟨f1,f2⟩:=fd_same h0 (.inl hsg)
  have hde:decide (b < 0)=decide (a < 0):=by
   by_cases h3:a < 0
   ·rw [decide_eq_true h3,decide_eq_true (hsg.1 h3)]
   ·rw [decide_eq_false h3,decide_eq_false (fun h=>h3 (hsg.2 h))]
  rw [hde] at hsb f1 f2
  have hj1:=hZ (fun W=>by
   have h:=join_any (decide (a < 0) != decide (a < 0)) ((a.natAbs / b.natAbs:Nat):Int) (Int.natCast_nonneg _) W (by omega)
   rw [f1] at h
   exact h)
  have hj2:=hZ (fun W=>by
   have h:=join_any (decide (a < 0)) ((a.natAbs % b.natAbs:Nat):Int) (Int.natCast_nonneg _) W (by omega)
   rw [f2] at h
   exact h)
  clear f1 f2 hde hqs hml hrs hr0 hsg hy0 h0
  generalize a.natAbs / b.natAbs=q at *
  generalize a.natAbs % b.natAbs=r at *
  generalize a.natAbs=x at *
  generalize b.natAbs=y at *
  generalize decide (a < 0)=s1 at *
  cases s1
  all_goals
   rcases hbb2 with rfl | ⟨rfl,rfl⟩
   ·go_enter Tryz.func112,Tryz.ntmps112
    go_wp2_with fail
    refine (hla.out _).mono ?_
    rintro e w1 ⟨rfl,hf1⟩
    go_wp2_with fail
    refine (hsa.out _).mono ?_
    rintro e w3 ⟨rfl,hf3⟩
    go_wp2_with fail
    refine (hsb.out _).mono ?_
    rintro e w4 ⟨rfl,hf4⟩
    have hfw:=(hf1.trans hf3).trans hf4
    have h9:=hZ (hdv.out w4 hfw)
    go_wp2_with fail
    refine h9.out.mono ?_
    rintro e w5 ⟨rfl,hf5⟩
    have hfv:=hfw.trans hf5
    obtain ⟨w6,rfl⟩:∃ w6:World,w6=w5:=⟨_,rfl⟩
    have h8:=hZ (hj1.out w6)
    go_wp2_with fail
    refine h8.out.mono ?_
    rintro e w7 ⟨rfl,rfl⟩
    have h7:=hZ (hj2.out w6)
    go_wp2_with fail
    refine h7.out.mono ?_
    rintro e w8 ⟨rfl,rfl⟩
    go_wp2_with fail
    go_ret3
    exact ⟨rfl,hfv⟩
   ·go_enter Tryz.func112,Tryz.ntmps112
    go_wp2_with fail
    refine (hla.out _).mono ?_
    rintro e w1 ⟨rfl,hf1⟩
    go_wp2_with fail
    refine (hlb.out _).mono ?_
    rintro e w2 ⟨rfl,hf2⟩
    go_wp2_with fail
    refine (hsa.out _).mono ?_
    rintro e w3 ⟨rfl,hf3⟩
    go_wp2_with fail
    refine (hsb.out _).mono ?_
    rintro e w4 ⟨rfl,hf4⟩
    have hfw:=((hf1.trans hf2).trans hf3).trans hf4
    have h9:=hZ (hdv.out w4 hfw)
    go_wp2_with fail
    refine h9.out.mono ?_
    rintro e w5 ⟨rfl,hf5⟩
    have hfv:=hfw.trans hf5
    obtain ⟨w6,rfl⟩:∃ w6:World,w6=w5:=⟨_,rfl⟩
    have h8:=hZ (hj1.out w6)
    go_wp2_with fail
    refine h8.out.mono ?_
    rintro e w7 ⟨rfl,rfl⟩
    have h7:=hZ (hj2.out w6)
    go_wp2_with fail
    refine h7.out.mono ?_
    rintro e w8 ⟨rfl,rfl⟩
    go_wp2_with fail
    go_ret3
    exact ⟨rfl,hfv⟩
 ·have hne:(decide (a < 0) != decide (b < 0))=true:=by
   by_cases h3:a < 0
   ·have:¬ b < 0:=fun h=>hsg ⟨fun _=>h,fun _=>h3⟩
    rw [decide_eq_true h3,decide_eq_false this]; rfl
   ·have:b < 0:=Decidable.byContradiction fun h=>hsg ⟨fun h1=>absurd h1 h3,fun h1=>absurd h1 h⟩
    rw [decide_eq_false h3,decide_eq_true this]; rfl
  by_cases hr9:a.natAbs % b.natAbs=0
  ·obtain ⟨f1,f2⟩:=fd_same h0 (.inr hr9)
   have hj1:=hZ (fun W=>by
    have h:=join_any (decide (a < 0) != decide (b < 0)) ((a.natAbs / b.natAbs:Nat):Int) (Int.natCast_nonneg _) W (by omega)
    rw [f1] at h
    exact h)
   have hj2:=hZ (fun W=>by
    have h:=join_any (decide (b < 0)) ((a.natAbs % b.natAbs:Nat):Int) (Int.natCast_nonneg _) W (by omega)
    rw [f2] at h
    exact h)
   rw [decide_eq_true (by omega)] at hr0
   clear f1 f2 hqs hml hrs hsg hy0 h0 hr9
   generalize a.natAbs / b.natAbs=q at *
   generalize a.natAbs % b.natAbs=r at *
   generalize a.natAbs=x at *
   generalize b.natAbs=y at *
   generalize decide (a < 0)=s1 at *
   generalize decide (b < 0)=s2 at *
   cases s1 <;> cases s2
   all_goals first | (exact absurd hne (by decide)) | skip
   all_goals
    rcases hbb2 with rfl | ⟨rfl,rfl⟩
    ·go_enter Tryz.func112,Tryz.ntmps112
     go_wp2_with fail
     refine (hla.out _).mono ?_
     rintro e w1 ⟨rfl,hf1⟩
     go_wp2_with fail
     refine (hsa.out _).mono ?_
     rintro e w3 ⟨rfl,hf3⟩
     go_wp2_with fail
     refine (hsb.out _).mono ?_
     rintro e w4 ⟨rfl,hf4⟩
     have hfw:=(hf1.trans hf3).trans hf4
     have h9:=hZ (hdv.out w4 hfw)
     go_wp2_with fail
     refine h9.out.mono ?_
     rintro e w5 ⟨rfl,hf5⟩
     have hfv:=hfw.trans hf5
     obtain ⟨w6,rfl⟩:∃ w6:World,w6=w5:=⟨_,rfl⟩
     have h8:=hZ (hj1.out w6)
     go_wp2_with fail
     refine h8.out.mono ?_
     rintro e w7 ⟨rfl,rfl⟩
     have h7:=hZ (hj2.out w6)
     go_wp2_with fail
     refine h7.out.mono ?_
     rintro e w8 ⟨rfl,rfl⟩
     go_wp2_with fail
     go_ret3
     exact ⟨rfl,hfv⟩
    ·go_enter Tryz.func112,Tryz.ntmps112
     go_wp2_with fail
     refine (hla.out _).mono ?_
     rintro e w1 ⟨rfl,hf1⟩
     go_wp2_with fail
     refine (hlb.out _).mono ?_
     rintro e w2 ⟨rfl,hf2⟩
     go_wp2_with fail
     refine (hsa.out _).mono ?_
     rintro e w3 ⟨rfl,hf3⟩
     go_wp2_with fail
     refine (hsb.out _).mono ?_
     rintro e w4 ⟨rfl,hf4⟩
     have hfw:=((hf1.trans hf2).trans hf3).trans hf4
     have h9:=hZ (hdv.out w4 hfw)
     go_wp2_with fail
     refine h9.out.mono ?_
     rintro e w5 ⟨rfl,hf5⟩
     have hfv:=hfw.trans hf5
     obtain ⟨w6,rfl⟩:∃ w6:World,w6=w5:=⟨_,rfl⟩
     have h8:=hZ (hj1.out w6)
     go_wp2_with fail
     refine h8.out.mono ?_
     rintro e w7 ⟨rfl,rfl⟩
     have h7:=hZ (hj2.out w6)
     go_wp2_with fail
     refine h7.out.mono ?_
     rintro e w8 ⟨rfl,rfl⟩
     go_wp2_with fail
     go_ret3
     exact ⟨rfl,hfv⟩
  ·obtain ⟨f1,f2⟩:=fd_less h0 hsg hr9
   have hqd:=Nat.div_le_self a.natAbs b.natAbs
   have hq1:=hZ (fun W (hW:Fr w W)=>DAddG (a.natAbs / b.natAbs) 1 (by omega) (by rw [show ((1:Nat):Int)=1 from rfl,tx_one]; decide) W (hG.fr hW))
   rw [show tx ((1:Nat):Int)=⟨#[49]⟩ from tx_one] at hq1
   have hr1:=hZ (fun W (hW:Fr w W)=>DSubG b.natAbs (a.natAbs % b.natAbs) (Nat.le_of_lt hml) (by omega) W (hG.fr hW))
   have hqz:(tx ((a.natAbs / b.natAbs+1:Nat):Int)).size≤1000000000:=by
    have h1:a.natAbs / b.natAbs+1 < 10 ^ (j+1):=by
     have:a.natAbs < 10 ^ j:=ha
     rw [Nat.pow_succ]; omega
    have h2:Bn (j+1) ((a.natAbs / b.natAbs+1:Nat):Int):=by show (((a.natAbs / b.natAbs+1:Nat):Int)).natAbs < _; rw [Int.natAbs_natCast]; exact h1
    have:=h2.size2; omega
   have hrz:=size_mono (Nat.sub_le b.natAbs (a.natAbs % b.natAbs))
   have hj1:=hZ (fun W=>by
    have h:=join_any true ((a.natAbs / b.natAbs+1:Nat):Int) (Int.natCast_nonneg _) W hqz
    rw [if_pos rfl,f1] at h
    exact h)
   have hj2:=hZ (fun W=>by
    have h:=join_any (decide (b < 0)) ((b.natAbs - a.natAbs % b.natAbs:Nat):Int) (Int.natCast_nonneg _) W (by omega)
    rw [f2] at h
    exact h)
   rw [decide_eq_false (by omega)] at hr0
   clear f1 f2 hqs hml hrs hsg hy0 h0 hr9 hqz hrz hqd
   generalize a.natAbs / b.natAbs+1=q' at *
   generalize a.natAbs / b.natAbs=q at *
   generalize b.natAbs - a.natAbs % b.natAbs=r' at *
   generalize a.natAbs % b.natAbs=r at *
   generalize a.natAbs=x at *
   generalize b.natAbs=y at *
   generalize decide (a < 0)=s1 at *
   generalize decide (b < 0)=s2 at *
   cases s1 <;> cases s2
   all_goals first | (exact absurd hne (by decide)) | skip
   all_goals
    rcases hbb2 with rfl | ⟨rfl,rfl⟩
    ·go_enter Tryz.func112,Tryz.ntmps112
     go_wp2_with fail
     refine (hla.out _).mono ?_
     rintro e w1 ⟨rfl,hf1⟩
     go_wp2_with fail
     refine (hsa.out _).mono ?_
     rintro e w3 ⟨rfl,hf3⟩
     go_wp2_with fail
     refine (hsb.out _).mono ?_
     rintro e w4 ⟨rfl,hf4⟩
     have hfw:=(hf1.trans hf3).trans hf4
     have h9:=hZ (hdv.out w4 hfw)
     go_wp2_with fail
     refine h9.out.mono ?_
     rintro e w5 ⟨rfl,hf5⟩
     have hfv:=hfw.trans hf5
     have ha9:=hZ (hq1.out w5 hfv)
     go_wp2_with fail
     refine ha9.out.mono ?_
     rintro e w9 ⟨rfl,hf9⟩
     have hb9:=hZ (hr1.out w9 (hfv.trans hf9))
     go_wp2_with fail
     refine hb9.out.mono ?_
     rintro e w6 ⟨rfl,hf6⟩
     have hfz:=(hfv.trans hf9).trans hf6
     have h8:=hZ (hj1.out w6)
     go_wp2_with fail
     refine h8.out.mono ?_
     rintro e w7 ⟨rfl,rfl⟩
     have h7:=hZ (hj2.out w6)
     go_wp2_with fail
     refine h7.out.mono ?_
     rintro e w8 ⟨rfl,rfl⟩
     go_wp2_with fail
     go_ret3
     exact ⟨rfl,hfz⟩
    ·go_enter Tryz.func112,Tryz.ntmps112
     go_wp2_with fail
     refine (hla.out _).mono ?_
     rintro e w1 ⟨rfl,hf1⟩
     go_wp2_with fail
     refine (hlb.out _).mono ?_
     rintro e w2 ⟨rfl,hf2⟩
     go_wp2_with fail
     refine (hsa.out _).mono ?_
     rintro e w3 ⟨rfl,hf3⟩
     go_wp2_with fail
     refine (hsb.out _).mono ?_
     rintro e w4 ⟨rfl,hf4⟩
     have hfw:=((hf1.trans hf2).trans hf3).trans hf4
     have h9:=hZ (hdv.out w4 hfw)
     go_wp2_with fail
     refine h9.out.mono ?_
     rintro e w5 ⟨rfl,hf5⟩
     have hfv:=hfw.trans hf5
     have ha9:=hZ (hq1.out w5 hfv)
     go_wp2_with fail
     refine ha9.out.mono ?_
     rintro e w9 ⟨rfl,hf9⟩
     have hb9:=hZ (hr1.out w9 (hfv.trans hf9))
     go_wp2_with fail
     refine hb9.out.mono ?_
     rintro e w6 ⟨rfl,hf6⟩
     have hfz:=(hfv.trans hf9).trans hf6
     have h8:=hZ (hj1.out w6)
     go_wp2_with fail
     refine h8.out.mono ?_
     rintro e w7 ⟨rfl,rfl⟩
     have h7:=hZ (hj2.out w6)
     go_wp2_with fail
     refine h7.out.mono ?_
     rintro e w8 ⟨rfl,rfl⟩
     go_wp2_with fail
     go_ret3
     exact ⟨rfl,hfz⟩
end Go.Proofs.YtiniigadkknboaaGreatDoor
