/- Contracts and laws: GAQ. -/
import Derived.Test.YtiniigadkknboaaGreatDoorGAP
import Derived.Test.YtiniigadkknboaaGreatDoorGAH
import Derived.Test.YtiniigadkknboaaGreatDoorGAL

set_option maxRecDepth 100000
set_option maxHeartbeats 16000000
namespace Go.Proofs.YtiniigadkknboaaGreatDoor
open Go.RowKit Go.Lib
attribute [local go_sem ↓] Go.wp_at_zero Go.wp_at_succ
theorem EN (n:Int) (w:World) (hs:(tx n).size≤1000000000) :
 Calls Tryz.prog 144 #[.string (tx n)] w fun e w'=>e=.returned (.tuple #[.bool (decide (n < 0)),.string (tx (n.natAbs:Int))])∧Fr w w':=by
 by_cases h:n < 0
 ·rw [Ab h,show (n.natAbs:Int)=-n by omega]; exact TJ n h w hs
 ·rw [Aa h,show (n.natAbs:Int)=n by omega]; exact TH n (by omega) w hs
theorem Bn.int18 {n:Int} (h:(tx n).size≤18):-1000000000000000000 < n∧n < 1000000000000000000:=by
 have h1:(tx (n.natAbs:Int)).size≤18:=by
  by_cases h0:n < 0
  ·have:=F3 n h0
   rw [show (n.natAbs:Int)=-n by omega]; omega
  ·rw [show (n.natAbs:Int)=n by omega]; exact h
 exact EO h1
theorem J6 (n:Int) (m:Nat) (hm:m≤18) (hb:(tx n).size≤1000000000):∃ (v:Int) (b:Bool),(b=true→v=n∧-1000000000000000000 < n∧n < 1000000000000000000∧(tx n).size≤m)∧(b=true∨b=false)∧Hid (∀ W,Calls Tryz.prog 143 #[.string (tx n),.int .i64 m] W fun e w'=>e=.returned (.tuple #[.int .i64 v,.bool b])∧Fr W w'):=by
 by_cases h:(tx n).size≤m
 ·have h1:=Bn.int18 (n:=n) (by omega)
  exact ⟨n,true,fun _=>⟨rfl,h1.1,h1.2,h⟩,.inl rfl,fun W=>BX n m (by omega) (by omega) W (by omega)⟩
 ·exact ⟨0,false,fun e=>(by cases e),.inr rfl,fun W=>(Su n m W (by omega) hb).mono fun e w' h=>⟨h.1,Fr.of_eq h.2⟩⟩
theorem Xj (k:Nat) (hk:k≤90000000) (a b:Int) (ha:Bn k a) (hb:Bn k b) (w:World) (hG:G w) :
 Calls Tryz.prog 94 #[.string (tx a),.string (tx b)] w fun e w'=>e=.returned (.string (tx (a+b)))∧Fr w w':=by
 have sa:=ha.size
 have sb:=hb.size
 have sa2:=ha.size2
 have sb2:=hb.size2
 have sab:=(ha.add hb).size2
 obtain ⟨va,ba,hva,hba,hla⟩:=J6 a 18 (by omega) (by omega)
 obtain ⟨vb,bb,hvb,hbb,hlb⟩:=J6 b 18 (by omega) (by omega)
 have hsa:=hZ (fun W=>EN a W (by omega))
 have hsb:=hZ (fun W=>EN b W (by omega))
 by_cases hboth:ba=true∧bb=true
 ·obtain ⟨rfl,rfl⟩:=hboth
  obtain ⟨rfl,a1,a2,-⟩:=hva rfl
  obtain ⟨rfl,b1,b2,-⟩:=hvb rfl
  clear hva hvb hba hbb hsa hsb ha hb sa sb sa2 sb2 sab
  have kw:IntKind.i64.wrap (va+vb)=va+vb:=Ak _ (by omega)
  have ho:=hZ (fun W (hW:Fr w W)=>Cs (va+vb) (by omega) (by omega) W (hG.fr hW))
  go_enter Tryz.func94,Tryz.ntmps94
  go_wp2_with fail
  refine (hla.out _).mono ?_
  rintro e w1 ⟨rfl,hf1⟩
  go_wp2_with fail
  refine (hlb.out _).mono ?_
  rintro e w2 ⟨rfl,hf2⟩
  have h9:=hZ (ho.out w2 (hf1.trans hf2))
  go_wp2_with fail
  refine h9.out.mono ?_
  rintro e w3 ⟨rfl,hf3⟩
  go_wp2_with fail
  go_ret
  exact ⟨rfl,(hf1.trans hf2).trans hf3⟩
 ·have hbb2:ba=false∨(ba=true∧bb=false):=by
   rcases hba with rfl | rfl
   ·rcases hbb with rfl | rfl
    ·exact absurd ⟨rfl,rfl⟩ hboth
    ·exact .inr ⟨rfl,rfl⟩
   ·exact .inl rfl
  clear hva hvb hba hbb hboth
  obtain ⟨x,hx⟩:∃ x,x=a.natAbs:=⟨_,rfl⟩
  obtain ⟨y,hy⟩:∃ y,y=b.natAbs:=⟨_,rfl⟩
  rw [← hx] at hsa sa
  rw [← hy] at hsb sb
  by_cases hsg:(a < 0 ↔ b < 0)
  ·have hda:=hZ (fun W (hW:Fr w W)=>Xs x y (by omega) (by omega) W (hG.fr hW))
   have hres:(if decide (a < 0)=true then -((x+y:Nat):Int) else ((x+y:Nat):Int))=a+b:=by
    by_cases h0:a < 0
    ·have:=hsg.1 h0
     rw [Ai (Ab h0)]; omega
    ·have:¬ b < 0:=fun h=>h0 (hsg.2 h)
     rw [Ag (by rw [Aa h0]; decide)]; omega
   have hjn:=hZ (fun W=>by
    have h:=Du (decide (a < 0)) ((x+y:Nat):Int) (Aj _) W (by
     have h1:((x+y:Nat):Int)=((a+b).natAbs:Int):=by
      by_cases h0:a < 0
      ·have:=hsg.1 h0; omega
      ·have:¬ b < 0:=fun h=>h0 (hsg.2 h)
       omega
     rw [h1]; have:=(ha.add hb).size; omega)
    rw [hres] at h
    exact h)
   clear hres
   have hde:decide (a < 0)=decide (b < 0):=by
    by_cases h0:a < 0
    ·rw [Ab h0,Ab (hsg.1 h0)]
    ·rw [Aa h0,Aa (fun h=>h0 (hsg.2 h))]
   rw [← hde] at hsb
   have hee:(decide (a < 0) == decide (a < 0))=true:=by simp
   generalize decide (a < 0)=sg at *
   replace hx:=hZ hx
   replace hy:=hZ hy
   replace hde:=hZ hde
   replace hsg:=hZ hsg
   rcases hbb2 with rfl | ⟨rfl,rfl⟩
   ·go_enter Tryz.func94,Tryz.ntmps94
    go_wp2_with fail
    refine (hla.out _).mono ?_
    rintro e w1 ⟨rfl,hf1⟩
    go_wp2_with fail
    refine (hsa.out _).mono ?_
    rintro e w3 ⟨rfl,hf3⟩
    go_wp2_with fail
    refine (hsb.out _).mono ?_
    rintro e w4 ⟨rfl,hf4⟩
    have hfw:=(hf1.trans hf3).trans hf4
    have h9:=hZ (hda.out w4 hfw)
    go_wp2_with fail
    refine h9.out.mono ?_
    rintro e w5 ⟨rfl,hf5⟩
    have h8:=hZ (hjn.out w5)
    go_wp2_with fail
    refine h8.out.mono ?_
    rintro e w6 ⟨rfl,rfl⟩
    go_wp2_with fail
    go_ret
    exact ⟨rfl,hfw.trans hf5⟩
   ·go_enter Tryz.func94,Tryz.ntmps94
    go_wp2_with fail
    refine (hla.out _).mono ?_
    rintro e w1 ⟨rfl,hf1⟩
    go_wp2_with fail
    refine (hlb.out _).mono ?_
    rintro e w2 ⟨rfl,hf2⟩
    go_wp2_with fail
    refine (hsa.out _).mono ?_
    rintro e w3 ⟨rfl,hf3⟩
    go_wp2_with fail
    refine (hsb.out _).mono ?_
    rintro e w4 ⟨rfl,hf4⟩
    have hfw:=((hf1.trans hf2).trans hf3).trans hf4
    have h9:=hZ (hda.out w4 hfw)
    go_wp2_with fail
    refine h9.out.mono ?_
    rintro e w5 ⟨rfl,hf5⟩
    have h8:=hZ (hjn.out w5)
    go_wp2_with fail
    refine h8.out.mono ?_
    rintro e w6 ⟨rfl,rfl⟩
    go_wp2_with fail
    go_ret
    exact ⟨rfl,hfw.trans hf5⟩
  ·have hne:(decide (a < 0) == decide (b < 0))=false:=by
    by_cases h0:a < 0
    ·have:¬ b < 0:=fun h=>hsg ⟨fun _=>h,fun _=>h0⟩
     rw [Ab h0,Aa this]; rfl
    ·have:b < 0:=AW fun h=>hsg ⟨fun h1=>absurd h1 h0,fun h1=>absurd h1 h⟩
     rw [Aa h0,Ab this]; rfl
   have hopp:(a < 0∧¬ b < 0)∨(¬ a < 0∧b < 0):=by
    by_cases h0:a < 0
    ·exact .inl ⟨h0,fun h=>hsg ⟨fun _=>h,fun _=>h0⟩⟩
    ·exact .inr ⟨h0,AW fun h=>hsg ⟨fun h1=>absurd h1 h0,fun h1=>absurd h1 h⟩⟩
   clear hsg
   by_cases hxy:x < y
   ·have hcm:=hZ (fun W=>by
     have h:=KP x y W (by have:=CL x; omega) (by have:=CL y; omega)
     rw [show FG (x:Int) (y:Int)=-1 by unfold FG; rw [Ai (by omega)]] at h
     exact h)
    have hds:=hZ (fun W (hW:Fr w W)=>VD y x (by omega) (by omega) W (hG.fr hW))
    have hres:(if decide (b < 0)=true then -((y - x:Nat):Int) else ((y - x:Nat):Int))=a+b:=by
     by_cases h0:b < 0
     ·rw [Ai (Ab h0)]; omega
     ·rw [Ag (by rw [Aa h0]; decide)]; omega
    have hjn:=hZ (fun W=>by
     have h:=Du (decide (b < 0)) ((y - x:Nat):Int) (Aj _) W (by have:=EP (X9 y x); omega)
     rw [hres] at h
     exact h)
    clear hres hopp
    generalize y - x=z at *
    generalize decide (a < 0)=s1 at *
    generalize decide (b < 0)=s2 at *
    replace hx:=hZ hx
    replace hy:=hZ hy
    rcases hbb2 with rfl | ⟨rfl,rfl⟩
    ·go_enter Tryz.func94,Tryz.ntmps94
     go_wp2_with fail
     refine (hla.out _).mono ?_
     rintro e w1 ⟨rfl,hf1⟩
     go_wp2_with fail
     refine (hsa.out _).mono ?_
     rintro e w3 ⟨rfl,hf3⟩
     go_wp2_with fail
     refine (hsb.out _).mono ?_
     rintro e w4 ⟨rfl,hf4⟩
     have hfw:=(hf1.trans hf3).trans hf4
     have h9:=hZ (hcm.out w4)
     go_wp2_with fail
     refine h9.out.mono ?_
     rintro e w5 ⟨rfl,rfl⟩
     have h8:=hZ (hds.out _ hfw)
     go_wp2_with fail
     refine h8.out.mono ?_
     rintro e w6 ⟨rfl,hf6⟩
     have h7:=hZ (hjn.out w6)
     go_wp2_with fail
     refine h7.out.mono ?_
     rintro e w7 ⟨rfl,rfl⟩
     go_wp2_with fail
     go_ret
     exact ⟨rfl,hfw.trans hf6⟩
    ·go_enter Tryz.func94,Tryz.ntmps94
     go_wp2_with fail
     refine (hla.out _).mono ?_
     rintro e w1 ⟨rfl,hf1⟩
     go_wp2_with fail
     refine (hlb.out _).mono ?_
     rintro e w2 ⟨rfl,hf2⟩
     go_wp2_with fail
     refine (hsa.out _).mono ?_
     rintro e w3 ⟨rfl,hf3⟩
     go_wp2_with fail
     refine (hsb.out _).mono ?_
     rintro e w4 ⟨rfl,hf4⟩
     have hfw:=((hf1.trans hf2).trans hf3).trans hf4
     have h9:=hZ (hcm.out w4)
     go_wp2_with fail
     refine h9.out.mono ?_
     rintro e w5 ⟨rfl,rfl⟩
     have h8:=hZ (hds.out _ hfw)
     go_wp2_with fail
     refine h8.out.mono ?_
     rintro e w6 ⟨rfl,hf6⟩
     have h7:=hZ (hjn.out w6)
     go_wp2_with fail
     refine h7.out.mono ?_
     rintro e w7 ⟨rfl,rfl⟩
     go_wp2_with fail
     go_ret
     exact ⟨rfl,hfw.trans hf6⟩
   ·have hc0:0≤FG (x:Int) (y:Int):=by unfold FG; rw [Ag (by omega)]; split <;> omega
    have hcm:=hZ (fun W=>KP x y W (by have:=CL x; omega) (by have:=CL y; omega))
    generalize FG (x:Int) (y:Int)=cm at *
    have dc:decide (cm < 0)=false:=Aa (by omega)
    have hds:=hZ (fun W (hW:Fr w W)=>VD x y (by omega) (by omega) W (hG.fr hW))
    have hres:(if decide (a < 0)=true then -((x - y:Nat):Int) else ((x - y:Nat):Int))=a+b:=by
     by_cases h0:a < 0
     ·rw [Ai (Ab h0)]; omega
     ·rw [Ag (by rw [Aa h0]; decide)]; omega
    have hjn:=hZ (fun W=>by
     have h:=Du (decide (a < 0)) ((x - y:Nat):Int) (Aj _) W (by have:=EP (X9 x y); omega)
     rw [hres] at h
     exact h)
    clear hres hopp
    generalize x - y=z at *
    generalize decide (a < 0)=s1 at *
    generalize decide (b < 0)=s2 at *
    replace hx:=hZ hx
    replace hy:=hZ hy
    rcases hbb2 with rfl | ⟨rfl,rfl⟩
    ·go_enter Tryz.func94,Tryz.ntmps94
     go_wp2_with fail
     refine (hla.out _).mono ?_
     rintro e w1 ⟨rfl,hf1⟩
     go_wp2_with fail
     refine (hsa.out _).mono ?_
     rintro e w3 ⟨rfl,hf3⟩
     go_wp2_with fail
     refine (hsb.out _).mono ?_
     rintro e w4 ⟨rfl,hf4⟩
     have hfw:=(hf1.trans hf3).trans hf4
     have h9:=hZ (hcm.out w4)
     go_wp2_with fail
     refine h9.out.mono ?_
     rintro e w5 ⟨rfl,rfl⟩
     have h8:=hZ (hds.out _ hfw)
     go_wp2_with fail
     refine h8.out.mono ?_
     rintro e w6 ⟨rfl,hf6⟩
     have h7:=hZ (hjn.out w6)
     go_wp2_with fail
     refine h7.out.mono ?_
     rintro e w7 ⟨rfl,rfl⟩
     go_wp2_with fail
     go_ret
     exact ⟨rfl,hfw.trans hf6⟩
    ·go_enter Tryz.func94,Tryz.ntmps94
     go_wp2_with fail
     refine (hla.out _).mono ?_
     rintro e w1 ⟨rfl,hf1⟩
     go_wp2_with fail
     refine (hlb.out _).mono ?_
     rintro e w2 ⟨rfl,hf2⟩
     go_wp2_with fail
     refine (hsa.out _).mono ?_
     rintro e w3 ⟨rfl,hf3⟩
     go_wp2_with fail
     refine (hsb.out _).mono ?_
     rintro e w4 ⟨rfl,hf4⟩
     have hfw:=((hf1.trans hf2).trans hf3).trans hf4
     have h9:=hZ (hcm.out w4)
     go_wp2_with fail
     refine h9.out.mono ?_
     rintro e w5 ⟨rfl,rfl⟩
     have h8:=hZ (hds.out _ hfw)
     go_wp2_with fail
     refine h8.out.mono ?_
     rintro e w6 ⟨rfl,hf6⟩
     have h7:=hZ (hjn.out w6)
     go_wp2_with fail
     refine h7.out.mono ?_
     rintro e w7 ⟨rfl,rfl⟩
     go_wp2_with fail
     go_ret
     exact ⟨rfl,hfw.trans hf6⟩
theorem YM (k:Nat) (hk:k≤90000000) (a b:Int) (ha:Bn k a) (hb:Bn k b) (w:World) (hG:G w) :
 Calls Tryz.prog 156 #[.string (tx a),.string (tx b)] w fun e w'=>e=.returned (.string (tx (a - b)))∧Fr w w':=by
 have sb:=hb.size2
 have h1:=hZ (fun W=>KQ b W (by omega))
 have h2:=hZ (fun W (hW:Fr w W)=>Xj k hk a (-b) ha hb.neg W (hG.fr hW))
 rw [← Int.sub_eq_add_neg] at h2
 go_enter Tryz.func156,Tryz.ntmps156
 go_wp2_with fail
 refine (h1.out _).mono ?_
 rintro e w1 ⟨rfl,hf1⟩
 have h9:=hZ (h2.out w1 hf1)
 go_wp2_with fail
 refine h9.out.mono ?_
 rintro e w2 ⟨rfl,hf2⟩
 go_wp2_with fail
 go_ret
 exact ⟨rfl,hf1.trans hf2⟩
theorem Pz (j k:Nat) (hj:j≤40000000) (hk:k≤40000000) (a b:Int) (ha:Bn j a) (hb:Bn k b) (w:World) (hG:G w) :
 Calls Tryz.prog 95 #[.string (tx a),.string (tx b)] w fun e w'=>e=.returned (.string (tx (a * b)))∧Fr w w':=by
 have sa:=ha.size
 have sb:=hb.size
 have sa2:=ha.size2
 have sb2:=hb.size2
 have hab:=ha.mul hb
 obtain ⟨va,ba,hva,hba,hla⟩:=J6 a 9 (by omega) (by omega)
 obtain ⟨vb,bb,hvb,hbb,hlb⟩:=J6 b 9 (by omega) (by omega)
 have hsa:=hZ (fun W=>EN a W (by omega))
 have hsb:=hZ (fun W=>EN b W (by omega))
 by_cases hboth:ba=true∧bb=true
 ·obtain ⟨rfl,rfl⟩:=hboth
  obtain ⟨rfl,-,-,a3⟩:=hva rfl
  obtain ⟨rfl,-,-,b3⟩:=hvb rfl
  have ha9:=Hv a3
  have hb9:=Hv b3
  have hm9:(va * vb).natAbs≤1000000000 * 1000000000:=by rw [Be]; exact AD (by omega) (by omega)
  clear hva hvb hba hbb hsa hsb ha hb sa sb sa2 sb2 hab
  have kw:IntKind.i64.wrap (va * vb)=va * vb:=Ak _ (by omega)
  have ho:=hZ (fun W (hW:Fr w W)=>Cs (va * vb) (by omega) (by omega) W (hG.fr hW))
  go_enter Tryz.func95,Tryz.ntmps95
  go_wp2_with fail
  refine (hla.out _).mono ?_
  rintro e w1 ⟨rfl,hf1⟩
  go_wp2_with fail
  refine (hlb.out _).mono ?_
  rintro e w2 ⟨rfl,hf2⟩
  have h9:=hZ (ho.out w2 (hf1.trans hf2))
  go_wp2_with fail
  refine h9.out.mono ?_
  rintro e w3 ⟨rfl,hf3⟩
  go_wp2_with fail
  go_ret
  exact ⟨rfl,(hf1.trans hf2).trans hf3⟩
 ·have hbb2:ba=false∨(ba=true∧bb=false):=by
   rcases hba with rfl | rfl
   ·rcases hbb with rfl | rfl
    ·exact absurd ⟨rfl,rfl⟩ hboth
    ·exact .inr ⟨rfl,rfl⟩
   ·exact .inl rfl
  clear hva hvb hba hbb hboth
  obtain ⟨x,hx⟩:∃ x,x=a.natAbs:=⟨_,rfl⟩
  obtain ⟨y,hy⟩:∃ y,y=b.natAbs:=⟨_,rfl⟩
  rw [← hx] at hsa sa
  rw [← hy] at hsb sb
  have hxy:x * y=(a * b).natAbs:=by rw [hx,hy,Be]
  have hdl:(digs (x * y)).length≤100000000:=by
   rw [hxy]
   exact DY (k:=100000000) (by have:=hab.size; omega)
  have hda:=hZ (fun W (hW:Fr w W)=>Xq x y (by omega) (by omega) hdl W (hG.fr hW))
  have hres:(if (decide (a < 0) != decide (b < 0))=true then -((x * y:Nat):Int) else ((x * y:Nat):Int))=a * b:=by
   have h1:=Oq a b
   unfold G1 at h1
   have h2:(decide (a < 0) != decide (b < 0))=(sd a != sd b):=by
    unfold sd
    by_cases h0:a < 0 <;> by_cases h3:b < 0 <;> simp [h0,h3]
   rw [h2,hx,hy]; exact h1
  have hjn:=hZ (fun W=>by
   have h:=Du (decide (a < 0) != decide (b < 0)) ((x * y:Nat):Int) (Aj _) W (by rw [hxy]; have:=hab.size; omega)
   rw [hres] at h
   exact h)
  clear hres
  generalize x * y=z at *
  generalize decide (a < 0)=s1 at *
  generalize decide (b < 0)=s2 at *
  replace hx:=hZ hx
  replace hy:=hZ hy
  replace hxy:=hZ hxy
  replace hab:=hZ hab
  cases s1 <;> cases s2
  all_goals
   rcases hbb2 with rfl | ⟨rfl,rfl⟩
   ·go_enter Tryz.func95,Tryz.ntmps95
    go_wp2_with fail
    refine (hla.out _).mono ?_
    rintro e w1 ⟨rfl,hf1⟩
    go_wp2_with fail
    refine (hsa.out _).mono ?_
    rintro e w3 ⟨rfl,hf3⟩
    go_wp2_with fail
    refine (hsb.out _).mono ?_
    rintro e w4 ⟨rfl,hf4⟩
    have hfw:=(hf1.trans hf3).trans hf4
    have h9:=hZ (hda.out w4 hfw)
    go_wp2_with fail
    refine h9.out.mono ?_
    rintro e w5 ⟨rfl,hf5⟩
    have h8:=hZ (hjn.out w5)
    go_wp2_with fail
    refine h8.out.mono ?_
    rintro e w6 ⟨rfl,rfl⟩
    go_wp2_with fail
    go_ret
    exact ⟨rfl,hfw.trans hf5⟩
   ·go_enter Tryz.func95,Tryz.ntmps95
    go_wp2_with fail
    refine (hla.out _).mono ?_
    rintro e w1 ⟨rfl,hf1⟩
    go_wp2_with fail
    refine (hlb.out _).mono ?_
    rintro e w2 ⟨rfl,hf2⟩
    go_wp2_with fail
    refine (hsa.out _).mono ?_
    rintro e w3 ⟨rfl,hf3⟩
    go_wp2_with fail
    refine (hsb.out _).mono ?_
    rintro e w4 ⟨rfl,hf4⟩
    have hfw:=((hf1.trans hf2).trans hf3).trans hf4
    have h9:=hZ (hda.out w4 hfw)
    go_wp2_with fail
    refine h9.out.mono ?_
    rintro e w5 ⟨rfl,hf5⟩
    have h8:=hZ (hjn.out w5)
    go_wp2_with fail
    refine h8.out.mono ?_
    rintro e w6 ⟨rfl,rfl⟩
    go_wp2_with fail
    go_ret
    exact ⟨rfl,hfw.trans hf5⟩
theorem NI (a:Int):(∃ n:Nat,a=n∧¬ a < 0)∨∃ n:Nat,a=-(n:Int)∧a < 0:=by
 by_cases h:a < 0
 ·exact .inr ⟨a.natAbs,by omega,h⟩
 ·exact .inl ⟨a.natAbs,by omega,h⟩
theorem JB (a b:Int):G1 (sd a != sd b) (a.natAbs / b.natAbs)=a.tdiv b:=by
 rcases NI a with ⟨m,rfl,ha⟩ | ⟨m,rfl,ha⟩ <;> rcases NI b with ⟨n,rfl,hb⟩ | ⟨n,rfl,hb⟩ <;> unfold sd G1
 ·rw [Ag ha,Ag hb,AJ,AJ,Ag (by decide)]; exact (Ob m n).symm
 ·rw [Ag ha,Ai hb,AJ,Dr,AJ,Ai (by decide),Int.tdiv_neg]; exact congrArg Neg.neg (Ob m n).symm
 ·rw [Ai ha,Ag hb,AJ,Dr,AJ,Ai (by decide),Zt]; exact congrArg Neg.neg (Ob m n).symm
 ·rw [Ai ha,Ai hb,Dr,Dr,AJ,AJ,Ag (by decide),Zt,Int.tdiv_neg,Int.neg_neg]; exact (Ob m n).symm
theorem HR (a b:Int):G1 (decide (sd a < 0)) (a.natAbs % b.natAbs)=a.tmod b:=by
 have hb:a.tmod b=a.tmod (b.natAbs:Int):=by
  rcases NI b with ⟨n,rfl,-⟩ | ⟨n,rfl,-⟩
  ·rw [AJ]
  ·rw [Dr,AJ,Int.tmod_neg]
 rw [hb]
 rcases NI a with ⟨m,rfl,ha⟩ | ⟨m,rfl,ha⟩ <;> unfold sd G1
 ·rw [Ag ha,AJ,Ag (by decide)]; exact (Int.ofNat_tmod m _).symm
 ·rw [Ai ha,Dr,AJ,Ai (by decide),Int.neg_tmod]; exact congrArg Neg.neg (Int.ofNat_tmod m _).symm
theorem TO (a b:Int):(sd a != sd b)=true ↔ ¬ (a < 0 ↔ b < 0):=by
 unfold sd
 by_cases ha:a < 0 <;> by_cases hb:b < 0 <;> simp [ha,hb]
theorem KD {a b:Int} (h:a.tmod b≠0):a.tmod b < 0 ↔ a < 0:=by
 have e:=HR a b
 unfold sd G1 at e
 by_cases ha:a < 0
 ·rw [Ai ha,Ai (by decide)] at e; omega
 ·rw [Ag ha,Ag (by decide)] at e; omega
theorem SZ (j k:Nat) (hj:j≤40000) (hk:k≤40000) (a b:Int) (ha:Bn j a) (hb:Bn k b) (h0:b≠0) (w:World) (hG:G w) :
 Calls Tryz.prog 167 #[.string (tx a),.string (tx b)] w fun e w'=>e=.returned (.tuple #[.string (tx (a.fdiv b)),.string (tx (a.fmod b))])∧Fr w w':=by
 obtain ⟨va,ba,ha1,ha2,hqa⟩:=F5 a j (by omega) ha
 obtain ⟨vb,bb,hb1,hb2,hqb⟩:=F5 b k (by omega) hb
 by_cases hboth:ba=true∧bb=true
 ·exact QI a b (ha1 hboth.1).2 (hb1 hboth.2).2 h0 w hG
 ·obtain ⟨hda,hsa⟩:=GL a j (by omega) ha
  obtain ⟨hdb,hsb⟩:=GL b k (by omega) hb
  have hna:=hZ (fun W=>JU a W)
  have hnb:=hZ (fun W=>JU b W)
  have hla:=ha.digs
  have hlb:=hb.digs
  have hdv:=hZ (fun W p q c d (h1:El W iv p (digs a.natAbs)) (h2:El W iv q (digs b.natAbs))=>Vf a.natAbs b.natAbs (by omega) p q c d W h1 h2 (by omega) (by omega))
  have hGf:=hZ (fun W (hW:Fr w W)=>hG.fr hW)
  have hvq:=JB a b
  have hvr:=HR a b
  have hNq:Bn j ((a.natAbs / b.natAbs:Nat):Int):=by
   show (((a.natAbs / b.natAbs:Nat):Int)).natAbs < _
   rw [AJ]; exact A4 (DA _ _) ha
  have hNr:Bn k ((a.natAbs % b.natAbs:Nat):Int):=by
   show (((a.natAbs % b.natAbs:Nat):Int)).natAbs < _
   rw [AJ]; exact Nat.lt_trans (CE _ (by omega)) hb
  have hqs:=hNq.size
  have hqd:=hNq.digs
  have hrs:=hNr.size
  have hrd:=hNr.digs
  rw [AJ] at hqs hqd hrs hrd
  have hsq:=hZ (fun W p c (hW:Fr w W) (h1:El W iv p (digs (a.natAbs / b.natAbs))) (h2:(digs (a.natAbs / b.natAbs)).length≤c)=>GK (sd a != sd b) (a.natAbs / b.natAbs) _ (EM _) p c W (hGf.out _ hW) h1 (by omega) (by omega) h2)
  have hsr:=hZ (fun W p c (hW:Fr w W) (h1:El W iv p (digs (a.natAbs % b.natAbs))) (h2:(digs (a.natAbs % b.natAbs)).length≤c)=>GK (decide (sd a < 0)) (a.natAbs % b.natAbs) _ (EM _) p c W (hGf.out _ hW) h1 (by omega) (by omega) h2)
  rw [hvq] at hsq
  rw [hvr] at hsr
  have hbq:Bn (j+1) (a.tdiv b):=by
   show (a.tdiv b).natAbs < _
   have:=IL a b
   exact A4 this (Bn.mono ha (by omega))
  have hbr:Bn (j+k) (a.tmod b):=by
   show (a.tmod b).natAbs < _
   exact Nat.lt_trans (FN a b h0) (Bn.mono hb (by omega))
  have hsub:=hZ (fun W (hW:G W)=>Vg (j+1) (by omega) (a.tdiv b) 1 hbq (Bn.mono (j:=1) (by unfold Bn; decide) (by omega)) W hW)
  have hadd:=hZ (fun W (hW:G W)=>Vj (j+k) (by omega) (a.tmod b) b hbr (Bn.mono hb (by omega)) W hW)
  rw [show tx 1=⟨#[49]⟩ from Fo] at hsub
  have hzr:=Cn (a.tmod b)
  by_cases hc:a.tmod b≠0∧¬ (a < 0 ↔ b < 0)
  ·have hfin:=hZ (Eq a b h0 hc.1 (by rw [KD hc.1]; exact hc.2))
   have e1:((tx (a.tmod b)).toList == [48])=false:=by rw [hzr]; exact Aa hc.1
   have e2:(sd a != sd b)=true:=(TO a b).2 hc.2
   generalize digs (a.natAbs / b.natAbs)=xq at *
   generalize digs (a.natAbs % b.natAbs)=xr at *
   generalize digs a.natAbs=xa at *
   generalize digs b.natAbs=xb at *
   generalize tx (a.natAbs:Int)=ta at *
   generalize tx (b.natAbs:Int)=tb' at *
   generalize hA:a.fdiv b=fq at *
   generalize hB:a.fmod b=fr at *
   generalize a.tdiv b=tq at *
   generalize a.tmod b=tr at *
   generalize tx a=sa at *
   generalize tx b=sb' at *
   obtain ⟨za,hza⟩:∃ za,za=sd a:=⟨_,rfl⟩
   obtain ⟨zb,hzb⟩:∃ zb,zb=sd b:=⟨_,rfl⟩
   rw [← hza] at hna hsq hsr e2
   rw [← hzb] at hnb hsq e2
   rw [e2] at hsq
   clear hG ha hb ha1 hb1 hvq hvr hNq hNr hqs hqd hrs hrd hbq hbr hzr hc hla hlb h0 hA hB hza hzb
   rcases ha2 with rfl | rfl <;> rcases hb2 with rfl | rfl
   ·exact absurd ⟨rfl,rfl⟩ hboth
   all_goals
    clear hboth
    go_enter Tryz.func167,Tryz.ntmps167
    go_wp2_with fail
    refine (hqa.out _).mono ?_; rintro e w1 ⟨rfl,rfl⟩
    go_wp2_with fail
    refine (hqb.out _).mono ?_; rintro e w1 ⟨rfl,rfl⟩
    go_wp2_with fail
    refine (hda.out _).mono ?_; rintro e w1 ⟨rfl,rfl⟩
    go_wp2_with fail
    refine (hsa.out _).mono ?_; rintro e w1 ⟨pa,ca,rfl,hea,-,hf1⟩
    replace hea:=hZ hea
    go_wp2_with fail
    refine (hdb.out _).mono ?_; rintro e w2 ⟨rfl,rfl⟩
    go_wp2_with fail
    refine (hsb.out _).mono ?_; rintro e w2 ⟨pb,cb,rfl,heb,-,hf2⟩
    replace heb:=hZ heb
    go_wp2_with fail
    refine (hdv.out _ _ _ _ _ (hea.out.fr hf2) heb.out).mono ?_; rintro e w3 ⟨pc,cc,pd,cd,rfl,hec,hlc,hed,hld,hf3⟩
    replace hec:=hZ hec
    replace hed:=hZ hed
    replace hlc:=hZ hlc
    replace hld:=hZ hld
    go_wp2_with fail
    refine (hna.out _).mono ?_; rintro e w4 ⟨rfl,rfl⟩
    go_wp2_with fail
    refine (hnb.out _).mono ?_; rintro e w4 ⟨rfl,rfl⟩
    go_wp2_with fail
    refine (hsq.out _ _ _ ((hf1.trans hf2).trans hf3) hec.out hlc.out).mono ?_; rintro e w4 ⟨rfl,hf4⟩
    go_wp2_with fail
    refine (hna.out _).mono ?_; rintro e w5 ⟨rfl,rfl⟩
    go_wp2_with fail
    refine (hsr.out _ _ _ (((hf1.trans hf2).trans hf3).trans hf4) (hed.out.fr hf4) hld.out).mono ?_; rintro e w5 ⟨rfl,hf5⟩
    go_wp2_with fail
    refine (hna.out _).mono ?_; rintro e w6 ⟨rfl,rfl⟩
    go_wp2_with fail
    refine (hnb.out _).mono ?_; rintro e w6 ⟨rfl,rfl⟩
    go_wp2_with fail
    refine (hsub.out _ (hGf.out _ ((((hf1.trans hf2).trans hf3).trans hf4).trans hf5))).mono ?_; rintro e w6 ⟨rfl,hf6⟩
    go_wp2_with fail
    refine (hadd.out _ (hGf.out _ (((((hf1.trans hf2).trans hf3).trans hf4).trans hf5).trans hf6))).mono ?_; rintro e w7 ⟨rfl,hf7⟩
    go_wp2_with fail
    go_ret2
    exact ⟨by rw [hfin.out.1,hfin.out.2]; rfl,(((((hf1.trans hf2).trans hf3).trans hf4).trans hf5).trans hf6).trans hf7⟩
  ·by_cases hz:a.tmod b=0
   ·have hfin:=hZ (C4 a b h0 (.inl hz))
    have e1:((tx (a.tmod b)).toList == [48])=true:=by rw [hzr]; exact Ab hz
    have e2:(sd a != sd b)=(sd a != sd b):=rfl
    generalize digs (a.natAbs / b.natAbs)=xq at *
    generalize digs (a.natAbs % b.natAbs)=xr at *
    generalize digs a.natAbs=xa at *
    generalize digs b.natAbs=xb at *
    generalize tx (a.natAbs:Int)=ta at *
    generalize tx (b.natAbs:Int)=tb' at *
    generalize hA:a.fdiv b=fq at *
    generalize hB:a.fmod b=fr at *
    generalize a.tdiv b=tq at *
    generalize a.tmod b=tr at *
    generalize tx a=sa at *
    generalize tx b=sb' at *
    obtain ⟨za,hza⟩:∃ za,za=sd a:=⟨_,rfl⟩
    obtain ⟨zb,hzb⟩:∃ zb,zb=sd b:=⟨_,rfl⟩
    rw [← hza] at hna hsq hsr e2
    rw [← hzb] at hnb hsq e2
    clear hG ha hb ha1 hb1 hvq hvr hNq hNr hqs hqd hrs hrd hbq hbr hzr hc hla hlb h0 hA hB hza hzb e2 hsub hadd hz
    rcases ha2 with rfl | rfl <;> rcases hb2 with rfl | rfl
    ·exact absurd ⟨rfl,rfl⟩ hboth
    all_goals
     clear hboth
     go_enter Tryz.func167,Tryz.ntmps167
     go_wp2_with fail
     refine (hqa.out _).mono ?_; rintro e w1 ⟨rfl,rfl⟩
     go_wp2_with fail
     refine (hqb.out _).mono ?_; rintro e w1 ⟨rfl,rfl⟩
     go_wp2_with fail
     refine (hda.out _).mono ?_; rintro e w1 ⟨rfl,rfl⟩
     go_wp2_with fail
     refine (hsa.out _).mono ?_; rintro e w1 ⟨pa,ca,rfl,hea,-,hf1⟩
     replace hea:=hZ hea
     go_wp2_with fail
     refine (hdb.out _).mono ?_; rintro e w2 ⟨rfl,rfl⟩
     go_wp2_with fail
     refine (hsb.out _).mono ?_; rintro e w2 ⟨pb,cb,rfl,heb,-,hf2⟩
     replace heb:=hZ heb
     go_wp2_with fail
     refine (hdv.out _ _ _ _ _ (hea.out.fr hf2) heb.out).mono ?_; rintro e w3 ⟨pc,cc,pd,cd,rfl,hec,hlc,hed,hld,hf3⟩
     replace hec:=hZ hec
     replace hed:=hZ hed
     replace hlc:=hZ hlc
     replace hld:=hZ hld
     go_wp2_with fail
     refine (hna.out _).mono ?_; rintro e w4 ⟨rfl,rfl⟩
     go_wp2_with fail
     refine (hnb.out _).mono ?_; rintro e w4 ⟨rfl,rfl⟩
     go_wp2_with fail
     refine (hsq.out _ _ _ ((hf1.trans hf2).trans hf3) hec.out hlc.out).mono ?_; rintro e w4 ⟨rfl,hf4⟩
     go_wp2_with fail
     refine (hna.out _).mono ?_; rintro e w5 ⟨rfl,rfl⟩
     go_wp2_with fail
     refine (hsr.out _ _ _ (((hf1.trans hf2).trans hf3).trans hf4) (hed.out.fr hf4) hld.out).mono ?_; rintro e w5 ⟨rfl,hf5⟩
     go_wp2_with fail
     go_ret2
     exact ⟨by rw [hfin.out.1,hfin.out.2]; rfl,(((hf1.trans hf2).trans hf3).trans hf4).trans hf5⟩
   ·have hsm:(a < 0 ↔ b < 0):=AB fun h=>hc ⟨hz,h⟩
    have hfin:=hZ (C4 a b h0 (.inr (by rw [KD hz]; exact hsm)))
    have e1:((tx (a.tmod b)).toList == [48])=false:=by rw [hzr]; exact Aa hz
    have e2:(sd a != sd b)=false:=by cases h:(sd a != sd b) with
     | false=>rfl
     | true=>exact absurd hsm ((TO a b).1 h)
    generalize digs (a.natAbs / b.natAbs)=xq at *
    generalize digs (a.natAbs % b.natAbs)=xr at *
    generalize digs a.natAbs=xa at *
    generalize digs b.natAbs=xb at *
    generalize tx (a.natAbs:Int)=ta at *
    generalize tx (b.natAbs:Int)=tb' at *
    generalize hA:a.fdiv b=fq at *
    generalize hB:a.fmod b=fr at *
    generalize a.tdiv b=tq at *
    generalize a.tmod b=tr at *
    generalize tx a=sa at *
    generalize tx b=sb' at *
    obtain ⟨za,hza⟩:∃ za,za=sd a:=⟨_,rfl⟩
    obtain ⟨zb,hzb⟩:∃ zb,zb=sd b:=⟨_,rfl⟩
    rw [← hza] at hna hsq hsr e2
    rw [← hzb] at hnb hsq e2
    rw [e2] at hsq
    clear hG ha hb ha1 hb1 hvq hvr hNq hNr hqs hqd hrs hrd hbq hbr hzr hc hla hlb h0 hA hB hza hzb hsub hadd hz hsm
    rcases ha2 with rfl | rfl <;> rcases hb2 with rfl | rfl
    ·exact absurd ⟨rfl,rfl⟩ hboth
    all_goals
     clear hboth
     go_enter Tryz.func167,Tryz.ntmps167
     go_wp2_with fail
     refine (hqa.out _).mono ?_; rintro e w1 ⟨rfl,rfl⟩
     go_wp2_with fail
     refine (hqb.out _).mono ?_; rintro e w1 ⟨rfl,rfl⟩
     go_wp2_with fail
     refine (hda.out _).mono ?_; rintro e w1 ⟨rfl,rfl⟩
     go_wp2_with fail
     refine (hsa.out _).mono ?_; rintro e w1 ⟨pa,ca,rfl,hea,-,hf1⟩
     replace hea:=hZ hea
     go_wp2_with fail
     refine (hdb.out _).mono ?_; rintro e w2 ⟨rfl,rfl⟩
     go_wp2_with fail
     refine (hsb.out _).mono ?_; rintro e w2 ⟨pb,cb,rfl,heb,-,hf2⟩
     replace heb:=hZ heb
     go_wp2_with fail
     refine (hdv.out _ _ _ _ _ (hea.out.fr hf2) heb.out).mono ?_; rintro e w3 ⟨pc,cc,pd,cd,rfl,hec,hlc,hed,hld,hf3⟩
     replace hec:=hZ hec
     replace hed:=hZ hed
     replace hlc:=hZ hlc
     replace hld:=hZ hld
     go_wp2_with fail
     refine (hna.out _).mono ?_; rintro e w4 ⟨rfl,rfl⟩
     go_wp2_with fail
     refine (hnb.out _).mono ?_; rintro e w4 ⟨rfl,rfl⟩
     go_wp2_with fail
     refine (hsq.out _ _ _ ((hf1.trans hf2).trans hf3) hec.out hlc.out).mono ?_; rintro e w4 ⟨rfl,hf4⟩
     go_wp2_with fail
     refine (hna.out _).mono ?_; rintro e w5 ⟨rfl,rfl⟩
     go_wp2_with fail
     refine (hsr.out _ _ _ (((hf1.trans hf2).trans hf3).trans hf4) (hed.out.fr hf4) hld.out).mono ?_; rintro e w5 ⟨rfl,hf5⟩
     go_wp2_with fail
     refine (hna.out _).mono ?_; rintro e w6 ⟨rfl,rfl⟩
     go_wp2_with fail
     refine (hnb.out _).mono ?_; rintro e w6 ⟨rfl,rfl⟩
     go_wp2_with fail
     go_ret2
     exact ⟨by rw [hfin.out.1,hfin.out.2]; rfl,(((hf1.trans hf2).trans hf3).trans hf4).trans hf5⟩
theorem S9 (a b:Int) (a1:-1000000000000000000 < a) (a2:a < 1000000000000000000) (b1:-1000000000000000000 < b) (b2:b < 1000000000000000000) (sa:(tx a).size≤18) (sb:(tx b).size≤18) (h0:b≠0) (w:World) (hG:G w) :
 Calls Tryz.prog 112 #[.string (tx a),.string (tx b)] w fun e w'=>e=.returned (.tuple #[.string (tx (a.fdiv b)),.string (tx (a.fmod b)),.int .i64 0])∧Fr w w':=by
 have hz:((tx b).toList == [48])=false:=by rw [Cn]; exact Aa h0
 have td:=IL a b
 have tm:=FN a b h0
 have k1:IntKind.i64.wrap (a.tdiv b)=a.tdiv b:=Ak _ (by omega)
 have k2:IntKind.i64.wrap (a.tmod b)=a.tmod b:=Ak _ (by omega)
 by_cases hr0:a.tmod b=0
 ·have hfin:=hZ (show a.fdiv b=a.tdiv b∧a.fmod b=0 from by have:=C4 a b h0 (.inl hr0); rw [hr0] at this; exact this)
  have c1:(a.tmod b != 0)=false:=by rw [hr0]; rfl
  have tm1:-1000000000000000000 < a.tmod b∧a.tmod b < 1000000000000000000:=by omega
  have td1:-1000000000000000000 < a.tdiv b∧a.tdiv b < 1000000000000000000:=by omega
  obtain ⟨tm1,tm2⟩:=tm1
  obtain ⟨td1,td2⟩:=td1
  clear td tm
  go_enter Tryz.func112,Tryz.ntmps112
  go_wp2_with fail
  refine (BX a 18 (by omega) (by omega) _ (by omega)).mono ?_; rintro e w1 ⟨rfl,hf1⟩
  go_wp2_with fail
  refine (BX b 18 (by omega) (by omega) _ (by omega)).mono ?_; rintro e w2 ⟨rfl,hf2⟩
  go_wp2_with fail
  go_quiet (fail)
  clear k1 k2
  have hfq:=hf1.trans hf2
  go_wp2_with fail
  refine (Cs _ (by omega) (by omega) _ (hG.fr (by exact B9))).mono ?_; rintro e w3 ⟨rfl,hf3⟩
  go_wp2_with fail
  refine (Cs _ (by omega) (by omega) _ (hG.fr (by exact B9))).mono ?_; rintro e w4 ⟨rfl,hf4⟩
  go_wp2_with fail
  go_ret3
  exact ⟨by rw [hfin.out.1,hfin.out.2]; rfl,by exact B9⟩
 ·have c1:(a.tmod b != 0)=true:=by rw [Bs]; exact hr0
  by_cases hr:a.tmod b < 0 <;> by_cases hb:b < 0
  ·have hfin:=hZ (C4 a b h0 (.inr (by simp [hr,hb])))
   have c2:(decide (a.tmod b < 0))=true:=Ab hr
   have c3:(decide (b < 0))=true:=Ab hb
   have tm1:-1000000000000000000 < a.tmod b:=by omega
   have tm2:a.tmod b < 1000000000000000000:=by omega
   have td1:-1000000000000000000 < a.tdiv b:=by omega
   have td2:a.tdiv b < 1000000000000000000:=by omega
   clear td tm hr0 hr hb
   go_enter Tryz.func112,Tryz.ntmps112
   go_wp2_with fail
   refine (BX a 18 (by omega) (by omega) _ (by omega)).mono ?_; rintro e w1 ⟨rfl,hf1⟩
   go_wp2_with fail
   refine (BX b 18 (by omega) (by omega) _ (by omega)).mono ?_; rintro e w2 ⟨rfl,hf2⟩
   go_wp2_with fail
   go_quiet (fail)
   clear k1 k2
   have hfq:=hf1.trans hf2
   go_wp2_with fail
   refine (Cs _ (by omega) (by omega) _ (hG.fr (by exact B9))).mono ?_; rintro e w3 ⟨rfl,hf3⟩
   go_wp2_with fail
   refine (Cs _ (by omega) (by omega) _ (hG.fr (by exact B9))).mono ?_; rintro e w4 ⟨rfl,hf4⟩
   go_wp2_with fail
   go_ret3
   exact ⟨by rw [hfin.out.1,hfin.out.2]; rfl,by exact B9⟩
  ·have hfin:=hZ (Eq a b h0 hr0 (by simp [hr,hb]))
   have c2:(decide (a.tmod b < 0))=true:=Ab hr
   have c3:(decide (b < 0))=false:=Aa hb
   have tm1:-1000000000000000000 < a.tmod b:=by omega
   have tm2:a.tmod b < 1000000000000000000:=by omega
   have td1:-1000000000000000000 < a.tdiv b:=by omega
   have td2:a.tdiv b < 1000000000000000000:=by omega
   clear td tm hr0 hr hb
   go_enter Tryz.func112,Tryz.ntmps112
   go_wp2_with fail
   refine (BX a 18 (by omega) (by omega) _ (by omega)).mono ?_; rintro e w1 ⟨rfl,hf1⟩
   go_wp2_with fail
   refine (BX b 18 (by omega) (by omega) _ (by omega)).mono ?_; rintro e w2 ⟨rfl,hf2⟩
   go_wp2_with fail
   go_quiet (fail)
   clear k1 k2
   have hfq:=hf1.trans hf2
   go_wp2_with fail
   refine (Cs _ (by omega) (by omega) _ (hG.fr (by exact B9))).mono ?_; rintro e w3 ⟨rfl,hf3⟩
   go_wp2_with fail
   refine (Cs _ (by omega) (by omega) _ (hG.fr (by exact B9))).mono ?_; rintro e w4 ⟨rfl,hf4⟩
   go_wp2_with fail
   go_ret3
   exact ⟨by rw [hfin.out.1,hfin.out.2]; rfl,by exact B9⟩
  ·have hfin:=hZ (Eq a b h0 hr0 (by simp [hr,hb]))
   have c2:(decide (a.tmod b < 0))=false:=Aa hr
   have c3:(decide (b < 0))=true:=Ab hb
   have tm1:-1000000000000000000 < a.tmod b:=by omega
   have tm2:a.tmod b < 1000000000000000000:=by omega
   have td1:-1000000000000000000 < a.tdiv b:=by omega
   have td2:a.tdiv b < 1000000000000000000:=by omega
   clear td tm hr0 hr hb
   go_enter Tryz.func112,Tryz.ntmps112
   go_wp2_with fail
   refine (BX a 18 (by omega) (by omega) _ (by omega)).mono ?_; rintro e w1 ⟨rfl,hf1⟩
   go_wp2_with fail
   refine (BX b 18 (by omega) (by omega) _ (by omega)).mono ?_; rintro e w2 ⟨rfl,hf2⟩
   go_wp2_with fail
   go_quiet (fail)
   clear k1 k2
   have hfq:=hf1.trans hf2
   go_wp2_with fail
   refine (Cs _ (by omega) (by omega) _ (hG.fr (by exact B9))).mono ?_; rintro e w3 ⟨rfl,hf3⟩
   go_wp2_with fail
   refine (Cs _ (by omega) (by omega) _ (hG.fr (by exact B9))).mono ?_; rintro e w4 ⟨rfl,hf4⟩
   go_wp2_with fail
   go_ret3
   exact ⟨by rw [hfin.out.1,hfin.out.2]; rfl,by exact B9⟩
  ·have hfin:=hZ (C4 a b h0 (.inr (by simp [hr,hb])))
   have c2:(decide (a.tmod b < 0))=false:=Aa hr
   have c3:(decide (b < 0))=false:=Aa hb
   have tm1:-1000000000000000000 < a.tmod b:=by omega
   have tm2:a.tmod b < 1000000000000000000:=by omega
   have td1:-1000000000000000000 < a.tdiv b:=by omega
   have td2:a.tdiv b < 1000000000000000000:=by omega
   clear td tm hr0 hr hb
   go_enter Tryz.func112,Tryz.ntmps112
   go_wp2_with fail
   refine (BX a 18 (by omega) (by omega) _ (by omega)).mono ?_; rintro e w1 ⟨rfl,hf1⟩
   go_wp2_with fail
   refine (BX b 18 (by omega) (by omega) _ (by omega)).mono ?_; rintro e w2 ⟨rfl,hf2⟩
   go_wp2_with fail
   go_quiet (fail)
   clear k1 k2
   have hfq:=hf1.trans hf2
   go_wp2_with fail
   refine (Cs _ (by omega) (by omega) _ (hG.fr (by exact B9))).mono ?_; rintro e w3 ⟨rfl,hf3⟩
   go_wp2_with fail
   refine (Cs _ (by omega) (by omega) _ (hG.fr (by exact B9))).mono ?_; rintro e w4 ⟨rfl,hf4⟩
   go_wp2_with fail
   go_ret3
   exact ⟨by rw [hfin.out.1,hfin.out.2]; rfl,by exact B9⟩
theorem RC {a b:Int} (hb:b≠0) (h:(a < 0 ↔ b < 0)∨a.natAbs % b.natAbs=0):(if (decide (a < 0) != decide (b < 0))=true then -((a.natAbs / b.natAbs:Nat):Int) else ((a.natAbs / b.natAbs:Nat):Int))=a.fdiv b∧(if decide (b < 0)=true then -((a.natAbs % b.natAbs:Nat):Int) else ((a.natAbs % b.natAbs:Nat):Int))=a.fmod b:=by
 have h1:=JB a b
 have h2:=HR a b
 have hs:(decide (a < 0) != decide (b < 0))=(sd a != sd b):=by
  unfold sd
  by_cases h0:a < 0 <;> by_cases h3:b < 0 <;> simp [h0,h3]
 have hs2:decide (sd a < 0)=decide (a < 0):=by
  unfold sd
  by_cases h0:a < 0 <;> simp [h0]
 rw [hs2] at h2
 unfold G1 at h1 h2
 rw [hs,h1]
 have hz:a.tmod b=0∨(a.tmod b < 0 ↔ b < 0):=by
  by_cases h0:a.tmod b=0
  ·exact .inl h0
  ·rcases h with h | h
   ·exact .inr (by rw [KD h0]; exact h)
   ·rw [h] at h2
    refine absurd h2.symm (fun e=>h0 ?_)
    rw [e]; split <;> rfl
 obtain ⟨e1,e2⟩:=C4 a b hb hz
 refine ⟨e1.symm, ?_⟩
 rw [e2,← h2]
 rcases h with h | h
 ·by_cases h0:a < 0
  ·rw [Ab h0,Ab (h.1 h0)]
  ·rw [Aa h0,Aa (fun e=>h0 (h.2 e))]
 ·rw [h]; split <;> split <;> rfl
theorem Ws {a b:Int} (hb:b≠0) (h:¬ (a < 0 ↔ b < 0)) (h0:a.natAbs % b.natAbs≠0):-((a.natAbs / b.natAbs+1:Nat):Int)=a.fdiv b∧(if decide (b < 0)=true then -((b.natAbs - a.natAbs % b.natAbs:Nat):Int) else ((b.natAbs - a.natAbs % b.natAbs:Nat):Int))=a.fmod b:=by
 have h1:=JB a b
 have h2:=HR a b
 have hs2:decide (sd a < 0)=decide (a < 0):=by
  unfold sd
  by_cases h0:a < 0 <;> simp [h0]
 rw [hs2] at h2
 have hs3:(sd a != sd b)=true:=(TO a b).2 h
 rw [hs3] at h1
 unfold G1 at h1 h2
 rw [Ai rfl] at h1
 have hml:=CE a.natAbs (show 0 < b.natAbs by omega)
 have ht0:a.tmod b≠0:=fun e=>by
  rw [e] at h2
  split at h2 <;> omega
 obtain ⟨e1,e2⟩:=Eq a b hb ht0 (by rw [KD ht0]; exact h)
 rw [e1,e2,← h1,← h2]
 generalize a.natAbs / b.natAbs=q
 generalize a.natAbs % b.natAbs=r at *
 refine ⟨by omega, ?_⟩
 by_cases h3:a < 0
 ·have h4:¬ b < 0:=fun e=>h ⟨fun _=>e,fun _=>h3⟩
  rw [Ab h3,Aa h4,Ai rfl,Ag (by decide)]; omega
 ·have h4:b < 0:=AW fun e=>h ⟨fun e2=>absurd e2 h3,fun e2=>absurd e2 e⟩
  rw [Aa h3,Ab h4,Ai rfl,Ag (by decide)]; omega
theorem LQ (j k:Nat) (hj:j≤40000000) (hk:k≤40000000) (a b:Int) (ha:Bn j a) (hb:Bn k b) (h0:b≠0) (w:World) (hG:G w) :
 Calls Tryz.prog 112 #[.string (tx a),.string (tx b)] w fun e w'=>e=.returned (.tuple #[.string (tx (a.fdiv b)),.string (tx (a.fmod b)),.int .i64 0])∧Fr w w':=by
 have sa:=ha.size
 have sb:=hb.size
 have sa2:=ha.size2
 have sb2:=hb.size2
 obtain ⟨va,ba,hva,hba,hla⟩:=J6 a 18 (by omega) (by omega)
 obtain ⟨vb,bb,hvb,hbb,hlb⟩:=J6 b 18 (by omega) (by omega)
 by_cases hboth:ba=true∧bb=true
 ·obtain ⟨-,a1,a2,a3⟩:=hva hboth.1
  obtain ⟨-,b1,b2,b3⟩:=hvb hboth.2
  exact S9 a b a1 a2 b1 b2 a3 b3 h0 w hG
 have hbb2:ba=false∨(ba=true∧bb=false):=by
  rcases hba with rfl | rfl
  ·rcases hbb with rfl | rfl
   ·exact absurd ⟨rfl,rfl⟩ hboth
   ·exact .inr ⟨rfl,rfl⟩
  ·exact .inl rfl
 clear hva hvb hba hbb hboth
 have hsa:=hZ (fun W=>EN a W (by omega))
 have hsb:=hZ (fun W=>EN b W (by omega))
 have hz0:((tx b).toList == [48])=false:=by rw [Cn]; exact Aa h0
 have hy0:b.natAbs≠0:=by omega
 have hdv:=hZ (fun W (hW:Fr w W)=>VH a.natAbs b.natAbs hy0 (by omega) (by omega) W (hG.fr hW))
 have hqs:=EP (DA a.natAbs b.natAbs)
 have hml:=CE a.natAbs (show 0 < b.natAbs by omega)
 have hrs:=EP (Ch hml)
 have hr0:=Cn ((a.natAbs % b.natAbs:Nat):Int)
 by_cases hsg:(a < 0 ↔ b < 0)
 ·obtain ⟨f1,f2⟩:=RC h0 (.inl hsg)
  have hde:decide (b < 0)=decide (a < 0):=by
   by_cases h3:a < 0
   ·rw [Ab h3,Ab (hsg.1 h3)]
   ·rw [Aa h3,Aa (fun h=>h3 (hsg.2 h))]
  rw [hde] at hsb f1 f2
  have hj1:=hZ (fun W=>by
   have h:=Du (decide (a < 0) != decide (a < 0)) ((a.natAbs / b.natAbs:Nat):Int) (Aj _) W (by omega)
   rw [f1] at h
   exact h)
  have hj2:=hZ (fun W=>by
   have h:=Du (decide (a < 0)) ((a.natAbs % b.natAbs:Nat):Int) (Aj _) W (by omega)
   rw [f2] at h
   exact h)
  clear f1 f2 hde hqs hml hrs hr0 hsg hy0 h0
  generalize a.natAbs / b.natAbs=q at *
  generalize a.natAbs % b.natAbs=r at *
  generalize a.natAbs=x at *
  generalize b.natAbs=y at *
  generalize decide (a < 0)=s1 at *
  cases s1
  all_goals
   rcases hbb2 with rfl | ⟨rfl,rfl⟩
   ·go_enter Tryz.func112,Tryz.ntmps112
    go_wp2_with fail
    refine (hla.out _).mono ?_
    rintro e w1 ⟨rfl,hf1⟩
    go_wp2_with fail
    refine (hsa.out _).mono ?_
    rintro e w3 ⟨rfl,hf3⟩
    go_wp2_with fail
    refine (hsb.out _).mono ?_
    rintro e w4 ⟨rfl,hf4⟩
    have hfw:=(hf1.trans hf3).trans hf4
    have h9:=hZ (hdv.out w4 hfw)
    go_wp2_with fail
    refine h9.out.mono ?_
    rintro e w5 ⟨rfl,hf5⟩
    have hfv:=hfw.trans hf5
    obtain ⟨w6,rfl⟩:∃ w6:World,w6=w5:=⟨_,rfl⟩
    have h8:=hZ (hj1.out w6)
    go_wp2_with fail
    refine h8.out.mono ?_
    rintro e w7 ⟨rfl,rfl⟩
    have h7:=hZ (hj2.out w6)
    go_wp2_with fail
    refine h7.out.mono ?_
    rintro e w8 ⟨rfl,rfl⟩
    go_wp2_with fail
    go_ret3
    exact ⟨rfl,hfv⟩
   ·go_enter Tryz.func112,Tryz.ntmps112
    go_wp2_with fail
    refine (hla.out _).mono ?_
    rintro e w1 ⟨rfl,hf1⟩
    go_wp2_with fail
    refine (hlb.out _).mono ?_
    rintro e w2 ⟨rfl,hf2⟩
    go_wp2_with fail
    refine (hsa.out _).mono ?_
    rintro e w3 ⟨rfl,hf3⟩
    go_wp2_with fail
    refine (hsb.out _).mono ?_
    rintro e w4 ⟨rfl,hf4⟩
    have hfw:=((hf1.trans hf2).trans hf3).trans hf4
    have h9:=hZ (hdv.out w4 hfw)
    go_wp2_with fail
    refine h9.out.mono ?_
    rintro e w5 ⟨rfl,hf5⟩
    have hfv:=hfw.trans hf5
    obtain ⟨w6,rfl⟩:∃ w6:World,w6=w5:=⟨_,rfl⟩
    have h8:=hZ (hj1.out w6)
    go_wp2_with fail
    refine h8.out.mono ?_
    rintro e w7 ⟨rfl,rfl⟩
    have h7:=hZ (hj2.out w6)
    go_wp2_with fail
    refine h7.out.mono ?_
    rintro e w8 ⟨rfl,rfl⟩
    go_wp2_with fail
    go_ret3
    exact ⟨rfl,hfv⟩
 ·have hne:(decide (a < 0) != decide (b < 0))=true:=by
   by_cases h3:a < 0
   ·have:¬ b < 0:=fun h=>hsg ⟨fun _=>h,fun _=>h3⟩
    rw [Ab h3,Aa this]; rfl
   ·have:b < 0:=AW fun h=>hsg ⟨fun h1=>absurd h1 h3,fun h1=>absurd h1 h⟩
    rw [Aa h3,Ab this]; rfl
  by_cases hr9:a.natAbs % b.natAbs=0
  ·obtain ⟨f1,f2⟩:=RC h0 (.inr hr9)
   have hj1:=hZ (fun W=>by
    have h:=Du (decide (a < 0) != decide (b < 0)) ((a.natAbs / b.natAbs:Nat):Int) (Aj _) W (by omega)
    rw [f1] at h
    exact h)
   have hj2:=hZ (fun W=>by
    have h:=Du (decide (b < 0)) ((a.natAbs % b.natAbs:Nat):Int) (Aj _) W (by omega)
    rw [f2] at h
    exact h)
   rw [Ab (by omega)] at hr0
   clear f1 f2 hqs hml hrs hsg hy0 h0 hr9
   generalize a.natAbs / b.natAbs=q at *
   generalize a.natAbs % b.natAbs=r at *
   generalize a.natAbs=x at *
   generalize b.natAbs=y at *
   generalize decide (a < 0)=s1 at *
   generalize decide (b < 0)=s2 at *
   cases s1 <;> cases s2
   all_goals first | (exact absurd hne (by decide)) | skip
   all_goals
    rcases hbb2 with rfl | ⟨rfl,rfl⟩
    ·go_enter Tryz.func112,Tryz.ntmps112
     go_wp2_with fail
     refine (hla.out _).mono ?_
     rintro e w1 ⟨rfl,hf1⟩
     go_wp2_with fail
     refine (hsa.out _).mono ?_
     rintro e w3 ⟨rfl,hf3⟩
     go_wp2_with fail
     refine (hsb.out _).mono ?_
     rintro e w4 ⟨rfl,hf4⟩
     have hfw:=(hf1.trans hf3).trans hf4
     have h9:=hZ (hdv.out w4 hfw)
     go_wp2_with fail
     refine h9.out.mono ?_
     rintro e w5 ⟨rfl,hf5⟩
     have hfv:=hfw.trans hf5
     obtain ⟨w6,rfl⟩:∃ w6:World,w6=w5:=⟨_,rfl⟩
     have h8:=hZ (hj1.out w6)
     go_wp2_with fail
     refine h8.out.mono ?_
     rintro e w7 ⟨rfl,rfl⟩
     have h7:=hZ (hj2.out w6)
     go_wp2_with fail
     refine h7.out.mono ?_
     rintro e w8 ⟨rfl,rfl⟩
     go_wp2_with fail
     go_ret3
     exact ⟨rfl,hfv⟩
    ·go_enter Tryz.func112,Tryz.ntmps112
     go_wp2_with fail
     refine (hla.out _).mono ?_
     rintro e w1 ⟨rfl,hf1⟩
     go_wp2_with fail
     refine (hlb.out _).mono ?_
     rintro e w2 ⟨rfl,hf2⟩
     go_wp2_with fail
     refine (hsa.out _).mono ?_
     rintro e w3 ⟨rfl,hf3⟩
     go_wp2_with fail
     refine (hsb.out _).mono ?_
     rintro e w4 ⟨rfl,hf4⟩
     have hfw:=((hf1.trans hf2).trans hf3).trans hf4
     have h9:=hZ (hdv.out w4 hfw)
     go_wp2_with fail
     refine h9.out.mono ?_
     rintro e w5 ⟨rfl,hf5⟩
     have hfv:=hfw.trans hf5
     obtain ⟨w6,rfl⟩:∃ w6:World,w6=w5:=⟨_,rfl⟩
     have h8:=hZ (hj1.out w6)
     go_wp2_with fail
     refine h8.out.mono ?_
     rintro e w7 ⟨rfl,rfl⟩
     have h7:=hZ (hj2.out w6)
     go_wp2_with fail
     refine h7.out.mono ?_
     rintro e w8 ⟨rfl,rfl⟩
     go_wp2_with fail
     go_ret3
     exact ⟨rfl,hfv⟩
  ·obtain ⟨f1,f2⟩:=Ws h0 hsg hr9
   have hqd:=DA a.natAbs b.natAbs
   have hq1:=hZ (fun W (hW:Fr w W)=>Xs (a.natAbs / b.natAbs) 1 (by omega) (by rw [show ((1:Nat):Int)=1 from rfl,Fo]; decide) W (hG.fr hW))
   rw [show tx ((1:Nat):Int)=⟨#[49]⟩ from Fo] at hq1
   have hr1:=hZ (fun W (hW:Fr w W)=>VD b.natAbs (a.natAbs % b.natAbs) (Ch hml) (by omega) W (hG.fr hW))
   have hqz:(tx ((a.natAbs / b.natAbs+1:Nat):Int)).size≤1000000000:=by
    have h1:a.natAbs / b.natAbs+1 < 10 ^ (j+1):=by
     have:a.natAbs < 10 ^ j:=ha
     rw [Br]; omega
    have h2:Bn (j+1) ((a.natAbs / b.natAbs+1:Nat):Int):=by show (((a.natAbs / b.natAbs+1:Nat):Int)).natAbs < _; rw [AJ]; exact h1
    have:=h2.size2; omega
   have hrz:=EP (X9 b.natAbs (a.natAbs % b.natAbs))
   have hj1:=hZ (fun W=>by
    have h:=Du true ((a.natAbs / b.natAbs+1:Nat):Int) (Aj _) W hqz
    rw [Ai rfl,f1] at h
    exact h)
   have hj2:=hZ (fun W=>by
    have h:=Du (decide (b < 0)) ((b.natAbs - a.natAbs % b.natAbs:Nat):Int) (Aj _) W (by omega)
    rw [f2] at h
    exact h)
   rw [Aa (by omega)] at hr0
   clear f1 f2 hqs hml hrs hsg hy0 h0 hr9 hqz hrz hqd
   generalize a.natAbs / b.natAbs+1=q' at *
   generalize a.natAbs / b.natAbs=q at *
   generalize b.natAbs - a.natAbs % b.natAbs=r' at *
   generalize a.natAbs % b.natAbs=r at *
   generalize a.natAbs=x at *
   generalize b.natAbs=y at *
   generalize decide (a < 0)=s1 at *
   generalize decide (b < 0)=s2 at *
   cases s1 <;> cases s2
   all_goals first | (exact absurd hne (by decide)) | skip
   all_goals
    rcases hbb2 with rfl | ⟨rfl,rfl⟩
    ·go_enter Tryz.func112,Tryz.ntmps112
     go_wp2_with fail
     refine (hla.out _).mono ?_
     rintro e w1 ⟨rfl,hf1⟩
     go_wp2_with fail
     refine (hsa.out _).mono ?_
     rintro e w3 ⟨rfl,hf3⟩
     go_wp2_with fail
     refine (hsb.out _).mono ?_
     rintro e w4 ⟨rfl,hf4⟩
     have hfw:=(hf1.trans hf3).trans hf4
     have h9:=hZ (hdv.out w4 hfw)
     go_wp2_with fail
     refine h9.out.mono ?_
     rintro e w5 ⟨rfl,hf5⟩
     have hfv:=hfw.trans hf5
     have ha9:=hZ (hq1.out w5 hfv)
     go_wp2_with fail
     refine ha9.out.mono ?_
     rintro e w9 ⟨rfl,hf9⟩
     have hb9:=hZ (hr1.out w9 (hfv.trans hf9))
     go_wp2_with fail
     refine hb9.out.mono ?_
     rintro e w6 ⟨rfl,hf6⟩
     have hfz:=(hfv.trans hf9).trans hf6
     have h8:=hZ (hj1.out w6)
     go_wp2_with fail
     refine h8.out.mono ?_
     rintro e w7 ⟨rfl,rfl⟩
     have h7:=hZ (hj2.out w6)
     go_wp2_with fail
     refine h7.out.mono ?_
     rintro e w8 ⟨rfl,rfl⟩
     go_wp2_with fail
     go_ret3
     exact ⟨rfl,hfz⟩
    ·go_enter Tryz.func112,Tryz.ntmps112
     go_wp2_with fail
     refine (hla.out _).mono ?_
     rintro e w1 ⟨rfl,hf1⟩
     go_wp2_with fail
     refine (hlb.out _).mono ?_
     rintro e w2 ⟨rfl,hf2⟩
     go_wp2_with fail
     refine (hsa.out _).mono ?_
     rintro e w3 ⟨rfl,hf3⟩
     go_wp2_with fail
     refine (hsb.out _).mono ?_
     rintro e w4 ⟨rfl,hf4⟩
     have hfw:=((hf1.trans hf2).trans hf3).trans hf4
     have h9:=hZ (hdv.out w4 hfw)
     go_wp2_with fail
     refine h9.out.mono ?_
     rintro e w5 ⟨rfl,hf5⟩
     have hfv:=hfw.trans hf5
     have ha9:=hZ (hq1.out w5 hfv)
     go_wp2_with fail
     refine ha9.out.mono ?_
     rintro e w9 ⟨rfl,hf9⟩
     have hb9:=hZ (hr1.out w9 (hfv.trans hf9))
     go_wp2_with fail
     refine hb9.out.mono ?_
     rintro e w6 ⟨rfl,hf6⟩
     have hfz:=(hfv.trans hf9).trans hf6
     have h8:=hZ (hj1.out w6)
     go_wp2_with fail
     refine h8.out.mono ?_
     rintro e w7 ⟨rfl,rfl⟩
     have h7:=hZ (hj2.out w6)
     go_wp2_with fail
     refine h7.out.mono ?_
     rintro e w8 ⟨rfl,rfl⟩
     go_wp2_with fail
     go_ret3
     exact ⟨rfl,hfz⟩
end Go.Proofs.YtiniigadkknboaaGreatDoor
