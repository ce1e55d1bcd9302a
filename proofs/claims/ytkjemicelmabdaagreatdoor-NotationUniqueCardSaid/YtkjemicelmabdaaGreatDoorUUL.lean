/- Contracts and laws: UUL. -/
import Derived.Test.YtkjemicelmabdaaGreatDoorUUG0
import Derived.Test.YtkjemicelmabdaaGreatDoorUPM
import Derived.Test.YtkjemicelmabdaaGreatDoorUSB
import Derived.Test.YtkjemicelmabdaaGreatDoorUChk
import Derived.Test.YtkjemicelmabdaaGreatDoorUUG

set_option maxRecDepth 100000
set_option maxHeartbeats 16000000
namespace Go.Proofs.YtkjemicelmabdaaGreatDoor
open Go.RowKit Go.Lib
attribute [local go_sem ↓] AQ AR
def Ow (w:World) (N:List Sy) (M d:Nat) (pr:Nat→Nat→Option (List Int)) (res:Option (List Int)) (e:Ending) (w':World):Prop :=
 (∃ i j cs y a2 c2 a3 c3,i < j∧j < M∧pr i j=some cs∧JY pr M i j∧N[j]?=some y∧e=.returned (.tuple #[.agg #[.bool false,.slice y.ra d y.rc,.int .i64 (i:Nat),.slice a2 d c2,.int .i64 (j:Nat),.slice a3 d c3],.bool false,.int .i64 0])∧El w' iv a2 cs∧El w' iv a3 (List.replicate d 0)∧Fr w w') ∨
 ((∀ i j,i < j→j < M→pr i j=none)∧match res with
   | none=>e=.returned (.tuple #[LR,.bool true,.int .i64 0])∧Fr w w'
   | some x=>∃ g c,e=.returned (.tuple #[.agg #[.bool true,.slice (some ⟨g,0,none⟩) d c,.int .i64 0,.slice none 0 0,.int .i64 0,.slice none 0 0],.bool false,.int .i64 0])∧El w' iv (some ⟨g,0,none⟩) x∧Fr w w')
theorem Qc (N A:List Sy) (d M F:Nat) (B:List (List Int)) (Dl:Nat→Nat→List Int) (o:List Int→Option (Nat×List Int)) (pr:Nat→Nat→Option (List Int)) (res:Option (List Int)) (aN aA:Option Addr) (cN cA:Nat) (w:World) (hG:G w) (hn:DA w aN aA cA N A)
 (hM:M=N.length) (n60:M≤60) (d6:d≤6) (lenA:A.length=d) (lenB:B.length=d) (hrB:BU d B) (hbB:∀ q,q ∈ B→∀ x,x ∈ q→Bk x=true) (hp:∀ j,j < d→0 < D4 B j) (hrow:∀ x,x ∈ N→x.row.length=d)
 (hof:∀ W (_:Fr w W) a c (_:BS W a (A.map Sy.row)),Calls Tryz.prog 54 #[.int .i64 d,.slice a d c] W (Ir W d B))
 (hmn:∀ i j x y (_:N[i]?=some x) (_:N[j]?=some y) (_:i < j) W (_:Fr w W),Calls Tryz.prog 35 #[.slice y.ra d y.rc,.slice x.ra d x.rc] W fun e w'=>∃ a' c',e=.returned (.slice a' d c')∧El w' sv a' (Dl i j)∧Fr W w')
 (hcn:∀ i j (_:i < j) (_:j < M) W a c (_:Fr w W) (_:El W sv a (Dl i j)),Calls Tryz.prog 34 #[.agg #[.slice aN M cN,.slice aA d cA],.slice a d c] W (Mw W (pr i j) d))
 (hpr:∀ i j cs,i < j→j < M→pr i j=some cs→cs.length=d∧cs.all Bk=true)
 (hspl:∀ xs (_:xs.length=d) (_:EJ B d xs) W a c (_:Fr w W) (_:El W iv a xs),Calls Tryz.prog 11 #[.agg #[.slice aN M cN,.slice aA d cA],.slice a d c] W (Za W (o xs) d))
 (habs:Hq B (fun x=>(o x).isSome) d F (List.replicate d 0)=some res) :
 Calls Tryz.prog 19 #[.agg #[.slice aN M cN,.slice aA d cA]] w (Ow w N M d pr res):=by
 have hgn:=Ch hG
 obtain ⟨i4,li,lz0,lz1,lz2⟩:=AG CS
 have hrw:=hZ (fun W (hW:Fr w W)=>Hc aA cA A W (hG.fr hW) (hn.accs.fr hW) (by omega))
 rw [lenA] at hrw
 have hsh:=hZ (fun (cs:List Int) (hc:cs.all Bk=true) (hl:cs.length=d) (W:World) (hW:Fr w W) (a:Option Addr) (c:Nat) (he:El W sv a cs)=>(KG cs a c d W (hG.fr hW) he hl.symm (by omega) (fun x hx=>FJ (Ar.1 hc x hx))).mono (fun e w' h=>h.1 hc))
 have hgw:∀ W,Fr w W→gN≤W.heap.size:=fun W hW=>Ch (hG.fr hW)
 replace hof:=hZ hof
 replace hmn:=hZ hmn
 replace hcn:=hZ hcn
 replace hpr:=hZ hpr
 replace hspl:=hZ hspl
 replace habs:=hZ habs
 replace hrow:=hZ hrow
 replace hgw:=hZ hgw
 replace hrB:=hZ hrB
 replace hbB:=hZ hbB
 replace hp:=hZ hp
 replace lenB:=hZ lenB
 have hsy:=hZ hn.noms
 replace hM:=hZ hM
 clear hG hn lenA
 obtain ⟨nb,hnb⟩:∃ nb,nb=w.heap.size:=⟨_,rfl⟩
 obtain ⟨W1,hW1⟩:∃ W1,W1=(w.alloc (.cells #[.slice aN M cN,.slice aA d cA] 32)).alloc (.cells #[.bool false,.slice none 0 0,.int .i64 0,.slice none 0 0,.int .i64 0,.slice none 0 0] 52):=⟨_,rfl⟩
 have f1:Fr w W1:=by rw [hW1]; exact ((Fr.refl _).alloc _).alloc _
 have hN1:Bm W1 nb (.slice aN M cN) (.slice aA d cA):=by rw [hW1,hnb]; exact (Bm.new w _ _ _).fr ((Fr.refl _).alloc _)
 have hW6:FB W1 (nb+1) (.bool false) (.slice none 0 0) (.int .i64 0) (.slice none 0 0) (.int .i64 0) (.slice none 0 0):=by
  have:=FB.new (w.alloc (.cells #[.slice aN M cN,.slice aA d cA] 32)) (.bool false) (.slice none 0 0) (.int .i64 0) (.slice none 0 0) (.int .i64 0) (.slice none 0 0) 52
  rw [Az] at this
  rw [hW1,hnb]; exact this
 go_enter Tryz.func19,Tryz.ntmps19
 go_upto_region 1 with (fail)
 rw [← hW1,← hnb]
 clear hW1
 replace hnb:=hZ hnb
 replace hN1:=hZ hN1
 replace hW6:=hZ hW6
 have n1:=hN1.out.b
 have hS0:=hZ (fun W' (hW':Fr W1 W')=>(hW'.keep n1:W'.cell? ⟨nb,1,none⟩=some (.slice aA d cA)))
 have hd1:Fr W1 W1.drew:=(Fr.refl W1).drew
 go_cut [5,6] from 18 to 29 (fun s5 s6 wc=>∃ (lb:Nat) (bA:Option Addr) (bc:Nat),s5=.pointer (some ⟨lb,0,none⟩)∧s6=.int .i64 0∧Fr W1 wc∧Hid (Bm wc lb (.int .i64 d) (.slice bA d bc))∧Hid (BS wc bA B)∧nb+1 < lb)
 case first=>
  refine DC (S:=fun W'=>W'.cell? ⟨nb,1,none⟩=some (.slice aA d cA)) (by kernel_rfl) (hS0.out _ hd1) (fun hHeld=>?_)
  refine hK 0 ?_
  change wpAnyH _ _ _ _ _ _ _ (Act.put _ (some 19) _) _
  simp only [Act.put,BT,Cp,Co]
  refine hK 1 ?_
  change wpAnyH _ _ _ _ _ _ _ (Act.put _ (some 20) _) _
  simp only [Act.put,BT,Cp,Co]
  refine hK 2 ?_
  change wpAnyH _ _ _ _ _ _ _ (Act.put _ (some 21) _) _
  simp only [Act.put,BT,Cp,Co]
  refine hK 3 ?_
  change wpAnyH _ _ _ _ _ _ _ (Act.put _ (some 22) _) _
  simp only [Act.put,BT,Cp,Co]
  refine hK 4 ?_
  change wpAnyH _ _ _ _ _ _ _ (Act.put _ (some 23) _) _
  simp only [Act.put,BT,Cp,Co]
  obtain ⟨wd,hwd⟩:∃ wd,wd=W1.drew:=⟨_,rfl⟩
  rw [← hwd] at hd1 hHeld ⊢
  clear hwd
  have hwl:=AY _ ⟨nb+1,0,none⟩ hW6.out.c0
  replace hwl:nb+1 < W1.heap.size:=hwl
  refine TE (rs:=[5,10]) (by kernel_rfl) (by simp) ?_
  refine Fn rfl (fun K hK=>?_) (Fn rfl (fun K hK=>?_) Qq)
  ·
   go_simp
   refine (hrw.out _ (f1.trans hd1)).mono ?_
   rintro e wa1 ⟨a3,c3,rfl,hm3,hfR⟩
   have ha1:Fr W1 wa1:=Fr.trans hd1 hfR
   (try replace hAl:=hAl.fr hfR)
   go_wp2_with fail
   refine hK.out _ _ (hS0.out _ ha1) (fun hHeld=>?_)
   clear hK K
   try simp only [Act.put,BT]
   refine TE (rs:=[6,10]) (by kernel_rfl) (by simp) ?_
   refine Fn rfl (fun K hK=>?_) (Fn rfl (fun K hK=>?_) Qq)
   ·
    go_simp
    refine (hof.out _ (f1.trans ha1) a3 c3 hm3).mono ?_
    rintro e wb2 ⟨bA,bc,rfl,hcp,hmB,hfO⟩
    rw [lenB.out] at hcp ⊢
    have hb2:Fr W1 wb2:=Fr.trans ha1 hfO
    (try replace hAl:=hAl.fr hfO)
    go_wp2_with fail
    refine hK.out _ _ (hS0.out _ hb2) (fun hHeld=>?_)
    clear hK K
    try simp only [Act.put,BT]
    refine hK 7 ?_
    change wpAnyH _ _ _ _ _ _ _ (Act.put _ (some 18) _) _
    simp only [Act.put,BT,Cp,Co]
    refine hK 8 ?_
    change wpAnyH _ _ _ _ _ _ _ (Act.put _ (some 26) _) _
    simp only [Act.put,BT,Cp,Co]
    refine hK 9 ?_
    change wpAnyH _ _ _ _ _ _ _ (Act.put _ (some 27) _) _
    simp only [Act.put,BT,Cp,Co]
    refine hC 10 (fun K hK=>?_)
    go_simp
    refine hK.out _ _ (hS0.out _ (Fr.alloc hb2 _)) (fun hHeld=>?_)
    clear hK K
    try simp only [Act.put,BT]
    obtain ⟨wc3,hW⟩:∃ W,W=wb2.alloc (.cells #[.int .i64 0,.slice none 0 0] 109):=⟨_,rfl⟩
    have hfA:Fr wb2 wc3:=by rw [hW]; exact (Fr.refl _).alloc _
    have hc3:Fr W1 wc3:=Fr.trans hb2 hfA
    obtain ⟨lb,hlb⟩:∃ lb,lb=wb2.heap.size:=⟨_,rfl⟩
    have hAl:Bm wc3 lb (.int .i64 0) (.slice none 0 0):=by rw [hW,hlb]; exact Bm.new _ _ _ _
    have hlb1:W1.heap.size≤lb:=by rw [hlb]; exact Fr.size hb2
    have hlb2:lb < wc3.heap.size:=hAl.lt
    have hlb3:wb2.heap.size≤lb:=by rw [hlb]; exact Af _
    rw [← hlb,← hW]
    replace hlb:=hZ hlb
    rw [← hW] at hHeld
    (try replace hm3:=hm3.fr hfA)
    clear hW
    have x1:=(hAl.set0 (.int .i64 d)).b
    have x2:=(hAl.set0 (.int .i64 d)).fb
    have hC9:=hZ ((hAl.set0 (.int .i64 d)).set1 (.slice bA d bc))
    have hfx9:Fx (·=lb) wc3 ((wc3.setCell ⟨lb,0,none⟩ (.int .i64 d)).setCell ⟨lb,1,none⟩ (.slice bA d bc)):=Fx.setCell (p:=(·=lb)) (q:=⟨lb,1,none⟩) (Fx.setCell (p:=(·=lb)) (q:=⟨lb,0,none⟩) (Fx.refl _ wc3) (.inl rfl) _) (.inl rfl) _
    have hfr9:Hid (Fr W1 ((wc3.setCell ⟨lb,0,none⟩ (.int .i64 d)).setCell ⟨lb,1,none⟩ (.slice bA d bc))):=((Fx.of_fr hc3).trans hfx9).toFr (fun k hk e=>by have e:k=lb:=e; omega)
    have hm9:Hid (BS ((wc3.setCell ⟨lb,0,none⟩ (.int .i64 d)).setCell ⟨lb,1,none⟩ (.slice bA d bc)) bA B):=hmB _ (Fx.of_fr (((Fx.of_fr hfA).trans hfx9).toFr (fun k hk e=>by have e:k=lb:=e; omega)))
    have hl9:=hwl
    obtain ⟨p0,p1,p2,p3⟩:=hAl
    refine hC 11 (fun K hK=>?_)
    go_simp
    refine hK.out _ _ (hS0.out _ hfr9.out) (fun hHeld=>?_)
    clear hK K p0 p1 p2 p3 x1 x2
    refine hK 12 ?_
    change wpAnyH _ _ _ _ _ _ _ (Act.put _ (some 6) _) _
    simp only [Act.put,BT,Cp,Co]
    refine D6 (by kernel_rfl) ?_ _
    go_wp2_with fail
    go_meet
    case rel=>exact ⟨lb,bA,bc,rfl,rfl,hfr9.out,hC9.out,hm9.out,by omega⟩
   ·
    go_simp
    refine hK.out _ _ (hS0.out _ (Fr.alloc ha1 _)) (fun hHeld=>?_)
    clear hK K
    try simp only [Act.put,BT]
    obtain ⟨wb2,hW⟩:∃ W,W=wa1.alloc (.cells #[.int .i64 0,.slice none 0 0] 109):=⟨_,rfl⟩
    have hfA:Fr wa1 wb2:=by rw [hW]; exact (Fr.refl _).alloc _
    have hb2:Fr W1 wb2:=Fr.trans ha1 hfA
    obtain ⟨lb,hlb⟩:∃ lb,lb=wa1.heap.size:=⟨_,rfl⟩
    have hAl:Bm wb2 lb (.int .i64 0) (.slice none 0 0):=by rw [hW,hlb]; exact Bm.new _ _ _ _
    have hlb1:W1.heap.size≤lb:=by rw [hlb]; exact Fr.size ha1
    have hlb2:lb < wb2.heap.size:=hAl.lt
    have hlb3:wa1.heap.size≤lb:=by rw [hlb]; exact Af _
    rw [← hlb,← hW]
    replace hlb:=hZ hlb
    rw [← hW] at hHeld
    (try replace hm3:=hm3.fr hfA)
    clear hW
    refine hC 6 (fun K hK=>?_)
    go_simp
    refine (hof.out _ (f1.trans hb2) a3 c3 hm3).mono ?_
    rintro e wc3 ⟨bA,bc,rfl,hcp,hmB,hfO⟩
    rw [lenB.out] at hcp ⊢
    have hc3:Fr W1 wc3:=Fr.trans hb2 hfO
    (try replace hAl:=hAl.fr hfO)
    go_wp2_with fail
    refine hK.out _ _ (hS0.out _ hc3) (fun hHeld=>?_)
    clear hK K
    try simp only [Act.put,BT]
    refine hK 7 ?_
    change wpAnyH _ _ _ _ _ _ _ (Act.put _ (some 18) _) _
    simp only [Act.put,BT,Cp,Co]
    refine hK 8 ?_
    change wpAnyH _ _ _ _ _ _ _ (Act.put _ (some 26) _) _
    simp only [Act.put,BT,Cp,Co]
    refine hK 9 ?_
    change wpAnyH _ _ _ _ _ _ _ (Act.put _ (some 27) _) _
    simp only [Act.put,BT,Cp,Co]
    have x1:=(hAl.set0 (.int .i64 d)).b
    have x2:=(hAl.set0 (.int .i64 d)).fb
    have hC9:=hZ ((hAl.set0 (.int .i64 d)).set1 (.slice bA d bc))
    have hfx9:Fx (·=lb) wc3 ((wc3.setCell ⟨lb,0,none⟩ (.int .i64 d)).setCell ⟨lb,1,none⟩ (.slice bA d bc)):=Fx.setCell (p:=(·=lb)) (q:=⟨lb,1,none⟩) (Fx.setCell (p:=(·=lb)) (q:=⟨lb,0,none⟩) (Fx.refl _ wc3) (.inl rfl) _) (.inl rfl) _
    have hfr9:Hid (Fr W1 ((wc3.setCell ⟨lb,0,none⟩ (.int .i64 d)).setCell ⟨lb,1,none⟩ (.slice bA d bc))):=((Fx.of_fr hc3).trans hfx9).toFr (fun k hk e=>by have e:k=lb:=e; omega)
    have hm9:Hid (BS ((wc3.setCell ⟨lb,0,none⟩ (.int .i64 d)).setCell ⟨lb,1,none⟩ (.slice bA d bc)) bA B):=hmB _ (hfx9.mono (fun k hk=>by have hk:k=lb:=hk; omega))
    have hl9:=hwl
    obtain ⟨p0,p1,p2,p3⟩:=hAl
    refine hC 11 (fun K hK=>?_)
    go_simp
    refine hK.out _ _ (hS0.out _ hfr9.out) (fun hHeld=>?_)
    clear hK K p0 p1 p2 p3 x1 x2
    refine hK 12 ?_
    change wpAnyH _ _ _ _ _ _ _ (Act.put _ (some 6) _) _
    simp only [Act.put,BT,Cp,Co]
    refine D6 (by kernel_rfl) ?_ _
    go_wp2_with fail
    go_meet
    case rel=>exact ⟨lb,bA,bc,rfl,rfl,hfr9.out,hC9.out,hm9.out,by omega⟩
  ·
   go_simp
   refine hK.out _ _ (hS0.out _ (Fr.alloc hd1 _)) (fun hHeld=>?_)
   clear hK K
   try simp only [Act.put,BT]
   obtain ⟨wa1,hW⟩:∃ W,W=wd.alloc (.cells #[.int .i64 0,.slice none 0 0] 109):=⟨_,rfl⟩
   have hfA:Fr wd wa1:=by rw [hW]; exact (Fr.refl _).alloc _
   have ha1:Fr W1 wa1:=Fr.trans hd1 hfA
   obtain ⟨lb,hlb⟩:∃ lb,lb=wd.heap.size:=⟨_,rfl⟩
   have hAl:Bm wa1 lb (.int .i64 0) (.slice none 0 0):=by rw [hW,hlb]; exact Bm.new _ _ _ _
   have hlb1:W1.heap.size≤lb:=by rw [hlb]; exact Fr.size hd1
   have hlb2:lb < wa1.heap.size:=hAl.lt
   have hlb3:wd.heap.size≤lb:=by rw [hlb]; exact Af _
   rw [← hlb,← hW]
   replace hlb:=hZ hlb
   rw [← hW] at hHeld
   (try replace hm3:=hm3.fr hfA)
   clear hW
   refine hC 5 (fun K hK=>?_)
   go_simp
   refine (hrw.out _ (f1.trans ha1)).mono ?_
   rintro e wb2 ⟨a3,c3,rfl,hm3,hfR⟩
   have hb2:Fr W1 wb2:=Fr.trans ha1 hfR
   (try replace hAl:=hAl.fr hfR)
   go_wp2_with fail
   refine hK.out _ _ (hS0.out _ hb2) (fun hHeld=>?_)
   clear hK K
   try simp only [Act.put,BT]
   refine hC 6 (fun K hK=>?_)
   go_simp
   refine (hof.out _ (f1.trans hb2) a3 c3 hm3).mono ?_
   rintro e wc3 ⟨bA,bc,rfl,hcp,hmB,hfO⟩
   rw [lenB.out] at hcp ⊢
   have hc3:Fr W1 wc3:=Fr.trans hb2 hfO
   (try replace hAl:=hAl.fr hfO)
   go_wp2_with fail
   refine hK.out _ _ (hS0.out _ hc3) (fun hHeld=>?_)
   clear hK K
   try simp only [Act.put,BT]
   refine hK 7 ?_
   change wpAnyH _ _ _ _ _ _ _ (Act.put _ (some 18) _) _
   simp only [Act.put,BT,Cp,Co]
   refine hK 8 ?_
   change wpAnyH _ _ _ _ _ _ _ (Act.put _ (some 26) _) _
   simp only [Act.put,BT,Cp,Co]
   refine hK 9 ?_
   change wpAnyH _ _ _ _ _ _ _ (Act.put _ (some 27) _) _
   simp only [Act.put,BT,Cp,Co]
   have x1:=(hAl.set0 (.int .i64 d)).b
   have x2:=(hAl.set0 (.int .i64 d)).fb
   have hC9:=hZ ((hAl.set0 (.int .i64 d)).set1 (.slice bA d bc))
   have hfx9:Fx (·=lb) wc3 ((wc3.setCell ⟨lb,0,none⟩ (.int .i64 d)).setCell ⟨lb,1,none⟩ (.slice bA d bc)):=Fx.setCell (p:=(·=lb)) (q:=⟨lb,1,none⟩) (Fx.setCell (p:=(·=lb)) (q:=⟨lb,0,none⟩) (Fx.refl _ wc3) (.inl rfl) _) (.inl rfl) _
   have hfr9:Hid (Fr W1 ((wc3.setCell ⟨lb,0,none⟩ (.int .i64 d)).setCell ⟨lb,1,none⟩ (.slice bA d bc))):=((Fx.of_fr hc3).trans hfx9).toFr (fun k hk e=>by have e:k=lb:=e; omega)
   have hm9:Hid (BS ((wc3.setCell ⟨lb,0,none⟩ (.int .i64 d)).setCell ⟨lb,1,none⟩ (.slice bA d bc)) bA B):=hmB _ (hfx9.mono (fun k hk=>by have hk:k=lb:=hk; have:=hfR.size; omega))
   have hl9:=hwl
   obtain ⟨p0,p1,p2,p3⟩:=hAl
   refine hC 11 (fun K hK=>?_)
   go_simp
   refine hK.out _ _ (hS0.out _ hfr9.out) (fun hHeld=>?_)
   clear hK K p0 p1 p2 p3 x1 x2
   refine hK 12 ?_
   change wpAnyH _ _ _ _ _ _ _ (Act.put _ (some 6) _) _
   simp only [Act.put,BT,Cp,Co]
   refine D6 (by kernel_rfl) ?_ _
   go_wp2_with fail
   go_meet
   case rel=>exact ⟨lb,bA,bc,rfl,rfl,hfr9.out,hC9.out,hm9.out,by omega⟩
 case rest=>
  obtain ⟨lb,bA,bc,rfl,rfl,hf2,hL2,hmB2,hlbn⟩:=hcut
  obtain ⟨W5,rfl⟩:∃ W5:World,W5=wc:=⟨_,rfl⟩
  have f5:=f1.trans hf2
  have hW65:=hZ (hW6.out.fr hf2)
  have hN5:=hZ (hN1.out.fr hf2)
  clear hS0 hd1 n1 hrw hof hW6 hN1
  go_wp2_with fail
  go_loopg [7] M (fun k s7 wr=>∃ i:Nat,s7=.int .i64 i∧i+k=M∧Fr W5 wr∧Hid (JY pr M i (i+1)))
  case atStart=>exact ⟨0,rfl,by omega,Fr.refl _,hZ (fun i' j' a b c=>by omega)⟩
  case round=>
   obtain ⟨i,rfl,hik,hf,hno⟩:=hrel
   have hFr:=f5.trans hf
   obtain ⟨wo,rfl⟩:∃ wo:World,wo=wr:=⟨_,rfl⟩
   obtain ⟨ko,rfl⟩:∃ ko:Nat,ko=gk:=⟨_,rfl⟩
   have n0:=hf.keep hN5.out.a
   by_cases hi:i < M
   ·have hdI:decide (i < M)=true:=Ad hi
    obtain ⟨ab,ao,x,rfl,hbl,hxi,hc1,hc2,-⟩:=(hsy.out.fr hFr).at (i:=i) (by rw [← hM.out]; exact hi)
    have hxm:=Ac hxi
    rw [hrow.out x hxm] at hc2
    have hX2:=hZ hc2
    have z0:(0:Int)≤(i:Int):=Ag _
    have z1:(i:Int) < (M:Int):=by omega
    replace hxi:=hZ hxi
    clear hc1 hc2 hspl habs
    go_wp2_with fail
    go_loopg [8] (M - (i+1)) (fun k s8 wr=>∃ j:Nat,s8=.int .i64 j∧i < j∧j+k=M∧Fr wo wr∧Hid (JY pr M i j))
    case atStart=>exact ⟨i+1,by go_num,by omega,by omega,Fr.refl _,hno⟩
    case round=>
     clear hno n0
     obtain ⟨j,rfl,hij,hjk,hf7,hno⟩:=hrel
     have hF7:=hf.trans hf7
     have hFr7:=f5.trans hF7
     obtain ⟨wv,rfl⟩:∃ wv:World,wv=wr:=⟨_,rfl⟩
     obtain ⟨kv,rfl⟩:∃ kv:Nat,kv=gk:=⟨_,rfl⟩
     have n0:=hF7.keep hN5.out.a
     by_cases hj:j < M
     ·have hdJ:decide (j < M)=true:=Ad hj
      obtain ⟨ab',ao',y,hae,hbl',hyj,hc1,hc2,-⟩:=(hsy.out.fr hFr7).at (i:=j) (by rw [← hM.out]; exact hj)
      injection hae with hae; injection hae with e1 e2
      subst e1; subst e2
      have hym:=Ac hyj
      rw [hrow.out y hym] at hc2
      have y0:(0:Int)≤(j:Int):=Ag _
      have y1:(j:Int) < (M:Int):=by omega
      have hm1:=hZ (fun W (hW:Fr wv W)=>hmn.out i j x y hxi.out hyj hij W (hFr7.trans hW))
      have hc9:=hZ (fun W a c (hW:Fr wv W) h=>hcn.out i j hij hj W a c (hFr7.trans hW) h)
      have hcf:=hZ (fun cs (h:pr i j=some cs)=>hpr.out i j cs hij hj h)
      have hyj9:=hZ hyj
      have hx2:=hf7.keep hX2.out
      have m1:=hF7.keep hN5.out.b
      clear hyj
      obtain ⟨xa,hxa⟩:∃ xa,xa=x.ra:=⟨_,rfl⟩
      obtain ⟨xc,hxc⟩:∃ xc,xc=x.rc:=⟨_,rfl⟩
      rw [← hxa,← hxc] at hm1 hx2
      obtain ⟨ya,hya⟩:∃ ya,ya=y.ra:=⟨_,rfl⟩
      obtain ⟨yc,hyc⟩:∃ yc,yc=y.rc:=⟨_,rfl⟩
      rw [← hya,← hyc] at hm1 hc2
      replace hxa:=hZ hxa
      replace hxc:=hZ hxc
      replace hya:=hZ hya
      replace hyc:=hZ hyc
      go_wp2_with fail
      have hS0:=hZ (fun W' (hW':Fr wv W')=>(⟨hW'.keep n0,hW'.keep m1,hW'.keep hx2⟩:W'.cell? ⟨nb,0,none⟩=some (.slice (some ⟨ab,ao,none⟩) M cN)∧W'.cell? ⟨nb,1,none⟩=some (.slice aA d cA)∧W'.cell? ⟨ab,ao+i * 2+1,none⟩=some (.slice xa d xc)))
      have hd8:Fr wv wv.drew:=(Fr.refl wv).drew
      refine BL (S:=fun W'=>W'.cell? ⟨nb,0,none⟩=some (.slice (some ⟨ab,ao,none⟩) M cN)∧W'.cell? ⟨nb,1,none⟩=some (.slice aA d cA)∧W'.cell? ⟨ab,ao+i * 2+1,none⟩=some (.slice xa d xc)) 14 (by kernel_rfl) (hS0.out _ hd8) (fun hHeld=>?_)
      refine uM 0 55 ?_; try simp only [BT,Cp,Co]
      refine uM 1 56 ?_; try simp only [BT,Cp,Co]
      refine uM 2 57 ?_; try simp only [BT,Cp,Co]
      refine uM 3 58 ?_; try simp only [BT,Cp,Co]
      refine uM 4 59 ?_; try simp only [BT,Cp,Co]
      refine uM 5 60 ?_; try simp only [BT,Cp,Co]
      refine uM 6 61 ?_; try simp only [BT,Cp,Co]
      refine uM 7 62 ?_; try simp only [BT,Cp,Co]
      refine uC 8 (fun K hK=>?_)
      go_simp
      (refine (hm1.out _ (by exact BM)).mono ?_; rintro e w6 ⟨a6,c6,rfl,he6,hf6⟩)
      go_wp2_with fail
      refine hK.out _ _ (hS0.out _ (by exact BM)) (fun hHeld=>?_)
      clear hK K
      have hcg:=hc9.out
      cases hpij:pr i j with
      | none=>
        rw [hpij] at hcg
        replace hcg:=hZ hcg
        replace hpij:=hZ hpij
        refine uC 9 (fun K hK=>?_)
        go_simp
        (refine (hcg.out _ _ _ (by exact BM) he6).mono ?_; rintro e w7 ⟨rfl,hf7'⟩)
        go_wp2_with fail
        refine hK.out _ _ (hS0.out _ (by exact BM)) (fun hHeld=>?_)
        clear hK K
        refine uK 10 ?_
        refine uK 11 ?_
        refine uK 12 ?_
        refine uK 13 ?_
        clear hHeld
        refine uL 14 (fun K hK=>?_)
        go_simp
        refine hK.out _ _ ?_
        clear hK K
        have f7:Fr wv w7:=(hd8.trans hf6).trans hf7'
        go_wp2_with fail
        go_roundg (kv - 1)
        case measure=>omega
        case rel=>exact ⟨j+1,by go_num,by omega,by omega,hf7.trans f7,hno.out.next hpij.out⟩
      | some cs=>
        rw [hpij] at hcg
        replace hcg:=hZ hcg
        have hcf2:=hcf.out cs hpij
        replace hpij:=hZ hpij
        replace hcf2:=hZ hcf2
        refine uC 9 (fun K hK=>?_)
        go_simp
        (refine (hcg.out _ _ _ (by exact BM) he6).mono ?_; rintro e w7 ⟨a7,c7,rfl,he7,hl7,hf7'⟩)
        go_wp2_with fail
        refine hK.out _ _ (hS0.out _ (by exact BM)) (fun hHeld=>?_)
        clear hK K
        refine uK 10 ?_
        refine uK 11 ?_
        refine uK 12 ?_
        refine uK 13 ?_
        clear hHeld
        refine uL 14 (fun K hK=>?_)
        go_simp
        refine hK.out _ _ ?_
        clear hK K
        have f7:Fr wv w7:=(hd8.trans hf6).trans hf7'
        have hFC:=hFr7.trans f7
        have hsh1:=hZ (hsh.out cs hcf2.out.2 hcf2.out.1 _ hFC a7 c7 he7)
        clear hS0 n0 m1 hx2 hc1 hc2 he6 he7
        replace hl7:=hZ hl7
        go_wp2_with fail
        refine hsh1.out.mono ?_
        rintro e w8 ⟨ba,bcc,rfl,hbel,hbl8,hf8,hbn⟩
        replace hbl8:=hZ hbl8
        replace hbel:=hZ hbel
        replace hbn:=hZ hbn
        have hW8:=hZ (hW65.out.fr (hF7.trans (f7.trans hf8)))
        have hnw:Hid (nb+1 < w7.heap.size):=hZ (AY _ ⟨nb+1,0,none⟩ (hW65.out.fr (hF7.trans f7)).c0)
        clear hsh1
        go_wp2_with (at_make; refine Df _ rfl _ _ 29 rfl w8.heap.size 3 i4 _ 1 Tryz.underlying29 li lz0 lz1 _ _ _ _ d (by rfl) (by rfl) (by omega) (by omega) (by rw [lz2]; omega) (by unfold maxLen; omega) (Af _) ?_; intro w9 hownM hgrM; have hfM:Fr w8 w9:=(Fr.refl _).grown hgrM (fun k e=>by cases e); obtain ⟨c0,c1,c2,c3,c4,c5,e0,e1,e2,e3,e4,e5⟩:=hW8.out.fr hfM)
        obtain ⟨gO,hgO⟩:∃ gO,gO=w8.heap.size:=⟨_,rfl⟩
        rw [DH d rfl] at hownM
        have hMk:El w9 iv (some ⟨gO,0,none⟩) (List.replicate d 0):=by rw [hgO]; exact (BW (hgw.out _ (hFC.trans hf8)) hownM).1.el
        have hgn8:nb+1 < gO:=by rw [hgO]; have:=hf8.size; have:=hnw.out; omega
        rw [← hgO]
        have hfx10:=hZ (IP w9 (nb+1) (.bool false) (.slice ya d yc) (.int .i64 i) (.slice ba d bcc) (.int .i64 j) (.slice (some ⟨gO,0,none⟩) d d))
        have hW10:=hZ ((hW8.out.fr hfM).stored (.bool false) (.slice ya d yc) (.int .i64 i) (.slice ba d bcc) (.int .i64 j) (.slice (some ⟨gO,0,none⟩) d d))
        obtain ⟨q0,q1,q2,q3,q4,q5,-⟩:=hW10.out
        refine Ay (v:=.tuple #[.agg #[.bool false,.slice ya d yc,.int .i64 i,.slice ba d bcc,.int .i64 j,.slice (some ⟨gO,0,none⟩) d d],.bool false,.int .i64 0]) (by simp [results,Tryz.results19,go_sem,q0,q1,q2,q3,q4,q5]) rfl ?_
        refine .inl ⟨i,j,cs,y,ba,bcc,_,_,hij,hj,hpij.out,hno.out,hyj9.out,by rw [hya.out,hyc.out], ?_,hMk.fx hfx10.out (fun e=>by have e:gO=nb+1:=e; omega),((Fx.of_fr ((hFC.trans hf8).trans hfM)).trans hfx10.out).toFr (fun k hk e=>by have e:k=nb+1:=e; have:=hnb.out; omega)⟩
        rcases hbn.out with hb0 | ⟨g8,rfl,hg8⟩
        ·exact .inl (Aq (by have:=hbl8.out; omega))
        ·exact (hbel.out.fr hfM).fx hfx10.out (fun e=>by have e:g8=nb+1:=e; have:=hnw.out; omega)
     ·have hdJ:decide (j < M)=false:=Ab hj
      obtain rfl:M=j:=by omega
      go_wp2_with fail
      go_roundg (ko - 1)
      case measure=>omega
      case rel=>exact ⟨i+1,by go_num,by omega,hF7,hno.out.row⟩
   ·have hdI:decide (i < M)=false:=Ab hi
    obtain rfl:M=i:=by omega
    have hnoA:=hZ (fun i j (a:i < j) (b:j < M)=>hno.out i j (.inl (by omega)) a b)
    clear hno hmn hcn hpr hsh
    have hL8:=hL2.out.fr hf
    have l0:=hL8.a
    have hmB8:=hZ (hmB2.out.fr hf)
    have hW8:=hZ (hW65.out.fr hf)
    have hN8:=hZ (hN5.out.fr hf)
    replace hL8:=hZ hL8
    clear hL2 hmB2 hW65 hN5
    go_wp2_with (at_make; refine Df _ rfl _ _ 29 rfl wo.heap.size 3 i4 _ 1 Tryz.underlying29 li lz0 lz1 _ _ _ _ d (by rfl) (by rfl) (by omega) (by omega) (by rw [lz2]; omega) (by unfold maxLen; omega) (Af _) ?_; intro w2 hown2 hgr2)
    rw [DH d rfl] at hown2
    have hf2':Fr wo w2:=(Fr.refl wo).grown hgr2 (fun k e=>by cases e)
    have hO:=(BW (hgw.out _ hFr) hown2).1
    obtain ⟨g,hg⟩:∃ g,g=wo.heap.size:=⟨_,rfl⟩
    rw [← hg] at hO ⊢
    have hFW:Hid (∀ W,Fx (·=g) w2 W→Fr wo W):=fun W h=>((Fx.of_fr hf2').trans h).toFr (fun k hk e=>by have e:k=g:=e; omega)
    have hng:nb+1 < g:=by rw [hg]; exact AY _ ⟨nb+1,0,none⟩ hW8.out.c0
    have hlg:lb < g:=by rw [hg]; exact hL8.out.lt
    replace hO:=hZ hO
    replace hg:=hZ hg
    clear hown2 hgr2 l0 n0
    have hbz:Hid (∀ ys:List Int,ys.length=d→EJ B d ys→∀ x,x ∈ ys→Bk x=true):=fun ys hl hb x hx=>by
     obtain ⟨k,hk⟩:=AM hx
     have hkd:k < d:=by rw [← hl]; exact (Ah.1 hk).1
     have h1:=hb k hkd
     rw [hk,Bw] at h1
     have hkB:k < B.length:=by rw [lenB.out]; exact hkd
     have h2:Bk (D4 B k)=true:=by
      unfold D4
      rw [BB hkB]
      have hkr:k < B[k].length:=by rw [hrB.out.row hkB]; exact hkd
      rw [Aa hkr]
      exact hbB.out _ (AK hkB) _ (AK hkr)
     have h3:=Au h2
     exact Ad ⟨by omega,by omega⟩
    go_loopg [] F (fun f wr=>∃ ys:List Int,Hid (Hq B (fun x=>(o x).isSome) d f ys=some res)∧Hid (ys.length=d)∧Hid (EJ B d ys)∧Fx (·=g) w2 wr∧Hid (FO wr g 0 ys))
    case atStart=>
     have hz:∀ j:Nat,((List.replicate d (0:Int))[j]?).getD 0=0:=fun j=>by rw [Cs]; split <;> rfl
     exact ⟨_,habs.out,AH,fun j hj=>by rw [hz]; exact ⟨HD _,hp.out j hj⟩,Fx.refl _ _,hO.out⟩
    case round=>
     clear hO
     obtain ⟨ys,hab,hyl,hyb,hfx,hO⟩:=hrel
     obtain ⟨wp,rfl⟩:∃ wp:World,wp=wr:=⟨_,rfl⟩
     obtain ⟨kp,rfl⟩:∃ kp:Nat,kp=gk:=⟨_,rfl⟩
     have hFo:=hFW.out _ hfx
     have hFp:=hFr.trans hFo
     have n0:=(hFo.keep hN8.out.a)
     have n1:=(hFo.keep hN8.out.b)
     match kp,hab with
     | 0,hab=>exact absurd hab.out (by rw [Hq]; simp)
     | f+1,hab=>
     have hab2:=hab.out
     rw [Hq] at hab2
     have hsp1:=hspl.out ys hyl.out hyb.out wp (some ⟨g,0,none⟩) d hFp hO.out.el
     have hyf:=hbz.out ys hyl.out hyb.out
     have hnx9:=FR d ys (by rw [hyl.out]; exact Af _) hp.out hyb.out
     replace hyf:=hZ hyf
     replace hnx9:=hZ hnx9
     cases ho:o ys with
     | none=>
       rw [ho] at hab2 hsp1
       replace ho:=hZ ho
       rw [Aj (by simp)] at hab2
       injection hab2 with hab2
       replace hsp1:=hZ hsp1
       go_wp2_with fail
       refine hsp1.out.mono ?_
       rintro e w3 ⟨rfl,hf3⟩
       clear hsp1
       go_upto_region 19 with (fail)
       obtain ⟨w4,hw4⟩:∃ w4,w4=w3.alloc (.cells #[.int .i64 0,.slice none 0 0] 37):=⟨_,rfl⟩
       have f34:Fr w3 w4:=by rw [hw4]; exact (Fr.refl _).alloc _
       rw [← hw4]
       have hfp4:=hf3.trans f34
       clear hw4 n0 n1
       have hW9:=hZ (hW8.out.fr (hFo.trans hfp4))
       have hfx10:=hZ (IP w4 (nb+1) (.bool true) (.slice (some ⟨g,0,none⟩) d d) (.int .i64 0) (.slice none 0 0) (.int .i64 0) (.slice none 0 0))
       have hW10:=hZ (hW9.out.stored (.bool true) (.slice (some ⟨g,0,none⟩) d d) (.int .i64 0) (.slice none 0 0) (.int .i64 0) (.slice none 0 0))
       obtain ⟨c0,c1,c2,c3,c4,c5,e0,e1,e2,e3,e4,e5⟩:=hW9.out
       go_wp2_with fail
       obtain ⟨q0,q1,q2,q3,q4,q5,-⟩:=hW10.out
       refine Ay (v:=.tuple #[.agg #[.bool true,.slice (some ⟨g,0,none⟩) d d,.int .i64 0,.slice none 0 0,.int .i64 0,.slice none 0 0],.bool false,.int .i64 0]) (by simp [results,Tryz.results19,go_sem,q0,q1,q2,q3,q4,q5]) rfl ?_
       subst hab2
       exact .inr ⟨hnoA.out,g,d,rfl,(hO.out.el.fr hfp4).fx hfx10.out (fun e=>by have e:g=nb+1:=e; omega),((Fx.of_fr (hFp.trans hfp4)).trans hfx10.out).toFr (fun k hk e=>by have e:k=nb+1:=e; have:=hnb.out; omega)⟩
     | some oc=>
       rw [ho] at hab2 hsp1
       replace ho:=hZ ho
       rw [Ak (show (some oc).isSome=true from rfl)] at hab2
       replace hab2:=hZ hab2
       have hsp2:Calls Tryz.prog 11 #[.agg #[.slice aN M cN,.slice aA d cA],.slice (some ⟨g,0,none⟩) d d] wp fun e w'=>∃ (k:Int) (a9:Option Addr) (n9 c9:Nat) (E:Int),e=.returned (.tuple #[.agg #[.int .i64 k,.slice a9 n9 c9],.int .i64 E])∧(E == 19)=false∧Fr wp w':=hsp1.mono fun e w' h=>by
        obtain ⟨i0,cs0⟩:=oc
        obtain ⟨h1,h2⟩:=h
        cases hc:cs0.all Bk with
        | true=>
          obtain ⟨a,c,h3,-,-,h4,-⟩:=h1 hc
          exact ⟨_,_,_,_,_,h3,rfl,h4⟩
        | false=>
          obtain ⟨h3,h4⟩:=h2 hc
          exact ⟨_,_,_,_,_,h3,rfl,h4⟩
       clear hsp1
       replace hsp2:=hZ hsp2
       go_wp2_with fail
       refine hsp2.out.mono ?_
       rintro e w3 ⟨k9,a9,n9,c9,E,rfl,hE,hf3⟩
       clear hsp2 n0 n1
       go_upto_region 19 with (fail)
       obtain ⟨w4,hw4⟩:∃ w4,w4=w3.alloc (.cells #[.int .i64 k9,.slice a9 n9 c9] 37):=⟨_,rfl⟩
       have f34:Fr w3 w4:=by rw [hw4]; exact (Fr.refl _).alloc _
       rw [← hw4]
       have hfp4:=hf3.trans f34
       clear hw4
       have hfx3:=hfx.fr hfp4
       have hO3:=hZ (hO.out.fr hfp4)
       have l0:=(hFo.trans hfp4).keep hL8.out.a
       go_wp2_with fail
       go_loopg [17] d (fun k s17 wr=>∃ zs:List Int,s17=.int .i64 ((k:Int) - 1)∧k≤d∧Hid (EX B d ys=EX B k zs)∧Hid (zs.length=d)∧Fx (·=g) w2 wr∧Hid (FO wr g 0 zs)∧Hid (∀ x,x ∈ zs→Bk x=true))
       case atStart=>exact ⟨ys,by go_num,Af _,rfl,hyl.out,hfx3,hO3.out,hyf.out⟩
       case round=>
        clear hO3 hfx3 l0
        obtain ⟨zs,rfl,hkr,hnx,hzl,hfx4,hO4,hzf⟩:=hrel
        obtain ⟨wv,rfl⟩:∃ wv:World,wv=wr:=⟨_,rfl⟩
        have hFo4:=hFW.out _ hfx4
        have hFr4:=hFr.trans hFo4
        have l1:=hFo4.keep hL8.out.b
        match gk,hkr,hnx with
        | 0,_,hnx=>
          have hn0:EX B d ys=none:=hnx.out.trans rfl
          have hab3:=hab2.out
          rw [hn0] at hab3
          injection hab3 with hab3
          have d0:decide (((0:Nat):Int) - 1 ≥ 0)=false:=Ab (by omega)
          have d1:decide (((0:Nat):Int) - 1 < 0)=true:=Ad (by omega)
          replace hn0:=hZ hn0
          go_wp2_with fail
          go_quiet (fail)
          obtain ⟨w5,hw5⟩:∃ w5,w5=wv.drewN nq:=⟨_,rfl⟩
          have f5':Fr wv w5:=by rw [hw5]; exact (Fr.refl wv).drewN _
          rw [← hw5]
          clear hw5 l1
          have hW9:=hZ (hW8.out.fr (hFo4.trans f5'))
          have hfx10:=hZ (IP w5 (nb+1) (.bool false) (.slice none 0 0) (.int .i64 0) (.slice none 0 0) (.int .i64 0) (.slice none 0 0))
          have hW10:=hZ (hW9.out.stored (.bool false) (.slice none 0 0) (.int .i64 0) (.slice none 0 0) (.int .i64 0) (.slice none 0 0))
          obtain ⟨c0,c1,c2,c3,c4,c5,e0,e1,e2,e3,e4,e5⟩:=hW9.out
          go_wp2_with fail
          obtain ⟨q0,q1,q2,q3,q4,q5,-⟩:=hW10.out
          refine Ay (v:=.tuple #[LR,.bool true,.int .i64 0]) (by unfold LR; simp [results,Tryz.results19,go_sem,q0,q1,q2,q3,q4,q5]) rfl ?_
          subst hab3
          exact .inr ⟨hnoA.out,rfl,((Fx.of_fr (hFr4.trans f5')).trans hfx10.out).toFr (fun k hk e=>by have e:k=nb+1:=e; have:=hnb.out; omega)⟩
        | k+1,hkr,hnx=>
          obtain ⟨z,hz⟩:∃ z,zs[k]?=some z:=⟨_,Aa (by rw [hzl.out]; omega)⟩
          have hzf1:=hzf.out z (Ac hz)
          unfold Bk at hzf1
          have hzf2:=Au hzf1
          have hkB:k < B.length:=by rw [lenB.out]; omega
          obtain ⟨bb,bo,ra,rc,rfl,hc1,hel⟩:=(hmB8.out.fr hFo4).at hkB
          have hrw9:=hrB.out.row hkB
          rw [hrw9] at hc1
          obtain ⟨b3,o3,dg,rfl,hbl3,hd,hc2⟩:=hel.at (i:=k) (by rw [hrw9]; omega)
          have hdf:=hbB.out _ (AK hkB) dg (Ac hd)
          unfold Bk at hdf
          have hdf2:=Au hdf
          have hdig:D4 B k=dg:=by unfold D4; rw [BB hkB,hd]; rfl
          obtain ⟨x1,x2⟩:=hO4.out.2.2 k z hz
          rw [AE] at x1 x2
          have ec:((k+1:Nat):Int) - 1=(k:Int):=by omega
          rw [ec]
          have hnx2:=hnx.out
          rw [EX,hz,hdig] at hnx2
          simp only [Bw] at hnx2
          have d0:decide ((k:Int) ≥ 0)=true:=Ad (by omega)
          have d1:decide ((k:Int) < 0)=false:=Ab (by omega)
          have z0:(0:Int)≤(k:Int):=by omega
          have z1:(k:Int) < (d:Int):=by omega
          have hdw:IntKind.i64.wrap (dg - 1)=dg - 1:=AC _ (by omega)
          have hzw:IntKind.i64.wrap (z+1)=z+1:=AC _ (by omega)
          have hkz:k < zs.length:=by rw [hzl.out]; omega
          by_cases hzd:z=dg - 1
          ·rw [Ak hzd] at hnx2
           have d2:(z == dg - 1)=true:=by rw [hzd]; simp
           replace hnx2:=hZ hnx2
           replace hz:=hZ hz
           replace hd:=hZ hd
           replace hdig:=hZ hdig
           replace hzd:=hZ hzd
           replace hrw9:=hZ hrw9
           clear ec hnx hzf1 hdf hel
           go_wp2_with fail
           go_quiet (fail)
           have y1:(wv.drewN nq).cell? ⟨g,k,none⟩=some (.int .i64 z):=x1
           have y2:(wv.drewN nq).frozen? ⟨g,k,none⟩=false:=x2
           go_wp2_with fail
           go_roundg k
           case measure=>omega
           case rel=>exact ⟨zs.set k 0,by go_num,by omega,hnx2.out,by show _=_; rw [AN]; exact hzl.out,(hfx4.drewN nq).setCell (q:=⟨g,k,none⟩) (.inl rfl) _,by have:=(hO4.out.fr ((Fr.refl wv).drewN nq)).set (k:=k) hkz 0; rw [AE] at this; exact this,fun x hx=>by
            rcases Bt hx with h | h
            ·exact hzf.out x h
            ·rw [h]; decide⟩
          ·rw [Aj hzd] at hnx2
           have d2:(z == dg - 1)=false:=AF hzd
           have hab3:=hab2.out
           have hnx8:=hnx9.out
           rw [hnx2] at hab3 hnx8
           replace hab3:=hZ hab3
           replace hnx8:=hZ hnx8
           replace hnx2:=hZ hnx2
           replace hz:=hZ hz
           replace hd:=hZ hd
           replace hdig:=hZ hdig
           replace hzd:=hZ hzd
           replace hrw9:=hZ hrw9
           clear ec hnx hzf1 hdf hel
           go_wp2_with fail
           go_quiet (fail)
           have y1:(wv.drewN nq).cell? ⟨g,k,none⟩=some (.int .i64 z):=x1
           have y2:(wv.drewN nq).frozen? ⟨g,k,none⟩=false:=x2
           go_wp2_with fail
           go_roundg f
           case measure=>omega
           case rel=>exact ⟨zs.set k (z+1),hab3.out,by show _=_; rw [AN]; exact hzl.out,hnx8.out.1,(hfx4.drewN nq).setCell (q:=⟨g,k,none⟩) (.inl rfl) _,by have:=(hO4.out.fr ((Fr.refl wv).drewN nq)).set (k:=k) hkz (z+1); rw [AE] at this; exact this⟩
section
variable {N A:List Sy} {d M:Nat} {aN aA:Option Addr} {cN cA:Nat} {w:World} {C C':List (List Int)} {D D':Int} {B:List (List Int)} {F:Nat} {res:Option (List Int)}
theorem Tx (hn:DY w aN aA cN cA M d N A) (hI:H6 (A.map Sy.row) d C D C' D') (hs:Om (N.map Sy.row) (A.map Sy.row) d M C D B F res) (W:World) (hG:G W) (hW:DY W aN aA cN cA M d N A) :
 Calls Tryz.prog 19 #[.agg #[.slice aN M cN,.slice aA d cA]] W (Ow W N M d (Wm (N.map Sy.row) C D d) res):=by
 have d3:=hn.d3
 have m8:=hn.m8
 have hrN:∀ x,x ∈ N→x.row.length=d:=fun x hx=>(hn.rN x hx).2.1
 have key:B.length=d∧BU d B∧(∀ q,q ∈ B→∀ x,x ∈ q→Bk x=true)∧(∀ j,j < d→0 < D4 B j)∧(∀ x:List Int,x.length=d→EJ B d x→x.all Bk=true) ∧
  ∀ W' (_:Fr W W') a c (_:BS W' a (A.map Sy.row)),Calls Tryz.prog 54 #[.int .i64 d,.slice a d c] W' (Ir W' d B):=by
  by_cases hd:1≤d
  ·obtain ⟨h1,hB,-⟩:=hs.pos hd
   have hr:=hn.rows hI hd
   have hfB:∀ q,q ∈ B→∀ x,x ∈ q→Bk x=true:=fun q hq x hx=>by
    obtain ⟨i,hi⟩:=AM hq
    obtain ⟨k,hk⟩:=AM hx
    have:=hB.bd i k
    unfold ent A7 at this
    rw [hi,Bw,hk,Bw] at this
    exact Ad ⟨by omega,by omega⟩
   have hTA:Gg d (A.map Sy.row):=⟨by rw [hn.lA]; omega,by omega,hn.lRA,fun q hq x hx=>MR (hn.bA q hq x hx)⟩
   have hBt:B.take d=B:=Ai (by rw [hB.len]; exact Af _)
   refine ⟨hB.len,hB.rect,hfB,hr.dig hB,hr.fit hB,fun W' hW' a c hm=>?_⟩
   have:=Ou (A.map Sy.row) B 200000 d a c d W' (hG.fr hW') hm hTA (by rw [hn.lA]; omega) hd h1 (by rw [hBt]; exact hfB)
   rw [hn.lA,hBt] at this
   exact this
  ·obtain rfl:d=0:=by omega
   obtain ⟨rfl,-⟩:=hs.zero rfl
   refine ⟨rfl, ?_, ?_, ?_, ?_,fun W' _ a c _=>Y0 a c W'⟩
   ·intro q hq; cases hq
   ·intro q hq; cases hq
   ·intro j hj; exact absurd hj (Bc _)
   ·intro x hx _; rw [Aq hx]; rfl
 obtain ⟨k1,k2,k3,k4,k5,k6⟩:=key
 refine Qc N A d M F B (fun i j=>List.zipWith (· - ·) (A7 (N.map Sy.row) j) (A7 (N.map Sy.row) i)) (fun x=>J8 (J5 C D (N.map Sy.row) d x) M) _ res aN aA cN cA W hG hW.hn hn.hM.symm (by omega) (by omega) hn.hd k1 k2 k3 k4 hrN k6 ?_ ?_ (QI hn hI) ?_ hs.abs
 ·intro i j x y hx hy hij W' hW'
  have hxm:=Ac hx
  have hym:=Ac hy
  rw [hn.at hx,hn.at hy]
  exact KK y.row x.row d y.ra x.ra y.rc x.rc W' (hG.fr hW') ((hW.hn.noms.2 y hym).fr hW') ((hW.hn.noms.2 x hxm).fr hW') (hrN y hym) (hrN x hxm) (by omega) (fun z hz=>MR ((hn.rN y hym).2.2 z hz)) (fun z hz=>MR ((hn.rN x hxm).2.2 z hz))
 ·intro i j hij hj W' a c hW' he
  obtain ⟨x,hx,hxm⟩:=hn.get (show i < M by omega)
  obtain ⟨y,hy,hym⟩:=hn.get hj
  rw [hn.at hx,hn.at hy] at he
  rw [Uw hn hx hy]
  exact R4 hn hI (by rw [Ew,hrN y hym,hrN x hxm]; exact TI _) (hn.dif (fun z hz=>MR ((hn.rN y hym).2.2 z hz)) hxm) W' a c (hG.fr hW') (hW.hn.fr hW') he
 ·intro xs hl hb W' a c hW' he
  exact XI hn hI hl (Ar.1 (k5 xs hl hb)) W' a c (hG.fr hW') (hW.fr hW') he
end
end Go.Proofs.YtkjemicelmabdaaGreatDoor
