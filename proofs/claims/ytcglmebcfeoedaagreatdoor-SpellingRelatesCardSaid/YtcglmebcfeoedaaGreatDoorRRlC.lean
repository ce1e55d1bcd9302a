/- Contracts and laws: RRlC. -/
import Derived.Test.YtcglmebcfeoedaaGreatDoorRPT
import Derived.Test.YtcglmebcfeoedaaGreatDoorRSH
import Derived.Test.YtcglmebcfeoedaaGreatDoorRUG
import Derived.Test.YtcglmebcfeoedaaGreatDoorRSI

namespace Go.Proofs.YtcglmebcfeoedaaGreatDoor
open Go.RowKit Go.Lib
attribute [local go_sem ↓] Go.wp_at_zero Go.wp_at_succ
theorem wide_nil (a:Option Addr) (c:Nat) (w:World):Calls Tryz.prog 100 #[.slice a 0 c] w fun e w'=>e=.returned (.tuple #[.slice none 0 0,.int .i64 0])∧Fr w w':=by
 go_enter Tryz.func100,Tryz.ntmps100
 go_wp2_with fail
 go_ret2
 exact ⟨rfl,Fr.refl _⟩
theorem kernel_nil (w:World):Calls Tryz.prog 99 #[.slice none 0 0,.int .i64 0] w fun e w'=>e=.returned (.slice none 0 0)∧Fr w w':=by
 go_enter Tryz.func99,Tryz.ntmps99
 go_wp2_with fail
 refine wp_loop_rounds 1 ?_
 rw [rounds_succ]
 go_wp2_with fail
 go_ret
 exact ⟨rfl,Fr.refl _⟩
theorem ssmall_nil (w:World):Calls Tryz.prog 98 #[.slice none 0 0] w fun e w'=>e=.returned (.tuple #[.slice none 0 0,.int .i64 0])∧Fr w w':=by
 go_enter Tryz.func98,Tryz.ntmps98
 go_wp2_with fail
 refine wp_loop_rounds 1 ?_
 rw [rounds_succ]
 go_wp2_with fail
 go_ret2
 exact ⟨rfl,Fr.refl _⟩
theorem Kernel_nil (a:Option Addr) (c:Nat) (w:World):Calls Tryz.prog 40 #[.slice a 0 c] w (MatRet w []):=by
 have h1:=hZ (tabCheck_ok [] a c 0 w (.inl rfl) ⟨Nat.zero_le _,Nat.zero_le _,fun _ h=>(by cases h),fun _ h=>(by cases h)⟩)
 have h2:=hZ (fun W=>wide_nil a c W)
 have h3:=hZ (fun W=>kernel_nil W)
 have h4:=hZ (fun W=>ssmall_nil W)
 go_enter Tryz.func40,Tryz.ntmps40
 go_wp2_with fail
 refine h1.out.mono ?_
 rintro e w1 ⟨rfl,hf1⟩
 go_wp2_with fail
 refine (h2.out _).mono ?_
 rintro e w2 ⟨rfl,hf2⟩
 go_wp2_with fail
 refine (h3.out _).mono ?_
 rintro e w3 ⟨rfl,hf3⟩
 go_wp2_with fail
 refine (h4.out _).mono ?_
 rintro e w4 ⟨rfl,hf4⟩
 go_wp2_with fail
 go_ret2
 exact ⟨none,0,rfl,.inl rfl,((hf1.trans hf2).trans hf3).trans hf4⟩
structure RelK (m:List (List Int)) (d:Nat) (K:List (List Int)):Prop where
 rect:Rect m.length K
 le:K.length≤m.length
 form:formOk K=true
 bd:∀ r,r ∈ K→∀ x,x ∈ r→x.natAbs≤4374
 zero:∀ i,i < K.length→∀ k,k < d→dotZ (fun j=>ent K i j) (fun j=>ent m j k) m.length=0
 has:∀ x:List Int,x.length=m.length→(∀ k:Nat,((x[k]?).getD 0).natAbs≤256)→∃ s,redT K x K.length=some s∧(zeroB s.1=true ↔ ∀ k,k < d→dotZ (fun j=>(x[j]?).getD 0) (fun j=>ent m j k) m.length=0)
theorem relK {m:List (List Int)} {d:Nat} (hr:Rect d m) (h3:m.length≤3) (hb:BdM 9 m):∃ K,RelK m d K∧(m.length=0→K=[])∧(1≤m.length→kerS 200001 d m=some K∧formS 200000 m.length 0 K 0=some (K,K.length)):=by
 by_cases h0:m.length=0
 ·obtain rfl:=List.eq_nil_of_length_eq_zero h0
  refine ⟨[],⟨fun _ h=>(by cases h),Nat.le_refl _,rfl,fun _ h=>(by cases h),fun _ h=>absurd h (Nat.not_lt_zero _),fun x hl _=>⟨(x,[]),rfl, ?_⟩⟩,fun _=>rfl,fun h=>absurd h (Nat.not_lt_zero _)⟩
  rw [List.eq_nil_of_length_eq_zero hl]
  exact ⟨fun _ _ _=>rfl,fun _=>rfl⟩
 ·obtain ⟨K,p,h⟩:=ker_is hr (by omega) h3 hb
  refine ⟨K,⟨h.rect,h.le,h.ech.form,fun r hr x hx=>?_,h.zero,fun x hl hx=>ker_has h h3 hl hx⟩,fun h9=>absurd h9 h0,fun _=>⟨h.run,h.own⟩⟩
  obtain ⟨i,hi⟩:=List.getElem?_of_mem hr
  obtain ⟨k,hk⟩:=List.getElem?_of_mem hx
  have:=h.bd i k
  unfold ent rowAt at this
  rw [hi,Option.getD_some,hk,Option.getD_some] at this
  exact this
theorem RelK.tab {m K:List (List Int)} {d:Nat} (h:RelK m d K) (h3:m.length≤3):TabOk m.length K :=
 ⟨by have:=h.le; omega,by omega,h.rect,fun r hr x hx=>by have:=h.bd r hr x hx; exact decide_eq_true ⟨by omega,by omega⟩⟩
theorem Relations_plan (d:Nat) (aN aA:Option Addr) (cN cA:Nat) (N A:List Sy) (w:World) (hG:G w) (hn:NotIs w aN aA cA N A) (hok:NotOk d N A) (hd:1≤d) (hA3:A.length≤3) (hb:BdM 9 (A.map Sy.row)):∃ K,RelK (A.map Sy.row) d K ∧
 ∀ W,Fr w W→Calls Tryz.prog 8 #[.agg #[.slice aN N.length cN,.slice aA A.length cA]] W fun e w'=>∃ a c,e=.returned (.tuple #[.slice a K.length c,.int .i64 0])∧K.length≤c∧MatIs w' a K∧Fr W w':=by
 have hml:(A.map Sy.row).length=A.length:=List.length_map _
 have hr:Rect d (A.map Sy.row):=fun r hr=>by
  obtain ⟨x,hx,rfl⟩:=List.mem_map.1 hr
  exact hok.row x (List.mem_append_right _ hx)
 obtain ⟨K,hK,h0,h1⟩:=relK hr (by omega) hb
 refine ⟨K,hK,fun W hW=>?_⟩
 have hT:=hK.tab (by omega)
 rw [hml] at hT h0 h1
 refine Relations_gen (K.length≤·) d aN aA cN cA N A K K W (hn.fr hW) hok (fun W1 hW1 a cap hm=>?_) (fun W1 hW1 a cap hm=>?_)
 ·by_cases e:A.length=0
  ·rw [e,h0 e]; exact Kernel_nil a cap W1
  ·exact ker_call (hG.fr hW) hok hd (by omega) (h1 (by omega)).1 W1 hW1 a cap hm
 ·by_cases e:K.length=0
  ·have e2:=List.eq_nil_of_length_eq_zero e
   rw [e2]
   exact (Of_n A.length (by omega) a cap W1).mono fun e w' h=>h
  ·have hA1:1≤A.length:=Classical.byContradiction fun h9=>e (by rw [h0 (by omega)]; rfl)
   have h:=OfC_any K K 200000 K.length a cap A.length W1 (hG.fr (hW.trans hW1)) hm hT (by omega) hA1 (h1 hA1).2 (fun r hr=>hT.2.2.2 r (List.mem_of_mem_take hr))
   rw [List.take_of_length_le (Nat.le_refl _)] at h
   exact h
theorem sumL_get {RA:List (List Int)} {cs s0:List Int} {d:Nat} (hs:s0.length=d) (hr:Rect d RA) (hl:cs.length=RA.length) {c:Nat} (hc:c < d):∀ j,j≤RA.length→((sumL s0 (cs.take j) (RA.take j))[c]?).getD 0=(s0[c]?).getD 0+dotZ (fun i=>(cs[i]?).getD 0) (fun i=>ent RA i c) j
 | 0,_=>by
   rw [List.take_zero,List.take_zero]
   show (s0[c]?).getD 0=(s0[c]?).getD 0+0
   omega
 | j+1,hj=>by
   have h1:=List.getElem?_eq_getElem (show j < cs.length by omega)
   have h2:=List.getElem?_eq_getElem (show j < RA.length by omega)
   have ih:=sumL_get hs hr hl hc j (by omega)
   have hlen:(sumL s0 (cs.take j) (RA.take j)).length=d:=sumL_length d _ _ _ hs fun x hx=>hr x (List.mem_of_mem_take hx)
   have hxl:RA[j].length=d:=hr.row (by omega)
   rw [sumL_step s0 cs RA j _ _ h1 h2]
   generalize sumL s0 (cs.take j) (RA.take j)=L at *
   unfold addK
   rw [List.getElem?_zipWith]
   have e1:=List.getElem?_eq_getElem (show c < L.length by omega)
   have e2:=List.getElem?_eq_getElem (show c < RA[j].length by omega)
   rw [e1] at ih
   rw [e1,e2]
   show L[c]+cs[j] * RA[j][c]=_+(dotZ _ _ j+((cs[j]?).getD 0) * ent RA j c)
   have e3:ent RA j c=RA[j][c]:=by unfold ent rowAt; rw [h2,Option.getD_some,e2]; rfl
   have ih:L[c]=_:=ih
   rw [h1,e3,ih,Option.getD_some]; omega
theorem dotZ_sub {f g h u:Nat→Int}:∀ n,(∀ j,j < n→u j=f j - g j)→dotZ u h n=dotZ f h n - dotZ g h n
 | 0,_=>rfl
 | n+1,hu=>by
   show dotZ u h n+u n * h n=dotZ f h n+f n * h n - (dotZ g h n+g n * h n)
   rw [dotZ_sub n (fun j hj=>hu j (by omega)),hu n (by omega)]; grind
section
variable {RA:List (List Int)} {d:Nat}
theorem sumL_len {cs s0:List Int} (hs:s0.length=d) (hr:Rect d RA):(sumL s0 cs RA).length=d:=sumL_length d _ _ _ hs hr
theorem sumL_full {cs s0:List Int} (hs:s0.length=d) (hr:Rect d RA) (hl:cs.length=RA.length) {c:Nat} (hc:c < d):((sumL s0 cs RA)[c]?).getD 0=(s0[c]?).getD 0+dotZ (fun i=>(cs[i]?).getD 0) (fun i=>ent RA i c) RA.length:=by
 have h:=sumL_get hs hr hl hc RA.length (Nat.le_refl _)
 rw [List.take_of_length_le (Nat.le_of_eq hl),List.take_of_length_le (Nat.le_refl _)] at h
 exact h
theorem rel_zero (hr:Rect d RA) {K:List (List Int)} (h:RelK RA d K) {x:List Int} (hx:x ∈ K):sumL (List.replicate d 0) x RA=List.replicate d 0:=by
 obtain ⟨i,hi⟩:=List.getElem?_of_mem hx
 have hil:=(List.getElem?_eq_some_iff.1 hi).1
 have hxl:=h.rect x hx
 refine row_ext (sumL_len (List.length_replicate ..) hr) (List.length_replicate ..) fun k hk=>?_
 rw [sumL_full (List.length_replicate ..) hr hxl hk]
 have h9:=h.zero i hil k hk
 have e:dotZ (fun j=>(x[j]?).getD 0) (fun j=>ent RA j k) RA.length=0:=Eq.trans (dotZ_cg _ (fun j _=>by show (x[j]?).getD 0=ent K i j; unfold ent rowAt; rw [hi]; rfl) (fun _ _=>rfl)) h9
 rw [e]; omega
theorem row_iff (hr:Rect d RA) {s0 cs ct dd:List Int} (hs:s0.length=d) (hc:cs.length=RA.length) (ht:ct.length=RA.length) (hd:∀ j,j < RA.length→(dd[j]?).getD 0=(cs[j]?).getD 0 - (ct[j]?).getD 0):sumL s0 cs RA=sumL s0 ct RA ↔ ∀ k,k < d→dotZ (fun j=>(dd[j]?).getD 0) (fun j=>ent RA j k) RA.length=0:=by
 have e:=fun k=>dotZ_sub (h:=fun j=>ent RA j k) RA.length hd
 constructor
 ·intro h k hk
  have h1:=sumL_full hs hr hc hk
  have h2:=sumL_full hs hr ht hk
  rw [h] at h1
  rw [e k]; omega
 ·intro h
  refine row_ext (sumL_len hs hr) (sumL_len hs hr) fun k hk=>?_
  rw [sumL_full hs hr hc hk,sumL_full hs hr ht hk]
  have:=h k hk
  rw [e k] at this
  omega
end
end Go.Proofs.YtcglmebcfeoedaaGreatDoor
