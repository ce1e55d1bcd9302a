/- Contracts and laws: AAgA. -/
import Derived.Test.YtklpnlbmdknjeaaGreatDoorASA
import Derived.Test.YtklpnlbmdknjeaaGreatDoorASI
import Derived.Test.YtklpnlbmdknjeaaGreatDoorARd

namespace Go.Proofs.YtklpnlbmdknjeaaGreatDoor
open Go.RowKit Go.Lib
theorem sing_end {x t:Rat}:stepQ 1 ⟨[[1,x],[0,0]],[0],t⟩=some ⟨[[1,x],[0,0]],[0],0⟩:=by
 simp [stepQ,atQ,List.findIdx_cons]
theorem sing2 {a b d e:Rat} (hdet:a * e - b * d=0) (ka:Bd 9 1 a) (kb:Bd 9 1 b) (kd:Bd 9 1 d) (ke:Bd 9 1 e):∃ F,redTo [[a,b],[d,e]] 2=some F∧F.lead.length < 2:=by
 have t0:Tq 0:=Bd.zero.q
 have t1:Tq 1:=Bd.one.q
 have n1:∀ x:Rat,-1 * x=-x:=fun x=>by grind
 by_cases ha:a=0
 ·by_cases hd:d=0
  ·subst ha; subst hd
   have e1:stepQ 0 ⟨[[0,b],[0,e]],[],1⟩=some ⟨[[0,b],[0,e]],[],0⟩:=by simp [stepQ,atQ,List.findIdx_cons]
   by_cases hb:b=0
   ·by_cases he:e=0
    ·subst hb; subst he
     have e2:stepQ 1 ⟨[[0,0],[0,0]],[],0⟩=some ⟨[[0,0],[0,0]],[],0⟩:=by simp [stepQ,atQ,List.findIdx_cons]
     exact ⟨_,by rw [redTo,redTo,redTo,Option.bind_some,e1,Option.bind_some,e2],by show _ < 2; simp⟩
    ·subst hb
     have hgg:e / e=1:=by grind
     have h0:0 / e=0:=by grind
     have e2:∃ t:Rat,stepQ 1 ⟨[[0,0],[0,e]],[],0⟩=some ⟨[[0,1],[0,0]],[1],t⟩:=⟨0,by simp [stepQ,atQ,List.findIdx_cons,he,swapIf,swp,entQ,rowQ,tqRow,negIf,t0,ke.q,hgg,h0,elimQ]⟩
     obtain ⟨t,e2⟩:=e2
     exact ⟨_,by rw [redTo,redTo,redTo,Option.bind_some,e1,Option.bind_some,e2],by show _ < 2; simp⟩
   ·have hgg:b / b=1:=by grind
    have h0:0 / b=0:=by grind
    have o1:subOk e 0 0=true:=subOk_of ke.q t0 (ke.mul Bd.zero).q t0
    have o2:subOk e e 1=true:=subOk_of ke.q t1 (ke.mul Bd.one).q ke.q
    have h1:elimQ [[0,1],[0,e]] 1 0 2=some [[0,1],[0,0]]:=by
     by_cases he:e=0
     ·simp [elimQ,entQ,rowQ,he]
     ·simp [elimQ,entQ,rowQ,he,subRow,o1,o2]; grind
    have e2:∃ t:Rat,stepQ 1 ⟨[[0,b],[0,e]],[],0⟩=some ⟨[[0,1],[0,0]],[1],t⟩:=⟨0,by
     simp [stepQ,atQ,List.findIdx_cons,hb,swapIf,entQ,rowQ,tqRow,negIf,t0,kb.q,hgg,h0]
     rw [h1]⟩
    obtain ⟨t,e2⟩:=e2
    exact ⟨_,by rw [redTo,redTo,redTo,Option.bind_some,e1,Option.bind_some,e2],by show _ < 2; simp⟩
  ·subst ha
   have hb:b=0:=by
    have:b * d=0:=by grind
    rcases Rat.mul_eq_zero.1 this with h | h
    ·exact h
    ·exact absurd h hd
   subst hb
   have kx:Bd 9 9 (e / d):=(ke.div kd hd).mono (by decide) (by decide)
   have hgg:d / d=1:=by grind
   have e1:∃ t:Rat,stepQ 0 ⟨[[0,0],[d,e]],[],1⟩=some ⟨[[1,e / d],[0,0]],[0],t⟩:=⟨-1 * d,by simp [stepQ,atQ,List.findIdx_cons,hd,swapIf,swp,entQ,rowQ,tqRow,negIf,t1,kd.q,ke.q,hgg,elimQ]⟩
   obtain ⟨t,e1⟩:=e1
   exact ⟨_,by rw [redTo,redTo,redTo,Option.bind_some,e1,Option.bind_some,sing_end],by show _ < 2; simp⟩
 ·have kx:Bd 9 9 (b / a):=(kb.div ka ha).mono (by decide) (by decide)
  have hx:a * (b / a)=b:=by rw [Rat.mul_comm]; exact Rat.div_mul_cancel ha
  have hgg:a / a=1:=by grind
  have o1:subOk d d 1=true:=subOk_of kd.q t1 (kd.mul Bd.one).q kd.q
  have o2:subOk d e (b / a)=true:=subOk_of kd.q kx.q (kd.mul kx).q ke.q
  have hz:e - d * (b / a)=0:=by
   have h2:a * (e - d * (b / a))=0:=by grind
   rcases Rat.mul_eq_zero.1 h2 with h | h
   ·exact absurd h ha
   ·exact h
  have h1:elimQ [[1,b / a],[d,e]] 0 0 2=some [[1,b / a],[0,0]]:=by
   by_cases hd:d=0
   ·have he:e=0:=by rw [hd] at hz; grind
    simp [elimQ,entQ,rowQ,hd,he]
   ·simp [elimQ,entQ,rowQ,hd,subRow,o1,o2]; grind
  have e1:∃ t:Rat,stepQ 0 ⟨[[a,b],[d,e]],[],1⟩=some ⟨[[1,b / a],[0,0]],[0],t⟩:=⟨a,by
   simp [stepQ,atQ,List.findIdx_cons,ha,swapIf,entQ,rowQ,tqRow,negIf,t1,ka.q,kb.q,hgg]
   rw [h1]⟩
  obtain ⟨t,e1⟩:=e1
  exact ⟨_,by rw [redTo,redTo,redTo,Option.bind_some,e1,Option.bind_some,sing_end],by show _ < 2; simp⟩
theorem rk_plan {m:List (List Int)} {d:Nat} (d1:1≤d) (d2:d≤2) (hm:m.length=d) (hr:∀ r,r ∈ m→r.length=d) (hb:BdM 9 m):∃ F,redTo (m.map qrow) d=some F∧((detM m≠0∧F.lead.length=d)∨(detM m=0∧F.lead.length < d)):=by
 have h2:d=1∨d=2:=by omega
 rcases h2 with rfl | rfl
 ·obtain ⟨r,rfl⟩:=list1 hm
  obtain ⟨a,rfl⟩:=list1 (hr r (by simp))
  have k0:=hb _ (List.mem_of_getElem? (i:=0) rfl)
  by_cases ha:a=0
  ·subst ha
   have e1:stepQ 0 ⟨[[0]],[],1⟩=some ⟨[[0]],[],0⟩:=by simp [stepQ,atQ,List.findIdx_cons]
   exact ⟨⟨[[0]],[],0⟩,by show redTo [[((0:Int):Rat)]] 1=_; rw [redTo,redTo,Option.bind_some]; exact e1,.inr ⟨rfl,by decide⟩⟩
  ·obtain ⟨dt,o,hF,-⟩:=aug1 (l:=[a]) (x:=a) rfl (fun t ht=>k0 t ht) ha
   exact ⟨_,hF,.inl ⟨ha,rfl⟩⟩
 ·obtain ⟨r,r',rfl⟩:=list2 hm
  obtain ⟨a,b,rfl⟩:=list2 (hr r (by simp))
  obtain ⟨d,e,rfl⟩:=list2 (hr r' (by simp))
  have k0:=hb _ (List.mem_of_getElem? (i:=0) rfl)
  have k1:=hb _ (List.mem_of_getElem? (i:=1) rfl)
  by_cases hd:a * e - b * d=0
  ·obtain ⟨F,hF,hl⟩:=sing2 (a:=(a:Rat)) (b:=(b:Rat)) (d:=(d:Rat)) (e:=(e:Rat)) (by
    rw [← Rat.intCast_mul,← Rat.intCast_mul,← Rat.intCast_sub,hd]; rfl) (Bd.int a (k0 _ (by simp))) (Bd.int b (k0 _ (by simp))) (Bd.int d (k1 _ (by simp))) (Bd.int e (k1 _ (by simp)))
   exact ⟨F,hF,.inr ⟨hd,hl⟩⟩
  ·obtain ⟨co,D,dt,o,hF,-⟩:=aug2 (l:=[(a,d),(b,e)]) (x:=(a,d)) (y:=(b,e)) rfl rfl (fun t ht=>by
    simp only [List.mem_cons,List.not_mem_nil,or_false] at ht
    rcases ht with rfl | rfl
    ·exact ⟨k0 _ (by simp),k1 _ (by simp)⟩
    ·exact ⟨k0 _ (by simp),k1 _ (by simp)⟩) hd
   exact ⟨_,hF,.inl ⟨hd,rfl⟩⟩
attribute [local go_sem ↓] Go.wp_at_zero Go.wp_at_succ
theorem nmOf_size:∀ i,(nmOf i).size=1
 | 0 | 1 | 2 | 3 | 4 | 5 | _+6=>rfl
theorem rowMk_9 (two:Bool) (rs:List Int) (i:Nat):Row9 (dMk two) (rowMk two rs i):=⟨rowMk_length two rs i,fun y hy=>by
 have k:∀ x:Int,(x.tmod 8).natAbs≤9:=fun x=>by rw [Int.natAbs_tmod]; have:=Nat.mod_lt x.natAbs (show 0 < (8:Int).natAbs by decide); omega
 unfold rowMk at hy
 rcases List.mem_cons.1 hy with rfl | hy
 ·exact k _
 ·cases two with
  | false=>simp at hy
  | true=>simp at hy; subst hy; exact k _⟩
theorem syms_mk {two:Bool} {rs:List Int} {a b:Nat} {N:List Sy} (hN:N.map plainSy=symsMk two rs a b):∀ x,x ∈ N→x.nm.size=1∧Row9 (dMk two) x.row:=fun x hx=>by
 have h:=List.mem_map_of_mem (f:=plainSy) hx
 rw [hN] at h
 obtain ⟨i,hi⟩:=List.getElem?_of_mem h
 obtain ⟨-,e⟩:=symsMk_get two rs a b i _ hi
 unfold plainSy symMk at e
 injection e with e1 e2
 exact ⟨by rw [e1]; exact nmOf_size _,by rw [e2]; exact rowMk_9 two rs _⟩
theorem nt_plan {w:World} {aN aA:Option Addr} {cN cA:Nat} {two:Bool} {rs:List Int} {ln la:Nat} {N A:List Sy} (hn:NotIs w aN aA cA N A) (hN:N.map plainSy=symsMk two rs 0 ln) (hA:A.map plainSy=symsMk two rs 4 la) (h1:1≤N.length) (h2:N.length≤4) (h3:A.length≤3) :
 ∃ r,(∀ W,G W→Fr w W→Calls Tryz.prog 15 #[.agg #[.slice aN N.length cN,.slice aA A.length cA]] W fun e w'=>e=.returned (.int .i64 (nchkE N A r))∧Fr W w')∧(nchkE N A r=0→Nt42 w aN aA cN cA N.length (dMk two) N A):=by
 have hmN:=syms_mk hN
 have hmA:=syms_mk hA
 obtain ⟨d,hd⟩:∃ d,d=dMk two:=⟨_,rfl⟩
 have hd12:1≤d∧d≤2:=by rw [hd]; unfold dMk; cases two <;> decide
 rw [← hd] at hmN hmA ⊢
 have hfit:SyFit (N ++ A):=fun x hx=>by
  rcases List.mem_append.1 hx with h9 | h9
  ·have h1:=(hmN x h9).1
   have h2:=(hmN x h9).2.1
   exact ⟨by omega,by omega⟩
  ·have h1:=(hmA x h9).1
   have h2:=(hmA x h9).2.1
   exact ⟨by omega,by omega⟩
 by_cases hl:A.length=d
 ·have hrl:∀ r,r ∈ A.map Sy.row→r.length=d:=fun r hr=>by
   obtain ⟨x,hx,rfl⟩:=List.mem_map.1 hr
   exact (hmA x hx).2.1
  have hb:BdM 9 (A.map Sy.row):=fun r hr=>by
   obtain ⟨x,hx,rfl⟩:=List.mem_map.1 hr
   exact (hmA x hx).2.2
  obtain ⟨F,hF,hc⟩:=rk_plan hd12.1 hd12.2 (by rw [List.length_map]; exact hl) hrl hb
  refine ⟨F.lead.length,fun W hG hW=>?_,fun h0=>?_⟩
  ·refine NCheck_any aN aA cN cA F.lead.length N A W hG (hn.fr hW) hfit (by omega) (by omega) (fun _ _ _ _=>⟨F, ?_,rfl⟩)
   have e:colsN (A.map Sy.row)=d:=by
    match A,hl,hmA with
    | [],hl,_=>exact hl
    | x :: A',_,hr=>exact (hr x List.mem_cons_self).2.1
   rw [e]; exact hF
  ·have hge:¬ F.lead.length < A.length:=fun h=>by
    unfold nchkE at h0
    split at h0
    ·cases h0
    ·split at h0
     ·cases h0
     ·split at h0
      ·rename_i h9; exact h9 h0
      ·first | (rw [if_pos h] at h0; cases h0) | cases h0
   rcases hc with ⟨hdet,hll⟩ | ⟨-,hll⟩
   ·exact ⟨hn,rfl,hl,by omega,h1,by omega,hmN,hmA,by have h9:=h0; rw [hll] at h9; exact h9,⟨F,hF,hll⟩,hdet⟩
   ·omega
 ·have hsc:nscanE A.length (N ++ A) (N ++ A).length 0≠0:=fun h=>by
   have hlt:0 < (N ++ A).length:=by rw [List.length_append]; omega
   have hx:=List.getElem?_eq_getElem hlt
   have h9:=(nsymE_inv (nscanE_zero _ _ h 0 _ (Nat.le_refl _) (by omega) hx)).2.2.2
   have hm:(N ++ A)[0] ∈ N:=by rw [List.getElem_append_left h1]; exact List.getElem_mem _
   rw [(hmN _ hm).2.1] at h9
   exact hl h9.symm
  refine ⟨0,fun W hG hW=>NCheck_any aN aA cN cA 0 N A W hG (hn.fr hW) hfit (by omega) (by omega) (fun _ _ _ h=>absurd h hsc),fun h0=>?_⟩
  unfold nchkE at h0
  rw [if_neg (by omega),if_neg (by omega),if_pos hsc] at h0
  exact absurd h0 hsc
end Go.Proofs.YtklpnlbmdknjeaaGreatDoor
