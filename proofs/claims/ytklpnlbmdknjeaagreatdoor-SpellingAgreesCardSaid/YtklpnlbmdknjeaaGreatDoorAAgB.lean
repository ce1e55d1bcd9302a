/- Contracts and laws: AAgB. -/
import Derived.Test.YtklpnlbmdknjeaaGreatDoorAUG
import Derived.Test.YtklpnlbmdknjeaaGreatDoorASJ
import Derived.Test.YtklpnlbmdknjeaaGreatDoorAPM
import Derived.Test.YtklpnlbmdknjeaaGreatDoorAB

namespace Go.Proofs.YtklpnlbmdknjeaaGreatDoor
open Go.RowKit Go.Lib
section
variable {N A:List Sy} {d M:Nat} {aN aA:Option Addr} {cN cA:Nat} {w:World} {C C':List (List Int)} {D D':Int} {B:List (List Int)} {F:Nat} {res:Option (List Int)}
theorem spell_row (hn:Nt42 w aN aA cN cA M d N A) (hI:Inv42 (A.map Sy.row) d C D C' D') (hs:USearch (N.map Sy.row) (A.map Sy.row) d M C D B F res) (hr:res=none) {r:List Int} (hrl:r.length=d) (hrb:∀ x,x ∈ r→x.natAbs < 300):∃ i cs,spF (toF C D (N.map Sy.row) d r) M=some (i,cs)∧i < M∧cs.length=d∧cs.all fitB=true∧rdT (A.map Sy.row) cs (rowAt (N.map Sy.row) i) d=r:=by
 obtain ⟨⟨i,cs⟩,h⟩:=Option.isSome_iff_exists.1 (hs.full hr r hrl)
 obtain ⟨hi,hf⟩:=spF_inv h
 refine ⟨i,cs,h,hi,toF_len hf,List.all_eq_true.2 fun x hx=>?_,toF_back hn hI hrl hi hf⟩
 by_cases hd:1≤d
 ·have hrw:=hn.rows hI hd
  unfold toF at hf
  have h1:=solve_bd hrw.ok.inv hn.d3 hf (B:=400) (fun z hz=>by
   obtain ⟨u,v,hu,hv,rfl⟩:=mem_zipWithZ hz
   have h1:=hrb u hu
   have h2:=(hrw.row hi).2 v hv
   omega) x hx
  exact decide_eq_true ⟨by omega,by omega⟩
 ·rw [List.eq_nil_of_length_eq_zero (show cs.length=0 by have:=toF_len hf; omega)] at hx
  cases hx
theorem own_row (hn:Nt42 w aN aA cN cA M d N A) {i:Nat} (hi:i < M) {cs:List Int} (_:cs.length=d) (hc:∀ x,x ∈ cs→x.natAbs < 10):(rdT (A.map Sy.row) cs (rowAt (N.map Sy.row) i) d).length=d∧(∀ x,x ∈ rdT (A.map Sy.row) cs (rowAt (N.map Sy.row) i) d→x.natAbs < 300) ∧
 ∀ k:Nat,k < d→((rdT (A.map Sy.row) cs (rowAt (N.map Sy.row) i) d)[k]?).getD 0=((rowAt (N.map Sy.row) i)[k]?).getD 0+dotZ (fun j=>(cs[j]?).getD 0) (fun j=>ent (A.map Sy.row) j k) d:=by
 obtain ⟨x,hx,hxm⟩:=hn.get hi
 have hx9:=(hn.rN x hxm).2
 rw [hn.at hx]
 have hrA:∀ i,i < d→(rowAt (A.map Sy.row) i).length=d:=fun i hi=>(hn.rowA i hi).1
 have hl:=rdT_len (cs:=cs) hx9.1 hrA d (Nat.le_refl _)
 have hg:∀ k:Nat,k < d→((rdT (A.map Sy.row) cs x.row d)[k]?).getD 0=(x.row[k]?).getD 0+dotZ (fun j=>(cs[j]?).getD 0) (fun j=>ent (A.map Sy.row) j k) d:=fun k hk=>rdT_get hx9.1 hrA hk d (Nat.le_refl _)
 refine ⟨hl,fun y hy=>?_,hg⟩
 obtain ⟨k,hk⟩:=List.getElem?_of_mem hy
 have hkd:k < d:=by rw [← hl]; exact (List.getElem?_eq_some_iff.1 hk).1
 have h1:=hg k hkd
 rw [hk,Option.getD_some] at h1
 have h2:=dotZ_bd (f:=fun j=>(cs[j]?).getD 0) (g:=fun j=>ent (A.map Sy.row) j k) (A:=9) (B:=9) (n:=d) fun j hj=>⟨by
  show ((cs[j]?).getD 0).natAbs≤9
  cases e:cs[j]? with
  | none=>exact Nat.zero_le _
  | some z=>have:=hc z (List.mem_of_getElem? e); show z.natAbs≤9; omega,by
  show (ent (A.map Sy.row) j k).natAbs≤9
  unfold ent
  cases e:(rowAt (A.map Sy.row) j)[k]? with
  | none=>exact Nat.zero_le _
  | some z=>exact (hn.rowA j hj).2 z (List.mem_of_getElem? e)⟩
 have h3:((x.row[k]?).getD 0).natAbs≤9:=by
  cases e:x.row[k]? with
  | none=>exact Nat.zero_le _
  | some z=>exact hx9.2 z (List.mem_of_getElem? e)
 have h4:d * (9 * 9)≤3 * (9 * 9):=Nat.mul_le_mul_right _ hn.d3
 omega
theorem back_own (hn:Nt42 w aN aA cN cA M d N A) (hI:Inv42 (A.map Sy.row) d C D C' D') (hno:NoTwo C D (N.map Sy.row) d M) {i:Nat} (hi:i < M) {cs:List Int} (hl:cs.length=d) (hc:∀ x,x ∈ cs→x.natAbs < 10):spF (toF C D (N.map Sy.row) d (rdT (A.map Sy.row) cs (rowAt (N.map Sy.row) i) d)) M=some (i,cs):=by
 obtain ⟨h1,-,h3⟩:=own_row hn hi hl hc
 by_cases hd:1≤d
 ·have hrw:=hn.rows hI hd
  have hx:=(hrw.row hi).1
  have hme:toF C D (N.map Sy.row) d (rdT (A.map Sy.row) cs (rowAt (N.map Sy.row) i) d) i=some cs:=by
   obtain ⟨cs',e1,e2,e3⟩:=solve_span hrw.ok (z:=subR (rdT (A.map Sy.row) cs (rowAt (N.map Sy.row) i) d) (rowAt (N.map Sy.row) i)) (c:=fun j=>(cs[j]?).getD 0) fun k hk=>by
    rw [subR_get h1 hx,h3 k hk]
    show _=dotZ (fun j=>(cs[j]?).getD 0) (fun j=>ent (A.map Sy.row) j k) d
    omega
   have:cs'=cs:=row_ext e2 hl fun k hk=>e3 k hk
   rw [this] at e1
   exact e1
  refine spF_some hi (fun j hj=>?_) hme
  cases e:toF C D (N.map Sy.row) d (rdT (A.map Sy.row) cs (rowAt (N.map Sy.row) i) d) j with
  | none=>rfl
  | some c9=>
    have:=hrw.one hno h1 (show j < M by omega) hi (by rw [e]; rfl) (by rw [hme]; rfl)
    omega
 ·obtain rfl:d=0:=by omega
  have hM1:M=1:=Classical.byContradiction fun h9=>by
   have:=hno 0 1 (by omega) (by have:=hn.m1; omega)
   cases this
  obtain rfl:i=0:=by omega
  rw [List.eq_nil_of_length_eq_zero hl]
  exact spF_some hi (fun j hj=>absurd hj (Nat.not_lt_zero _)) rfl
theorem uq_short {W w':World} {e:Ending} (h:UqPost W N M d (prU (N.map Sy.row) C D d) res e w'):∃ (is q:Bool) (a1 a2 a3:Option Addr) (n1 c1 n2 c2 n3 c3:Nat) (i j:Int),e=.returned (.tuple #[.bool is,.agg #[.bool q,.slice a1 n1 c1,.int .i64 i,.slice a2 n2 c2,.int .i64 j,.slice a3 n3 c3],.int .i64 0])∧Fr W w'∧(is=true→NoTwo C D (N.map Sy.row) d M∧res=none):=by
 rcases h with ⟨i,j,cs,y,a1,c1,a2,c2,a3,c3,-,-,-,-,-,rfl,-,-,-,hf⟩ | ⟨hno,h⟩
 ·exact ⟨_,_,_,_,_,_,_,_,_,_,_,_,_,rfl,hf,fun h=>(by cases h)⟩
 ·unfold UqRet at h
  cases res with
  | none=>
    obtain ⟨rfl,hf⟩:=h
    exact ⟨_,_,_,_,_,_,_,_,_,_,_,_,_,rfl,hf,fun _=>⟨hno,rfl⟩⟩
  | some x=>
    obtain ⟨g,c,rfl,-,-,hf⟩:=h
    exact ⟨_,_,_,_,_,_,_,_,_,_,_,_,_,rfl,hf,fun h=>(by cases h)⟩
end
theorem rdT_sumL {RA:List (List Int)} {cs s0:List Int} {d:Nat} (hc:cs.length=d) (hA:RA.length=d):∀ j,j≤d→rdT RA cs s0 j=sumL s0 (cs.take j) (RA.take j)
 | 0,_=>rfl
 | j+1,hj=>by
   have h1:=List.getElem?_eq_getElem (show j < cs.length by omega)
   have h2:=List.getElem?_eq_getElem (show j < RA.length by omega)
   rw [rdT,rdT_sumL hc hA j (by omega),sumL_step s0 cs RA j _ _ h1 h2]
   unfold rowAt addK
   rw [h1,h2]; rfl
section
variable {N A:List Sy} {d M:Nat} {aN aA:Option Addr} {cN cA:Nat} {w:World} {C C':List (List Int)} {D D':Int}
theorem agree_mem (hn:Nt42 w aN aA cN cA M d N A) (hI:Inv42 (A.map Sy.row) d C D C' D') (hno:NoTwo C D (N.map Sy.row) d M) {R:List Int} {p:Nat×List Int} (hsp:spF (toF C D (N.map Sy.row) d R) M=some p) {s:Nat×List Int} (hs:s ∈ allR (N.map Sy.row) (A.map Sy.row) R 2):s=p:=by
 obtain ⟨h1,h2,h3,h4⟩:=allR_mem hs
 rw [List.length_map] at h1 h2
 have hM:=hn.hM
 have hd:=hn.hd
 have hb:=back_own hn hI hno (i:=s.1) (by omega) (cs:=s.2) (by omega) (fun x hx=>by have:=h3 x hx; omega)
 have e:rdT (A.map Sy.row) s.2 (rowAt (N.map Sy.row) s.1) d=R:=by
  rw [rdT_sumL (d:=d) (by omega) (by rw [List.length_map]; exact hd) d (Nat.le_refl _),List.take_of_length_le (by omega),List.take_of_length_le (by rw [List.length_map]; omega)]
  exact h4
 rw [e,hsp] at hb
 injection hb with hb
 exact hb.symm
theorem agree_len (hn:Nt42 w aN aA cN cA M d N A) (hI:Inv42 (A.map Sy.row) d C D C' D') (hno:NoTwo C D (N.map Sy.row) d M) {R:List Int} {p:Nat×List Int} (hsp:spF (toF C D (N.map Sy.row) d R) M=some p):allR (N.map Sy.row) (A.map Sy.row) R 2=[]∨allR (N.map Sy.row) (A.map Sy.row) R 2=[p]:=by
 have hnd:(allR (N.map Sy.row) (A.map Sy.row) R 2).Nodup:=((sortS_perm _).nodup_iff).2 ((boxL_nodup 2 _ _).filter _)
 have hm:=fun s hs=>agree_mem hn hI hno hsp (s:=s) hs
 generalize allR (N.map Sy.row) (A.map Sy.row) R 2=l at hnd hm
 match l,hnd,hm with
 | [],_,_=>exact .inl rfl
 | [x],_,hm=>rw [hm x (by simp)]; exact .inr rfl
 | x :: y :: l,hnd,hm=>
   have h1:=hm x (by simp)
   have h2:=hm y (by simp)
   rw [h1,h2] at hnd
   exact absurd (by simp) (List.nodup_cons.1 hnd).1
end
theorem pickTo_fst (g:List (List Int)) (c t:Nat):∀ j,(pickTo g c t j).1=pickFT g c t j
 | 0=>rfl
 | j+1=>by
   rw [pickTo,pickFT,← pickTo_fst g c t j]
   unfold pick1 pickF1
   split
   ·rfl
   ·cases (pickTo g c t j).1 <;> rfl
theorem pickTo_one {g:List (List Int)} {c t:Nat}:∀ (j k:Nat),pickTo g c t j=(some k,false)→∀ i,t≤i→i < t+j→i≠k→ent g i c=0
 | 0,_,_=>fun i a b _=>by omega
 | j+1,k,h=>fun i a b e=>by
   rw [pickTo] at h
   unfold pick1 at h
   split at h
   ·rename_i h0
    by_cases e1:i=t+j
    ·rw [e1]; exact h0
    ·exact pickTo_one j k h i a (by omega) e
   ·split at h
    ·rename_i hn
     injection h with h1 h2
     injection h1 with h1
     rw [pickTo_fst] at hn
     exact pickFT_none hn i a (by omega)
    ·injection h with h1 h2; cases h2
theorem pickTo_only {g:List (List Int)} {c t:Nat} (h0:ent g t c≠0):∀ j,(∀ i,t < i→i < t+(j+1)→ent g i c=0)→pickTo g c t (j+1)=(some t,false)
 | 0,_=>by
   rw [pickTo,pickTo]
   unfold pick1
   rw [Nat.add_zero,if_neg h0]
 | j+1,h=>by
   rw [pickTo,pickTo_only h0 j (fun i a b=>h i a (by omega))]
   unfold pick1
   rw [if_pos (h (t+(j+1)) (by omega) (by omega))]
theorem elimTo_id {g:List (List Int)} {c t s:Nat}:∀ (j:Nat) (g':List (List Int)),(∀ i,s≤i→i < s+j→ent g i c=0)→s+j≤g.length→elimTo g c t s j=some g'→g'=g
 | 0,g',_,_,h=>by injection h with h; exact h.symm
 | j+1,g',hz,hl,h=>by
   obtain ⟨g1,h1,h2⟩:=Option.bind_eq_some_iff.1 h
   obtain rfl:=elimTo_id j g1 (fun i a b=>hz i a (by omega)) (by omega) h1
   obtain ⟨-,-,-,r,h3,rfl⟩:=elim1_some h2
   rw [hz (s+j) (by omega) (by omega),Int.zero_fdiv] at h3
   unfold takeS at h3
   rw [if_pos rfl] at h3
   injection h3 with h3
   rw [← h3,rowAt_eq (show s+j < g1.length by omega)]
   exact List.set_getElem_self _
theorem colL_of {n c t:Nat}:∀ (F:Nat) (g:List (List Int)) (r:List (List Int)×Nat),Rect n g→t < g.length→colF F g c t=some r→colL (F+1) g c t=some r
 | 0,_,_,_,_,h=>by cases h
 | F+1,g,r,hr,ht,h=>by
   rw [colF] at h
   rw [colL]
   by_cases hok:colOk g c=true
   ·rw [if_pos hok] at h ⊢
    have e:=pickTo_fst g c t (g.length - t)
    cases hp:pickTo g c t (g.length - t) with
    | mk o m=>
      rw [hp] at e
      have e:o=_:=e
      rw [← e] at h
      cases o with
      | none=>exact h
      | some k=>
        obtain ⟨hk1,hk2⟩:=pickFT_lt _ _ e.symm
        obtain ⟨p0,-⟩:=pickFT_least e.symm
        have hr1:Rect n (swp g t k):=swp_rect hr
        have hl1:=swp_len g t k
        have hs:=fun r q=>ent_swp (g:=g) (i:=t) (j:=k) ht (by omega) r q
        have htc:ent (swp g t k) t c≠0:=by
         rw [hs]
         by_cases e:t=k
         ·rw [if_pos e,e]; exact p0
         ·rw [if_neg e,if_pos rfl]; exact p0
        obtain ⟨g2,h1,h2⟩:=Option.bind_eq_some_iff.1 h
        have he:=elimTo_ent hr1 (by omega) _ g2 h1 (by omega) (.inl (by omega))
        obtain ⟨hr2,hl2⟩:=elimTo_keeps hr1 _ g2 h1 (by omega)
        have hrest:=restT_iff hr1 (by omega) _ g2 h1 (by omega) (by omega)
        rw [hl1] at hl2
        cases m with
        | true=>
          show (elimTo (swp g t k) c t (t+1) (g.length - (t+1))).bind (fun g2=>colL (F+1) g2 c t)=_
          rw [h1]
          show colL (F+1) g2 c t=_
          split at h2
          ·exact colL_of F g2 r hr2 (by omega) h2
          ·rename_i hnr
           split at h2
           ·rename_i hsm
            have hz:∀ i,t < i→i < g.length→ent g2 i c=0:=fun i a b=>by
             have hi2:i < t+1+(g.length - (t+1)):=by clear hrest hnr he hs; omega
             rw [he,if_pos ⟨a,hi2⟩]
             unfold quo
             rw [sub_fmod]
             exact Classical.byContradiction fun h9=>hnr (hrest.2 ⟨i,a,hi2,h9⟩)
            have ht2:ent g2 t c≠0:=by rw [he,if_neg (by omega)]; exact htc
            have hok2:colOk g2 c=true:=List.all_eq_true.2 fun i hi=>by
             have hi:=List.mem_range.1 hi
             by_cases a:t < i
             ·rw [hz i a (by omega)]; rfl
             ·by_cases b:i=t
              ·rw [b]; exact hsm
              ·rw [he,if_neg (by omega),hs,if_neg (by omega),if_neg b]
               exact List.all_eq_true.1 hok i (List.mem_range.2 (by omega))
            have hq:g2.length - t=(g2.length - t - 1)+1:=by omega
            rw [colL,if_pos hok2,hq,pickTo_only ht2 _ (fun i a b=>hz i a (by omega))]
            show (finS (swp g2 t t) t c).map (fun g2=>(g2,t+1))=_
            rw [swp_same]; exact h2
           ·cases h2
        | false=>
          have hz:∀ i,t < i→i < g.length→ent (swp g t k) i c=0:=fun i a b=>by
           rw [hs]
           by_cases e1:i=k
           ·rw [if_pos e1]; exact pickTo_one _ _ hp t (Nat.le_refl _) (by omega) (by omega)
           ·rw [if_neg e1,if_neg (by omega)]; exact pickTo_one _ _ hp i (by omega) (by omega) e1
          obtain rfl:=elimTo_id _ g2 (fun i a b=>hz i a (by omega)) (by omega) h1
          show (finS (swp g t k) t c).map (fun g2=>(g2,t+1))=_
          split at h2
          ·rename_i hre
           obtain ⟨i,a,b,e1⟩:=hrest.1 hre
           rw [hz i a (by omega),Int.zero_fmod] at e1
           exact absurd rfl e1
          ·split at h2
           ·exact h2
           ·cases h2
   ·rw [if_neg hok] at h; cases h
theorem herm_of {m F:Nat}:∀ (n c t:Nat) (g:List (List Int)) (r:List (List Int)×Nat),Rect m g→formS F n c g t=some r→herm (F+1) n c g t=some r
 | 0,_,_,_,_,_,h=>h
 | n+1,c,t,g,r,hr,h=>by
   rw [formS] at h
   rw [herm]
   by_cases ht:t < g.length
   ·rw [if_pos ht] at h ⊢
    obtain ⟨⟨g1,t1⟩,h1,h2⟩:=Option.bind_eq_some_iff.1 h
    obtain ⟨-,hr1,-,-⟩:=uni_colF F g g1 t1 hr ht h1
    rw [colL_of F g _ hr ht h1]
    exact herm_of n (c+1) t1 g1 r hr1 h2
   ·rw [if_neg ht] at h ⊢; exact h
theorem wide_ent {m:List (List Int)} {d:Nat} (hl:m.length=d) (hr:Rect d m) {i k:Nat} (hi:i < d) (hk:k < d):ent (wideM m) i k=ent m i k:=by
 unfold ent rowAt
 rw [wideM_get (by omega),List.getElem?_eq_getElem (show i < m.length by omega),Option.getD_some,Option.getD_some,List.getElem?_append_left (by rw [hr.row (by omega)]; exact hk)]
theorem wide_bd {m:List (List Int)} {d:Nat} (hl:m.length=d) (hb:BdM 9 m) {i:Nat} (hi:i < d) (k:Nat):(ent (wideM m) i k).natAbs≤9:=by
 unfold ent rowAt
 rw [wideM_get (by omega),Option.getD_some]
 cases e:(m[i] ++ unitRow m.length i)[k]? with
 | none=>exact Nat.zero_le _
 | some x=>
   show x.natAbs≤9
   rcases List.mem_append.1 (List.mem_of_getElem? e) with h | h
   ·exact hb _ (List.getElem_mem _) x h
   ·unfold unitRow at h
    rcases List.mem_or_eq_of_mem_set h with h | h
    ·rw [List.eq_of_mem_replicate h]; decide
    ·rw [h]; decide
theorem kerS_sq {m:List (List Int)} {d:Nat} (d1:1≤d) (d2:d≤2) (hl:m.length=d) (hr:Rect d m) (hb:BdM 9 m) (hd:detM m≠0):kerS 200001 d m=some []:=by
 have hw:=wideM_len m
 have hrw:=wideM_rect hr
 have hdt:dtE d (ent (wideM m))≠0:=by
  rw [← dtE_detM (by omega) hl hr] at hd
  have e:=fun i k (hi:i < d) (hk:k < d)=>wide_ent hl hr hi hk
  have h2:d=1∨d=2:=by omega
  rcases h2 with rfl | rfl
  ·show ent (wideM m) 0 0≠0
   rw [e 0 0 (by omega) (by omega)]; exact hd
  ·show ent (wideM m) 0 0 * ent (wideM m) 1 1 - ent (wideM m) 0 1 * ent (wideM m) 1 0≠0
   rw [e 0 0 (by omega) (by omega),e 0 1 (by omega) (by omega),e 1 0 (by omega) (by omega),e 1 1 (by omega) (by omega)]; exact hd
 obtain ⟨gF,h1,-,h3,-,h5⟩:=formS_sqN d1 (by omega) (Nat.le_add_right d m.length) hrw (by omega) (fun i hi k=>wide_bd hl hb hi k) hdt
 have hk:kerTo d (gF.take d)=[]:=by
  unfold kerTo
  rw [List.map_eq_nil_iff,List.filter_eq_nil_iff]
  intro l hlm
  obtain ⟨i,hi⟩:=List.getElem?_of_mem (List.mem_of_mem_take hlm)
  have hid:i < gF.length:=(List.getElem?_eq_some_iff.1 hi).1
  have hp:=h5.piv (i:=i) (by omega)
  have e:rowAt gF i=l:=by unfold rowAt; rw [hi]; rfl
  rw [e] at hp
  have:leadS l=i:=by
   unfold leadS
   show (if 0≤pivI l then pivI l else _)=_
   rw [hp,if_pos (by omega)]
  rw [this]
  simp
  omega
 unfold kerS
 rw [herm_of _ _ _ _ _ hrw h1]
 show (if fitG (kerTo d (gF.take d))=true then some (kerTo d (gF.take d)) else none)=_
 rw [hk]; rfl
end Go.Proofs.YtklpnlbmdknjeaaGreatDoor
