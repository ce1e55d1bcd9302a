/- Contracts and laws: CAP. -/
import Derived.Test.YtiniigadkknboaaGreatDoorCAO
import Derived.Test.YtiniigadkknboaaGreatDoorCAH
import Derived.Test.YtiniigadkknboaaGreatDoorCAK
import Derived.Deep.Cut

set_option maxRecDepth 100000
set_option maxHeartbeats 8000000
namespace Go.Proofs.YtiniigadkknboaaGreatDoor
open Go.RowKit Go.Lib
attribute [local go_sem ↓] Go.wp_at_zero Go.wp_at_succ
theorem Dboth_no (u v:Nat) (h:¬ ((tx (u:Int)).size≤18∧(tx (v:Int)).size≤18)) (hu:(tx (u:Int)).size≤1000000000) (hv:(tx (v:Int)).size≤1000000000) (w:World) :
 Calls Tryz.prog 171 #[.string (tx (u:Int)),.string (tx (v:Int))] w fun e w'=>e=.returned (.tuple #[.int .u64 0,.int .u64 0,.bool false])∧Fr w w':=by
 by_cases h1:(tx (u:Int)).size≤18
 ·have d1:decide ((18:Int) < ((tx (u:Int)).size:Int))=false:=decide_eq_false (by omega)
  have d2:decide ((18:Int) < ((tx (v:Int)).size:Int))=true:=decide_eq_true (by omega)
  go_enter Tryz.func171,Tryz.ntmps171
  go_wp2_with fail
  go_ret3
  exact ⟨rfl,Fr.refl _⟩
 ·have d1:decide ((18:Int) < ((tx (u:Int)).size:Int))=true:=decide_eq_true (by omega)
  go_enter Tryz.func171,Tryz.ntmps171
  go_wp2_with fail
  go_ret3
  exact ⟨rfl,Fr.refl _⟩
theorem nat18 {u:Nat} (h:(tx (u:Int)).size≤18):u < 1000000000000000000:=by
 have:=sm_of_size (n:=(u:Int)) (by rw [Int.natAbs_natCast]; exact h)
 unfold S18 at this
 omega
theorem both_split (u v:Nat) (hu:(tx (u:Int)).size≤1000000000) (hv:(tx (v:Int)).size≤1000000000):∃ (x y:Nat) (b:Bool),(b=true→x=u∧y=v∧u < 1000000000000000000∧v < 1000000000000000000)∧(b=false→¬ ((tx (u:Int)).size≤18∧(tx (v:Int)).size≤18))∧(b=true∨b=false) ∧
 Hid (∀ W,Calls Tryz.prog 171 #[.string (tx (u:Int)),.string (tx (v:Int))] W fun e w'=>e=.returned (.tuple #[.int .u64 x,.int .u64 y,.bool b])∧Fr W w'):=by
 by_cases h:(tx (u:Int)).size≤18∧(tx (v:Int)).size≤18
 ·exact ⟨u,v,true,fun _=>⟨rfl,rfl,nat18 h.1,nat18 h.2⟩,fun e=>(by cases e),.inl rfl,fun W=>Dboth u v h.1 h.2 (nat18 h.1) (nat18 h.2) W⟩
 ·exact ⟨0,0,false,fun e=>(by cases e),fun _=>h,.inr rfl,fun W=>Dboth_no u v h hu hv W⟩
theorem size_mono {u v:Nat} (h:u≤v):(tx (u:Int)).size≤(tx (v:Int)).size:=by
 have e:=fun x:Nat=>show (tx (x:Int)).size=(decDigits x).length by rw [tx_tb,itoa_nn (by omega),Int.toNat_natCast,tb_size]
 rw [e,e]
 have h1:=(digVal_bound (decDigits v) 0 (dec_digits _)).2
 rw [digVal_dec,Nat.zero_add,Nat.one_mul] at h1
 refine dec_len _ _ ?_ (Nat.lt_of_le_of_lt h h1)
 cases e9:decDigits v with
 | nil=>exact absurd e9 (dec_ne v)
 | cons=>simp
theorem digs_size {u k:Nat} (h:(tx (u:Int)).size≤9 * k):(digs u).length≤k:=by
 have h0:(tx (u:Int)).size=(decDigits u).length:=by rw [tx_tb,itoa_nn (by omega),Int.toNat_natCast,tb_size]
 rw [h0] at h
 have h1:=(digVal_bound (decDigits u) 0 (dec_digits _)).2
 rw [digVal_dec,Nat.zero_add,Nat.one_mul] at h1
 refine digs_len k u (Nat.lt_of_lt_of_le h1 ?_)
 rw [p9]
 exact Nat.pow_le_pow_right (by decide) h
theorem DMulG (u v:Nat) (hu:(tx (u:Int)).size≤400000000) (hv:(tx (v:Int)).size≤400000000) (huv:(digs (u * v)).length≤100000000) (w:World) (hG:G w) :
 Calls Tryz.prog 149 #[.string (tx (u:Int)),.string (tx (v:Int))] w fun e w'=>e=.returned (.string (tx ((u * v:Nat):Int)))∧Fr w w':=by
 by_cases hs:(tx (u:Int)).size+(tx (v:Int)).size≤18
 ·have h1:=nat18 (u:=u) (by omega)
  have h2:=nat18 (u:=v) (by omega)
  have h3:=mul_small (a:=(u:Int)) (b:=(v:Int)) (by rw [Int.natAbs_natCast,Int.natAbs_natCast]; exact hs)
  exact DMul u v hs h1 h2 (by have:((u * v:Nat):Int)≤9223372036854775807:=by rw [Int.natCast_mul]; exact h3.2
                              omega) w hG
 ·have du:=digs_size (u:=u) (k:=100000000) (by omega)
  have dv:=digs_size (u:=v) (k:=100000000) (by omega)
  have hn:val (digs u) * val (digs v)=((u * v:Nat):Int):=by rw [val_digs,val_digs,Int.natCast_mul]
  have hc1:=hZ (fun W (_:Fr w W)=>Dcut u W (by omega))
  have hc2:=hZ (fun W (_:Fr w W)=>Dcut v W (by omega))
  have ht:=hZ (fun W a b ca cb (hx:El W uv a (digs u)) (hy:El W uv b (digs v))=>Dtimes (digs u) (digs v) (u * v) hn a b ca cb W hx hy (digs_dg u) (digs_dg v) (by omega) (by omega))
  have hx:=hZ (fun W a c (he:El W uv a (digs (u * v)))=>Dtext (u * v) a c W he huv)
  obtain ⟨lu,hlu⟩:∃ lu,lu=(digs u).length:=⟨_,rfl⟩
  obtain ⟨lv,hlv⟩:∃ lv,lv=(digs v).length:=⟨_,rfl⟩
  obtain ⟨lm,hlm⟩:∃ lm,lm=(digs (u * v)).length:=⟨_,rfl⟩
  rw [← hlu,← hlv] at ht
  rw [← hlm] at hx
  replace hlu:=hZ hlu
  replace hlv:=hZ hlv
  replace hlm:=hZ hlm
  have ks:IntKind.i64.wrap (((tx (u:Int)).size:Int)+((tx (v:Int)).size:Int))=((tx (u:Int)).size:Int)+((tx (v:Int)).size:Int):=IntWalk.i64_in _ (by omega)
  have ds:decide (((tx (u:Int)).size:Int)+((tx (v:Int)).size:Int)≤18)=false:=decide_eq_false (by omega)
  clear hn
  go_enter Tryz.func149,Tryz.ntmps149
  go_wp2_with fail
  refine (hc1.out _ (Fr.refl _)).mono ?_
  rintro e w1 ⟨v1,rfl,ho1,hn1,hf1⟩
  go_wp2_with fail
  refine (hc2.out _ hf1).mono ?_
  rintro e w2 ⟨v2,rfl,ho2,hn2,hf2⟩
  obtain ⟨a1,c1,rfl,he1,-,-⟩:=own_readU ho1
  obtain ⟨a2,c2,rfl,he2,-,-⟩:=own_readU ho2
  have ht9:=hZ (ht.out w2 a1 a2 c1 c2 (he1.fr hf2) he2)
  rw [← hlu.out,← hlv.out]
  clear ho1 ho2 hn1 hn2 he1 he2
  go_wp2_with fail
  refine ht9.out.mono ?_
  rintro e w3 ⟨v3,rfl,ho3,hn3,hf3⟩
  obtain ⟨a3,c3,rfl,he3,-,-⟩:=own_readU ho3
  have hx9:=hZ (hx.out w3 a3 c3 he3)
  rw [← hlm.out]
  clear ho3 hn3 he3
  go_wp2_with fail
  refine hx9.out.mono ?_
  rintro e w4 ⟨rfl,hf4⟩
  go_wp2_with fail
  go_ret
  exact ⟨rfl,((hf1.trans hf2).trans hf3).trans hf4⟩
theorem DDivG (u v:Nat) (hv0:v≠0) (hu:(tx (u:Int)).size≤400000000) (hv:(tx (v:Int)).size≤400000000) (w:World) (hG:G w) :
 Calls Tryz.prog 155 #[.string (tx (u:Int)),.string (tx (v:Int))] w fun e w'=>e=.returned (.tuple #[.string (tx ((u / v:Nat):Int)),.string (tx ((u % v:Nat):Int)),.int .i64 0])∧Fr w w':=by
 have hb0:=tx_beq0 (v:Int)
 rw [decide_eq_false (show ¬ (v:Int)=0 by omega)] at hb0
 obtain ⟨x,y,bb,hT,hF,hbb,hbo⟩:=both_split u v (by omega) (by omega)
 rcases hbb with rfl | rfl
 ·obtain ⟨rfl,rfl,hu9,hv9⟩:=hT rfl
  clear hT hF
  have e0:¬ (y:Int)=0:=by omega
  have e1:((y:Int) == 0)=false:=beq_false_of_ne e0
  have hq:=Nat.div_le_self x y
  have hr:=Nat.mod_le x y
  obtain ⟨q,hqd⟩:∃ q,q=x / y:=⟨_,rfl⟩
  obtain ⟨r,hrd⟩:∃ r,r=x % y:=⟨_,rfl⟩
  rw [← hqd] at hq
  rw [← hrd] at hr
  rw [← hqd,← hrd]
  have w8:(x:Int) / (y:Int)=(q:Int):=by rw [hqd]; exact (Int.natCast_ediv x y).symm
  have w9:(x:Int) % (y:Int)=(r:Int):=by rw [hrd]; exact (Int.natCast_emod x y).symm
  have w9t:(x:Int).tmod (y:Int)=(r:Int):=by rw [Int.tmod_eq_emod_of_nonneg (by omega)]; exact w9
  have w8w:IntKind.u64.wrap (q:Int)=(q:Int):=IntWalk.u64_in _ (by omega)
  have w9w:IntKind.u64.wrap (r:Int)=(r:Int):=IntWalk.u64_in _ (by omega)
  have ho1:=hZ (fun W (hW:Fr w W)=>DOf q (by omega) W (hG.fr hW))
  have ho2:=hZ (fun W (hW:Fr w W)=>DOf r (by omega) W (hG.fr hW))
  replace hqd:=hZ hqd
  replace hrd:=hZ hrd
  go_enter Tryz.func155,Tryz.ntmps155
  go_wp2_with fail
  refine (hbo.out _).mono ?_
  rintro e w1 ⟨rfl,hf1⟩
  go_wp2_with fail
  have hfd:=hf1.drew
  refine wp_region_held_drew (S:=fun _=>True) (by kernel_rfl) trivial (fun hHeld=>?_)
  refine hK 0 ?_
  change wpAnyH _ _ _ _ _ _ _ (Act.put _ (some 26) _) _
  simp only [Act.put,lsT,ls0,lsS]
  refine hK 1 ?_
  change wpAnyH _ _ _ _ _ _ _ (Act.put _ (some 27) _) _
  simp only [Act.put,lsT,ls0,lsS]
  refine hK 2 ?_
  change wpAnyH _ _ _ _ _ _ _ (Act.put _ (some 28) _) _
  simp only [Act.put,lsT,ls0,lsS]
  refine hK 4 ?_
  change wpAnyH _ _ _ _ _ _ _ (Act.put _ (some 30) _) _
  simp only [Act.put,lsT,ls0,lsS]
  refine hK 5 ?_
  change wpAnyH _ _ _ _ _ _ _ (Act.put _ (some 31) _) _
  simp only [Act.put,lsT,ls0,lsS]
  refine hK 6 ?_
  change wpAnyH _ _ _ _ _ _ _ (Act.put _ (some 32) _) _
  simp only [Act.put,lsT,ls0,lsS]
  refine hC 3 (fun K hK=>?_)
  go_simp
  (refine (ho1.out _ hfd).mono ?_; rintro e w2 ⟨rfl,hf2⟩)
  go_wp2_with fail
  refine hK.out _ _ (trivial) (fun hHeld=>?_)
  clear hK K
  refine hC 7 (fun K hK=>?_)
  go_simp
  (refine (ho2.out _ (hfd.trans hf2)).mono ?_; rintro e w3 ⟨rfl,hf3⟩)
  go_wp2_with fail
  refine hK.out _ _ (trivial) (fun hHeld=>?_)
  clear hK K
  refine hK 8 ?_
  change wpAnyH _ _ _ _ _ _ _ (Act.put _ (some 4) _) _
  simp only [Act.put,lsT,ls0,lsS]
  refine hK 9 ?_
  change wpAnyH _ _ _ _ _ _ _ (Act.put _ (some 5) _) _
  simp only [Act.put,lsT,ls0,lsS]
  refine hK 10 ?_
  change wpAnyH _ _ _ _ _ _ _ (Act.put _ (some 6) _) _
  simp only [Act.put,lsT,ls0,lsS]
  refine wpAnyH_done (by kernel_rfl) ?_ _
  go_wp2_with fail
  go_ret3
  exact ⟨rfl,(hfd.trans hf2).trans hf3⟩
 ·have hF:=hF rfl
  clear hT
  have du:=digs_size (u:=u) (k:=50000000) (by omega)
  have dv:=digs_size (u:=v) (k:=50000000) (by omega)
  have hlv0:(digs v).length≠0:=fun e=>hv0 (digs_nil.1 (List.length_eq_zero_iff.1 e))
  have hc1:=hZ (fun W (_:Fr w W)=>Dcut u W (by omega))
  have hc2:=hZ (fun W (_:Fr w W)=>Dcut v W (by omega))
  have hcm:=hZ (fun W a b ca cb (hx:El W uv a (digs u)) (hy:El W uv b (digs v))=>Dcompare u v a b ca cb W hx hy (by omega) (by omega))
  have hdv:=hZ (fun W a b ca cb (hx:El W uv a (digs u)) (hy:El W uv b (digs v)) (h2:2≤(digs v).length) (h3:v≤u)=>Ddivide u v a b ca cb W hx hy (by omega) h2 h3)
  have hsm:=hZ (fun W a ca (hx:El W uv a (digs u)) (h9:v < 1000000000)=>Dsmall u v (by omega) h9 a ca W hx (by omega))
  have hq1:(digs (u / v)).length≤(digs u).length:=digs_len_mono (Nat.div_le_self u v)
  have hq2:(digs (u % v)).length≤(digs u).length:=digs_len_mono (Nat.mod_le u v)
  have hx1:=hZ (fun W a c (he:El W uv a (digs (u / v)))=>Dtext (u / v) a c W he (by omega))
  have hx2:=hZ (fun W a c (he:El W uv a (digs (u % v)))=>Dtext (u % v) a c W he (by omega))
  have hof:=hZ (fun W (hW:Fr w W) (h9:v < 1000000000)=>DOf (u % v) (by have:=Nat.mod_lt u (show 0 < v by omega); omega) W (hG.fr hW))
  have hv1:Hid ((digs v).length=1→v < 1000000000):=fun e=>by
   have:=digs_bound v
   rw [e] at this
   exact this
  have hle2:=hZ (fun e:(digs v).length=1=>gd_digs v 0)
  obtain ⟨lu,hlu⟩:∃ lu,lu=(digs u).length:=⟨_,rfl⟩
  obtain ⟨lv,hlv⟩:∃ lv,lv=(digs v).length:=⟨_,rfl⟩
  rw [← hlu,← hlv] at hcm
  rw [← hlu,← hlv] at hdv
  rw [← hlu] at hsm
  rw [← hlv] at hv1 hlv0 dv
  replace hlu:=hZ hlu
  replace hlv:=hZ hlv
  clear hq1 hq2 du hle2
  go_enter Tryz.func155,Tryz.ntmps155
  go_wp2_with fail
  refine (hbo.out _).mono ?_
  rintro e w0 ⟨rfl,hf0⟩
  go_wp2_with fail
  refine (hc1.out _ hf0).mono ?_
  rintro e w1 ⟨v1,rfl,ho1,hn1,hf1⟩
  go_wp2_with fail
  refine (hc2.out _ (hf0.trans hf1)).mono ?_
  rintro e w2 ⟨v2,rfl,ho2,hn2,hf2⟩
  obtain ⟨a1,c1,rfl,he1,-,-⟩:=own_readU ho1
  obtain ⟨a2,c2,rfl,he2,-,-⟩:=own_readU ho2
  have hfw2:=(hf0.trans hf1).trans hf2
  have he1':=he1.fr hf2
  have hcm9:=hZ (hcm.out w2 a1 a2 c1 c2 he1' he2)
  rw [← hlu.out,← hlv.out]
  clear ho1 ho2 hn1 hn2 he1
  by_cases hlt:u < v
  ·have hs:=sgnC_lt hlt
   have d1:decide ((-1:Int) < 0)=true:=by decide
   have q0:u / v=0:=Nat.div_eq_of_lt hlt
   have q1:u % v=u:=Nat.mod_eq_of_lt hlt
   have q2:tx ((0:Nat):Int)=⟨#[48]⟩:=tx_zero
   rw [hs] at hcm9
   replace q0:=hZ q0
   replace q1:=hZ q1
   replace q2:=hZ q2
   replace hs:=hZ hs
   go_wp2_with fail
   refine hcm9.out.mono ?_
   rintro e w3 ⟨rfl,hf3⟩
   go_wp2_with fail
   go_ret3
   exact ⟨by rw [q0.out,q1.out,q2.out]; rfl,hfw2.trans hf3⟩
  ·have hs:0≤sgnC u v:=by unfold sgnC; rw [if_neg hlt]; split <;> omega
   generalize sgnC u v=sg at *
   have d1:decide (sg < 0)=false:=decide_eq_false (by omega)
   by_cases h1:lv=1
   ·have hv9:=hv1.out h1
    have e1:((lv:Int) == 1)=true:=by rw [h1]; rfl
    obtain ⟨b2,o2,rfl,-,hcell⟩:=El.at_gd he2 (i:=0) (by rw [← hlv.out]; omega)
    rw [gd_digs,Nat.pow_zero,Nat.div_one,Nat.mod_eq_of_lt hv9,Nat.add_zero] at hcell
    have hsm9:=hZ (fun W (hW:Fr w2 W)=>hsm.out W a1 c1 (he1'.fr hW) hv9)
    have z1:(0:Int) < (lv:Int):=by omega
    replace h1:=hZ h1
    go_wp2_with fail
    refine hcm9.out.mono ?_
    rintro e w3 ⟨rfl,hf3⟩
    have hcell3:=hf3.keep hcell
    have h9:=hZ (hsm9.out w3 hf3)
    clear hcell
    go_wp2_with fail
    refine h9.out.mono ?_
    rintro e w4 ⟨a4,c4,rfl,he4,-,hf4⟩
    have h8:=hZ (hx1.out w4 a4 c4 he4)
    generalize (digs (u / v)).length=l4 at *
    go_wp2_with fail
    refine h8.out.mono ?_
    rintro e w5 ⟨rfl,hf5⟩
    have hfw5:=((hfw2.trans hf3).trans hf4).trans hf5
    have h7:=hZ (hof.out w5 hfw5 hv9)
    go_wp2_with fail
    refine h7.out.mono ?_
    rintro e w6 ⟨rfl,hf6⟩
    go_wp2_with fail
    go_ret3
    exact ⟨rfl,hfw5.trans hf6⟩
   ·have e1:((lv:Int) == 1)=false:=beq_false_of_ne (by omega)
    have hdv9:=hZ (fun W (hW:Fr w2 W)=>hdv.out W a1 a2 c1 c2 (he1'.fr hW) (he2.fr hW) (by omega) (by omega))
    go_wp2_with fail
    refine hcm9.out.mono ?_
    rintro e w3 ⟨rfl,hf3⟩
    have h9:=hZ (hdv9.out w3 hf3)
    go_wp2_with fail
    refine h9.out.mono ?_
    rintro e w4 ⟨a4,c4,a5,c5,rfl,he4,he5,-,-,hf4⟩
    have h8:=hZ (hx1.out w4 a4 c4 he4)
    have h7:=hZ (fun W (hW:Fr w4 W)=>hx2.out W a5 c5 (he5.fr hW))
    generalize (digs (u / v)).length=l4 at *
    generalize (digs (u % v)).length=l5 at *
    go_wp2_with fail
    refine h8.out.mono ?_
    rintro e w5 ⟨rfl,hf5⟩
    have h6:=hZ (h7.out w5 hf5)
    go_wp2_with fail
    refine h6.out.mono ?_
    rintro e w6 ⟨rfl,hf6⟩
    go_wp2_with fail
    go_ret3
    exact ⟨rfl,(((hfw2.trans hf3).trans hf4).trans hf5).trans hf6⟩
theorem DGcdG (u v:Nat) (hu:(tx (u:Int)).size≤400000000) (hv:(tx (v:Int)).size≤400000000) (w:World) (hG:G w) :
 Calls Tryz.prog 260 #[.string (tx (u:Int)),.string (tx (v:Int))] w fun e w'=>e=.returned (.string (tx ((Nat.gcd u v:Nat):Int)))∧Fr w w':=by
 obtain ⟨g,hg⟩:∃ g,g=Nat.gcd u v:=⟨_,rfl⟩
 rw [← hg]
 have hg0:Hid (Nat.gcd u v=g):=hg.symm
 clear hg
 go_enter Tryz.func260,Tryz.ntmps260
 go_wp2_with fail
 go_loopg [0,1] v (fun k s0 s1 wr=>∃ x:Nat,s0=.string (tx (x:Int))∧s1=.string (tx (k:Int))∧(tx (x:Int)).size≤400000000∧(tx (k:Int)).size≤400000000∧Fr w wr∧Hid (Nat.gcd x k=g))
 case atStart=>exact ⟨u,rfl,rfl,hu,hv,Fr.refl _,hg0⟩
 case round=>
  clear hg0 hu hv
  obtain ⟨x,rfl,rfl,hx,hk,hf,hgx⟩:=hrel
  obtain ⟨y,rfl⟩:∃ y:Nat,y=gk:=⟨_,rfl⟩
  have hb0:=tx_beq0 (y:Int)
  by_cases h0:y=0
  ·rw [decide_eq_true (show (y:Int)=0 by omega)] at hb0
   have hfin:Hid (x=g):=by have:=hgx.out; rw [h0,Nat.gcd_zero_right] at this; exact this
   replace h0:=hZ h0
   go_wp2_with fail
   go_ret
   exact ⟨by rw [← hfin.out]; rfl,hf⟩
  ·rw [decide_eq_false (show ¬ (y:Int)=0 by omega)] at hb0
   have hd:=hZ (DDivG x y h0 hx hk wr (hG.fr hf))
   have hrl:=Nat.mod_lt x (show 0 < y by omega)
   have hrs:(tx ((x % y:Nat):Int)).size≤400000000:=by
    refine Nat.le_trans ?_ hk
    exact size_mono (by omega)
   have hgr:Hid (Nat.gcd y (x % y)=g):=by
    have:=hgx.out
    rw [Nat.gcd_comm,Nat.gcd_rec,Nat.gcd_comm] at this
    exact this
   generalize x % y=r at *
   generalize x / y=q at *
   go_wp2_with fail
   refine hd.out.mono ?_
   rintro e w3 ⟨rfl,hf3⟩
   go_wp2_with fail
   go_roundg r
   case measure=>omega
   case rel=>exact ⟨y,rfl,rfl,hk,hrs,hf.trans hf3,hgr⟩
theorem gd_zeros (l:List Int) (k j:Nat):gd (l ++ List.replicate k 0) j=gd l j:=by
 unfold gd
 by_cases h:j < l.length
 ·rw [List.getElem?_append_left h]
 ·rw [List.getElem?_append_right (by omega),List.getElem?_eq_none (l:=l) (by omega),List.getElem?_replicate]
  split <;> rfl
theorem vF_zeros (l:List Int) {m:Nat} (h:l.length≤m):vF (gd l) m=val l:=by
 rw [val_vF]
 obtain ⟨d,rfl⟩:∃ d,m=l.length+d:=⟨m - l.length,by omega⟩
 exact vF_tail d fun j h1 _=>by unfold gd; rw [List.getElem?_eq_none h1]; rfl
theorem trim_rng {f:Nat→Int} {N s:Nat} (hd:∀ j,j < N→0≤f j∧f j < 1000000000) (hv:vF f N=(s:Int)):trimL ((List.range N).map f)=digs s:=by
 have hdg:Dg ((List.range N).map f):=fun x hx=>by
  obtain ⟨i,hi,rfl⟩:=List.mem_map.1 hx
  exact hd i (List.mem_range.1 hi)
 have e:val ((List.range N).map f)=(s:Int):=by
  rw [val_vF,List.length_map,List.length_range,← hv]
  exact vF_cg N fun j hj=>gd_rng f hj
 rw [trimL_digs hdg,e,Int.toNat_natCast]
theorem add_fin {u v m:Nat} (hu:(digs u).length=m) (hv:(digs v).length≤m) (P Q:Nat→Int) (hP:∀ j,P j=gd (digs u) j) (hQ:∀ j,Q j=gd (digs v) j) :
 (∀ j,j < m+1→0≤bkF P Q m 0 (m+1) j∧bkF P Q m 0 (m+1) j < 1000000000)∧vF (bkF P Q m 0 (m+1)) (m+1)=((u+v:Nat):Int):=by
 have hb:=bk_all (p:=fun j=>P (0+j)) (q:=Q) (m:=m)
 have hpd:∀ j,0≤P j∧P j < 1000000000:=fun j=>by rw [hP]; exact gd_dg (digs_dg u) j
 have hqd:∀ j,0≤Q j∧Q j < 1000000000:=fun j=>by rw [hQ]; exact gd_dg (digs_dg v) j
 have hc:=bk_bd (p:=fun j=>P (0+j)) (q:=Q) (m:=m) (fun j _=>hpd _) (fun j _=>hqd _) (m+1) (by omega)
 have e1:vF (fun j=>P (0+j)) (m+1)=u:=by
  rw [vF_cg _ (fun j _=>by rw [Nat.zero_add,hP]),vF_zeros _ (by omega),val_digs]
 have e2:vF Q m=v:=by rw [vF_cg _ (fun j _=>hQ j),vF_zeros _ hv,val_digs]
 have hU:=digs_bound u
 have hV:=digs_bound v
 have hV2:v < 1000000000 ^ m:=Nat.lt_of_lt_of_le hV (Nat.pow_le_pow_right (by decide) hv)
 rw [hu] at hU
 have hbo:=fun j (_:j < m+1)=>bkO_bd (fun j=>P (0+j)) Q m j
 have h1:=vF_nn (m+1) (fun j hj=>(hbo j hj).1)
 have hF:∀ j,j < m+1→bkF P Q m 0 (m+1) j=bkO (fun j=>P (0+j)) Q m j:=fun j hj=>by
  unfold bkF; rw [if_pos (by omega),Nat.sub_zero]
 refine ⟨fun j hj=>by rw [hF j hj]; exact hbo j hj, ?_⟩
 rw [vF_cg _ hF]
 rw [e1,e2] at hb
 rcases hc with hc | hc
 ·rw [hc] at hb; omega
 ·rw [hc,pw_nat,Nat.pow_succ] at hb; omega
theorem sub_fin {u v m:Nat} (hu:(digs u).length=m) (hle:v≤u) (P Q:Nat→Int) (hP:∀ j,P j=gd (digs u) j) (hQ:∀ j,Q j=gd (digs v) j) :
 (∀ j,j < m+1→0≤tkF P Q 1 m 0 (m+1) j∧tkF P Q 1 m 0 (m+1) j < 1000000000)∧vF (tkF P Q 1 m 0 (m+1)) (m+1)=((u - v:Nat):Int):=by
 have hv:(digs v).length≤m:=by rw [← hu]; exact digs_len_mono hle
 have hpd:∀ j,0≤P j∧P j < 1000000000:=fun j=>by rw [hP]; exact gd_dg (digs_dg u) j
 have hqd:∀ j,0≤Q j∧Q j < 1000000000:=fun j=>by rw [hQ]; exact gd_dg (digs_dg v) j
 have ha:=tk_all (p:=fun j=>P (0+j)) (q:=Q) (n:=1) (m:=m) (fun j _=>hpd _) (fun j _=>hqd _) ⟨by decide,by decide⟩
 have hc:=(tk_bd (p:=fun j=>P (0+j)) (q:=Q) (n:=1) (m:=m) (fun j _=>hpd _) (fun j _=>hqd _) ⟨by decide,by decide⟩ (m+1) (by omega)).2
 have e1:vF (fun j=>P (0+j)) (m+1)=u:=by
  rw [vF_cg _ (fun j _=>by rw [Nat.zero_add,hP]),vF_zeros _ (by omega),val_digs]
 have e2:vF Q m=v:=by rw [vF_cg _ (fun j _=>hQ j),vF_zeros _ hv,val_digs]
 have hbo:=fun j (hj:j < m+1)=>tkO_bd (p:=fun j=>P (0+j)) (q:=Q) (n:=1) (m:=m) (fun j _=>hpd _) (fun j _=>hqd _) ⟨by decide,by decide⟩ (k:=j) (by omega)
 have h1:=vF_nn (m+1) (fun j hj=>(hbo j hj).1)
 have h2:=vF_lt (m+1) hbo
 have hF:∀ j,j < m+1→tkF P Q 1 m 0 (m+1) j=tkO (fun j=>P (0+j)) Q 1 m j:=fun j hj=>by
  unfold tkF; rw [if_pos (by omega),Nat.sub_zero]
 refine ⟨fun j hj=>by rw [hF j hj]; exact hbo j hj, ?_⟩
 rw [vF_cg _ hF]
 rw [e1,e2] at ha
 rcases hc with hc | hc
 ·rw [hc] at ha; omega
 ·rw [hc] at ha; omega
theorem add_len {u v k:Nat} (du:(digs u).length≤k) (dv:(digs v).length≤k):(digs (u+v)).length≤k+1:=by
 refine digs_len (k+1) _ ?_
 have h1:=Nat.lt_of_lt_of_le (digs_bound u) (Nat.pow_le_pow_right (n:=1000000000) (by decide) du)
 have h2:=Nat.lt_of_lt_of_le (digs_bound v) (Nat.pow_le_pow_right (n:=1000000000) (by decide) dv)
 rw [Nat.pow_succ]
 generalize 1000000000 ^ k=B at *
 omega
theorem DAddG (u v:Nat) (hu:(tx (u:Int)).size≤400000000) (hv:(tx (v:Int)).size≤400000000) (w:World) (hG:G w) :
 Calls Tryz.prog 146 #[.string (tx (u:Int)),.string (tx (v:Int))] w fun e w'=>e=.returned (.string (tx ((u+v:Nat):Int)))∧Fr w w':=by
 obtain ⟨i0,hi,hz0,hz1,hz2⟩:=info_parts infoU64
 obtain ⟨x,y,bb,hT,hF,hbb,hbo⟩:=both_split u v (by omega) (by omega)
 rcases hbb with rfl | rfl
 ·obtain ⟨rfl,rfl,hu9,hv9⟩:=hT rfl
  clear hT hF
  have kw:IntKind.u64.wrap ((x:Int)+(y:Int))=((x+y:Nat):Int):=by rw [IntWalk.u64_in _ (by omega)]; omega
  obtain ⟨z,hz⟩:∃ z,z=x+y:=⟨_,rfl⟩
  rw [← hz] at kw
  rw [← hz]
  have ho:=hZ (fun W (hW:Fr w W)=>DOf z (by omega) W (hG.fr hW))
  replace hz:=hZ hz
  go_enter Tryz.func146,Tryz.ntmps146
  go_wp2_with fail
  refine (hbo.out _).mono ?_
  rintro e w1 ⟨rfl,hf1⟩
  have h9:=hZ (ho.out w1 hf1)
  go_wp2_with fail
  refine h9.out.mono ?_
  rintro e w2 ⟨rfl,hf2⟩
  go_wp2_with fail
  go_ret
  exact ⟨rfl,hf1.trans hf2⟩
 ·clear hT
  have du:=digs_size (u:=u) (k:=50000000) (by omega)
  have dv:=digs_size (u:=v) (k:=50000000) (by omega)
  have hc1:=hZ (fun W (_:Fr w W)=>Dcut u W (by omega))
  have hc2:=hZ (fun W (_:Fr w W)=>Dcut v W (by omega))
  have hsl:(digs (u+v)).length≤50000001:=add_len du dv
  have hx1:=hZ (fun W a c (he:El W uv a (digs (u+v)))=>Dtext (u+v) a c W he (by omega))
  obtain ⟨lu,hlu⟩:∃ lu,lu=(digs u).length:=⟨_,rfl⟩
  obtain ⟨lv,hlv⟩:∃ lv,lv=(digs v).length:=⟨_,rfl⟩
  rw [← hlu] at du
  rw [← hlv] at dv
  replace hlu:=hZ hlu
  replace hlv:=hZ hlv
  go_enter Tryz.func146,Tryz.ntmps146
  go_wp2_with fail
  refine (hbo.out _).mono ?_
  rintro e w0 ⟨rfl,hf0⟩
  go_wp2_with fail
  refine (hc1.out _ hf0).mono ?_
  rintro e w1 ⟨v1,rfl,ho1,hn1,hf1⟩
  go_wp2_with fail
  refine (hc2.out _ (hf0.trans hf1)).mono ?_
  rintro e w2 ⟨v2,rfl,ho2,hn2,hf2⟩
  obtain ⟨g1,c1,rfl,hgb1,hgc1,hgw1⟩:=own_headU ho1 (.inr hn1)
  obtain ⟨g2,c2,rfl,hgb2,hgc2,hgw2⟩:=own_headU ho2 (.inr hn2)
  have hfw2:=(hf0.trans hf1).trans hf2
  have ho1b:=ownsRow_mono (ownsRow_fr ho1 hf2) hf0.size
  have ho2b:=ownsRow_mono ho2 (hf0.trans hf1).size
  rw [← hlu.out] at ho1b
  rw [← hlv.out] at ho2b
  rw [← hlu.out,← hlv.out]
  have hg12:g1 < g2:=by omega
  clear ho1 ho2 hn1 hn2
  by_cases hlt:lu < lv
  ·have dl:decide ((lu:Int) < (lv:Int))=true:=decide_eq_true (by omega)
   rw [Nat.add_comm u v] at hx1
   have hk9:lu+(lv - lu)=lv:=by omega
   obtain ⟨kz,hkz⟩:∃ kz,kz=lv - lu:=⟨_,rfl⟩
   have hkz2:lu+kz=lv:=by omega
   have kw1:IntKind.i64.wrap (((lv+1:Nat):Int) - 1)=(lv:Int):=by rw [IntWalk.i64_in _ (by omega)]; omega
   have kw2:IntKind.i64.wrap ((lv:Int) - (lu:Int))=(kz:Int):=by rw [IntWalk.i64_in _ (by omega)]; omega
   have kw3:((lv+1:Nat):Int) - 1=(lv:Int):=by omega
   have kw4:IntKind.i64.wrap (lv:Int)=(lv:Int):=IntWalk.i64_in _ (by omega)
   replace hkz:=hZ hkz
   have hownP:=ho2b
   go_upto_region 8 with (at_builtin; refine wpList_append_lies _ rfl _ _ 229 (by rfl) _ 224 _ _ 1 8 Tryz.underlying229 hi hz0 hz1 hz2 rfl (by decide) _ lv _ (by rfl) (World.ownsRow.alloc hownP _) ⟨w2.heap.size,0,none⟩ 1 1 [.int .u64 0] (by rfl) rfl (cell_one_newN _ _ _ _ (by simp)) (by simp [Value.oneCell']) (by decide) (by unfold maxLen; omega) (by omega) (by have:=hfw2.size; simp; omega) (w2.heap.size+1) (by simp) ?_; intro gA capA wA hownA hgrowA hatA hltA)
   have hAl:((digs v).map uv ++ [Value.int .u64 0])=(digs v ++ [0]).map uv:=by rw [List.map_append]; rfl
   rw [hAl] at hownA
   have hfA:Fr w wA:=(hfw2.alloc _).grown hgrowA (fun k e=>(ho2b.lt k e).1)
   have hgA:=hownA.lt gA rfl
   have hA2:gA≠g1:=by
    rcases hatA with h | h
    ·have h:g2=gA:=by simpa [Value.ownBlock] using h
     omega
    ·have:=(ho1b.lt g1 rfl).2; omega
   have hownQ:=ownsRow_fx (ho1b.alloc (.cells #[.int .u64 0] 224)) (Fx.of_grown hgrowA) (fun q hq e=>by
    have hq:some g1=some q:=hq
    have e:some g2=some q:=e
    injection hq with hq
    injection e with e
    omega)
   have hNc:=(ownsRow_some hownA).2.2.2.1
   obtain ⟨g3,c3,w3,hr3,hown3,hgr3,hg3⟩:=run_append_mk (P:=Tryz.prog) wA w.heap.size 229 3 229 224 i0 (.int .u64 0) 8 .i64 .i64 Tryz.underlying229 Tryz.underlying3 hi hz0 hz1 hz2 rfl rfl g1 lu c1 kz _ hownQ (by unfold maxLen; omega) (by omega) hfA.size
   have hfx3:=Fx.of_grown hgr3
   have hA3:=ownsRow_fx hownA hfx3 (fun q hq e=>by have hq:some gA=some q:=hq; have e:some g1=some q:=e; injection hq with hq; injection e with e; omega)
   have hg3A:g3≠gA:=by rcases hg3 with e | e; omega; omega
   have hZl:((digs u).map uv ++ List.replicate kz (Value.int .u64 0))=(digs u ++ List.replicate kz 0).map uv:=by rw [List.map_append,List.map_replicate]
   rw [hZl] at hown3
   rw [hkz2] at hown3 hr3
   have hP3:=rdf_of_own hA3
   have hQ3:=(rdf_of_own hown3).rd
   have hfr3:Fr w w3:=hfA.grown hgr3 (fun k e=>by have e:some g1=some k:=e; injection e with e; have:=(ho1b.lt g1 rfl).1; omega)
   go_wp2_with (at_builtin; refine wpList_append_run _ rfl _ _ _ _ rfl _ _ rfl rfl _ _ hr3 ?_)
   have hfin:=add_fin (u:=v) (v:=u) (m:=lv) hlv.out.symm (by rw [← hlu.out]; omega) (gd (digs v ++ [0])) (gd (digs u ++ List.replicate kz 0)) (fun j=>gd_snoc0 _ _) (fun j=>gd_zeros _ _ _)
   refine (Dback gA (lv+1) capA 0 lv g3 0 c3 (gd (digs v ++ [0])) (gd (digs u ++ List.replicate kz 0)) w3 hP3 hQ3 hg3A (by omega) (by omega) (fun j _=>by rw [Nat.zero_add,gd_snoc0]; exact gd_dg (digs_dg _) j) (fun j _=>by rw [gd_zeros]; exact gd_dg (digs_dg _) j)).mono ?_
   rintro e w4 ⟨rfl,hfx4,hA4⟩
   have hEl:=hA4.el
   have hll:((List.range (lv+1)).map (bkF (gd (digs v ++ [0])) (gd (digs u ++ List.replicate kz 0)) lv 0 (lv+1))).length=lv+1:=by rw [List.length_map,List.length_range]
   have htr:=Dtrim ((List.range (lv+1)).map (bkF (gd (digs v ++ [0])) (gd (digs u ++ List.replicate kz 0)) lv 0 (lv+1))) (some ⟨gA,0,none⟩) capA w4 hEl (by rw [hll]; omega) (by rw [hll]; exact hNc)
   have hTl:=trim_rng hfin.1 hfin.2
   have hle:=(trimL_len ((List.range (lv+1)).map (bkF (gd (digs v ++ [0])) (gd (digs u ++ List.replicate kz 0)) lv 0 (lv+1)))).2
   have hEt:El w4 uv (some ⟨gA,0,none⟩) (digs (v+u)):=by rw [← hTl,(trimL_len ((List.range (lv+1)).map (bkF (gd (digs v ++ [0])) (gd (digs u ++ List.replicate kz 0)) lv 0 (lv+1)))).1]; exact el_take hEl _
   rw [hTl,hll] at htr
   replace htr:=hZ htr
   have hxx:=hZ (fun W (hW:Fr w4 W)=>hx1.out W (some ⟨gA,0,none⟩) capA (hEt.fr hW))
   generalize (digs (v+u)).length=l9 at *
   have hf4:Fr w w4:=((Fx.of_fr hfr3).trans hfx4).toFr (fun k hk e=>by have e:k=gA:=e; omega)
   clear hEl hll hTl hle hEt hfin hA4 hP3 hQ3
   go_wp2_with fail
   refine htr.out.mono ?_
   rintro e w5 ⟨rfl,hf5⟩
   have h9:=hZ (hxx.out w5 hf5)
   go_wp2_with fail
   refine h9.out.mono ?_
   rintro e w6 ⟨rfl,hf6⟩
   go_wp2_with fail
   go_ret
   exact ⟨by rw [Nat.add_comm u v]; rfl,(hf4.trans hf5).trans hf6⟩
  ·have dl:decide ((lu:Int) < (lv:Int))=false:=decide_eq_false (by omega)
   have hk9:lv+(lu - lv)=lu:=by omega
   obtain ⟨kz,hkz⟩:∃ kz,kz=lu - lv:=⟨_,rfl⟩
   have hkz2:lv+kz=lu:=by omega
   have kw1:IntKind.i64.wrap (((lu+1:Nat):Int) - 1)=(lu:Int):=by rw [IntWalk.i64_in _ (by omega)]; omega
   have kw2:IntKind.i64.wrap ((lu:Int) - (lv:Int))=(kz:Int):=by rw [IntWalk.i64_in _ (by omega)]; omega
   have kw3:((lu+1:Nat):Int) - 1=(lu:Int):=by omega
   have kw4:IntKind.i64.wrap (lu:Int)=(lu:Int):=IntWalk.i64_in _ (by omega)
   replace hkz:=hZ hkz
   have hownP:=ho1b
   go_upto_region 8 with (at_builtin; refine wpList_append_lies _ rfl _ _ 229 (by rfl) _ 224 _ _ 1 8 Tryz.underlying229 hi hz0 hz1 hz2 rfl (by decide) _ lu _ (by rfl) (World.ownsRow.alloc hownP _) ⟨w2.heap.size,0,none⟩ 1 1 [.int .u64 0] (by rfl) rfl (cell_one_newN _ _ _ _ (by simp)) (by simp [Value.oneCell']) (by decide) (by unfold maxLen; omega) (by omega) (by have:=hfw2.size; simp; omega) (w2.heap.size+1) (by simp) ?_; intro gA capA wA hownA hgrowA hatA hltA)
   have hAl:((digs u).map uv ++ [Value.int .u64 0])=(digs u ++ [0]).map uv:=by rw [List.map_append]; rfl
   rw [hAl] at hownA
   have hfA:Fr w wA:=(hfw2.alloc _).grown hgrowA (fun k e=>(ho1b.lt k e).1)
   have hgA:=hownA.lt gA rfl
   have hA2:gA≠g2:=by
    rcases hatA with h | h
    ·have h:g1=gA:=by simpa [Value.ownBlock] using h
     omega
    ·have:=(ho2b.lt g2 rfl).2; omega
   have hownQ:=ownsRow_fx (ho2b.alloc (.cells #[.int .u64 0] 224)) (Fx.of_grown hgrowA) (fun q hq e=>by
    have hq:some g2=some q:=hq
    have e:some g1=some q:=e
    injection hq with hq
    injection e with e
    omega)
   have hNc:=(ownsRow_some hownA).2.2.2.1
   obtain ⟨g3,c3,w3,hr3,hown3,hgr3,hg3⟩:=run_append_mk (P:=Tryz.prog) wA w.heap.size 229 3 229 224 i0 (.int .u64 0) 8 .i64 .i64 Tryz.underlying229 Tryz.underlying3 hi hz0 hz1 hz2 rfl rfl g2 lv c2 kz _ hownQ (by unfold maxLen; omega) (by omega) hfA.size
   have hfx3:=Fx.of_grown hgr3
   have hA3:=ownsRow_fx hownA hfx3 (fun q hq e=>by have hq:some gA=some q:=hq; have e:some g2=some q:=e; injection hq with hq; injection e with e; omega)
   have hg3A:g3≠gA:=by rcases hg3 with e | e; omega; omega
   have hZl:((digs v).map uv ++ List.replicate kz (Value.int .u64 0))=(digs v ++ List.replicate kz 0).map uv:=by rw [List.map_append,List.map_replicate]
   rw [hZl] at hown3
   rw [hkz2] at hown3 hr3
   have hP3:=rdf_of_own hA3
   have hQ3:=(rdf_of_own hown3).rd
   have hfr3:Fr w w3:=hfA.grown hgr3 (fun k e=>by have e:some g2=some k:=e; injection e with e; have:=(ho2b.lt g2 rfl).1; omega)
   go_wp2_with (at_builtin; refine wpList_append_run _ rfl _ _ _ _ rfl _ _ rfl rfl _ _ hr3 ?_)
   have hfin:=add_fin (u:=u) (v:=v) (m:=lu) hlu.out.symm (by rw [← hlv.out]; omega) (gd (digs u ++ [0])) (gd (digs v ++ List.replicate kz 0)) (fun j=>gd_snoc0 _ _) (fun j=>gd_zeros _ _ _)
   refine (Dback gA (lu+1) capA 0 lu g3 0 c3 (gd (digs u ++ [0])) (gd (digs v ++ List.replicate kz 0)) w3 hP3 hQ3 hg3A (by omega) (by omega) (fun j _=>by rw [Nat.zero_add,gd_snoc0]; exact gd_dg (digs_dg _) j) (fun j _=>by rw [gd_zeros]; exact gd_dg (digs_dg _) j)).mono ?_
   rintro e w4 ⟨rfl,hfx4,hA4⟩
   have hEl:=hA4.el
   have hll:((List.range (lu+1)).map (bkF (gd (digs u ++ [0])) (gd (digs v ++ List.replicate kz 0)) lu 0 (lu+1))).length=lu+1:=by rw [List.length_map,List.length_range]
   have htr:=Dtrim ((List.range (lu+1)).map (bkF (gd (digs u ++ [0])) (gd (digs v ++ List.replicate kz 0)) lu 0 (lu+1))) (some ⟨gA,0,none⟩) capA w4 hEl (by rw [hll]; omega) (by rw [hll]; exact hNc)
   have hTl:=trim_rng hfin.1 hfin.2
   have hle:=(trimL_len ((List.range (lu+1)).map (bkF (gd (digs u ++ [0])) (gd (digs v ++ List.replicate kz 0)) lu 0 (lu+1)))).2
   have hEt:El w4 uv (some ⟨gA,0,none⟩) (digs (u+v)):=by rw [← hTl,(trimL_len ((List.range (lu+1)).map (bkF (gd (digs u ++ [0])) (gd (digs v ++ List.replicate kz 0)) lu 0 (lu+1)))).1]; exact el_take hEl _
   rw [hTl,hll] at htr
   replace htr:=hZ htr
   have hxx:=hZ (fun W (hW:Fr w4 W)=>hx1.out W (some ⟨gA,0,none⟩) capA (hEt.fr hW))
   generalize (digs (u+v)).length=l9 at *
   have hf4:Fr w w4:=((Fx.of_fr hfr3).trans hfx4).toFr (fun k hk e=>by have e:k=gA:=e; omega)
   clear hEl hll hTl hle hEt hfin hA4 hP3 hQ3
   go_wp2_with fail
   refine htr.out.mono ?_
   rintro e w5 ⟨rfl,hf5⟩
   have h9:=hZ (hxx.out w5 hf5)
   go_wp2_with fail
   refine h9.out.mono ?_
   rintro e w6 ⟨rfl,hf6⟩
   go_wp2_with fail
   go_ret
   exact ⟨rfl,(hf4.trans hf5).trans hf6⟩
theorem DSubG (u v:Nat) (hle:v≤u) (hu:(tx (u:Int)).size≤400000000) (w:World) (hG:G w) :
 Calls Tryz.prog 148 #[.string (tx (u:Int)),.string (tx (v:Int))] w fun e w'=>e=.returned (.tuple #[.string (tx ((u - v:Nat):Int)),.int .i64 0])∧Fr w w':=by
 obtain ⟨i0,hi,hz0,hz1,hz2⟩:=info_parts infoU64
 have hv:=Nat.le_trans (size_mono hle) hu
 obtain ⟨x,y,bb,hT,hF,hbb,hbo⟩:=both_split u v (by omega) (by omega)
 have hcm:=hZ (fun W (_:Fr w W)=>cmp_nat u v W (by have:=tx_size_nat u; omega) (by have:=tx_size_nat v; omega))
 have hc0:decide (cmpI u v < 0)=false:=by
  refine decide_eq_false ?_
  unfold cmpI
  split <;> omega
 generalize cmpI (u:Int) (v:Int)=cm at *
 rcases hbb with rfl | rfl
 ·obtain ⟨rfl,rfl,hu9,hv9⟩:=hT rfl
  clear hT hF
  obtain ⟨z,hz⟩:∃ z,z=x - y:=⟨_,rfl⟩
  have kw:IntKind.u64.wrap ((x:Int) - (y:Int))=(z:Int):=by rw [IntWalk.u64_in _ (by omega)]; omega
  rw [← hz]
  have ho:=hZ (fun W (hW:Fr w W)=>DOf z (by omega) W (hG.fr hW))
  replace hz:=hZ hz
  replace hle:=hZ hle
  go_enter Tryz.func148,Tryz.ntmps148
  go_wp2_with fail
  refine (hcm.out _ (Fr.refl _)).mono ?_
  rintro e w0 ⟨rfl,rfl⟩
  go_wp2_with fail
  refine (hbo.out _).mono ?_
  rintro e w1 ⟨rfl,hf1⟩
  have h9:=hZ (ho.out w1 hf1)
  go_wp2_with fail
  refine h9.out.mono ?_
  rintro e w2 ⟨rfl,hf2⟩
  go_wp2_with fail
  go_ret2
  exact ⟨rfl,hf1.trans hf2⟩
 ·clear hT
  have du:=digs_size (u:=u) (k:=50000000) (by omega)
  have dv:=digs_size (u:=v) (k:=50000000) (by omega)
  have hc1:=hZ (fun W (_:Fr w W)=>Dcut u W (by omega))
  have hc2:=hZ (fun W (_:Fr w W)=>Dcut v W (by omega))
  have hsl:(digs (u - v)).length≤50000000:=Nat.le_trans (digs_len_mono (Nat.sub_le u v)) du
  have hdl:=digs_len_mono hle
  have hx1:=hZ (fun W a c (he:El W uv a (digs (u - v)))=>Dtext (u - v) a c W he (by omega))
  obtain ⟨lu,hlu⟩:∃ lu,lu=(digs u).length:=⟨_,rfl⟩
  obtain ⟨lv,hlv⟩:∃ lv,lv=(digs v).length:=⟨_,rfl⟩
  rw [← hlu] at du hdl
  rw [← hlv] at dv hdl
  replace hlu:=hZ hlu
  replace hlv:=hZ hlv
  go_enter Tryz.func148,Tryz.ntmps148
  go_wp2_with fail
  refine (hcm.out _ (Fr.refl _)).mono ?_
  rintro e w9 ⟨rfl,rfl⟩
  go_wp2_with fail
  refine (hbo.out _).mono ?_
  rintro e w0 ⟨rfl,hf0⟩
  go_wp2_with fail
  refine (hc1.out _ hf0).mono ?_
  rintro e w2 ⟨v1,rfl,ho1,hn1,hf1⟩
  obtain ⟨g1,c1,rfl,hgb1,hgc1,hgw1⟩:=own_headU ho1 (.inr hn1)
  have hfw2:=hf0.trans hf1
  have ho1b:=ownsRow_mono ho1 hf0.size
  rw [← hlu.out] at ho1b
  rw [← hlu.out]
  clear ho1 hn1
  have hownP:=ho1b
  go_upto_region 7 with (at_builtin; refine wpList_append_lies _ rfl _ _ 229 (by rfl) _ 224 _ _ 1 8 Tryz.underlying229 hi hz0 hz1 hz2 rfl (by decide) _ lu _ (by rfl) (World.ownsRow.alloc hownP _) ⟨w2.heap.size,0,none⟩ 1 1 [.int .u64 0] (by rfl) rfl (cell_one_newN _ _ _ _ (by simp)) (by simp [Value.oneCell']) (by decide) (by unfold maxLen; omega) (by omega) (by have:=hfw2.size; simp; omega) (w2.heap.size+1) (by simp) ?_; intro gA capA wA hownA hgrowA hatA hltA)
  have hAl:((digs u).map uv ++ [Value.int .u64 0])=(digs u ++ [0]).map uv:=by rw [List.map_append]; rfl
  rw [hAl] at hownA
  have hfA:Fr w wA:=(hfw2.alloc _).grown hgrowA (fun k e=>(ho1b.lt k e).1)
  have hgA:=hownA.lt gA rfl
  have hNc:=(ownsRow_some hownA).2.2.2.1
  go_wp2_with fail
  refine (hc2.out _ hfA).mono ?_
  rintro e wB ⟨v2,rfl,ho2,hn2,hfB⟩
  obtain ⟨g2,c2,rfl,hgb2,hgc2,hgw2⟩:=own_headU ho2 (.inr hn2)
  go_wp2_with fail
  refine (hc2.out _ (hfA.trans hfB)).mono ?_
  rintro e wC ⟨v3,rfl,ho3,hn3,hfC⟩
  obtain ⟨g4,c4,rfl,-,-,-⟩:=own_headU ho3 (.inr hn3)
  rw [← hlv.out]
  have hfw:=(hfA.trans hfB).trans hfC
  have ho2b:=ownsRow_mono (ownsRow_fr ho2 hfC) hfA.size
  rw [← hlv.out] at ho2b
  have hA2b:=ownsRow_fr hownA (hfB.trans hfC)
  have hgA2:gA < g2:=by omega
  obtain ⟨kz,hkz⟩:∃ kz,kz=lu - lv:=⟨_,rfl⟩
  have hkz2:lv+kz=lu:=by omega
  have kw1:IntKind.i64.wrap (((lu+1:Nat):Int) - 1)=(lu:Int):=by rw [IntWalk.i64_in _ (by omega)]; omega
  have kw2:IntKind.i64.wrap ((lu:Int) - (lv:Int))=(kz:Int):=by rw [IntWalk.i64_in _ (by omega)]; omega
  have kw3:((lu+1:Nat):Int) - 1=(lu:Int):=by omega
  have kw4:IntKind.i64.wrap (lu:Int)=(lu:Int):=IntWalk.i64_in _ (by omega)
  replace hkz:=hZ hkz
  obtain ⟨g3,c3,w3,hr3,hown3,hgr3,hg3⟩:=run_append_mk (P:=Tryz.prog) wC w.heap.size 229 3 229 224 i0 (.int .u64 0) 8 .i64 .i64 Tryz.underlying229 Tryz.underlying3 hi hz0 hz1 hz2 rfl rfl g2 lv c2 kz _ ho2b (by unfold maxLen; omega) (by omega) hfw.size
  have hfx3:=Fx.of_grown hgr3
  have hA3:=ownsRow_fx hA2b hfx3 (fun q hq e=>by have hq:some gA=some q:=hq; have e:some g2=some q:=e; injection hq with hq; injection e with e; omega)
  have hzC:=(hA2b.lt gA rfl).2
  have hg3A:g3≠gA:=by rcases hg3 with e | e; omega; omega
  have hZl:((digs v).map uv ++ List.replicate kz (Value.int .u64 0))=(digs v ++ List.replicate kz 0).map uv:=by rw [List.map_append,List.map_replicate]
  rw [hZl] at hown3
  rw [hkz2] at hown3 hr3
  have hP3:=rdf_of_own hA3
  have hQ3:=(rdf_of_own hown3).rd
  have hfr3:Fr w w3:=hfw.grown hgr3 (fun k e=>by have e:some g2=some k:=e; injection e with e; have:=(ho2b.lt g2 rfl).1; omega)
  go_wp2_with (at_builtin; refine wpList_append_run _ rfl _ _ _ _ rfl _ _ rfl rfl _ _ hr3 ?_)
  have hfin:=sub_fin (u:=u) (v:=v) (m:=lu) hlu.out.symm hle (gd (digs u ++ [0])) (gd (digs v ++ List.replicate kz 0)) (fun j=>gd_snoc0 _ _) (fun j=>gd_zeros _ _ _)
  refine (Dtake gA (lu+1) capA 0 lu g3 0 c3 (gd (digs u ++ [0])) (gd (digs v ++ List.replicate kz 0)) 1 w3 hP3 hQ3 hg3A (by omega) (by omega) (fun j _=>by rw [Nat.zero_add,gd_snoc0]; exact gd_dg (digs_dg _) j) (fun j _=>by rw [gd_zeros]; exact gd_dg (digs_dg _) j) ⟨by decide,by decide⟩).mono ?_
  rintro e w4 ⟨rfl,hfx4,hA4⟩
  generalize (tkS (fun j=>gd (digs u ++ [0]) (0+j)) (gd (digs v ++ List.replicate kz 0)) 1 lu (lu+1)).2=bo
  have hEl:=hA4.el
  have hll:((List.range (lu+1)).map (tkF (gd (digs u ++ [0])) (gd (digs v ++ List.replicate kz 0)) 1 lu 0 (lu+1))).length=lu+1:=by rw [List.length_map,List.length_range]
  have htr:=Dtrim ((List.range (lu+1)).map (tkF (gd (digs u ++ [0])) (gd (digs v ++ List.replicate kz 0)) 1 lu 0 (lu+1))) (some ⟨gA,0,none⟩) capA w4 hEl (by rw [hll]; omega) (by rw [hll]; exact hNc)
  have hTl:=trim_rng hfin.1 hfin.2
  have hle:=(trimL_len ((List.range (lu+1)).map (tkF (gd (digs u ++ [0])) (gd (digs v ++ List.replicate kz 0)) 1 lu 0 (lu+1)))).2
  have hEt:El w4 uv (some ⟨gA,0,none⟩) (digs (u - v)):=by rw [← hTl,(trimL_len ((List.range (lu+1)).map (tkF (gd (digs u ++ [0])) (gd (digs v ++ List.replicate kz 0)) 1 lu 0 (lu+1)))).1]; exact el_take hEl _
  rw [hTl,hll] at htr
  replace htr:=hZ htr
  have hxx:=hZ (fun W (hW:Fr w4 W)=>hx1.out W (some ⟨gA,0,none⟩) capA (hEt.fr hW))
  generalize (digs (u - v)).length=l9 at *
  have hf4:Fr w w4:=((Fx.of_fr hfr3).trans hfx4).toFr (fun k hk e=>by have e:k=gA:=e; omega)
  clear hEl hll hTl hle hEt hfin hA4 hP3 hQ3
  go_wp2_with fail
  refine htr.out.mono ?_
  rintro e w5 ⟨rfl,hf5⟩
  have h9:=hZ (hxx.out w5 hf5)
  go_wp2_with fail
  refine h9.out.mono ?_
  rintro e w6 ⟨rfl,hf6⟩
  go_wp2_with fail
  go_ret2
  exact ⟨rfl,(hf4.trans hf5).trans hf6⟩
end Go.Proofs.YtiniigadkknboaaGreatDoor
