/-
  Contracts and laws for the statements of the seat, QRt.
-/
import Derived.Test.YtkjemicelmabdaaGreatDoorQRd
import Derived.Test.YtkjemicelmabdaaGreatDoorQUG

set_option maxRecDepth 100000
set_option maxHeartbeats 16000000
namespace Go.Proofs.YtkjemicelmabdaaGreatDoor
open Go.RowKit Go.Lib
attribute [local go_sem ↓] Go.wp_at_zero Go.wp_at_succ
theorem same42_eq (i:Int) (cs:List Int) (a b:Option Addr) (ca cb n m:Nat) (w:World) (hx:El w iv a cs) (hy:El w iv b cs) (hn:cs.length=n) (hm:cs.length=m) (h1:n≤1000000000) :
 Calls Tryz.prog 12 #[.agg #[.int .i64 i,.slice a n ca],.agg #[.int .i64 i,.slice b m cb]] w fun e w'=>e=.returned (.bool true)∧Fr w w':=by
 have hE:=fun W (hW:Fr w W)=>REqual_any cs cs a b ca cb n m W (hx.fr hW) (hy.fr hW) hn hm h1 (by omega)
 rw [decide_eq_true rfl] at hE
 replace hE:=hZ hE
 clear hx hy hn hm
 have q1:(i == i)=true:=beq_self_eq_true i
 have f2:Fr w ((w.alloc (.cells #[.int .i64 i,.slice a n ca] 37)).alloc (.cells #[.int .i64 i,.slice b m cb] 37)):=((Fr.refl w).alloc _).alloc _
 replace f2:=hZ f2
 go_enter Tryz.func12,Tryz.ntmps12
 go_wp2_with fail
 refine (hE.out _ f2.out).mono ?_
 rintro e w3 ⟨rfl,hf3⟩
 go_wp2_with fail
 go_ret
 exact ⟨rfl,f2.out.trans hf3⟩
def rmT (m:Int) (xs:List Int) (d:Nat):List Int:=(xs.take d).map fun x=>x.tmod m
theorem rmT_len {m:Int} {xs:List Int} {d:Nat} (h:d≤xs.length):(rmT m xs d).length=d:=by unfold rmT; rw [List.length_map,List.length_take]; omega
theorem rmT_bd {m:Int} (hm:0 < m) {xs:List Int} {d:Nat}:∀ x,x ∈ rmT m xs d→x.natAbs < m.natAbs:=fun x hx=>by
 obtain ⟨y,-,rfl⟩:=List.mem_map.1 hx
 rw [Int.natAbs_tmod]
 exact Nat.mod_lt _ (by omega)
section
variable {N A:List Sy} {d M:Nat} {aN aA:Option Addr} {cN cA:Nat} {w:World} {C C':List (List Int)} {D D':Int} {B:List (List Int)} {F:Nat} {res:Option (List Int)}
theorem spell_row (hn:Nt42 w aN aA cN cA M d N A) (hI:Inv42 (A.map Sy.row) d C D C' D') (hs:USearch (N.map Sy.row) (A.map Sy.row) d M C D B F res) (hr:res=none) {r:List Int} (hrl:r.length=d) (hrb:∀ x,x ∈ r→x.natAbs < 300):∃ i cs,spF (toF C D (N.map Sy.row) d r) M=some (i,cs)∧i < M∧cs.length=d∧cs.all fitB=true∧rdT (A.map Sy.row) cs (rowAt (N.map Sy.row) i) d=r:=by
 obtain ⟨⟨i,cs⟩,h⟩:=Option.isSome_iff_exists.1 (hs.full hr r hrl)
 obtain ⟨hi,hf⟩:=spF_inv h
 refine ⟨i,cs,h,hi,toF_len hf,List.all_eq_true.2 fun x hx=>?_,toF_back hn hI hrl hi hf⟩
 by_cases hd:1≤d
 ·have hrw:=hn.rows hI hd
  unfold toF at hf
  have h1:=solve_bd hrw.ok.inv hn.d3 hf (B:=400) (fun z hz=>by
   obtain ⟨u,v,hu,hv,rfl⟩:=mem_zipWithZ hz
   have h1:=hrb u hu
   have h2:=(hrw.row hi).2 v hv
   omega) x hx
  exact decide_eq_true ⟨by omega,by omega⟩
 ·rw [List.eq_nil_of_length_eq_zero (show cs.length=0 by have:=toF_len hf; omega)] at hx
  cases hx
theorem own_row (hn:Nt42 w aN aA cN cA M d N A) {i:Nat} (hi:i < M) {cs:List Int} (_:cs.length=d) (hc:∀ x,x ∈ cs→x.natAbs < 10):(rdT (A.map Sy.row) cs (rowAt (N.map Sy.row) i) d).length=d∧(∀ x,x ∈ rdT (A.map Sy.row) cs (rowAt (N.map Sy.row) i) d→x.natAbs < 300) ∧
 ∀ k:Nat,k < d→((rdT (A.map Sy.row) cs (rowAt (N.map Sy.row) i) d)[k]?).getD 0=((rowAt (N.map Sy.row) i)[k]?).getD 0+dotZ (fun j=>(cs[j]?).getD 0) (fun j=>ent (A.map Sy.row) j k) d:=by
 obtain ⟨x,hx,hxm⟩:=hn.get hi
 have hx9:=(hn.rN x hxm).2
 rw [hn.at hx]
 have hrA:∀ i,i < d→(rowAt (A.map Sy.row) i).length=d:=fun i hi=>(hn.rowA i hi).1
 have hl:=rdT_len (cs:=cs) hx9.1 hrA d (Nat.le_refl _)
 have hg:∀ k:Nat,k < d→((rdT (A.map Sy.row) cs x.row d)[k]?).getD 0=(x.row[k]?).getD 0+dotZ (fun j=>(cs[j]?).getD 0) (fun j=>ent (A.map Sy.row) j k) d:=fun k hk=>rdT_get hx9.1 hrA hk d (Nat.le_refl _)
 refine ⟨hl,fun y hy=>?_,hg⟩
 obtain ⟨k,hk⟩:=List.getElem?_of_mem hy
 have hkd:k < d:=by rw [← hl]; exact (List.getElem?_eq_some_iff.1 hk).1
 have h1:=hg k hkd
 rw [hk,Option.getD_some] at h1
 have h2:=dotZ_bd (f:=fun j=>(cs[j]?).getD 0) (g:=fun j=>ent (A.map Sy.row) j k) (A:=9) (B:=9) (n:=d) fun j hj=>⟨by
  show ((cs[j]?).getD 0).natAbs≤9
  cases e:cs[j]? with
  | none=>exact Nat.zero_le _
  | some z=>have:=hc z (List.mem_of_getElem? e); show z.natAbs≤9; omega,by
  show (ent (A.map Sy.row) j k).natAbs≤9
  unfold ent
  cases e:(rowAt (A.map Sy.row) j)[k]? with
  | none=>exact Nat.zero_le _
  | some z=>exact (hn.rowA j hj).2 z (List.mem_of_getElem? e)⟩
 have h3:((x.row[k]?).getD 0).natAbs≤9:=by
  cases e:x.row[k]? with
  | none=>exact Nat.zero_le _
  | some z=>exact hx9.2 z (List.mem_of_getElem? e)
 have h4:d * (9 * 9)≤3 * (9 * 9):=Nat.mul_le_mul_right _ hn.d3
 omega
theorem back_own (hn:Nt42 w aN aA cN cA M d N A) (hI:Inv42 (A.map Sy.row) d C D C' D') (hno:NoTwo C D (N.map Sy.row) d M) {i:Nat} (hi:i < M) {cs:List Int} (hl:cs.length=d) (hc:∀ x,x ∈ cs→x.natAbs < 10):spF (toF C D (N.map Sy.row) d (rdT (A.map Sy.row) cs (rowAt (N.map Sy.row) i) d)) M=some (i,cs):=by
 obtain ⟨h1,-,h3⟩:=own_row hn hi hl hc
 by_cases hd:1≤d
 ·have hrw:=hn.rows hI hd
  have hx:=(hrw.row hi).1
  have hme:toF C D (N.map Sy.row) d (rdT (A.map Sy.row) cs (rowAt (N.map Sy.row) i) d) i=some cs:=by
   obtain ⟨cs',e1,e2,e3⟩:=solve_span hrw.ok (z:=subR (rdT (A.map Sy.row) cs (rowAt (N.map Sy.row) i) d) (rowAt (N.map Sy.row) i)) (c:=fun j=>(cs[j]?).getD 0) fun k hk=>by
    rw [subR_get h1 hx,h3 k hk]
    show _=dotZ (fun j=>(cs[j]?).getD 0) (fun j=>ent (A.map Sy.row) j k) d
    omega
   have:cs'=cs:=row_ext e2 hl fun k hk=>e3 k hk
   rw [this] at e1
   exact e1
  refine spF_some hi (fun j hj=>?_) hme
  cases e:toF C D (N.map Sy.row) d (rdT (A.map Sy.row) cs (rowAt (N.map Sy.row) i) d) j with
  | none=>rfl
  | some c9=>
    have:=hrw.one hno h1 (show j < M by omega) hi (by rw [e]; rfl) (by rw [hme]; rfl)
    omega
 ·obtain rfl:d=0:=by omega
  have hM1:M=1:=Classical.byContradiction fun h9=>by
   have:=hno 0 1 (by omega) (by have:=hn.m1; omega)
   cases this
  obtain rfl:i=0:=by omega
  rw [List.eq_nil_of_length_eq_zero hl]
  exact spF_some hi (fun j hj=>absurd hj (Nat.not_lt_zero _)) rfl
theorem uq_short {W w':World} {e:Ending} (h:UqPost W N M d (prU (N.map Sy.row) C D d) res e w'):∃ (is q:Bool) (a1 a2 a3:Option Addr) (n1 c1 n2 c2 n3 c3:Nat) (i j:Int),e=.returned (.tuple #[.bool is,.agg #[.bool q,.slice a1 n1 c1,.int .i64 i,.slice a2 n2 c2,.int .i64 j,.slice a3 n3 c3],.int .i64 0])∧Fr W w'∧(is=true→NoTwo C D (N.map Sy.row) d M∧res=none):=by
 rcases h with ⟨i,j,cs,y,a1,c1,a2,c2,a3,c3,-,-,-,-,-,rfl,-,-,-,hf⟩ | ⟨hno,h⟩
 ·exact ⟨_,_,_,_,_,_,_,_,_,_,_,_,_,rfl,hf,fun h=>(by cases h)⟩
 ·unfold UqRet at h
  cases res with
  | none=>
    obtain ⟨rfl,hf⟩:=h
    exact ⟨_,_,_,_,_,_,_,_,_,_,_,_,_,rfl,hf,fun _=>⟨hno,rfl⟩⟩
  | some x=>
    obtain ⟨g,c,rfl,-,-,hf⟩:=h
    exact ⟨_,_,_,_,_,_,_,_,_,_,_,_,_,rfl,hf,fun h=>(by cases h)⟩
end
theorem NotationReturns_any (R:Int) (hR0:0≤R) (hR1:R≤255) (L:List (List Int)) (a:Option Addr) (c:Nat) (b0 b1 b2 b3 b4 b5 b6 b7 b8 x0 x1 x2 s0 s1 s2 s3:Int) (w:World) (hG:G w) (hEr:Er w) (hmx:∃ m,w.cell? ⟨2,0,none⟩=some (.int .i64 m)) (hL:TriIs w a L) (hL8:Tri8 L) (hB8:Tri8 [[b0,b1,b2],[b3,b4,b5],[b6,b7,b8]]) (hx8:∀ x,x ∈ [x0,x1,x2]→-128≤x∧x≤127) (hs8:∀ x,x ∈ [s0,s1,s2,s3]→-128≤x∧x≤127) :
 Calls Tryz.prog 5 #[.agg #[.int .u8 R,.slice a L.length c,.int .i8 b0,.int .i8 b1,.int .i8 b2,.int .i8 b3,.int .i8 b4,.int .i8 b5,.int .i8 b6,.int .i8 b7,.int .i8 b8],.agg #[.int .i8 x0,.int .i8 x1,.int .i8 x2],.agg #[.int .i8 s0,.int .i8 s1,.int .i8 s2,.int .i8 s3]] w fun e w'=>e=.returned (.bool true)∧Fr w w':=by
 have hk:=hZ (fun W (hW:Fr w W)=>known42_any W (hG.fr hW) (hEr.fr hW) (hmx.imp fun m h=>hW.keep h))
 obtain ⟨d,hd⟩:∃ d:Nat,(d:Int)=R % 4:=⟨(R % 4).toNat,by omega⟩
 have hd3:d≤3:=by omega
 have hmk:=hZ (fun W (hW:Fr w W)=>Make42_any R hR0 hR1 d hd L a c b0 b1 b2 b3 b4 b5 b6 b7 b8 W (hG.fr hW) (hL.fr hW) hL8 hB8)
 have hGf:=hZ (fun W (hW:Fr w W)=>hG.fr hW)
 obtain ⟨l,hl⟩:∃ l,l=L.length:=⟨_,rfl⟩
 rw [← hl] at hmk ⊢
 replace hl:=hZ hl
 replace hd:=hZ hd
 replace hL8:=hZ hL8
 replace hB8:=hZ hB8
 replace hx8:=hZ hx8
 replace hs8:=hZ hs8
 have hgn:=gN_le hG
 clear hG hmx hL hEr
 obtain ⟨db,hdb⟩:∃ db,db=w.heap.size:=⟨_,rfl⟩
 obtain ⟨W1,hW1⟩:∃ W1,W1=((w.alloc (.cells #[.int .u8 R,.slice a l c,.int .i8 b0,.int .i8 b1,.int .i8 b2,.int .i8 b3,.int .i8 b4,.int .i8 b5,.int .i8 b6,.int .i8 b7,.int .i8 b8] 27)).alloc (.cells #[.int .i8 x0,.int .i8 x1,.int .i8 x2] 24)).alloc (.cells #[.int .i8 s0,.int .i8 s1,.int .i8 s2,.int .i8 s3] 50):=⟨_,rfl⟩
 have f1:Fr w W1:=by rw [hW1]; exact (((Fr.refl _).alloc _).alloc _).alloc _
 go_enter Tryz.func5,Tryz.ntmps5
 go_upto_region 1 with (fail)
 have hxc:∀ (k:Nat) (v:Int),[x0,x1,x2][k]?=some v→W1.cell? ⟨db+1,k,none⟩=some (.int .i8 v):=fun k v hv=>by
  have hf:Fr ((w.alloc (.cells #[.int .u8 R,.slice a l c,.int .i8 b0,.int .i8 b1,.int .i8 b2,.int .i8 b3,.int .i8 b4,.int .i8 b5,.int .i8 b6,.int .i8 b7,.int .i8 b8] 27)).alloc (.cells #[.int .i8 x0,.int .i8 x1,.int .i8 x2] 24)) W1:=by rw [hW1]; exact (Fr.refl _).alloc _
  refine hf.keep ?_
  have h:=heap_alloc_new (w.alloc (.cells #[.int .u8 R,.slice a l c,.int .i8 b0,.int .i8 b1,.int .i8 b2,.int .i8 b3,.int .i8 b4,.int .i8 b5,.int .i8 b6,.int .i8 b7,.int .i8 b8] 27)) (.cells #[.int .i8 x0,.int .i8 x1,.int .i8 x2] 24)
  rw [World.size_alloc,← hdb] at h
  unfold World.cell?
  rw [h]
  match k,hv with
  | 0,hv=>injection hv with hv; subst hv; rfl
  | 1,hv=>injection hv with hv; subst hv; rfl
  | 2,hv=>injection hv with hv; subst hv; rfl
  | k+3,hv=>cases hv
 have hsc:∀ (k:Nat) (v:Int),[s0,s1,s2,s3][k]?=some v→W1.cell? ⟨db+1+1,k,none⟩=some (.int .i8 v):=fun k v hv=>by
  have h:=heap_alloc_new ((w.alloc (.cells #[.int .u8 R,.slice a l c,.int .i8 b0,.int .i8 b1,.int .i8 b2,.int .i8 b3,.int .i8 b4,.int .i8 b5,.int .i8 b6,.int .i8 b7,.int .i8 b8] 27)).alloc (.cells #[.int .i8 x0,.int .i8 x1,.int .i8 x2] 24)) (.cells #[.int .i8 s0,.int .i8 s1,.int .i8 s2,.int .i8 s3] 50)
  rw [World.size_alloc,World.size_alloc,← hdb,← hW1] at h
  unfold World.cell?
  rw [h]
  match k,hv with
  | 0,hv=>injection hv with hv; subst hv; rfl
  | 1,hv=>injection hv with hv; subst hv; rfl
  | 2,hv=>injection hv with hv; subst hv; rfl
  | 3,hv=>injection hv with hv; subst hv; rfl
  | k+4,hv=>cases hv
 have f1r:=f1
 rw [hW1] at f1r
 go_wp2_with fail
 refine (hmk.out _ f1r).mono ?_
 rintro e w1 ⟨N,A,aN,cN,aA,cA,rk,fine,hN,hA,hn,hf1,hfine,hr1,hr2,rfl⟩
 rw [← hW1] at hf1
 clear f1r hW1 hmk
 have f2:=f1.trans hf1
 replace hxc:=hZ (fun W (hW:Fr w1 W) k v hv=>(hf1.trans hW).keep (hxc k v hv))
 replace hsc:=hZ (fun W (hW:Fr w1 W) k v hv=>(hf1.trans hW).keep (hsc k v hv))
 have hdb2:db+1+1 < w1.heap.size:=World.block_lt_of_cell? _ ⟨db+1+1,0,none⟩ (hsc.out w1 (Fr.refl _) 0 s0 rfl)
 clear f1 hf1
 obtain ⟨M,hM⟩:∃ M,M=N.length:=⟨_,rfl⟩
 have hAd:A.length=d:=by rw [← bare_len,hA]; unfold accsD; rw [List.length_map,List.length_range]
 have hnt:=fun (hf:nchkE N A rk=0)=>nt42_of (cN:=cN) hn hN hA hd3 hL8.out hB8.out rfl hf hr1 hr2
 rw [← hM] at hnt ⊢
 rw [hAd]
 replace hM:=hZ hM
 replace hAd:=hZ hAd
 obtain ⟨nb,hnb⟩:∃ nb,nb=w1.heap.size:=⟨_,rfl⟩
 obtain ⟨W3,hW3⟩:∃ W3,W3=w1.alloc (.cells #[.slice aN M cN,.slice aA d cA] 32):=⟨_,rfl⟩
 have f13:Fr w1 W3:=by rw [hW3]; exact (Fr.refl _).alloc _
 have hC3:Cel2 W3 nb (.slice aN M cN) (.slice aA d cA):=by rw [hW3,hnb]; exact Cel2.new _ _ _ _
 have f3:=f2.trans f13
 rw [← hdb]
 replace hdb:=hZ hdb
 cases fine with
 | false=>
   clear hnt hfine hN hA hn hr1 hr2
   go_upto_region 2 with (fail)
   rw [← hW3,← hnb]
   clear hW3
   replace hnb:=hZ hnb
   go_wp2_with fail
   refine (hk.out _ f3).mono ?_
   rintro e w4 ⟨rfl,hf4⟩
   go_wp2_with fail
   refine (hk.out _ (f3.trans hf4)).mono ?_
   rintro e w5 ⟨rfl,hf5⟩
   go_wp2_with fail
   go_ret
   exact ⟨rfl,(f3.trans hf4).trans hf5⟩
 | true=>
   have hN3:=(hnt (of_decide_eq_true hfine.symm)).fr f13
   clear hnt hfine hN hA hn hr1 hr2
   obtain ⟨C,D,C',D',hI⟩:=hN3.inv
   obtain ⟨B,F,res,hs⟩:=hN3.srch hI
   have huq:=hZ (fun W (hW:Fr W3 W)=>(NUnique42 hN3 hI hs W (hGf.out _ (f3.trans hW)) (hN3.fr hW)).mono fun e w' h=>uq_short h)
   have m1:=hN3.m1
   have m8:=hN3.m8
   go_upto_region 2 with (fail)
   rw [← hW3,← hnb]
   clear hW3
   have hnb1:w1.heap.size≤nb:=by rw [hnb]; exact Nat.le_refl _
   replace hnb:=hZ hnb
   have n0:=hC3.a
   have n1:=hC3.b
   replace hC3:=hZ hC3
   go_wp2_with fail
   refine (hk.out _ f3).mono ?_
   rintro e w4 ⟨rfl,hf4⟩
   replace n0:=hf4.keep n0
   replace n1:=hf4.keep n1
   go_wp2_with fail
   refine (huq.out _ hf4).mono ?_
   rintro e w5 ⟨is,q,a1,a2,a3,k1,c1,k2,c2,k3,c3,i9,j9,rfl,hf5,hiu⟩
   clear huq
   have hf35:=hf4.trans hf5
   go_upto_region 5 with (fail)
   obtain ⟨W6,hW6⟩:∃ W6,W6=w5.alloc (.cells #[.bool q,.slice a1 k1 c1,.int .i64 i9,.slice a2 k2 c2,.int .i64 j9,.slice a3 k3 c3] 52):=⟨_,rfl⟩
   have f56:Fr w5 W6:=by rw [hW6]; exact (Fr.refl _).alloc _
   rw [← hW6]
   clear hW6
   have hf36:=hf35.trans f56
   cases is with
   | false=>
     clear hiu
     go_wp2_with fail
     go_ret
     exact ⟨rfl,f3.trans hf36⟩
   | true=>
     obtain ⟨hno,rfl⟩:=hiu rfl
     clear hiu hf5 hf35 f56
     replace n0:=hf36.keep hC3.out.a
     replace n1:=hf36.keep hC3.out.b
     obtain ⟨xl,hxl⟩:∃ xl,xl=[x0,x1,x2]:=⟨_,rfl⟩
     obtain ⟨sl,hsl⟩:∃ sl,sl=[s0,s1,s2,s3]:=⟨_,rfl⟩
     have hx9:=hx8
     have hs9:=hs8
     have hxc9:=hxc
     have hsc9:=hsc
     rw [← hxl] at hx9 hxc9
     rw [← hsl] at hs9 hsc9
     have hxn:xl.length=3:=by rw [hxl]; rfl
     have hsn:sl.length=4:=by rw [hsl]; rfl
     have hs00:sl[0]?=some s0:=by rw [hsl]; rfl
     replace hxl:=hZ hxl
     replace hsl:=hZ hsl
     replace hxn:=hZ hxn
     replace hsn:=hZ hsn
     replace hs00:=hZ hs00
     obtain ⟨g0,hg0⟩:∃ g0,g0=W6.heap.size:=⟨_,rfl⟩
     have hnb6:nb < g0:=by rw [hg0]; exact World.block_lt_of_cell? _ ⟨nb,0,none⟩ n0
     obtain ⟨W8,hW8⟩:∃ W8,W8=(W6.alloc (.cells #[] 3)).alloc (.cells #[] 3):=⟨_,rfl⟩
     have f68:Fr W6 W8:=by rw [hW8]; exact ((Fr.refl _).alloc _).alloc _
     have hoA:W8.ownsRow g0 3 1 (.slice (some ⟨g0,0,none⟩) 0 0) 0 []:=by
      rw [hW8,hg0]
      exact ownsRow_fr (owns_empty W6 W6.heap.size 3 1 (Nat.le_refl _)) ((Fr.refl _).alloc _)
     have hoB:W8.ownsRow g0 3 1 (.slice (some ⟨g0+1,0,none⟩) 0 0) 0 []:=by
      have:=owns_empty (W6.alloc (.cells #[] 3)) g0 3 1 (by rw [World.size_alloc]; omega)
      rw [World.size_alloc,← hg0] at this
      rw [hW8]; exact this
     go_upto_region 8 with (fail)
     rw [← hW8,← hg0]
     clear hW8
     replace hoA:=hZ hoA
     replace hoB:=hZ hoB
     have hg06:W6.heap.size≤g0:=by rw [hg0]; exact Nat.le_refl _
     replace hg0:=hZ hg0
     go_wp2_with fail
     go_loopg [12,13,14] d (fun k s12 s13 s14 wr=>∃ (t g1 c1 g2 c2:Nat),s14=.int .i64 t∧t+k=d∧s12=.slice (some ⟨g1,0,none⟩) t c1∧s13=.slice (some ⟨g2,0,none⟩) t c2∧Fr W6 wr∧Hid (wr.ownsRow g0 3 1 (.slice (some ⟨g1,0,none⟩) t c1) t (((rmT 100 xl d).take t).map iv))∧Hid (wr.ownsRow g0 3 1 (.slice (some ⟨g2,0,none⟩) t c2) t (((rmT 10 (sl.drop 1) d).take t).map iv))∧g1≠g2)
     case atStart=>exact ⟨0,g0,0,g0+1,0,rfl,by omega,rfl,rfl,f68,hZ (by simpa using hoA.out),hZ (by simpa using hoB.out),by omega⟩
     case round=>
      clear hoA hoB n0 n1 f68
      obtain ⟨t,g1,c1,g2,c2,rfl,htk,rfl,rfl,hf,hoA,hoB,hgne⟩:=hrel
      obtain ⟨wv,rfl⟩:∃ wv:World,wv=wr:=⟨_,rfl⟩
      obtain ⟨kv,rfl⟩:∃ kv:Nat,kv=gk:=⟨_,rfl⟩
      have hF:=hf36.trans hf
      have n1:=hF.keep hC3.out.b
      by_cases ht:t < d
      ·have hdT:decide (t < d)=true:=decide_eq_true ht
       obtain ⟨xv,hxv⟩:∃ x,xl[t]?=some x:=⟨_,List.getElem?_eq_getElem (by rw [hxn.out]; omega)⟩
       obtain ⟨sw,hsw⟩:∃ x,sl[t+1]?=some x:=⟨_,List.getElem?_eq_getElem (by rw [hsn.out]; omega)⟩
       obtain ⟨e1,e2⟩:=hx9.out xv (List.mem_of_getElem? hxv)
       obtain ⟨e3,e4⟩:=hs9.out sw (List.mem_of_getElem? hsw)
       have kx:IntKind.i64.wrap xv=xv:=IntWalk.i64_in _ (by omega)
       have ks:IntKind.i64.wrap sw=sw:=IntWalk.i64_in _ (by omega)
       have cx:=hxc9.out wv (f13.trans hF) t xv hxv
       have cs:=hsc9.out wv (f13.trans hF) (t+1) sw hsw
       have zt0:(0:Int)≤(t:Int):=Int.natCast_nonneg _
       have zt3:(t:Int) < 3:=by omega
       have kt:IntKind.i64.wrap ((t:Int)+1)=(t:Int)+1:=IntWalk.i64_in _ (by omega)
       have ktn:((t:Int)+1).toNat=t+1:=by omega
       have zs0:(0:Int)≤(t:Int)+1:=by omega
       have zs4:(t:Int)+1 < 4:=by omega
       have hnA:Hid ((rmT 100 xl d)[t]?=some (xv.tmod 100)):=by
        show _=_
        unfold rmT
        rw [List.getElem?_map,List.getElem?_take,if_pos ht,hxv]; rfl
       have hnB:Hid ((rmT 10 (sl.drop 1) d)[t]?=some (sw.tmod 10)):=by
        show _=_
        unfold rmT
        rw [List.getElem?_map,List.getElem?_take,if_pos ht,List.getElem?_drop,Nat.add_comm,hsw]; rfl
       have hzA:=hZ (hoA.out.lt g1 rfl)
       have hzB:=hZ (hoB.out.lt g2 rfl)
       replace hxv:=hZ hxv
       replace hsw:=hZ hsw
       have hS0:Hid (∀ W',Fx (fun k=>k=g1∨k=g2) wv W'→W'.cell? ⟨db+1,t,none⟩=some (.int .i8 xv)∧W'.cell? ⟨db+1+1,t+1,none⟩=some (.int .i8 sw)):=fun W' hW'=>by
        have h1:=hzA.out.1
        have h2:=hzB.out.1
        exact ⟨hW'.keep cx (fun e=>by have e:db+1=g1∨db+1=g2:=e; omega),hW'.keep cs (fun e=>by have e:db+1+1=g1∨db+1+1=g2:=e; omega)⟩
       go_wp2_with fail
       refine wp_region_held_drew (S:=fun W'=>W'.cell? ⟨db+1,t,none⟩=some (.int .i8 xv)∧W'.cell? ⟨db+1+1,t+1,none⟩=some (.int .i8 sw)) (by kernel_rfl) (hS0.out _ (Fx.of_fr (Fr.refl _).drew)) (fun hHeld=>?_)
       refine hK 0 ?_
       change wpAnyH _ _ _ _ _ _ _ (Act.put _ (some 59) _) _
       simp only [Act.put,lsT,ls0,lsS]
       refine hK 1 ?_
       change wpAnyH _ _ _ _ _ _ _ (Act.put _ (some 60) _) _
       simp only [Act.put,lsT,ls0,lsS]
       refine hK 2 ?_
       change wpAnyH _ _ _ _ _ _ _ (Act.put _ (some 61) _) _
       simp only [Act.put,lsT,ls0,lsS]
       refine hK 3 ?_
       change wpAnyH _ _ _ _ _ _ _ (Act.put _ (some 62) _) _
       simp only [Act.put,lsT,ls0,lsS]
       refine hK 4 ?_
       change wpAnyH _ _ _ _ _ _ _ (Act.put _ (some 63) _) _
       simp only [Act.put,lsT,ls0,lsS]
       refine hK 5 ?_
       change wpAnyH _ _ _ _ _ _ _ (Act.put _ (some 64) _) _
       simp only [Act.put,lsT,ls0,lsS]
       refine hK 8 ?_
       change wpAnyH _ _ _ _ _ _ _ (Act.put _ (some 67) _) _
       simp only [Act.put,lsT,ls0,lsS]
       refine hK 9 ?_
       change wpAnyH _ _ _ _ _ _ _ (Act.put _ (some 68) _) _
       simp only [Act.put,lsT,ls0,lsS]
       refine hK 10 ?_
       change wpAnyH _ _ _ _ _ _ _ (Act.put _ (some 69) _) _
       simp only [Act.put,lsT,ls0,lsS]
       refine hK 11 ?_
       change wpAnyH _ _ _ _ _ _ _ (Act.put _ (some 70) _) _
       simp only [Act.put,lsT,ls0,lsS]
       refine hK 12 ?_
       change wpAnyH _ _ _ _ _ _ _ (Act.put _ (some 71) _) _
       simp only [Act.put,lsT,ls0,lsS]
       refine hK 13 ?_
       change wpAnyH _ _ _ _ _ _ _ (Act.put _ (some 72) _) _
       simp only [Act.put,lsT,ls0,lsS]
       refine hK 14 ?_
       change wpAnyH _ _ _ _ _ _ _ (Act.put _ (some 73) _) _
       simp only [Act.put,lsT,ls0,lsS]
       obtain ⟨i1,ji,jz0,jz1,jz2⟩:=info_parts infoInt
       have hsA:Hid (((rmT 100 xl d).take (t+1)).map iv=((rmT 100 xl d).take t).map iv ++ [.int .i64 (xv.tmod 100)]):=by show _=_; rw [take_snoc hnA.out,List.map_append]; rfl
       have hsB:Hid (((rmT 10 (sl.drop 1) d).take (t+1)).map iv=((rmT 10 (sl.drop 1) d).take t).map iv ++ [.int .i64 (sw.tmod 10)]):=by show _=_; rw [take_snoc hnB.out,List.map_append]; rfl
       obtain ⟨wd,hwd⟩:∃ wd,wd=wv.drew:=⟨_,rfl⟩
       have hfx:Fx (fun k=>k=g1∨k=g2) wv wd:=by rw [hwd]; exact Fx.of_fr (Fr.refl _).drew
       replace hoA:Hid (wd.ownsRow g0 3 1 (.slice (some ⟨g1,0,none⟩) t c1) t (((rmT 100 xl d).take t).map iv)):=by rw [hwd]; exact ownsRow_fr hoA.out (Fr.refl _).drew
       replace hoB:Hid (wd.ownsRow g0 3 1 (.slice (some ⟨g2,0,none⟩) t c2) t (((rmT 10 (sl.drop 1) d).take t).map iv)):=by rw [hwd]; exact ownsRow_fr hoB.out (Fr.refl _).drew
       rw [← hwd] at hHeld ⊢
       clear hwd cx cs
       refine wpAnyH_ready (rs:=[6,15]) (by kernel_rfl) (by simp) ?_
       refine AllReadyH.cons rfl (fun K hK=>?_) (AllReadyH.cons rfl (fun K hK=>?_) AllReadyH.nil)
       ·
        go_simp
        refine hK.out _ _ (hS0.out _ (hfx.fr ((Fr.refl _).alloc _))) (fun hHeld=>?_)
        clear hK K
        obtain ⟨wa1,hW⟩:∃ W,W=wd.alloc (.cells #[.int .i64 (xv.tmod 100)] 3):=⟨_,rfl⟩
        have hfA:Fr wd wa1:=by rw [hW]; exact (Fr.refl _).alloc _
        obtain ⟨pA,hp⟩:∃ p,p=wd.heap.size:=⟨_,rfl⟩
        have hcA:wa1.cell? ⟨pA,0,none⟩=some (.int .i64 (xv.tmod 100)):=by rw [hW,hp]; exact new_cell _ _ _
        have hp9:wv.heap.size≤pA:=by rw [hp]; exact hfx.size
        rw [← hp,← hW]
        rw [← hW] at hHeld
        replace hp:=hZ hp
        replace hcA:=hZ hcA
        (try replace hcA:=hZ (hfA.keep hcA.out))
        (try replace hcB:=hZ (hfA.keep hcB.out))
        replace hoA:=hZ (ownsRow_fr hoA.out hfA)
        replace hoB:=hZ (ownsRow_fr hoB.out hfA)
        replace hfx:=hfx.fr hfA
        clear hW hfA
        try simp only [Act.put,lsT]
        refine wpAnyH_ready (rs:=[7,15]) (by kernel_rfl) (by simp) ?_
        refine AllReadyH.cons rfl (fun K hK=>?_) (AllReadyH.cons rfl (fun K hK=>?_) AllReadyH.nil)
        ·
         refine step_append_lies _ rfl (.tmp 59) (.tmp 65) 29 rfl g0 3 i1 _ 1 8 Tryz.underlying29 ji jz0 jz1 jz2 rfl (by decide) (.slice (some ⟨g1,0,none⟩) t c1) t _ (by simp [Act.eval]) hoA.out ⟨pA,0,none⟩ 1 1 [.int .i64 (xv.tmod 100)] (by simp [Act.eval]) rfl (one_at hcA.out) (by simp [Value.oneCell']) (by decide) (by unfold maxLen; omega) (by omega) (by have:=hzA.out; have:=hfx.size; omega) wa1.heap.size rfl ?_
         intro gA capA wb2 hownA hgrA hatA hltA
         have hfg:=Fx.of_grown hgrA
         have hAB:gA≠g2:=by
          rcases hatA with h | h
          ·have h:g1=gA:=by simpa [Value.ownBlock] using h
           omega
          ·have:=hzB.out; have:=hfx.size; omega
         replace hoB:=hZ (hoB.out.kept hgrA (.inr (fun e=>by injection e with e; exact hgne e.symm)))
         (try replace hcB:=hZ (hfg.keep hcB.out (fun e=>absurd (show g1=pB by simpa [Value.ownBlock] using e) (by have:=hzA.out; omega))))
         replace hfx:=hfx.trans (hfg.mono (fun k hk=>by injection hk with hk; exact .inl hk.symm))
         rw [← hsA.out] at hownA
         replace hoA:=hZ hownA
         clear hgrA hfg hatA hcA
         refine hK.out _ _ (hS0.out _ hfx) (fun hHeld=>?_)
         clear hK K
         change wpAnyH _ _ _ _ _ _ _ (Act.put _ (some 66) _) _
         simp only [Act.put,lsT,ls0,lsS]
         refine hC 15 (fun K hK=>?_)
         go_simp
         refine hK.out _ _ (hS0.out _ (hfx.fr ((Fr.refl _).alloc _))) (fun hHeld=>?_)
         clear hK K
         obtain ⟨wc3,hW⟩:∃ W,W=wb2.alloc (.cells #[.int .i64 (sw.tmod 10)] 3):=⟨_,rfl⟩
         have hfA:Fr wb2 wc3:=by rw [hW]; exact (Fr.refl _).alloc _
         obtain ⟨pB,hp⟩:∃ p,p=wb2.heap.size:=⟨_,rfl⟩
         have hcB:wc3.cell? ⟨pB,0,none⟩=some (.int .i64 (sw.tmod 10)):=by rw [hW,hp]; exact new_cell _ _ _
         have hp9:wv.heap.size≤pB:=by rw [hp]; exact hfx.size
         rw [← hp,← hW]
         rw [← hW] at hHeld
         replace hp:=hZ hp
         replace hcB:=hZ hcB
         (try replace hcA:=hZ (hfA.keep hcA.out))
         (try replace hcB:=hZ (hfA.keep hcB.out))
         replace hoA:=hZ (ownsRow_fr hoA.out hfA)
         replace hoB:=hZ (ownsRow_fr hoB.out hfA)
         replace hfx:=hfx.fr hfA
         clear hW hfA
         try simp only [Act.put,lsT]
         refine hC 16 (fun K hK=>?_)
         refine step_append_lies _ rfl (.tmp 67) (.tmp 74) 29 rfl g0 3 i1 _ 1 8 Tryz.underlying29 ji jz0 jz1 jz2 rfl (by decide) (.slice (some ⟨g2,0,none⟩) t c2) t _ (by simp [Act.eval]) hoB.out ⟨pB,0,none⟩ 1 1 [.int .i64 (sw.tmod 10)] (by simp [Act.eval]) rfl (one_at hcB.out) (by simp [Value.oneCell']) (by decide) (by unfold maxLen; omega) (by omega) (by have:=hzA.out; have:=hfx.size; omega) wc3.heap.size rfl ?_
         intro gB capB wd4 hownB hgrB hatB hltB
         have hfg:=Fx.of_grown hgrB
         have hBA:gA≠gB:=by
          have h9:=hoA.out.lt gA rfl
          rcases hatB with h | h
          ·have h:g2=gB:=by simpa [Value.ownBlock] using h
           omega
          ·omega
         replace hoA:=hZ (hoA.out.kept hgrB (.inr (fun e=>by injection e with e; exact hAB e)))
         replace hfx:=hfx.trans (hfg.mono (fun k hk=>by injection hk with hk; exact .inr hk.symm))
         rw [← hsB.out] at hownB
         replace hoB:=hZ hownB
         clear hgrB hfg hatB hcB
         refine hK.out _ _ (hS0.out _ hfx) (fun hHeld=>?_)
         clear hK K
         change wpAnyH _ _ _ _ _ _ _ (Act.put _ (some 75) _) _
         simp only [Act.put,lsT,ls0,lsS]
         refine hK 17 ?_
         change wpAnyH _ _ _ _ _ _ _ (Act.put _ (some 12) _) _
         simp only [Act.put,lsT,ls0,lsS]
         refine hK 18 ?_
         change wpAnyH _ _ _ _ _ _ _ (Act.put _ (some 13) _) _
         simp only [Act.put,lsT,ls0,lsS]
         refine wpAnyH_done (by kernel_rfl) ?_ _
         have hf9:Fr W6 wd4:=((Fx.of_fr hf).trans hfx).toFr (fun k hk e=>by
          have h1:=hzA.out.1
          have h2:=hzB.out.1
          have e:k=g1∨k=g2:=e
          omega)
         clear hHeld
         go_wp2_with fail
         go_roundg (kv - 1)
         case measure=>omega
         case rel=>exact ⟨t+1,gA,capA,gB,capB,by go_num,by omega,rfl,rfl,hf9,hoA.out,hoB.out,hBA⟩
        ·
         go_simp
         refine hK.out _ _ (hS0.out _ (hfx.fr ((Fr.refl _).alloc _))) (fun hHeld=>?_)
         clear hK K
         obtain ⟨wb2,hW⟩:∃ W,W=wa1.alloc (.cells #[.int .i64 (sw.tmod 10)] 3):=⟨_,rfl⟩
         have hfA:Fr wa1 wb2:=by rw [hW]; exact (Fr.refl _).alloc _
         obtain ⟨pB,hp⟩:∃ p,p=wa1.heap.size:=⟨_,rfl⟩
         have hcB:wb2.cell? ⟨pB,0,none⟩=some (.int .i64 (sw.tmod 10)):=by rw [hW,hp]; exact new_cell _ _ _
         have hp9:wv.heap.size≤pB:=by rw [hp]; exact hfx.size
         rw [← hp,← hW]
         rw [← hW] at hHeld
         replace hp:=hZ hp
         replace hcB:=hZ hcB
         (try replace hcA:=hZ (hfA.keep hcA.out))
         (try replace hcB:=hZ (hfA.keep hcB.out))
         replace hoA:=hZ (ownsRow_fr hoA.out hfA)
         replace hoB:=hZ (ownsRow_fr hoB.out hfA)
         replace hfx:=hfx.fr hfA
         clear hW hfA
         try simp only [Act.put,lsT]
         refine hC 7 (fun K hK=>?_)
         refine step_append_lies _ rfl (.tmp 59) (.tmp 65) 29 rfl g0 3 i1 _ 1 8 Tryz.underlying29 ji jz0 jz1 jz2 rfl (by decide) (.slice (some ⟨g1,0,none⟩) t c1) t _ (by simp [Act.eval]) hoA.out ⟨pA,0,none⟩ 1 1 [.int .i64 (xv.tmod 100)] (by simp [Act.eval]) rfl (one_at hcA.out) (by simp [Value.oneCell']) (by decide) (by unfold maxLen; omega) (by omega) (by have:=hzA.out; have:=hfx.size; omega) wb2.heap.size rfl ?_
         intro gA capA wc3 hownA hgrA hatA hltA
         have hfg:=Fx.of_grown hgrA
         have hAB:gA≠g2:=by
          rcases hatA with h | h
          ·have h:g1=gA:=by simpa [Value.ownBlock] using h
           omega
          ·have:=hzB.out; have:=hfx.size; omega
         replace hoB:=hZ (hoB.out.kept hgrA (.inr (fun e=>by injection e with e; exact hgne e.symm)))
         (try replace hcB:=hZ (hfg.keep hcB.out (fun e=>absurd (show g1=pB by simpa [Value.ownBlock] using e) (by have:=hzA.out; omega))))
         replace hfx:=hfx.trans (hfg.mono (fun k hk=>by injection hk with hk; exact .inl hk.symm))
         rw [← hsA.out] at hownA
         replace hoA:=hZ hownA
         clear hgrA hfg hatA hcA
         refine hK.out _ _ (hS0.out _ hfx) (fun hHeld=>?_)
         clear hK K
         change wpAnyH _ _ _ _ _ _ _ (Act.put _ (some 66) _) _
         simp only [Act.put,lsT,ls0,lsS]
         refine hC 16 (fun K hK=>?_)
         refine step_append_lies _ rfl (.tmp 67) (.tmp 74) 29 rfl g0 3 i1 _ 1 8 Tryz.underlying29 ji jz0 jz1 jz2 rfl (by decide) (.slice (some ⟨g2,0,none⟩) t c2) t _ (by simp [Act.eval]) hoB.out ⟨pB,0,none⟩ 1 1 [.int .i64 (sw.tmod 10)] (by simp [Act.eval]) rfl (one_at hcB.out) (by simp [Value.oneCell']) (by decide) (by unfold maxLen; omega) (by omega) (by have:=hzA.out; have:=hfx.size; omega) wc3.heap.size rfl ?_
         intro gB capB wd4 hownB hgrB hatB hltB
         have hfg:=Fx.of_grown hgrB
         have hBA:gA≠gB:=by
          have h9:=hoA.out.lt gA rfl
          rcases hatB with h | h
          ·have h:g2=gB:=by simpa [Value.ownBlock] using h
           omega
          ·omega
         replace hoA:=hZ (hoA.out.kept hgrB (.inr (fun e=>by injection e with e; exact hAB e)))
         replace hfx:=hfx.trans (hfg.mono (fun k hk=>by injection hk with hk; exact .inr hk.symm))
         rw [← hsB.out] at hownB
         replace hoB:=hZ hownB
         clear hgrB hfg hatB hcB
         refine hK.out _ _ (hS0.out _ hfx) (fun hHeld=>?_)
         clear hK K
         change wpAnyH _ _ _ _ _ _ _ (Act.put _ (some 75) _) _
         simp only [Act.put,lsT,ls0,lsS]
         refine hK 17 ?_
         change wpAnyH _ _ _ _ _ _ _ (Act.put _ (some 12) _) _
         simp only [Act.put,lsT,ls0,lsS]
         refine hK 18 ?_
         change wpAnyH _ _ _ _ _ _ _ (Act.put _ (some 13) _) _
         simp only [Act.put,lsT,ls0,lsS]
         refine wpAnyH_done (by kernel_rfl) ?_ _
         have hf9:Fr W6 wd4:=((Fx.of_fr hf).trans hfx).toFr (fun k hk e=>by
          have h1:=hzA.out.1
          have h2:=hzB.out.1
          have e:k=g1∨k=g2:=e
          omega)
         clear hHeld
         go_wp2_with fail
         go_roundg (kv - 1)
         case measure=>omega
         case rel=>exact ⟨t+1,gA,capA,gB,capB,by go_num,by omega,rfl,rfl,hf9,hoA.out,hoB.out,hBA⟩
       ·
        go_simp
        refine hK.out _ _ (hS0.out _ (hfx.fr ((Fr.refl _).alloc _))) (fun hHeld=>?_)
        clear hK K
        obtain ⟨wa1,hW⟩:∃ W,W=wd.alloc (.cells #[.int .i64 (sw.tmod 10)] 3):=⟨_,rfl⟩
        have hfA:Fr wd wa1:=by rw [hW]; exact (Fr.refl _).alloc _
        obtain ⟨pB,hp⟩:∃ p,p=wd.heap.size:=⟨_,rfl⟩
        have hcB:wa1.cell? ⟨pB,0,none⟩=some (.int .i64 (sw.tmod 10)):=by rw [hW,hp]; exact new_cell _ _ _
        have hp9:wv.heap.size≤pB:=by rw [hp]; exact hfx.size
        rw [← hp,← hW]
        rw [← hW] at hHeld
        replace hp:=hZ hp
        replace hcB:=hZ hcB
        (try replace hcA:=hZ (hfA.keep hcA.out))
        (try replace hcB:=hZ (hfA.keep hcB.out))
        replace hoA:=hZ (ownsRow_fr hoA.out hfA)
        replace hoB:=hZ (ownsRow_fr hoB.out hfA)
        replace hfx:=hfx.fr hfA
        clear hW hfA
        try simp only [Act.put,lsT]
        refine hC 6 (fun K hK=>?_)
        go_simp
        refine hK.out _ _ (hS0.out _ (hfx.fr ((Fr.refl _).alloc _))) (fun hHeld=>?_)
        clear hK K
        obtain ⟨wb2,hW⟩:∃ W,W=wa1.alloc (.cells #[.int .i64 (xv.tmod 100)] 3):=⟨_,rfl⟩
        have hfA:Fr wa1 wb2:=by rw [hW]; exact (Fr.refl _).alloc _
        obtain ⟨pA,hp⟩:∃ p,p=wa1.heap.size:=⟨_,rfl⟩
        have hcA:wb2.cell? ⟨pA,0,none⟩=some (.int .i64 (xv.tmod 100)):=by rw [hW,hp]; exact new_cell _ _ _
        have hp9:wv.heap.size≤pA:=by rw [hp]; exact hfx.size
        rw [← hp,← hW]
        rw [← hW] at hHeld
        replace hp:=hZ hp
        replace hcA:=hZ hcA
        (try replace hcA:=hZ (hfA.keep hcA.out))
        (try replace hcB:=hZ (hfA.keep hcB.out))
        replace hoA:=hZ (ownsRow_fr hoA.out hfA)
        replace hoB:=hZ (ownsRow_fr hoB.out hfA)
        replace hfx:=hfx.fr hfA
        clear hW hfA
        try simp only [Act.put,lsT]
        refine hC 7 (fun K hK=>?_)
        refine step_append_lies _ rfl (.tmp 59) (.tmp 65) 29 rfl g0 3 i1 _ 1 8 Tryz.underlying29 ji jz0 jz1 jz2 rfl (by decide) (.slice (some ⟨g1,0,none⟩) t c1) t _ (by simp [Act.eval]) hoA.out ⟨pA,0,none⟩ 1 1 [.int .i64 (xv.tmod 100)] (by simp [Act.eval]) rfl (one_at hcA.out) (by simp [Value.oneCell']) (by decide) (by unfold maxLen; omega) (by omega) (by have:=hzA.out; have:=hfx.size; omega) wb2.heap.size rfl ?_
        intro gA capA wc3 hownA hgrA hatA hltA
        have hfg:=Fx.of_grown hgrA
        have hAB:gA≠g2:=by
         rcases hatA with h | h
         ·have h:g1=gA:=by simpa [Value.ownBlock] using h
          omega
         ·have:=hzB.out; have:=hfx.size; omega
        replace hoB:=hZ (hoB.out.kept hgrA (.inr (fun e=>by injection e with e; exact hgne e.symm)))
        (try replace hcB:=hZ (hfg.keep hcB.out (fun e=>absurd (show g1=pB by simpa [Value.ownBlock] using e) (by have:=hzA.out; omega))))
        replace hfx:=hfx.trans (hfg.mono (fun k hk=>by injection hk with hk; exact .inl hk.symm))
        rw [← hsA.out] at hownA
        replace hoA:=hZ hownA
        clear hgrA hfg hatA hcA
        refine hK.out _ _ (hS0.out _ hfx) (fun hHeld=>?_)
        clear hK K
        change wpAnyH _ _ _ _ _ _ _ (Act.put _ (some 66) _) _
        simp only [Act.put,lsT,ls0,lsS]
        refine hC 16 (fun K hK=>?_)
        refine step_append_lies _ rfl (.tmp 67) (.tmp 74) 29 rfl g0 3 i1 _ 1 8 Tryz.underlying29 ji jz0 jz1 jz2 rfl (by decide) (.slice (some ⟨g2,0,none⟩) t c2) t _ (by simp [Act.eval]) hoB.out ⟨pB,0,none⟩ 1 1 [.int .i64 (sw.tmod 10)] (by simp [Act.eval]) rfl (one_at hcB.out) (by simp [Value.oneCell']) (by decide) (by unfold maxLen; omega) (by omega) (by have:=hzA.out; have:=hfx.size; omega) wc3.heap.size rfl ?_
        intro gB capB wd4 hownB hgrB hatB hltB
        have hfg:=Fx.of_grown hgrB
        have hBA:gA≠gB:=by
         have h9:=hoA.out.lt gA rfl
         rcases hatB with h | h
         ·have h:g2=gB:=by simpa [Value.ownBlock] using h
          omega
         ·omega
        replace hoA:=hZ (hoA.out.kept hgrB (.inr (fun e=>by injection e with e; exact hAB e)))
        replace hfx:=hfx.trans (hfg.mono (fun k hk=>by injection hk with hk; exact .inr hk.symm))
        rw [← hsB.out] at hownB
        replace hoB:=hZ hownB
        clear hgrB hfg hatB hcB
        refine hK.out _ _ (hS0.out _ hfx) (fun hHeld=>?_)
        clear hK K
        change wpAnyH _ _ _ _ _ _ _ (Act.put _ (some 75) _) _
        simp only [Act.put,lsT,ls0,lsS]
        refine hK 17 ?_
        change wpAnyH _ _ _ _ _ _ _ (Act.put _ (some 12) _) _
        simp only [Act.put,lsT,ls0,lsS]
        refine hK 18 ?_
        change wpAnyH _ _ _ _ _ _ _ (Act.put _ (some 13) _) _
        simp only [Act.put,lsT,ls0,lsS]
        refine wpAnyH_done (by kernel_rfl) ?_ _
        have hf9:Fr W6 wd4:=((Fx.of_fr hf).trans hfx).toFr (fun k hk e=>by
         have h1:=hzA.out.1
         have h2:=hzB.out.1
         have e:k=g1∨k=g2:=e
         omega)
        clear hHeld
        go_wp2_with fail
        go_roundg (kv - 1)
        case measure=>omega
        case rel=>exact ⟨t+1,gA,capA,gB,capB,by go_num,by omega,rfl,rfl,hf9,hoA.out,hoB.out,hBA⟩
      ·have hdT:decide (t < d)=false:=decide_eq_false ht
       obtain rfl:d=t:=by omega
       obtain ⟨rA,hrA⟩:∃ r,r=rmT 100 xl d:=⟨_,rfl⟩
       obtain ⟨rB,hrB⟩:∃ r,r=rmT 10 (sl.drop 1) d:=⟨_,rfl⟩
       have hAl:rA.length=d:=by rw [hrA]; exact rmT_len (by rw [hxn.out]; exact hd3)
       have hBl:rB.length=d:=by rw [hrB]; exact rmT_len (by rw [List.length_drop,hsn.out]; omega)
       have hAb:∀ x,x ∈ rA→x.natAbs < 300:=fun x hx=>by rw [hrA] at hx; have:=rmT_bd (by decide) x hx; omega
       have hBb:∀ x,x ∈ rB→x.natAbs < 10:=fun x hx=>by rw [hrB] at hx; exact rmT_bd (by decide) x hx
       have hAf:∀ x,x ∈ rA→fitB x=true:=fun x hx=>by have:=hAb x hx; exact decide_eq_true ⟨by omega,by omega⟩
       have hgw:gN≤g0:=by have:=(f3.trans hf36).size; omega
       have hEA:El wv iv (some ⟨g1,0,none⟩) rA:=by
        have h9:=hoA.out
        rw [← hrA,List.take_of_length_le (by rw [hAl]; exact Nat.le_refl _)] at h9
        exact (ownsRow_ownI hgw h9).1.el
       have hEB:El wv iv (some ⟨g2,0,none⟩) rB:=by
        have h9:=hoB.out
        rw [← hrB,List.take_of_length_le (by rw [hBl]; exact Nat.le_refl _)] at h9
        exact (ownsRow_ownI hgw h9).1.el
       have hg2w:g2 < wv.heap.size:=(hoB.out.lt g2 rfl).2
       clear hoA hoB hrA hrB hgne
       obtain ⟨i,cs,hsp,hi,hcl,hcf,hrd⟩:=spell_row hN3 hI hs rfl hAl hAb
       obtain ⟨i0,hi0⟩:∃ i0:Nat,(i0:Int)=(s0.tmod M+M).tmod M:=⟨((s0.tmod M+M).tmod M).toNat,Int.toNat_of_nonneg (Int.tmod_nonneg _ (by have:=Int.lt_tmod_of_pos s0 (show (0:Int) < M by omega); omega))⟩
       have hi0M:i0 < M:=by have:=Int.tmod_lt_of_pos (s0.tmod M+M) (show (0:Int) < M by omega); omega
       obtain ⟨y,hy⟩:∃ y,y=rdT (A.map Sy.row) rB (rowAt (N.map Sy.row) i0) d:=⟨_,rfl⟩
       obtain ⟨hyl,hyb,-⟩:=own_row hN3 hi0M hBl hBb
       have hback:=back_own hN3 hI hno hi0M hBl hBb
       rw [← hy] at hyl hyb hback
       have hyf:∀ x,x ∈ y→fitB x=true:=fun x hx=>by have:=hyb x hx; exact decide_eq_true ⟨by omega,by omega⟩
       have hBf:rB.all fitB=true:=List.all_eq_true.2 fun x hx=>by have:=hBb x hx; exact decide_eq_true ⟨by omega,by omega⟩
       have hz1:=rdE_zero hN3 hi hcl hcf hrd hAf
       have hz2:=rdE_zero hN3 hi0M hBl hBf hy.symm hyf
       have hspA:Hid (∀ W,Fr W3 W→El W iv (some ⟨g1,0,none⟩) rA→Calls Tryz.prog 9 #[.agg #[.slice aN M cN,.slice aA d cA],.slice (some ⟨g1,0,none⟩) d c1] W fun e w'=>∃ a' c',e=.returned (.tuple #[.agg #[.int .i64 (i:Int),.slice a' d c'],.int .i64 0])∧El w' iv a' cs∧Fr W w'):=fun W hW he=>by
        have h9:=spellP hN3 hI hAl hAf W _ c1 (hGf.out _ (f3.trans hW)) (hN3.fr hW) he
        rw [hsp] at h9
        exact h9.mono fun e w' h=>by obtain ⟨a',c',h1,h2,-,h3,-⟩:=h.1 hcf; exact ⟨a',c',h1,h2,h3⟩
       have hspY:Hid (∀ W ya yc,Fr W3 W→El W iv ya y→Calls Tryz.prog 9 #[.agg #[.slice aN M cN,.slice aA d cA],.slice ya d yc] W fun e w'=>∃ a' c',e=.returned (.tuple #[.agg #[.int .i64 (i0:Int),.slice a' d c'],.int .i64 0])∧El w' iv a' rB∧Fr W w'):=fun W ya yc hW he=>by
        have h9:=spellP hN3 hI hyl hyf W ya yc (hGf.out _ (f3.trans hW)) (hN3.fr hW) he
        rw [hback] at h9
        exact h9.mono fun e w' h=>by obtain ⟨a',c',h1,h2,-,h3,-⟩:=h.1 hBf; exact ⟨a',c',h1,h2,h3⟩
       have hrdA:Hid (∀ W ca cc,Fr W3 W→El W iv ca cs→Calls Tryz.prog 13 #[.agg #[.slice aN M cN,.slice aA d cA],.agg #[.int .i64 (i:Int),.slice ca d cc]] W (RdOk W rA d)):=fun W ca cc hW he=>by
        have h9:=NRead42 N A M d d i cs ca aN aA cc cN cA W (hGf.out _ (f3.trans hW)) (hN3.fr hW) he hcl (by omega)
        refine h9.mono fun e w' h=>?_
        have:=h.1 hz1
        rw [show ((i:Int)).toNat=i from Int.toNat_natCast i,hrd] at this
        exact this
       have hrdB:Hid (∀ W ca cc,Fr W3 W→El W iv ca rB→Calls Tryz.prog 13 #[.agg #[.slice aN M cN,.slice aA d cA],.agg #[.int .i64 (i0:Int),.slice ca d cc]] W (RdOk W y d)):=fun W ca cc hW he=>by
        have h9:=NRead42 N A M d d i0 rB ca aN aA cc cN cA W (hGf.out _ (f3.trans hW)) (hN3.fr hW) he hBl (by omega)
        refine h9.mono fun e w' h=>?_
        have:=h.1 hz2
        rw [show ((i0:Int)).toNat=i0 from Int.toNat_natCast i0,← hy] at this
        exact this
       have heq:=hZ (fun W (b:Option Addr) (cb:Nat) (h1:El W iv (some ⟨g1,0,none⟩) rA) (h2:El W iv b rA)=>REqual_any rA rA b (some ⟨g1,0,none⟩) cb c1 d d W h2 h1 hAl hAl (by omega) (by omega))
       rw [decide_eq_true rfl] at heq
       have hsm:=hZ (fun W (a b:Option Addr) (ca cb:Nat) (h1:El W iv a rB) (h2:El W iv b rB)=>same42_eq i0 rB a b ca cb d d W h1 h2 hBl hBl (by omega))
       clear hsp hi hcl hcf hrd hback hyl hyb hyf hBf hz1 hz2 hAf hAb hBb hAl hBl hy hs hI hno hN3
       replace hi0:=hZ hi0
       have n0:=hF.keep hC3.out.a
       have hEA0:=hZ hEA
       go_wp2_with fail
       refine (hspA.out _ hF hEA0.out).mono ?_
       rintro e w6 ⟨a6,c6,rfl,he6,hf6⟩
       go_upto_region 13 with (fail)
       obtain ⟨W7,hW7⟩:∃ W7,W7=w6.alloc (.cells #[.int .i64 i,.slice a6 d c6] 37):=⟨_,rfl⟩
       obtain ⟨bb,hbb⟩:∃ bb,bb=w6.heap.size:=⟨_,rfl⟩
       have f67:Fr w6 W7:=by rw [hW7]; exact (Fr.refl _).alloc _
       have hB7:Cel2 W7 bb (.int .i64 i) (.slice a6 d c6):=by rw [hW7,hbb]; exact Cel2.new _ _ _ _
       rw [← hW7,← hbb]
       clear hW7 hbb
       have hv7:=hf6.trans f67
       have hF7:=hF.trans hv7
       replace n0:=hv7.keep n0
       replace n1:=hv7.keep n1
       have m0:=hB7.a
       have m1':=hB7.b
       go_wp2_with fail
       refine (hrdA.out _ a6 c6 hF7 (he6.fr f67)).mono ?_
       rintro e w8 ⟨a8,c8,rfl,he8,hl8,hf8⟩
       have hv8:=hv7.trans hf8
       replace n0:=hf8.keep n0
       replace n1:=hf8.keep n1
       replace hl8:=hZ hl8
       have hEB8:=hZ (hEB.fr hv8)
       have hE8:=hZ he8
       have cs0:=hsc9.out w8 (f13.trans (hF.trans hv8)) 0 s0 hs00.out
       obtain ⟨e3,e4⟩:=hs9.out s0 (List.mem_of_getElem? hs00.out)
       have hMm:(0:Int) < (M:Int):=by omega
       have q1:¬ (M:Int)=0:=by omega
       have q2:((M:Int) == 0)=false:=beq_false_of_ne q1
       have q3:¬ M=0:=by omega
       have ks:IntKind.i64.wrap s0=s0:=IntWalk.i64_in _ (by omega)
       have hb1:=Int.lt_tmod_of_pos s0 hMm
       have hb2:=Int.tmod_lt_of_pos s0 hMm
       have kw:IntKind.i64.wrap (s0.tmod M+M)=s0.tmod M+M:=IntWalk.i64_in _ (by omega)
       clear m0 m1' he6 he8 hspA hrdA hEA hEB
       have hd8:Fr w8 w8.drew:=(Fr.refl _).drew
       have hS2:=hZ (fun W' (hW':Fr w8 W')=>(⟨hW'.keep n0,hW'.keep cs0⟩:W'.cell? ⟨nb,0,none⟩=some (.slice aN M cN)∧W'.cell? ⟨db+1+1,0,none⟩=some (.int .i8 s0)))
       go_wp2_with fail
       refine wp_region_held_drew (S:=fun W'=>W'.cell? ⟨nb,0,none⟩=some (.slice aN M cN)∧W'.cell? ⟨db+1+1,0,none⟩=some (.int .i8 s0)) (by kernel_rfl) (hS2.out _ hd8) (fun hHeld=>?_)
       refine hK 0 ?_
       change wpAnyH _ _ _ _ _ _ _ (Act.put _ (some 88) _) _
       simp only [Act.put,lsT,ls0,lsS]
       refine hK 1 ?_
       change wpAnyH _ _ _ _ _ _ _ (Act.put _ (some 89) _) _
       simp only [Act.put,lsT,ls0,lsS]
       refine hK 2 ?_
       change wpAnyH _ _ _ _ _ _ _ (Act.put _ (some 90) _) _
       simp only [Act.put,lsT,ls0,lsS]
       refine hK 3 ?_
       change wpAnyH _ _ _ _ _ _ _ (Act.put _ (some 91) _) _
       simp only [Act.put,lsT,ls0,lsS]
       refine hK 4 ?_
       change wpAnyH _ _ _ _ _ _ _ (Act.put _ (some 92) _) _
       simp only [Act.put,lsT,ls0,lsS]
       refine hK 5 ?_
       change wpAnyH _ _ _ _ _ _ _ (Act.put _ (some 93) _) _
       simp only [Act.put,lsT,ls0,lsS]
       refine hK 6 ?_
       change wpAnyH _ _ _ _ _ _ _ (Act.put _ (some 94) _) _
       simp only [Act.put,lsT,ls0,lsS]
       refine hK 7 ?_
       change wpAnyH _ _ _ _ _ _ _ (Act.put _ (some 95) _) _
       simp only [Act.put,lsT,ls0,lsS]
       refine hK 8 ?_
       change wpAnyH _ _ _ _ _ _ _ (Act.put _ (some 96) _) _
       simp only [Act.put,lsT,ls0,lsS]
       refine hK 9 ?_
       change wpAnyH _ _ _ _ _ _ _ (Act.put _ (some 97) _) _
       simp only [Act.put,lsT,ls0,lsS]
       refine hK 10 ?_
       change wpAnyH _ _ _ _ _ _ _ (Act.put _ (some 98) _) _
       simp only [Act.put,lsT,ls0,lsS]
       refine hK 11 ?_
       change wpAnyH _ _ _ _ _ _ _ (Act.put _ (some 99) _) _
       simp only [Act.put,lsT,ls0,lsS]
       refine hK 12 ?_
       change wpAnyH _ _ _ _ _ _ _ (Act.put _ (some 100) _) _
       simp only [Act.put,lsT,ls0,lsS]
       refine hK 13 ?_
       change wpAnyH _ _ _ _ _ _ _ (Act.put _ (some 101) _) _
       simp only [Act.put,lsT,ls0,lsS]
       refine hK 14 ?_
       change wpAnyH _ _ _ _ _ _ _ (Act.put _ (some 102) _) _
       simp only [Act.put,lsT,ls0,lsS]
       refine hK 15 ?_
       change wpAnyH _ _ _ _ _ _ _ (Act.put _ (some 103) _) _
       simp only [Act.put,lsT,ls0,lsS]
       refine hK 16 ?_
       change wpAnyH _ _ _ _ _ _ _ (Act.put _ (some 104) _) _
       simp only [Act.put,lsT,ls0,lsS]
       rw [← hi0.out]
       obtain ⟨wd,hwd⟩:∃ wd,wd=w8.drew:=⟨_,rfl⟩
       rw [← hwd] at hd8 hHeld ⊢
       clear hwd
       refine hC 17 (fun K hK=>?_)
       go_simp
       refine hK.out _ _ (hS2.out _ (hd8.alloc _)) (fun hHeld=>?_)
       clear hK K
       obtain ⟨wa,hW⟩:∃ W,W=wd.alloc (.cells #[.int .i64 0,.slice none 0 0] 37):=⟨_,rfl⟩
       have hfA:Fr wd wa:=by rw [hW]; exact (Fr.refl _).alloc _
       obtain ⟨ob,hob⟩:∃ ob,ob=wd.heap.size:=⟨_,rfl⟩
       have hAl:Cel2 wa ob (.int .i64 0) (.slice none 0 0):=by rw [hW,hob]; exact Cel2.new _ _ _ _
       have hob8:w8.heap.size≤ob:=by rw [hob]; exact hd8.size
       rw [← hob,← hW]
       rw [← hW] at hHeld
       replace hob:=hZ hob
       clear hW
       try simp only [Act.put,lsT]
       have hfa8:=hd8.trans hfA
       have y1:=(hAl.set0 (.int .i64 i0)).b
       have y2:=(hAl.set0 (.int .i64 i0)).fb
       have hC9:=hZ ((hAl.set0 (.int .i64 i0)).set1 (.slice (some ⟨g2,0,none⟩) d c2))
       have hfx9:Fx (·=ob) wa ((wa.setCell ⟨ob,0,none⟩ (.int .i64 i0)).setCell ⟨ob,1,none⟩ (.slice (some ⟨g2,0,none⟩) d c2)):=Fx.setCell (p:=(·=ob)) (q:=⟨ob,1,none⟩) (Fx.setCell (p:=(·=ob)) (q:=⟨ob,0,none⟩) (Fx.refl _ wa) (.inl rfl) _) (.inl rfl) _
       have hfr9:Hid (Fr w8 ((wa.setCell ⟨ob,0,none⟩ (.int .i64 i0)).setCell ⟨ob,1,none⟩ (.slice (some ⟨g2,0,none⟩) d c2))):=((Fx.of_fr hfa8).trans hfx9).toFr (fun k hk e=>by have e:k=ob:=e; omega)
       obtain ⟨p0,p1,p2,p3⟩:=hAl
       refine hC 18 (fun K hK=>?_)
       go_simp
       refine hK.out _ _ (hS2.out _ hfr9.out) (fun hHeld=>?_)
       clear hK K p0 p1 p2 p3 y1 y2
       refine wpAnyH_done (by kernel_rfl) ?_ _
       obtain ⟨W9,hW9⟩:∃ W9,W9=(wa.setCell ⟨ob,0,none⟩ (.int .i64 i0)).setCell ⟨ob,1,none⟩ (.slice (some ⟨g2,0,none⟩) d c2):=⟨_,rfl⟩
       rw [← hW9] at hC9 hfr9 ⊢
       clear hW9 hfx9 hHeld hfa8 hfA hd8 hS2 q1 q2 q3 ks hb1 hb2 kw cs0
       have hv9:=hv8.trans hfr9.out
       replace n0:=hfr9.out.keep n0
       replace n1:=hfr9.out.keep n1
       have m0:=hC9.out.a
       have m1':=hC9.out.b
       go_wp2_with fail
       refine (hrdB.out _ _ c2 (hF.trans hv9) (hEB8.out.fr hfr9.out)).mono ?_
       rintro e wA ⟨aA',cA',rfl,heA',-,hfA9⟩
       have hvA:=hv9.trans hfA9
       replace n0:=hfA9.keep n0
       replace n1:=hfA9.keep n1
       replace m0:=hfA9.keep m0
       replace m1':=hfA9.keep m1'
       go_wp2_with fail
       refine (hspY.out _ aA' cA' (hF.trans hvA) heA').mono ?_
       rintro e wB ⟨aB,cB,rfl,heB,hfB⟩
       go_upto_region 17 with (fail)
       obtain ⟨WC,hWC⟩:∃ WC,WC=wB.alloc (.cells #[.int .i64 i0,.slice aB d cB] 37):=⟨_,rfl⟩
       obtain ⟨cb,hcb⟩:∃ cb,cb=wB.heap.size:=⟨_,rfl⟩
       have fBC:Fr wB WC:=by rw [hWC]; exact (Fr.refl _).alloc _
       have hBC:Cel2 WC cb (.int .i64 i0) (.slice aB d cB):=by rw [hWC,hcb]; exact Cel2.new _ _ _ _
       rw [← hWC,← hcb]
       clear hWC hcb
       have hvC:=hfB.trans fBC
       replace m0:=hvC.keep m0
       replace m1':=hvC.keep m1'
       have r0:=hBC.a
       have r1:=hBC.b
       have hvV:=hvA.trans hvC
       have hq1:=hZ (heq.out WC a8 c8 (hEA0.out.fr hvV) (hE8.out.fr ((hfr9.out.trans hfA9).trans hvC)))
       have hq2:=hZ (fun W (hW:Fr WC W)=>hsm.out W aB (some ⟨g2,0,none⟩) cB c2 ((heB.fr fBC).fr hW) (hEB8.out.fr (((hfr9.out.trans hfA9).trans hvC).trans hW)))
       clear n0 n1 heq hsm hspY hrdB heA' heB hEB8 hE8 hEA0
       go_wp2_with fail
       refine hq1.out.mono ?_
       rintro e wD ⟨rfl,hfD⟩
       replace m0:=hfD.keep m0
       replace m1':=hfD.keep m1'
       replace r0:=hfD.keep r0
       replace r1:=hfD.keep r1
       go_wp2_with fail
       refine (hq2.out _ hfD).mono ?_
       rintro e wE ⟨rfl,hfE⟩
       go_wp2_with fail
       go_ret
       exact ⟨rfl,(f3.trans (hF.trans hvV)).trans (hfD.trans hfE)⟩
end Go.Proofs.YtkjemicelmabdaaGreatDoor
