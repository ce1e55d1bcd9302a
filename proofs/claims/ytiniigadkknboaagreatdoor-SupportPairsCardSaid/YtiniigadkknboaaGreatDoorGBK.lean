/- Contracts and laws: GBK. -/
import Derived.Test.YtiniigadkknboaaGreatDoorGBE
import Derived.RangeFuncNested

set_option maxRecDepth 100000
set_option maxHeartbeats 2000000
namespace Go.Proofs.YtiniigadkknboaaGreatDoor
open Go.RowKit Go.Lib
attribute [local go_sem ↓] Go.wp_at_zero Go.wp_at_succ
attribute [local go_sem] Md
theorem Mr (g:Nat) (lb:Array Value) (L:List Int) (Sp:List Int→Prop) (N:Nat) (w0 w:World) (eg:∀ args w,(callFunc g args).run Tryz.prog w=.ok (.enter g args) w) (hb0:Fr w0 w) (hN:N≤1000000)
 (hseq:SeqStopsK Fence.wide 3 Tryz.prog g lb (fun x:Int=>#[.int .i64 x]) (Below w0.heap.size) (fun xs=>xs=L) Sp N w0) :
 Calls Tryz.prog 98 #[.slice none 0 0,.func (.func g) #[] lb] w fun e w'=>∃ a c,e=.returned (.slice a L.length c)∧El w' iv a L∧Fr w w':=by
 obtain ⟨i0,hi,hz0,hz1,hz2⟩:=AZ C6
 have hs0:=hb0.size
 have hfA:Fr w (w.alloc (.cells #[.slice none 0 0] 23)):=(Fr.refl _).alloc _
 refine (CY (n:=4)).1 ?_
 refine callsIn_of_wp_marks Tryz.func98 rfl trivial ?_ rfl
 simp only [Tryz.ntmps98,BL,Aw,DC,Nat.reduceAdd,Nat.reduceSub,DK,DJ,EK,D4,Ex,Fm]
 gi_wp2
 refine wpIn_rangeFunc_ownF (n:=4) rfl (by omega) (gf:=g) (lb:=lb) rfl trivial eg hseq belowK_t (belowK_b (by rw [AF]; omega)) (hb0.trans hfA) (fun _=>rfl)
  (fun pre W=>(∃ v,Boxed W w.heap.size 23 v∧W.ownsRow w.heap.size 3 1 v pre.length (pre.map iv)∧True)∧Below w.heap.size w W)
  (fun _ _ _=>False)
  (OwnFrom.and (Own.from (holdsRow_own w.heap.size w.heap.size 23 3 1 (fun pre:List Int=>pre.length) (fun pre=>pre.map iv) (fun _ _=>True)) _) (ownFrom_below (Ah _) (by rw [AF]; omega)))
  (fun _ _ _ _ _ h _ _=>h)
  ⟨⟨_,Boxed.new w _ _,Bl _ _ _ _,trivial⟩,hfA⟩
  (fun x=>{ tmps:=#[.slice none 0 0,.func (.func g) #[] lb,.pointer (some ⟨w.heap.size,0,none⟩),undef,.slice none 0 0,.int .i64 x,.func (.func g) #[] lb,.int .i64 x,undef,undef,undef,undef,undef],defers:=[] }) ?assign ?body ?done ?stop
 case assign=>
  intro l x W K hK
  gi_wp2
  exact hK
 case body=>
  rintro l pre x W ⟨⟨v,hv,hown,-⟩,hB⟩ hlen
  have hv1:=hv.cell
  have hzB:=hB.size
  gi_wp2_with (gi_at_builtin; refine wpListIn_append_own _ rfl _ _ 23 rfl w.heap.size 3 i0 _ 1 8 Tryz.underlying23 hi hz0 hz1 hz2 rfl (by decide) _ _ _ rfl (hown.alloc _) ⟨W.heap.size,0,none⟩ 1 1 [.int .i64 x] rfl rfl (Tf _ _ _) (by simp [Value.oneCell']) (by unfold maxLen; omega) (by omega) (by rw [AF]; omega) ?_; intro v' w1 hown' hgrow _; obtain ⟨g',cap',rfl⟩:=ownsRow_succ hown'; obtain ⟨hq1,hq2,hq3,hk2,hb2⟩:=hv.appended (by decide) hown hzB (Ah _) hown' hgrow; have hc1:=hq1.cell; have hf1:=hq1.frozen)
  exact ⟨hk2,hb2.mono hs0,⟨_,hq2,by rw [Ar,Ay]; exact hq3,trivial⟩,Below.trans hB hb2⟩
 case done=>
  rintro D ys W hD rfl ⟨⟨v,hv,hown,-⟩,hB⟩ hK
  have hv1:=hv.cell
  have hown2:=ownsRow_putObj hown (.deferred none) hK rfl
  obtain ⟨a9,c9,rfl,he9,hb9⟩:=HT hown2
  have hfr9:Fr w W:=hB
  gi_wp2
  refine ⟨by simp,.inl ⟨_,_,rfl,run_takeDeferred hK, ?_⟩⟩
  refine ⟨_,results_tmp rfl _ _ _,a9,c9,rfl,he9, ?_⟩
  ·exact ((Fx.of_fr hfr9).trans (Fx.putObj W D (.deferred none))).toFr (fun k hk e=>by have e:k=D:=e; rw [AF] at hD; omega)
 case stop=>
  rintro D c pre W hD _ h
  exact h.elim
theorem PQ (g:Nat) (lb:Array Value) (L:List Int) (Sp:List Int→Prop) (N:Nat) (w0 w:World) (eg:∀ args w,(callFunc g args).run Tryz.prog w=.ok (.enter g args) w) (hb0:Fr w0 w) (hN:N≤1000000)
 (hseq:SeqStopsK Fence.wide 3 Tryz.prog g lb (fun x:Int=>#[.int .i64 x]) (Below w0.heap.size) (fun xs=>xs=L) Sp N w0) :
 Calls Tryz.prog 63 #[.func (.func g) #[] lb] w fun e w'=>∃ a c,e=.returned (.slice a L.length c)∧El w' iv a L∧Fr w w':=by
 have h1:=hZ (Mr g lb L Sp N w0 w eg hb0 hN hseq)
 clear hseq
 go_enter Tryz.func63,Tryz.ntmps63
 go_wp2_with fail
 refine h1.out.mono ?_
 rintro e w1 ⟨a,c,rfl,he,hf⟩
 replace he:=hZ he
 go_wp2_with fail
 go_ret
 exact ⟨a,c,rfl,he.out,hf⟩
def NB (E lim:Int):Int:=if E≠0 then E else if lim < 1∨1000 < lim then 3 else 0
theorem OU (aP aC aM:Option Addr) (cP cC cM:Nat) (P:List Int) (C M:List (List Int)) (E lim:Int) (w:World) (ht:RR w aP aC aM cP cC cM P C M E) :
 Calls Tryz.prog 62 #[.agg #[.slice aP P.length cP,.slice aC C.length cC,.slice aM M.length cM],.int .i64 lim] w fun e w'=>e=.returned (.int .i64 (NB E lim))∧Fr w w':=by
 have hch:=hZ ht.ck
 obtain ⟨wb,hwb⟩:∃ wb,wb=w.alloc (.cells #[.slice aP P.length cP,.slice aC C.length cC,.slice aM M.length cM] 29):=⟨_,rfl⟩
 have hfb:Fr w wb:=by rw [hwb]; exact (Fr.refl _).alloc _
 have hT:=C3.new w (.slice aP P.length cP) (.slice aC C.length cC) (.slice aM M.length cM) 29
 rw [← hwb] at hT
 have b0:=hT.a
 have b1:=hT.b
 have b2:=hT.c
 obtain ⟨res,hres⟩:∃ res,res=NB E lim:=⟨_,rfl⟩
 rw [← hres]
 unfold NB at hres
 generalize P.length=n at *
 generalize C.length=nC at *
 generalize M.length=nM at *
 clear ht hT
 by_cases e0:E=0
 ·rw [Ag (by rw [e0]; simp)] at hres
  have q0:(E != 0)=false:=by rw [e0]; rfl
  replace e0:=hZ e0
  by_cases h1:lim < 1
  ·have d1:decide (lim < 1)=true:=Ab h1
   rw [Ai (.inl h1)] at hres
   subst hres
   clear h1
   go_enter Tryz.func62,Tryz.ntmps62
   go_upto_region 1 with (fail)
   rw [← hwb]
   clear hwb
   go_wp2_with fail
   refine (hch.out _ hfb).mono ?_
   rintro e w1 ⟨rfl,hf1⟩
   go_wp2_with fail
   go_ret
   exact ⟨rfl,hfb.trans hf1⟩
  ·have d1:decide (lim < 1)=false:=Aa h1
   by_cases h2:1000 < lim
   ·have d2:decide (1000 < lim)=true:=Ab h2
    rw [Ai (.inr h2)] at hres
    subst hres
    clear h1 h2
    go_enter Tryz.func62,Tryz.ntmps62
    go_upto_region 1 with (fail)
    rw [← hwb]
    clear hwb
    go_wp2_with fail
    refine (hch.out _ hfb).mono ?_
    rintro e w1 ⟨rfl,hf1⟩
    go_wp2_with fail
    go_ret
    exact ⟨rfl,hfb.trans hf1⟩
   ·have d2:decide (1000 < lim)=false:=Aa h2
    rw [Ag (by omega)] at hres
    subst hres
    clear h1 h2
    go_enter Tryz.func62,Tryz.ntmps62
    go_upto_region 1 with (fail)
    rw [← hwb]
    clear hwb
    go_wp2_with fail
    refine (hch.out _ hfb).mono ?_
    rintro e w1 ⟨rfl,hf1⟩
    go_wp2_with fail
    go_ret
    exact ⟨rfl,hfb.trans hf1⟩
 ·have q0:(E != 0)=true:=Bs.2 e0
  rw [Ai e0] at hres
  subst hres
  replace e0:=hZ e0
  go_enter Tryz.func62,Tryz.ntmps62
  go_upto_region 1 with (fail)
  rw [← hwb]
  clear hwb
  go_wp2_with fail
  refine (hch.out _ hfb).mono ?_
  rintro e w1 ⟨rfl,hf1⟩
  go_wp2_with fail
  go_ret
  exact ⟨rfl,hfb.trans hf1⟩
theorem Mk (aP aC aM:Option Addr) (nP cP nC cC nM cM:Nat) (lim:Int) (w:World) :
 Calls Tryz.prog 64 #[.agg #[.slice aP nP cP,.slice aC nC cC,.slice aM nM cM],.int .i64 lim] w fun e w'=>e=.returned (.func (.func 99) #[] #[.pointer (some ⟨w.heap.size+1,0,none⟩),.pointer (some ⟨w.heap.size,0,none⟩)])∧w'=(w.alloc (.cells #[.slice aP nP cP,.slice aC nC cC,.slice aM nM cM] 29)).alloc (.cells #[.int .i64 lim] 3):=by
 go_enter Tryz.func64,Tryz.ntmps64
 go_wp2_with fail
 go_ret
 exact ⟨rfl,rfl⟩
structure YW (w:World) (aP aC:Option Addr) (p0:Int) (r:List Int) (C:List (List Int)) (lm:Nat):Prop where
 pr:BQ (p0 :: r)=0
 p:El w iv aP (p0 :: r)
 c:A5 w aC C
 rc:Bx (r.length+1) C
 cl:C.length≤12
 cf:∀ r,r ∈ C→∀ y,y ∈ r→Bq y=true
 lml:lm≤1000
 po:∀ k:Nat,1≤k→k≤lm→FP (p0 :: r) k=true
theorem SJ (aP aC aM:Option Addr) (cP cC nM cM:Nat) (p0:Int) (r:List Int) (C:List (List Int)) (lm:Nat) (w:World) (h:YW w aP aC p0 r C lm) (hG:G w) :
 SeqStopsK Fence.wide 3 Tryz.prog 99 #[.pointer (some ⟨w.heap.size+1,0,none⟩),.pointer (some ⟨w.heap.size,0,none⟩)] (fun x:Int=>#[.int .i64 x]) (Below ((w.alloc (.cells #[.slice aP (r.length+1) cP,.slice aC C.length cC,.slice aM nM cM] 29)).alloc (.cells #[.int .i64 lm] 3)).heap.size) (fun xs=>xs=Kj C (p0 :: r) lm) (fun pre=>pre≠[]∧pre <+: Kj C (p0 :: r) lm) 100000 ((w.alloc (.cells #[.slice aP (r.length+1) cP,.slice aC C.length cC,.slice aM nM cM] 29)).alloc (.cells #[.int .i64 lm] 3)):=by
 have hT:=(C3.new w (.slice aP (r.length+1) cP) (.slice aC C.length cC) (.slice aM nM cM) 29).fr ((Fr.refl _).alloc (.cells #[.int .i64 lm] 3))
 have hf:Fr w ((w.alloc (.cells #[.slice aP (r.length+1) cP,.slice aC C.length cC,.slice aM nM cM] 29)).alloc (.cells #[.int .i64 lm] 3)):=((Fr.refl _).alloc _).alloc _
 have hl:=Dt (w.alloc (.cells #[.slice aP (r.length+1) cP,.slice aC C.length cC,.slice aM nM cM] 29)) (.int .i64 lm) 3
 rw [AF] at hl
 exact UN p0 r C aP aC aM cP cC cM nM w.heap.size (w.heap.size+1) lm _ (hG.fr hf) h.pr (h.p.fr hf) (h.c.fr hf) h.rc h.cl h.cf hT.a hT.b hT.c hl h.lml h.po
def Vl (w:World) (err:Int) (L:List Int) (e:Ending) (w':World):Prop:=Fr w w'∧(err≠0→e=.returned (.tuple #[.slice none 0 0,.int .i64 err]))∧(err=0→∃ a c,e=.returned (.tuple #[.slice a L.length c,.int .i64 0])∧El w' iv a L)
theorem PD (aP aC aM:Option Addr) (cP cC cM:Nat) (p0:Int) (r:List Int) (C M:List (List Int)) (E lim:Int) (w:World) (ht:RR w aP aC aM cP cC cM (p0 :: r) C M E) (hd:NB E lim=0→YW w aP aC p0 r C lim.toNat) (hG:G w) :
 Calls Tryz.prog 28 #[.agg #[.slice aP (r.length+1) cP,.slice aC C.length cC,.slice aM M.length cM],.int .i64 lim] w (Vl w (NB E lim) (Kj C (p0 :: r) lim.toNat)):=by
 obtain ⟨wb,hwb⟩:∃ wb,wb=w.alloc (.cells #[.slice aP (r.length+1) cP,.slice aC C.length cC,.slice aM M.length cM] 29):=⟨_,rfl⟩
 have hfb:Fr w wb:=by rw [hwb]; exact (Fr.refl _).alloc _
 have hT:=C3.new w (.slice aP (r.length+1) cP) (.slice aC C.length cC) (.slice aM M.length cM) 29
 rw [← hwb] at hT
 have hli:=OU aP aC aM cP cC cM (p0 :: r) C M E lim wb (ht.fr hfb)
 rw [Aw] at hli
 have hco:NB E lim=0→Hid (∀ W,Fr w W→Calls Tryz.prog 63 #[.func (.func 99) #[] #[.pointer (some ⟨W.heap.size+1,0,none⟩),.pointer (some ⟨W.heap.size,0,none⟩)]] ((W.alloc (.cells #[.slice aP (r.length+1) cP,.slice aC C.length cC,.slice aM M.length cM] 29)).alloc (.cells #[.int .i64 lim] 3)) fun e w'=>∃ a c,e=.returned (.slice a (Kj C (p0 :: r) lim.toNat).length c)∧El w' iv a (Kj C (p0 :: r) lim.toNat)∧Fr ((W.alloc (.cells #[.slice aP (r.length+1) cP,.slice aC C.length cC,.slice aM M.length cM] 29)).alloc (.cells #[.int .i64 lim] 3)) w'):=fun h0 W hW=>by
  have h:=hd h0
  have hl0:((lim.toNat:Nat):Int)=lim:=by
   unfold NB at h0
   by_cases e:E=0
   ·rw [Ag (by rw [e]; simp)] at h0
    by_cases e2:lim < 1∨1000 < lim
    ·rw [Ai e2] at h0; cases h0
    ·omega
   ·rw [Ai e] at h0; exact absurd h0 e
  have hs:=SJ aP aC aM cP cC M.length cM p0 r C lim.toNat W ⟨h.pr,h.p.fr hW,h.c.fr hW,h.rc,h.cl,h.cf,h.lml,h.po⟩ (hG.fr hW)
  rw [hl0] at hs
  exact PQ _ _ _ _ 100000 _ _ (Ey Tryz.func99 (by kernel_rfl) rfl) (Fr.refl _) (by decide) hs
 obtain ⟨err,herr⟩:∃ err,err=NB E lim:=⟨_,rfl⟩
 rw [← herr] at hli hco ⊢
 replace herr:=hZ herr
 replace hli:=hZ hli
 have b0:=hT.a
 have b1:=hT.b
 have b2:=hT.c
 generalize r.length+1=n at *
 generalize C.length=nC at *
 generalize M.length=nM at *
 generalize Kj C (p0 :: r) lim.toNat=L at *
 unfold Vl
 clear ht hT hd hG
 by_cases e0:err=0
 ·have hco2:=hco e0
  subst e0
  clear hco herr
  go_enter Tryz.func28,Tryz.ntmps28
  go_upto_region 1 with (fail)
  rw [← hwb]
  clear hwb
  go_wp2_with fail
  refine hli.out.mono ?_
  rintro e w1 ⟨rfl,hf1⟩
  replace b0:=hf1.keep b0
  replace b1:=hf1.keep b1
  replace b2:=hf1.keep b2
  have hfw:=hfb.trans hf1
  have hco3:=hZ (hco2.out w1 hfw)
  have hdv:=hZ (Mk aP aC aM n cP nC cC nM cM lim w1)
  clear hco2
  obtain ⟨W2,hW2⟩:∃ W2,W2=(w1.alloc (.cells #[.slice aP n cP,.slice aC nC cC,.slice aM nM cM] 29)).alloc (.cells #[.int .i64 lim] 3):=⟨_,rfl⟩
  have hf2:Fr w1 W2:=by rw [hW2]; exact ((Fr.refl _).alloc _).alloc _
  rw [← hW2] at hdv hco3
  clear hW2
  go_wp2_with fail
  refine hdv.out.mono ?_
  rintro e w2 ⟨rfl,rfl⟩
  go_wp2_with fail
  refine hco3.out.mono ?_
  rintro e w3 ⟨a,c,rfl,he,hf3⟩
  replace he:=hZ he
  go_wp2_with fail
  go_ret2
  exact ⟨(hfw.trans hf2).trans hf3,fun h=>absurd rfl h,fun _=>⟨a,c,rfl,he.out⟩⟩
 ·have q0:(err != 0)=true:=Bs.2 e0
  have e9:=hZ e0
  clear hco e0
  go_enter Tryz.func28,Tryz.ntmps28
  go_upto_region 1 with (fail)
  rw [← hwb]
  clear hwb
  go_wp2_with fail
  refine hli.out.mono ?_
  rintro e w1 ⟨rfl,hf1⟩
  go_wp2_with fail
  go_ret2
  exact ⟨hfb.trans hf1,fun _=>rfl,fun h=>absurd h e9.out⟩

end Go.Proofs.YtiniigadkknboaaGreatDoor
