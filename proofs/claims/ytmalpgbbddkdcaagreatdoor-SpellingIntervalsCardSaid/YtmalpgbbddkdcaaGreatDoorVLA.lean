/- Contracts and laws: VLA. -/
import Derived.Test.YtmalpgbbddkdcaaGreatDoorShelf
import Derived.Test.YtmalpgbbddkdcaaGreatDoorVRA
import Derived.Test.YtmalpgbbddkdcaaGreatDoorVSH
import Derived.Test.YtmalpgbbddkdcaaGreatDoorVSI

set_option maxRecDepth 100000
set_option maxHeartbeats 2000000
namespace Go.Proofs.YtmalpgbbddkdcaaGreatDoor
open Go.RowKit Go.Lib
attribute [local go_sem ↓] Go.wp_at_zero Go.wp_at_succ
theorem pre_minus (z:Int):Lib.hasPrefix (tx z).data.toList [45]=decide (z < 0):=by
 rw [tx_list]
 by_cases h:z < 0
 ·rw [itoa_ng h,decide_eq_true h]; simp [Lib.hasPrefix]
 ·rw [itoa_nn (by omega),decide_eq_false h]
  cases e:decDigits z.toNat with
  | nil=>exact absurd e (dec_ne _)
  | cons c r=>
    have:=(dec_digits z.toNat c (by rw [e]; simp)).1
    have hc:c≠45:=fun e=>by rw [e] at this; simp at this
    show ((45:UInt8) == c && ([]:List UInt8).isPrefixOf r)=false
    rw [beq_eq_false_iff_ne.2 (Ne.symm hc)]; rfl
structure ToC (wb:World) (p:Nat) (sg:Bool) (v:Value) (W:World):Prop where
 c0:W.cell? ⟨p,0,none⟩=some (.bool sg)
 c1:W.cell? ⟨p,1,none⟩=some v
 f0:W.frozen? ⟨p,0,none⟩=false
 f1:W.frozen? ⟨p,1,none⟩=false
 fx:Fx (·=p) wb W
def ToS (m:Nat) (T:List UInt8) (out:List Int):Prop:=(T=[]∧out=chunks m)∨∃ m',T=decDigits m'∧out ++ chunks m'=chunks m
theorem ToS.step {m m':Nat} {out:List Int} (hb:out ++ chunks m'=chunks m):∃ (q r:Nat) (T1 T2:List UInt8) (dv:Int),decDigits m'=T1 ++ T2∧T1.length=q∧T2.length=r∧1≤r∧r≤9∧max (0:Int) ((q:Int)+(r:Int) - 9)=q ∧
 atoiAll T2=.ok dv∧ToS m T1 (out ++ [dv]):=by
 by_cases hbig:1000000000≤m'
 ·have h1:0 < m' / 1000000000:=by omega
  refine ⟨_,9,decDigits (m' / 1000000000),padk 9 (m' % 1000000000),((m' % 1000000000:Nat):Int),dec_nine hbig,rfl,padk_len _ _,by omega,by omega,by omega, ?_,.inr ⟨_,rfl, ?_⟩⟩
  ·have:=padk_len 9 (m' % 1000000000)
   rw [atoi_dig _ (by intro e; rw [e] at this; simp at this) (padk_dig _ _) (by rw [padk_val _ _ (by show _ < 1000000000; omega)]; omega),padk_val _ _ (by show _ < 1000000000; omega)]
  ·rw [← hb,chunks_big hbig,List.append_assoc]; rfl
 ·have h9:=dec_len 9 m' (by omega) (by show _ < 1000000000; omega)
  have h1:=List.length_pos_iff.2 (dec_ne m')
  refine ⟨0,_,[],decDigits m',(m':Int),rfl,rfl,rfl,by omega,h9,by omega, ?_,.inl ⟨rfl, ?_⟩⟩
  ·rw [atoi_dig _ (dec_ne _) (dec_digits _) (by rw [digVal_dec]; omega),digVal_dec]
  ·rw [← hb,chunks_small (by omega)]
theorem Fx.grown {p:Nat→Prop} {a b c:World} {row:Option Nat} (h:Fx p a b) (hg:b.grownBy c row) (hr:∀ k,row=some k→a.heap.size≤k):Fx p a c:=by
 have h2:=Fx.of_grown hg
 exact ⟨h2.os.trans h.os,h2.tape.trans h.tape,h2.output.trans h.output,Nat.le_trans h.size h2.size,fun k hk hp=>(h2.block k (Nat.lt_of_lt_of_le hk h.size) (fun e=>by have:=hr k e; omega)).trans (h.block k hk hp)⟩
theorem ToC.store {wb:World} {p:Nat} {sg:Bool} {v:Value} {W:World} (h0:W.cell? ⟨p,0,none⟩=some (.bool sg)) (h1:W.cell? ⟨p,1,none⟩=some v) (f0:W.frozen? ⟨p,0,none⟩=false) (f1:W.frozen? ⟨p,1,none⟩=false) (fx:Fx (·=p) wb W) (u:Value) :
 ToC wb p sg u (W.setCell ⟨p,1,none⟩ u):=by
 have e1:(⟨p,1,none⟩:Addr)≠⟨p,0,none⟩:=fun e=>by injection e with _ e; omega
 exact ⟨by rw [World.cell?_setCell_other _ _ _ _ e1]; exact h0,World.cell?_setCell_same' _ _ _ (by rw [h1]; rfl),by rw [World.frozen?_setCell]; exact f0,by rw [World.frozen?_setCell]; exact f1,Fx.setCell (p:=(·=p)) (q:=⟨p,1,none⟩) fx (.inl rfl) u⟩
theorem To_any (z:Int) (w:World) (hl:(tx z).size≤1000000) :
 Calls Tryz.prog 186 #[.string (tx z)] w fun e w'=>∃ r,e=.returned r∧WI w' z r∧Fr w w':=by
 obtain ⟨i0,hi,hz0,hz1,hz2⟩:=info_parts infoInt
 have hNL:=hZ (show (decDigits z.natAbs).length≤1000000 by
  by_cases h:z < 0
  ·rw [tx_size,itoa_ng h,List.length_cons] at hl; omega
  ·rw [tx_size,itoa_nn (by omega),show z.toNat=z.natAbs by omega] at hl; exact hl)
 by_cases hz:z < 0
 ·have h1:Lib.hasPrefix (tx z).data.toList [45]=true:=by rw [pre_minus]; exact decide_eq_true hz
  have hpre:∀ W,Calls Tryz.prog 244 #[.string (tx z),.string ⟨#[45]⟩] W fun e w'=>e=.returned (.bool true)∧W=w':=fun W=>by
   have h:=Tryz.strings_HasPrefix (tx z) ⟨#[45]⟩ W
   rw [show (⟨#[45]⟩:ByteArray).data.toList=[45] from rfl,h1] at h
   exact h.mono fun _ _ ⟨a,b⟩=>⟨a,b.symm⟩
  clear h1
  have e9:(tx z).extract 1 (tx z).size=tb (decDigits z.natAbs):=by rw [tx_tail hz,tx_tb,itoa_nn (by omega),show (-z).toNat=z.natAbs by omega]
  have hps:=tx_pos z
  obtain ⟨S0,hS0⟩:∃ S0,S0=tx z:=⟨_,rfl⟩
  obtain ⟨sz,hsz0⟩:∃ sz,sz=(tx z).size:=⟨_,rfl⟩
  rw [← hsz0,← hS0] at e9
  rw [← hsz0] at hps hl
  have e8:S0.size=sz:=by rw [hS0,hsz0]
  rw [← hS0] at hpre ⊢
  replace hpre:=hZ hpre
  replace hS0:=hZ hS0
  replace hz:=hZ hz
  replace hsz0:=hZ hsz0
  go_enter Tryz.func186,Tryz.ntmps186
  go_wp2_with fail
  refine (hpre.out _).mono ?_
  rintro e w1 ⟨rfl,rfl⟩
  go_wp2_with fail
  obtain ⟨wb,hwb⟩:∃ wb,wb=alls w [(.cells #[.bool false,.slice none 0 0] 194),(.cells #[.bool true,.slice none 0 0] 194)]:=⟨_,rfl⟩
  have g0:wb.heap[w.heap.size]?=some (.cells #[.bool false,.slice none 0 0] 194 (0,0)):=by rw [hwb]; exact alls_get _ w 0 _ rfl
  have g1:wb.heap[w.heap.size+1]?=some (.cells #[.bool true,.slice none 0 0] 194 (0,0)):=by rw [hwb]; exact alls_get _ w 1 _ rfl
  have hfb:Fr w wb:=by rw [hwb]; exact alls_fr _ w
  have hsb:=hZ (show wb.heap.size=w.heap.size+1+1 by rw [hwb]; simp [alls])
  change Code.wp _ _ _ _ (alls w [(.cells #[.bool false,.slice none 0 0] 194),(.cells #[.bool true,.slice none 0 0] 194)])
  rw [← hwb]
  clear hwb
  have x0:wb.cell? ⟨w.heap.size,0,none⟩=some (.bool false):=cells_of g0 0
  have x1:wb.cell? ⟨w.heap.size,1,none⟩=some (.slice none 0 0):=cells_of g0 1
  have x2:wb.frozen? ⟨w.heap.size,0,none⟩=false:=by unfold World.frozen?; rw [g0]; rfl
  have x3:wb.frozen? ⟨w.heap.size,1,none⟩=false:=by unfold World.frozen?; rw [g0]; rfl
  have y0:wb.cell? ⟨w.heap.size+1,0,none⟩=some (.bool true):=cells_of g1 0
  have y1:wb.cell? ⟨w.heap.size+1,1,none⟩=some (.slice none 0 0):=cells_of g1 1
  have y2:wb.frozen? ⟨w.heap.size+1,0,none⟩=false:=by unfold World.frozen?; rw [g1]; rfl
  have y3:wb.frozen? ⟨w.heap.size+1,1,none⟩=false:=by unfold World.frozen?; rw [g1]; rfl
  replace x0:=hZ x0
  replace x1:=hZ x1
  replace x2:=hZ x2
  replace x3:=hZ x3
  have hZ0:=hZ (ToC.mk y0 y1 y2 y3 (Fx.refl _ _))
  have hT0:ToS z.natAbs (decDigits z.natAbs) []:=.inr ⟨_,rfl,rfl⟩
  replace hT0:=hZ hT0
  clear g0 g1 y0 y1 y2 y3
  go_loopg [3] (decDigits z.natAbs).length (fun gk s3 wr=>∃ (T:List UInt8) (v:Value) (out:List Int),s3=.string (tb T)∧Hid (T.length=gk)∧out.length+gk≤1000000∧Hid (ToC wb (w.heap.size+1) true v wr)∧Hid (wr.ownsRow wb.heap.size 3 1 v out.length (out.map iv))∧Hid (ToS z.natAbs T out))
  case atStart=>exact ⟨_,_,[],rfl,rfl,by have:=hNL.out; simp; omega,hZ0,World.ownsRow_nil _ _ _ _,hT0⟩
  case round=>
   clear hZ0 hT0
   obtain ⟨T,v,out,rfl,hTl,hol,hZ9,hown,hT⟩:=hrel
   obtain ⟨c0,c1,f0,f1,hfx⟩:=hZ9.out
   have hfw:Fr w wr:=((Fx.of_fr hfb).trans hfx).toFr (fun k hk e=>by have e:k=w.heap.size+1:=e; omega)
   have hsz:=hfx.size
   rw [hsb.out] at hsz
   rcases hT.out with ⟨rfl,hfin⟩ | ⟨m',rfl,hb⟩
   ·obtain rfl:gk=0:=by have:=hTl.out; simp at this; omega
    obtain ⟨a9,c9,rfl,he9,hc9,hb9⟩:=own_read hown.out
    have htrim:=trim_dg true a9 c9 out z.natAbs z wr he9 (by omega) hc9 (by rw [hfin]; exact chunks_trim _) rfl (by rw [decide_eq_true hz.out,decide_eq_true (show 0 < z.natAbs by have:=hz.out; omega)]; rfl)
    have ne1:¬ w.heap.size=w.heap.size+1:=by omega
    have q4:=hfx.keep x0.out ne1
    have q5:=hfx.keep x1.out ne1
    have q6:=hfx.keepf x0.out x2.out ne1
    have q7:=hfx.keepf x1.out x3.out ne1
    replace hb9:=hZ hb9
    replace htrim:=hZ htrim
    have eS:(tb []).size=0:=rfl
    clear hfin
    go_wp2_with fail
    refine htrim.out.mono ?_
    rintro e w3 ⟨rfl,he3,hc3,hf3⟩
    replace q6:=hf3.keepf q4 q6
    replace q7:=hf3.keepf q5 q7
    replace q4:=hf3.keep q4
    replace q5:=hf3.keep q5
    have qs:=two_store w3 w.heap.size (.bool (decide (z < 0))) (.slice a9 (digs z.natAbs).length c9) _ _ q4 q5
    have q8:=qs.2.2.1
    have qs:=hZ qs
    have hfin:=hZ (WI.stored hfw hf3 qs.out.2.2.2 (Nat.le_refl _) he3 hc3 (fun ad e=>by have h9:=hb9.out ad e; rw [hsb.out] at h9; omega))
    have u0:=qs.out.1
    have u1:=qs.out.2.1
    replace u0:=hZ u0
    replace u1:=hZ u1
    clear qs c0 c1 f0 f1
    go_wp2_with fail
    have v0:=u0.out
    have v1:=u1.out
    refine bodyPost_ret (v:=.agg #[.bool (decide (z < 0)),.slice a9 (digs z.natAbs).length c9]) (by simp [results,Tryz.results186,go_sem,v0,v1]) rfl ⟨_,rfl,hfin.out⟩
   ·obtain ⟨q,r,T1,T2,dv,hsp,hq,hr,hr1,hr9,e5,hat0,hT'⟩:=ToS.step hb
    have hL:(decDigits m').length=q+r:=by rw [hsp,List.length_append,hq,hr]
    have e4:=hTl.out
    rw [hL] at e4
    subst e4
    obtain ⟨S,hS⟩:∃ S,S=tb (decDigits m'):=⟨_,rfl⟩
    have e1:S.size=q+r:=by rw [hS,tb_size,hL]
    have e2:S.extract q (q+r)=tb T2:=by rw [hS,tb_extract,← hL,List.take_length,hsp,← hq,List.drop_left]
    have e3:S.extract 0 q=tb T1:=by rw [hS,tb_extract,hsp,← hq,List.take_left,List.drop_zero]
    rw [← hS]
    have hat:=fun W=>Tryz.strconv_Atoi_ok (tb T2) (by rw [tb_size,hr]; omega) dv (by rw [tb_list]; exact hat0) W
    have hown2:=hown.out
    have hpb:∀ k,v.ownBlock=some k→w.heap.size+1+1≤k:=fun k hk=>by have:=ownsRow_own_ge hown2 k hk; rw [hsb.out] at this; exact this
    replace hpb:=hZ hpb
    replace hown2:=hZ hown2
    replace hat:=hZ hat
    replace hq:=hZ hq
    replace hsp:=hZ hsp
    replace hL:=hZ hL
    replace hS:=hZ hS
    replace hr:=hZ hr
    replace hT':=hZ hT'
    clear hb hat0
    have z0:(0:Int)≤(q:Int):=by omega
    have z1:(q:Int)≤(q:Int)+(r:Int):=by omega
    have z2:decide ((0:Int) < (q:Int)+(r:Int))=true:=decide_eq_true (by omega)
    go_wp2_with fail
    refine (hat.out _).mono ?_
    rintro e w2 ⟨rfl,hby⟩
    have hf2:=fr_bytes hby
    clear hby
    replace c0:=hf2.keep c0
    replace f0:=hf2.keepf (hZ9.out.c0) f0
    replace f1:=hf2.keepf c1 f1
    replace c1:=hf2.keep c1
    have hsz2:=hf2.size
    go_wp2_with (at_builtin; refine wpList_append_lies _ rfl _ _ 22 (by rfl) _ 3 _ _ 1 8 Tryz.underlying22 hi hz0 hz1 hz2 rfl (by decide) _ out.length _ (by rfl) (World.ownsRow.alloc (ownsRow_fr hown2.out hf2) _) ⟨w2.heap.size,0,none⟩ 1 1 [iv dv] (by rfl) rfl (cell_one_newN _ _ _ _ (by simp)) (by simp [Value.oneCell']) (by decide) (by unfold maxLen; omega) (by omega) (by have:=hsz2; have:=hsb.out; simp; omega) (w2.heap.size+1) (by simp) ?_; intro gA capA wA hownA hgrowA hatA hltA; have k0:=(Fx.of_grown hgrowA).keep (((Fr.refl w2).alloc _).keep c0) (fun e=>by have h9:w.heap.size+1+1≤w.heap.size+1:=hpb.out _ e; omega); have k1:=(Fx.of_grown hgrowA).keep (((Fr.refl w2).alloc _).keep c1) (fun e=>by have h9:w.heap.size+1+1≤w.heap.size+1:=hpb.out _ e; omega); have k2:=(Fx.of_grown hgrowA).keepf (((Fr.refl w2).alloc _).keep c0) (((Fr.refl w2).alloc _).keepf c0 f0) (fun e=>by have h9:w.heap.size+1+1≤w.heap.size+1:=hpb.out _ e; omega); have k3:=(Fx.of_grown hgrowA).keepf (((Fr.refl w2).alloc _).keep c1) (((Fr.refl w2).alloc _).keepf c1 f1) (fun e=>by have h9:w.heap.size+1+1≤w.heap.size+1:=hpb.out _ e; omega))
    have hfA:Fx (·=w.heap.size+1) wb wA:=((hfx.fr hf2).alloc _).grown hgrowA (fun k e=>by have h9:=hpb.out _ e; rw [hsb.out]; exact h9)
    have hst:=hZ (ToC.store k0 k1 k2 k3 hfA (.slice (some ⟨gA,0,none⟩) (out.length+1) capA))
    have hga:w.heap.size+1+1≤gA:=by have:=ownsRow_own_ge hownA gA rfl; rw [hsb.out] at this; exact this
    go_roundg q
    case measure=>omega
    case rel=>exact ⟨T1,_,out ++ [dv],rfl,hq,by simp; omega,hst,by show _; rw [List.length_append,List.map_append]; exact ownsRow_fx hownA (Fx.setCell (p:=(·=w.heap.size+1)) (q:=⟨w.heap.size+1,1,none⟩) (Fx.refl _ _) (.inl rfl) _) (fun g hg (e:g=w.heap.size+1)=>by simp [Value.ownBlock] at hg; omega),hT'⟩
 ·have h1:Lib.hasPrefix (tx z).data.toList [45]=false:=by rw [pre_minus]; exact decide_eq_false hz
  have hpre:∀ W,Calls Tryz.prog 244 #[.string (tx z),.string ⟨#[45]⟩] W fun e w'=>e=.returned (.bool false)∧W=w':=fun W=>by
   have h:=Tryz.strings_HasPrefix (tx z) ⟨#[45]⟩ W
   rw [show (⟨#[45]⟩:ByteArray).data.toList=[45] from rfl,h1] at h
   exact h.mono fun _ _ ⟨a,b⟩=>⟨a,b.symm⟩
  clear h1
  replace hpre:=hZ hpre
  go_enter Tryz.func186,Tryz.ntmps186
  go_wp2_with fail
  refine (hpre.out _).mono ?_
  rintro e w1 ⟨rfl,rfl⟩
  rw [tx_tb,itoa_nn (by omega),show z.toNat=z.natAbs by omega]
  go_wp2_with fail
  obtain ⟨wb,hwb⟩:∃ wb,wb=alls w [(.cells #[.bool false,.slice none 0 0] 194),(.cells #[.bool false,.slice none 0 0] 194)]:=⟨_,rfl⟩
  have g0:wb.heap[w.heap.size]?=some (.cells #[.bool false,.slice none 0 0] 194 (0,0)):=by rw [hwb]; exact alls_get _ w 0 _ rfl
  have g1:wb.heap[w.heap.size+1]?=some (.cells #[.bool false,.slice none 0 0] 194 (0,0)):=by rw [hwb]; exact alls_get _ w 1 _ rfl
  have hfb:Fr w wb:=by rw [hwb]; exact alls_fr _ w
  have hsb:=hZ (show wb.heap.size=w.heap.size+1+1 by rw [hwb]; simp [alls])
  change Code.wp _ _ _ _ (alls w [(.cells #[.bool false,.slice none 0 0] 194),(.cells #[.bool false,.slice none 0 0] 194)])
  rw [← hwb]
  clear hwb
  have x0:wb.cell? ⟨w.heap.size,0,none⟩=some (.bool false):=cells_of g0 0
  have x1:wb.cell? ⟨w.heap.size,1,none⟩=some (.slice none 0 0):=cells_of g0 1
  have x2:wb.frozen? ⟨w.heap.size,0,none⟩=false:=by unfold World.frozen?; rw [g0]; rfl
  have x3:wb.frozen? ⟨w.heap.size,1,none⟩=false:=by unfold World.frozen?; rw [g0]; rfl
  have y0:wb.cell? ⟨w.heap.size+1,0,none⟩=some (.bool false):=cells_of g1 0
  have y1:wb.cell? ⟨w.heap.size+1,1,none⟩=some (.slice none 0 0):=cells_of g1 1
  have y2:wb.frozen? ⟨w.heap.size+1,0,none⟩=false:=by unfold World.frozen?; rw [g1]; rfl
  have y3:wb.frozen? ⟨w.heap.size+1,1,none⟩=false:=by unfold World.frozen?; rw [g1]; rfl
  replace x0:=hZ x0
  replace x1:=hZ x1
  replace x2:=hZ x2
  replace x3:=hZ x3
  have hZ0:=hZ (ToC.mk y0 y1 y2 y3 (Fx.refl _ _))
  have hT0:ToS z.natAbs (decDigits z.natAbs) []:=.inr ⟨_,rfl,rfl⟩
  replace hT0:=hZ hT0
  clear g0 g1 y0 y1 y2 y3
  go_loopg [3] (decDigits z.natAbs).length (fun gk s3 wr=>∃ (T:List UInt8) (v:Value) (out:List Int),s3=.string (tb T)∧Hid (T.length=gk)∧out.length+gk≤1000000∧Hid (ToC wb (w.heap.size+1) false v wr)∧Hid (wr.ownsRow wb.heap.size 3 1 v out.length (out.map iv))∧Hid (ToS z.natAbs T out))
  case atStart=>exact ⟨_,_,[],rfl,rfl,by have:=hNL.out; simp; omega,hZ0,World.ownsRow_nil _ _ _ _,hT0⟩
  case round=>
   clear hZ0 hT0
   obtain ⟨T,v,out,rfl,hTl,hol,hZ9,hown,hT⟩:=hrel
   obtain ⟨c0,c1,f0,f1,hfx⟩:=hZ9.out
   have hfw:Fr w wr:=((Fx.of_fr hfb).trans hfx).toFr (fun k hk e=>by have e:k=w.heap.size+1:=e; omega)
   have hsz:=hfx.size
   rw [hsb.out] at hsz
   rcases hT.out with ⟨rfl,hfin⟩ | ⟨m',rfl,hb⟩
   ·obtain rfl:gk=0:=by have:=hTl.out; simp at this; omega
    obtain ⟨a9,c9,rfl,he9,hc9,hb9⟩:=own_read hown.out
    have htrim:=trim_dg false a9 c9 out z.natAbs z wr he9 (by omega) hc9 (by rw [hfin]; exact chunks_trim _) rfl (by rw [decide_eq_false (show ¬ z < 0 by omega)]; rfl)
    have ne1:¬ w.heap.size=w.heap.size+1:=by omega
    have q4:=hfx.keep x0.out ne1
    have q5:=hfx.keep x1.out ne1
    have q6:=hfx.keepf x0.out x2.out ne1
    have q7:=hfx.keepf x1.out x3.out ne1
    replace hb9:=hZ hb9
    replace htrim:=hZ htrim
    have eS:(tb []).size=0:=rfl
    clear hfin
    go_wp2_with fail
    refine htrim.out.mono ?_
    rintro e w3 ⟨rfl,he3,hc3,hf3⟩
    replace q6:=hf3.keepf q4 q6
    replace q7:=hf3.keepf q5 q7
    replace q4:=hf3.keep q4
    replace q5:=hf3.keep q5
    have qs:=two_store w3 w.heap.size (.bool (decide (z < 0))) (.slice a9 (digs z.natAbs).length c9) _ _ q4 q5
    have q8:=qs.2.2.1
    have qs:=hZ qs
    have hfin:=hZ (WI.stored hfw hf3 qs.out.2.2.2 (Nat.le_refl _) he3 hc3 (fun ad e=>by have h9:=hb9.out ad e; rw [hsb.out] at h9; omega))
    have u0:=qs.out.1
    have u1:=qs.out.2.1
    replace u0:=hZ u0
    replace u1:=hZ u1
    clear qs c0 c1 f0 f1
    go_wp2_with fail
    have v0:=u0.out
    have v1:=u1.out
    refine bodyPost_ret (v:=.agg #[.bool (decide (z < 0)),.slice a9 (digs z.natAbs).length c9]) (by simp [results,Tryz.results186,go_sem,v0,v1]) rfl ⟨_,rfl,hfin.out⟩
   ·obtain ⟨q,r,T1,T2,dv,hsp,hq,hr,hr1,hr9,e5,hat0,hT'⟩:=ToS.step hb
    have hL:(decDigits m').length=q+r:=by rw [hsp,List.length_append,hq,hr]
    have e4:=hTl.out
    rw [hL] at e4
    subst e4
    obtain ⟨S,hS⟩:∃ S,S=tb (decDigits m'):=⟨_,rfl⟩
    have e1:S.size=q+r:=by rw [hS,tb_size,hL]
    have e2:S.extract q (q+r)=tb T2:=by rw [hS,tb_extract,← hL,List.take_length,hsp,← hq,List.drop_left]
    have e3:S.extract 0 q=tb T1:=by rw [hS,tb_extract,hsp,← hq,List.take_left,List.drop_zero]
    rw [← hS]
    have hat:=fun W=>Tryz.strconv_Atoi_ok (tb T2) (by rw [tb_size,hr]; omega) dv (by rw [tb_list]; exact hat0) W
    have hown2:=hown.out
    have hpb:∀ k,v.ownBlock=some k→w.heap.size+1+1≤k:=fun k hk=>by have:=ownsRow_own_ge hown2 k hk; rw [hsb.out] at this; exact this
    replace hpb:=hZ hpb
    replace hown2:=hZ hown2
    replace hat:=hZ hat
    replace hq:=hZ hq
    replace hsp:=hZ hsp
    replace hL:=hZ hL
    replace hS:=hZ hS
    replace hr:=hZ hr
    replace hT':=hZ hT'
    clear hb hat0
    have z0:(0:Int)≤(q:Int):=by omega
    have z1:(q:Int)≤(q:Int)+(r:Int):=by omega
    have z2:decide ((0:Int) < (q:Int)+(r:Int))=true:=decide_eq_true (by omega)
    go_wp2_with fail
    refine (hat.out _).mono ?_
    rintro e w2 ⟨rfl,hby⟩
    have hf2:=fr_bytes hby
    clear hby
    replace c0:=hf2.keep c0
    replace f0:=hf2.keepf (hZ9.out.c0) f0
    replace f1:=hf2.keepf c1 f1
    replace c1:=hf2.keep c1
    have hsz2:=hf2.size
    go_wp2_with (at_builtin; refine wpList_append_lies _ rfl _ _ 22 (by rfl) _ 3 _ _ 1 8 Tryz.underlying22 hi hz0 hz1 hz2 rfl (by decide) _ out.length _ (by rfl) (World.ownsRow.alloc (ownsRow_fr hown2.out hf2) _) ⟨w2.heap.size,0,none⟩ 1 1 [iv dv] (by rfl) rfl (cell_one_newN _ _ _ _ (by simp)) (by simp [Value.oneCell']) (by decide) (by unfold maxLen; omega) (by omega) (by have:=hsz2; have:=hsb.out; simp; omega) (w2.heap.size+1) (by simp) ?_; intro gA capA wA hownA hgrowA hatA hltA; have k0:=(Fx.of_grown hgrowA).keep (((Fr.refl w2).alloc _).keep c0) (fun e=>by have h9:w.heap.size+1+1≤w.heap.size+1:=hpb.out _ e; omega); have k1:=(Fx.of_grown hgrowA).keep (((Fr.refl w2).alloc _).keep c1) (fun e=>by have h9:w.heap.size+1+1≤w.heap.size+1:=hpb.out _ e; omega); have k2:=(Fx.of_grown hgrowA).keepf (((Fr.refl w2).alloc _).keep c0) (((Fr.refl w2).alloc _).keepf c0 f0) (fun e=>by have h9:w.heap.size+1+1≤w.heap.size+1:=hpb.out _ e; omega); have k3:=(Fx.of_grown hgrowA).keepf (((Fr.refl w2).alloc _).keep c1) (((Fr.refl w2).alloc _).keepf c1 f1) (fun e=>by have h9:w.heap.size+1+1≤w.heap.size+1:=hpb.out _ e; omega))
    have hfA:Fx (·=w.heap.size+1) wb wA:=((hfx.fr hf2).alloc _).grown hgrowA (fun k e=>by have h9:=hpb.out _ e; rw [hsb.out]; exact h9)
    have hst:=hZ (ToC.store k0 k1 k2 k3 hfA (.slice (some ⟨gA,0,none⟩) (out.length+1) capA))
    have hga:w.heap.size+1+1≤gA:=by have:=ownsRow_own_ge hownA gA rfl; rw [hsb.out] at this; exact this
    go_roundg q
    case measure=>omega
    case rel=>exact ⟨T1,_,out ++ [dv],rfl,hq,by simp; omega,hst,by show _; rw [List.length_append,List.map_append]; exact ownsRow_fx hownA (Fx.setCell (p:=(·=w.heap.size+1)) (q:=⟨w.heap.size+1,1,none⟩) (Fx.refl _ _) (.inl rfl) _) (fun g hg (e:g=w.heap.size+1)=>by simp [Value.ownBlock] at hg; omega),hT'⟩
theorem IntR_any (n:Int) (h0:-9223372036854775808≤n) (h1:n≤9223372036854775807) (w:World) (hG:G w) :
 Calls Tryz.prog 81 #[.int .i64 n] w fun e w'=>e=.returned (.string (tx n))∧Fr w w':=by
 go_enter Tryz.func81,Tryz.ntmps81
 go_wp2_with (go_at_call 139; refine (itoa_any _ h0 h1 _ hG).mono ?_; rintro e w' ⟨rfl,hf⟩)
 go_ret
 exact ⟨rfl,hf⟩
theorem OfRL_any (n:Int) (h0:-9223372036854775808≤n) (h1:n≤9223372036854775807) (w:World) (hG:G w) :
 Calls Tryz.prog 132 #[.int .i64 n] w fun e w'=>∃ r,e=.returned r∧WI w' n r∧Fr w w':=by
 have hsz:(tx n).size≤1000000:=by have:=tx_size_le 19 n (by omega) (by omega); omega
 have hto:=hZ (fun W=>To_any n W hsz)
 obtain ⟨wb,hwb⟩:∃ wb,wb=alls w [(.cells #[.bool false,.slice none 0 0] 194)]:=⟨_,rfl⟩
 have g0:wb.heap[w.heap.size]?=some (.cells #[.bool false,.slice none 0 0] 194 (0,0)):=by rw [hwb]; exact alls_get _ w 0 _ rfl
 have hfb:Fr w wb:=by rw [hwb]; exact alls_fr _ w
 have hsb:=hZ (show wb.heap.size=w.heap.size+1 by rw [hwb]; simp [alls])
 have b0:wb.cell? ⟨w.heap.size,0,none⟩=some (.bool false):=cells_of g0 0
 have b1:wb.cell? ⟨w.heap.size,1,none⟩=some (.slice none 0 0):=cells_of g0 1
 have b2:wb.frozen? ⟨w.heap.size,0,none⟩=false:=by unfold World.frozen?; rw [g0]; rfl
 have b3:wb.frozen? ⟨w.heap.size,1,none⟩=false:=by unfold World.frozen?; rw [g0]; rfl
 replace g0:=hZ g0
 have hi:=IntR_any n h0 h1 wb (hG.fr hfb)
 replace hi:=hZ hi
 go_enter Tryz.func132,Tryz.ntmps132
 go_upto_region 1 with (fail)
 change Code.wp _ _ _ _ (alls w [(.cells #[.bool false,.slice none 0 0] 194)])
 rw [← hwb]
 clear hwb
 go_wp2_with fail
 refine hi.out.mono ?_
 rintro e w1 ⟨rfl,hf1⟩
 go_wp2_with fail
 refine (hto.out _).mono ?_
 rintro e w2 ⟨r,rfl,hr,hf2⟩
 have hz2:Fr wb w2:=hf1.trans hf2
 have hr2:=hr
 obtain ⟨a,c,rfl,-,-⟩:=hr2
 have q4:=hz2.keep b0
 have q5:=hz2.keep b1
 have q6:=hz2.keepf b0 b2
 have q7:=hz2.keepf b1 b3
 have qs:=two_store w2 w.heap.size (.bool (decide (n < 0))) (.slice a (digs n.natAbs).length c) _ _ q4 q5
 have q8:=qs.2.2.1
 have g3:=(Below.block hz2 _ (lt_of_heap g0.out)).trans g0.out
 have hfin:=hZ (WI.storedc hfb hz2 qs.2.2.2 (Nat.le_refl _) hr g3)
 have u0:=qs.1
 have u1:=qs.2.1
 replace u0:=hZ u0
 replace u1:=hZ u1
 clear qs b0 b1 b2 b3 g3
 replace hr:=hZ hr
 go_wp2_with fail
 have v0:=u0.out
 have v1:=u1.out
 refine bodyPost_ret (v:=.agg #[.bool (decide (n < 0)),.slice a (digs n.natAbs).length c]) (by simp [results,Tryz.results132,go_sem,v0,v1]) rfl ⟨_,rfl,hfin.out⟩
theorem rep_any (c:Nat) (h:c≤9) (w:World) :
 Calls Tryz.prog 191 #[.string ⟨#[48]⟩,.int .i64 c] w fun e w'=>e=.returned (.string (tb (List.replicate c 48)))∧Fr w w':=by
 refine (Tryz.strings_Repeat ⟨#[48]⟩ c w (by omega) (by show 1 * c≤_; omega)).mono ?_
 rintro e w' ⟨rfl,hf⟩
 refine ⟨?_,hf⟩
 have:Lib.repeatL (⟨#[48]⟩:ByteArray).data.toList c=List.replicate c 48:=by
  show Lib.repeatL [48] c=_
  clear h hf
  induction c with
  | zero=>rfl
  | succ c ih=>show [48] ++ Lib.repeatL [48] c=_; rw [ih]; rfl
 rw [this]; rfl
theorem digs_at {n i r:Nat} {d:Int} (h:(digs n).drop i=digs r) (hd:(digs n)[i]?=some d):0 < r∧d=((r % 1000000000:Nat):Int)∧(digs n).drop (i+1)=digs (r / 1000000000):=by
 have h1:=drop_cons hd
 rw [h] at h1
 by_cases h0:r=0
 ·subst h0; rw [digs_zero] at h1; cases h1
 ·rw [digs_pos (by omega)] at h1
  injection h1 with h2 h3
  exact ⟨by omega,h2.symm,h3.symm⟩
theorem digs_end {n i r:Nat} (h:(digs n).drop i=digs r):i < (digs n).length ↔ 0 < r:=by
 have h1:((digs n).drop i).length=(digs r).length:=by rw [h]
 rw [List.length_drop] at h1
 by_cases h0:r=0
 ·subst h0; rw [digs_zero] at h1; simp at h1; omega
 ·rw [digs_pos (n:=r) (by omega)] at h1; simp at h1; omega
theorem From_any (z:Int) (v:Value) (w:World) (hG:G w) (hv:WI w z v) (hl:(digs z.natAbs).length≤100000) :
 Calls Tryz.prog 135 #[v] w fun e w'=>e=.returned (.string (tx z))∧Fr w w':=by
 obtain ⟨a,ca,rfl,he,hc⟩:=hv
 by_cases hz:z=0
 ·subst hz
  rw [show (digs (Int.natAbs 0)).length=0 by rw [show Int.natAbs 0=0 from rfl,digs_zero]; rfl]
  clear he hc hl
  go_enter Tryz.func135,Tryz.ntmps135
  go_wp2_with fail
  go_ret
  exact ⟨by rw [tx_zero]; rfl,(Fr.refl _).alloc _⟩
 ·obtain ⟨n,hn⟩:∃ n,n=(digs z.natAbs).length:=⟨_,rfl⟩
  have hn0:0 < n:=by rw [hn,digs_pos (by omega)]; simp
  obtain ⟨sg,hsg⟩:∃ sg,sg=decide (z < 0):=⟨_,rfl⟩
  rw [← hn] at hl hc
  rw [← hn,← hsg]
  obtain ⟨wb,hwb⟩:∃ wb,wb=alls w [(.cells #[.bool sg,.slice a n ca] 194)]:=⟨_,rfl⟩
  have g0:wb.heap[w.heap.size]?=some (.cells #[.bool sg,.slice a n ca] 194 (0,0)):=by rw [hwb]; exact alls_get _ w 0 _ rfl
  have hfb:Fr w wb:=by rw [hwb]; exact alls_fr _ w
  have b0:wb.cell? ⟨w.heap.size,0,none⟩=some (.bool sg):=cells_of g0 0
  have b1:wb.cell? ⟨w.heap.size,1,none⟩=some (.slice a n ca):=cells_of g0 1
  have hI0:FromI z.natAbs z.natAbs []:=.inr ⟨by omega,by simp⟩
  replace hI0:=hZ hI0
  replace hn:=hZ hn
  replace hsg:=hZ hsg
  replace he:=hZ he
  replace hz:=hZ hz
  have d0:((n:Int) == 0)=false:=by rw [beq_eq_false_iff_ne]; omega
  clear g0
  go_enter Tryz.func135,Tryz.ntmps135
  go_upto_region 1 with (fail)
  change Code.wp _ _ _ _ (alls w [(.cells #[.bool sg,.slice a n ca] 194)])
  rw [← hwb]
  clear hwb
  go_wp2_with fail
  go_loopg [3,4] n (fun gk s3 s4 wr=>∃ (i r:Nat) (s:List UInt8),s3=.string (tb s)∧s4=.int .i64 i∧i+gk=n∧Fr wb wr∧s.length≤9 * i∧Hid (FromI z.natAbs r s)∧Hid ((digs z.natAbs).drop i=digs r))
  case atStart=>exact ⟨0,z.natAbs,[],rfl,rfl,by omega,Fr.refl _,by simp,hI0,rfl⟩
  case round=>
   clear hI0
   obtain ⟨i,r,s,rfl,rfl,hig,hf,hsl,hI,hdr⟩:=hrel
   replace b0:=hf.keep b0
   replace b1:=hf.keep b1
   by_cases hi:i < n
   ·have d1:decide (i < n)=true:=decide_eq_true hi
    obtain ⟨xb,xo,d,rfl,-,hxi,hxc⟩:=(he.out.fr (hfb.trans hf)).at (i:=i) (by rw [← hn.out]; exact hi)
    obtain ⟨r0,rfl,hdr2⟩:=digs_at hdr.out hxi
    have hit:=itoa_any ((r % 1000000000:Nat):Int) (by omega) (by omega) wr (hG.fr (hfb.trans hf))
    obtain ⟨D,hD⟩:∃ D,D=tx ((r % 1000000000:Nat):Int):=⟨_,rfl⟩
    rw [← hD] at hit
    have hD1:D.size≤9∧1≤D.size:=by
     rw [hD]
     refine ⟨?_,tx_pos _⟩
     rw [tx_size,itoa_nn (by omega),Int.toNat_natCast]
     exact dec_len 9 _ (by omega) (by show _ < 1000000000; omega)
    obtain ⟨hD1,hD2⟩:=hD1
    obtain ⟨L,hL⟩:∃ L,L=D.size:=⟨_,rfl⟩
    rw [← hL] at hD1 hD2
    have z0:(0:Int)≤(i:Int):=by omega
    have z1:(i:Int) < (n:Int):=by omega
    replace hdr2:=hZ hdr2
    replace hit:=hZ hit
    replace hxi:=hZ hxi
    by_cases hbig:1000000000≤r
    ·have d2:decide ((i:Int)+1 < (n:Int))=true:=decide_eq_true (by have h9:=(digs_end hdr2.out).2 (by omega); rw [← hn.out] at h9; omega)
     obtain ⟨c,hc9⟩:∃ c,L+c=9:=⟨9 - L,by omega⟩
     have e2:(9:Int) - (L:Int)=(c:Int):=by omega
     have e3:tb (List.replicate c 48) ++ D=tb (padk 9 (r % 1000000000)):=by
      have h9:=pad_text (r % 1000000000) (by omega)
      rw [← hD] at h9
      rw [← h9]
      congr 3
      rw [hL,hD,tx_size,itoa_nn (by omega),Int.toNat_natCast] at hc9
      omega
     have e4:=tb_app (padk 9 (r % 1000000000)) s
     have s1:(tb (List.replicate c 48)).size=c:=by rw [tb_size,List.length_replicate]
     have s2:(tb (padk 9 (r % 1000000000))).size=9:=by rw [tb_size,padk_len]
     have s3:(tb s).size=s.length:=tb_size s
     have s4:s.length≤900000:=by omega
     have hI2:=hZ (hI.out.big hbig)
     have hrep:=hZ (fun W=>rep_any c (by omega) W)
     have e1:D.size=L:=hL.symm
     replace hL:=hZ hL
     replace hD:=hZ hD
     go_wp2_with fail
     refine hit.out.mono ?_
     rintro e w2 ⟨rfl,hf2⟩
     replace b0:=hf2.keep b0
     replace b1:=hf2.keep b1
     go_wp2_with fail
     refine (hrep.out _).mono ?_
     rintro e w3 ⟨rfl,hf3⟩
     replace b0:=hf3.keep b0
     replace b1:=hf3.keep b1
     go_wp2_with fail
     go_roundg (gk - 1)
     case measure=>omega
     case rel=>exact ⟨i+1,_,_,rfl,by go_num,by omega,(hf.trans hf2).trans hf3,by rw [List.length_append,padk_len]; omega,hI2,hdr2⟩
    ·have d2:decide ((i:Int)+1 < (n:Int))=false:=decide_eq_false (by have h9:=digs_end hdr2.out; rw [← hn.out] at h9; omega)
     have hrd:r % 1000000000=r:=by omega
     have e3:D=tb (decDigits r):=by rw [hD,hrd,tx_tb,itoa_nn (by omega),Int.toNat_natCast]
     have e1:D.size=L:=hL.symm
     have e4:D ++ tb s=tb (decDigits r ++ s):=by rw [e3]; exact tb_app _ _
     have e5:(decDigits r).length=L:=by rw [← e1,e3,tb_size]
     have hI2:=hZ (hI.out.last (by omega) r0)
     have s3:(tb s).size=s.length:=tb_size s
     have s4:s.length≤900000:=by omega
     replace hL:=hZ hL
     replace hD:=hZ hD
     replace e3:=hZ e3
     replace e5:=hZ e5
     clear hrd
     go_wp2_with fail
     refine hit.out.mono ?_
     rintro e w2 ⟨rfl,hf2⟩
     replace b0:=hf2.keep b0
     replace b1:=hf2.keep b1
     go_wp2_with fail
     go_roundg (gk - 1)
     case measure=>omega
     case rel=>exact ⟨i+1,_,_,rfl,by go_num,by omega,hf.trans hf2,by rw [List.length_append,e5.out]; omega,hI2,hdr2⟩
   ·have d1:decide (i < n)=false:=decide_eq_false hi
    have hr0:r=0:=by have h9:=digs_end hdr.out; rw [← hn.out] at h9; omega
    have hs9:s=decDigits z.natAbs:=by
     rcases hI.out with ⟨-,h⟩ | ⟨h,-⟩
     ·exact h
     ·omega
    have s3:(tb s).size=s.length:=tb_size s
    have s4:s.length≤900000:=by omega
    clear hr0
    replace hs9:=hZ hs9
    cases sg with
    | true=>
      have hz1:z < 0:=of_decide_eq_true hsg.out.symm
      have e4:(⟨#[45]⟩:ByteArray) ++ tb s=tx z:=by
       rw [hs9.out,tx_tb,itoa_ng hz1]
       exact tb_app [45] _
      clear hz1
      go_wp2_with fail
      go_ret
      exact ⟨rfl,hfb.trans hf⟩
    | false=>
      have hz1:¬ z < 0:=of_decide_eq_false hsg.out.symm
      have e4:=hZ (show tb s=tx z by
       rw [hs9.out,tx_tb,itoa_nn (by omega),show z.toNat=z.natAbs by omega])
      clear hz1
      go_wp2_with fail
      go_ret
      exact ⟨by rw [← e4.out]; rfl,hfb.trans hf⟩
theorem boundR_any (aN aA:Option Addr) (cN cA n a:Nat) (most:Int) (w:World) (hn:n≤20000) (ha:a≤1000000) :
 Calls Tryz.prog 31 #[.agg #[.slice aN n cN,.slice aA a cA],.int .i64 most] w fun e w'=>e=.returned (.int .i64 (boundE n a most))∧Fr w w':=by
 have hf2:Fr w (w.alloc (.cells #[.slice aN n cN,.slice aA a cA] 72)):=(Fr.refl w).alloc _
 replace hf2:=hZ hf2
 by_cases h0:most < 0
 ·have hfin:=hZ (show boundE n a most=3 by unfold boundE; rw [if_pos h0])
  go_enter Tryz.func31,Tryz.ntmps31
  go_wp2_with fail
  go_ret
  exact ⟨ret_int hfin.out.symm,hf2.out⟩
 ·have hfin:=hZ (show boundE n a most=bdE n most a by unfold boundE; rw [if_neg h0])
  have d0:decide (most < 0)=false:=decide_eq_false h0
  have h0':0≤most:=by omega
  clear h0
  go_enter Tryz.func31,Tryz.ntmps31
  go_wp2_with fail
  go_loopg [5,14] a (fun k s5 s14 wr=>∃ (j:Nat) (tot:Int),s14=.int .i64 j∧j+k=a∧s5=.int .i64 tot∧0≤tot∧tot≤20000∧Hid (bdE n most a=bdE tot most k)∧wr=w.alloc (.cells #[.slice aN n cN,.slice aA a cA] 72))
  case atStart=>exact ⟨0,n,rfl,by omega,rfl,by omega,by omega,rfl,rfl⟩
  case round=>
   obtain ⟨j,tot,rfl,hjk,rfl,ht0,ht1,he,rfl⟩:=hrel
   by_cases hj:j < a
   ·have hdJ:decide (j < a)=true:=decide_eq_true hj
    obtain ⟨k1,rfl⟩:∃ k1,gk=k1+1:=⟨gk - 1,by omega⟩
    by_cases hm:20000 < most
    ·have dm:decide (20000 < most)=true:=decide_eq_true hm
     have hf:=hZ (show bdE n most a=4 by rw [he.out,bdE,if_pos hm])
     clear he
     go_wp2_with fail
     go_ret
     exact ⟨ret_int (by rw [hfin.out,hf.out]),hf2.out⟩
    ·have dm:decide (20000 < most)=false:=decide_eq_false hm
     have hm':most≤20000:=by omega
     have hp0:0≤tot * (2 * most+1):=Int.mul_nonneg ht0 (by omega)
     have hp1:tot * (2 * most+1)≤20000 * 40001:=Int.mul_le_mul ht1 (by omega) (by omega) (by omega)
     have he2:=hZ (show bdE n most a=if 20000 < tot * (2 * most+1) then 4 else bdE (tot * (2 * most+1)) most k1 by rw [he.out,bdE,if_neg hm])
     clear he hm
     by_cases hq:20000 < tot * (2 * most+1)
     ·have dq:decide (20000 < tot * (2 * most+1))=true:=decide_eq_true hq
      have hf:=hZ (show bdE n most a=4 by rw [he2.out,if_pos hq])
      clear he2
      go_wp2_with fail
      go_ret
      exact ⟨ret_int (by rw [hfin.out,hf.out]),hf2.out⟩
     ·have dq:decide (20000 < tot * (2 * most+1))=false:=decide_eq_false hq
      have hf:=hZ (show bdE n most a=bdE (tot * (2 * most+1)) most k1 by rw [he2.out,if_neg hq])
      clear he2
      go_wp2_with fail
      go_roundg k1
      case measure=>omega
      case rel=>exact ⟨j+1,_,by go_num,by omega,rfl,hp0,by omega,hf,rfl⟩
   ·obtain rfl:j=a:=by omega
    have hdJ:decide (j < j)=false:=decide_eq_false (by omega)
    obtain rfl:gk=0:=by omega
    have hf:=hZ (show bdE n most j=0 by rw [he.out,bdE])
    clear he
    go_wp2_with fail
    go_ret
    exact ⟨ret_int (by rw [hfin.out,hf.out]),hf2.out⟩
theorem cxR_any (cs:List Int) (a:Option Addr) (cap:Nat) (w:World) (hx:El w iv a cs) (hl:cs.length≤64) (hb:∀ x,x ∈ cs→fitB x=true) :
 Calls Tryz.prog 79 #[.slice a cs.length cap] w fun e w'=>e=.returned (.int .i64 (cx cs))∧Gd w w':=by
 obtain ⟨n,hn⟩:∃ n,n=cs.length:=⟨_,rfl⟩
 rw [← hn] at hl
 replace hn:=hZ hn
 rw [← hn.out]
 replace hx:=hZ hx
 replace hb:=hZ hb
 go_enter Tryz.func79,Tryz.ntmps79
 go_wp2_with fail
 go_loopg [3,8] n (fun k s3 s9 wr=>∃ j:Nat,s9=.int .i64 j∧j+k=n∧s3=.int .i64 (cx (cs.take j))∧Gd w wr)
 case atStart=>exact ⟨0,rfl,by omega,rfl,Gd.refl w⟩
 case round=>
  obtain ⟨j,rfl,hjk,rfl,hf⟩:=hrel
  by_cases hj:j < n
  ·obtain ⟨b,o,x,rfl,hbl,hxj,hc⟩:=(hx.out.fr hf.fr).at (i:=j) (by rw [← hn.out]; exact hj)
   have hd:decide (j < n)=true:=decide_eq_true hj
   have hs:=hZ (cx_take hxj)
   have hbd:=cx_bound (l:=cs.take j) (fun y hy=>hb.out y (List.mem_of_mem_take hy))
   have hfx:=hb.out x (List.mem_of_getElem? hxj)
   unfold fitB at hfx
   have hfx:=of_decide_eq_true hfx
   have hll:(cs.take j).length=j:=by rw [List.length_take,← hn.out]; omega
   rw [hll] at hbd
   obtain ⟨t,ht⟩:∃ t,t=cx (cs.take j):=⟨_,rfl⟩
   rw [← ht] at hbd hs ⊢
   have hw:-1000000000≤x∧x≤1000000000:=by omega
   clear hxj hll
   go_wp2_with fail
   go_roundg (gk - 1)
   case measure=>omega
   case rel=>
    refine ⟨j+1,by go_num,by omega, ?_,hf⟩
    rw [hs.out,ht]; congr 1; omega
  ·obtain rfl:j=n:=by omega
   have hd:decide (j < j)=false:=decide_eq_false hj
   go_wp2_with fail
   go_ret
   refine ⟨?_,hf⟩
   show Ending.returned (.int .i64 (cx (cs.take j)))=_
   rw [List.take_of_length_le (by rw [← hn.out]; exact Nat.le_refl _)]
theorem own_readS {w:World} {base:Nat} {v:Value} {l:List Int} (h:w.ownsRow base 114 1 v l.length (l.map sv)):∃ a c,v=.slice a l.length c∧El w sv a l∧l.length≤c∧∀ ad,a=some ad→base≤ad.block:=by
 rcases h.2 with ⟨h1,h2⟩ | ⟨g,cap,cur,hv,_⟩
 ·have:=List.eq_nil_of_length_eq_zero h2
  subst this
  exact ⟨none,0,h1,.inl rfl,Nat.le_refl _,fun ad e=>by cases e⟩
 ·subst hv
  obtain ⟨-,h1,h2,h3,h4⟩:=ownsRow_some h
  refine ⟨_,_,rfl,.inr ⟨g,0,rfl,h2,fun i x hx=>?_⟩,h3,fun ad e=>by injection e with e; subst e; exact h1⟩
  rw [Nat.zero_add]
  exact (h4 i (sv x) (by rw [List.getElem?_map,hx]; rfl)).1
def IntsRet (w:World) (xs:List Int) (e:Ending) (w':World):Prop:=∃ a c,e=.returned (.slice a xs.length c)∧El w' sv a xs∧xs.length≤c∧Fr w w'
theorem ints_any (xs:List Int) (a:Option Addr) (cap:Nat) (w:World) (hG:G w) (hx:El w iv a xs) (hl:xs.length≤1000000) (hb:∀ x,x ∈ xs→-9223372036854775808≤x∧x≤9223372036854775807) :
 Calls Tryz.prog 34 #[.slice a xs.length cap] w (IntsRet w xs):=by
 obtain ⟨i0,hi,hz0,hz1,hz2⟩:=info_parts info65
 obtain ⟨n,hn⟩:∃ n,n=xs.length:=⟨_,rfl⟩
 rw [← hn] at hl
 rw [← hn]
 have hint:=fun (W:World) (x:Int) (hW:Fr w W) (hx:x ∈ xs)=>IntR_any x (hb x hx).1 (hb x hx).2 W (hG.fr hW)
 replace hint:=hZ hint
 replace hn:=hZ hn
 replace hx:=hZ hx
 clear hb
 go_enter Tryz.func34,Tryz.ntmps34
 go_wp2_with fail
 go_loopg [3,8] n (fun gk s3 s8 wr=>∃ j:Nat,s8=.int .i64 j∧j+gk=n∧Fr w wr∧Hid (wr.ownsRow w.heap.size 114 1 s3 j ((xs.take j).map sv)))
 case atStart=>exact ⟨0,rfl,by omega,Fr.refl _,World.ownsRow_nil _ _ _ _⟩
 case round=>
  obtain ⟨j,rfl,hjk,hf,hown⟩:=hrel
  by_cases hj:j < n
  ·obtain ⟨b,o,x,rfl,hbl,hxj,hc⟩:=(hx.out.fr hf).at (i:=j) (by rw [← hn.out]; exact hj)
   have hd:decide (j < n)=true:=decide_eq_true hj
   have hs:=hZ (take_snoc hxj)
   have hi9:=hZ (hint.out wr x hf (List.mem_of_getElem? hxj))
   replace hxj:=hZ hxj
   go_wp2_with fail
   refine hi9.out.mono ?_
   rintro e w2 ⟨rfl,hf2⟩
   go_wp2_with (at_builtin; refine wpList_append_lies _ rfl _ _ 85 (by rfl) _ 114 _ _ 1 16 Tryz.underlying85 hi hz0 hz1 hz2 rfl (by decide) _ j _ (by rfl) (World.ownsRow.alloc (ownsRow_fr hown.out hf2) _) ⟨w2.heap.size,0,none⟩ 1 1 [sv x] (by rfl) rfl (cell_one_newN _ _ _ _ (by simp)) (by simp [Value.oneCell']) (by decide) (by unfold maxLen; omega) (by omega) (by have:=(hf.trans hf2).size; simp; omega) (w2.heap.size+1) (by simp) ?_; intro gA capA wA hownA hgrowA hatA hltA)
   go_wp2_with fail
   go_roundg (gk - 1)
   case measure=>omega
   case rel=>exact ⟨j+1,by go_num,by omega,((hf.trans hf2).alloc _).grown hgrowA (fun k e=>(hown.out.lt k e).1),by show _; rw [hs.out,List.map_append]; exact hownA⟩
  ·obtain rfl:j=n:=by omega
   have hd:decide (j < j)=false:=decide_eq_false hj
   have hown9:=hown.out
   rw [List.take_of_length_le (by rw [← hn.out]; exact Nat.le_refl _),hn.out] at hown9
   obtain ⟨a9,c9,rfl,he9,hc9,-⟩:=own_readS hown9
   clear hown9
   go_wp2_with fail
   go_ret
   exact ⟨a9,c9,rfl,he9,hc9,hf⟩
def smSize (n:Nat) (most:Int):Nat→Int
 | 0=>n
 | a+1=>smSize n most a * (2 * max most 0+1)
def smallB (n a:Nat) (most:Int):Bool:=if 10 < most then !decide (boundE n a most=0) else (decide (smSize n most a≤400) || !decide (boundE n a most=0))
theorem smSize_bd {n:Nat} {most:Int} (hn:n≤4) (hm:most≤10):∀ a,a≤4→0≤smSize n most a∧smSize n most a≤4 * 21 ^ a:=fun a=>by
 induction a with
 | zero=>intro _; show 0≤(n:Int)∧(n:Int)≤4 * 1; omega
 | succ a ih=>
   intro h
   obtain ⟨h1,h2⟩:=ih (by omega)
   show 0≤smSize n most a * (2 * max most 0+1)∧smSize n most a * (2 * max most 0+1)≤4 * 21 ^ (a+1)
   have h3:0≤2 * max most 0+1:=by omega
   have h4:2 * max most 0+1≤21:=by omega
   refine ⟨Int.mul_nonneg h1 h3, ?_⟩
   rw [Int.pow_succ,← Int.mul_assoc]
   exact Int.mul_le_mul h2 h4 h3 (by have:(0:Int)≤21 ^ a:=Int.pow_nonneg (by omega); omega)
theorem ne_bool (x:Int):(x != 0)=!decide (x=0):=by
 by_cases h:x=0
 ·subst h; rfl
 ·rw [decide_eq_false h]; exact bne_iff_ne.2 h
theorem small_law (aN aA:Option Addr) (cN cA n a:Nat) (most:Int) (w:World) (hn:n≤4) (ha:a≤3) :
 Calls Tryz.prog 28 #[.agg #[.slice aN n cN,.slice aA a cA],.int .i64 most] w fun e w'=>e=.returned (.bool (smallB n a most))∧Fr w w':=by
 have hbd:=fun W=>boundR_any aN aA cN cA n a most W (by omega) (by omega)
 obtain ⟨bE,hbE⟩:∃ bE,bE=boundE n a most:=⟨_,rfl⟩
 rw [← hbE] at hbd
 replace hbd:=hZ hbd
 by_cases h10:10 < most
 ·have d1:decide (10 < most)=true:=decide_eq_true h10
  have hfin:=hZ (show smallB n a most=(bE != 0) by unfold smallB; rw [if_pos h10,hbE,ne_bool])
  clear hbE
  clear h10
  go_enter Tryz.func28,Tryz.ntmps28
  go_wp2_with fail
  refine (hbd.out _).mono ?_
  rintro e w1 ⟨rfl,hf1⟩
  have hfw:Fr w w1:=((Fr.refl w).alloc _).trans hf1
  clear hf1
  go_wp2_with fail
  go_ret
  exact ⟨ret_bool hfin.out.symm,hfw⟩
 ·have d1:decide (10 < most)=false:=decide_eq_false h10
  have hsz:=fun j hj=>smSize_bd (n:=n) (most:=most) hn (by omega) j hj
  replace hsz:=hZ hsz
  have hfin:=hZ (show smallB n a most=(decide (smSize n most a≤400) || (bE != 0)) by unfold smallB; rw [if_neg h10,hbE,ne_bool])
  clear hbE
  have hm10:most≤10:=by omega
  clear h10
  obtain ⟨mx,hmx⟩:∃ mx,mx=max most 0:=⟨_,rfl⟩
  have hmx0:0≤mx:=by omega
  have hmx1:mx≤10:=by omega
  go_enter Tryz.func28,Tryz.ntmps28
  go_wp2_with fail
  go_loopg [5,18] a (fun k s5 s18 wr=>∃ (j:Nat) (tot:Int),s18=.int .i64 j∧j+k=a∧s5=.int .i64 tot∧Hid (tot=smSize n most j)∧wr=w.alloc (.cells #[.slice aN n cN,.slice aA a cA] 72))
  case atStart=>exact ⟨0,n,rfl,by omega,rfl,rfl,rfl⟩
  case round=>
   obtain ⟨j,tot,rfl,hjk,rfl,he,rfl⟩:=hrel
   have hb:=hsz.out j (by omega)
   rw [← he.out] at hb
   obtain ⟨hb0,hb1⟩:=hb
   have hb2:tot≤37044:=by
    rcases (show j=0∨j=1∨j=2∨j=3 by omega) with rfl | rfl | rfl | rfl <;> omega
   clear hb1
   by_cases hj:j < a
   ·have hdJ:decide (j < a)=true:=decide_eq_true hj
    have p0:0≤tot * (2 * mx+1):=Int.mul_nonneg hb0 (by omega)
    have p1:tot * (2 * mx+1)≤37044 * 21:=Int.mul_le_mul hb2 (by omega) (by omega) (by omega)
    have he2:=hZ (show tot * (2 * mx+1)=smSize n most (j+1) by rw [hmx,he.out]; rfl)
    have hmx':=hmx.symm
    replace hmx:=hZ hmx
    go_wp2_with fail
    go_roundg (gk - 1)
    case measure=>omega
    case rel=>exact ⟨j+1,_,by go_num,by omega,rfl,he2,rfl⟩
   ·obtain rfl:j=a:=by omega
    have hdJ:decide (j < j)=false:=decide_eq_false (by omega)
    replace hmx:=hZ hmx
    by_cases h4:tot≤400
    ·have d4:decide (tot≤400)=true:=decide_eq_true h4
     have hf9:=hZ (show smallB n j most=true by rw [hfin.out,← he.out,decide_eq_true h4]; rfl)
     clear h4
     go_wp2_with fail
     go_ret
     exact ⟨ret_bool hf9.out.symm,(Fr.refl w).alloc _⟩
    ·have d4:decide (tot≤400)=false:=decide_eq_false h4
     have hf9:=hZ (show smallB n j most=(bE != 0) by rw [hfin.out,← he.out,decide_eq_false h4]; rfl)
     clear h4
     go_wp2_with fail
     refine (hbd.out _).mono ?_
     rintro e w1 ⟨rfl,hf1⟩
     have hfw:Fr w w1:=((Fr.refl w).alloc _).trans hf1
     clear hf1
     go_wp2_with fail
     go_ret
     exact ⟨ret_bool hf9.out.symm,hfw⟩
end Go.Proofs.YtmalpgbbddkdcaaGreatDoor
