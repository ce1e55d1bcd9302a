/- Contracts and laws: FBM. -/
import Derived.Test.YtiniigadkknboaaGreatDoorFBD

set_option maxRecDepth 100000
set_option maxHeartbeats 1000000
namespace Go.Proofs.YtiniigadkknboaaGreatDoor
open Go.RowKit Go.Lib
attribute [local go_sem ↓] Go.wp_at_zero Go.wp_at_succ
def Gj (w:World) (a:Option Addr) (L:List (List Int)):Prop :=
 L=[]∨∃ b o,a=some ⟨b,o,none⟩∧b < w.heap.size∧∀ (i:Nat) (r:List Int),L[i]?=some r→∀ (k:Nat) (x:Int),r[k]?=some x→w.cell? ⟨b,o+i * 4+k,none⟩=some (.int .i8 x)
theorem Gj.fr {w w':World} {a:Option Addr} {L:List (List Int)} (h:Gj w a L) (k:Fr w w'):Gj w' a L:=by
 rcases h with h | ⟨b,o,ha,hb,hc⟩
 ·exact .inl h
 ·exact .inr ⟨b,o,ha,An hb k.size,fun i r hr j x hx=>k.keep (hc i r hr j x hx)⟩
def MJ (L:List (List Int)):Prop:=∀ r,r ∈ L→r.length=4∧∀ x,x ∈ r→-128≤x∧x≤127
theorem ZE {r:List Int} (h:r.length=4):∃ a b c d,r=[a,b,c,d]:=by
 match r,h with
 | [a,b,c,d],_=>exact ⟨a,b,c,d,rfl⟩
theorem Gj.at {w:World} {a:Option Addr} {L:List (List Int)} (h:Gj w a L) (h8:MJ L) {i:Nat} (hi:i < L.length):∃ b o v0 v1 v2 v3,a=some ⟨b,o,none⟩∧L[i]?=some [v0,v1,v2,v3]∧w.cell? ⟨b,o+i * 4,none⟩=some (.int .i8 v0)∧w.cell? ⟨b,o+i * 4+1,none⟩=some (.int .i8 v1)∧w.cell? ⟨b,o+i * 4+2,none⟩=some (.int .i8 v2)∧w.cell? ⟨b,o+i * 4+3,none⟩=some (.int .i8 v3)∧∀ x,x ∈ [v0,v1,v2,v3]→-128≤x∧x≤127:=by
 rcases h with h | ⟨b,o,ha,-,hc⟩
 ·subst h; simp at hi
 ·have h9:=h8 _ (AJ hi)
  have hg:L[i]?=some L[i]:=Ac hi
  obtain ⟨v0,v1,v2,v3,he⟩:=ZE h9.1
  rw [he] at hg h9
  exact ⟨b,o,v0,v1,v2,v3,ha,hg,hc i _ hg 0 v0 rfl,hc i _ hg 1 v1 rfl,hc i _ hg 2 v2 rfl,hc i _ hg 3 v3 rfl,h9.2⟩
theorem ML (np:Int) (qa:Option Addr) (QL:List (List Int)) (qc:Nat) (vals:Bool) (w:World) (hG:G w) (hE:Jd w) (hnp:0≤np∧np≤255) (hQ:Gj w qa QL) (hQ8:MJ QL) (hq3:QL.length≤3) :
 Calls Tryz.prog 20 #[.agg #[.int .u8 np,.slice qa QL.length qc,.bool vals]] w fun e w'=>∃ (P:List Int) (C M:List (List Int)) (aP aC aM:Option Addr) (cP cC cM:Nat),e=.returned (.agg #[.slice aP P.length cP,.slice aC C.length cC,.slice aM M.length cM])∧El w' iv aP P∧A2 w' aC C∧A2 w' aM M∧C.length≤cC∧M.length≤cM∧P=PB np∧Tg P C M∧Fr w w':=by
 have hgn:=Fe hG
 obtain ⟨i1,ji,jz0,jz1,jz2⟩:=A5 LC
 have hpr:=fun W=>J0 np hnp.1 hnp.2 W
 obtain ⟨po1,po2,po3⟩:=SI (np.tmod 10).toNat
 change BM (PB np)=0 at po1
 change 1≤(PB np).length at po2
 change (PB np).length≤4 at po3
 have hbd:=fun (m:List (List Int)) (aP am:Option Addr) (cP cm:Nat) (W:World) (hW:Fr w W) hP hm hr h3 hb hz=>QR (PB np) m vals aP am cP cm W (hG.fr hW) (hE.fr hW) po1 po2 po3 hP hm hr h3 hb hz
 generalize PB np=P at *
 obtain ⟨n,hn⟩:∃ n,n=P.length:=⟨_,rfl⟩
 rw [← hn] at hpr po2 po3 hbd
 obtain ⟨q,hq⟩:∃ q,q=QL.length:=⟨_,rfl⟩
 rw [← hq] at hq3 ⊢
 obtain ⟨M,hM⟩:∃ M,M=QL.map (TW n):=⟨_,rfl⟩
 have hMl:M.length=q:=by rw [hM,AE,hq]
 have hMg:∀ i r,QL[i]?=some r→M[i]?=some (TW n r):=fun i r hr=>by rw [hM,Au,hr]; rfl
 have hMr:Bq n M:=fun r hr=>by
  rw [hM] at hr
  obtain ⟨x,hx,rfl⟩:=Cb.1 hr
  exact JL (hQ8 x hx).1 po3
 have hMb:∀ r,r ∈ M→∀ x,x ∈ r→x.natAbs≤9:=fun r hr x hx=>by
  rw [hM] at hr
  obtain ⟨y,-,rfl⟩:=Cb.1 hr
  exact VH x hx
 have hbm:=fun (aP am:Option Addr) (cP cm:Nat) (W:World) (hW:Fr w W) hP hm hz=>hbd M aP am cP cm W hW hP hm hMr (by rw [hMl]; exact hq3) hMb hz
 rw [hMl] at hbm
 clear hbd
 replace hn:=hZ hn
 replace hq:=hZ hq
 replace hM:=hZ hM
 replace hMl:=hZ hMl
 replace hMg:=hZ hMg
 replace hMr:=hZ hMr
 replace hMb:=hZ hMb
 replace hpr:=hZ hpr
 replace hbm:=hZ hbm
 replace hQ:=hZ hQ
 replace hQ8:=hZ hQ8
 clear po1 hE
 obtain ⟨wb,hwb⟩:∃ wb,wb=Dj w [(.cells #[.int .u8 np,.slice qa q qc,.bool vals] 42),(.cells #[.slice none 0 0,.slice none 0 0,.slice none 0 0] 29)]:=⟨_,rfl⟩
 have hfb:Fr w wb:=by rw [hwb]; exact Ds _ w
 have g0:wb.heap[w.heap.size]?=some (.cells #[.int .u8 np,.slice qa q qc,.bool vals] 42 (0,0)):=by rw [hwb]; exact BT _ w 0 _ rfl
 have g1:wb.heap[w.heap.size+1]?=some (.cells #[.slice none 0 0,.slice none 0 0,.slice none 0 0] 29 (0,0)):=by rw [hwb]; exact BT _ w 1 _ rfl
 have b0:wb.cell? ⟨w.heap.size,0,none⟩=some (.int .u8 np):=AH g0 0
 have b1:wb.cell? ⟨w.heap.size,1,none⟩=some (.slice qa q qc):=AH g0 1
 have b2:wb.cell? ⟨w.heap.size,2,none⟩=some (.bool vals):=AH g0 2
 have t0:wb.cell? ⟨w.heap.size+1,0,none⟩=some (.slice none 0 0):=AH g1 0
 have t1:wb.cell? ⟨w.heap.size+1,1,none⟩=some (.slice none 0 0):=AH g1 1
 have t2:wb.cell? ⟨w.heap.size+1,2,none⟩=some (.slice none 0 0):=AH g1 2
 have f0:wb.frozen? ⟨w.heap.size+1,0,none⟩=false:=by unfold World.frozen?; rw [g1]; rfl
 have f1:wb.frozen? ⟨w.heap.size+1,1,none⟩=false:=by unfold World.frozen?; rw [g1]; rfl
 have f2:wb.frozen? ⟨w.heap.size+1,2,none⟩=false:=by unfold World.frozen?; rw [g1]; rfl
 have hwl:w.heap.size+1 < wb.heap.size:=Hz g1
 clear g0 g1
 go_enter Tryz.func20,Tryz.ntmps20
 go_upto_region 1 with (fail)
 change Code.wp _ _ _ _ (Dj w [(.cells #[.int .u8 np,.slice qa q qc,.bool vals] 42),(.cells #[.slice none 0 0,.slice none 0 0,.slice none 0 0] 29)])
 rw [← hwb]
 clear hwb
 obtain ⟨tb,htb⟩:∃ tb,tb=w.heap.size:=⟨_,rfl⟩
 rw [← htb] at b0 b1 b2 t0 t1 t2 f0 f1 f2 hwl hgn ⊢
 replace htb:=hZ htb
 go_wp2_with fail
 refine (hpr.out _).mono ?_
 rintro e w1 ⟨pb,rfl,hpe,hpb,hf1⟩
 replace hpe:=hZ hpe
 have hfw:=hfb.trans hf1
 replace f0:=hf1.keepf t0 f0
 replace f1:=hf1.keepf t1 f1
 replace f2:=hf1.keepf t2 f2
 replace t0:=hf1.keep t0
 replace t1:=hf1.keep t1
 replace t2:=hf1.keep t2
 replace b1:=hf1.keep b1
 replace b2:=hf1.keep b2
 have hg1:gN≤w1.heap.size:=by have:=hf1.size; omega
 have htl:tb+1 < w1.heap.size:=by have:=hf1.size; omega
 have hpt:pb≠tb+1:=by omega
 replace hpt:=hZ hpt
 clear b0 hwl hf1 hfb hpb
 go_wp2_with fail
 go_loopg [4,5] q (fun k s4 s5 wr=>∃ (j:Nat) (hO:List (Nat×Nat×Nat)) (v:Value),v=s4∧s5=.int .i64 j∧j+k=q∧Fr w1 wr∧Hid (GI wr w1.heap.size 33 v hO (M.take j))∧Hid (∀ h,h ∈ hO→w1.heap.size≤h.1)∧Hid (j=0→v=.slice none 0 0))
 case atStart=>exact ⟨0,[],_,rfl,rfl,by omega,Fr.refl _,GI.nil _ _ _ hg1,fun h hm=>by simp at hm,fun _=>rfl⟩
 case round=>
  obtain ⟨j,hO,v4,hv4,rfl,hjk,hf,hgi,hnew,hz0⟩:=hrel
  subst hv4
  obtain ⟨wo,rfl⟩:∃ wo:World,wo=wr:=⟨_,rfl⟩
  have y1:=hf.keep b1
  have y2:=hf.keep b2
  by_cases hj:j < q
  ·have hdJ:decide (j < q)=true:=Ab hj
   have hd3:decide ((j:Int) < 3)=true:=Ab (by omega)
   obtain ⟨qb,qo,v0,v1,v2,v3,rfl,hLj,c0,c1,c2,c3,h8⟩:=(hQ.out.fr (hfw.trans hf)).at hQ8.out (i:=j) (by rw [← hq.out]; exact hj)
   have hsn:=hZ (BH (hMg.out j _ hLj))
   have hiv:=hZ (fun W=>Ip n (some ⟨pb,0,none⟩) n v0 v1 v2 v3 W po2 po3 h8)
   have hgl:Hid ((M.take j).length=j):=by show _=_; rw [Av,hMl.out]; omega
   have hrl:Hid ((TW n [v0,v1,v2,v3]).length=n):=JL rfl po3
   generalize TW n [v0,v1,v2,v3]=row at *
   have z0:(0:Int)≤(j:Int):=Ak _
   have z1:(j:Int) < (q:Int):=by omega
   clear hLj h8
   go_wp2_with fail
   refine (hiv.out _).mono ?_
   rintro e w2 ⟨gg,c,rfl,hf2,hown2⟩
   obtain ⟨hO2,-,-,hgb,hcp⟩:=Dr (Ar hg1 hf.size) hown2
   have hgi2:=hgi.out.fr hf2
   have hne:v4.ownBlock≠some gg:=fun e=>by have h9:=(hgi.out.own.lt gg e).2; omega
   have hne2:∀ h',h' ∈ hO→h'.1≠gg:=fun h' hm e2=>by have h9:=hgi.out.lt h' hm; omega
   have hown3:=hgi2.own
   rw [hgl.out] at hown3
   have hvb:∀ b,v4.ownBlock=some b→w1.heap.size≤b:=fun b e=>(hgi2.own.lt b e).1
   replace hgi2:=hZ hgi2
   replace hown2:=hZ hown2
   replace hvb:=hZ hvb
   go_wp2_with (at_builtin; refine wpList_append_lies _ rfl _ _ 27 (by rfl) _ 33 _ _ 1 24 Tryz.underlying27 ji jz0 jz1 jz2 rfl (by decide) _ j _ (by rfl) (AA hown3 _) ⟨w2.heap.size,0,none⟩ 1 1 [.slice (some ⟨gg,0,none⟩) n c] (by rfl) rfl (AN _ _ _ _ (by simp)) (by simp [Value.oneCell']) (by decide) (by unfold maxLen; omega) (by omega) (by have:=(hf.trans hf2).size; have:=hf2.size; simp; omega) (w2.heap.size+1) (by simp) ?_; intro gA capA wA hownA hgrowA hatA hltA; skip)
   have hpush:=(hgi2.out.fr ((Fr.refl w2).alloc _)).pushN (hd:=(gg,0,c)) (hO2.fr ((Fr.refl w2).alloc _)) hne2 hne hgl.out (by unfold HT; rw [hrl.out]) hownA hgrowA (hatA.imp id (fun e=>by rw [e]; simp))
   rw [← hsn.out] at hpush
   have hfrA:Fr w1 wA:=(((hf.trans hf2).alloc _)).grown hgrowA (fun k e=>hvb.out k e)
   go_wp2_with fail
   go_roundg (gk - 1)
   case measure=>omega
   case rel=>exact ⟨j+1,_,_,rfl,by go_num,by omega,hfrA,hpush,fun h hm9=>by rcases BK.1 hm9 with h1 | h1; exact hnew.out h h1; (simp at h1; subst h1; exact Ar hf.size hgb),fun e=>by omega⟩
  ·obtain rfl:j=q:=by omega
   have hdJ:decide (j < j)=false:=Aa (by omega)
   rw [Ap (by rw [hMl.out]; exact Ah _)] at hgi
   have hgo:=hgi.out
   obtain ⟨a9,c9,hs4,-⟩:=Dy hgo.own
   subst hs4
   have hma:=hgo.mat
   rw [hMl.out] at hgo hz0 ⊢
   have hbl:=hZ (hbm.out (some ⟨pb,0,none⟩) a9 n c9 wo (hfw.trans hf) (hpe.out.fr hf) hma (fun e=>by
    have h1:=hMl.out
    rw [e] at h1
    have h2:=hz0.out h1.symm
    injection h2 with h2 h3 h4
    exact ⟨h2,h4⟩))
   replace hgo:=hZ hgo
   replace f0:=hf.keepf t0 f0
   replace f1:=hf.keepf t1 f1
   replace f2:=hf.keepf t2 f2
   replace t0:=hf.keep t0
   replace t1:=hf.keep t1
   replace t2:=hf.keep t2
   clear hma hgi hz0 b1 b2
   go_wp2_with fail
   refine hbl.out.mono ?_
   rintro e w2 ⟨P',C',M',aP,aC,aM,cP,cC,cM,err,rfl,hP2,hC2,hM2,hcC,hcM,hT2,hf2⟩
   replace hP2:=hZ hP2
   replace f0:=hf2.keepf t0 f0
   replace f1:=hf2.keepf t1 f1
   replace f2:=hf2.keepf t2 f2
   replace t0:=hf2.keep t0
   replace t1:=hf2.keep t1
   replace t2:=hf2.keep t2
   obtain ⟨nP,hnP⟩:∃ nP,nP=P'.length:=⟨_,rfl⟩
   obtain ⟨nC,hnC⟩:∃ nC,nC=C'.length:=⟨_,rfl⟩
   obtain ⟨nM,hnM⟩:∃ nM,nM=M'.length:=⟨_,rfl⟩
   rw [← hnP,← hnC,← hnM]
   replace hnP:=hZ hnP
   replace hnC:=hZ hnC
   replace hnM:=hZ hnM
   obtain ⟨w3,hw3⟩:∃ w3,w3=w2.alloc (.cells #[.slice aP nP cP,.slice aC nC cC,.slice aM nM cM] 29):=⟨_,rfl⟩
   have hf3:Fr w2 w3:=by rw [hw3]; exact (Fr.refl _).alloc _
   have g3:w3.heap[w2.heap.size]?=some (.cells #[.slice aP nP cP,.slice aC nC cC,.slice aM nM cM] 29 (0,0)):=by rw [hw3]; exact CJ w2 _
   have x0:w3.cell? ⟨w2.heap.size,0,none⟩=some (.slice aP nP cP):=AH g3 0
   have x1:w3.cell? ⟨w2.heap.size,1,none⟩=some (.slice aC nC cC):=AH g3 1
   have x2:w3.cell? ⟨w2.heap.size,2,none⟩=some (.slice aM nM cM):=AH g3 2
   replace f0:=hf3.keepf t0 f0
   replace f1:=hf3.keepf t1 f1
   replace f2:=hf3.keepf t2 f2
   replace t0:=hf3.keep t0
   replace t1:=hf3.keep t1
   replace t2:=hf3.keep t2
   clear g3
   go_upto_region 8 with (fail)
   rw [← hw3]
   clear hw3
   have htl2:tb+1 < w2.heap.size:=by have:=hf.size; have:=hf2.size; omega
   obtain ⟨xb,hxb⟩:∃ xb,xb=w2.heap.size:=⟨_,rfl⟩
   rw [← hxb] at x0 x1 x2 htl2 ⊢
   replace hxb:=hZ hxb
   have qs:=H1 w3 (tb+1) (.slice aP nP cP) (.slice aC nC cC) (.slice aM nM cM) _ _ _ t0 t1 t2
   have q1:=qs.2.2.2.1
   have q2:=qs.2.2.2.2.1
   have u0:=hZ qs.1
   have u1:=hZ qs.2.1
   have u2:=hZ qs.2.2.1
   have hfx:=hZ qs.2.2.2.2.2
   clear qs
   go_wp2_with fail
   have r0:=u0.out
   have r1:=u1.out
   have r2:=u2.out
   refine AK (v:=.agg #[.slice aP nP cP,.slice aC nC cC,.slice aM nM cM]) (by simp [results,Tryz.results20,go_sem,r0,r1,r2]) rfl ?_
   have hT3:Fr wo w3:=hf2.trans hf3
   have hfin:=((Fx.of_fr (p:=fun q=>q=tb+1) ((hfw.trans hf).trans hT3)).trans hfx.out).toFr (fun q hq e=>by have e:q=tb+1:=e; have:=htb.out; omega)
   have hf23:=((Fx.of_fr (p:=fun q=>q=tb+1) hf3).trans hfx.out).low (n:=wo.heap.size) fun k e=>by have e:k=tb+1:=e; have:=hf.size; omega
   have hPe:∀ W',Fx (fun q=>q=tb+1) w3 W'→El W' iv aP P':=fun W' hW'=>by
    rcases hP2.out with ⟨rfl,rfl⟩
    exact (hpe.out.fr (hf.trans hT3)).fx hW' (fun e=>hpt.out e)
   exact ⟨P',C',M',aP,aC,aM,cP,cC,cM,by rw [hnP.out,hnC.out,hnM.out],hPe _ hfx.out,hC2 _ hf23,hM2 _ hf23,hcC,hcM,hP2.out.1,hT2,hfin⟩
end Go.Proofs.YtiniigadkknboaaGreatDoor
