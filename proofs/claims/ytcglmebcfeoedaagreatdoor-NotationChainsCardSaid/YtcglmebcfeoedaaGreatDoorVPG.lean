/- Contracts and laws: VPG. -/
import Derived.Test.YtcglmebcfeoedaaGreatDoorVP
import Derived.Test.YtcglmebcfeoedaaGreatDoorVL

set_option maxRecDepth 100000
set_option maxHeartbeats 16000000
namespace Go.Proofs.YtcglmebcfeoedaaGreatDoor
open Go.RowKit Go.Lib
attribute [local go_sem ↓] AA AB
def Er (w:World):Prop:=∃ ev,w.cell? ⟨1,0,none⟩=some ev∧(ev=.nilIface∨∃ te pe,ev=.iface te pe)
theorem Er.fr {w w':World} (h:Er w) (hf:Fr w w'):Er w':=h.imp fun _ h=>⟨hf.keep h.1,h.2⟩
theorem SM (n:Int) (h:9223372036854775807 < n) (hs:(tx n).size≤1000000) (w:World) (hE:Er w) :
 Calls Tryz.prog 88 #[.string (tx n)] w fun e w'=>(∃ v t p,e=.returned (.tuple #[.int .i64 v,.iface t (.pointer (some ⟨p,0,none⟩))]))∧Fr w w':=by
 obtain ⟨ev,h1,h2⟩:=hE
 exact (Tryz.strconv_Atoi_range (tx n) (by omega) (UK h) ev w h1 h2).mono (by rintro e w' ⟨N,rfl,-,-,h⟩; exact ⟨⟨_,_,_,rfl⟩,h⟩)
def HF (w:World) (N A:List Sy) (w0:ByteArray) (ws:List ByteArray) (d:Nat) (e:Ending) (w':World):Prop :=
 (IO N A w0 ws=0→WS w (HZ N w0) (Kw (TY ws) (UJ A ws) d ws.length) d e w')∧(IO N A w0 ws≠0→e=.returned (.tuple #[.agg #[.int .i64 0,.slice none 0 0],.int .i64 (IO N A w0 ws)])∧Fr w w')
theorem HF.err {w w':World} {N A:List Sy} {w0:ByteArray} {ws:List ByteArray} {d:Nat} {E:Int} (h:IO N A w0 ws=E) (h0:E≠0) (hf:Fr w w'):HF w N A w0 ws d (.returned (.tuple #[.agg #[.int .i64 0,.slice none 0 0],.int .i64 E])) w':=by
 subst h
 exact ⟨fun e=>absurd e h0,fun _=>⟨rfl,hf⟩⟩
theorem Jp.snoc {ws:List ByteArray} {ps:List Pc} {i:Nat} {x:ByteArray} {p:Pc} (hl:ps.length=i) (h:∀ (j:Nat) (x:ByteArray) (p:Pc),ws[j]?=some x→ps[j]?=some p→Gb x=some p) (hx:ws[i]?=some x) (hp:Gb x=some p):(ps ++ [p]).length=i+1∧∀ (j:Nat) (x:ByteArray) (q:Pc),ws[j]?=some x→(ps ++ [p])[j]?=some q→Gb x=some q:=by
 refine ⟨by rw [Ar,hl]; rfl,fun j y q hy hq=>?_⟩
 by_cases hj:j < i
 ·rw [A0 (by omega)] at hq; exact h j y q hy hq
 ·have h9:=(Ah.1 hq).1
  rw [Ar,hl] at h9
  have h9:j < i+1:=h9
  obtain rfl:j=i:=by omega
  rw [AR (by omega),hl,ED] at hq
  injection hq with hq
  rw [hx] at hy
  injection hy with hy
  rw [← hy,← hq]; exact hp
theorem Nd {W:World} {base:Nat} {e:TypeId} {s:Nat} {v:Value} {n:Nat} {xs:List Value} (h:W.ownsRow base e s v n xs):∃ a c,v=.slice a n c∧∀ (j:Nat) (x:Value),xs[j]?=some x→∃ g,a=some ⟨g,0,none⟩∧base≤g∧g < W.heap.size∧W.cell? ⟨g,j,none⟩=some x:=by
 have hl:=h.1
 rcases h.2 with ⟨rfl,rfl⟩ | ⟨g,cap,cur,rfl,hb,hg,_⟩
 ·exact ⟨none,0,rfl,fun j x hx=>by have e0:xs=[]:=AD (by rw [hl,Nat.zero_mul]); rw [e0] at hx; simp at hx⟩
 ·refine ⟨_,_,rfl,fun j x hx=>⟨g,rfl,hb,(h.lt g rfl).2, ?_⟩⟩
  rw [h.cellAt j (by have:=(Ah.1 hx).1; omega),hx]
theorem N4 {W:World} {base:Nat} {v:Value} {n:Nat} {xs:List Int} (h:W.ownsRow base 3 1 v n (xs.map iv)) (hl:xs.length=n) (hn:n≤1000000) :
 ∀ V,Fr W V→Calls Tryz.prog 87 #[v,.int .i64 (-1)] V fun e w'=>e=.returned (.bool (xs.contains (-1)))∧w'=V:=fun V hV=>by
 rcases h.2 with ⟨rfl,rfl⟩ | ⟨g,cap,cur,rfl,hb,hg,_⟩
 ·obtain rfl:=AD hl
  exact Tryz.slices_Contains_int_empty none 0 (-1) V
 ·have h1:=Tryz.slices_Contains_int g 0 n cap xs (-1) V (by omega) (by omega) (fun j hj=>by
   have h2:=h.cellAt j (by omega)
   rw [Ao,Ab hj] at h2
   rw [Az,hV.keep h2,X2,Ab hj]; rfl)
  rw [Ak (by omega)] at h1
  exact h1
theorem SW (N A:List Sy) (d:Nat) (s w0:ByteArray) (ws:List ByteArray) (aN aA:Option Addr) (cN cA:Nat) (w:World) (hG:G w) (hEr:Er w) (hmx:∃ m,w.cell? ⟨3,0,none⟩=some (.int .i64 m)) (hn:DS w aN aA cA N A) (lenA:A.length=d) (d6:d≤6) (n60:N.length≤60)
 (hsz:s.size≤65536) (hspl:Lib.splitB ⟨#[32]⟩ 0 (Lib.countB s ⟨#[32]⟩) s=w0 :: ws) (hcnt:Lib.countB s ⟨#[32]⟩=ws.length) (hw0s:w0.size≤65536) (hwsz:∀ x,x ∈ ws→x.size≤65536) (hw0:BG w0=true) (hwl:ws.length≤65536)
 (hck:∀ W,Fr w W→Calls Tryz.prog 25 #[.agg #[.slice aN N.length cN,.slice aA A.length cA]] W fun e w'=>e=.returned (.int .i64 0)∧Fr W w') :
 Calls Tryz.prog 32 #[.agg #[.slice aN N.length cN,.slice aA A.length cA],.string s] w (HF w N A w0 ws d):=by
 have hgn:=CS hG
 obtain ⟨i3,ki,kz0,kz1,kz2⟩:=AQ XA
 obtain ⟨i4,li,lz0,lz1,lz2⟩:=AQ DQ
 obtain ⟨mx,hmx⟩:=hmx
 rw [lenA] at hck ⊢
 obtain ⟨M,hM⟩:∃ M,M=N.length:=⟨_,rfl⟩
 rw [← hM] at n60 hck ⊢
 have hsp:=hZ (fun W (hW:Fr w W)=>Tryz.strings_Split s ⟨#[32]⟩ mx W (by omega) (hW.keep hmx) (by decide))
 rw [hspl,hcnt] at hsp
 have hfn:Hid (∀ W,Fr w W→Calls Tryz.prog 86 #[.slice aN M cN,.string w0] W fun e w'=>e=.returned (.int .i64 (HZ N w0))∧Fr W w'):=fun W hW=>PC N aN cN M w0 W (hn.noms.fr hW) hM.symm (by omega)
 have hfa:Hid (∀ (nm:ByteArray) W,Fr w W→Calls Tryz.prog 86 #[.slice aA d cA,.string nm] W fun e w'=>e=.returned (.int .i64 (HZ A nm))∧Fr W w'):=fun nm W hW=>PC A aA cA d nm W (hn.accs.fr hW) lenA (by omega)
 have hta:Hid (∀ nm:ByteArray,-1≤HZ A nm∧HZ A nm < d):=fun nm=>by
  have:=Sj (fun y:Sy=>y.nm.toList == nm.toList) A
  rw [lenA] at this
  exact this
 have hin:=hZ (fun W:World=>Jo w0 W (by omega))
 rw [hw0] at hin
 have hErf:=hZ (fun W (hW:Fr w W)=>hEr.fr hW)
 obtain ⟨m,hm⟩:∃ m,m=ws.length:=⟨_,rfl⟩
 have hPE:=hZ (fun (pcs:List Pc) (h:Jp ws pcs)=>Rf (N:=N) (A:=A) hw0 h)
 obtain ⟨i0,hi0⟩:∃ i0,i0=HZ N w0:=⟨_,rfl⟩
 rw [← hi0] at hfn
 have hcu0:Hid (∀ (i:Nat) (x:ByteArray),ws[i]?=some x→∀ W,Calls Tryz.prog 85 #[.string x] W (Vl x W)):=fun i x hx W=>WF x W (by have:=hwsz x (Ae hx); omega)
 rw [← hm] at hsp hwl
 replace hck:=hZ hck
 replace hm:=hZ hm
 replace hM:=hZ hM
 replace hi0:=hZ hi0
 replace hwsz:=hZ hwsz
 clear hG hmx hn lenA hspl hcnt hw0 hEr
 obtain ⟨nb,hnb⟩:∃ nb,nb=w.heap.size:=⟨_,rfl⟩
 obtain ⟨W1,hW1⟩:∃ W1,W1=(w.alloc (.cells #[.slice aN M cN,.slice aA d cA] 31)).alloc (.cells #[.int .i64 0,.slice none 0 0] 50):=⟨_,rfl⟩
 have f1:Fr w W1:=by rw [hW1]; exact ((Fr.refl _).alloc _).alloc _
 have hN1:Br W1 nb (.slice aN M cN) (.slice aA d cA):=by rw [hW1,hnb]; exact (Br.new w _ _ _).fr ((Fr.refl _).alloc _)
 have hS1:Br W1 (nb+1) (.int .i64 0) (.slice none 0 0):=by
  have:=Br.new (w.alloc (.cells #[.slice aN M cN,.slice aA d cA] 31)) (.int .i64 0) (.slice none 0 0) 50
  rw [AK] at this
  rw [hW1,hnb]; exact this
 go_enter Tryz.func32,Tryz.ntmps32
 go_upto_region 1 with (fail)
 rw [← hW1,← hnb]
 clear hW1
 replace hnb:=hZ hnb
 have n0:=hN1.a
 have n1':=hN1.b
 replace hN1:=hZ hN1
 replace hS1:=hZ hS1
 go_wp2_with fail
 refine (hck.out _ f1).mono ?_
 rintro e w2 ⟨rfl,hf2⟩
 have f2:=f1.trans hf2
 have dz:decide ((65536:Int) < (s.size:Int))=false:=Aa (by omega)
 clear n0 n1'
 go_wp2_with fail
 refine (hsp.out _ f2).mono ?_
 rintro e w3 ⟨rfl,hw3⟩
 have hcw:∀ (i:Nat) (x:ByteArray),(w0 :: ws)[i]?=some x→w3.cell? ⟨w2.heap.size,i,none⟩=some (.string x):=fun i x hx=>by
  rw [hw3]
  have h:(w2.alloc (.cells ((w0 :: ws).map Value.string).toArray 9)).heap[w2.heap.size]?=some (.cells ((w0 :: ws).map Value.string).toArray 9 (0,0)):=CG w2 _
  unfold World.cell?
  rw [h]
  show ((w0 :: ws).map Value.string).toArray[i]?=_
  rw [List.getElem?_toArray,Ao,hx]; rfl
 have f23:Fr w2 w3:=by rw [hw3]; exact (Fr.refl _).alloc _
 have f3:=f2.trans f23
 have f13:=hf2.trans f23
 obtain ⟨wb,hwb⟩:∃ wb,wb=w2.heap.size:=⟨_,rfl⟩
 rw [← hwb] at hcw ⊢
 replace hwb:=hZ hwb
 have k0:=hcw 0 w0 rfl
 replace hcw:=hZ hcw
 clear hw3 hsp hck
 have zm:(0:Int) < ((m+1:Nat):Int):=by omega
 go_wp2_with fail
 refine (hin.out _).mono ?_
 rintro e w4 ⟨rfl,rfl⟩
 go_upto_region 10 with (fail)
 go_cut [41,42,43] from 40 (fun s41 s42 s43 wc=>∃ aw cw,s41=.slice aw m cw∧s42=.int .i64 m∧s43=.int .i64 0∧w3=wc∧(m=0∨aw=some ⟨wb,1,none⟩))
 case first=>
  by_cases hm0:m=0
  ·have hm1:m+1=1:=by omega
   subst hm0
   go_wp2_with fail
   go_meet
   case rel=>exact ⟨_,_,rfl,rfl,rfl,rfl,.inl (by trivial)⟩
  ·have hm1:¬ m+1=1:=by omega
   go_wp2_with fail
   go_meet
   case rel=>exact ⟨_,_,rfl,rfl,rfl,rfl,.inr rfl⟩
 obtain ⟨aw,cw,rfl,rfl,rfl,rfl,haw⟩:=hcut
 replace haw:=hZ haw
 go_wp2_with fail
 go_loopg [8,43] m (fun k s8 s43 wr=>∃ (i:Nat) (ps:List Pc),s43=.int .i64 i∧i+k=m∧Fr w3 wr∧Hid (wr.ownsRow w3.heap.size 143 3 s8 i (IY ps))∧Hid (ps.length=i)∧Hid (∀ (j:Nat) (x:ByteArray) (p:Pc),ws[j]?=some x→ps[j]?=some p→Gb x=some p))
 case atStart=>exact ⟨0,[],rfl,by omega,Fr.refl _,A6 _ _ _ _,rfl,fun j x p _ h=>by simp at h⟩
 case round=>
  clear k0
  obtain ⟨i,ps,rfl,hik,hf,hown,hpl,hpc0⟩:=hrel
  have hFr:=f3.trans hf
  obtain ⟨wo,rfl⟩:∃ wo:World,wo=wr:=⟨_,rfl⟩
  obtain ⟨ko,rfl⟩:∃ ko:Nat,ko=gk:=⟨_,rfl⟩
  obtain ⟨v,rfl⟩:∃ v:Value,v=u8:=⟨_,rfl⟩
  by_cases hi:i < m
  ·have hdI:decide (i < m)=true:=Ac hi
   obtain ⟨x,hx⟩:∃ x,ws[i]?=some x:=⟨_,Ab (by rw [← hm.out]; exact hi)⟩
   have hc1:=hf.keep (hcw.out (i+1) x (by simpa using hx))
   have ec:1+i=i+1:=EG _ _
   obtain rfl:aw=some ⟨wb,1,none⟩:=haw.out.resolve_left (by omega)
   rw [← ec] at hc1
   have hcu:=hZ (hcu0.out i x hx)
   have z0:(0:Int)≤(i:Int):=Af _
   have z1:(i:Int) < (m:Int):=by omega
   replace hx:=hZ hx
   replace ec:=hZ ec
   go_wp2_with fail
   refine (hcu.out _).mono ?_
   rintro e wA ⟨⟨p,hpp,rfl⟩ | ⟨hno,rfl⟩,hfA⟩
   rotate_left
   ·replace hno:=hZ hno
    clear hc1
    obtain ⟨W6,hW6⟩:∃ W6,W6=wA.alloc (.cells #[.string ⟨#[]⟩,.bool false,.string ⟨#[]⟩] 143):=⟨_,rfl⟩
    have f6:Fr wA W6:=by rw [hW6]; exact (Fr.refl _).alloc _
    go_upto_region 14 with (fail)
    rw [← hW6]
    clear hW6
    have hS9:Br W6 (nb+1) (.int .i64 0) (.slice none 0 0):=hS1.out.fr (((f13.trans hf).trans hfA).trans f6)
    have hS10:=hZ ((hS9.set0 (.int .i64 0)).set1 (.slice none 0 0))
    have hfx10:Hid (Fx (·=nb+1) W6 (((W6).setCell ⟨nb+1,0,none⟩ (.int .i64 0)).setCell ⟨nb+1,1,none⟩ (.slice none 0 0))):=Fx.setCell (p:=(·=nb+1)) (q:=⟨nb+1,1,none⟩) (Fx.setCell (p:=(·=nb+1)) (q:=⟨nb+1,0,none⟩) (Fx.refl _ W6) (.inl rfl) _) (.inl rfl) _
    have hfw10:Hid (Fr w (((W6).setCell ⟨nb+1,0,none⟩ (.int .i64 0)).setCell ⟨nb+1,1,none⟩ (.slice none 0 0))):=((Fx.of_fr ((hFr.trans hfA).trans f6)).trans hfx10.out).toFr (fun k hk e=>by have e:k=nb+1:=e; have:=hnb.out; omega)
    have hEE:=hZ (show IO N A w0 ws=15 from (TX hx.out hno.out))
    have x1:=(hS9.set0 (.int .i64 0)).b
    have x2:=(hS9.set0 (.int .i64 0)).fb
    obtain ⟨b0,b1,e0,e1⟩:=hS9
    go_wp2_with fail
    have q0:=hS10.out.a
    have q1:=hS10.out.b
    refine Ax (v:=.tuple #[.agg #[.int .i64 0,.slice none 0 0],.int .i64 15]) (by simp [results,Tryz.results32,go_sem,q0,q1]) rfl ?_
    exact HF.err hEE.out (by decide) hfw10.out
   have hsn:=hZ (Jp.snoc hpl.out hpc0.out hx.out hpp)
   replace hpp:=hZ hpp
   obtain ⟨pn,hpn⟩:∃ pn,pn=p.nm:=⟨_,rfl⟩
   obtain ⟨pg,hpg⟩:∃ pg,pg=p.ng:=⟨_,rfl⟩
   obtain ⟨pd,hpd⟩:∃ pd,pd=tx p.k:=⟨_,rfl⟩
   rw [← hpn,← hpg,← hpd]
   replace hpn:=hZ hpn
   replace hpg:=hZ hpg
   replace hpd:=hZ hpd
   obtain ⟨W6,hW6⟩:∃ W6,W6=wA.alloc (.cells #[.string pn,.bool pg,.string pd] 143):=⟨_,rfl⟩
   have f6:Fr wA W6:=by rw [hW6]; exact (Fr.refl _).alloc _
   obtain ⟨qb,hqb⟩:∃ qb,qb=wA.heap.size:=⟨_,rfl⟩
   have hP6:FK W6 qb (.string pn) (.bool pg) (.string pd):=by rw [hW6,hqb]; exact FK.new _ _ _ _ _
   go_upto_region 14 with (fail)
   rw [← hW6,← hqb]
   clear hW6
   replace hqb:=hZ hqb
   obtain ⟨m0,m1,m2,-,-,-⟩:=hP6
   have hfa:Fr wo (W6.alloc (.cells #[.string pn,.bool pg,.string pd] 143)):=(hfA.trans f6).alloc _
   have hownG:=Ba hown.out hfa
   have hcs:=QD W6 (.string pn) (.bool pg) (.string pd) 143 W6.heap.size rfl
   have hz1:=hf.size
   have hz2:=(hfA.trans f6).size
   replace hcs:=hZ hcs
   go_wp2_with (at_builtin; refine At _ rfl _ _ 141 (by rfl) _ 143 _ _ 3 40 Tryz.underlying141 ki kz0 kz1 kz2 rfl (by decide) _ i _ (by rfl) hownG ⟨W6.heap.size,0,none⟩ 1 1 [.string pn,.bool pg,.string pd] (by rfl) rfl hcs.out (by simp [Value.oneCell']) (by decide) (by unfold maxLen; omega) (by omega) (by simp; omega) (W6.heap.size+1) (by simp) ?_; intro gA capA wA hownA hgrowA hatA hltA; replace hownA:=hZ hownA)
   have hfrA:Fr w3 wA:=(hf.trans hfa).grown hgrowA (fun k e=>(hown.out.lt k e).1)
   go_wp2_with fail
   go_roundg (ko - 1)
   case measure=>omega
   case rel=>exact ⟨i+1,ps ++ [p],by go_num,by omega,hfrA,by show World.ownsRow _ _ _ _ _ _ _; rw [Qw,← hpn.out,← hpg.out,← hpd.out]; exact hownA.out,hsn.out.1,hsn.out.2⟩
  ·have hdI:decide (i < m)=false:=Aa hi
   obtain rfl:m=i:=by omega
   obtain ⟨pcs,rfl⟩:∃ pcs,pcs=ps:=⟨_,rfl⟩
   have hall:Jp ws pcs:=⟨by rw [hpl.out]; exact hm.out,hpc0.out⟩
   have hPE9:=hPE.out pcs hall
   have hpq:=hZ (JG hall).1
   have hki:Hid (∀ (i:Nat) (p:Pc),pcs[i]?=some p→1≤p.k∧(tx p.k).size≤65536):=fun i p hp=>by
    obtain ⟨x,hx⟩:∃ x,ws[i]?=some x:=⟨_,Ab (by have:=(Ah.1 hp).1; have:=hall.1; omega)⟩
    obtain ⟨h1,h2,-⟩:=Uy (hall.2 i x p hx hp)
    have:=hwsz.out x (Ae hx)
    exact ⟨h1,by omega⟩
   obtain ⟨ats,hats⟩:∃ ats,ats=pcs.map fun p=>HZ A p.nm:=⟨_,rfl⟩
   have hal:Hid (ats.length=m):=by show _=_; rw [hats,Am,hpl.out]
   have hati:Hid (∀ (i:Nat) (p:Pc),pcs[i]?=some p→ats[i]?=some (HZ A p.nm)):=fun i p hp=>by rw [hats,Ao,hp]; rfl
   have hatr:Hid (∀ (i:Nat) (t:Int),ats[i]?=some t→-1≤t∧t < d):=fun i t ht=>by
    obtain ⟨p,hp⟩:∃ p,pcs[i]?=some p:=⟨_,Ab (by have:=(Ah.1 ht).1; have:=hal.out; have:=hpl.out; omega)⟩
    have:=hati.out i p hp
    rw [ht] at this
    injection this with this
    rw [this]; exact hta.out p.nm
   rw [← hi0.out,← hats] at hPE9
   have hatq:Hid (UJ A ws=ats.map Int.toNat):=by show _=_; unfold UJ SL; rw [hpq.out,← hats]
   replace hats:=hZ hats
   replace hPE9:=hZ hPE9
   replace hall:=hZ hall
   clear hPE hpc0
   have hown9:=hown.out
   obtain ⟨a3,c3,rfl,hpc0⟩:=Nd hown9
   have hpc:=hZ hpc0
   clear hpc0
   clear hown9 hown
   have n0:=hf.keep (f13.keep hN1.out.a)
   have n1:=hf.keep (f13.keep hN1.out.b)
   have k0:=hf.keep (hcw.out 0 w0 rfl)
   have hfo:Hid (∀ W,Fr wo W→Calls Tryz.prog 86 #[.slice aN M cN,.string w0] W fun e w'=>e=.returned (.int .i64 i0)∧Fr W w'):=fun W hW=>hfn.out W (hFr.trans hW)
   have hS0:=hZ (fun W' (hW':Fr wo W')=>(⟨hW'.keep n0,hW'.keep n1,hW'.keep k0⟩:W'.cell? ⟨nb,0,none⟩=some (.slice aN M cN)∧W'.cell? ⟨nb,1,none⟩=some (.slice aA d cA)∧W'.cell? ⟨wb,0,none⟩=some (.string w0)))
   go_upto_region 18 with (fail)
   go_cut [13] from 60 (fun s13 wc=>∃ (gO ob:Nat),s13=.pointer (some ⟨ob,0,none⟩)∧Fr wo wc∧Br wc ob (.int .i64 i0) (.slice (some ⟨gO,0,none⟩) d d)∧Gp wc gO 0 (List.replicate d 0)∧wo.heap.size≤gO∧wo.heap.size≤ob∧gO≠ob)
   case first=>
    have hgw:gN≤wo.heap.size:=by have:=hFr.size; omega
    clear hPE9 hpq hki hal hati hatr hatq hats hall hcu0 hfn hfa hta hErf hi0 hpc hpl hm hM hwsz hcw hin
    have hd0:Fr wo wo.drew:=(Fr.refl wo).drew
    refine BP (S:=fun W'=>W'.cell? ⟨nb,0,none⟩=some (.slice aN M cN)∧W'.cell? ⟨nb,1,none⟩=some (.slice aA d cA)∧W'.cell? ⟨wb,0,none⟩=some (.string w0)) 12 (by kernel_rfl) (hS0.out _ hd0) (fun hHeld=>?_)
    refine uM 0 60 ?_; try simp only [BL,BV,BU]
    refine uM 1 61 ?_; try simp only [BL,BV,BU]
    refine uM 2 62 ?_; try simp only [BL,BV,BU]
    refine uM 3 63 ?_; try simp only [BL,BV,BU]
    refine uM 4 64 ?_; try simp only [BL,BV,BU]
    refine uM 6 66 ?_; try simp only [BL,BV,BU]
    refine uM 7 67 ?_; try simp only [BL,BV,BU]
    refine uM 8 68 ?_; try simp only [BL,BV,BU]
    obtain ⟨wd,hwd⟩:∃ wd,wd=wo.drew:=⟨_,rfl⟩
    rw [← hwd] at hd0 hHeld ⊢
    clear hwd
    refine Ci (rs:=[5,9,11]) (by kernel_rfl) (by simp) ?_
    refine Bc.cons rfl (fun K hK=>?_) (Bc.cons rfl (fun K hK=>?_) (Bc.cons rfl (fun K hK=>?_) Bc.nil))
    ·
     go_simp
     refine (hfo.out _ hd0).mono ?_
     rintro e wa5 ⟨rfl,hfC⟩
     have ha5:Fr wo wa5:=Fr.trans hd0 hfC
     (try replace hMk:=hMk.fr hfC)
     (try replace hAl:=hAl.fr hfC)
     (try replace hM2:=An hM2 hfC.size)
     go_wp2_with fail
     refine hK.out _ _ (hS0.out _ ha5) (fun hHeld=>?_)
     clear hK K hfC
     try simp only [Act.put,BL]
     refine Ci (rs:=[9,11]) (by kernel_rfl) (by simp) ?_
     refine Bc.cons rfl (fun K hK=>?_) (Bc.cons rfl (fun K hK=>?_) Bc.nil)
     ·
      refine C4 _ rfl _ _ 44 rfl wa5.heap.size 3 i4 _ 1 Tryz.underlying44 li lz0 lz1 .i64 .i64 (d:Int) (d:Int) d (by simp [Act.eval]) (by simp [Act.eval]) rfl rfl (by rw [lz2]; omega) (by unfold maxLen; omega) (Ag _) ?_
      intro wb9 hownM hgrM
      have hfM:Fr wa5 wb9:=(Fr.refl _).grown hgrM (fun k e=>by cases e)
      have hb9:Fr wo wb9:=Fr.trans ha5 hfM
      rw [EJ d rfl] at hownM
      (try have hAl9:=hAl.lt)
      obtain ⟨gO,hgO⟩:∃ gO,gO=wa5.heap.size:=⟨_,rfl⟩
      rw [← hgO] at hownM ⊢
      have hM1:wo.heap.size≤gO:=by rw [hgO]; exact Fr.size ha5
      (try have hne:gO≠ob:=by omega)
      replace hgO:=hZ hgO
      have hMk:=(Cr (by omega) (B5 (base':=gN) hownM (by have:=hgO.out; omega))).1
      have hM2:gO < wb9.heap.size:=(hownM.lt gO rfl).2
      (try replace hAl:=hAl.fr hfM)
      refine hK.out _ _ (hS0.out _ hb9) (fun hHeld=>?_)
      clear hK K hownM hgrM
      try simp only [Act.put,BL]
      refine uM 10 70 ?_; try simp only [BL,BV,BU]
      refine Ci (rs:=[11]) (by kernel_rfl) (by simp) ?_
      refine Bc.cons rfl (fun K hK=>?_) Bc.nil
      go_simp
      refine hK.out _ _ (hS0.out _ (Fr.alloc hb9 _)) (fun hHeld=>?_)
      clear hK K
      try simp only [Act.put,BL]
      obtain ⟨wc11,hW⟩:∃ W,W=wb9.alloc (.cells #[.int .i64 0,.slice none 0 0] 50):=⟨_,rfl⟩
      have hfA:Fr wb9 wc11:=by rw [hW]; exact (Fr.refl _).alloc _
      have hc11:Fr wo wc11:=Fr.trans hb9 hfA
      obtain ⟨ob,hob⟩:∃ ob,ob=wb9.heap.size:=⟨_,rfl⟩
      have hAl:Br wc11 ob (.int .i64 0) (.slice none 0 0):=by rw [hW,hob]; exact Br.new _ _ _ _
      have hA1:wo.heap.size≤ob:=by rw [hob]; exact Fr.size hb9
      (try have hne:gO≠ob:=by omega)
      rw [← hob,← hW]
      rw [← hW] at hHeld
      (try replace hMk:=hMk.fr hfA)
      (try replace hM2:=An hM2 hfA.size)
      clear hW
      replace hob:=hZ hob
      have hC9:=hZ ((hAl.set0 (.int .i64 i0)).set1 (.slice (some ⟨gO,0,none⟩) d d))
      have hfx9:Hid (Fx (·=ob) wc11 ((wc11.setCell ⟨ob,0,none⟩ (.int .i64 i0)).setCell ⟨ob,1,none⟩ (.slice (some ⟨gO,0,none⟩) d d))):=Fx.setCell (p:=(·=ob)) (q:=⟨ob,1,none⟩) (Fx.setCell (p:=(·=ob)) (q:=⟨ob,0,none⟩) (Fx.refl _ wc11) (.inl rfl) _) (.inl rfl) _
      have x1:=(hAl.set0 (.int .i64 i0)).b
      have x2:=(hAl.set0 (.int .i64 i0)).fb
      obtain ⟨p0,p1,p2,p3⟩:=hAl
      replace hMk:=hZ hMk
      clear hHeld
      refine uL 12 (fun K hK=>?_)
      go_simp
      refine hK.out _ _ ?_
      clear hK K
      go_wp2_with fail
      go_meet
      case rel=>exact ⟨gO,ob,rfl,((Fx.of_fr hc11).trans hfx9.out).toFr (fun k hk e=>by have e:k=ob:=e; omega),hC9.out,hMk.out.fx hfx9.out (fun e=>hne e),hM1,hA1,hne⟩
     ·
      go_simp
      refine hK.out _ _ (hS0.out _ (Fr.alloc ha5 _)) (fun hHeld=>?_)
      clear hK K
      try simp only [Act.put,BL]
      obtain ⟨wb11,hW⟩:∃ W,W=wa5.alloc (.cells #[.int .i64 0,.slice none 0 0] 50):=⟨_,rfl⟩
      have hfA:Fr wa5 wb11:=by rw [hW]; exact (Fr.refl _).alloc _
      have hb11:Fr wo wb11:=Fr.trans ha5 hfA
      obtain ⟨ob,hob⟩:∃ ob,ob=wa5.heap.size:=⟨_,rfl⟩
      have hAl:Br wb11 ob (.int .i64 0) (.slice none 0 0):=by rw [hW,hob]; exact Br.new _ _ _ _
      have hA1:wo.heap.size≤ob:=by rw [hob]; exact Fr.size ha5
      (try have hne:gO≠ob:=by omega)
      rw [← hob,← hW]
      rw [← hW] at hHeld
      (try replace hMk:=hMk.fr hfA)
      (try replace hM2:=An hM2 hfA.size)
      clear hW
      replace hob:=hZ hob
      refine Ci (rs:=[9]) (by kernel_rfl) (by simp) ?_
      refine Bc.cons rfl (fun K hK=>?_) Bc.nil
      refine C4 _ rfl _ _ 44 rfl wb11.heap.size 3 i4 _ 1 Tryz.underlying44 li lz0 lz1 .i64 .i64 (d:Int) (d:Int) d (by simp [Act.eval]) (by simp [Act.eval]) rfl rfl (by rw [lz2]; omega) (by unfold maxLen; omega) (Ag _) ?_
      intro wc9 hownM hgrM
      have hfM:Fr wb11 wc9:=(Fr.refl _).grown hgrM (fun k e=>by cases e)
      have hc9:Fr wo wc9:=Fr.trans hb11 hfM
      rw [EJ d rfl] at hownM
      (try have hAl9:=hAl.lt)
      obtain ⟨gO,hgO⟩:∃ gO,gO=wb11.heap.size:=⟨_,rfl⟩
      rw [← hgO] at hownM ⊢
      have hM1:wo.heap.size≤gO:=by rw [hgO]; exact Fr.size hb11
      (try have hne:gO≠ob:=by omega)
      replace hgO:=hZ hgO
      have hMk:=(Cr (by omega) (B5 (base':=gN) hownM (by have:=hgO.out; omega))).1
      have hM2:gO < wc9.heap.size:=(hownM.lt gO rfl).2
      (try replace hAl:=hAl.fr hfM)
      refine hK.out _ _ (hS0.out _ hc9) (fun hHeld=>?_)
      clear hK K hownM hgrM
      try simp only [Act.put,BL]
      refine uM 10 70 ?_; try simp only [BL,BV,BU]
      have hC9:=hZ ((hAl.set0 (.int .i64 i0)).set1 (.slice (some ⟨gO,0,none⟩) d d))
      have hfx9:Hid (Fx (·=ob) wc9 ((wc9.setCell ⟨ob,0,none⟩ (.int .i64 i0)).setCell ⟨ob,1,none⟩ (.slice (some ⟨gO,0,none⟩) d d))):=Fx.setCell (p:=(·=ob)) (q:=⟨ob,1,none⟩) (Fx.setCell (p:=(·=ob)) (q:=⟨ob,0,none⟩) (Fx.refl _ wc9) (.inl rfl) _) (.inl rfl) _
      have x1:=(hAl.set0 (.int .i64 i0)).b
      have x2:=(hAl.set0 (.int .i64 i0)).fb
      obtain ⟨p0,p1,p2,p3⟩:=hAl
      replace hMk:=hZ hMk
      clear hHeld
      refine uL 12 (fun K hK=>?_)
      go_simp
      refine hK.out _ _ ?_
      clear hK K
      go_wp2_with fail
      go_meet
      case rel=>exact ⟨gO,ob,rfl,((Fx.of_fr hc9).trans hfx9.out).toFr (fun k hk e=>by have e:k=ob:=e; omega),hC9.out,hMk.out.fx hfx9.out (fun e=>hne e),hM1,hA1,hne⟩
    ·
     refine C4 _ rfl _ _ 44 rfl wd.heap.size 3 i4 _ 1 Tryz.underlying44 li lz0 lz1 .i64 .i64 (d:Int) (d:Int) d (by simp [Act.eval]) (by simp [Act.eval]) rfl rfl (by rw [lz2]; omega) (by unfold maxLen; omega) (Ag _) ?_
     intro wa9 hownM hgrM
     have hfM:Fr wd wa9:=(Fr.refl _).grown hgrM (fun k e=>by cases e)
     have ha9:Fr wo wa9:=Fr.trans hd0 hfM
     rw [EJ d rfl] at hownM
     (try have hAl9:=hAl.lt)
     obtain ⟨gO,hgO⟩:∃ gO,gO=wd.heap.size:=⟨_,rfl⟩
     rw [← hgO] at hownM ⊢
     have hM1:wo.heap.size≤gO:=by rw [hgO]; exact Fr.size hd0
     (try have hne:gO≠ob:=by omega)
     replace hgO:=hZ hgO
     have hMk:=(Cr (by omega) (B5 (base':=gN) hownM (by have:=hgO.out; omega))).1
     have hM2:gO < wa9.heap.size:=(hownM.lt gO rfl).2
     (try replace hAl:=hAl.fr hfM)
     refine hK.out _ _ (hS0.out _ ha9) (fun hHeld=>?_)
     clear hK K hownM hgrM
     try simp only [Act.put,BL]
     refine Ci (rs:=[5,11]) (by kernel_rfl) (by simp) ?_
     refine Bc.cons rfl (fun K hK=>?_) (Bc.cons rfl (fun K hK=>?_) Bc.nil)
     ·
      go_simp
      refine (hfo.out _ ha9).mono ?_
      rintro e wb5 ⟨rfl,hfC⟩
      have hb5:Fr wo wb5:=Fr.trans ha9 hfC
      (try replace hMk:=hMk.fr hfC)
      (try replace hAl:=hAl.fr hfC)
      (try replace hM2:=An hM2 hfC.size)
      go_wp2_with fail
      refine hK.out _ _ (hS0.out _ hb5) (fun hHeld=>?_)
      clear hK K hfC
      try simp only [Act.put,BL]
      refine uM 10 70 ?_; try simp only [BL,BV,BU]
      refine Ci (rs:=[11]) (by kernel_rfl) (by simp) ?_
      refine Bc.cons rfl (fun K hK=>?_) Bc.nil
      go_simp
      refine hK.out _ _ (hS0.out _ (Fr.alloc hb5 _)) (fun hHeld=>?_)
      clear hK K
      try simp only [Act.put,BL]
      obtain ⟨wc11,hW⟩:∃ W,W=wb5.alloc (.cells #[.int .i64 0,.slice none 0 0] 50):=⟨_,rfl⟩
      have hfA:Fr wb5 wc11:=by rw [hW]; exact (Fr.refl _).alloc _
      have hc11:Fr wo wc11:=Fr.trans hb5 hfA
      obtain ⟨ob,hob⟩:∃ ob,ob=wb5.heap.size:=⟨_,rfl⟩
      have hAl:Br wc11 ob (.int .i64 0) (.slice none 0 0):=by rw [hW,hob]; exact Br.new _ _ _ _
      have hA1:wo.heap.size≤ob:=by rw [hob]; exact Fr.size hb5
      (try have hne:gO≠ob:=by omega)
      rw [← hob,← hW]
      rw [← hW] at hHeld
      (try replace hMk:=hMk.fr hfA)
      (try replace hM2:=An hM2 hfA.size)
      clear hW
      replace hob:=hZ hob
      have hC9:=hZ ((hAl.set0 (.int .i64 i0)).set1 (.slice (some ⟨gO,0,none⟩) d d))
      have hfx9:Hid (Fx (·=ob) wc11 ((wc11.setCell ⟨ob,0,none⟩ (.int .i64 i0)).setCell ⟨ob,1,none⟩ (.slice (some ⟨gO,0,none⟩) d d))):=Fx.setCell (p:=(·=ob)) (q:=⟨ob,1,none⟩) (Fx.setCell (p:=(·=ob)) (q:=⟨ob,0,none⟩) (Fx.refl _ wc11) (.inl rfl) _) (.inl rfl) _
      have x1:=(hAl.set0 (.int .i64 i0)).b
      have x2:=(hAl.set0 (.int .i64 i0)).fb
      obtain ⟨p0,p1,p2,p3⟩:=hAl
      replace hMk:=hZ hMk
      clear hHeld
      refine uL 12 (fun K hK=>?_)
      go_simp
      refine hK.out _ _ ?_
      clear hK K
      go_wp2_with fail
      go_meet
      case rel=>exact ⟨gO,ob,rfl,((Fx.of_fr hc11).trans hfx9.out).toFr (fun k hk e=>by have e:k=ob:=e; omega),hC9.out,hMk.out.fx hfx9.out (fun e=>hne e),hM1,hA1,hne⟩
     ·
      go_simp
      refine hK.out _ _ (hS0.out _ (Fr.alloc ha9 _)) (fun hHeld=>?_)
      clear hK K
      try simp only [Act.put,BL]
      obtain ⟨wb11,hW⟩:∃ W,W=wa9.alloc (.cells #[.int .i64 0,.slice none 0 0] 50):=⟨_,rfl⟩
      have hfA:Fr wa9 wb11:=by rw [hW]; exact (Fr.refl _).alloc _
      have hb11:Fr wo wb11:=Fr.trans ha9 hfA
      obtain ⟨ob,hob⟩:∃ ob,ob=wa9.heap.size:=⟨_,rfl⟩
      have hAl:Br wb11 ob (.int .i64 0) (.slice none 0 0):=by rw [hW,hob]; exact Br.new _ _ _ _
      have hA1:wo.heap.size≤ob:=by rw [hob]; exact Fr.size ha9
      (try have hne:gO≠ob:=by omega)
      rw [← hob,← hW]
      rw [← hW] at hHeld
      (try replace hMk:=hMk.fr hfA)
      (try replace hM2:=An hM2 hfA.size)
      clear hW
      replace hob:=hZ hob
      refine Ci (rs:=[5]) (by kernel_rfl) (by simp) ?_
      refine Bc.cons rfl (fun K hK=>?_) Bc.nil
      go_simp
      refine (hfo.out _ hb11).mono ?_
      rintro e wc5 ⟨rfl,hfC⟩
      have hc5:Fr wo wc5:=Fr.trans hb11 hfC
      (try replace hMk:=hMk.fr hfC)
      (try replace hAl:=hAl.fr hfC)
      (try replace hM2:=An hM2 hfC.size)
      go_wp2_with fail
      refine hK.out _ _ (hS0.out _ hc5) (fun hHeld=>?_)
      clear hK K hfC
      try simp only [Act.put,BL]
      refine uM 10 70 ?_; try simp only [BL,BV,BU]
      have hC9:=hZ ((hAl.set0 (.int .i64 i0)).set1 (.slice (some ⟨gO,0,none⟩) d d))
      have hfx9:Hid (Fx (·=ob) wc5 ((wc5.setCell ⟨ob,0,none⟩ (.int .i64 i0)).setCell ⟨ob,1,none⟩ (.slice (some ⟨gO,0,none⟩) d d))):=Fx.setCell (p:=(·=ob)) (q:=⟨ob,1,none⟩) (Fx.setCell (p:=(·=ob)) (q:=⟨ob,0,none⟩) (Fx.refl _ wc5) (.inl rfl) _) (.inl rfl) _
      have x1:=(hAl.set0 (.int .i64 i0)).b
      have x2:=(hAl.set0 (.int .i64 i0)).fb
      obtain ⟨p0,p1,p2,p3⟩:=hAl
      replace hMk:=hZ hMk
      clear hHeld
      refine uL 12 (fun K hK=>?_)
      go_simp
      refine hK.out _ _ ?_
      clear hK K
      go_wp2_with fail
      go_meet
      case rel=>exact ⟨gO,ob,rfl,((Fx.of_fr hc5).trans hfx9.out).toFr (fun k hk e=>by have e:k=ob:=e; omega),hC9.out,hMk.out.fx hfx9.out (fun e=>hne e),hM1,hA1,hne⟩
    ·
     go_simp
     refine hK.out _ _ (hS0.out _ (Fr.alloc hd0 _)) (fun hHeld=>?_)
     clear hK K
     try simp only [Act.put,BL]
     obtain ⟨wa11,hW⟩:∃ W,W=wd.alloc (.cells #[.int .i64 0,.slice none 0 0] 50):=⟨_,rfl⟩
     have hfA:Fr wd wa11:=by rw [hW]; exact (Fr.refl _).alloc _
     have ha11:Fr wo wa11:=Fr.trans hd0 hfA
     obtain ⟨ob,hob⟩:∃ ob,ob=wd.heap.size:=⟨_,rfl⟩
     have hAl:Br wa11 ob (.int .i64 0) (.slice none 0 0):=by rw [hW,hob]; exact Br.new _ _ _ _
     have hA1:wo.heap.size≤ob:=by rw [hob]; exact Fr.size hd0
     (try have hne:gO≠ob:=by omega)
     rw [← hob,← hW]
     rw [← hW] at hHeld
     (try replace hMk:=hMk.fr hfA)
     (try replace hM2:=An hM2 hfA.size)
     clear hW
     replace hob:=hZ hob
     refine Ci (rs:=[5,9]) (by kernel_rfl) (by simp) ?_
     refine Bc.cons rfl (fun K hK=>?_) (Bc.cons rfl (fun K hK=>?_) Bc.nil)
     ·
      go_simp
      refine (hfo.out _ ha11).mono ?_
      rintro e wb5 ⟨rfl,hfC⟩
      have hb5:Fr wo wb5:=Fr.trans ha11 hfC
      (try replace hMk:=hMk.fr hfC)
      (try replace hAl:=hAl.fr hfC)
      (try replace hM2:=An hM2 hfC.size)
      go_wp2_with fail
      refine hK.out _ _ (hS0.out _ hb5) (fun hHeld=>?_)
      clear hK K hfC
      try simp only [Act.put,BL]
      refine Ci (rs:=[9]) (by kernel_rfl) (by simp) ?_
      refine Bc.cons rfl (fun K hK=>?_) Bc.nil
      refine C4 _ rfl _ _ 44 rfl wb5.heap.size 3 i4 _ 1 Tryz.underlying44 li lz0 lz1 .i64 .i64 (d:Int) (d:Int) d (by simp [Act.eval]) (by simp [Act.eval]) rfl rfl (by rw [lz2]; omega) (by unfold maxLen; omega) (Ag _) ?_
      intro wc9 hownM hgrM
      have hfM:Fr wb5 wc9:=(Fr.refl _).grown hgrM (fun k e=>by cases e)
      have hc9:Fr wo wc9:=Fr.trans hb5 hfM
      rw [EJ d rfl] at hownM
      (try have hAl9:=hAl.lt)
      obtain ⟨gO,hgO⟩:∃ gO,gO=wb5.heap.size:=⟨_,rfl⟩
      rw [← hgO] at hownM ⊢
      have hM1:wo.heap.size≤gO:=by rw [hgO]; exact Fr.size hb5
      (try have hne:gO≠ob:=by omega)
      replace hgO:=hZ hgO
      have hMk:=(Cr (by omega) (B5 (base':=gN) hownM (by have:=hgO.out; omega))).1
      have hM2:gO < wc9.heap.size:=(hownM.lt gO rfl).2
      (try replace hAl:=hAl.fr hfM)
      refine hK.out _ _ (hS0.out _ hc9) (fun hHeld=>?_)
      clear hK K hownM hgrM
      try simp only [Act.put,BL]
      refine uM 10 70 ?_; try simp only [BL,BV,BU]
      have hC9:=hZ ((hAl.set0 (.int .i64 i0)).set1 (.slice (some ⟨gO,0,none⟩) d d))
      have hfx9:Hid (Fx (·=ob) wc9 ((wc9.setCell ⟨ob,0,none⟩ (.int .i64 i0)).setCell ⟨ob,1,none⟩ (.slice (some ⟨gO,0,none⟩) d d))):=Fx.setCell (p:=(·=ob)) (q:=⟨ob,1,none⟩) (Fx.setCell (p:=(·=ob)) (q:=⟨ob,0,none⟩) (Fx.refl _ wc9) (.inl rfl) _) (.inl rfl) _
      have x1:=(hAl.set0 (.int .i64 i0)).b
      have x2:=(hAl.set0 (.int .i64 i0)).fb
      obtain ⟨p0,p1,p2,p3⟩:=hAl
      replace hMk:=hZ hMk
      clear hHeld
      refine uL 12 (fun K hK=>?_)
      go_simp
      refine hK.out _ _ ?_
      clear hK K
      go_wp2_with fail
      go_meet
      case rel=>exact ⟨gO,ob,rfl,((Fx.of_fr hc9).trans hfx9.out).toFr (fun k hk e=>by have e:k=ob:=e; omega),hC9.out,hMk.out.fx hfx9.out (fun e=>hne e),hM1,hA1,hne⟩
     ·
      refine C4 _ rfl _ _ 44 rfl wa11.heap.size 3 i4 _ 1 Tryz.underlying44 li lz0 lz1 .i64 .i64 (d:Int) (d:Int) d (by simp [Act.eval]) (by simp [Act.eval]) rfl rfl (by rw [lz2]; omega) (by unfold maxLen; omega) (Ag _) ?_
      intro wb9 hownM hgrM
      have hfM:Fr wa11 wb9:=(Fr.refl _).grown hgrM (fun k e=>by cases e)
      have hb9:Fr wo wb9:=Fr.trans ha11 hfM
      rw [EJ d rfl] at hownM
      (try have hAl9:=hAl.lt)
      obtain ⟨gO,hgO⟩:∃ gO,gO=wa11.heap.size:=⟨_,rfl⟩
      rw [← hgO] at hownM ⊢
      have hM1:wo.heap.size≤gO:=by rw [hgO]; exact Fr.size ha11
      (try have hne:gO≠ob:=by omega)
      replace hgO:=hZ hgO
      have hMk:=(Cr (by omega) (B5 (base':=gN) hownM (by have:=hgO.out; omega))).1
      have hM2:gO < wb9.heap.size:=(hownM.lt gO rfl).2
      (try replace hAl:=hAl.fr hfM)
      refine hK.out _ _ (hS0.out _ hb9) (fun hHeld=>?_)
      clear hK K hownM hgrM
      try simp only [Act.put,BL]
      refine Ci (rs:=[5]) (by kernel_rfl) (by simp) ?_
      refine Bc.cons rfl (fun K hK=>?_) Bc.nil
      go_simp
      refine (hfo.out _ hb9).mono ?_
      rintro e wc5 ⟨rfl,hfC⟩
      have hc5:Fr wo wc5:=Fr.trans hb9 hfC
      (try replace hMk:=hMk.fr hfC)
      (try replace hAl:=hAl.fr hfC)
      (try replace hM2:=An hM2 hfC.size)
      go_wp2_with fail
      refine hK.out _ _ (hS0.out _ hc5) (fun hHeld=>?_)
      clear hK K hfC
      try simp only [Act.put,BL]
      refine uM 10 70 ?_; try simp only [BL,BV,BU]
      have hC9:=hZ ((hAl.set0 (.int .i64 i0)).set1 (.slice (some ⟨gO,0,none⟩) d d))
      have hfx9:Hid (Fx (·=ob) wc5 ((wc5.setCell ⟨ob,0,none⟩ (.int .i64 i0)).setCell ⟨ob,1,none⟩ (.slice (some ⟨gO,0,none⟩) d d))):=Fx.setCell (p:=(·=ob)) (q:=⟨ob,1,none⟩) (Fx.setCell (p:=(·=ob)) (q:=⟨ob,0,none⟩) (Fx.refl _ wc5) (.inl rfl) _) (.inl rfl) _
      have x1:=(hAl.set0 (.int .i64 i0)).b
      have x2:=(hAl.set0 (.int .i64 i0)).fb
      obtain ⟨p0,p1,p2,p3⟩:=hAl
      replace hMk:=hZ hMk
      clear hHeld
      refine uL 12 (fun K hK=>?_)
      go_simp
      refine hK.out _ _ ?_
      clear hK K
      go_wp2_with fail
      go_meet
      case rel=>exact ⟨gO,ob,rfl,((Fx.of_fr hc5).trans hfx9.out).toFr (fun k hk e=>by have e:k=ob:=e; omega),hC9.out,hMk.out.fx hfx9.out (fun e=>hne e),hM1,hA1,hne⟩
   obtain ⟨gO,ob,rfl,hfc,hO5,hOw,hgo1,hgo2,hgo3⟩:=hcut
   obtain ⟨W5,rfl⟩:∃ W5:World,W5=wc:=⟨_,rfl⟩
   have f05:=hfc
   have hpc5:Hid (∀ W,Fr W5 W→∀ (j:Nat) (u:Value),(IY pcs)[j]?=some u→∃ g,a3=some ⟨g,0,none⟩∧g < wo.heap.size∧W.cell? ⟨g,j,none⟩=some u):=fun W hW j u hj=>by
    obtain ⟨g,e,-,h2,h3⟩:=hpc.out j u hj
    exact ⟨g,e,h2,(f05.trans hW).keep h3⟩
   have hF5:=hFr.trans f05
   clear n0 n1 k0 hS0 hfo hpc hcw hfc
   replace hOw:=hZ hOw
   replace hO5:=hZ hO5
   have f15:=hZ ((f13.trans hf).trans f05)
   have hz5:Hid (w3.heap.size≤gO):=AE hf.size hgo1
   go_wp2_with fail
   go_loopg [14,73] m (fun k s14 s73 wr=>∃ i:Nat,s73=.int .i64 i∧i+k=m∧Fr W5 wr∧Hid (wr.ownsRow W5.heap.size 3 1 s14 i ((ats.take i).map iv)))
   case atStart=>exact ⟨0,rfl,by omega,Fr.refl _,A6 _ _ _ _⟩
   case round=>
    obtain ⟨i,rfl,hik,hf6,hown⟩:=hrel
    obtain ⟨wv,rfl⟩:∃ wv:World,wv=wr:=⟨_,rfl⟩
    obtain ⟨kv,rfl⟩:∃ kv:Nat,kv=gk:=⟨_,rfl⟩
    by_cases hi:i < m
    ·have hdI:decide (i < m)=true:=Ac hi
     obtain ⟨p,hp⟩:∃ p,pcs[i]?=some p:=⟨_,Ab (by rw [hpl.out]; exact hi)⟩
     obtain ⟨t,ht0⟩:∃ t,t=HZ A p.nm:=⟨_,rfl⟩
     have ht:ats[i]?=some t:=by rw [ht0]; exact hati.out i p hp
     obtain ⟨c0,c1,c2⟩:=LY pcs i p hp
     obtain ⟨g3,rfl,-,c0⟩:=hpc5.out _ hf6 _ _ c0
     obtain ⟨g3',e3,-,c1⟩:=hpc5.out _ hf6 _ _ c1
     injection e3 with e3
     injection e3 with e3
     subst e3
     obtain ⟨g3',e3,-,c2⟩:=hpc5.out _ hf6 _ _ c2
     injection e3 with e3
     injection e3 with e3
     subst e3
     have hfA1:=hZ (fun W (hW:Fr wv W)=>hfa.out p.nm W ((hF5.trans hf6).trans hW))
     rw [← ht0] at hfA1
     have hsn:Hid ((ats.take (i+1)).map iv=(ats.take i).map iv ++ [iv t]):=by show _=_; rw [Bx ht,Aw]; rfl
     replace ht0:=hZ ht0
     obtain ⟨pn,hpn⟩:∃ pn,pn=p.nm:=⟨_,rfl⟩
     obtain ⟨pg,hpg⟩:∃ pg,pg=p.ng:=⟨_,rfl⟩
     obtain ⟨pd,hpd⟩:∃ pd,pd=tx p.k:=⟨_,rfl⟩
     rw [← hpn] at c0 hfA1
     rw [← hpg] at c1
     rw [← hpd] at c2
     replace hpn:=hZ hpn
     replace hpg:=hZ hpg
     replace hpd:=hZ hpd
     replace hp:=hZ hp
     replace ht:=hZ ht
     have z0:(0:Int)≤(i:Int):=Af _
     have z1:(i:Int) < (m:Int):=by omega
     obtain ⟨W6,hW6⟩:∃ W6,W6=wv.alloc (.cells #[.string pn,.bool pg,.string pd] 143):=⟨_,rfl⟩
     have f6:Fr wv W6:=by rw [hW6]; exact (Fr.refl _).alloc _
     obtain ⟨qb,hqb⟩:∃ qb,qb=wv.heap.size:=⟨_,rfl⟩
     have hP6:FK W6 qb (.string pn) (.bool pg) (.string pd):=by rw [hW6,hqb]; exact FK.new _ _ _ _ _
     go_upto_region 23 with (fail)
     rw [← hW6,← hqb]
     clear hW6 c0 c1 c2
     replace hqb:=hZ hqb
     have m0:=hP6.a
     have n1:=(hf6.trans f6).keep (f15.out.keep hN1.out.b)
     have hz7:=hf6.size
     have hz8:=f6.size
     go_wp2_with fail
     refine (hfA1.out _ f6).mono ?_
     rintro e wC ⟨rfl,hfC⟩
     have hownG:=Ba hown.out (f6.trans hfC)
     have hz9:=hfC.size
     go_wp2_with (at_builtin; refine At _ rfl _ _ 43 (by rfl) _ 3 _ _ 1 8 Tryz.underlying43 li lz0 lz1 lz2 rfl (by decide) _ i _ (by rfl) (Au hownG _) ⟨wC.heap.size,0,none⟩ 1 1 [.int .i64 t] (by rfl) rfl (AF _ _ _ _ (by simp)) (by simp [Value.oneCell']) (by decide) (by unfold maxLen; omega) (by omega) (by skip; simp; omega) (wC.heap.size+1) (by simp) ?_; intro gA capA wA hownA hgrowA hatA hltA)
     go_wp2_with fail
     go_roundg (kv - 1)
     case measure=>omega
     case rel=>exact ⟨i+1,by go_num,by omega,(((hf6.trans f6).trans hfC).alloc _).grown hgrowA (fun k e=>(hown.out.lt k e).1),by show World.ownsRow _ _ _ _ _ _ _; rw [hsn.out]; exact hownA⟩
    ·have hdI:decide (i < m)=false:=Aa hi
     obtain rfl:m=i:=by omega
     have hown9:=hown.out
     rw [Ak (by rw [hal.out]; exact Ag _)] at hown9
     have hcon0:=N4 (xs:=ats) hown9 hal.out (by omega)
     obtain ⟨a4,c4,rfl,hpcB⟩:=Nd hown9
     have hatc:Hid (∀ (W:World),Fr wv W→∀ (j:Nat) (t:Int),ats[j]?=some t→∃ g,a4=some ⟨g,0,none⟩∧W5.heap.size≤g∧W.cell? ⟨g,j,none⟩=some (.int .i64 t)):=fun W hW j t hj=>by
      obtain ⟨g,e,h1,-,h2⟩:=hpcB j (iv t) (by rw [Ao,hj]; rfl)
      exact ⟨g,e,h1,hW.keep h2⟩
     have hcon:=hZ hcon0
     clear hpcB hcon0
     obtain ⟨bc,hbc⟩:∃ bc,bc=ats.contains (-1):=⟨_,rfl⟩
     rw [← hbc] at hcon hPE9
     have o0:=hf6.keep hO5.out.a
     have hSv:=hS1.out.fr (f15.out.trans hf6)
     have hFv:=hF5.trans hf6
     clear hown9 hown
     by_cases hneg:i0 < 0
     ·have di:decide (i0 < 0)=true:=Ac hneg
      clear hcon
      have hS9:Br wv (nb+1) (.int .i64 0) (.slice none 0 0):=hSv
      have hS10:=hZ ((hS9.set0 (.int .i64 0)).set1 (.slice none 0 0))
      have hfx10:Hid (Fx (·=nb+1) wv (((wv).setCell ⟨nb+1,0,none⟩ (.int .i64 0)).setCell ⟨nb+1,1,none⟩ (.slice none 0 0))):=Fx.setCell (p:=(·=nb+1)) (q:=⟨nb+1,1,none⟩) (Fx.setCell (p:=(·=nb+1)) (q:=⟨nb+1,0,none⟩) (Fx.refl _ wv) (.inl rfl) _) (.inl rfl) _
      have hfw10:Hid (Fr w (((wv).setCell ⟨nb+1,0,none⟩ (.int .i64 0)).setCell ⟨nb+1,1,none⟩ (.slice none 0 0))):=((Fx.of_fr (hFv)).trans hfx10.out).toFr (fun k hk e=>by have e:k=nb+1:=e; have:=hnb.out; omega)
      have hEE:=hZ (show IO N A w0 ws=10 from (by rw [hPE9.out,Aj hneg]))
      have x1:=(hS9.set0 (.int .i64 0)).b
      have x2:=(hS9.set0 (.int .i64 0)).fb
      obtain ⟨b0,b1,e0,e1⟩:=hS9
      go_wp2_with fail
      have q0:=hS10.out.a
      have q1:=hS10.out.b
      refine Ax (v:=.tuple #[.agg #[.int .i64 0,.slice none 0 0],.int .i64 10]) (by simp [results,Tryz.results32,go_sem,q0,q1]) rfl ?_
      exact HF.err hEE.out (by decide) hfw10.out
     have di:decide (i0 < 0)=false:=Aa hneg
     replace hPE9:Hid _:=(hPE9.out.trans (Ai hneg))
     replace hneg:=hZ hneg
     replace hbc:=hZ hbc
     cases bc with
     | true=>
       go_wp2_with fail
       refine (hcon.out _ (Fr.refl _)).mono ?_
       rintro e wC ⟨rfl,rfl⟩
       have hS9:Br wC (nb+1) (.int .i64 0) (.slice none 0 0):=hSv
       have hS10:=hZ ((hS9.set0 (.int .i64 0)).set1 (.slice none 0 0))
       have hfx10:Hid (Fx (·=nb+1) wC (((wC).setCell ⟨nb+1,0,none⟩ (.int .i64 0)).setCell ⟨nb+1,1,none⟩ (.slice none 0 0))):=Fx.setCell (p:=(·=nb+1)) (q:=⟨nb+1,1,none⟩) (Fx.setCell (p:=(·=nb+1)) (q:=⟨nb+1,0,none⟩) (Fx.refl _ wC) (.inl rfl) _) (.inl rfl) _
       have hfw10:Hid (Fr w (((wC).setCell ⟨nb+1,0,none⟩ (.int .i64 0)).setCell ⟨nb+1,1,none⟩ (.slice none 0 0))):=((Fx.of_fr (hFv)).trans hfx10.out).toFr (fun k hk e=>by have e:k=nb+1:=e; have:=hnb.out; omega)
       have hEE:=hZ (show IO N A w0 ws=10 from (hPE9.out.trans rfl))
       have x1:=(hS9.set0 (.int .i64 0)).b
       have x2:=(hS9.set0 (.int .i64 0)).fb
       obtain ⟨b0,b1,e0,e1⟩:=hS9
       go_wp2_with fail
       have q0:=hS10.out.a
       have q1:=hS10.out.b
       refine Ax (v:=.tuple #[.agg #[.int .i64 0,.slice none 0 0],.int .i64 10]) (by simp [results,Tryz.results32,go_sem,q0,q1]) rfl ?_
       exact HF.err hEE.out (by decide) hfw10.out
     | false=>
     replace hPE9:Hid _:=(hPE9.out.trans (Ai (by decide)))
     have hat0:Hid (∀ (i:Nat) (t:Int),ats[i]?=some t→0≤t):=fun i t ht=>by
      have h1:=(hatr.out i t ht).1
      by_cases e:t=-1
      ·have h2:ats.contains (-1)=true:=Zf.2 (by rw [← e]; exact Ae ht)
       rw [← hbc.out] at h2; cases h2
      ·omega
     go_wp2_with fail
     refine (hcon.out _ (Fr.refl _)).mono ?_
     rintro e wC ⟨rfl,rfl⟩
     go_wp2_with fail
     go_loopg [17] (m - 1) (fun k s17 wr=>∃ i:Nat,s17=.int .i64 ((i+1:Nat):Int)∧(m≤i+1+k)∧(i+1≤m∨i=0)∧Fr wC wr∧Hid (∀ (j:Nat) (a b:Int),j < i→ats[j]?=some a→ats[j+1]?=some b→a < b))
     case atStart=>exact ⟨0,rfl,by omega,by omega,Fr.refl _,fun j a b h=>by omega⟩
     case round=>
      obtain ⟨i,rfl,hik,hik4,hf7,hinc⟩:=hrel
      obtain ⟨wx,rfl⟩:∃ wx:World,wx=wr:=⟨_,rfl⟩
      obtain ⟨kx,rfl⟩:∃ kx:Nat,kx=gk:=⟨_,rfl⟩
      by_cases hi:i+1 < m
      ·have hdI:decide ((i+1:Nat) < m)=true:=Ac hi
       have hdI2:decide (((i+1:Nat):Int) < (m:Int))=true:=Ac (by omega)
       obtain ⟨t,ht⟩:∃ t,ats[i]?=some t:=⟨_,Ab (by rw [hal.out]; omega)⟩
       obtain ⟨u,hu⟩:∃ u,ats[i+1]?=some u:=⟨_,Ab (by rw [hal.out]; omega)⟩
       obtain ⟨g4,rfl,-,c1⟩:=hatc.out wx hf7 i t ht
       obtain ⟨g5,e5,-,c2⟩:=hatc.out wx hf7 (i+1) u hu
       injection e5 with e5
       injection e5 with e5
       subst e5
       have hw1:IntKind.i64.wrap (((i+1:Nat):Int) - 1)=(i:Int):=by rw [show ((i+1:Nat):Int) - 1=(i:Int) by omega]; exact Al _ (by omega)
       have z0:(0:Int)≤(i:Int):=Af _
       have z1:(i:Int) < (m:Int):=by omega
       have z2:(0:Int)≤((i+1:Nat):Int):=Af _
       have z3:((i+1:Nat):Int) < (m:Int):=by omega
       by_cases htu:t < u
       ·have dl:decide (u≤t)=false:=Aa (by omega)
        have hinc2:Hid (∀ (j:Nat) (a b:Int),j < i+1→ats[j]?=some a→ats[j+1]?=some b→a < b):=fun j a b hj ha hb=>by
         by_cases e:j=i
         ·subst e; rw [ht] at ha; rw [hu] at hb; injection ha with ha; injection hb with hb; omega
         ·exact hinc.out j a b (by omega) ha hb
        replace ht:=hZ ht
        replace hu:=hZ hu
        go_wp2_with fail
        go_quiet (fail)
        go_wp2_with fail
        go_roundg (kx - 1)
        case measure=>omega
        case rel=>exact ⟨i+1,by go_num,by omega,by omega,hf7.drewN _,hinc2⟩
       ·have dl:decide (u≤t)=true:=Ac (by omega)
        have hri:=hZ (OE ht hu htu)
        replace ht:=hZ ht
        replace hu:=hZ hu
        go_wp2_with fail
        go_quiet (fail)
        have hSx6:=hSv.fr (hf7.drewN nq)
        have hFx6:=hFv.trans (hf7.drewN nq)
        have hS9:Br (wx.drewN nq) (nb+1) (.int .i64 0) (.slice none 0 0):=hSx6
        have hS10:=hZ ((hS9.set0 (.int .i64 0)).set1 (.slice none 0 0))
        have hfx10:Hid (Fx (·=nb+1) (wx.drewN nq) ((((wx.drewN nq)).setCell ⟨nb+1,0,none⟩ (.int .i64 0)).setCell ⟨nb+1,1,none⟩ (.slice none 0 0))):=Fx.setCell (p:=(·=nb+1)) (q:=⟨nb+1,1,none⟩) (Fx.setCell (p:=(·=nb+1)) (q:=⟨nb+1,0,none⟩) (Fx.refl _ (wx.drewN nq)) (.inl rfl) _) (.inl rfl) _
        have hfw10:Hid (Fr w ((((wx.drewN nq)).setCell ⟨nb+1,0,none⟩ (.int .i64 0)).setCell ⟨nb+1,1,none⟩ (.slice none 0 0))):=((Fx.of_fr (hFx6)).trans hfx10.out).toFr (fun k hk e=>by have e:k=nb+1:=e; have:=hnb.out; omega)
        have hEE:=hZ (show IO N A w0 ws=6 from (by rw [hPE9.out,Aj hri.out]))
        have x1:=(hS9.set0 (.int .i64 0)).b
        have x2:=(hS9.set0 (.int .i64 0)).fb
        obtain ⟨b0,b1,e0,e1⟩:=hS9
        go_wp2_with fail
        have q0:=hS10.out.a
        have q1:=hS10.out.b
        refine Ax (v:=.tuple #[.agg #[.int .i64 0,.slice none 0 0],.int .i64 6]) (by simp [results,Tryz.results32,go_sem,q0,q1]) rfl ?_
        exact HF.err hEE.out (by decide) hfw10.out
      ·have hdI:decide (((i+1:Nat):Int) < (m:Int))=false:=Aa (by omega)
       have hdI2:decide ((i+1:Nat) < m)=false:=Aa (by omega)
       have hri:I9 ats=true:=Lz fun j a b hj ha hb=>hinc.out j a b (by have:=hal.out; omega) ha hb
       replace hPE9:Hid _:=(hPE9.out.trans (Ai (by rw [hri]; decide)))
       replace hri:=hZ hri
       go_wp2_with fail
       have hf8:Fr W5 wx:=hf6.trans hf7
       have hOwx:=hZ (hOw.out.fr hf8)
       have hO8:=hZ (hO5.out.fr hf8)
       have hFx:=hZ (hF5.trans hf8)
       have hgo9:gO < W5.heap.size:=hOw.out.2.1
       clear hcon o0 di
       go_loopg [113] m (fun k s113 wr=>∃ i:Nat,s113=.int .i64 i∧i+k=m∧Fx (·=gO) wx wr∧Hid (Gp wr gO 0 (Kw pcs (ats.map Int.toNat) d i))∧Hid (∀ (j:Nat) (p:Pc),j < i→pcs[j]?=some p→p.k≤1000000000))
       case atStart=>exact ⟨0,rfl,by omega,Fx.refl _ _,hOwx.out,fun j p h=>by omega⟩
       case round=>
        clear hOwx
        obtain ⟨i,rfl,hik,hfx,hOi,hsm⟩:=hrel
        obtain ⟨wy,rfl⟩:∃ wy:World,wy=wr:=⟨_,rfl⟩
        obtain ⟨ky,rfl⟩:∃ ky:Nat,ky=gk:=⟨_,rfl⟩
        by_cases hi:i < m
        ·have hdI:decide (i < m)=true:=Ac hi
         obtain ⟨p,hp⟩:∃ p,pcs[i]?=some p:=⟨_,Ab (by rw [hpl.out]; exact hi)⟩
         obtain ⟨t,ht0⟩:∃ t:Nat,ats[i]?=some (t:Int):=by
          obtain ⟨t,ht⟩:∃ t,ats[i]?=some t:=⟨_,Ab (by rw [hal.out]; exact hi)⟩
          obtain ⟨t0,rfl⟩:=K4 (hat0.out i t ht)
          exact ⟨t0,ht⟩
         have ht:(ats.map Int.toNat)[i]?=some t:=by rw [Ao,ht0]; rfl
         obtain ⟨c0,c1,c2⟩:=LY pcs i p hp
         obtain ⟨g3,rfl,hg3b,c0⟩:=hpc5.out wx hf8 _ _ c0
         obtain ⟨g3',e3,-,c1⟩:=hpc5.out wx hf8 _ _ c1
         injection e3 with e3
         injection e3 with e3
         subst e3
         obtain ⟨g3',e3,-,c2⟩:=hpc5.out wx hf8 _ _ c2
         injection e3 with e3
         injection e3 with e3
         subst e3
         have hg3b:¬ g3=gO:=by omega
         replace c0:=hfx.keep c0 hg3b
         replace c1:=hfx.keep c1 hg3b
         replace c2:=hfx.keep c2 hg3b
         have htd:t < d:=by have:=(hatr.out i t ht0).2; omega
         obtain ⟨k1,ks⟩:=hki.out i p hp
         have hcs:Kw pcs (ats.map Int.toNat) d (i+1)=(Kw pcs (ats.map Int.toNat) d i).set t p.val:=by rw [Kw,hp,ht]
         obtain ⟨g4,rfl,hgB,a4⟩:=hatc.out wx hf7 i t ht0
         replace a4:=hfx.keep a4 (fun e=>by have e:g4=gO:=e; omega)
         have a5:=hfx.keep hO8.out.b (fun e=>hgo3 (by have e:ob=gO:=e; exact e.symm))
         obtain ⟨z,hz⟩:∃ z,(Kw pcs (ats.map Int.toNat) d i)[t]?=some z:=⟨_,Ab (by rw [G7]; exact htd)⟩
         obtain ⟨x1,x2⟩:=hOi.out.2.2 t z hz
         rw [Az] at x1 x2
         have hsm2:Hid (p.k≤1000000000→∀ (j:Nat) (q:Pc),j < i+1→pcs[j]?=some q→q.k≤1000000000):=fun hpk j q hj hq=>by
          by_cases e:j=i
          ·subst e; rw [hp] at hq; injection hq with hq; rw [← hq]; exact hpk
          ·exact hsm.out j q (by omega) hq
         have hbg:=hZ (fun h:¬ p.k≤1000000000=>Wk hp h)
         have hGa:=hZ (fun (h:p.k≤9223372036854775807) W=>Mf p.k (by omega) h W)
         have hFy:Fr w wy:=((Fx.of_fr hFx.out).trans hfx).toFr (fun k hk e=>by have e:k=gO:=e; have:=hFr.size; omega)
         have hGb:=hZ (fun (h:9223372036854775807 < p.k) W (hW:Fr wy W)=>SM p.k h (by omega) W ((hErf.out wy hFy).fr hW))
         have hSy:Br wy (nb+1) (.int .i64 0) (.slice none 0 0):=((hS1.out.fr f15.out).fr hf8).fx hfx (fun e=>by have e:nb+1=gO:=e; have:=(hS1.out.fr (f13.trans hf)).lt; omega)
         obtain ⟨pn,hpn⟩:∃ pn,pn=p.nm:=⟨_,rfl⟩
         obtain ⟨pg,hpg⟩:∃ pg,pg=p.ng:=⟨_,rfl⟩
         obtain ⟨pd,hpd⟩:∃ pd,pd=tx p.k:=⟨_,rfl⟩
         obtain ⟨pk,hpk⟩:∃ pk,pk=p.k:=⟨_,rfl⟩
         have hval:p.val=if pg then -pk else pk:=by unfold Pc.val; rw [hpg,hpk]
         rw [← hpn] at c0
         rw [← hpg] at c1
         rw [← hpd] at c2 hGa hGb
         rw [← hpk] at k1 hGa hGb hbg hsm2
         clear ks
         rw [hval] at hcs
         replace hval:=hZ hval
         replace hpn:=hZ hpn
         replace hpg:=hZ hpg
         replace hpd:=hZ hpd
         replace hpk:=hZ hpk
         replace hp:=hZ hp
         replace ht:=hZ ht
         replace hz:=hZ hz
         have z0:(0:Int)≤(i:Int):=Af _
         have z1:(i:Int) < (m:Int):=by omega
         have z2:(0:Int)≤(t:Int):=Af _
         have z3:(t:Int) < (d:Int):=by omega
         obtain ⟨W6,hW6⟩:∃ W6,W6=wy.alloc (.cells #[.string pn,.bool pg,.string pd] 143):=⟨_,rfl⟩
         have f6:Fr wy W6:=by rw [hW6]; exact (Fr.refl _).alloc _
         obtain ⟨qb,hqb⟩:∃ qb,qb=wy.heap.size:=⟨_,rfl⟩
         have hP6:FK W6 qb (.string pn) (.bool pg) (.string pd):=by rw [hW6,hqb]; exact FK.new _ _ _ _ _
         go_upto_region 35 with (fail)
         rw [← hW6,← hqb]
         clear hW6 c0 c1 c2
         replace hqb:=hZ hqb
         have m1:=hP6.b
         have m2:=hP6.c
         by_cases hkb:pk≤1000000000
         ·have dk:decide ((1000000000:Int) < pk)=false:=Aa (by omega)
          have hnw:IntKind.i64.wrap (-pk)=-pk:=Al _ (by omega)
          have hGm:=hZ (hGa.out (by omega))
          have hsm3:=hZ (hsm2.out hkb)
          clear hGa hGb
          go_wp2_with fail
          refine (hGm.out _).mono ?_
          rintro e wA ⟨rfl,hfA⟩
          have hfy:Fr wy wA:=f6.trans hfA
          replace m1:=hfA.keep m1
          clear m2 hGm
          have b4:=hfy.keep a4
          have b5:=hfy.keep a5
          have bx:=hfy.keep x1
          have bf:=hfy.keepf x1 x2
          have hOA:=hZ (hOi.out.fr hfy)
          have hS0:=hZ (fun W' (hW':Fr wA W')=>(⟨hW'.keep b5,hW'.keep b4⟩:W'.cell? ⟨ob,1,none⟩=some (.slice (some ⟨gO,0,none⟩) d d)∧W'.cell? ⟨g4,i,none⟩=some (.int .i64 t)))
          have hd8:Fr wA wA.drew:=(Fr.refl wA).drew
          clear a4 a5 x1 x2
          cases pg with
          | true=>
            go_wp2_with fail
            refine BP (S:=fun W'=>W'.cell? ⟨ob,1,none⟩=some (.slice (some ⟨gO,0,none⟩) d d)∧W'.cell? ⟨g4,i,none⟩=some (.int .i64 t)) 8 (by kernel_rfl) (hS0.out _ hd8) (fun hHeld=>?_)
            refine uK 0 ?_
            refine uK 1 ?_
            refine uK 2 ?_
            refine uK 3 ?_
            refine uK 4 ?_
            refine uK 5 ?_
            refine uK 6 ?_
            refine uK 7 ?_
            have y1:=hd8.keep bx
            have y2:=hd8.keepf bx bf
            clear hHeld
            refine uL 8 (fun K hK=>?_)
            go_simp
            refine hK.out _ _ ?_
            clear hK K
            have hO9:=(hOA.out.fr hd8).set (k:=t) (by rw [G7]; exact htd) (-pk)
            rw [Az] at hO9
            have hfx9:Fx (·=gO) wx (wA.drew.setCell ⟨gO,t,none⟩ (.int .i64 (-pk))):=((hfx.fr hfy).fr hd8).setCell (q:=⟨gO,t,none⟩) (.inl rfl) _
            replace hO9:=hZ hO9
            go_wp2_with fail
            go_roundg (ky - 1)
            case measure=>omega
            case rel=>exact ⟨i+1,by go_num,by omega,hfx9,by show Gp _ _ _ _; rw [hcs]; exact hO9.out,hsm3.out⟩
          | false=>
            go_wp2_with fail
            refine BP (S:=fun W'=>W'.cell? ⟨ob,1,none⟩=some (.slice (some ⟨gO,0,none⟩) d d)∧W'.cell? ⟨g4,i,none⟩=some (.int .i64 t)) 8 (by kernel_rfl) (hS0.out _ hd8) (fun hHeld=>?_)
            refine uK 0 ?_
            refine uK 1 ?_
            refine uK 2 ?_
            refine uK 3 ?_
            refine uK 4 ?_
            refine uK 5 ?_
            refine uK 6 ?_
            refine uK 7 ?_
            have y1:=hd8.keep bx
            have y2:=hd8.keepf bx bf
            clear hHeld
            refine uL 8 (fun K hK=>?_)
            go_simp
            refine hK.out _ _ ?_
            clear hK K
            have hO9:=(hOA.out.fr hd8).set (k:=t) (by rw [G7]; exact htd) (pk)
            rw [Az] at hO9
            have hfx9:Fx (·=gO) wx (wA.drew.setCell ⟨gO,t,none⟩ (.int .i64 (pk))):=((hfx.fr hfy).fr hd8).setCell (q:=⟨gO,t,none⟩) (.inl rfl) _
            replace hO9:=hZ hO9
            go_wp2_with fail
            go_roundg (ky - 1)
            case measure=>omega
            case rel=>exact ⟨i+1,by go_num,by omega,hfx9,by show Gp _ _ _ _; rw [hcs]; exact hO9.out,hsm3.out⟩
         ·have hbg2:=hZ (hbg.out hkb)
          by_cases hkc:pk≤9223372036854775807
          ·have dk:decide ((1000000000:Int) < pk)=true:=Ac (by omega)
           have hGm:=hZ (hGa.out hkc)
           clear hGa hGb
           go_wp2_with fail
           refine (hGm.out _).mono ?_
           rintro e wA ⟨rfl,hfA⟩
           have hfy:Fr wy wA:=f6.trans hfA
           clear m2 hGm a4 a5 x1 x2
           have hS9:Br wA (nb+1) (.int .i64 0) (.slice none 0 0):=hSy.fr hfy
           have hS10:=hZ ((hS9.set0 (.int .i64 0)).set1 (.slice none 0 0))
           have hfx10:Hid (Fx (·=nb+1) wA (((wA).setCell ⟨nb+1,0,none⟩ (.int .i64 0)).setCell ⟨nb+1,1,none⟩ (.slice none 0 0))):=Fx.setCell (p:=(·=nb+1)) (q:=⟨nb+1,1,none⟩) (Fx.setCell (p:=(·=nb+1)) (q:=⟨nb+1,0,none⟩) (Fx.refl _ wA) (.inl rfl) _) (.inl rfl) _
           have hfw10:Hid (Fr w (((wA).setCell ⟨nb+1,0,none⟩ (.int .i64 0)).setCell ⟨nb+1,1,none⟩ (.slice none 0 0))):=((Fx.of_fr (hFy.trans hfy)).trans hfx10.out).toFr (fun k hk e=>by have e:k=nb+1:=e; have:=hnb.out; omega)
           have hEE:=hZ (show IO N A w0 ws=4 from (by rw [hPE9.out,Aj hbg2.out]))
           have x1:=(hS9.set0 (.int .i64 0)).b
           have x2:=(hS9.set0 (.int .i64 0)).fb
           obtain ⟨b0,b1,e0,e1⟩:=hS9
           go_wp2_with fail
           have q0:=hS10.out.a
           have q1:=hS10.out.b
           refine Ax (v:=.tuple #[.agg #[.int .i64 0,.slice none 0 0],.int .i64 4]) (by simp [results,Tryz.results32,go_sem,q0,q1]) rfl ?_
           exact HF.err hEE.out (by decide) hfw10.out
          ·have hGm:=hZ (hGb.out (by omega))
           clear hGa hGb
           go_wp2_with fail
           refine (hGm.out _ f6).mono ?_
           rintro e wA ⟨⟨v9,t9,p9,rfl⟩,hfA⟩
           have hfy:Fr wy wA:=f6.trans hfA
           clear m2 hGm a4 a5 x1 x2
           have hS9:Br wA (nb+1) (.int .i64 0) (.slice none 0 0):=hSy.fr hfy
           have hS10:=hZ ((hS9.set0 (.int .i64 0)).set1 (.slice none 0 0))
           have hfx10:Hid (Fx (·=nb+1) wA (((wA).setCell ⟨nb+1,0,none⟩ (.int .i64 0)).setCell ⟨nb+1,1,none⟩ (.slice none 0 0))):=Fx.setCell (p:=(·=nb+1)) (q:=⟨nb+1,1,none⟩) (Fx.setCell (p:=(·=nb+1)) (q:=⟨nb+1,0,none⟩) (Fx.refl _ wA) (.inl rfl) _) (.inl rfl) _
           have hfw10:Hid (Fr w (((wA).setCell ⟨nb+1,0,none⟩ (.int .i64 0)).setCell ⟨nb+1,1,none⟩ (.slice none 0 0))):=((Fx.of_fr (hFy.trans hfy)).trans hfx10.out).toFr (fun k hk e=>by have e:k=nb+1:=e; have:=hnb.out; omega)
           have hEE:=hZ (show IO N A w0 ws=4 from (by rw [hPE9.out,Aj hbg2.out]))
           have x1:=(hS9.set0 (.int .i64 0)).b
           have x2:=(hS9.set0 (.int .i64 0)).fb
           obtain ⟨b0,b1,e0,e1⟩:=hS9
           go_wp2_with fail
           have q0:=hS10.out.a
           have q1:=hS10.out.b
           refine Ax (v:=.tuple #[.agg #[.int .i64 0,.slice none 0 0],.int .i64 4]) (by simp [results,Tryz.results32,go_sem,q0,q1]) rfl ?_
           exact HF.err hEE.out (by decide) hfw10.out
        ·have hdI:decide (i < m)=false:=Aa hi
         obtain rfl:m=i:=by omega
         have a5:=hfx.keep hO8.out.a (fun e=>hgo3 (by have e:ob=gO:=e; exact e.symm))
         have a6:=hfx.keep hO8.out.b (fun e=>hgo3 (by have e:ob=gO:=e; exact e.symm))
         have hSx:Br wx (nb+1) (.int .i64 0) (.slice none 0 0):=(hS1.out.fr f15.out).fr hf8
         have hS9:=hSx.fx hfx (fun e=>by have e:nb+1=gO:=e; have:=(hS1.out.fr (f13.trans hf)).lt; omega)
         have hS10:=hZ ((hS9.set0 (.int .i64 i0)).set1 (.slice (some ⟨gO,0,none⟩) d d))
         have hfx10:Hid (Fx (·=nb+1) wy ((wy.setCell ⟨nb+1,0,none⟩ (.int .i64 i0)).setCell ⟨nb+1,1,none⟩ (.slice (some ⟨gO,0,none⟩) d d))):=Fx.setCell (p:=(·=nb+1)) (q:=⟨nb+1,1,none⟩) (Fx.setCell (p:=(·=nb+1)) (q:=⟨nb+1,0,none⟩) (Fx.refl _ wy) (.inl rfl) _) (.inl rfl) _
         have x1:=(hS9.set0 (.int .i64 i0)).b
         have x2:=(hS9.set0 (.int .i64 i0)).fb
         have hlt9:nb+1 < wo.heap.size:=(hS1.out.fr (f13.trans hf)).lt
         obtain ⟨b0,b1,e0,e1⟩:=hS9
         go_wp2_with fail
         have q0:=hS10.out.a
         have q1:=hS10.out.b
         refine Ax (v:=.tuple #[.agg #[.int .i64 i0,.slice (some ⟨gO,0,none⟩) d d],.int .i64 0]) (by simp [results,Tryz.results32,go_sem,q0,q1]) rfl ?_
         have hE0:IO N A w0 ws=0:=by
          rw [hPE9.out,Ai (by rw [NC fun j p hj=>hsm.out j p (by have:=(Ah.1 hj).1; have:=hpl.out; omega) hj]; decide)]
         refine ⟨fun _=>?_,fun h=>absurd hE0 h⟩
         rw [← hi0.out,hpq.out,hatq.out,← hm.out]
         exact ⟨gO,d,rfl,hOi.out.el.fx hfx10.out (fun e=>by have e:gO=nb+1:=e; omega),G7 _ _ _ _,by
          have h1:Fx (fun k=>k=gO) w wy:=(Fx.of_fr hFx.out).trans hfx
          have h2:Fr w wy:=h1.toFr (fun k hk e=>by have e:k=gO:=e; have:=hFr.size; omega)
          exact ((Fx.of_fr h2).trans hfx10.out).toFr (fun k hk e=>by have e:k=nb+1:=e; have:=hnb.out; omega)⟩
theorem SV (N A:List Sy) (d i0:Nat) (s w0:ByteArray) (ws:List ByteArray) (pcs:List Pc) (ats:List Nat) (aN aA:Option Addr) (cN cA:Nat) (w:World) (hG:G w) (hEr:Er w) (hmx:∃ m,w.cell? ⟨3,0,none⟩=some (.int .i64 m)) (hn:DS w aN aA cA N A) (lenA:A.length=d) (d6:d≤6) (n60:N.length≤60)
 (hsz:s.size≤65536) (hspl:Lib.splitB ⟨#[32]⟩ 0 (Lib.countB s ⟨#[32]⟩) s=w0 :: ws) (hcnt:Lib.countB s ⟨#[32]⟩=ws.length) (hw0s:w0.size≤65536) (hwsz:∀ x,x ∈ ws→x.size≤65536) (hw0:BG w0=true) (hwl:ws.length≤65536)
 (hcut:Jp ws pcs) (hN:Jf (fun y:Sy=>y.nm.toList == w0.toList) N=i0) (hA:∀ (i:Nat) (p:Pc) (t:Nat),pcs[i]?=some p→ats[i]?=some t→Jf (fun y:Sy=>y.nm.toList == p.nm.toList) A=t) (hal:ats.length=pcs.length)
 (hinc:∀ (i t u:Nat),ats[i]?=some t→ats[i+1]?=some u→t < u) (hk:∀ p,p ∈ pcs→p.k≤1000000000)
 (hck:∀ W,Fr w W→Calls Tryz.prog 25 #[.agg #[.slice aN N.length cN,.slice aA A.length cA]] W fun e w'=>e=.returned (.int .i64 0)∧Fr W w') :
 Calls Tryz.prog 32 #[.agg #[.slice aN N.length cN,.slice aA A.length cA],.string s] w (WS w i0 (Kw pcs ats d ws.length) d):=by
 have h:=SW N A d s w0 ws aN aA cN cA w hG hEr hmx hn lenA d6 n60 hsz hspl hcnt hw0s hwsz hw0 hwl hck
 have hat:(pcs.map fun p=>HZ A p.nm)=ats.map fun t:Nat=>(t:Int):=by
  refine Cm fun i=>?_
  rw [Ao,Ao]
  cases hp:pcs[i]? with
  | none=>rw [AM (by have:=Ya.1 hp; omega)]; rfl
  | some p=>
    obtain ⟨t,ht⟩:∃ t,ats[i]?=some t:=⟨_,Ab (by have:=(Ah.1 hp).1; omega)⟩
    rw [ht]
    exact congrArg some (hA i p t hp ht)
 have hE:IO N A w0 ws=0:=by
  have hN9:HZ N w0=i0:=hN
  rw [Rf hw0 hcut,hat,hN9,Ai (by omega),Ai,Ai,Ai]
  ·rw [NC fun i p hp=>hk p (Ae hp)]; decide
  ·rw [Lz]
   ·decide
   ·intro i a b _ ha hb
    rw [Ao] at ha hb
    obtain ⟨t,ht,rfl⟩:=AV.1 ha
    obtain ⟨u,hu,rfl⟩:=AV.1 hb
    have:=hinc i t u ht hu
    omega
  ·rw [Zf]
   intro h9
   obtain ⟨t,-,e⟩:=Bg.1 h9
   omega
 refine h.mono fun e w' hr=>?_
 have h1:=hr.1 hE
 have h2:=(JG hcut).1
 have h3:UJ A ws=ats:=by
  unfold UJ SL
  rw [h2,hat,Da]
  refine (Em fun t _=>?_).trans (List.map_id ats)
  rfl
 have hN9:HZ N w0=i0:=hN
 rw [h2,h3,hN9] at h1
 exact h1
end Go.Proofs.YtcglmebcfeoedaaGreatDoor
