/- Contracts and laws: GBA. -/
import Derived.Test.YtiniigadkknboaaGreatDoorGAZ
import Derived.Test.YtiniigadkknboaaGreatDoorGAV
import Derived.Test.YtiniigadkknboaaGreatDoorGAC
import Derived.Test.YtiniigadkknboaaGreatDoorGAG
import Derived.Test.YtiniigadkknboaaGreatDoorGAD
import Derived.Test.YtiniigadkknboaaGreatDoorGAF
import Derived.Test.YtiniigadkknboaaGreatDoorGAR

set_option maxRecDepth 100000
set_option maxHeartbeats 4000000
namespace Go.Proofs.YtiniigadkknboaaGreatDoor
open Go.RowKit Go.Lib
attribute [local go_sem ↓] Go.wp_at_zero Go.wp_at_succ
def GJ (w:World) (a:Option Addr) (ns:List Int):Prop:=WJ w a (ns.map fun n=>(sv n,sv 1))
theorem GJ.fr {w w':World} {a:Option Addr} {ns:List Int} (h:GJ w a ns) (k:Fr w w'):GJ w' a ns:=WJ.fr h k
theorem GJ.at {w:World} {a:Option Addr} {ns:List Int} (h:GJ w a ns) {i:Nat} (hi:i < ns.length) :
 ∃ b o x,a=some ⟨b,o,none⟩∧b < w.heap.size∧ns[i]?=some x∧w.cell? ⟨b,o+i * 2,none⟩=some (.string (tx x))∧w.cell? ⟨b,o+i * 2+1,none⟩=some (.string (tx 1)):=by
 obtain ⟨b,o,x,h1,h2,h3,h4,h5⟩:=WJ.at h (i:=i) (by rw [An]; exact hi)
 rw [At,Ac hi] at h3
 injection h3 with h3
 subst h3
 exact ⟨b,o,ns[i],h1,h2,Ac hi,h4,h5⟩
theorem Qb (pa sa:Option Addr) (pc sc:Nat) (ns:List Int) (w:World) (hs:GJ w sa ns) (hl:ns.length≤1000) (hsm:∀ x,x ∈ ns→Sm x) (hG:G w) :
 Calls Tryz.prog 221 #[.slice pa ns.length pc,.slice sa ns.length sc] w fun e w'=>e=.returned (.int .i64 0)∧Fr w w':=by
 obtain ⟨n,hn⟩:∃ n,n=ns.length:=⟨_,rfl⟩
 rw [← hn] at hl ⊢
 have e0:((n:Int) != n)=false:=by simp
 replace hn:=hZ hn
 replace hs:=hZ hs
 replace hsm:=hZ hsm
 replace hG:=hZ hG
 go_enter Tryz.func221,Tryz.ntmps221
 go_wp2_with fail
 go_loopg [14] n (fun k s14 wr=>∃ i:Nat,s14=.int .i64 i∧i+k=n∧Fr w wr)
 case atStart=>exact ⟨0,rfl,by omega,Fr.refl _⟩
 case round=>
  obtain ⟨i,rfl,hik,hfr⟩:=hrel
  by_cases hi:i < n
  ·have hd:decide (i < n)=true:=Ab hi
   have hd2:decide ((i:Int) < (n:Int))=true:=Ab (by omega)
   obtain ⟨b,o,x,rfl,hbl,hx,c1,c2⟩:=(hs.out.fr hfr).at (i:=i) (by rw [← hn.out]; exact hi)
   have hsx:=hsm.out x (Af hx)
   have hck:=hZ (fun W (hW:Fr wr W)=>QR x hsx W ((hG.out.fr hfr).fr hW))
   have hsh:=hZ (fun W=>Sh x hsx W)
   have z0:(0:Int)≤(i:Int):=by omega
   have z1:(i:Int) < (n:Int):=by omega
   replace hx:=hZ hx
   generalize tx x=S at *
   generalize tx 1=O at *
   have n2:=(CC wr (.string S) (.string O) 221).1
   have n3:=(Ct wr (.string S) (.string O) 221).1
   obtain ⟨W9,hW9⟩:∃ W9,W9=wr.alloc (.cells #[.string S,.string O] 221):=⟨_,rfl⟩
   have hf9:Fr wr W9:=by rw [hW9]; exact (Fr.refl _).alloc _
   rw [← hW9] at n2 n3
   replace hW9:=hZ hW9
   go_upto_region 6 with (fail)
   rw [← hW9.out]
   clear c1 c2 hs hsx hW9
   go_wp2_with fail
   refine (hck.out _ hf9).mono ?_
   rintro e w1 ⟨rfl,hf1⟩
   replace n2:=hf1.keep n2
   replace n3:=hf1.keep n3
   go_wp2_with fail
   refine (hsh.out _).mono ?_
   rintro e w2 ⟨rfl,hf2⟩
   go_wp2_with fail
   go_roundg (gk - 1)
   case measure=>omega
   case rel=>exact ⟨i+1,by go_num,by omega,hfr.trans ((hf9.trans hf1).trans hf2)⟩
  ·have hd:decide (i < n)=false:=Aa hi
   have hd2:decide ((i:Int) < (n:Int))=false:=Aa (by omega)
   go_wp2_with fail
   go_ret
   exact ⟨rfl,hfr⟩
theorem N8 (P:List Int) (pa la:Option Addr) (pc lc:Nat) (ms:List (Option Addr×Nat×List Int)) (w:World) (hP:El w iv pa P) (hp:BQ P=0)
 (hla:∀ W,Fr w W→∀ (i:Nat) (m:Option Addr×Nat×List Int),ms[i]?=some m→∃ b o,la=some ⟨b,o,none⟩∧b < W.heap.size∧W.cell? ⟨b,o+i,none⟩=some (.slice m.1 m.2.2.length m.2.1))
 (hms:∀ m,m ∈ ms→GJ w m.1 m.2.2∧m.2.2.length=P.length∧∀ x,x ∈ m.2.2→Sm x) (hl:ms.length≤1000) (hl6:P.length≤6) (hG:G w) :
 Calls Tryz.prog 194 #[.slice pa P.length pc,.slice la ms.length lc] w fun e w'=>e=.returned (.int .i64 0)∧Fr w w':=by
 have hpc:=hZ ((Ha P pa pc w hP (by omega)).mono (fun e w' h=>show e=.returned (.int .i64 (BQ P))∧Fr w w' from ⟨h.1,Fr.of_eq h.2.symm⟩))
 obtain ⟨n,hn⟩:∃ n,n=ms.length:=⟨_,rfl⟩
 rw [← hn] at hl ⊢
 obtain ⟨k,hk⟩:∃ k,k=P.length:=⟨_,rfl⟩
 rw [← hk] at hms hl6 hpc ⊢
 rw [hp] at hpc
 replace hn:=hZ hn
 replace hk:=hZ hk
 replace hla:=hZ hla
 replace hms:=hZ hms
 replace hG:=hZ hG
 clear hp hP
 go_enter Tryz.func194,Tryz.ntmps194
 go_wp2_with fail
 refine hpc.out.mono ?_
 rintro e w0 ⟨rfl,hf0⟩
 go_wp2_with fail
 go_loopg [16] n (fun k s16 wr=>∃ i:Nat,s16=.int .i64 i∧i+k=n∧Fr w wr)
 case atStart=>exact ⟨0,rfl,by omega,by exact B9⟩
 case round=>
  obtain ⟨i,rfl,hik,hfr⟩:=hrel
  by_cases hi:i < n
  ·have hd:decide (i < n)=true:=Ab hi
   have hd2:decide ((i:Int) < (n:Int))=true:=Ab (by omega)
   obtain ⟨m,hm⟩:∃ m,ms[i]?=some m:=⟨_,Ac (by rw [← hn.out]; exact hi)⟩
   obtain ⟨b,o,rfl,hbl,c1⟩:=hla.out wr hfr i m hm
   obtain ⟨hz,hzl,hzs⟩:=hms.out m (Af hm)
   have hck:=Qb pa m.1 pc m.2.1 m.2.2 wr (hz.fr hfr) (by omega) hzs (hG.out.fr hfr)
   rw [hzl] at hck c1
   replace hck:=hZ hck
   have z0:(0:Int)≤(i:Int):=by omega
   have z1:(i:Int) < (n:Int):=by omega
   replace hm:=hZ hm
   clear hz hzl hzs
   generalize m.1=ma at *
   generalize m.2.1=mc at *
   go_wp2_with fail
   refine hck.out.mono ?_
   rintro e w1 ⟨rfl,hf1⟩
   go_wp2_with fail
   go_roundg (gk - 1)
   case measure=>omega
   case rel=>exact ⟨i+1,by go_num,by omega,hfr.trans hf1⟩
  ·have hd:decide (i < n)=false:=Aa hi
   have hd2:decide ((i:Int) < (n:Int))=false:=Aa (by omega)
   go_wp2_with fail
   go_ret
   exact ⟨rfl,hfr⟩
section
variable {P:Program} {ops:Array Oper} {Q:Exit→Act→World→Prop} {md:Region.Mode} {S:World→Prop} {n:Nat}
def YH (md:Region.Mode) (ops:Array Oper) (n:Nat):Nat→List Nat→Bool
 | i,[]=>Region.waitsFor md ops n i
 | i,m :: C=>Region.waitsFor md ops m i && YH md ops n m C
theorem LM {listed:Array Bool}:∀ (C:List Nat) (i:Nat),YH md ops n i C=true→listed.getD i true=false→(∀ m,m ∈ C→listed.getD m true=false)→∀ m,m ∈ C∨m=n→m ∉ Region.ready md ops listed
 | [],i,h,hu,_,m,hm=>by
   rcases hm with hm | rfl
   ·cases hm
   ·exact KU h hu
 | c :: C,i,h,hu,hC,m,hm=>by
   simp only [YH,Bm] at h
   rcases hm with hm | hm
   ·rcases Bu.1 hm with rfl | hm
    ·exact KU h.1 hu
    ·exact LM C c h.2 (hC c BC) (fun x hx=>hC x (BI _ hx)) m (.inl hm)
   ·exact LM C c h.2 (hC c BC) (fun x hx=>hC x (BI _ hx)) m (.inr hm)
theorem Mg {i:Nat} {oi:Oper} {v:Value} (C:List Nat) (hi:ops[i]?=some oi) (hw:YH md ops n i C=true) (hin:i≠n) (hiC:i ∉ C) (hsel:∀ (j:Nat) (o:Oper) cs b,ops[j]?=some o→o.op≠.select cs b)
 (hQ:∀ c a w,Q (.panic c) (a.put oi.dst v) w→Q (.panic c) a w) :
 ∀ (fuel:Nat) (listed:Array Bool) (a:Act) (w:World),
   (∀ j oj,ops[j]?=some oj→j≠i→listed.getD j true=false→(∀ e ∈ oj.after,Region.binds md e=true→e.on≠i)→oi.apart ops oj=true) →
   i ∈ Region.ready md ops listed→YieldsIf P ops S oi v a→S w→listed.getD n true=false→(∀ m,m ∈ C→listed.getD m true=false) →
   B8 P md ops Q S n fuel (listed.setIfInBounds i true) (a.put oi.dst v) w→B8 P md ops Q S n (fuel+1) listed a w:=by
 have hisz:i < ops.size:=(A8.1 hi).1
 intro fuel
 induction fuel with
 | zero=>
   intro listed a w _ hr hy hS hnu _ H
   refine ⟨fun h=>(by rw [h] at hr; cases hr),fun j hj=>?_⟩
   by_cases hji:j=i
   ·subst hji; exact hy.wpOp hi hS ⟨fun _=>hS,H⟩
   ·have:=DR hj hji
    rw [H.1] at this
    cases this
 | succ fuel ih=>
   intro listed a w hfree hr hy hS hnu hC H
   refine ⟨fun h=>(by rw [h] at hr; cases hr),fun j hj=>?_⟩
   by_cases hji:j=i
   ·subst hji; exact hy.wpOp hi hS ⟨fun _=>hS,H⟩
   ·have h1:=H.2 j (DR hj hji)
    have hno:=LM C i hw (D7.1 hr).1 hC
    have hjn:j≠n:=fun e=>hno n (.inr rfl) (e ▸ hj)
    have hjC:∀ m,m ∈ C→j≠m:=fun m hm e=>hno m (.inl hm) (e ▸ hj)
    obtain ⟨hjun,oj,hoj,hall⟩:=D7.1 hj
    have hnot:∀ e ∈ oj.after,Region.binds md e=true→e.on≠i:=fun e he hb heq=>by
     have h1:=hall e he hb
     have h0:=(D7.1 hr).1
     rw [heq,getD_both h0] at h1
     cases h1
    have h2:=wpOp_putIf hoj (hfree j oj hoj hji hjun hnot) (fun cs b=>hsel i oi cs b hi) (fun cs b=>hsel j oj cs b hoj) hQ hy h1
    have hfree':∀ k ok,ops[k]?=some ok→k≠i→(listed.setIfInBounds j true).getD k true=false →
     (∀ e ∈ ok.after,Region.binds md e=true→e.on≠i)→oi.apart ops ok=true:=fun k ok hk hki hun hno=>by
     refine hfree k ok hk hki ?_ hno
     by_cases hjk:j=k
     ·subst hjk; exact hjun
     ·rw [CQ true hjk] at hun; exact hun
    have hnj:(listed.setIfInBounds j true).getD n true=false:=by rw [CQ true hjn]; exact hnu
    have hCj:∀ m,m ∈ C→(listed.setIfInBounds j true).getD m true=false:=fun m hm=>by rw [CQ true (hjC m hm)]; exact hC m hm
    have hnij:((listed.setIfInBounds i true).setIfInBounds j true).getD n true=false:=by rw [CQ true hjn,CQ true hin]; exact hnu
    refine Zc (fun a' w' h3=>⟨fun _=>h3.2.1 hnij,ih (listed.setIfInBounds j true) a' w' hfree' (DR hr (Ne.symm hji)) h3.1 (h3.2.1 hnij) hnj hCj ?_⟩) h2
    rw [DS _ _ hji]
    exact h3.2.2
def vB (md:Region.Mode) (ops:Array Oper) (i n:Nat) (C:List Nat) (listed:Array Bool):Bool:=YH md ops n i C && !(i == n) && !C.contains i && Region.noSelect ops && Region.free md ops listed i && (Region.ready md ops listed).contains i && !listed.getD n true && C.all fun m=>!listed.getD m true
theorem uV (i j:Nat) (C:List Nat) {oi:Oper} {v:Value} {fuel:Nat} {listed:Array Bool} {a:Act} {w:World} (h:B8 P md ops Q S n fuel (listed.setIfInBounds i true) { a with tmps:=a.tmps.setIfInBounds j v } w) (hi:ops[i]?=some oi:=by rfl) (hd:oi.dst=some j:=by rfl) (hb:vB md ops i n C listed=true:=by kernel_rfl) (hw:Region.wanted oi (yielded ops a.tmps)=true:=by rfl)
 (hy:∀ w,S w→(execOp a.eval oi).run P w=.ok (.value v) w:=by (intro w hSw; (try dsimp only at hSw); go_simp; try (with_reducible rfl))) (hS:S w:=by assumption) (hQ:∀ c a w,Q (.panic c) (a.put oi.dst v) w→Q (.panic c) a w:=by exact fun _ _ _ h=>h):B8 P md ops Q S n (fuel+1) listed a w:=by
 unfold vB at hb
 simp only [Bm,Gi,Cj,AE] at hb
 obtain ⟨⟨⟨⟨⟨⟨⟨h1,h2⟩,h3⟩,h4⟩,h5⟩,h6⟩,h7⟩,h8⟩:=hb
 exact Mg C hi h1 h2 (by simpa using h3) (Hk h4) hQ fuel listed a w (Kv hi h5) (by simpa using h6) (.inl ⟨hw,hy⟩) hS h7 h8 (by rw [hd]; exact h)
end
theorem MH {w:World} {base:Nat} {v:Value} {l:List Int} {n:Nat} (h:w.ownsRow base 80 1 v n (l.map sv)):∃ a c,v=.slice a n c∧El w sv a l∧∀ ad,a=some ad→base≤ad.block:=by
 have hn:l.length=n:=by have:=h.1; simpa using this
 rcases h.2 with ⟨h1,h2⟩ | ⟨g,cap,cur,hv,_⟩
 ·have e:l=[]:=Bf (by omega)
  subst e
  have h2:n=0:=by omega
  subst h2
  exact ⟨none,0,h1,.inl rfl,fun ad e=>by cases e⟩
 ·subst hv
  obtain ⟨-,h1,h2,-,h4⟩:=Bo h
  refine ⟨_,_,rfl,.inr ⟨g,0,rfl,h2,fun i x hx=>?_⟩,fun ad e=>by injection e with e; subst e; exact h1⟩
  rw [AN]
  exact (h4 i (sv x) (by rw [At,hx]; rfl)).1
theorem HT {w:World} {base:Nat} {v:Value} {l:List Int} {n:Nat} (h:w.ownsRow base 3 1 v n (l.map iv)):∃ a c,v=.slice a n c∧El w iv a l∧∀ ad,a=some ad→base≤ad.block:=by
 have hn:l.length=n:=by have:=h.1; simpa using this
 rcases h.2 with ⟨h1,h2⟩ | ⟨g,cap,cur,hv,_⟩
 ·have e:l=[]:=Bf (by omega)
  subst e
  have h2:n=0:=by omega
  subst h2
  exact ⟨none,0,h1,.inl rfl,fun ad e=>by cases e⟩
 ·subst hv
  obtain ⟨-,h1,h2,-,h4⟩:=Bo h
  refine ⟨_,_,rfl,.inr ⟨g,0,rfl,h2,fun i x hx=>?_⟩,fun ad e=>by injection e with e; subst e; exact h1⟩
  rw [AN]
  exact (h4 i (iv x) (by rw [At,hx]; rfl)).1
theorem Rn {W:World} {b1 b2:Nat} {e1 e2:TypeId} {s1 s2:Nat} {v1 v2:Value} {n1 n2:Nat} {x1 x2:List Value} (h1:W.ownsRow b1 e1 s1 v1 n1 x1) (h2:W.ownsRow b2 e2 s2 v2 n2 x2) (he:e1≠e2):v1.ownBlock=none∨v1.ownBlock≠v2.ownBlock:=by
 rcases h1.2 with ⟨rfl,_⟩ | ⟨g,cap,cur,rfl,_,hg,_⟩
 ·exact .inl rfl
 ·rcases h2.2 with ⟨rfl,_⟩ | ⟨g',cap',cur',rfl,_,hg',_⟩
  ·exact .inr (by simp [Value.ownBlock])
  ·refine .inr fun e=>?_
   have e:g=g':=by simpa [Value.ownBlock] using e
   subst e
   rw [hg] at hg'
   injection hg' with hg'
   injection hg' with _ h9 _
   exact he h9
theorem Fx.grownT {p:Nat→Prop} {a b c:World} {row:Option Nat} (h1:Fx p a b) (hg:b.grownBy c row) (hr:∀ k,row=some k→a.heap.size≤k):Fx p a c:=by
 have h2:=Fx.of_grown hg
 exact ⟨h2.os.trans h1.os,h2.tape.trans h1.tape,h2.output.trans h1.output,As h1.size h2.size,fun q hq1 hq2=>by
  rw [h2.block q (Aq hq1 h1.size) (fun e=>by have:=hr q e; omega)]
  exact h1.block q hq1 hq2⟩
theorem El.fxp {α:Type} {w w':World} {enc:α→Value} {a:Option Addr} {xs:List α} {p:Nat→Prop} (h:El w enc a xs) (k:Fx p w w') (hp:∀ ad,a=some ad→¬ p ad.block):El w' enc a xs:=by
 rcases h with h | ⟨b,o,rfl,hb,hc⟩
 ·exact .inl h
 ·exact El.fx (.inr ⟨b,o,rfl,hb,hc⟩) k (hp _ rfl)
structure C3 (w:World) (r:Nat) (v u x:Value):Prop where
 a:w.cell? ⟨r,0,none⟩=some v
 b:w.cell? ⟨r,1,none⟩=some u
 c:w.cell? ⟨r,2,none⟩=some x
 fa:w.frozen? ⟨r,0,none⟩=false
 fb:w.frozen? ⟨r,1,none⟩=false
 fc:w.frozen? ⟨r,2,none⟩=false
theorem C3.lt {w:World} {r:Nat} {v u x:Value} (h:C3 w r v u x):r < w.heap.size:=A6 w ⟨r,0,none⟩ h.a
theorem C3.fx {p:Nat→Prop} {w w':World} {r:Nat} {v u x:Value} (h:C3 w r v u x) (k:Fx p w w') (h1:¬ p r):C3 w' r v u x :=
 ⟨k.keep h.a h1,k.keep h.b h1,k.keep h.c h1,k.keepf h.a h.fa h1,k.keepf h.b h.fb h1,k.keepf h.c h.fc h1⟩
theorem C3.fr {w w':World} {r:Nat} {v u x:Value} (h:C3 w r v u x) (k:Fr w w'):C3 w' r v u x:=h.fx (p:=fun _=>False) (Fx.of_fr k) (fun e=>e)
theorem C3.new (w:World) (v u x:Value) (t:TypeId):C3 (w.alloc (.cells #[v,u,x] t)) w.heap.size v u x:=by
 have h:=CB w (.cells #[v,u,x] t (0,0))
 refine ⟨?_, ?_, ?_, ?_, ?_, ?_⟩ <;> first | (unfold World.cell?; rw [h]; rfl) | (unfold World.frozen?; rw [h]; rfl)
theorem Gb {b i j:Nat} (h:i≠j):(⟨b,i,none⟩:Addr)≠⟨b,j,none⟩:=fun e=>by injection e with _ e; exact h e
theorem C3.set0 {w:World} {r:Nat} {v u x:Value} (h:C3 w r v u x) (v':Value):C3 (w.setCell ⟨r,0,none⟩ v') r v' u x :=
 ⟨Al _ _ _ (by rw [h.a]; rfl),by rw [Ad _ _ _ _ (Gb (by decide))]; exact h.b,by rw [Ad _ _ _ _ (Gb (by decide))]; exact h.c,by rw [Am]; exact h.fa,by rw [Am]; exact h.fb,by rw [Am]; exact h.fc⟩
theorem C3.set1 {w:World} {r:Nat} {v u x:Value} (h:C3 w r v u x) (u':Value):C3 (w.setCell ⟨r,1,none⟩ u') r v u' x :=
 ⟨by rw [Ad _ _ _ _ (Gb (by decide))]; exact h.a,Al _ _ _ (by rw [h.b]; rfl),by rw [Ad _ _ _ _ (Gb (by decide))]; exact h.c,by rw [Am]; exact h.fa,by rw [Am]; exact h.fb,by rw [Am]; exact h.fc⟩
theorem C3.set2 {w:World} {r:Nat} {v u x:Value} (h:C3 w r v u x) (x':Value):C3 (w.setCell ⟨r,2,none⟩ x') r v u x' :=
 ⟨by rw [Ad _ _ _ _ (Gb (by decide))]; exact h.a,by rw [Ad _ _ _ _ (Gb (by decide))]; exact h.b,Al _ _ _ (by rw [h.c]; rfl),by rw [Am]; exact h.fa,by rw [Am]; exact h.fb,by rw [Am]; exact h.fc⟩
def Et (P ns:List Int):List (Int×Int):=(P.zip ns).filter fun x=>decide (x.2≠0)
def Ez (P ns:List Int) (i:Nat):List (Int×Int):=((P.zip ns).take i).filter fun x=>decide (x.2≠0)
theorem R9 {P ns:List Int} {i:Nat} {q x:Int} (hq:P[i]?=some q) (hx:ns[i]?=some x):Ez P ns (i+1)=if x=0 then Ez P ns i else Ez P ns i ++ [(q,x)]:=by
 have hz:(P.zip ns)[i]?=some (q,x):=by rw [List.getElem?_zip_eq_some]; exact ⟨hq,hx⟩
 unfold Ez
 rw [BN hz,QZ]
 by_cases h:x=0
 ·subst h; simp
 ·rw [Ag h]; simp [h]
theorem Oj {P ns:List Int} (h:P.length=ns.length):Ez P ns ns.length=Et P ns:=by
 unfold Ez Et
 rw [Ao (by rw [WT]; omega)]
theorem KZ {P ns:List Int} (i:Nat):(Ez P ns i).length≤i:=by
 unfold Ez
 have:=Mu (fun x:Int×Int=>decide (x.2≠0)) ((P.zip ns).take i)
 rw [Av] at this
 omega
def ZH (w:World) (L:List (Int×Int)) (e:Ending) (w':World):Prop:=∃ (pa fa:Option Addr) (c g:Nat),e=.returned (.agg #[.slice pa L.length c,.slice fa L.length g,.string (tx 1)])∧El w' iv pa (L.map Prod.fst)∧El w' sv fa (L.map Prod.snd)∧Fr w w'
theorem Hs (P ns:List Int) (pa sa:Option Addr) (pc sc:Nat) (w:World) (hP:El w iv pa P) (hs:GJ w sa ns) (hpl:P.length=ns.length) (hl:ns.length≤6) (hsm:∀ x,x ∈ ns→Sm x) (hG:G w) :
 Calls Tryz.prog 195 #[.slice pa P.length pc,.slice sa ns.length sc] w fun e w'=>ZH w (Et P ns) e w':=by
 rw [← Oj hpl]
 obtain ⟨n,hn⟩:∃ n,n=ns.length:=⟨_,rfl⟩
 rw [← hn] at hl hpl ⊢
 rw [hpl]
 have hlc:=hZ (fun W (hW:Fr w W)=>U9 W (hG.fr hW))
 have e1:=Fo
 replace hn:=hZ hn
 replace hpl:=hZ hpl
 replace hs:=hZ hs
 replace hP:=hZ hP
 replace hsm:=hZ hsm
 replace hG:=hZ hG
 obtain ⟨W1,hW1⟩:∃ W1,W1=(w.alloc (.cells #[.slice none 0 0,.slice none 0 0,.string ⟨#[]⟩] 256)).alloc (.cells #[.slice none 0 0,.slice none 0 0,.string ⟨#[49]⟩] 256):=⟨_,rfl⟩
 have hf1:Fr w W1:=by rw [hW1]; exact ((Fr.refl _).alloc _).alloc _
 have hR1:C3 W1 w.heap.size (.slice none 0 0) (.slice none 0 0) (.string ⟨#[]⟩):=by rw [hW1]; exact (C3.new w _ _ _ _).fr ((Fr.refl _).alloc _)
 have hT1:C3 W1 (w.heap.size+1) (.slice none 0 0) (.slice none 0 0) (.string ⟨#[49]⟩):=by
  have h:=C3.new (w.alloc (.cells #[.slice none 0 0,.slice none 0 0,.string ⟨#[]⟩] 256)) (.slice none 0 0) (.slice none 0 0) (.string ⟨#[49]⟩) 256
  rw [AF] at h
  rw [hW1]; exact h
 have hz1:W1.heap.size=w.heap.size+2:=by rw [hW1]; simp
 go_enter Tryz.func195,Tryz.ntmps195
 go_upto_region 2 with (fail)
 rw [← hW1]
 clear hW1
 obtain ⟨rb,hrb⟩:∃ rb,rb=w.heap.size:=⟨_,rfl⟩
 rw [← hrb] at hR1 hT1 hz1
 rw [← hrb]
 replace hrb:=hZ hrb
 rw [← e1] at hT1
 replace e1:=hZ e1
 go_wp2_with fail
 go_loopg [16] n (fun k s16 wr=>∃ i:Nat,s16=.int .i64 i∧i+k=n∧Fx (·=rb+1) W1 wr∧Hid (C3 wr (rb+1) (.slice none 0 0) (.slice none 0 0) (.string (tx 1))))
 case atStart=>exact ⟨0,rfl,by omega,Fx.refl _ _,hT1⟩
 case round=>
  obtain ⟨i,rfl,hik,hfx,hT⟩:=hrel
  have hfr:Fr w wr:=((Fx.of_fr hf1).trans hfx).toFr (fun k hk e=>by have e:k=rb+1:=e; have:=hrb.out; omega)
  by_cases hi:i < n
  ·have hd:decide (i < n)=true:=Ab hi
   have hd2:decide ((i:Int) < (n:Int))=true:=Ab (by omega)
   obtain ⟨b,o,x,rfl,hbl,hx,c1,c2⟩:=(hs.out.fr hfr).at (i:=i) (by rw [← hn.out]; exact hi)
   have z0:(0:Int)≤(i:Int):=by omega
   have z1:(i:Int) < (n:Int):=by omega
   replace hx:=hZ hx
   have n2:=(CC wr (.string (tx x)) (.string (tx 1)) 221).1
   have n3:=(Ct wr (.string (tx x)) (.string (tx 1)) 221).1
   obtain ⟨W9,hW9⟩:∃ W9,W9=wr.alloc (.cells #[.string (tx x),.string (tx 1)] 221):=⟨_,rfl⟩
   have hf9:Fr wr W9:=by rw [hW9]; exact (Fr.refl _).alloc _
   have hT9:=hT.out.fr hf9
   have t2:=hT9.c
   rw [← hW9] at n2 n3
   replace hW9:=hZ hW9
   generalize tx x=S at *
   go_upto_region 5 with (fail)
   rw [← hW9.out]
   clear c1 c2 hs hW9
   go_wp2_with fail
   refine (hlc.out _ (hfr.trans hf9)).mono ?_
   rintro e w1 ⟨rfl,hf1⟩
   have hT5:=hT9.fr hf1
   have t3:=hT5.c
   have t4:=hT5.fc
   have hT6:=hZ (hT5.set2 (.string (tx 1)))
   go_wp2_with fail
   go_roundg (gk - 1)
   case measure=>omega
   case rel=>exact ⟨i+1,by go_num,by omega,((hfx.fr hf9).fr hf1).trans (Fx.setCell (p:=(·=rb+1)) (q:=⟨rb+1,2,none⟩) (Fx.refl _ _) (.inl rfl) _),hT6⟩
  ·have hd:decide (i < n)=false:=Aa hi
   have hd2:decide ((i:Int) < (n:Int))=false:=Aa (by omega)
   clear hT1 hlc
   obtain ⟨W2,rfl⟩:∃ W2:World,W2=wr:=⟨_,rfl⟩
   obtain ⟨gk0,rfl⟩:∃ g:Nat,g=gk:=⟨_,rfl⟩
   have hR2:=hZ (hR1.fx hfx (fun e=>by have e:rb=rb+1:=e; omega))
   have hz2:=hT.out.lt
   clear hR1
   go_wp2_with fail
   have hdm:=hZ (fun W (hW:Fr w W)=>S8 1 1 (by unfold Sm; decide) (by unfold Sm; decide) (by decide) W (hG.out.fr hW))
   rw [show Int.fdiv 1 1=1 by decide,show Int.fmod 1 1=0 by decide] at hdm
   obtain ⟨iI,jI,iz0,iz1,iz2⟩:=AZ C6
   obtain ⟨iS,jS,sz0,sz1,sz2⟩:=AZ Iy
   obtain ⟨B2,hB2⟩:∃ B2,B2=W2.heap.size:=⟨_,rfl⟩
   rw [← hB2] at hz2
   replace hB2:=hZ hB2
   go_loopg [29] n (fun k s29 wr=>∃ (i:Nat) (v u:Value),s29=.int .i64 i∧i+k=n∧Fx (·=rb+1) W2 wr∧Hid (C3 wr (rb+1) v u (.string (tx 1)))∧Hid (wr.ownsRow B2 3 1 v (Ez P ns i).length (((Ez P ns i).map Prod.fst).map iv))∧Hid (wr.ownsRow B2 80 1 u (Ez P ns i).length (((Ez P ns i).map Prod.snd).map sv)))
   case atStart=>exact ⟨0,_,_,rfl,by omega,Fx.refl _ _,hT,Bl _ _ _ _,Bl _ _ _ _⟩
   case round=>
    clear hT
    obtain ⟨i,v,u,rfl,hik,hfx2,hT,hoA,hoB⟩:=hrel
    have hfr2:Fr w wr:=((Fx.of_fr hfr).trans hfx2).toFr (fun k hk e=>by have e:k=rb+1:=e; have:=hrb.out; omega)
    have hm6:=KZ (P:=P) (ns:=ns) i
    by_cases hi:i < n
    ·have hd:decide (i < n)=true:=Ab hi
     have hd2:decide ((i:Int) < (n:Int))=true:=Ab (by omega)
     obtain ⟨b,o,x,rfl,hbl,hx,c1,c2⟩:=(hs.out.fr hfr2).at (i:=i) (by rw [← hn.out]; exact hi)
     obtain ⟨pb,po,q,rfl,hpb,hq,c3⟩:=hP.out.at (i:=i) (by rw [hpl.out]; exact hi)
     replace c3:=hfr2.keep c3
     have hvA:Hid (∀ k,v.ownBlock=some k→B2≤k∧k < wr.heap.size):=hoA.out.lt
     have hvB:Hid (∀ k,u.ownBlock=some k→B2≤k∧k < wr.heap.size):=hoB.out.lt
     have hsx:=hsm.out x (Af hx)
     have hsn:=R9 hq hx
     have z0:(0:Int)≤(i:Int):=by omega
     have z1:(i:Int) < (n:Int):=by omega
     have hb0:=Cn x
     have hmu:=hZ (fun W (hW:Fr w W)=>RZ x 1 hsx.wd (Sm.wd (by unfold Sm; decide)) W (hG.out.fr hW))
     rw [VQ] at hmu
     replace hx:=hZ hx
     replace hq:=hZ hq
     have n2:=(CC wr (.string (tx x)) (.string (tx 1)) 221).1
     have n3:=(Ct wr (.string (tx x)) (.string (tx 1)) 221).1
     obtain ⟨W9,hW9⟩:∃ W9,W9=wr.alloc (.cells #[.string (tx x),.string (tx 1)] 221):=⟨_,rfl⟩
     have hf9:Fr wr W9:=by rw [hW9]; exact (Fr.refl _).alloc _
     have hz9:W9.heap.size=wr.heap.size+1:=by rw [hW9]; simp
     have hT9:=hT.out.fr hf9
     have t2:=hT9.c
     rw [← hW9] at n2 n3
     replace hW9:=hZ hW9
     have hm6b:=KZ (P:=P) (ns:=ns) (i+1)
     by_cases hx0:x=0
     ·rw [Ai hx0] at hsn
      rw [Ab hx0] at hb0
      replace hx0:=hZ hx0
      replace hsn:=hZ hsn
      clear hm6 hm6b
      obtain ⟨S,hS⟩:∃ S,S=tx x:=⟨_,rfl⟩
      rw [← hS] at n2 hb0 hmu c1 hW9
      replace hS:=hZ hS
      go_upto_region 10 with (fail)
      rw [← hW9.out]
      clear c1 c2 c3 hs hP hW9
      go_wp2_with fail
      go_roundg (gk - 1)
      case measure=>omega
      case rel=>exact ⟨i+1,v,u,by go_num,by omega,hfx2.fr hf9,hT9,by show World.ownsRow _ _ _ _ _ _ _; rw [hsn.out]; exact Bg hoA.out hf9,by show World.ownsRow _ _ _ _ _ _ _; rw [hsn.out]; exact Bg hoB.out hf9⟩
     ·rw [Ag hx0] at hsn
      rw [Aa hx0] at hb0
      have hlen:(Ez P ns (i+1)).length=(Ez P ns i).length+1:=by rw [hsn,Ar]; rfl
      have hsA:Hid (((Ez P ns (i+1)).map Prod.fst).map iv=(((Ez P ns i).map Prod.fst).map iv) ++ [.int .i64 q]):=by show _=_; rw [hsn,Ay,Ay]; rfl
      have hsB:Hid (((Ez P ns (i+1)).map Prod.snd).map sv=(((Ez P ns i).map Prod.snd).map sv) ++ [.string (tx x)]):=by show _=_; rw [hsn,Ay,Ay]; rfl
      replace hx0:=hZ hx0
      replace hsn:=hZ hsn
      generalize ((Ez P ns i).map Prod.fst).map iv=xA at *
      generalize ((Ez P ns i).map Prod.snd).map sv=xB at *
      generalize (Ez P ns i).length=m at *
      replace hlen:=hZ hlen
      obtain ⟨S,hS⟩:∃ S,S=tx x:=⟨_,rfl⟩
      rw [← hS] at n2 hb0 hmu c1 hW9 hsB
      replace hS:=hZ hS
      obtain ⟨wo,rfl⟩:∃ wo:World,wo=wr:=⟨_,rfl⟩
      obtain ⟨kv,rfl⟩:∃ kv:Nat,kv=gk:=⟨_,rfl⟩
      go_upto_region 10 with (fail)
      rw [← hW9.out]
      replace c3:=hf9.keep c3
      clear c1 c2 hs hP
      go_wp2_with fail
      refine (hdm.out _ (hfr2.trans hf9)).mono ?_
      rintro e wC ⟨rfl,hfC⟩
      replace n2:=hfC.keep n2
      replace c3:=hfC.keep c3
      have hTC:=hT9.fr hfC
      have p0:=hTC.a
      have p1:=hTC.b
      have hf9C:=hf9.trans hfC
      have hzC:=hf9C.size
      have hfw2:=hfx2.size
      have hB2':=hB2.out
      replace hoA:=hZ (Bg hoA.out hf9C)
      replace hoB:=hZ (Bg hoB.out hf9C)
      have hwB:w.heap.size < B2:=by have:=hrb.out; omega
      have hfar:Hid (∀ k,k < B2∨wo.heap.size≤k→¬ (v.ownBlock=some k∨u.ownBlock=some k)):=fun k hk e=>by
       rcases e with e | e
       ·have:=hvA.out k e; omega
       ·have:=hvB.out k e; omega
      have hS0:Hid (∀ W',Fx (fun k=>v.ownBlock=some k∨u.ownBlock=some k) wC W'→W'.cell? ⟨rb+1,0,none⟩=some v∧W'.cell? ⟨rb+1,1,none⟩=some u∧W'.cell? ⟨wo.heap.size,0,none⟩=some (.string S)∧W'.cell? ⟨pb,po+i,none⟩=some (.int .i64 q)):=fun W' hW'=>
       ⟨hW'.keep p0 (hfar.out (rb+1) (.inl (by omega))),hW'.keep p1 (hfar.out (rb+1) (.inl (by omega))),hW'.keep n2 (hfar.out _ (.inr (Ah _))),hW'.keep c3 (hfar.out pb (.inl (by omega)))⟩
      go_wp2_with fail
      refine Dm (S:=fun W'=>W'.cell? ⟨rb+1,0,none⟩=some v∧W'.cell? ⟨rb+1,1,none⟩=some u∧W'.cell? ⟨wo.heap.size,0,none⟩=some (.string S)∧W'.cell? ⟨pb,po+i,none⟩=some (.int .i64 q)) 17 (by kernel_rfl) (hS0.out _ (Fx.of_fr (Fr.refl _).drew)) (fun hHeld=>?_)
      clear c3 p0 p1 n2
      refine uM 0 46 ?_; try simp only [Dz,DO,DN]
      refine uM 1 47 ?_; try simp only [Dz,DO,DN]
      refine uM 2 48 ?_; try simp only [Dz,DO,DN]
      refine uM 3 49 ?_; try simp only [Dz,DO,DN]
      refine uM 4 50 ?_; try simp only [Dz,DO,DN]
      refine uM 5 51 ?_; try simp only [Dz,DO,DN]
      refine uM 8 54 ?_; try simp only [Dz,DO,DN]
      refine uM 9 55 ?_; try simp only [Dz,DO,DN]
      refine uV 10 56 [11,13,14,15] ?_; try simp only [Dz,DO,DN]
      refine uV 11 57 [13,14,15] ?_; try simp only [Dz,DO,DN]
      refine uV 12 58 [13,14,15] ?_; try simp only [Dz,DO,DN]
      obtain ⟨wd,hwd⟩:∃ wd,wd=wC.drew:=⟨_,rfl⟩
      have hfd:Fr wC wd:=by rw [hwd]; exact (Fr.refl _).drew
      rw [← hwd] at hHeld ⊢
      clear hwd
      refine uC 6 (fun K hK=>?_)
      go_simp
      refine hK.out _ _ (hS0.out _ (Fx.of_fr (hfd.alloc _))) (fun hHeld=>?_)
      clear hK K
      try simp only [Act.put,Dz]
      have hfa:Fr wC (wd.alloc (.cells #[.int .i64 q] 3)):=hfd.alloc _
      have hownA7:=Bg hoA.out hfa
      have hownB7:=Bg hoB.out hfa
      have hcs:=AK wd (.int .i64 q) 3 wd.heap.size rfl
      have hzd:=hfd.size
      replace hcs:=hZ hcs
      have hne1:=hZ (Rn hownB7 hownA7 (by decide))
      replace hownB7:=hZ hownB7
      refine uC 7 (fun K hK=>?_)
      refine step_append_lies _ rfl (.tmp 47) (.tmp 52) 24 rfl B2 3 iI _ 1 8 Tryz.underlying24 jI iz0 iz1 iz2 rfl (by decide) v m xA (by simp [Act.eval]) hownA7 ⟨wd.heap.size,0,none⟩ 1 1 [.int .i64 q] (by simp [Act.eval]) rfl hcs.out (by simp [Value.oneCell']) (by decide) (by unfold maxLen; omega) (by omega) (by simp; omega) (wd.heap.size+1) (by simp) ?_
      intro gA capA wA hownA hgrowA hatA hltA
      have hfxA:Fx (fun k=>v.ownBlock=some k∨u.ownBlock=some k) wC wA:=(Fx.of_fr hfa).trans ((Fx.of_grown hgrowA).mono (fun k e=>.inl e))
      refine hK.out _ _ (hS0.out _ hfxA) (fun hHeld=>?_)
      clear hK K
      try simp only [Act.put,Dz]
      refine uM 16 62 ?_; try simp only [Dz,DO,DN]
      have hownBA:=hZ (hownB7.out.kept hgrowA hne1.out)
      have hfAw:Fr w wA:=((hfr2.trans hf9C).trans hfa).grown hgrowA (fun k e=>by have:=(hvA.out k e).1; omega)
      refine uC 13 (fun K hK=>?_)
      go_simp
      refine (hmu.out _ hfAw).mono ?_
      rintro e wM ⟨rfl,hfM⟩
      go_wp2_with fail
      refine hK.out _ _ (hS0.out _ (hfxA.fr hfM)) (fun hHeld=>?_)
      clear hK K
      try simp only [Act.put,Dz,DO,DN]
      refine uC 14 (fun K hK=>?_)
      go_simp
      refine hK.out _ _ (hS0.out _ ((hfxA.fr hfM).alloc _)) (fun hHeld=>?_)
      clear hK K
      try simp only [Act.put,Dz,DO,DN]
      have hfm2:Fr wA (wM.alloc (.cells #[.string S] 80)):=hfM.alloc _
      have hownB8:=Bg hownBA.out hfm2
      have hownA8:=Bg hownA hfm2
      have hcs2:=AK wM (.string S) 80 wM.heap.size rfl
      replace hcs2:=hZ hcs2
      have hne2:=hZ (Rn hownA8 hownB8 (by decide))
      replace hownA8:=hZ hownA8
      have hzA:=hfxA.size
      have hzM:=hfM.size
      clear hcs
      refine uC 15 (fun K hK=>?_)
      refine step_append_lies _ rfl (.tmp 55) (.tmp 60) 119 rfl B2 80 iS _ 1 16 Tryz.underlying119 jS sz0 sz1 sz2 rfl (by decide) u m xB (by simp [Act.eval]) hownB8 ⟨wM.heap.size,0,none⟩ 1 1 [.string S] (by simp [Act.eval]) rfl hcs2.out (by simp [Value.oneCell']) (by decide) (by unfold maxLen; omega) (by omega) (by simp; omega) (wM.heap.size+1) (by simp) ?_
      intro gB capB wB hownB hgrowB hatB hltB
      have hfxB:Fx (fun k=>v.ownBlock=some k∨u.ownBlock=some k) wC wB:=(hfxA.fr hfm2).trans ((Fx.of_grown hgrowB).mono (fun k e=>.inr e))
      refine hK.out _ _ (hS0.out _ hfxB) (fun hHeld=>?_)
      clear hK K
      try simp only [Act.put,Dz]
      have hownAB:=hZ (hownA8.out.kept hgrowB hne2.out)
      have hTB:=hTC.fx hfxB (hfar.out (rb+1) (.inl (by omega)))
      have hfxF:Fx (·=rb+1) W2 wB:=(((hfx2.fr hf9C).fr hfa).grownT hgrowA (fun k e=>by have:=(hvA.out k e).1; omega) |>.fr hfm2).grownT hgrowB (fun k e=>by have:=(hvB.out k e).1; omega)
      have r0:=hTB.a
      have r1:=hTB.b
      have r2:=hTB.fa
      have r3:=hTB.fb
      have hT10:=hTB.set0 (.slice (some ⟨gA,0,none⟩) (m+1) capA)
      have s1:=hT10.b
      have s3:=hT10.fb
      have hT11:=hT10.set1 (.slice (some ⟨gB,0,none⟩) (m+1) capB)
      have hfx9:Fx (·=rb+1) wB ((wB.setCell ⟨rb+1,0,none⟩ (.slice (some ⟨gA,0,none⟩) (m+1) capA)).setCell ⟨rb+1,1,none⟩ (.slice (some ⟨gB,0,none⟩) (m+1) capB)):=Fx.setCell (p:=(·=rb+1)) (q:=⟨rb+1,1,none⟩) (Fx.setCell (p:=(·=rb+1)) (q:=⟨rb+1,0,none⟩) (Fx.refl _ _) (.inl rfl) _) (.inl rfl) _
      have hA9:=hZ (BW hownAB.out hfx9 (fun k e e2=>by have e2:k=rb+1:=e2; have:=(hownAB.out.lt k e).1; omega))
      have hB9:=hZ (BW hownB hfx9 (fun k e e2=>by have e2:k=rb+1:=e2; have:=(hownB.lt k e).1; omega))
      replace hT11:=hZ hT11
      replace hfx9:=hZ hfx9
      clear hT10 hTB hownA hownB hownAB hcs2
      clear hHeld
      refine uD 17 (fun K hK=>?_)
      go_simp
      refine hK.out _ _ ?_
      clear hK K
      try simp only [Act.put,Dz,DO,DN]
      refine uD 18 (fun K hK=>?_)
      go_simp
      refine hK.out _ _ ?_
      clear hK K
      try simp only [Act.put,Dz,DO,DN]
      refine uD 19 (fun K hK=>?_)
      go_simp
      refine hK.out _ _ ?_
      clear hK K
      refine uE ?_
      go_wp2_with fail
      go_roundg (kv - 1)
      case measure=>omega
      case rel=>exact ⟨i+1,_,_,by go_num,by omega,hfxF.trans hfx9.out,hT11,by show World.ownsRow _ _ _ _ _ _ _; rw [hsA.out,hlen.out]; exact hA9.out,by show World.ownsRow _ _ _ _ _ _ _; rw [hsB.out,hlen.out]; exact hB9.out⟩
    ·have hd:decide (i < n)=false:=Aa hi
     have hd2:decide ((i:Int) < (n:Int))=false:=Aa (by omega)
     obtain rfl:i=n:=by omega
     obtain ⟨aA,cA,rfl,hEA,hA5⟩:=HT hoA.out
     obtain ⟨aB,cB,rfl,hEB,hB5⟩:=MH hoB.out
     have hR3:=hR2.out.fx hfx2 (fun e=>by have e:rb=rb+1:=e; omega)
     have hTf:=hT.out
     have q0:=hTf.a
     have q1:=hTf.b
     have q2:=hTf.c
     have w0:=hR3.fa
     have w1:=hR3.fb
     have w2:=hR3.fc
     have v0:=hR3.a
     have hR4:=hR3.set0 (.slice aA (Ez P ns i).length cA)
     have v1:=hR4.b
     have w3:=hR4.fb
     have hR5:=hR4.set1 (.slice aB (Ez P ns i).length cB)
     have v2:=hR5.c
     have w4:=hR5.fc
     have hR6:=hR5.set2 (.string (tx 1))
     have y0:=hZ hR6.a
     have y1:=hZ hR6.b
     have y2:=hZ hR6.c
     have hfx9:Fx (·=rb) wr (((wr.setCell ⟨rb,0,none⟩ (.slice aA (Ez P ns i).length cA)).setCell ⟨rb,1,none⟩ (.slice aB (Ez P ns i).length cB)).setCell ⟨rb,2,none⟩ (.string (tx 1))):=Fx.setCell (p:=(·=rb)) (q:=⟨rb,2,none⟩) (Fx.setCell (p:=(·=rb)) (q:=⟨rb,1,none⟩) (Fx.setCell (p:=(·=rb)) (q:=⟨rb,0,none⟩) (Fx.refl _ _) (.inl rfl) _) (.inl rfl) _) (.inl rfl) _
     have hfin:Fr w (((wr.setCell ⟨rb,0,none⟩ (.slice aA (Ez P ns i).length cA)).setCell ⟨rb,1,none⟩ (.slice aB (Ez P ns i).length cB)).setCell ⟨rb,2,none⟩ (.string (tx 1))):=((Fx.of_fr hfr2).trans hfx9).toFr (fun k hk e=>by have e:k=rb:=e; have:=hrb.out; omega)
     replace hfin:=hZ hfin
     have hEA9:=hZ (hEA.fxp hfx9 (fun ad h e=>by have e:ad.block=rb:=e; have:=hA5 ad h; omega))
     have hEB9:=hZ (hEB.fxp hfx9 (fun ad h e=>by have e:ad.block=rb:=e; have:=hB5 ad h; omega))
     go_wp2_with fail
     have z0:=y0.out
     have z1:=y1.out
     have z2:=y2.out
     refine AP (v:=.agg #[.slice aA (Ez P ns i).length cA,.slice aB (Ez P ns i).length cB,.string (tx 1)]) (by simp [results,Tryz.results195,go_sem,z0,z1,z2]) rfl ⟨aA,aB,cA,cB,rfl,hEA9.out,hEB9.out,hfin.out⟩
end Go.Proofs.YtiniigadkknboaaGreatDoor
