/- Contracts and laws: VI. -/
import Derived.Test.YtcglmebcfeoedaaGreatDoorVFT
import Derived.Test.YtcglmebcfeoedaaGreatDoorVB
import Derived.Test.YtcglmebcfeoedaaGreatDoorVH
import Derived.Test.YtcglmebcfeoedaaGreatDoorVF
import Derived.Test.YtcglmebcfeoedaaGreatDoorVGW

set_option maxRecDepth 100000
set_option maxHeartbeats 8000000
namespace Go.Proofs.YtcglmebcfeoedaaGreatDoor
open Go.RowKit Go.Lib
attribute [local go_sem ↓] AA AB

theorem Ga {w:World} {base g n c:Nat} {E:TypeId} {l:List Int} (h:w.ownsRow base E 1 (.slice (some ⟨g,0,none⟩) n c) n (l.map iv)):El w iv (some ⟨g,0,none⟩) l:=by
 obtain ⟨-,-,h2,-,h4⟩:=Bf h
 refine .inr ⟨g,0,rfl,h2,fun i x hx=>?_⟩
 rw [Az]
 exact (h4 i (iv x) (by rw [Ao,hx]; rfl)).1
theorem VV (v:Value) (n:Nat):(madeCells #[v] n).toList=List.replicate n v:=by
 refine Cm (fun i=>?_)
 by_cases hi:i < n
 ·simp [madeCells,hi,Nat.mod_one]
 ·simp [madeCells,hi]
theorem EJ {z:Value} (n:Nat) (hz:z.cells=#[iv 0]):(madeCells z.cells (n * 1)).toList=(List.replicate n (0:Int)).map iv:=by
 rw [hz,Fi,VV,Gg]
theorem Gp.set {w:World} {b o:Nat} {xs:List Int} (h:Gp w b o xs) {k:Nat} (hk:k < xs.length) (x:Int):Gp (w.setCell ⟨b,o+k,none⟩ (iv x)) b o (xs.set k x):=by
 obtain ⟨h1,h2,h3⟩:=h
 refine ⟨h1,by simpa [World.setCell] using h2,fun j y hy=>?_⟩
 rw [Ap]
 rw [BA] at hy
 by_cases e:k=j
 ·subst e
  rw [Aj rfl,Aj hk] at hy
  injection hy with hy; subst hy
  have h4:=h3 k xs[k] (Ab hk)
  exact ⟨Aq _ _ _ (by rw [h4.1]; rfl),h4.2⟩
 ·rw [Ai e] at hy
  have h4:=h3 j y hy
  refine ⟨?_,h4.2⟩
  rw [Ad w ⟨b,o+k,none⟩ ⟨b,o+j,none⟩ _ (fun e2=>by injection e2 with e3 e4; omega)]
  exact h4.1
def Ef (B:List (List Int)) (c:Nat):Int:=((Bv B c)[c]?).getD 0
def Gy (B:List (List Int)):Nat→List Int→Option (List Int)
 | 0,_=>none
 | k+1,x=>if (x[k]?).getD 0=Ef B k - 1 then Gy B k (x.set k 0) else some (x.set k ((x[k]?).getD 0+1))
def Mk (B:List (List Int)) (l:List ByteArray) (r:Nat):Nat→List Int→Option (Option (List Int))
 | 0,_=>none
 | f+1,x=>if x.all Bi then
    if (l.any fun y=>y.toList == (Dk x).toList) then match Gy B r x with | none=>some none | some y=>Mk B l r f y else some (some x)
   else none
def Oh (w:World) (r:Nat) (res:Option (List Int)) (e:Ending) (w':World):Prop:=match res with
 | none=>e=.returned (.tuple #[.slice none 0 0,.bool false])∧Fr w w'
 | some x=>∃ g c,e=.returned (.tuple #[.slice (some ⟨g,0,none⟩) r c,.bool true])∧El w' iv (some ⟨g,0,none⟩) x∧w.heap.size≤g∧x.length=r∧Fr w w'
theorem Mj (B:List (List Int)) (a:Option Addr) (cap r mb F:Nat) (l:List ByteArray) (res:Option (List Int)) (w:World) (hG:G w) (hm:BT w a B) (hr:Ce r B) (hBl:B.length=r) (hr1:1≤r) (hr2:r≤12) (hb:∀ q,q ∈ B→∀ x,x ∈ q→Bi x=true)
 (hs:C7 w mb l) (habs:Mk B l r F (List.replicate r 0)=some res) :
 Calls Tryz.prog 68 #[.slice a r cap,.int .i64 r,.map (some mb)] w (Oh w r res):=by
 have hgn:=CS hG
 obtain ⟨i0,hi,hz0,hz1,hz2⟩:=AQ DQ
 have hmb:=hs.lt
 replace hG:=hZ hG
 replace hm:=hZ hm
 replace hr:=hZ hr
 replace hBl:=hZ hBl
 replace hb:=hZ hb
 replace hs:=hZ hs
 replace habs:=hZ habs
 go_enter Tryz.func68,Tryz.ntmps68
 go_wp2_with (at_make; refine Dz _ rfl _ _ 44 rfl w.heap.size 3 i0 _ 1 Tryz.underlying44 hi hz0 hz1 _ _ _ _ r (by rfl) (by rfl) (by omega) (by omega) (by rw [hz2]; omega) (by unfold maxLen; omega) (Ag _) ?_; intro w2 hown2 hgr2)
 rw [EJ r rfl] at hown2
 have hf2:Fr w w2:=(Fr.refl w).grown hgr2 (fun k e=>by cases e)
 obtain ⟨hO,-,-,-,-⟩:=Cr hgn hown2
 obtain ⟨g,hg⟩:∃ g,g=w.heap.size:=⟨_,rfl⟩
 rw [← hg] at hO ⊢
 have hgm:mb≠g:=by omega
 have hFW:Hid (∀ W,Fx (·=g) w2 W→Fr w W):=fun W h=>((Fx.of_fr hf2).trans h).toFr (fun k hk e=>by have e:k=g:=e; omega)
 replace hs:=hZ (hs.out.fr hf2)
 replace hO:=hZ hO
 replace hg:=hZ hg
 clear hown2 hgr2
 go_loopg [9] F (fun f s9 wr=>∃ ys:List Int,Hid (Mk B l r f ys=some res)∧Hid (ys.length=r)∧Fx (·=g) w2 wr∧Hid (Gp wr g 0 ys))
 case atStart=>exact ⟨_,habs.out,AH,Fx.refl _ _,hO.out⟩
 case round=>
  clear hO
  obtain ⟨ys,hab,hyl,hfx,hO⟩:=hrel
  obtain ⟨wo,rfl⟩:∃ wo:World,wo=wr:=⟨_,rfl⟩
  obtain ⟨ko,rfl⟩:∃ ko:Nat,ko=gk:=⟨_,rfl⟩
  have hFr:=hFW.out _ hfx
  match ko,hab with
  | 0,hab=>exact absurd hab.out (by rw [Mk]; simp)
  | f+1,hab=>
  have hab2:=hab.out
  rw [Mk] at hab2
  split at hab2
  case isFalse=>cases hab2
  rename_i hfit
  have hfit':∀ x,x ∈ ys→Bi x=true:=As.1 hfit
  have hky:=hZ (QL ys (some ⟨g,0,none⟩) r r wo (hG.out.fr hFr) hO.out.el hyl.out (by omega) (by omega) hfit')
  have hks:=I8 ys (by rw [hyl.out]; omega) (by rw [hyl.out]; omega) hfit'
  obtain ⟨K,hK⟩:∃ K,K=Dk ys:=⟨_,rfl⟩
  rw [← hK] at hky hks hab2
  replace hK:=hZ hK
  have hs9:=hZ (fun W (hW:Fr wo W)=>(hs.out.fx hfx hgm).fr hW)
  obtain ⟨c,hc⟩:∃ c,c=l.any fun y=>y.toList == K.toList:=⟨_,rfl⟩
  rw [← hc] at hab2
  replace hc:=hZ hc.symm
  replace hfit:=hZ hfit
  replace hfit':=hZ hfit'
  go_wp2_with fail
  refine hky.out.mono ?_
  rintro e w3 ⟨rfl,hf3⟩
  have hsn3:=hs9.out _ hf3
  replace hsn3:=hZ hsn3
  have hfx3:=hfx.fr hf3
  have hO3:=hZ (hO.out.fr hf3)
  cases c with
  | false=>
    rw [Ai (by simp)] at hab2
    injection hab2 with hab2
    go_wp2_with (at_lookup; refine Gq _ mb l K false rfl _ _ rfl (by rfl) (by rfl) hsn3.out (by unfold maxLen; omega) hc.out ?_)
    go_ret2
    subst hab2
    exact ⟨g,r,rfl,hO3.out.el,by rw [hg.out]; exact Ag _,hyl.out,hFr.trans hf3⟩
  | true=>
    rw [Aj rfl] at hab2
    replace hab2:=hZ hab2
    go_wp2_with (at_lookup; refine Gq _ mb l K true rfl _ _ rfl (by rfl) (by rfl) hsn3.out (by unfold maxLen; omega) hc.out ?_)
    go_loopg [9] r (fun k s9 wr=>∃ zs:List Int,s9=.int .i64 ((k:Int) - 1)∧k≤r∧Hid (Gy B r ys=Gy B k zs)∧Hid (zs.length=r)∧Fx (·=g) w2 wr∧Hid (Gp wr g 0 zs)∧Hid (∀ x,x ∈ zs→Bi x=true))
    case atStart=>exact ⟨ys,rfl,Ag _,rfl,hyl.out,hfx3,hO3.out,hfit'.out⟩
    case round=>
     clear hO3 hfx3 hsn3 hs9 hky
     obtain ⟨zs,rfl,hkr,hnx,hzl,hfx4,hO4,hzf⟩:=hrel
     obtain ⟨wv,rfl⟩:∃ wv:World,wv=wr:=⟨_,rfl⟩
     have hFr4:=hFW.out _ hfx4
     match gk,hkr,hnx with
     | 0,_,hnx=>
       have hn0:Gy B r ys=none:=hnx.out.trans rfl
       have hab3:=hab2.out
       rw [hn0] at hab3
       injection hab3 with hab3
       have d0:decide (((0:Nat):Int) - 1 ≥ 0)=false:=Aa (by omega)
       have d1:decide (((0:Nat):Int) - 1 < 0)=true:=Ac (by omega)
       go_wp2_with fail
       go_quiet (fail)
       go_wp2_with fail
       go_ret2
       subst hab3
       exact ⟨rfl,hFr4.drewN _⟩
     | k+1,hkr,hnx=>
       obtain ⟨z,hz⟩:∃ z,zs[k]?=some z:=⟨_,Ab (by rw [hzl.out]; omega)⟩
       have hzf1:=hzf.out z (Ae hz)
       unfold Bi at hzf1
       have hzf2:=Av hzf1
       have hkB:k < B.length:=by rw [hBl.out]; omega
       obtain ⟨bb,bo,ra,rc,rfl,hc1,hel⟩:=(hm.out.fr hFr4).at hkB
       have hrow:=hr.out.row hkB
       rw [hrow] at hc1
       obtain ⟨b3,o3,d,rfl,hbl3,hd,hc2⟩:=hel.at (i:=k) (by rw [hrow]; omega)
       have hdf:=hb.out _ (A8 hkB) d (Ae hd)
       unfold Bi at hdf
       have hdf2:=Av hdf
       have hdig:Ef B k=d:=by unfold Ef; rw [Cb hkB,hd]; rfl
       obtain ⟨x1,x2⟩:=hO4.out.2.2 k z hz
       rw [Az] at x1 x2
       have ec:((k+1:Nat):Int) - 1=(k:Int):=by omega
       rw [ec]
       have hnx2:=hnx.out
       rw [Gy,hz,hdig] at hnx2
       simp only [Cz] at hnx2
       have d0:decide ((k:Int) ≥ 0)=true:=Ac (by omega)
       have d1:decide ((k:Int) < 0)=false:=Aa (by omega)
       have z0:(0:Int)≤(k:Int):=by omega
       have z1:(k:Int) < (r:Int):=by omega
       have hg9:w.heap.size≤g:=by rw [hg.out]; exact Ag _
       have hdw:IntKind.i64.wrap (d - 1)=d - 1:=Al _ (by omega)
       have hzw:IntKind.i64.wrap (z+1)=z+1:=Al _ (by omega)
       have hkz:k < zs.length:=by rw [hzl.out]; omega
       by_cases hzd:z=d - 1
       ·rw [Aj hzd] at hnx2
        have d2:(z == d - 1)=true:=by rw [hzd]; simp
        replace hnx2:=hZ hnx2
        replace hz:=hZ hz
        replace hd:=hZ hd
        replace hdig:=hZ hdig
        replace hzd:=hZ hzd
        replace hrow:=hZ hrow
        clear ec hnx hzf1 hdf hel
        go_wp2_with fail
        go_quiet (fail)
        have y1:(wv.drewN nq).cell? ⟨g,k,none⟩=some (.int .i64 z):=x1
        have y2:(wv.drewN nq).frozen? ⟨g,k,none⟩=false:=x2
        go_wp2_with fail
        go_roundg k
        case measure=>omega
        case rel=>exact ⟨zs.set k 0,by go_num,by omega,hnx2.out,by show _=_; rw [AN]; exact hzl.out,(hfx4.drewN nq).setCell (q:=⟨g,k,none⟩) (.inl rfl) _,by have:=(hO4.out.fr ((Fr.refl wv).drewN nq)).set (k:=k) hkz 0; rw [Az] at this; exact this,fun x hx=>by
         rcases B8 hx with h | h
         ·exact hzf.out x h
         ·rw [h]; decide⟩
       ·rw [Ai hzd] at hnx2
        have d2:(z == d - 1)=false:=Ay hzd
        have hab3:=hab2.out
        rw [hnx2] at hab3
        replace hab3:=hZ hab3
        replace hnx2:=hZ hnx2
        replace hz:=hZ hz
        replace hd:=hZ hd
        replace hdig:=hZ hdig
        replace hzd:=hZ hzd
        replace hrow:=hZ hrow
        clear ec hnx hzf1 hdf hel
        go_wp2_with fail
        go_quiet (fail)
        have y1:(wv.drewN nq).cell? ⟨g,k,none⟩=some (.int .i64 z):=x1
        have y2:(wv.drewN nq).frozen? ⟨g,k,none⟩=false:=x2
        go_wp2_with fail
        go_roundg f
        case measure=>omega
        case rel=>exact ⟨zs.set k (z+1),hab3.out,by show _=_; rw [AN]; exact hzl.out,(hfx4.drewN nq).setCell (q:=⟨g,k,none⟩) (.inl rfl) _,by have:=(hO4.out.fr ((Fr.refl wv).drewN nq)).set (k:=k) hkz (z+1); rw [Az] at this; exact this⟩
theorem OQ {w:World} {base:Nat} {e:TypeId} {size:Nat} {a:Option Addr} {n c m:Nat} {xs:List Value} (h:w.ownsRow base e size (.slice a n c) m xs):n≤c:=by
 rcases h.2 with ⟨hv,-⟩ | ⟨g,cap,cur,hv,h2⟩
 ·injection hv with _ h1 h2; omega
 ·injection hv with h1 h3 h4
  subst h1; subst h4
  exact (Bf h).2.2.2.1
def Lf (w:World) (n:Nat) (g:List (List Int)) (e:Ending) (w':World):Prop:=∃ a c,e=.returned (.tuple #[.agg #[.int .i64 n,.slice a g.length c],.int .i64 0])∧g.length≤c∧(∀ W,Fx (· < w.heap.size) w' W→BT W a g)∧Fr w w'
theorem BH.takeC {w:World} {ob oo:Nat} {hs:List (Nat×Nat×Nat)} {g:List (List Int)} (h:BH w ob oo hs g) (t:Nat):BH w ob oo (hs.take t) (g.take t):=by
 have key:∀ {α:Type} {l:List α} {i:Nat} {x:α},(l.take t)[i]?=some x→l[i]?=some x:=fun {α l i x} hx=>by
  rw [BN] at hx
  split at hx
  ·exact hx
  ·cases hx
 exact ⟨by rw [AG,AG,h.len],h.outer,h.gob,fun i hd xs h1 h2=>h.cell i hd xs (key h1) (key h2),fun i hd xs h1 h2=>h.row i hd xs (key h1) (key h2),fun i j hi hj h1 h2=>h.apart i j hi hj (key h1) (key h2)⟩
def GL (g:List (List Int)):Bool:=g.all fun r=>r.all Bi
theorem SO {g:List (List Int)} (h:∀ r,r ∈ g→∀ x,x ∈ r→Bi x=true):GL g=true:=As.2 fun r hr=>As.2 (h r hr)
def U4 (w:World) (n:Nat) (g:List (List Int)) (e:Ending) (w':World):Prop:=(GL g=true→Lf w n g e w')∧(GL g=false→e=.returned (.tuple #[.agg #[.int .i64 0,.slice none 0 0],.int .i64 4])∧Fr w w')
theorem R7 (ob oc tF n:Nat) (hs:List (Nat×Nat×Nat)) (g:List (List Int)) (w:World) (hG:G w) (hg:BH w ob 0 hs g) (hl:g.length≤1000000) (ht:tF≤g.length) (hr:∀ r,r ∈ g→r.length≤1000000) (hb:∀ r,r ∈ g→∀ x,x ∈ r→-9223372036854775808≤x∧x≤9223372036854775807) :
 Calls Tryz.prog 104 #[.slice (some ⟨ob,0,none⟩) tF oc,.int .i64 n] w (U4 w n (g.take tF)):=by
 have hgn:=CS hG
 obtain ⟨i1,ji,jz0,jz1,jz2⟩:=AQ NV
 replace hg:=hZ hg
 replace hr:=hZ hr
 replace hb:=hZ hb
 replace hG:=hZ hG
 go_enter Tryz.func104,Tryz.ntmps104
 go_wp2_with fail
 have htwo:UR ((w.alloc (.cells #[.int .i64 0,.slice none 0 0] 93)).alloc (.cells #[.int .i64 n,.slice none 0 0] 93)) w.heap.size n (.slice none 0 0):=by
  have hfr:Fr (w.alloc (.cells #[.int .i64 0,.slice none 0 0] 93)) ((w.alloc (.cells #[.int .i64 0,.slice none 0 0] 93)).alloc (.cells #[.int .i64 n,.slice none 0 0] 93)):=(Fr.refl _).alloc _
  have p1:=CZ w (.int .i64 0) (.slice none 0 0) 93
  have p2:=CY w (.int .i64 0) (.slice none 0 0) 93
  have p3:=CZ (w.alloc (.cells #[.int .i64 0,.slice none 0 0] 93)) (.int .i64 n) (.slice none 0 0) 93
  have p4:=CY (w.alloc (.cells #[.int .i64 0,.slice none 0 0] 93)) (.int .i64 n) (.slice none 0 0) 93
  rw [AK] at p3 p4
  exact ⟨⟨_,hfr.keep p1.1⟩,⟨_,hfr.keep p2.1⟩,hfr.keepf p1.1 p1.2,hfr.keepf p2.1 p2.2,p3.1,p4.1,p3.2,p4.2⟩
 have hfr0:Fr w ((w.alloc (.cells #[.int .i64 0,.slice none 0 0] 93)).alloc (.cells #[.int .i64 n,.slice none 0 0] 93)):=((Fr.refl _).alloc _).alloc _
 go_loopg [15] tF (fun k s15 wr=>∃ (j:Nat) (hO:List (Nat×Nat×Nat)) (v:Value),s15=.int .i64 j∧j+k=tF∧Fr w wr∧Hid (w.heap.size+2≤wr.heap.size)∧UR wr w.heap.size n v∧GI wr (w.heap.size+2) 44 v hO (g.take j)∧Hid (∀ h,h ∈ hO→w.heap.size+2≤h.1)∧Hid (GL (g.take j)=true))
 case atStart=>exact ⟨0,[],_,rfl,by omega,hfr0,by show _≤_; simp,htwo,GI.nil _ _ _ (by omega),fun h hm=>by simp at hm,rfl⟩
 case round=>
  clear htwo hfr0
  obtain ⟨j,hO,v,rfl,hjk,hf,hsz,htw,hgi,hnew,hfitj⟩:=hrel
  obtain ⟨⟨x0,a0⟩,⟨x1,a1⟩,fa0,fa1,b0,b1,fb0,fb1⟩:=htw
  have htw:=hZ (show UR wr w.heap.size n v from ⟨⟨x0,a0⟩,⟨x1,a1⟩,fa0,fa1,b0,b1,fb0,fb1⟩)
  by_cases hlt:j < tF
  ·have hjl:j < g.length:=by omega
   obtain ⟨rb,ro,rc,e1,ca1,cf1,ro1,bo1⟩:=(hg.out.fr hf).at hjl
   rw [Az] at ca1
   have hsn:=Bx (Ab hjl)
   have hrj:=hr.out _ (A8 hjl)
   have hsh:=N9 g[j] rb ro rc wr ro1.el hrj (hb.out _ (A8 hjl))
   have hrm:g[j] ∈ g.take tF:=EU.2 ⟨j,by rw [BN,Aj hlt]; exact Ab hjl⟩
   have hgl:(g.take j).length=j:=by rw [AG]; omega
   generalize g[j]=row at *
   obtain ⟨m,hm⟩:∃ m,m=row.length:=⟨_,rfl⟩
   rw [← hm] at ca1 hsh
   replace hm:=hZ hm
   replace hsn:=hZ hsn
   replace hgl:=hZ hgl
   replace hgi:=hZ hgi
   replace ro1:=hZ ro1
   replace e1:=hZ e1
   cases hbr:row.all Bi with
   | false=>
     have hbad:Hid (GL (g.take tF)=false):=hZ (CV.2 ⟨row,hrm,by rw [hbr]; simp⟩)
     clear hrm b0 b1 fb0 fb1
     replace a0:=hZ a0
     replace a1:=hZ a1
     replace fa0:=hZ fa0
     replace fa1:=hZ fa1
     go_wp2_with fail
     refine hsh.mono ?_
     clear hsh
     rintro e w2 hrr
     obtain ⟨rfl,hf2⟩:=hrr.2 hbr
     clear hrr
     have fa0:=hf2.keepf a0.out fa0.out
     have fa1:=hf2.keepf a1.out fa1.out
     have a0:=hf2.keep a0.out
     have a1:=hf2.keep a1.out
     go_wp2_with fail
     have q0:(w2.setCell ⟨w.heap.size,0,none⟩ (.int .i64 0)).cell? ⟨w.heap.size,0,none⟩=some (.int .i64 0):=Aq _ _ _ (by rw [a0]; rfl)
     have e1:(⟨w.heap.size,0,none⟩:Addr)≠⟨w.heap.size,1,none⟩:=fun e=>by injection e with _ e; omega
     have q1:((w2.setCell ⟨w.heap.size,0,none⟩ (.int .i64 0)).setCell ⟨w.heap.size,1,none⟩ (.slice none 0 0)).cell? ⟨w.heap.size,1,none⟩=some (.slice none 0 0):=Aq _ _ _ (by rw [Ad _ _ _ _ e1,a1]; rfl)
     refine Ax (v:=.tuple #[.agg #[.int .i64 0,.slice none 0 0],.int .i64 4]) (by simp [results,Tryz.results104,go_sem,q0,q1]) rfl ?_
     exact ⟨fun h=>(by rw [hbad.out] at h; cases h),fun _=>⟨rfl,((hf.trans hf2).setCell (p:=⟨w.heap.size,0,none⟩) (by simp) _).setCell (p:=⟨w.heap.size,1,none⟩) (by simp) _⟩⟩
   | true=>
     clear hrm
     clear a0 a1 fa0 fa1 b0 b1 fb0 fb1
     go_wp2_with fail
     refine hsh.mono ?_
     clear hsh
     rintro e w2 hrr
     obtain ⟨gg,c,rfl,hf2,hown2⟩:=hrr.1 hbr
     clear hrr
     obtain ⟨hO2,-,-,hgb,hcp⟩:=Cr (AE hgn hf.size) hown2
     have hgi2:=hgi.out.fr hf2
     have hne:v.ownBlock≠some gg:=fun e=>by have h9:=(hgi.out.own.lt gg e).2; omega
     have hne2:∀ h',h' ∈ hO→h'.1≠gg:=fun h' hm e2=>by have h9:=hgi.out.lt h' hm; omega
     have hown3:=hgi2.own
     rw [hgl.out] at hown3
     rw [← hm.out]
     have hvb:∀ b,v.ownBlock=some b→w.heap.size+2≤b:=fun b e=>(hgi2.own.lt b e).1
     have htw2:=htw.out.fx (p:=fun _=>False) (Fx.of_fr hf2) (fun e=>e) (fun e=>e)
     obtain ⟨⟨y0,a0⟩,⟨y1,a1⟩,fa0,fa1,b0,b1,fb0,fb1⟩:=htw2
     have htw2:=hZ (show UR w2 w.heap.size n v from ⟨⟨y0,a0⟩,⟨y1,a1⟩,fa0,fa1,b0,b1,fb0,fb1⟩)
     clear a0 a1 fa0 fa1 b0
     replace hgi2:=hZ hgi2
     replace hown2:=hZ hown2
     replace hvb:=hZ hvb
     have hszz:=hsz.out
     have htwA:∀ wA:World,(w2.alloc (.cells #[.slice (some ⟨gg,0,none⟩) m c] 44)).grownBy wA v.ownBlock→UR wA w.heap.size n v:=fun wA hgw=>
      (htw2.out.fx (p:=fun _=>False) (Fx.of_fr ((Fr.refl w2).alloc _)) (fun e=>e) (fun e=>e)).fx (Fx.of_grown hgw) (fun e=>by have:=hvb.out _ e; omega) (fun e=>by have:=hvb.out _ e; omega)
     replace htwA:=hZ htwA
     go_wp2_with (at_builtin; refine At _ rfl _ _ 34 (by rfl) _ 44 _ _ 1 24 Tryz.underlying34 ji jz0 jz1 jz2 rfl (by decide) _ j _ (by rfl) (Au hown3 _) ⟨w2.heap.size,0,none⟩ 1 1 [.slice (some ⟨gg,0,none⟩) m c] (by rfl) rfl (AF _ _ _ _ (by simp)) (by simp [Value.oneCell']) (by decide) (by unfold maxLen; omega) (by omega) (by have:=(hf.trans hf2).size; have:=hf2.size; simp; omega) (w2.heap.size+1) (by simp) ?_; intro gA capA wA hownA hgrowA hatA hltA; have htw3:=htwA.out wA hgrowA; have hbb:=htw3.b1; have hfb:=htw3.fb1; replace htw3:=hZ htw3)
     have hpush:=(hgi2.out.fr ((Fr.refl w2).alloc _)).pushN (hd:=(gg,0,c)) (hO2.fr ((Fr.refl w2).alloc _)) hne2 hne hgl.out (by unfold Nn; rw [← hm.out]) hownA hgrowA (hatA.imp id (fun e=>by rw [e]; simp))
     rw [← hsn.out] at hpush
     have hfrA:Fr w wA:=(((hf.trans hf2).alloc _)).grown hgrowA (fun k e=>by have:=hvb.out k e; omega)
     have hfx9:Fx (·=w.heap.size+1) wA (wA.setCell ⟨w.heap.size+1,1,none⟩ (.slice (some ⟨gA,0,none⟩) (j+1) capA)):=Fx.setCell (p:=(·=w.heap.size+1)) (q:=⟨w.heap.size+1,1,none⟩) (Fx.refl _ wA) (.inl rfl) _
     have hpush2:=hpush.fx hfx9 (fun b e e2=>by have e3:b=w.heap.size+1:=e2; have h9:=(hpush.own.lt b e).1; omega) (fun hd hm9 e2=>by rcases A5.1 hm9 with h1 | h1; (have e3:hd.1=w.heap.size+1:=e2; have:=hnew.out hd h1; omega); (simp at h1; subst h1; have e3:gg=w.heap.size+1:=e2; omega))
     have htw4:=htw3.out.set (.slice (some ⟨gA,0,none⟩) (j+1) capA)
     have hfr9:Fr w (wA.setCell ⟨w.heap.size+1,1,none⟩ (.slice (some ⟨gA,0,none⟩) (j+1) capA)):=hfrA.setCell (p:=⟨w.heap.size+1,1,none⟩) (by simp) _
     go_roundg (gk - 1)
     case measure=>omega
     case rel=>exact ⟨j+1,_,_,by go_num,by omega,hfr9,hZ (by have h7:=hf2.size; have h8:=hgrowA.size; have h9:=hszz; simp at h8; simp; omega),htw4,hpush2,fun h hm9=>by rcases A5.1 hm9 with h1 | h1; exact hnew.out h h1; (simp at h1; subst h1; exact AE hsz.out hgb),by show GL _=true; rw [hsn.out]; unfold GL; rw [FY]; have h1:=hfitj.out; unfold GL at h1; rw [h1]; simp [hbr]⟩
  ·have hd:decide (j < tF)=false:=Aa hlt
   obtain rfl:j=tF:=by omega
   obtain ⟨a9,c9,rfl,-⟩:=Ft hgi.own
   have hgl:(g.take j).length=j:=by rw [AG]; omega
   have hcp9:(g.take j).length≤c9:=OQ hgi.own
   rw [hgl] at hgi b1 htw
   go_wp2_with fail
   have q0:(wr.setCell ⟨w.heap.size,0,none⟩ (.int .i64 n)).cell? ⟨w.heap.size,0,none⟩=some (.int .i64 n):=Aq _ _ _ (by rw [a0]; rfl)
   have e1:(⟨w.heap.size,0,none⟩:Addr)≠⟨w.heap.size,1,none⟩:=fun e=>by injection e with _ e; omega
   have q1:((wr.setCell ⟨w.heap.size,0,none⟩ (.int .i64 n)).setCell ⟨w.heap.size,1,none⟩ (.slice a9 j c9)).cell? ⟨w.heap.size,1,none⟩=some (.slice a9 j c9):=Aq _ _ _ (by rw [Ad _ _ _ _ e1,a1]; rfl)
   refine Ax (v:=.tuple #[.agg #[.int .i64 n,.slice a9 j c9],.int .i64 0]) (by simp [results,Tryz.results104,go_sem,q0,q1]) rfl ?_
   refine ⟨fun _=>⟨a9,c9,by rw [hgl],hcp9, ?_,(hf.setCell (p:=⟨w.heap.size,0,none⟩) (by simp) _).setCell (p:=⟨w.heap.size,1,none⟩) (by simp) _⟩,fun h=>(by rw [hfitj.out] at h; cases h)⟩
   have hfx:Fx (·=w.heap.size) wr ((wr.setCell ⟨w.heap.size,0,none⟩ (.int .i64 n)).setCell ⟨w.heap.size,1,none⟩ (.slice a9 j c9)):=Fx.setCell (p:=(·=w.heap.size)) (q:=⟨w.heap.size,1,none⟩) (Fx.setCell (p:=(·=w.heap.size)) (q:=⟨w.heap.size,0,none⟩) (Fx.refl _ wr) (.inl rfl) _) (.inl rfl) _
   intro W hW
   exact ((hgi.fx hfx (fun b e e2=>by have e3:b=w.heap.size:=e2; have h9:=(hgi.own.lt b e).1; omega) (fun hd hm9 e2=>by have e3:hd.1=w.heap.size:=e2; have:=hnew.out hd hm9; omega)).fx hW (fun b e e2=>by have e3:b < w.heap.size:=e2; have h9:=(hgi.own.lt b e).1; omega) (fun hd hm9 e2=>by have e3:hd.1 < w.heap.size:=e2; have:=hnew.out hd hm9; omega)).mat
theorem RR (m gF:List (List Int)) (F tF:Nat) (a:Option Addr) (cap n:Nat) (w:World) (hG:G w) (hm:BT w a m) (hok:Ge n m) (hml:0 < m.length) (hn:1≤n) (hF:DR F n 0 m 0=some (gF,tF)) (hfF:∀ r,r ∈ gF.take tF→∀ x,x ∈ r→-9223372036854775808≤x∧x≤9223372036854775807) :
 Calls Tryz.prog 41 #[.int .i64 n,.slice a m.length cap] w (U4 w n (gF.take tF)):=by
 have hfit:=hok.2.2.2
 have hr1:=hok.2.2.1
 have hsm:∀ r,r ∈ m→∀ y,y ∈ r→Sm y:=fun r hr y hy=>Ur (hfit r hr y hy)
 have hn12:=hok.2.1
 have hm12:=hok.1
 have hrl:∀ r,r ∈ m→r.length≤1000000:=fun r hr=>by rw [hr1 r hr]; omega
 have hE:∀ r,r ∈ m→Cx r=0:=fun r hr=>
  Hm (by rw [hr1 r hr]; omega) (by
   rw [CE]
   intro y hy
   rw [hfit r hr y hy]; simp)
 have hchk:=fun W hW=>O1 m a cap n W (hm.fr (w':=W) hW) hr1 (by omega) hE hn12
 have hlongs:=fun W hW=>OY m a cap W (hG.fr hW) (hm.fr hW) hrl (by omega) hsm
 have hform:=fun ob oc hs W hgW hg hoc=>Up ob 0 oc hs m gF F n n tF W hgW hg hr1 (by omega) (by omega) (Ag n) hoc hF
 have hG1:=hZ hG
 obtain ⟨N,hN⟩:∃ N,N=m.length:=⟨_,rfl⟩
 rw [← hN] at hchk hlongs hform hml hm12 ⊢
 replace hN:=hZ hN
 replace hfF:=hZ hfF
 replace hfit:=hZ hfit
 replace hrl:=hZ hrl
 replace hchk:=hZ hchk
 replace hlongs:=hZ hlongs
 replace hform:=hZ hform
 clear hm hok hG hr1 hsm hE
 have hgn:=CS hG1.out
 go_enter Tryz.func41,Tryz.ntmps41
 go_wp2_with fail
 refine (hchk.out _ ((Fr.refl w).alloc _)).mono ?_
 rintro e w1 ⟨rfl,hf1⟩
 go_wp2_with fail
 refine (hlongs.out _ (((Fr.refl w).alloc _).trans hf1)).mono ?_
 rintro e w2 ⟨v,hs,rfl,hgg,hnew,hf2⟩
 obtain ⟨ob,oc,rfl⟩:=Dh hgg.own (by rw [← hN.out]; exact hml)
 obtain ⟨hg,-,hgb,hgc⟩:=hgg.grid
 clear hgg
 have hG2:=hG1.out.fr ((((Fr.refl w).alloc _).trans hf1).trans hf2)
 replace hG2:=hZ hG2
 rw [← hN.out] at hgc ⊢
 have hg9:=hZ hg
 go_wp2_with fail
 refine (hform.out ob oc hs _ hG2.out hg9.out hgc).mono ?_
 rintro e w3 ⟨rfl,htl,hgl,hrF,hs',hsame,hfx3,hg3⟩
 replace hg3:=hZ (hg3.takeC tF)
 replace hrF:=hZ hrF
 replace hsame:=hZ hsame
 have hfr3:Fr (w.alloc (.cells #[.int .i64 0,.slice none 0 0] 93)) w3:=((Fx.of_fr (hf1.trans hf2)).trans hfx3).toFr (fun k hk e=>by
  have h1:=hf1.size
  rcases e with rfl | ⟨h,hm9,rfl⟩
  ·omega
  ·have:=hnew.out h hm9; omega)
 have hlt:(gF.take tF).length=tF:=by rw [AG]; omega
 have hsh:=hZ (R7 ob oc tF n (hs'.take tF) (gF.take tF) w3 (hG1.out.fr (((Fr.refl w).alloc _).trans hfr3)) hg3.out (by omega) (by omega) (fun r hr=>by rw [hrF.out r (Cu hr)]; omega) hfF.out)
 rw [Ak (by omega)] at hsh
 replace hlt:=hZ hlt
 go_wp2_with fail
 cases hbr:GL (gF.take tF) with
 | false=>
   replace hbr:=hZ hbr
   refine hsh.out.mono ?_
   rintro e w4 hrr
   obtain ⟨rfl,hf4⟩:=hrr.2 hbr.out
   clear hrr
   have p1:=CZ w (.int .i64 0) (.slice none 0 0) 93
   have p2:=CY w (.int .i64 0) (.slice none 0 0) 93
   have c1:=(hfr3.trans hf4).keep p1.1
   have c2:=(hfr3.trans hf4).keep p2.1
   have c3:=(hfr3.trans hf4).keepf p1.1 p1.2
   have c5:=(hfr3.trans hf4).keepf p2.1 p2.2
   clear p1 p2
   go_wp2_with fail
   have e1:(⟨w.heap.size,0,none⟩:Addr)≠⟨w.heap.size,1,none⟩:=fun e=>by injection e with _ e; omega
   have q0:(w4.setCell ⟨w.heap.size,0,none⟩ (.int .i64 0)).cell? ⟨w.heap.size,0,none⟩=some (.int .i64 0):=Aq _ _ _ (by rw [c1]; rfl)
   have q1:((w4.setCell ⟨w.heap.size,0,none⟩ (.int .i64 0)).setCell ⟨w.heap.size,1,none⟩ (.slice none 0 0)).cell? ⟨w.heap.size,1,none⟩=some (.slice none 0 0):=Aq _ _ _ (by rw [Ad _ _ _ _ e1,c2]; rfl)
   have hfw:Fr w w4:=((Fr.refl w).alloc _).trans (hfr3.trans hf4)
   refine Ax (v:=.tuple #[.agg #[.int .i64 0,.slice none 0 0],.int .i64 4]) (by simp [results,Tryz.results41,go_sem,q0,q1]) rfl ?_
   exact ⟨fun h=>(by rw [hbr.out] at h; cases h),fun _=>⟨rfl,(hfw.setCell (p:=⟨w.heap.size,0,none⟩) (by simp) _).setCell (p:=⟨w.heap.size,1,none⟩) (by simp) _⟩⟩
 | true=>
   replace hbr:=hZ hbr
   refine hsh.out.mono ?_
   rintro e w4 hrr
   obtain ⟨a4,c4,rfl,hcp4,hm4,hf4⟩:=hrr.1 hbr.out
   clear hrr
   rw [hlt.out] at hcp4 ⊢
   have p1:=CZ w (.int .i64 0) (.slice none 0 0) 93
   have p2:=CY w (.int .i64 0) (.slice none 0 0) 93
   have c1:=(hfr3.trans hf4).keep p1.1
   have c2:=(hfr3.trans hf4).keep p2.1
   have c3:=(hfr3.trans hf4).keepf p1.1 p1.2
   have c5:=(hfr3.trans hf4).keepf p2.1 p2.2
   replace hm4:=hZ hm4
   clear p1 p2
   go_wp2_with fail
   have e1:(⟨w.heap.size,0,none⟩:Addr)≠⟨w.heap.size,1,none⟩:=fun e=>by injection e with _ e; omega
   have q0:(w4.setCell ⟨w.heap.size,0,none⟩ (.int .i64 n)).cell? ⟨w.heap.size,0,none⟩=some (.int .i64 n):=Aq _ _ _ (by rw [c1]; rfl)
   have q1:((w4.setCell ⟨w.heap.size,0,none⟩ (.int .i64 n)).setCell ⟨w.heap.size,1,none⟩ (.slice a4 tF c4)).cell? ⟨w.heap.size,1,none⟩=some (.slice a4 tF c4):=Aq _ _ _ (by rw [Ad _ _ _ _ e1,c2]; rfl)
   have hfw:Fr w w4:=((Fr.refl w).alloc _).trans (hfr3.trans hf4)
   refine Ax (v:=.tuple #[.agg #[.int .i64 n,.slice a4 tF c4],.int .i64 0]) (by simp [results,Tryz.results41,go_sem,q0,q1]) rfl ?_
   refine ⟨fun _=>⟨a4,c4,by rw [hlt.out],by rw [hlt.out]; exact hcp4, ?_,(hfw.setCell (p:=⟨w.heap.size,0,none⟩) (by simp) _).setCell (p:=⟨w.heap.size,1,none⟩) (by simp) _⟩,fun h=>(by rw [hbr.out] at h; cases h)⟩
   have hfx:Fx (·=w.heap.size) w4 ((w4.setCell ⟨w.heap.size,0,none⟩ (.int .i64 n)).setCell ⟨w.heap.size,1,none⟩ (.slice a4 tF c4)):=Fx.setCell (p:=(·=w.heap.size)) (q:=⟨w.heap.size,1,none⟩) (Fx.setCell (p:=(·=w.heap.size)) (q:=⟨w.heap.size,0,none⟩) (Fx.refl _ w4) (.inl rfl) _) (.inl rfl) _
   have hs3:=hfr3.size
   have hs3:w.heap.size < w3.heap.size:=by simp at hs3; omega
   intro W hW
   exact hm4.out W ((hfx.mono (fun k e=>by have e2:k=w.heap.size:=e; show k < _; omega)).trans (hW.mono (fun k e=>by have e2:k < w.heap.size:=e; show k < _; omega)))
theorem Ww (m gF:List (List Int)) (F tF:Nat) (a:Option Addr) (cap n:Nat) (w:World) (hG:G w) (hm:BT w a m) (hok:Ge n m) (hml:0 < m.length) (hn:1≤n) (hF:DR F n 0 m 0=some (gF,tF)) (hfF:∀ r,r ∈ gF.take tF→∀ x,x ∈ r→Bi x=true) :
 Calls Tryz.prog 41 #[.int .i64 n,.slice a m.length cap] w (Lf w n (gF.take tF)) :=
 (RR m gF F tF a cap n w hG hm hok hml hn hF (fun r hr x hx=>by have h:=Ur (hfF r hr x hx); unfold Sm at h; omega)).mono fun _ _ h=>h.1 (SO hfF)
def CR (xs:List Int):Int:=if Cx xs≠0 then Cx xs else if xs.length≠2 then 5 else 0
theorem Fu (xs:List Int) (a:Option Addr) (c:Nat) (w:World) (hx:El w iv a xs) (hl:xs.length≤1000000000) :
 Calls Tryz.prog 59 #[.slice a xs.length c] w fun e w'=>e=.returned (.int .i64 (CR xs))∧Fr w w':=by
 have hck:=fun W (hW:Fr w W)=>Df xs a c W (hx.fr hW) hl
 have e1:Cx xs≠0→CR xs=Cx xs:=fun h=>by unfold CR; rw [Aj h]
 have e2:Cx xs=0→xs.length≠2→CR xs=5:=fun h h2=>by unfold CR; rw [Ai (by rw [h]; simp),Aj h2]
 have e3:Cx xs=0→xs.length=2→CR xs=0:=fun h h2=>by unfold CR; rw [Ai (by rw [h]; simp),Ai (by rw [h2]; simp)]
 clear hx
 generalize CR xs=E at *
 generalize Cx xs=R at *
 generalize xs.length=n at *
 replace hck:=hZ hck
 replace e1:=hZ e1
 replace e2:=hZ e2
 replace e3:=hZ e3
 go_enter Tryz.func59,Tryz.ntmps59
 go_wp2_with fail
 refine (hck.out _ (Fr.refl _)).mono ?_
 rintro e w1 ⟨rfl,hf1⟩
 by_cases h:R=0
 ·have d1:(R != 0)=false:=by rw [h]; rfl
  have e2':=e2.out h
  have e3':=e3.out h
  replace e2':=hZ e2'
  replace e3':=hZ e3'
  replace h:=hZ h
  by_cases h2:n=2
  ·have d2:((n:Int) != 2)=false:=by rw [h2]; rfl
   have hE:=hZ (e3'.out h2)
   replace h2:=hZ h2
   go_wp2_with fail
   go_ret
   exact ⟨Bk hE.out.symm,hf1⟩
  ·have d2:((n:Int) != 2)=true:=by rw [Bl]; omega
   have hE:=hZ (e2'.out h2)
   go_wp2_with fail
   go_ret
   exact ⟨Bk hE.out.symm,hf1⟩
 ·have d1:(R != 0)=true:=by rw [Bl]; exact h
  have hE:=hZ (e1.out h)
  go_wp2_with fail
  go_ret
  exact ⟨Bk hE.out.symm,hf1⟩
def Fd (k:Int):Int:=max (min k 10000) (-10000)
def Bw (k:Int) (g0 g1:Int):List Int:=[Fd k * g0,Fd k * g1]
theorem UC (k:Int):-10000≤Fd k∧Fd k≤10000:=by unfold Fd; omega
theorem Iz {k x:Int} (h1:-10000≤k) (h2:k≤10000) (h3:-1000000000≤x) (h4:x≤1000000000):-10000000000000≤k * x∧k * x≤10000000000000:=by
 have h:(k * x).natAbs≤10000 * 1000000000:=by rw [BD]; exact CH (by omega) (by omega)
 omega
theorem ND (k g0 g1:Int) (cb gb:Nat) (go gc:Nat) (w:World) (hc:w.cell? ⟨cb,2,none⟩=some (.slice (some ⟨gb,go,none⟩) 2 gc)) (h0:w.cell? ⟨gb,go,none⟩=some (.int .i64 g0)) (h1:w.cell? ⟨gb,go+1,none⟩=some (.int .i64 g1))
 (hg0:Bi g0=true) (hg1:Bi g1=true) :
 Calls Tryz.prog 60 #[.int .i64 k,.pointer (some ⟨cb,0,none⟩)] w fun e w'=>∃ g,e=.returned (.slice (some ⟨g,0,none⟩) 2 2)∧w.heap.size≤g∧g < w'.heap.size∧El w' iv (some ⟨g,0,none⟩) (Bw k g0 g1)∧Fr w w':=by
 have hg0':=Av hg0
 have hg1':=Av hg1
 obtain ⟨c1,c2⟩:=UC k
 have b0:=Iz c1 c2 hg0'.1 hg0'.2
 have b1:=Iz c1 c2 hg1'.1 hg1'.2
 have w0:=Al (Fd k * g0) (by omega)
 have w1:=Al (Fd k * g1) (by omega)
 have hel:Hid (∀ W:World,El (W.alloc (.cells #[.int .i64 (Fd k * g0),.int .i64 (Fd k * g1)] 3)) iv (some ⟨W.heap.size,0,none⟩) (Bw k g0 g1)):=fun W=>El.two' W _ _ _
 have hcl:max (min k 10000) (-10000)=Fd k:=rfl
 generalize Bw k g0 g1=TS at *
 generalize Fd k=K at *
 clear hg0 hg1 hg0' hg1'
 go_enter Tryz.func60,Tryz.ntmps60
 go_upto_region 2 with (fail)
 go_region
 all_goals
  go_wp2_with fail
  go_ret
  exact ⟨w.heap.size,rfl,Ag _,by simp,(hel.out w).fr (Fr.refl _).drew,((Fr.refl _).alloc _).drew⟩
structure Br (w:World) (r:Nat) (v u:Value):Prop where
 a:w.cell? ⟨r,0,none⟩=some v
 b:w.cell? ⟨r,1,none⟩=some u
 fa:w.frozen? ⟨r,0,none⟩=false
 fb:w.frozen? ⟨r,1,none⟩=false
theorem Br.lt {w:World} {r:Nat} {v u:Value} (h:Br w r v u):r < w.heap.size:=AX w ⟨r,0,none⟩ h.a
theorem Br.fx {p:Nat→Prop} {w w':World} {r:Nat} {v u:Value} (h:Br w r v u) (k:Fx p w w') (h1:¬ p r):Br w' r v u :=
 ⟨k.keep h.a h1,k.keep h.b h1,k.keepf h.a h.fa h1,k.keepf h.b h.fb h1⟩
theorem Br.fr {w w':World} {r:Nat} {v u:Value} (h:Br w r v u) (k:Fr w w'):Br w' r v u:=h.fx (p:=fun _=>False) (Fx.of_fr k) (fun e=>e)
theorem Br.new (w:World) (v u:Value) (t:TypeId):Br (w.alloc (.cells #[v,u] t)) w.heap.size v u :=
 ⟨(CZ w v u t).1,(CY w v u t).1,(CZ w v u t).2,(CY w v u t).2⟩
theorem Br.set0 {w:World} {r:Nat} {v u:Value} (h:Br w r v u) (v':Value):Br (w.setCell ⟨r,0,none⟩ v') r v' u :=
 ⟨Aq _ _ _ (by rw [h.a]; rfl),by rw [Ad _ _ _ _ (fun e=>by injection e with _ e; omega)]; exact h.b,by rw [Ap]; exact h.fa,by rw [Ap]; exact h.fb⟩
theorem Br.set1 {w:World} {r:Nat} {v u:Value} (h:Br w r v u) (u':Value):Br (w.setCell ⟨r,1,none⟩ u') r v u' :=
 ⟨by rw [Ad _ _ _ _ (fun e=>by injection e with _ e; omega)]; exact h.a,Aq _ _ _ (by rw [h.b]; rfl),by rw [Ap]; exact h.fa,by rw [Ap]; exact h.fb⟩
end Go.Proofs.YtcglmebcfeoedaaGreatDoor
