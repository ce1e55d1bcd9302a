/- Contracts and laws: GAB. -/
import Derived.Test.YtiniigadkknboaaGreatDoorGAA
import Derived.Deep.RegionHeld3
import Derived.Deep.RegionWith
import Derived.Deep.DrawnRows
import Derived.Deep.LoopGhost
import Derived.Deep.AppendLies
import Derived.Maps.AppendAt

set_option maxHeartbeats 400000
namespace Go.Proofs.YtiniigadkknboaaGreatDoor
open Go.RowKit Go.Lib
def Bq (n:Int):Bool:=decide (-1000000000≤n∧n≤1000000000)
def CA (xs:List Int):Int:=if 64 < xs.length then 4 else if xs.any (fun n=>!Bq n) then 4 else 0
theorem So {xs:List Int} (h:64 < xs.length):CA xs=4:=by unfold CA; rw [Ai h]
theorem TS {xs:List Int} (h:xs.any (fun n=>!Bq n)=true):CA xs=4:=by unfold CA; rw [h]; split <;> rfl
theorem IX {xs:List Int} (h:¬ 64 < xs.length) (h2:xs.any (fun n=>!Bq n)=false):CA xs=0:=by unfold CA; rw [Ag h,h2]; rfl
theorem Ds {a b:Bool} (h:a=b):Ending.returned (.bool a)=Ending.returned (.bool b):=by rw [h]
theorem UD (n:Int) (w:World):Calls Tryz.prog 55 #[.int .i64 n] w fun e w'=>e=.returned (.bool (Bq n))∧w=w':=by
 by_cases h1:-1000000000≤n
 ·by_cases h2:n≤1000000000
  ·have hf:=hZ (show Bq n=true from Ab ⟨h1,h2⟩)
   go_enter Tryz.func55,Tryz.ntmps55
   go_wp2
   go_ret
   exact ⟨Ds hf.out.symm,rfl⟩
  ·have hf:=hZ (show Bq n=false from Aa (fun h=>h2 h.2))
   have d2:decide (n≤1000000000)=false:=Aa h2
   go_enter Tryz.func55,Tryz.ntmps55
   go_wp2
   go_ret
   exact ⟨Ds hf.out.symm,rfl⟩
 ·have hf:=hZ (show Bq n=false from Aa (fun h=>h1 h.1))
  have d1:decide (-1000000000≤n)=false:=Aa h1
  go_enter Tryz.func55,Tryz.ntmps55
  go_wp2
  go_ret
  exact ⟨Ds hf.out.symm,rfl⟩
theorem PT (w:World) (xs:List Int):JV w 54 #[] iv (fun n=>!Bq n) xs:=fun x W _ _=>by
 show Calls Tryz.prog 54 #[.int .i64 x] W _
 go_enter Tryz.func54,Tryz.ntmps54
 go_wp2_with fail
 refine (UD x _).mono ?_; rintro e w' ⟨rfl,rfl⟩
 go_wp2_with fail
 go_ret
 exact ⟨rfl,Fr.refl _⟩
theorem D2 (xs:List Int) (a:Option Addr) (cap:Nat) (w:World) (hx:El w iv a xs) (hl:xs.length≤1000000000) :
 Calls Tryz.prog 22 #[.slice a xs.length cap] w fun e w'=>e=.returned (.int .i64 (CA xs))∧Fr w w':=by
 by_cases h:64 < xs.length
 ·have hf:=hZ (So h)
  go_enter Tryz.func22,Tryz.ntmps22
  go_wp2_with fail
  go_ret
  exact ⟨Cv hf.out.symm,Fr.refl _⟩
 ·have eg:∀ args w,(callFunc 54 args).run Tryz.prog w=.ok (.enter 54 args) w:=Ey Tryz.func54 (by kernel_rfl) rfl
  have hc:=GN xs a cap 54 #[] (fun n=>!Bq n) w eg hx hl (PT w xs)
  have d1:decide ((64:Int) < (xs.length:Int))=false:=Aa (by omega)
  have hh:=hZ h
  clear h eg
  cases hb:xs.any (fun n=>!Bq n)
  ·have hf:=hZ (IX hh.out hb)
   rw [hb] at hc; clear hb
   go_enter Tryz.func22,Tryz.ntmps22
   go_wp2_with fail
   refine hc.mono ?_; rintro e w' ⟨rfl,hf1⟩
   go_wp2_with fail
   go_ret
   exact ⟨Cv hf.out.symm,hf1⟩
  ·have hf:=hZ (TS hb)
   rw [hb] at hc; clear hb
   go_enter Tryz.func22,Tryz.ntmps22
   go_wp2_with fail
   refine hc.mono ?_; rintro e w' ⟨rfl,hf1⟩
   go_wp2_with fail
   go_ret
   exact ⟨Cv hf.out.symm,hf1⟩
theorem Sb {α:Type} {xs ys:List α} {k:Nat} {x:α} (h:xs.take k=ys.take k) (hx:xs[k]?=some x) (hy:ys[k]?=some x):Hid (xs.take (k+1)=ys.take (k+1)):=by
 show _=_
 rw [DH,DH,h,hx,hy]
theorem Nf (xs ys:List Int) (a b:Option Addr) (ca cb:Nat) (w:World) (hx:El w iv a xs) (hy:El w iv b ys) (_hl:xs.length≤1000000000) (_hm:ys.length≤1000000000) :
 Calls Tryz.prog 104 #[.slice a xs.length ca,.slice b ys.length cb] w fun e w'=>e=.returned (.bool (decide (xs=ys)))∧Fr w w':=by
 by_cases hlen:xs.length=ys.length
 ·have hne:((xs.length:Int) != ys.length)=false:=by rw [hlen]; simp
  have hlen:=hZ hlen
  rename_i hlen0
  clear hlen0
  go_enter Tryz.func104,Tryz.ntmps104
  go_wp2_with fail
  go_loopw [5,13] (fun _ s13 wr=>∃ k:Nat,s13=.int .i64 k∧k≤xs.length∧Fr w wr∧Hid (xs.take k=ys.take k)) (fun _ s13 _=>xs.length - (RowKit.intOf s13).toNat)
  case atStart=>exact ⟨0,rfl,Ck _,Fr.refl _,show _=_ by simp⟩
  case round=>
   obtain ⟨k,rfl,hk,hf,hb⟩:=hrel
   by_cases hlt:k < xs.length
   ·have hlt2:k < ys.length:=by rw [← hlen.out]; exact hlt
    obtain ⟨b1,o1,x,rfl,hbl1,hxk,hcell1⟩:=(hx.fr hf).at hlt
    obtain ⟨b2,o2,y,rfl,hbl2,hyk,hcell2⟩:=(hy.fr hf).at hlt2
    have hxk:=hZ hxk
    have hyk:=hZ hyk
    by_cases hxy:x=y
    ·have hq:(x != y)=false:=by rw [hxy]; simp
     have hxy:=hZ hxy
     rename_i hxy0; clear hxy0
     go_wp2_with fail
     go_quiet (fail)
     go_wp2_with fail
     go_roundw
     case rel=>exact ⟨k+1,by go_num,by omega,hf.drewN _,Sb hb.out hxk.out (by rw [hxy.out]; exact hyk.out)⟩
     case measure=>simp [RowKit.intOf]; omega
    ·have hq:(x != y)=true:=by rw [Bs]; exact hxy
     have hfin:=hZ (show decide (xs=ys)=false from Aa (fun e=>hxy (by have h1:=hxk.out; have h2:=hyk.out; rw [e,h2] at h1; injection h1 with h1; exact h1.symm)))
     clear hxy
     go_wp2_with fail
     go_quiet (fail)
     go_wp2_with fail
     go_ret
     exact ⟨Ds hfin.out.symm,hf.drewN _⟩
   ·have hfin:=hZ (show decide (xs=ys)=true from Ab (by have h:=hb.out; rw [Ao (by omega),Ao (by have:=hlen.out; omega)] at h; exact h))
    go_wp2_with fail
    go_ret
    exact ⟨Ds hfin.out.symm,hf⟩
 ·have hne:((xs.length:Int) != ys.length)=true:=by rw [Bs]; omega
  have hfin:=hZ (show decide (xs=ys)=false from Aa (fun e=>hlen (by rw [e])))
  clear hlen
  go_enter Tryz.func104,Tryz.ntmps104
  go_wp2_with fail
  go_ret
  exact ⟨Ds hfin.out.symm,Fr.refl _⟩
attribute [local go_sem ↓] Go.wp_at_zero Go.wp_at_succ
def gN:Nat:=2+1
structure Fx (p:Nat→Prop) (w w':World):Prop where
 os:w'.os=w.os
 tape:w'.tape=w.tape
 output:w'.output=w.output
 size:w.heap.size≤w'.heap.size
 block:∀ k,k < w.heap.size→¬ p k→w'.heap[k]?=w.heap[k]?
theorem Fx.of_fr {p:Nat→Prop} {w w':World} (h:Fr w w'):Fx p w w' :=
 have h:Below w.heap.size w w':=h
 ⟨h.os,h.tape,h.output,h.size,fun k hk _=>h.block k hk⟩
theorem Fx.refl (p:Nat→Prop) (w:World):Fx p w w:=Fx.of_fr (Fr.refl w)
theorem Fx.trans {p:Nat→Prop} {a b c:World} (h:Fx p a b) (k:Fx p b c):Fx p a c :=
 ⟨k.os.trans h.os,k.tape.trans h.tape,k.output.trans h.output,As h.size k.size,fun i hi hp=>(k.block i (Aq hi h.size) hp).trans (h.block i hi hp)⟩
theorem Fx.fr {p:Nat→Prop} {a b c:World} (h:Fx p a b) (k:Fr b c):Fx p a c:=h.trans (Fx.of_fr k)
theorem Fx.drew {p:Nat→Prop} {a b:World} (h:Fx p a b):Fx p a b.drew:=h.fr (Fr.refl b).drew
theorem Fx.alloc {p:Nat→Prop} {a b:World} (h:Fx p a b) (o:Obj):Fx p a (b.alloc o):=h.fr ((Fr.refl b).alloc o)
theorem Fx.setCell {p:Nat→Prop} {a b:World} (h:Fx p a b) {q:Addr} (hq:p q.block∨a.heap.size≤q.block) (u:Value):Fx p a (b.setCell q u) :=
 ⟨h.os,h.tape,h.output,by simpa [World.setCell] using h.size,fun k hk hp=>by
  have e:k≠q.block:=by
   rcases hq with hq | hq
   ·intro e; rw [e] at hp; exact hp hq
   ·omega
  exact (Below.heap_setCell _ _ _ _ e).trans (h.block k hk hp)⟩
theorem Fx.cell {p:Nat→Prop} {w w':World} (h:Fx p w w') {q:Addr} (hq:q.block < w.heap.size) (hp:¬ p q.block):w'.cell? q=w.cell? q :=
 World.cell?_of_block (w:=w) (h.block q.block hq hp)
theorem Fx.frozen {p:Nat→Prop} {w w':World} (h:Fx p w w') {q:Addr} (hq:q.block < w.heap.size) (hp:¬ p q.block):w'.frozen? q=w.frozen? q :=
 World.frozen?_of_block (w:=w) (h.block q.block hq hp)
theorem Fx.mono {p q:Nat→Prop} {w w':World} (h:Fx p w w') (hpq:∀ k,p k→q k):Fx q w w' :=
 ⟨h.os,h.tape,h.output,h.size,fun k hk hp=>h.block k hk (fun e=>hp (hpq k e))⟩
theorem Fx.toFr {p:Nat→Prop} {w w':World} (h:Fx p w w') (hp:∀ k,k < w.heap.size→¬ p k):Fr w w' :=
 show Below w.heap.size w w' from ⟨h.os,h.tape,h.output,h.size,fun k hk=>h.block k hk (hp k hk)⟩
theorem G.fx {p:Nat→Prop} {w w':World} (h:G w) (k:Fx p w w') (hp:∀ k,p k→gN≤k):G w':=by
 have hl:=h.lt
 unfold G TabIs World.var? at *
 simp only [Ux,CG] at h ⊢
 rw [k.block _ hl (fun e=>by have:=hp _ e; unfold gN at this; omega)]
 exact h
theorem GB {w:World} (h:G w):gN≤w.heap.size:=h.lt
def Own (w:World) (b o:Nat) (xs:List Int):Prop :=
 gN≤b∧b < w.heap.size∧∀ j x,xs[j]?=some x→w.cell? ⟨b,o+j,none⟩=some (sv x)∧w.frozen? ⟨b,o+j,none⟩=false
theorem Own.fx {p:Nat→Prop} {w w':World} {b o:Nat} {xs:List Int} (h:Own w b o xs) (k:Fx p w w') (hp:¬ p b):Own w' b o xs :=
 ⟨h.1,Aq h.2.1 k.size,fun j x hx=>by rw [k.cell h.2.1 hp,k.frozen h.2.1 hp]; exact h.2.2 j x hx⟩
theorem Own.fr {w w':World} {b o:Nat} {xs:List Int} (h:Own w b o xs) (k:Fr w w'):Own w' b o xs :=
 h.fx (p:=fun _=>False) (Fx.of_fr k) (fun e=>e)
theorem Own.set {w:World} {b o:Nat} {xs:List Int} (h:Own w b o xs) {k:Nat} (hk:k < xs.length) (x:Int):Own (w.setCell ⟨b,o+k,none⟩ (sv x)) b o (xs.set k x):=by
 obtain ⟨h1,h2,h3⟩:=h
 refine ⟨h1,by simpa [World.setCell] using h2,fun j y hy=>?_⟩
 rw [Am]
 rw [Cp] at hy
 by_cases e:k=j
 ·subst e
  rw [Ai rfl,Ai hk] at hy
  injection hy with hy; subst hy
  have h4:=h3 k xs[k] (Ac hk)
  exact ⟨Al _ _ _ (by rw [h4.1]; rfl),h4.2⟩
 ·rw [Ag e] at hy
  have h4:=h3 j y hy
  refine ⟨?_,h4.2⟩
  rw [Ad w ⟨b,o+k,none⟩ ⟨b,o+j,none⟩ _ (fun e2=>by injection e2 with e3 e4; omega)]
  exact h4.1
theorem KK {α:Type} (zs xs:List α) (k:Nat) (hl:zs.length=xs.length) (hk:k < xs.length):(zs.take k ++ xs.drop k)[k]?=xs[k]?:=by
 have h1:(zs.take k).length=k:=by rw [Av]; omega
 rw [Bi (by omega),h1,LZ,IC,DG]
theorem KJ {α:Type} (zs xs:List α) (k:Nat) (hl:zs.length=xs.length) (hk:k < xs.length) (z:α) (hz:zs[k]?=some z):(zs.take k ++ xs.drop k).set k z=zs.take (k+1) ++ xs.drop (k+1):=by
 have h1:(zs.take k).length=k:=by rw [Av]; omega
 rw [List.set_append_right _ _ (by omega),h1,LZ,DH,hz,Dx hk,Option.toList_some,Au,Bd,Zz]
theorem Fx.keep {p:Nat→Prop} {w w':World} (h:Fx p w w') {q:Addr} {v:Value} (hc:w.cell? q=some v) (hp:¬ p q.block):w'.cell? q=some v:=by
 rw [h.cell (A6 w q hc) hp]; exact hc
theorem Fx.keepf {p:Nat→Prop} {w w':World} (h:Fx p w w') {q:Addr} {v:Value} {b:Bool} (hc:w.cell? q=some v) (hf:w.frozen? q=b) (hp:¬ p q.block):w'.frozen? q=b:=by
 rw [h.frozen (A6 w q hc) hp]; exact hf
structure Bz (w:World) (ob oo:Nat) (hs:List (Nat×Nat×Nat)) (g:List (List Int)):Prop where
 len:hs.length=g.length
 outer:ob < w.heap.size
 gob:gN≤ob
 cell:∀ (i:Nat) (h:Nat×Nat×Nat) (xs:List Int),hs[i]?=some h→g[i]?=some xs→w.cell? ⟨ob,oo+i,none⟩=some (.slice (some ⟨h.1,h.2.1,none⟩) xs.length h.2.2)∧w.frozen? ⟨ob,oo+i,none⟩=false
 row:∀ (i:Nat) (h:Nat×Nat×Nat) (xs:List Int),hs[i]?=some h→g[i]?=some xs→Own w h.1 h.2.1 xs∧h.1≠ob
 apart:∀ (i j:Nat) (hi hj:Nat×Nat×Nat),hs[i]?=some hi→hs[j]?=some hj→i≠j→hi.1≠hj.1
def gb (ob:Nat) (hs:List (Nat×Nat×Nat)) (k:Nat):Prop:=k=ob∨∃ h,h ∈ hs∧h.1=k
theorem Bz.fx {p:Nat→Prop} {w w':World} {ob oo:Nat} {hs:List (Nat×Nat×Nat)} {g:List (List Int)} (h:Bz w ob oo hs g) (k:Fx p w w') (hp:∀ j,gb ob hs j→¬ p j):Bz w' ob oo hs g :=
 ⟨h.len,Aq h.outer k.size,h.gob,
  fun i hd xs h1 h2=>by
   have:=h.cell i hd xs h1 h2
   exact ⟨k.keep this.1 (hp _ (.inl rfl)),k.keepf this.1 this.2 (hp _ (.inl rfl))⟩,
  fun i hd xs h1 h2=>by
   have:=h.row i hd xs h1 h2
   exact ⟨this.1.fx k (hp _ (.inr ⟨hd,Af h1,rfl⟩)),this.2⟩,
  h.apart⟩
theorem Bz.fr {w w':World} {ob oo:Nat} {hs:List (Nat×Nat×Nat)} {g:List (List Int)} (h:Bz w ob oo hs g) (k:Fr w w'):Bz w' ob oo hs g :=
 h.fx (p:=fun _=>False) (Fx.of_fr k) (fun _ _ e=>e)
theorem Bz.ge {w:World} {ob oo:Nat} {hs:List (Nat×Nat×Nat)} {g:List (List Int)} (h:Bz w ob oo hs g):∀ k,gb ob hs k→gN≤k:=by
 rintro k (rfl | ⟨hd,hm,rfl⟩)
 ·exact h.gob
 ·obtain ⟨i,hi⟩:=BJ hm
  have hlt:i < g.length:=by rw [← h.len]; exact (Ae.1 hi).1
  exact (h.row i hd _ hi (Ac hlt)).1.1
theorem Bz.at {w:World} {ob oo:Nat} {hs:List (Nat×Nat×Nat)} {g:List (List Int)} (h:Bz w ob oo hs g) {i:Nat} (hi:i < g.length) :
 ∃ b o c,hs[i]?=some (b,o,c)∧w.cell? ⟨ob,oo+i,none⟩=some (.slice (some ⟨b,o,none⟩) (g[i]).length c)∧w.frozen? ⟨ob,oo+i,none⟩=false∧Own w b o g[i]∧b≠ob:=by
 have hl:i < hs.length:=by rw [h.len]; exact hi
 have h1:=Ac hl
 have h2:=Ac hi
 have h3:=h.cell i _ _ h1 h2
 have h4:=h.row i _ _ h1 h2
 exact ⟨hs[i].1,hs[i].2.1,hs[i].2.2,h1,h3.1,h3.2,h4.1,h4.2⟩
theorem Bz.setRow {w w':World} {ob oo:Nat} {hs:List (Nat×Nat×Nat)} {g:List (List Int)} (h:Bz w ob oo hs g) {i b o c:Nat} (hi:hs[i]?=some (b,o,c)) {zs:List Int}
 (k:Fx (·=b) w w') (ho:Own w' b o zs) (hl:∀ xs,g[i]?=some xs→zs.length=xs.length):Bz w' ob oo hs (g.set i zs):=by
 have hne:b≠ob:=by
  have hlt:i < g.length:=by rw [← h.len]; exact (Ae.1 hi).1
  exact (h.row i _ _ hi (Ac hlt)).2
 refine ⟨by simp [h.len],Aq h.outer k.size,h.gob,fun j hd xs h1 h2=>?_,fun j hd xs h1 h2=>?_,h.apart⟩
 ·have hj:j < g.length:=by have:=(Ae.1 h2).1; simpa using this
  have h3:=h.cell j hd _ h1 (Ac hj)
  rw [Cp] at h2
  have e:xs.length=(g[j]).length:=by
   split at h2
   ·rename_i e; subst e; rw [Ai (by simpa using hj)] at h2; injection h2 with h2; subst h2; exact hl _ (Ac hj)
   ·rw [Ac hj] at h2; injection h2 with h2; rw [h2]
  rw [e]
  exact ⟨k.keep h3.1 (fun e=>hne e.symm),k.keepf h3.1 h3.2 (fun e=>hne e.symm)⟩
 ·have hj:j < g.length:=by have:=(Ae.1 h2).1; simpa using this
  have h3:=h.row j hd _ h1 (Ac hj)
  rw [Cp] at h2
  refine ⟨?_,h3.2⟩
  split at h2
  ·rename_i e; subst e
   rw [Ai (by simpa using hj)] at h2; injection h2 with h2; subst h2
   rw [hi] at h1; injection h1 with h1; subst h1
   exact ho
  ·rename_i e
   rw [Ac hj] at h2; injection h2 with h2; subst h2
   exact h3.1.fx k (fun e2=>h.apart i j _ _ hi h1 e e2.symm)
theorem Bz.setRowF {w W w':World} {ob oo:Nat} {hs:List (Nat×Nat×Nat)} {g:List (List Int)} (h:Bz w ob oo hs g) {i b o c:Nat} (hi:hs[i]?=some (b,o,c)) {zs:List Int}
 (k:Fx (·=b) W w') (ho:Own w' b o zs) (hl:∀ xs,g[i]?=some xs→zs.length=xs.length) (hf:Fr w W):Bz w' ob oo hs (g.set i zs) :=
 (h.fr hf).setRow hi k ho hl
theorem Fx.via {p q:Nat→Prop} {a b c d:World} (h:Fx p a b) (k:Fx q c d) (hq:∀ j,q j→p j) (hf:Fr b c):Fx p a d:=(h.fr hf).trans (k.mono hq)
theorem NP {ob:Nat} {hs:List (Nat×Nat×Nat)} {i b o c:Nat} (hi:hs[i]?=some (b,o,c)):∀ j,j=b→gb ob hs j:=fun _ e=>.inr ⟨_,Af hi,e.symm⟩
def DT {α:Type} (l:List α) (i j:Nat):List α:=match l[i]?,l[j]? with
 | some x,some y=>(l.set i y).set j x
 | _,_=>l
theorem GZ {α:Type} (l:List α) (i j:Nat):(DT l i j).length=l.length:=by
 unfold DT; split <;> simp
theorem Fb {α:Type} (l:List α) (i j:Nat) {x y:α} (hi:l[i]?=some x) (hj:l[j]?=some y) (k:Nat) :
 (DT l i j)[k]?=if k=j then some x else if k=i then some y else l[k]?:=by
 have h1:=(Ae.1 hi).1
 have h2:=(Ae.1 hj).1
 unfold DT
 rw [hi,hj]
 simp only [Cp]
 by_cases e:j=k
 ·subst e; simp [h2]
 ·have e':¬ k=j:=fun h=>e h.symm
  rw [Ag e,Ag e']
  by_cases e2:i=k
  ·subst e2; simp [h1]
  ·have e2':¬ k=i:=fun h=>e2 h.symm
   rw [Ag e2,Ag e2']
theorem Bz.swap {w:World} {ob oo:Nat} {hs:List (Nat×Nat×Nat)} {g:List (List Int)} (h:Bz w ob oo hs g) {i j:Nat} {hi hj:Nat×Nat×Nat} {xs ys:List Int}
 (h1:hs[i]?=some hi) (h2:hs[j]?=some hj) (h3:g[i]?=some xs) (h4:g[j]?=some ys) (hij:i≠j) :
 Bz ((w.setCell ⟨ob,oo+i,none⟩ (.slice (some ⟨hj.1,hj.2.1,none⟩) ys.length hj.2.2)).setCell ⟨ob,oo+j,none⟩ (.slice (some ⟨hi.1,hi.2.1,none⟩) xs.length hi.2.2)) ob oo (DT hs i j) (DT g i j):=by
 have hf:Fx (·=ob) w ((w.setCell ⟨ob,oo+i,none⟩ (.slice (some ⟨hj.1,hj.2.1,none⟩) ys.length hj.2.2)).setCell ⟨ob,oo+j,none⟩ (.slice (some ⟨hi.1,hi.2.1,none⟩) xs.length hi.2.2)) :=
  Fx.setCell (p:=(·=ob)) (q:=⟨ob,oo+j,none⟩) (Fx.setCell (p:=(·=ob)) (q:=⟨ob,oo+i,none⟩) (Fx.refl _ w) (.inl rfl) _) (.inl rfl) _
 have ci:=h.cell i _ _ h1 h3
 have cj:=h.cell j _ _ h2 h4
 have eij:(⟨ob,oo+i,none⟩:Addr)≠⟨ob,oo+j,none⟩:=fun e=>by injection e with _ e; omega
 refine ⟨by rw [GZ,GZ,h.len],Aq h.outer hf.size,h.gob,fun k hd zs k1 k2=>?_,fun k hd zs k1 k2=>?_,fun a b ha hb k1 k2 hab=>?_⟩
 ·rw [Fb hs i j h1 h2] at k1
  rw [Fb g i j h3 h4] at k2
  rw [Am,Am]
  by_cases e:k=j
  ·subst e
   rw [Ai rfl] at k1 k2
   injection k1 with k1; injection k2 with k2; subst k1; subst k2
   refine ⟨Al _ _ _ ?_,cj.2⟩
   rw [Ad _ _ _ _ eij,cj.1]; rfl
  ·rw [Ag e] at k1 k2
   have ekj:(⟨ob,oo+j,none⟩:Addr)≠⟨ob,oo+k,none⟩:=fun e2=>by injection e2 with _ e2; omega
   rw [Ad _ _ _ _ ekj]
   by_cases e2:k=i
   ·subst e2
    rw [Ai rfl] at k1 k2
    injection k1 with k1; injection k2 with k2; subst k1; subst k2
    exact ⟨Al _ _ _ (by rw [ci.1]; rfl),ci.2⟩
   ·rw [Ag e2] at k1 k2
    have eki:(⟨ob,oo+i,none⟩:Addr)≠⟨ob,oo+k,none⟩:=fun e3=>by injection e3 with _ e3; omega
    rw [Ad _ _ _ _ eki]
    exact h.cell k hd zs k1 k2
 ·rw [Fb hs i j h1 h2] at k1
  rw [Fb g i j h3 h4] at k2
  have go:∀ (m:Nat) (hd:Nat×Nat×Nat) (zs:List Int),hs[m]?=some hd→g[m]?=some zs→Own ((w.setCell ⟨ob,oo+i,none⟩ (.slice (some ⟨hj.1,hj.2.1,none⟩) ys.length hj.2.2)).setCell ⟨ob,oo+j,none⟩ (.slice (some ⟨hi.1,hi.2.1,none⟩) xs.length hi.2.2)) hd.1 hd.2.1 zs∧hd.1≠ob:=fun m hd zs m1 m2=>by
   have:=h.row m hd zs m1 m2
   exact ⟨this.1.fx hf this.2,this.2⟩
  by_cases e:k=j
  ·subst e; rw [Ai rfl] at k1 k2; injection k1 with k1; injection k2 with k2; subst k1; subst k2; exact go i _ _ h1 h3
  ·rw [Ag e] at k1 k2
   by_cases e2:k=i
   ·subst e2; rw [Ai rfl] at k1 k2; injection k1 with k1; injection k2 with k2; subst k1; subst k2; exact go j _ _ h2 h4
   ·rw [Ag e2] at k1 k2; exact go k _ _ k1 k2
 ·rw [Fb hs i j h1 h2] at k1 k2
  have key:∀ (k:Nat) (hd:Nat×Nat×Nat),(if k=j then some hi else if k=i then some hj else hs[k]?)=some hd→∃ m,hs[m]?=some hd∧m=(if k=j then i else if k=i then j else k):=fun k hd hk=>by
   by_cases e:k=j
   ·rw [Ai e] at hk ⊢; exact ⟨i,by rw [h1,hk],rfl⟩
   ·rw [Ag e] at hk ⊢
    by_cases e2:k=i
    ·rw [Ai e2] at hk ⊢; exact ⟨j,by rw [h2,hk],rfl⟩
    ·rw [Ag e2] at hk ⊢; exact ⟨k,hk,rfl⟩
  obtain ⟨m,m1,m2⟩:=key a ha k1
  obtain ⟨n,n1,n2⟩:=key b hb k2
  refine h.apart m n _ _ m1 n1 (fun e=>hab ?_)
  rw [m2,n2] at e
  repeat' split at e
  all_goals omega
theorem UB {ob:Nat} {hs:List (Nat×Nat×Nat)} {i j:Nat} {hi hj:Nat×Nat×Nat} (h1:hs[i]?=some hi) (h2:hs[j]?=some hj):∀ k,gb ob (DT hs i j) k ↔ gb ob hs k:=by
 have key:∀ hd,hd ∈ DT hs i j ↔ hd ∈ hs:=fun hd=>by
  rw [BU,BU]
  constructor
  ·rintro ⟨k,hk⟩
   rw [Fb hs i j h1 h2] at hk
   split at hk
   ·exact ⟨i,by rw [h1,hk]⟩
   ·split at hk
    ·exact ⟨j,by rw [h2,hk]⟩
    ·exact ⟨k,hk⟩
  ·rintro ⟨k,hk⟩
   by_cases e:k=i
   ·subst e; rw [h1] at hk; exact ⟨j,by rw [Fb hs k j h1 h2,Ai rfl,hk]⟩
   ·by_cases e2:k=j
    ·subst e2; rw [h2] at hk
     refine ⟨i, ?_⟩
     rw [Fb hs i k h1 h2]
     have e':¬ i=k:=fun h=>e h.symm
     rw [Ag e',Ai rfl,hk]
    ·exact ⟨k,by rw [Fb hs i j h1 h2,Ag e2,Ag e,hk]⟩
 intro k
 unfold gb
 constructor
 ·rintro (h | ⟨hd,hm,e⟩)
  ·exact .inl h
  ·exact .inr ⟨hd,(key hd).1 hm,e⟩
 ·rintro (h | ⟨hd,hm,e⟩)
  ·exact .inl h
  ·exact .inr ⟨hd,(key hd).2 hm,e⟩
def BT (g:List (List Int)) (i:Nat):List Int:=(g[i]?).getD []
def AC (g:List (List Int)) (i c:Nat):Int:=((BT g i)[c]?).getD 0
def Bx (n:Nat) (g:List (List Int)):Prop:=∀ r,r ∈ g→r.length=n
theorem Bx.row {n:Nat} {g:List (List Int)} (h:Bx n g) {i:Nat} (hi:i < g.length):(g[i]).length=n:=h _ (AG hi)
theorem Bx.set {n:Nat} {g:List (List Int)} (h:Bx n g) {i:Nat} {r:List Int} (hr:r.length=n):Bx n (g.set i r):=fun x hx=>by
 rcases Cf hx with h1 | h1
 ·exact h x h1
 ·rw [h1]; exact hr
theorem CU {g:List (List Int)} {i:Nat} (hi:i < g.length):BT g i=g[i]:=by unfold BT; rw [Ac hi]; rfl
theorem EV {g:List (List Int)} {n i c:Nat} (h:Bx n g) (hi:i < g.length) (hc:c < n):(g[i])[c]?=some (AC g i c):=by
 unfold AC
 rw [CU hi]
 have:c < (g[i]).length:=by rw [h.row hi]; exact hc
 rw [Ac this]; rfl
def kI:Option Nat→Int
 | none=>-1
 | some k=>k
def LR (ob:Nat) (a b:List (Nat×Nat×Nat)):Prop:=(∀ k,gb ob a k ↔ gb ob b k)∧∀ h,h ∈ a→h ∈ b
theorem Q8 {α:Type} {l:List α} {i j:Nat} {x:α} (h:x ∈ DT l i j):x ∈ l:=by
 unfold DT at h
 split at h
 ·rename_i a b ha hb
  rcases Cf h with h1 | h1
  ·rcases Cf h1 with h2 | h2
   ·exact h2
   ·rw [h2]; exact Af hb
  ·rw [h1]; exact Af ha
 ·exact h
theorem K6 {α:Type} (l:List α) (i:Nat):DT l i i=l:=by
 unfold DT
 cases h:l[i]? with
 | none=>rfl
 | some x=>
   have hi:=(Ae.1 h).1
   refine DI fun k=>?_
   simp only [Cp]
   by_cases e:i=k
   ·subst e; simp [hi]; exact ((Ae.1 h).2).symm
   ·simp [e]
theorem Ht {n:Nat} {g:List (List Int)} {i j:Nat} (h:Bx n g):Bx n (DT g i j):=by
 unfold DT
 split
 ·rename_i x y hx hy
  exact (h.set (h _ (Af hy))).set (h _ (Af hx))
 ·exact h
theorem Bz.same {w:World} {ob oo:Nat} {hs:List (Nat×Nat×Nat)} {g:List (List Int)} (h:Bz w ob oo hs g) {i:Nat} {v:Value} (hv:w.cell? ⟨ob,oo+i,none⟩=some v) :
 Bz ((w.setCell ⟨ob,oo+i,none⟩ v).setCell ⟨ob,oo+i,none⟩ v) ob oo hs g:=by
 have hc:∀ q,((w.setCell ⟨ob,oo+i,none⟩ v).setCell ⟨ob,oo+i,none⟩ v).cell? q=w.cell? q:=fun q=>by
  by_cases e:(⟨ob,oo+i,none⟩:Addr)=q
  ·subst e
   rw [hv]
   refine Al _ _ _ ?_
   rw [Al _ _ _ (by rw [hv]; rfl)]; rfl
  ·rw [Ad _ _ _ _ e,Ad _ _ _ _ e]
 have hf:∀ q,((w.setCell ⟨ob,oo+i,none⟩ v).setCell ⟨ob,oo+i,none⟩ v).frozen? q=w.frozen? q:=fun q=>by
  rw [Am,Am]
 have hs':((w.setCell ⟨ob,oo+i,none⟩ v).setCell ⟨ob,oo+i,none⟩ v).heap.size=w.heap.size:=by simp [World.setCell]
 refine ⟨h.len,by rw [hs']; exact h.outer,h.gob,fun j hd xs h1 h2=>?_,fun j hd xs h1 h2=>?_,h.apart⟩
 ·rw [hc,hf]; exact h.cell j hd xs h1 h2
 ·obtain ⟨⟨a1,a2,a3⟩,a4⟩:=h.row j hd xs h1 h2
  exact ⟨⟨a1,by rw [hs']; exact a2,fun m x hx=>by rw [hc,hf]; exact a3 m x hx⟩,a4⟩
theorem Fx.of_grown {w w':World} {row:Option Nat} (h:w.grownBy w' row):Fx (fun k=>row=some k) w w' :=
 ⟨h.os,h.tape,h.output,h.size,fun k hk hp=>h.block k hk (fun e=>hp e.symm)⟩
theorem BW {w w':World} {p:Nat→Prop} {base:Nat} {e:TypeId} {size:Nat} {v:Value} {n:Nat} {xs:List Value} (h:w.ownsRow base e size v n xs) (k:Fx p w w') (hp:∀ g,v.ownBlock=some g→¬ p g):w'.ownsRow base e size v n xs:=by
 obtain ⟨h1,h2⟩:=h
 refine ⟨h1, ?_⟩
 rcases h2 with h2 | ⟨g,cap,cur,rfl,hg,hh,r⟩
 ·exact .inl h2
 ·have hlt:g < w.heap.size:=by
   by_cases hl:g < w.heap.size
   ·exact hl
   ·rw [L6 (by omega)] at hh; simp at hh
  exact .inr ⟨g,cap,cur,rfl,hg,by rw [k.block g hlt (hp g rfl)]; exact hh,r⟩
theorem Bg {w w':World} {base:Nat} {e:TypeId} {size:Nat} {v:Value} {n:Nat} {xs:List Value} (h:w.ownsRow base e size v n xs) (k:Fr w w'):w'.ownsRow base e size v n xs :=
 BW (p:=fun _=>False) h (Fx.of_fr k) (fun _ _ e=>e)
theorem AK (w:World) (x:Value) (t:TypeId) (n:Nat) (hn:w.heap.size=n):∀ j u,[x][j]?=some u→(w.alloc (.cells #[x] t)).cell? ((⟨n,0,none⟩:Addr).add j)=some u:=by
 subst hn; exact Tf w x t
theorem Dt (w:World) (x:Value) (t:TypeId):(w.alloc (.cells #[x] t)).cell? ⟨w.heap.size,0,none⟩=some x:=Tf w x t 0 x rfl
theorem Bo {w:World} {base:Nat} {e:TypeId} {size:Nat} {g n m cap:Nat} {xs:List Value} (h:w.ownsRow base e size (.slice (some ⟨g,0,none⟩) n cap) m xs) :
 n=m∧base≤g∧g < w.heap.size∧n≤cap∧∀ j u,xs[j]?=some u→w.cell? ⟨g,j,none⟩=some u∧w.frozen? ⟨g,j,none⟩=false:=by
 obtain ⟨h1,h2⟩:=h
 rcases h2 with ⟨h2,_⟩ | ⟨g',cap',cur,hv,hg,hh,hn,hc,hs,ht⟩
 ·cases h2
 ·injection hv with hv1 hv2 hv3
  injection hv1 with hv1; injection hv1 with hv1
  subst hv1; subst hv2; subst hv3
  have hlt:g < w.heap.size:=by
   by_cases hl:g < w.heap.size
   ·exact hl
   ·rw [L6 (by omega)] at hh; simp at hh
  refine ⟨rfl,hg,hlt,hn,fun j u hu=>?_⟩
  have hju:cur[j]?=some u:=by
   rw [← ht,Bp] at hu
   split at hu
   ·simpa using hu
   ·simp at hu
  exact ⟨by simp [World.cell?,hh,hju],by simp [World.frozen?,hh]⟩
theorem Fh {w:World} {base:Nat} {e:TypeId} {g n m cap:Nat} {xs:List Int} (hb:gN≤base) (h:w.ownsRow base e 1 (.slice (some ⟨g,0,none⟩) n cap) m (xs.map sv)):Own w g 0 xs∧n=m∧m=xs.length∧base≤g∧n≤cap:=by
 have h1:=h.1
 obtain ⟨a,b,c,d,f⟩:=Bo h
 refine ⟨⟨by omega,c,fun j x hx=>?_⟩,a,by simpa using h1.symm,b,d⟩
 have:=f j (sv x) (by rw [At,hx]; rfl)
 simpa using this
theorem C5 {w:World} {base:Nat} {e:TypeId} {size:Nat} {v:Value} {n:Nat} {xs:List Value} (h:w.ownsRow base e size v n xs) (hn:0 < n):∃ g cap,v=.slice (some ⟨g,0,none⟩) n cap:=by
 obtain ⟨_,h2⟩:=h
 rcases h2 with ⟨_,h2⟩ | ⟨g,cap,_,hv,_⟩
 ·omega
 ·exact ⟨g,cap,hv⟩
def Jq (h:Nat×Nat×Nat) (xs:List Int):Value:=.slice (some ⟨h.1,h.2.1,none⟩) xs.length h.2.2
def Lt (hs:List (Nat×Nat×Nat)) (g:List (List Int)):List Value:=List.zipWith Jq hs g
structure GG (w:World) (base:Nat) (E:TypeId) (v:Value) (hs:List (Nat×Nat×Nat)) (g:List (List Int)):Prop where
 gbase:gN≤base
 len:hs.length=g.length
 own:w.ownsRow base E 1 v g.length (Lt hs g)
 row:∀ (i:Nat) (h:Nat×Nat×Nat) (xs:List Int),hs[i]?=some h→g[i]?=some xs→Own w h.1 h.2.1 xs∧v.ownBlock≠some h.1
 apart:∀ (i j:Nat) (hi hj:Nat×Nat×Nat),hs[i]?=some hi→hs[j]?=some hj→i≠j→hi.1≠hj.1
theorem GG.nil (w:World) (base:Nat) (E:TypeId) (h:gN≤base):GG w base E (.slice none 0 0) [] [] :=
 ⟨h,rfl,Bl _ _ _ _,fun i h xs h1=>by simp at h1,fun i j hi hj h1=>by simp at h1⟩
theorem GG.fr {w w':World} {base:Nat} {E:TypeId} {v:Value} {hs:List (Nat×Nat×Nat)} {g:List (List Int)} (h:GG w base E v hs g) (k:Fr w w'):GG w' base E v hs g :=
 ⟨h.gbase,h.len,Bg h.own k,fun i hd xs h1 h2=>⟨(h.row i hd xs h1 h2).1.fr k,(h.row i hd xs h1 h2).2⟩,h.apart⟩
theorem GG.lt {w:World} {base:Nat} {E:TypeId} {v:Value} {hs:List (Nat×Nat×Nat)} {g:List (List Int)} (h:GG w base E v hs g):∀ hd,hd ∈ hs→hd.1 < w.heap.size:=fun hd hm=>by
 obtain ⟨i,hi⟩:=BJ hm
 have hl:i < g.length:=by rw [← h.len]; exact (Ae.1 hi).1
 exact (h.row i hd _ hi (Ac hl)).1.2.1
theorem MT (hs:List (Nat×Nat×Nat)) (g:List (List Int)) (h:Nat×Nat×Nat) (xs:List Int) (hl:hs.length=g.length):Lt (hs ++ [h]) (g ++ [xs])=Lt hs g ++ [Jq h xs]:=by
 unfold Lt; rw [List.zipWith_append hl]; rfl
theorem GG.push {w w':World} {base:Nat} {E:TypeId} {v:Value} {hs:List (Nat×Nat×Nat)} {g:List (List Int)} (h:GG w base E v hs g) {hd:Nat×Nat×Nat} {xs:List Int} (ho:Own w hd.1 hd.2.1 xs)
 (hne:∀ h',h' ∈ hs→h'.1≠hd.1) (hv:v.ownBlock≠some hd.1) {gb cap:Nat} (hown:w'.ownsRow base E 1 (.slice (some ⟨gb,0,none⟩) (g.length+1) cap) (g.length+1) (Lt hs g ++ [Jq hd xs]))
 (hg:w.grownBy w' v.ownBlock) (hat:v.ownBlock=some gb∨w.heap.size≤gb):GG w' base E (.slice (some ⟨gb,0,none⟩) (g.length+1) cap) (hs ++ [hd]) (g ++ [xs]):=by
 have hfx:=Fx.of_grown hg
 have hrow:∀ (i:Nat) (h0:Nat×Nat×Nat) (ys:List Int),hs[i]?=some h0→g[i]?=some ys→Own w' h0.1 h0.2.1 ys∧gb≠h0.1:=fun i h0 ys h1 h2=>by
  obtain ⟨a,b⟩:=h.row i h0 ys h1 h2
  refine ⟨a.fx hfx (fun e=>b e), ?_⟩
  rcases hat with e | e
  ·intro e2; rw [e2] at e; exact b e
  ·have:=a.2.1; omega
 refine ⟨h.gbase,by simp [h.len], ?_,fun i h0 ys h1 h2=>?_,fun i j hi hj h1 h2 hij=>?_⟩
 ·rw [MT _ _ _ _ h.len]; simpa using hown
 ·by_cases hi:i < g.length
  ·rw [Bt (by rw [h.len]; exact hi)] at h1
   rw [Bt hi] at h2
   obtain ⟨a,b⟩:=hrow i h0 ys h1 h2
   exact ⟨a,fun e=>by injection e with e; exact b e⟩
  ·rw [Bi (by omega)] at h2
   rw [Bi (by rw [h.len]; omega)] at h1
   rw [C8] at h1 h2
   split at h1
   ·split at h2
    ·injection h1 with h1; injection h2 with h2; subst h1; subst h2
     refine ⟨ho.fx hfx (fun e=>hv e),fun e=>?_⟩
     injection e with e
     rcases hat with e2 | e2
     ·have e3:gb=hd.1:=e
      rw [e3] at e2; exact hv e2
     ·have:=ho.2.1
      have e3:gb=hd.1:=e
      omega
    ·simp at h2
   ·simp at h1
 ·have key:∀ (i:Nat) (h0:Nat×Nat×Nat),(hs ++ [hd])[i]?=some h0→(i < hs.length∧hs[i]?=some h0)∨(i=hs.length∧h0=hd):=fun i h0 h=>by
   by_cases hi:i < hs.length
   ·rw [Bt hi] at h; exact .inl ⟨hi,h⟩
   ·rw [Bi (by omega),C8] at h
    split at h
    ·injection h with h; exact .inr ⟨by omega,h.symm⟩
    ·simp at h
  rcases key i hi h1 with ⟨a1,a2⟩ | ⟨a1,a2⟩ <;> rcases key j hj h2 with ⟨b1,b2⟩ | ⟨b1,b2⟩
  ·exact h.apart i j _ _ a2 b2 hij
  ·subst b2; exact hne _ (Af a2)
  ·subst a2; exact (hne _ (Af b2)).symm
  ·omega
theorem GG.pushN {w w':World} {base:Nat} {E:TypeId} {v u:Value} {hs:List (Nat×Nat×Nat)} {g:List (List Int)} (h:GG w base E v hs g) {hd:Nat×Nat×Nat} {xs:List Int} (ho:Own w hd.1 hd.2.1 xs)
 (hne:∀ h',h' ∈ hs→h'.1≠hd.1) (hv:v.ownBlock≠some hd.1) {gb cap n:Nat} (hn:g.length=n) (hu:u=Jq hd xs) (hown:w'.ownsRow base E 1 (.slice (some ⟨gb,0,none⟩) (n+1) cap) (n+1) (Lt hs g ++ [u]))
 (hg:w.grownBy w' v.ownBlock) (hat:v.ownBlock=some gb∨w.heap.size≤gb):GG w' base E (.slice (some ⟨gb,0,none⟩) (n+1) cap) (hs ++ [hd]) (g ++ [xs]):=by
 subst hn; subst hu
 exact h.push ho hne hv hown hg hat
theorem GG.grid {w:World} {base:Nat} {E:TypeId} {gb n cap:Nat} {hs:List (Nat×Nat×Nat)} {g:List (List Int)} (h:GG w base E (.slice (some ⟨gb,0,none⟩) n cap) hs g):Bz w gb 0 hs g∧n=g.length∧base≤gb∧n≤cap:=by
 obtain ⟨a,b,c,d,f⟩:=Bo h.own
 refine ⟨⟨h.len,c,As h.gbase b,fun i hd xs h1 h2=>?_,fun i hd xs h1 h2=>?_,h.apart⟩,a,b,d⟩
 ·have:=f i (Jq hd xs) (by unfold Lt; rw [GQ,h1,h2])
  simpa [Jq] using this
 ·obtain ⟨p,q⟩:=h.row i hd xs h1 h2
  exact ⟨p,fun e=>q (by simp [Value.ownBlock,e])⟩
theorem Cw {w:World} {base base':Nat} {e:TypeId} {size:Nat} {v:Value} {n:Nat} {xs:List Value} (h:w.ownsRow base e size v n xs) (hb:base'≤base):w.ownsRow base' e size v n xs:=by
 obtain ⟨h1,h2⟩:=h
 refine ⟨h1, ?_⟩
 rcases h2 with h2 | ⟨g,cap,cur,hv,hg,r⟩
 ·exact .inl h2
 ·exact .inr ⟨g,cap,cur,hv,As hb hg,r⟩
def Fw (w:World) (hs:List (Nat×Nat×Nat)) (g:List (List Int)):Prop :=
 ∀ (i:Nat) (h:Nat×Nat×Nat) (xs:List Int),hs[i]?=some h→g[i]?=some xs→h.2.1=0∧w.ownsRow gN 80 1 (.slice (some ⟨h.1,0,none⟩) xs.length h.2.2) xs.length (xs.map sv)
theorem Fw.nil (w:World):Fw w [] []:=fun i h xs h1=>by simp at h1
theorem Fw.fx {w w':World} {p:Nat→Prop} {hs:List (Nat×Nat×Nat)} {g:List (List Int)} (h:Fw w hs g) (k:Fx p w w') (hp:∀ hd,hd ∈ hs→¬ p hd.1):Fw w' hs g:=fun i hd xs h1 h2=>by
 obtain ⟨a,b⟩:=h i hd xs h1 h2
 refine ⟨a,BW b k (fun g hg=>?_)⟩
 have e:hd.1=g:=by simpa [Value.ownBlock] using hg
 rw [← e]
 exact hp hd (Af h1)
theorem Fw.fr {w w':World} {hs:List (Nat×Nat×Nat)} {g:List (List Int)} (h:Fw w hs g) (k:Fr w w'):Fw w' hs g :=
 h.fx (p:=fun _=>False) (Fx.of_fr k) (fun _ _ e=>e)
theorem Fw.push {w:World} {hs:List (Nat×Nat×Nat)} {g:List (List Int)} (h:Fw w hs g) (hl:hs.length=g.length) {hd:Nat×Nat×Nat} {xs:List Int} (h0:hd.2.1=0)
 (ho:w.ownsRow gN 80 1 (.slice (some ⟨hd.1,0,none⟩) xs.length hd.2.2) xs.length (xs.map sv)):Fw w (hs ++ [hd]) (g ++ [xs]):=fun i h1 ys k1 k2=>by
 by_cases hi:i < g.length
 ·rw [Bt (by rw [hl]; exact hi)] at k1
  rw [Bt hi] at k2
  exact h i h1 ys k1 k2
 ·rw [Bi (by omega),C8] at k2
  rw [Bi (by rw [hl]; omega),C8] at k1
  split at k1
  ·split at k2
   ·injection k1 with k1; injection k2 with k2; subst k1; subst k2; exact ⟨h0,ho⟩
   ·simp at k2
  ·simp at k1
theorem Iy:(Tryz.prog.info? 80).map (fun i=>(i.zero,i.size,i.bytes))=some (some (.string ⟨#[]⟩),1,16):=by kernel_rfl
theorem XO:(Tryz.prog.info? 119).map (fun i=>(i.zero,i.size,i.bytes))=some (some (.slice none 0 0),1,24):=by kernel_rfl
def A5 (w:World) (a:Option Addr) (m:List (List Int)):Prop :=
 m=[]∨∃ b o,a=some ⟨b,o,none⟩∧b < w.heap.size∧∀ (i:Nat) (xs:List Int),m[i]?=some xs→∃ a' c',w.cell? ⟨b,o+i,none⟩=some (.slice a' xs.length c')∧El w iv a' xs
theorem A5.fr {w w':World} {a:Option Addr} {m:List (List Int)} (h:A5 w a m) (k:Fr w w'):A5 w' a m:=by
 rcases h with h | ⟨b,o,ha,hb,hc⟩
 ·exact .inl h
 ·refine .inr ⟨b,o,ha,Aq hb k.size,fun i xs hx=>?_⟩
  obtain ⟨a',c',h1,h2⟩:=hc i xs hx
  exact ⟨a',c',k.keep h1,h2.fr k⟩
theorem A5.at {w:World} {a:Option Addr} {m:List (List Int)} (h:A5 w a m) {i:Nat} (hi:i < m.length) :
 ∃ b o a' c',a=some ⟨b,o,none⟩∧w.cell? ⟨b,o+i,none⟩=some (.slice a' (m[i]).length c')∧El w iv a' m[i]:=by
 rcases h with h | ⟨b,o,ha,hb,hc⟩
 ·subst h; simp at hi
 ·obtain ⟨a',c',h1,h2⟩:=hc i _ (Ac hi)
  exact ⟨b,o,a',c',ha,h1,h2⟩
theorem BN {α:Type} {xs:List α} {k:Nat} {x:α} (h:xs[k]?=some x):xs.take (k+1)=xs.take k ++ [x]:=by
 rw [DH,h]; rfl
def WM (w:World) (E:TypeId) (m:List (List Int)) (e:Ending) (w':World):Prop:=∃ v hs,e=.returned v∧GG w' w.heap.size E v hs m∧Hid (∀ h,h ∈ hs→w.heap.size≤h.1)∧Fr w w'
def Vq (w:World) (E:TypeId) (m:List (List Int)) (e:Ending) (w':World):Prop:=∃ v hs,e=.returned v∧GG w' w.heap.size E v hs m∧Fw w' hs m∧Hid (∀ h,h ∈ hs→w.heap.size≤h.1)∧Fr w w'
end Go.Proofs.YtiniigadkknboaaGreatDoor
