/- Contracts and laws: VChk. -/
import Derived.Test.YtcglmebcfeoedaaGreatDoorVRS
import Derived.Test.YtcglmebcfeoedaaGreatDoorVRF
import Derived.Test.YtcglmebcfeoedaaGreatDoorVKn
import Derived.Test.YtcglmebcfeoedaaGreatDoorVH

set_option maxRecDepth 100000
set_option maxHeartbeats 8000000
namespace Go.Proofs.YtcglmebcfeoedaaGreatDoor
open Go.RowKit Go.Lib
def Bd (A B:Nat) (q:Rat):Prop:=∃ x y:Int,q=Rat.divInt x y∧y≠0∧x.natAbs≤A∧y.natAbs≤B
theorem Bd.int {A:Nat} (n:Int) (h:n.natAbs≤A):Bd A 1 (n:Rat):=⟨n,1,by have:=Jq (n:Rat); rw [Iu,Iv] at this; exact this.symm,by decide,h,by decide⟩
theorem Bd.mul {A B C D:Nat} {p q:Rat} (h:Bd A B p) (k:Bd C D q):Bd (A * C) (B * D) (p * q):=by
 obtain ⟨x,y,rfl,h0,hx,hy⟩:=h
 obtain ⟨u,v,rfl,k0,hu,hv⟩:=k
 exact ⟨x * u,y * v,by rw [MV],FZ h0 k0,by rw [BD]; exact CH hx hu,by rw [BD]; exact CH hy hv⟩
theorem Bd.tqG {A B:Nat} {q:Rat} (h:Bd A B q) (h1:A < 10 ^ 255) (h2:B < 10 ^ 255):Tq q:=by
 obtain ⟨x,y,rfl,h0,hx,hy⟩:=h
 have e1:(Rat.divInt x y).num.natAbs≤A:=by
  rw [XW]
  refine AE (Yb _ _) ?_
  rw [BD,Fl h0,Ex]; exact hx
 have e2:(Rat.divInt x y).den≤B:=by
  rw [XX,Ai h0]
  exact AE (C1 _ _) hy
 have f1:Bn 255 (Rat.divInt x y).num:=BI e1 h1
 have f2:Bn 255 ((Rat.divInt x y).den:Int):=BI (by rw [AC]; exact e2) h2
 exact ⟨f1.mono (by decide),f2.mono (by decide)⟩
theorem e8:100000000≤10 ^ 255:=by decide +kernel
theorem Ow {f x y:Rat} (h1:Tq f) (h2:Tq y) (h3:Tq (f * y)) (h4:Tq x):Lv f x y=true:=Ac ⟨h1,h2,h3,h4⟩
theorem Bd.one:Bd 1 1 (1:Rat):=Bd.int 1 (by decide)
def Tz (n:Int):Prop:=Bn 2000 n
@[irreducible] instance decTz (n:Int):Decidable (Tz n):=inferInstanceAs (Decidable (Bn _ _))
theorem Zi {n:Int} (h:n.natAbs < 10 ^ 255):Tz n:=(show Bn 255 n from h).mono (by decide)
structure EZ where
 m:List (List Int)
 piv:List Nat
 last:Int
 odd:Bool
def DX (m:List (List Int)) (i:Nat):List Int:=(m[i]?).getD []
def Eu (m:List (List Int)) (i c:Nat):Int:=((DX m i)[c]?).getD 0
def Yp (p f l x y:Int):Int:=(p * x - f * y).fdiv l
def JT (p f l:Int) (xs ys:List Int):List Int:=List.zipWith (Yp p f l) xs ys
def Eh (m:List (List Int)) (p l:Int) (d c:Nat):Nat→List (List Int)
 | 0=>m
 | i+1=>if i=d then Eh m p l d c i else (Eh m p l d c i).set i (JT p (Eu (Eh m p l d c i) i c) l (DX (Eh m p l d c i) i) (DX (Eh m p l d c i) d))
def FE (m:List (List Int)) (c k:Nat):Nat:=k+(m.drop k).findIdx fun r=>decide ((r[c]?).getD 0≠0)
def Ej (m:List (List Int)) (k a:Nat):List (List Int):=if a=k then m else swp m a k
def PY (m:List (List Int)):Bool:=m.all fun r=>r.all fun x=>decide (Tz x)
def Gu (c:Nat) (s:EZ):Option EZ :=
 if s.piv.length < s.m.length then
  if FE s.m c s.piv.length=s.m.length then some s else
   if PY s.m=true∧Tz s.last∧s.last≠0 then
    some ⟨Eh (Ej s.m s.piv.length (FE s.m c s.piv.length)) (Eu (Ej s.m s.piv.length (FE s.m c s.piv.length)) s.piv.length c) s.last s.piv.length c s.m.length,s.piv ++ [c],
     Eu (Ej s.m s.piv.length (FE s.m c s.piv.length)) s.piv.length c,s.odd != decide (FE s.m c s.piv.length≠s.piv.length)⟩
   else none
 else some s
def G5 (m:List (List Int)):Nat→Option EZ
 | 0=>some ⟨m,[],1,false⟩
 | c+1=>(G5 m c).bind (Gu c)
example:(G5 [[2,1],[4,3]] 2).map (fun s=>(s.m,s.piv,s.last,s.odd))=some ([[2,0],[0,2]],[0,1],2,false):=by decide +kernel
example:(G5 [[0,1],[4,3]] 2).map (fun s=>(s.m,s.piv,s.last,s.odd))=some ([[4,0],[0,4]],[0,1],4,true):=by decide +kernel
example:(G5 [[0,0],[4,3]] 2).map (fun s=>(s.m,s.piv,s.last,s.odd))=some ([[4,3],[0,0]],[0],4,true):=by decide +kernel
def YN (B:Nat) (m:List (List Int)):Prop:=∀ r,r ∈ m→∀ x,x ∈ r→x.natAbs≤B
theorem YN.row {B:Nat} {m:List (List Int)} (h:YN B m) (i:Nat):∀ x,x ∈ DX m i→x.natAbs≤B:=by
 unfold DX
 cases e:m[i]? with
 | none=>intro x hx; cases hx
 | some r=>exact h r (Ae e)
theorem YN.ent {B:Nat} {m:List (List Int)} (h:YN B m) (i c:Nat):(Eu m i c).natAbs≤B:=by
 unfold Eu
 cases e:(DX m i)[c]? with
 | none=>simp
 | some x=>exact h.row i x (Ae e)
theorem Ij (m:List (List Int)) (p l:Int) (d c:Nat):∀ t,(Eh m p l d c t).length=m.length
 | 0=>rfl
 | t+1=>by
   rw [Eh]
   split
   ·exact Ij m p l d c t
   ·rw [AN]; exact Ij m p l d c t
theorem Ma (m:List (List Int)) (p l:Int) (d c:Nat):∀ (t j:Nat),(Eh m p l d c t)[j]?=if j < t∧j≠d then m[j]?.map fun r=>JT p ((r[c]?).getD 0) l r (DX m d) else m[j]?
 | 0,j=>by rw [Ai (by omega)]; rfl
 | t+1,j=>by
   have ih:=Ma m p l d c t
   rw [Eh]
   by_cases h:t=d
   ·rw [Aj h,ih j]
    by_cases hj:j < t∧j≠d
    ·rw [Aj hj,Aj (by omega)]
    ·rw [Ai hj,Ai (by omega)]
   ·rw [Ai h,BA]
    have h1:DX (Eh m p l d c t) d=DX m d:=by unfold DX; rw [ih d,Ai (by omega)]
    have h2:DX (Eh m p l d c t) t=DX m t:=by unfold DX; rw [ih t,Ai (by omega)]
    by_cases hj:t=j
    ·subst hj
     rw [Aj rfl,Aj (by omega:t < t+1∧t≠d),Ij]
     unfold Eu
     rw [h1,h2]
     by_cases hl:t < m.length
     ·rw [Aj hl]; unfold DX; rw [Ab hl]; rfl
     ·rw [Ai hl,AM (by omega)]; rfl
    ·rw [Ai hj,ih j]
     by_cases hk:j < t∧j≠d
     ·rw [Aj hk,Aj (by omega)]
     ·rw [Ai hk,Ai (by omega)]
theorem Ov {α:Type} {l:List α} {i j:Nat} {x:α} (h:x ∈ swp l i j):x ∈ l:=by
 unfold swp at h
 split at h
 ·rename_i a b h1 h2
  rcases B8 h with h | e
  ·rcases B8 h with h | e
   ·exact h
   ·rw [e]; exact Ae h2
  ·rw [e]; exact Ae h1
 ·exact h
theorem R2 (m:List (List Int)) (k a:Nat):(Ej m k a).length=m.length:=by
 unfold Ej swp; split
 ·rfl
 ·split
  ·rw [AN,AN]
  ·rfl
theorem UM (m:List (List Int)) (c k:Nat) (h:k≤m.length):k≤FE m c k∧FE m c k≤m.length:=by
 unfold FE
 have:=Y4 (xs:=m.drop k) (p:=fun r=>decide ((r[c]?).getD 0≠0))
 rw [B3] at this
 omega
theorem XN {m:List (List Int)} {c k:Nat} (h:k≤m.length) (hlt:FE m c k≠m.length):Eu m (FE m c k) c≠0:=by
 have hle:=UM m c k h
 unfold FE at hlt hle ⊢
 have hl:(m.drop k).findIdx (fun r=>decide ((r[c]?).getD 0≠0)) < (m.drop k).length:=by rw [B3]; omega
 have:=List.findIdx_getElem (xs:=m.drop k) (p:=fun r=>decide ((r[c]?).getD 0≠0)) (w:=hl)
 have:=Av this
 unfold Eu DX
 rw [List.getElem_drop] at this
 rw [B3] at hl
 rw [Ab (show _ < m.length by omega)]
 exact this
theorem R3 {m:List (List Int)} {k a c:Nat} (hk:k < m.length) (ha:a < m.length):Eu (Ej m k a) k c=Eu m a c:=by
 unfold Ej; split
 ·rename_i e; rw [e]
 ·rename_i e
  unfold Eu DX swp
  rw [Ab hk,Ab ha]
  simp only [BA,AN,hk,if_true]
theorem R4 {c:Nat} {s s':EZ} (h:Gu c s=some s'):s'.piv.length≤s.piv.length+1∧s.piv.length≤s'.piv.length:=by
 unfold Gu at h
 split at h
 ·split at h
  ·injection h with h; subst h; omega
  ·split at h
   ·injection h with h; subst h; show (s.piv ++ [c]).length≤_∧_≤(s.piv ++ [c]).length; rw [Ar]; simp
   ·cases h
 ·injection h with h; subst h; omega
theorem Ry {m:List (List Int)}:∀ {n:Nat} {s:EZ},G5 m n=some s→s.piv.length≤n
 | 0,s,h=>by injection h with h; subst h; exact Ag _
 | n+1,s,h=>by
   rw [G5] at h
   obtain ⟨s1,h1,h2⟩:=A2.1 h
   have:=Ry h1
   have:=(R4 h2).1
   omega
attribute [local go_sem ↓] AA AB

theorem Qb (w:World) (base:Nat) (e:TypeId) (size:Nat) (h:base≤w.heap.size):(w.alloc (.cells #[] e)).ownsRow base e size (.slice (some ⟨w.heap.size,0,none⟩) 0 0) 0 [] :=
 ⟨by simp,.inr ⟨w.heap.size,0,#[],rfl,h,CG w _,Ag _,Bm _,by simp,by simp⟩⟩
theorem OI {w:World} {b o:Nat} {xs:List (Value×Value)} (h:∀ i x,xs[i]?=some x→w.cell? ⟨b,o+i * 2,none⟩=some x.1∧w.cell? ⟨b,o+i * 2+1,none⟩=some x.2):∀ (j:Nat) (u:Value),(Ch xs)[j]?=some u→w.cell? ((⟨b,o,none⟩:Addr).add j)=some u:=fun j u hj=>by
 have e:∀ k,(⟨b,o,none⟩:Addr).add k=⟨b,o+k,none⟩:=fun k=>by
  unfold Addr.add; split
  ·rename_i h; rw [h]; rfl
  ·rfl
 rw [e]
 obtain ⟨i,x,hi,h2⟩:=JP _ j u hj
 rcases h2 with ⟨rfl,rfl⟩ | ⟨rfl,rfl⟩
 ·have:=(h i x hi).1
  exact this
 ·have:=(h i x hi).2
  rw [← Nat.add_assoc]; exact this
theorem HN {P:Program} {w:World} (base:Nat) (t ty e:TypeId) (i:TypeInfo) (size:Nat) (ht:P.underlying t=some (.slice e)) (hi:P.info? e=some i)
 (v:Value) (n:Nat) (xs:List Value) (hown:w.ownsRow base e size v n xs) (src:Option Addr) (c:Nat) :
 (Builtin.append_ #[t,t] ty #[v,.slice src 0 c]).run P w=.ok v w:=by
 cases src with
 | none=>
   rcases hown.2 with ⟨rfl,rfl⟩ | ⟨g,cap,cur,rfl,_,_,hnc,_⟩
   ·simp [Builtin.append_,run_underlying ht,sizeOf,typeInfo,hi,Builtin.lenOf,Builtin.firstCells]
   ·simp [Builtin.append_,run_underlying ht,sizeOf,typeInfo,hi,Builtin.lenOf,Builtin.firstCells,hnc,storeCells]
 | some ad=>
   rcases hown.2 with ⟨rfl,rfl⟩ | ⟨g,cap,cur,rfl,_,_,hnc,_⟩
   ·simp [Builtin.append_,run_underlying ht,sizeOf,typeInfo,hi,Builtin.lenOf,Builtin.firstCells,loadCells,loadCellsFrom]
   ·simp [Builtin.append_,run_underlying ht,sizeOf,typeInfo,hi,Builtin.lenOf,Builtin.firstCells,hnc,storeCells,loadCells,loadCellsFrom]
theorem KW {P:Program} {w:World} {ops:Array Oper} {o:Oper} {a:Act} {K:Act→World→Prop} {Q:Exit→Act→World→Prop} {E:Prop} (hgd:o.guard=none) (s x:Operand) (t:TypeId)
 (ho:o.op=.call { callee:=.builtin .append,args:=#[s,x],argTypes:=#[t,t] })
 (base:Nat) (e:TypeId) (i:TypeInfo) (z:Value) (size bytes:Nat) (ht:P.underlying t=some (.slice e)) (hi:P.info? e=some i) (hz:i.zero=some z)
 (hsize:i.size=size) (hby:i.bytes=bytes) (hzs:z.cells.size=size) (hsz:0 < size)
 (g0 n c0:Nat) (xs:List Value) (hs:a.eval s=.slice (some ⟨g0,0,none⟩) n c0) (hown:w.ownsRow base e size (.slice (some ⟨g0,0,none⟩) n c0) n xs)
 (src:Option Addr) (m c:Nat) (news:List Value) (hx:a.eval x=.slice src m c) (hl:news.length=m * size) (hsrc:(m=0∧news=[])∨∃ ad,src=some ad∧0 < m∧∀ (j:Nat) (u:Value),news[j]?=some u→w.cell? (ad.add j)=some u) (h1:∀ u ∈ news,u.oneCell'=true)
 (h63:n+m≤maxLen) (hbytes:(n+m) * bytes≤140737488355328) (hbase:base≤w.heap.size)
 (h:∀ (g cap:Nat) w',w'.ownsRow base e size (.slice (some ⟨g,0,none⟩) (n+m) cap) (n+m) (xs ++ news)→w.grownBy w' (some g0)→K (a.put o.dst (.slice (some ⟨g,0,none⟩) (n+m) cap)) w') :
 if Region.wanted o (yielded ops a.tmps)=true then Oper.wp P o a w K Q else E:=by
 rcases hsrc with ⟨e2,e4⟩ | ⟨ad,e1,e2,e3⟩
 ·have hw:Region.wanted o (yielded ops a.tmps)=true:=by simp [Region.wanted,hgd]
  rw [Aj hw]
  subst e2; subst e4
  have hrun:=HN (P:=P) (w:=w) base t o.type e i size ht hi _ n xs hown src c
  unfold Oper.wp
  simp [execOp,ho,resolve,invoke,builtin,hs,hx,hrun,Result.andThen]
  exact h g0 c0 w (by simpa using hown) ⟨rfl,rfl,rfl,Ag _,fun _ _ _=>rfl⟩
 ·subst e1
  exact En w hgd s x t ho base e i z size bytes ht hi hz hsize hby hzs hsz _ n xs hs hown ad m c news hx hl e3 h1 e2 h63 hbytes hbase w.heap.size rfl (fun g cap w' h2 h3 _ _=>h g cap w' h2 h3)
theorem PK (aN aA:Option Addr) (cN cA r:Nat) (N A:List Sy) (w:World) (hG:G w) (hn:DS w aN aA cA N A) (hs:US (N ++ A)) (hNl:N.length≤1000000000) (hAl:A.length≤1000000000)
 (hR:CF A.length (N ++ A) (N ++ A).length 0=0→∀ (a:Option Addr) (c:Nat) (W:World),Fr w W→BT W a (A.map Sy.row)→Calls Tryz.prog 58 #[.slice a A.length c] W fun e w'=>e=.returned (.int .i64 r)∧Fr W w') :
 Calls Tryz.prog 18 #[.agg #[.slice aN N.length cN,.slice aA A.length cA]] w fun e w'=>e=.returned (.int .i64 (Ck N A r))∧Fr w w':=by
 have f0:Fr w (w.alloc (.cells #[.slice aN N.length cN,.slice aA A.length cA] 31)):=(Fr.refl w).alloc _
 by_cases hn1:N.length=0
 ·have hfin:=hZ (show Ck N A r=13 by unfold Ck; rw [Aj hn1])
  have d1:((N.length:Int) == 0)=true:=by rw [hn1]; rfl
  replace f0:=hZ f0
  clear hn hs hG hR
  replace hn1:=hZ hn1
  go_enter Tryz.func18,Tryz.ntmps18
  go_wp2_with fail
  go_ret
  exact ⟨Bk hfin.out.symm,f0.out⟩
 have d1:((N.length:Int) == 0)=false:=Ay (by omega)
 by_cases hn60:60 < N.length
 ·have hfin:=hZ (show Ck N A r=4 by unfold Ck; rw [Ai hn1,Aj (.inl hn60)])
  have d2:decide ((60:Int) < (N.length:Int))=true:=Ac (by omega)
  replace f0:=hZ f0
  clear hn hs hG hR
  replace hn1:=hZ hn1
  go_enter Tryz.func18,Tryz.ntmps18
  go_wp2_with fail
  go_ret
  exact ⟨Bk hfin.out.symm,f0.out⟩
 have d2:decide ((60:Int) < (N.length:Int))=false:=Aa (by omega)
 by_cases ha6:6 < A.length
 ·have hfin:=hZ (show Ck N A r=4 by unfold Ck; rw [Ai hn1,Aj (.inr ha6)])
  have d3:decide ((6:Int) < (A.length:Int))=true:=Ac (by omega)
  replace f0:=hZ f0
  clear hn hs hG hR
  replace hn1:=hZ hn1
  go_enter Tryz.func18,Tryz.ntmps18
  go_wp2_with fail
  go_ret
  exact ⟨Bk hfin.out.symm,f0.out⟩
 have d3:decide ((6:Int) < (A.length:Int))=false:=Aa (by omega)
 have hlen:(N ++ A).length=N.length+A.length:=Ar
 have hE1:CF A.length (N ++ A) (N ++ A).length 0≠0→Ck N A r=CF A.length (N ++ A) (N ++ A).length 0:=fun h=>by unfold Ck; rw [Ai hn1,Ai (by omega),Aj h]
 have hE2:CF A.length (N ++ A) (N ++ A).length 0=0→Ck N A r=if r < A.length then 18 else 0:=fun h=>by unfold Ck; rw [Ai hn1,Ai (by omega),Ai (by rw [h]; simp)]
 have hrows:=fun W (hW:Fr w W)=>P6 aA cA A W (hG.fr hW) (hn.accs.fr hW) (by omega)
 replace hn1:0 < N.length:=by omega
 obtain ⟨bN,oN,rfl,hbN,hcN⟩:∃ b o,aN=some ⟨b,o,none⟩∧b < w.heap.size∧∀ i x,(N.map Sy.enc)[i]?=some x→w.cell? ⟨b,o+i * 2,none⟩=some x.1∧w.cell? ⟨b,o+i * 2+1,none⟩=some x.2:=by
  rcases hn.noms.1 with h | h
  ·simp at h; rw [h] at hn1; simp at hn1
  ·exact h
 have hsrcA:∀ W,Fr w W→(A.length=0∧Ch (A.map Sy.enc)=[])∨∃ ad,aA=some ad∧0 < A.length∧∀ (j:Nat) (u:Value),(Ch (A.map Sy.enc))[j]?=some u→W.cell? (ad.add j)=some u:=fun W hW=>by
  by_cases h0:A.length=0
  ·exact .inl ⟨h0,by rw [AD h0]; rfl⟩
  ·rcases hn.accs.1 with h | ⟨b,o,e,hb,hc⟩
   ·simp at h; rw [h] at h0; simp at h0
   ·exact .inr ⟨_,e,by omega,OI (fun i x hx=>⟨hW.keep (hc i x hx).1,hW.keep (hc i x hx).2⟩)⟩
 have hgn:=CS hG
 have hcN2:=hZ (fun W (hW:Fr w W)=>OI (fun i x hx=>⟨hW.keep (hcN i x hx).1,hW.keep (hcN i x hx).2⟩))
 have hfN:(Ch (N.map Sy.enc)).length=N.length * 2:=by rw [Eb,Am]
 have hfA:(Ch (A.map Sy.enc)).length=A.length * 2:=by rw [Eb,Am]
 have h1N:∀ u ∈ Ch (N.map Sy.enc),u.oneCell'=true:=G3 (Sy.one _)
 have h1A:∀ u ∈ Ch (A.map Sy.enc),u.oneCell'=true:=G3 (Sy.one _)
 have hcat:Ch (N.map Sy.enc) ++ Ch (A.map Sy.enc)=Ch ((N ++ A).map Sy.enc):=by rw [Aw,Hy]
 have hEl:Hid (∀ x,x ∈ N ++ A→El w iv x.ra x.row):=fun x hx=>by
  rcases A5.1 hx with h9 | h9
  ·exact hn.noms.2 x h9
  ·exact hn.accs.2 x h9
 obtain ⟨T,hT⟩:∃ T,T=(N ++ A).length:=⟨_,rfl⟩
 rw [← hT] at hlen hE1 hE2 hR
 obtain ⟨n,hnn⟩:∃ n,n=N.length:=⟨_,rfl⟩
 obtain ⟨a,han⟩:∃ a,a=A.length:=⟨_,rfl⟩
 rw [← hnn] at hn1 hn60 d1 d2 f0 hlen hfN ⊢
 rw [← han] at ha6 d3 f0 hrows hE1 hE2 hR hlen hfA hsrcA ⊢
 replace hsrcA:=hZ hsrcA
 generalize Ck N A r=E at *
 generalize A.map Sy.row=M at *
 replace hcat:=hZ hcat
 replace hfN:=hZ hfN
 replace hfA:=hZ hfA
 replace h1N:=hZ h1N
 replace h1A:=hZ h1A
 generalize Ch (N.map Sy.enc)=FN at *
 generalize Ch (A.map Sy.enc)=FA at *
 generalize N ++ A=L at *
 clear hn hnn han hG hcN hNl hAl
 obtain ⟨S,hS⟩:∃ S,S=CF a L T 0:=⟨_,rfl⟩
 rw [← hS] at hE1 hE2 hR
 replace hs:=hZ hs
 replace hT:=hZ hT
 replace hE1:=hZ hE1
 replace hE2:=hZ hE2
 replace hS:=hZ hS
 replace hR:=hZ hR
 replace hrows:=hZ hrows
 obtain ⟨i1,ji,jz0,jz1,jz2⟩:=AQ JK
 go_enter Tryz.func18,Tryz.ntmps18
 go_upto_region 5 with (fail)
 obtain ⟨wo,hwo⟩:∃ wo,wo=w.alloc (.cells #[.slice (some ⟨bN,oN,none⟩) n cN,.slice aA a cA] 31):=⟨_,rfl⟩
 have n0:wo.cell? ⟨w.heap.size,0,none⟩=some (.slice (some ⟨bN,oN,none⟩) n cN):=by rw [hwo]; exact (CZ _ _ _ _).1
 have n1:wo.cell? ⟨w.heap.size,1,none⟩=some (.slice aA a cA):=by rw [hwo]; exact (CY _ _ _ _).1
 have z0s:wo.heap.size=w.heap.size+1:=by rw [hwo]; simp
 rw [← hwo] at f0 ⊢
 clear hwo
 obtain ⟨nb,hnb⟩:∃ nb,nb=w.heap.size:=⟨_,rfl⟩
 rw [← hnb] at n0 n1 z0s hbN hgn ⊢
 replace hnb:=hZ hnb
 have hS0:=hZ (fun W' (hW':Fr wo W')=>(⟨hW'.keep n0,hW'.keep n1⟩:W'.cell? ⟨nb,0,none⟩=some (.slice (some ⟨bN,oN,none⟩) n cN)∧W'.cell? ⟨nb,1,none⟩=some (.slice aA a cA)))
 refine BP (S:=fun W'=>W'.cell? ⟨nb,0,none⟩=some (.slice (some ⟨bN,oN,none⟩) n cN)∧W'.cell? ⟨nb,1,none⟩=some (.slice aA a cA)) 7 (by kernel_rfl) (hS0.out _ ((Fr.refl _).drew)) (fun hHeld=>?_)
 refine uM 1 24 ?_; try simp only [BL,BV,BU]
 refine uM 2 25 ?_; try simp only [BL,BV,BU]
 refine uM 4 27 ?_; try simp only [BL,BV,BU]
 refine uM 5 28 ?_; try simp only [BL,BV,BU]
 refine uC 0 (fun K hK=>?_)
 go_simp
 refine hK.out _ _ (hS0.out _ (by exact BR)) (fun hHeld=>?_)
 clear hK K
 try simp only [Act.put,BL]
 obtain ⟨W1,hW1⟩:∃ W1,W1=(wo.alloc (.cells #[] 46)).drew:=⟨_,rfl⟩
 have hw1:Fr wo W1:=by rw [hW1]; exact ((Fr.refl wo).alloc _).drew
 have hown0:W1.ownsRow (nb+1) 46 2 (.slice (some ⟨nb+1,0,none⟩) 0 0) 0 []:=by
  have h:=Ba (Qb wo (nb+1) 46 2 (by omega)) (Fr.refl _).drew
  rw [hW1,← z0s]; rw [z0s] at h ⊢; exact h
 have hs1:W1.heap.size=nb+2:=by rw [hW1,It,AK]; omega
 rw [← hW1] at hHeld ⊢
 clear hW1
 have hw1w:=hZ (f0.trans hw1)
 have hSA:Hid (∀ wA,W1.grownBy wA (some (nb+1))→Fr wo wA):=fun wA h=>hw1.grown h (fun k e=>by injection e with e; omega)
 refine uC 3 (fun K hK=>?_)
 (refine En _ rfl (.tmp 23) (.tmp 25) 29 rfl (nb+1) 46 i1 _ 2 40 Tryz.underlying29 ji jz0 jz1 jz2 rfl (by decide) (.slice (some ⟨nb+1,0,none⟩) 0 0) 0 [] (by simp [Act.eval]) hown0 ⟨bN,oN,none⟩ n cN FN (by simp [Act.eval]) hfN.out (hcN2.out _ hw1w.out) h1N.out (by omega) (by unfold maxLen; omega) (by omega) (by rw [hs1]; omega) (nb+2) hs1 ?_; intro gA capA wA hownA hgrowA hatA hltA)
 refine hK.out _ _ ((hS0.out _ (hSA.out wA hgrowA))) (fun hHeld=>?_)
 clear hK K
 try simp only [Act.put,BL]
 have hwA:=hSA.out wA hgrowA
 rw [FX,Az] at hownA
 simp only [Az] at hHeld ⊢
 have hgA:nb+1≤gA:=(hownA.lt gA rfl).1
 have hSB:Hid (∀ wB,wA.grownBy wB (some gA)→Fr wo wB):=fun wB h=>hwA.grown h (fun k e=>by injection e with e; omega)
 have hwAw:=hZ (f0.trans hwA)
 have hsA:=hwA.size
 clear hatA hltA hgrowA hSA hown0
 refine uC 6 (fun K hK=>?_)
 (refine KW rfl (.tmp 26) (.tmp 28) 29 rfl (nb+1) 46 i1 _ 2 40 Tryz.underlying29 ji jz0 jz1 jz2 rfl (by decide) gA n capA FN (by simp [Act.eval]) hownA aA a cA FA (by simp [Act.eval]) hfA.out (hsrcA.out _ hwAw.out) h1A.out (by unfold maxLen; omega) (by omega) (by omega) ?_; intro gB capB wB hownB hgrowB)
 refine hK.out _ _ ((hS0.out _ (hSB.out wB hgrowB))) (fun hHeld=>?_)
 clear hK K
 try simp only [Act.put]
 have hwB:=hSB.out wB hgrowB
 rw [hcat.out] at hownB
 have hsy:=hZ (show Gn wB (some ⟨gB,0,none⟩) L from ⟨(D5 hownB).1,fun x hx=>(hEl.out x hx).fr (f0.trans hwB)⟩)
 have hTn:n+a=T:=by omega
 rw [hTn]
 have hT2:T≤66:=by omega
 clear hTn
 replace hlen:=hZ hlen
 replace hs1:=hZ hs1
 replace z0s:=hZ z0s
 clear hHeld hgrowB hSB hownA hownB hcN2 hsrcA hEl
 refine uL 7 (fun K hK=>?_)
 go_simp
 refine hK.out _ _ ?_
 clear hK K
 have k1:=(hS0.out _ hwB).2
 have hFr:=f0.trans hwB
 clear hS0 n0 n1 hw1w hwAw hwA hw1
 have hwoB:=hwB
 obtain ⟨W2,rfl⟩:∃ W2:World,W2=wB:=⟨_,rfl⟩
 clear hwB hwoB
 have k1:=hZ k1
 have hFr:=hZ hFr
 go_wp2_with fail
 go_loopg [4] T (fun gk s4 wr=>∃ i:Nat,s4=.int .i64 i∧i+gk=T∧Hid (CF a L gk i=S)∧Fr W2 wr)
 case atStart=>exact ⟨0,rfl,by omega,hS.out.symm,Fr.refl _⟩
 case round=>
  obtain ⟨i,rfl,hik,hsc,hf⟩:=hrel
  have hFr2:=hFr.out.trans hf
  have k2:=hf.keep k1.out
  by_cases hi:i < T
  ·have hdI:decide (i < T)=true:=Ac hi
   obtain ⟨b,o,x,hae,hbl,hxi,hc1,hc2,-⟩:=(hsy.out.fr hf).at (i:=i) (by rw [← hT.out]; exact hi)
   injection hae with hae; injection hae with h1 h2
   subst h1; subst h2
   have hmem:x ∈ L:=Ae hxi
   obtain ⟨hnl,hrl⟩:=hs.out x hmem
   have hel:=(hsy.out.fr hf).2 x hmem
   have hN:=Qh x.nm
   have hck:=fun W (hW:Fr wr W)=>Df x.row x.ra x.rc W (hel.fr hW) hrl
   obtain ⟨j1,rfl⟩:∃ j1,gk=j1+1:=⟨gk - 1,by omega⟩
   have eN:=fun (h:BG x.nm=false)=>(DD (k:=j1) hxi (by rw [Ht h]; simp)).symm.trans hsc.out |>.symm.trans (Ht (d:=a) (p:=L.take i) h)
   have eD:=fun (h:BG x.nm=true) h2=>(DD (k:=j1) hxi (by rw [ID h h2]; simp)).symm.trans hsc.out |>.symm.trans (ID (d:=a) (p:=L.take i) h h2)
   have eR:=fun (h:BG x.nm=true) h2 h3=>(DD (k:=j1) hxi (by rw [IB h h2 h3]; exact h3)).symm.trans hsc.out |>.symm.trans (IB (d:=a) (p:=L.take i) h h2 h3)
   have eS:=fun (h:BG x.nm=true) h2 h3 h5=>(DD (k:=j1) hxi (by rw [Hs h h2 h3 h5]; simp)).symm.trans hsc.out |>.symm.trans (Hs (d:=a) (p:=L.take i) h h2 h3 h5)
   have eO:=fun (h:BG x.nm=true) h2 h3 h5=>(Ko (k:=j1) hxi (OS (d:=a) (p:=L.take i) h h2 h3 h5)).symm.trans hsc.out
   have hE1':=fun (h:S≠0)=>hE1.out h
   have hany:Hid (∀ j y,L[j]?=some y→j < i→(y.nm.toList == x.nm.toList)=true→(L.take i).any (fun y=>y.nm.toList == x.nm.toList)=true):=fun j y hj hji he=>Vq.2 ⟨y,Ae (i:=j) (by rw [BN,Aj hji]; exact hj),he⟩
   have hnone:Hid ((∀ j y,L[j]?=some y→j < i→(y.nm.toList == x.nm.toList)=false)→(L.take i).any (fun y=>y.nm.toList == x.nm.toList)=false):=fun h=>by
    rw [CE]
    intro y hy
    obtain ⟨j,hj⟩:=AO hy
    rw [BN] at hj
    split at hj
    ·rename_i hji; rw [h j y hj hji]; simp
    ·cases hj
   clear hsc hxi hmem hel
   replace hN:=hZ hN
   replace hck:=hZ hck
   replace eN:=hZ eN
   replace eD:=hZ eD
   replace eR:=hZ eR
   replace eS:=hZ eS
   replace eO:=hZ eO
   replace hE1':=hZ hE1'
   generalize (L.take i).any (fun y=>y.nm.toList == x.nm.toList)=bD at *
   generalize BG x.nm=bN at *
   generalize Cx x.row=bR at *
   generalize x.row.length=d at *
   generalize x.nm=nm at *
   generalize x.ra=ra at *
   generalize x.rc=rc at *
   rw [Az] at hc1 hc2
   have y1:(i:Int) < (T:Int):=by omega
   have y2:(0:Int)≤(i:Int):=by omega
   obtain ⟨wo2,rfl⟩:∃ wo2:World,wo2=wr:=⟨_,rfl⟩
   go_wp2_with fail
   refine (hN.out _ hnl).mono ?_
   rintro e w9 ⟨rfl,rfl⟩
   cases bN with
   | false=>
     have hS8:=eN.out (by trivial)
     have hfin:=hZ ((hE1'.out (by rw [hS8]; simp)).trans hS8)
     clear hS8
     go_wp2_with fail
     go_ret
     exact ⟨Bk hfin.out.symm,hFr2⟩
   | true=>
   go_wp2_with fail
   go_loopg [5] i (fun gk2 s5 wr2=>∃ j:Nat,s5=.int .i64 j∧j+gk2=i∧Hid (∀ j' y,L[j']?=some y→j' < j→(y.nm.toList == nm.toList)=false)∧Fr wo2 wr2)
   case atStart=>exact ⟨0,rfl,by omega,fun j' y _ h=>by omega,Fr.refl _⟩
   case round=>
    obtain ⟨j,rfl,hjk,hno,hf2⟩:=hrel
    have c1:=hf2.keep hc1
    have c2:=hf2.keep hc2
    have k3:=hf2.keep k2
    by_cases hj:j < i
    ·have hdJ:decide (j < i)=true:=Ac hj
     obtain ⟨b3,o3,y,hae3,hbl3,hyj,hd1,hd2,-⟩:=(hsy.out.fr (hf.trans hf2)).at (i:=j) (by rw [← hT.out]; omega)
     injection hae3 with hae3; injection hae3 with h1 h2
     subst h1; subst h2
     rw [Az] at hd1
     have y3:(j:Int) < (T:Int):=by omega
     have y4:(0:Int)≤(j:Int):=by omega
     have hyy:=hany.out j y hyj hj
     have hno2:=fun (h:(y.nm.toList == nm.toList)=false) (j':Nat) (y':Sy) (hj':L[j']?=some y') (h3:j' < j+1)=>show (y'.nm.toList == nm.toList)=false by
      by_cases e:j'=j
      ·subst e; rw [hyj] at hj'; injection hj' with hj'; rw [← hj']; exact h
      ·exact hno.out j' y' hj' (by omega)
     replace hyj:=hZ hyj
     replace hyy:=hZ hyy
     replace hno2:=hZ hno2
     clear hd2 c2
     generalize y.nm=nm2 at *
     obtain ⟨bE,hbE⟩:∃ bE,(nm2.toList == nm.toList)=bE:=⟨_,rfl⟩
     have hS8:=fun (h:bE=true)=>eD.out (by trivial) (hyy.out (hbE.trans h))
     have hno3:=fun (h:bE=false)=>hno2.out (hbE.trans h)
     replace hS8:=hZ hS8
     replace hno3:=hZ hno3
     clear hyy hno2
     cases bE with
     | true=>
       have hS9:=hS8.out (by trivial)
       have hfin:=hZ ((hE1'.out (by rw [hS9]; simp)).trans hS9)
       clear hS9
       go_wp2_with fail
       go_quiet (fail)
       go_wp2_with fail
       go_ret
       exact ⟨Bk hfin.out.symm,hFr2.trans (hf2.drewN _)⟩
     | false=>
       go_wp2_with fail
       go_quiet (fail)
       go_wp2_with fail
       go_roundg (gk - 1)
       case measure=>omega
       case rel=>exact ⟨j+1,by go_num,by omega,hno3.out (by trivial),hf2.drewN _⟩
    ·have hdJ:decide (j < i)=false:=Aa hj
     obtain rfl:i=j:=by omega
     have hbD:=hnone.out hno.out
     subst hbD
     go_wp2_with fail
     refine (hck.out _ hf2).mono ?_
     rintro e w5 ⟨rfl,hf5⟩
     have c3:=hf5.keep c2
     have k4:=hf5.keep k3
     have hFr5:=(hFr2.trans hf2).trans hf5
     clear hck hN c1 c2 hc1 hc2 k2 k3
     by_cases h3:bR≠0
     ·have q1:(bR != 0)=true:=by rw [Bl]; exact h3
      have hS8:=eR.out (by trivial) (by trivial) h3
      have hfin:=hZ ((hE1'.out (by rw [hS8]; exact h3)).trans hS8)
      clear hS8
      go_wp2_with fail
      go_ret
      exact ⟨Bk hfin.out.symm,hFr5⟩
     replace h3:bR=0:=De h3
     have q1:(bR != 0)=false:=by rw [h3]; rfl
     replace h3:=hZ h3
     by_cases h5:d≠a
     ·have q3:((d:Int) != (a:Int))=true:=by rw [Bl]; omega
      have hS8:=eS.out (by trivial) (by trivial) h3.out h5
      have hfin:=hZ ((hE1'.out (by rw [hS8]; simp)).trans hS8)
      clear hS8
      go_wp2_with fail
      go_quiet (fail)
      go_wp2_with fail
      go_ret
      exact ⟨Bk hfin.out.symm,hFr5.drewN _⟩
     replace h5:d=a:=De h5
     have q3:((d:Int) != (a:Int))=false:=by rw [h5]; simp
     have hO:=hZ (eO.out (by trivial) (by trivial) h3.out h5)
     clear eN eD eR eS eO
     replace h5:=hZ h5
     go_wp2_with fail
     go_quiet (fail)
     go_wp2_with fail
     go_roundg j1
     case measure=>omega
     case rel=>exact ⟨i+1,by go_num,by omega,hO,((hf.trans hf2).trans hf5).drewN _⟩
  ·have hdI:decide (i < T)=false:=Aa hi
   obtain rfl:gk=0:=by omega
   have hS0:S=0:=hsc.out.symm
   have hfin:=hE2.out hS0
   have hrk:=hR.out hS0
   clear hE1 hE2 hR hsc hsy
   replace hfin:=hZ hfin
   replace hrk:=hZ hrk
   replace hS0:=hZ hS0
   obtain ⟨wo,rfl⟩:∃ wo:World,wo=wr:=⟨_,rfl⟩
   go_wp2_with fail
   go_region_held3 (fun w'=>w'.cell? ⟨nb,1,none⟩=some (.slice aA a cA))
    (first | assumption | (refine Fr.keep (by assumption) ?_; assumption) | go_keep)
    (first
     | (go_at_call 28; (with_reducible refine (hrows.out _ ?_).mono ?_); (exact BR); rintro e w6 ⟨ra,rc,rfl,hma,hf6⟩)
     | (go_at_call 58; (with_reducible refine (hrk.out ra rc _ ?_ hma).mono ?_); (exact BR); rintro e w7 ⟨rfl,hf7⟩))
   have hfr7:Fr w w7:=(hFr2.trans ((Fr.refl wo).drew.trans hf6)).trans hf7
   by_cases hra:r < a
   ·have q1:decide (r < a)=true:=Ac hra
    have hfin2:=hZ (hfin.out.trans (Aj hra))
    go_wp2_with fail
    go_ret
    exact ⟨Bk hfin2.out.symm,hfr7⟩
   ·have q1:decide (r < a)=false:=Aa hra
    have hfin2:=hZ (hfin.out.trans (Ai hra))
    go_wp2_with fail
    go_ret
    exact ⟨Bk hfin2.out.symm,hfr7⟩
theorem P5 (L1 L2:List Sy) (a1 a2:Option Addr) (c1 c2:Nat) (w:World) (h1:Gn w a1 L1) (h2:Gn w a2 L2) (hb:Cd L1=Cd L2) (hl:L1.length≤1000000) (hr:∀ x,x ∈ L1→x.row.length≤1000000000) :
 Calls Tryz.prog 20 #[.slice a1 L1.length c1,.slice a2 L2.length c2] w fun e w'=>e=.returned (.bool true)∧Fr w w':=by
 have hlen:L2.length=L1.length:=by rw [← C0 L2,← hb,C0]
 rw [hlen]
 obtain ⟨n,hn⟩:∃ n,n=L1.length:=⟨_,rfl⟩
 rw [← hn] at hl hlen ⊢
 replace hn:=hZ hn
 replace hlen:=hZ hlen
 replace h1:=hZ h1
 replace h2:=hZ h2
 replace hb:=hZ hb
 replace hr:=hZ hr
 have d0:((n:Int) != (n:Int))=false:=by simp
 go_enter Tryz.func20,Tryz.ntmps20
 go_wp2_with fail
 go_loopg [5] n (fun k s5 wr=>∃ i:Nat,s5=.int .i64 i∧i+k=n∧Fr w wr)
 case atStart=>exact ⟨0,rfl,by omega,Fr.refl _⟩
 case round=>
  obtain ⟨i,rfl,hik,hf⟩:=hrel
  by_cases hi:i < n
  ·have hdI:decide (i < n)=true:=Ac hi
   obtain ⟨b,o,x,rfl,hbl,hxi,x1,x2,hxe⟩:=(h1.out.fr hf).at (i:=i) (by rw [← hn.out]; exact hi)
   obtain ⟨b',o',y,rfl,hbl',hyi,y1,y2,hye⟩:=(h2.out.fr hf).at (i:=i) (by rw [hlen.out]; exact hi)
   have hxy:(x.nm,x.row)=(y.nm,y.row):=by
    have e:=congrArg (fun l=>l[i]?) hb.out
    simp only [Cd,Ao,hxi,hyi,Iw,S9] at e
    exact e
   injection hxy with e1 e2
   rw [← e1] at y1
   rw [← e2] at y2 hye
   have hrx:=hr.out x (Ae hxi)
   have hE:=fun W (hW:Fr wr W)=>Jj x.row x.row x.ra y.ra x.rc y.rc _ _ W (hxe.fr hW) (hye.fr hW) rfl rfl hrx hrx
   rw [Ac rfl] at hE
   replace hE:=hZ hE
   clear e1 e2 hxi hyi hxe hye
   generalize x.row.length=d at *
   generalize x.nm=nm at *
   generalize x.ra=ra at *
   generalize x.rc=rc at *
   generalize y.ra=rb at *
   generalize y.rc=rd at *
   have z0:(0:Int)≤(i:Int):=Af _
   have z1:(i:Int) < (n:Int):=by omega
   have q0:(nm.toList != nm.toList)=false:=by simp
   obtain ⟨wo,rfl⟩:∃ wo:World,wo=wr:=⟨_,rfl⟩
   go_wp2_with fail
   go_region_held3 (fun w'=>(w'.cell? ⟨b,o+i * 2,none⟩=some (.string nm)∧w'.cell? ⟨b,o+i * 2+1,none⟩=some (.slice ra d rc))∧(w'.cell? ⟨b',o'+i * 2,none⟩=some (.string nm)∧w'.cell? ⟨b',o'+i * 2+1,none⟩=some (.slice rb d rd)))
    (first | (refine ⟨⟨?_, ?_⟩,⟨?_, ?_⟩⟩ <;> first | assumption | (refine Fr.keep (by assumption) ?_; assumption)) | go_keep)
    (first
     | (go_at_call 54; (with_reducible refine (hE.out _ ?_).mono ?_); (exact BR); rintro e w6 ⟨rfl,hf6⟩))
   have hf9:=hf.trans ((Fr.refl wo).drew.trans hf6)
   go_wp2_with fail
   go_roundg (gk - 1)
   case measure=>omega
   case rel=>exact ⟨i+1,by go_num,by omega,hf9⟩
  ·have hdI:decide (i < n)=false:=Aa hi
   go_wp2_with fail
   go_ret
   exact ⟨rfl,hf⟩
end Go.Proofs.YtcglmebcfeoedaaGreatDoor
