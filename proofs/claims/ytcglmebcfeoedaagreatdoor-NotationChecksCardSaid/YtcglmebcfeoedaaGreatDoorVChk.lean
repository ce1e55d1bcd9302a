/- Contracts and laws: VChk. -/
import Derived.Test.YtcglmebcfeoedaaGreatDoorVRS
import Derived.Test.YtcglmebcfeoedaaGreatDoorVRF
import Derived.Test.YtcglmebcfeoedaaGreatDoorVKn
import Derived.Test.YtcglmebcfeoedaaGreatDoorVH
import Derived.Test.YtcglmebcfeoedaaGreatDoorVD

set_option maxRecDepth 100000
set_option maxHeartbeats 8000000
namespace Go.Proofs.YtcglmebcfeoedaaGreatDoor
open Go.RowKit Go.Lib
def Bd (A B:Nat) (q:Rat):Prop:=∃ x y:Int,q=Rat.divInt x y∧y≠0∧x.natAbs≤A∧y.natAbs≤B
theorem Bd.int {A:Nat} (n:Int) (h:n.natAbs≤A):Bd A 1 (n:Rat):=⟨n,1,by have:=IF (n:Rat); rw [HN,Vv] at this; exact this.symm,by decide,h,by decide⟩
theorem Bd.mul {A B C D:Nat} {p q:Rat} (h:Bd A B p) (k:Bd C D q):Bd (A * C) (B * D) (p * q):=by
 obtain ⟨x,y,rfl,h0,hx,hy⟩:=h
 obtain ⟨u,v,rfl,k0,hu,hv⟩:=k
 exact ⟨x * u,y * v,by rw [L8],Fw h0 k0,by rw [BB]; exact CS hx hu,by rw [BB]; exact CS hy hv⟩
theorem Bd.tqG {A B:Nat} {q:Rat} (h:Bd A B q) (h1:A < 10 ^ 255) (h2:B < 10 ^ 255):Tq q:=by
 obtain ⟨x,y,rfl,h0,hx,hy⟩:=h
 have e1:(Rat.divInt x y).num.natAbs≤A:=by
  rw [Rat.num_divInt]
  refine AM (Int.natAbs_ediv_le_natAbs _ _) ?_
  rw [BB,IG h0,FR]; exact hx
 have e2:(Rat.divInt x y).den≤B:=by
  rw [Rat.den_divInt,Ai h0]
  exact AM (C3 _ _) hy
 have f1:Bn 255 (Rat.divInt x y).num:=Bm e1 h1
 have f2:Bn 255 ((Rat.divInt x y).den:Int):=Bm (by rw [AA]; exact e2) h2
 exact ⟨f1.mono (by decide),f2.mono (by decide)⟩
theorem e8:100000000≤10 ^ 255:=by decide +kernel
theorem St {f x y:Rat} (h1:Tq f) (h2:Tq y) (h3:Tq (f * y)) (h4:Tq x):KK f x y=true:=Ab ⟨h1,h2,h3,h4⟩
def Tz (n:Int):Prop:=Bn 2000 n
@[irreducible] instance decTz (n:Int):Decidable (Tz n):=inferInstanceAs (Decidable (Bn _ _))
theorem XB {n:Int} (h:n.natAbs < 10 ^ 255):Tz n:=(show Bn 255 n from h).mono (by decide)
structure EZ where
 m:List (List Int)
 piv:List Nat
 last:Int
 odd:Bool
def Dx (m:List (List Int)) (i:Nat):List Int:=(m[i]?).getD []
def C6 (m:List (List Int)) (i c:Nat):Int:=((Dx m i)[c]?).getD 0
def Xd (p f l x y:Int):Int:=(p * x - f * y).fdiv l
def Jc (p f l:Int) (xs ys:List Int):List Int:=List.zipWith (Xd p f l) xs ys
def DT (m:List (List Int)) (p l:Int) (d c:Nat):Nat→List (List Int)
 | 0=>m
 | i+1=>if i=d then DT m p l d c i else (DT m p l d c i).set i (Jc p (C6 (DT m p l d c i) i c) l (Dx (DT m p l d c i) i) (Dx (DT m p l d c i) d))
def G4 (m:List (List Int)) (c k:Nat):Nat:=k+(m.drop k).findIdx fun r=>decide ((r[c]?).getD 0≠0)
def Ee (m:List (List Int)) (k a:Nat):List (List Int):=if a=k then m else E2 m a k
def Ur (m:List (List Int)):Bool:=m.all fun r=>r.all fun x=>decide (Tz x)
def E9 (c:Nat) (s:EZ):Option EZ :=
 if s.piv.length < s.m.length then
  if G4 s.m c s.piv.length=s.m.length then some s else
   if Ur s.m=true∧Tz s.last∧s.last≠0 then
    some ⟨DT (Ee s.m s.piv.length (G4 s.m c s.piv.length)) (C6 (Ee s.m s.piv.length (G4 s.m c s.piv.length)) s.piv.length c) s.last s.piv.length c s.m.length,s.piv ++ [c],
     C6 (Ee s.m s.piv.length (G4 s.m c s.piv.length)) s.piv.length c,s.odd != decide (G4 s.m c s.piv.length≠s.piv.length)⟩
   else none
 else some s
def Kq (m:List (List Int)):Nat→Option EZ
 | 0=>some ⟨m,[],1,false⟩
 | c+1=>(Kq m c).bind (E9 c)
example:(Kq [[2,1],[4,3]] 2).map (fun s=>(s.m,s.piv,s.last,s.odd))=some ([[2,0],[0,2]],[0,1],2,false):=by decide +kernel
example:(Kq [[0,1],[4,3]] 2).map (fun s=>(s.m,s.piv,s.last,s.odd))=some ([[4,0],[0,4]],[0,1],4,true):=by decide +kernel
example:(Kq [[0,0],[4,3]] 2).map (fun s=>(s.m,s.piv,s.last,s.odd))=some ([[4,3],[0,0]],[0],4,true):=by decide +kernel
def WG (B:Nat) (m:List (List Int)):Prop:=∀ r,r ∈ m→∀ x,x ∈ r→x.natAbs≤B
theorem WG.row {B:Nat} {m:List (List Int)} (h:WG B m) (i:Nat):∀ x,x ∈ Dx m i→x.natAbs≤B:=by
 unfold Dx
 cases e:m[i]? with
 | none=>intro x hx; cases hx
 | some r=>exact h r (Ae e)
theorem WG.ent {B:Nat} {m:List (List Int)} (h:WG B m) (i c:Nat):(C6 m i c).natAbs≤B:=by
 unfold C6
 cases e:(Dx m i)[c]? with
 | none=>simp
 | some x=>exact h.row i x (Ae e)
theorem HG (m:List (List Int)) (p l:Int) (d c:Nat):∀ t,(DT m p l d c t).length=m.length
 | 0=>rfl
 | t+1=>by
   rw [DT]
   split
   ·exact HG m p l d c t
   ·rw [A2]; exact HG m p l d c t
theorem Lq (m:List (List Int)) (p l:Int) (d c:Nat):∀ (t j:Nat),(DT m p l d c t)[j]?=if j < t∧j≠d then m[j]?.map fun r=>Jc p ((r[c]?).getD 0) l r (Dx m d) else m[j]?
 | 0,j=>by rw [Ai (by omega)]; rfl
 | t+1,j=>by
   have ih:=Lq m p l d c t
   rw [DT]
   by_cases h:t=d
   ·rw [Al h,ih j]
    by_cases hj:j < t∧j≠d
    ·rw [Al hj,Al (by omega)]
    ·rw [Ai hj,Ai (by omega)]
   ·rw [Ai h,BC]
    have h1:Dx (DT m p l d c t) d=Dx m d:=by unfold Dx; rw [ih d,Ai (by omega)]
    have h2:Dx (DT m p l d c t) t=Dx m t:=by unfold Dx; rw [ih t,Ai (by omega)]
    by_cases hj:t=j
    ·subst hj
     rw [Al rfl,Al (by omega:t < t+1∧t≠d),HG]
     unfold C6
     rw [h1,h2]
     by_cases hl:t < m.length
     ·rw [Al hl]; unfold Dx; rw [Ac hl]; rfl
     ·rw [Ai hl,Cr (by omega)]; rfl
    ·rw [Ai hj,ih j]
     by_cases hk:j < t∧j≠d
     ·rw [Al hk,Al (by omega)]
     ·rw [Ai hk,Ai (by omega)]
theorem NH {α:Type} {l:List α} {i j:Nat} {x:α} (h:x ∈ E2 l i j):x ∈ l:=by
 unfold E2 at h
 split at h
 ·rename_i a b h1 h2
  rcases BX h with h | e
  ·rcases BX h with h | e
   ·exact h
   ·rw [e]; exact Ae h2
  ·rw [e]; exact Ae h1
 ·exact h
theorem Q6 (m:List (List Int)) (k a:Nat):(Ee m k a).length=m.length:=by
 unfold Ee E2; split
 ·rfl
 ·split
  ·rw [A2,A2]
  ·rfl
theorem TB (m:List (List Int)) (c k:Nat) (h:k≤m.length):k≤G4 m c k∧G4 m c k≤m.length:=by
 unfold G4
 have:=XS (xs:=m.drop k) (p:=fun r=>decide ((r[c]?).getD 0≠0))
 rw [BQ] at this
 omega
theorem Wt {m:List (List Int)} {c k:Nat} (h:k≤m.length) (hlt:G4 m c k≠m.length):C6 m (G4 m c k) c≠0:=by
 have hle:=TB m c k h
 unfold G4 at hlt hle ⊢
 have hl:(m.drop k).findIdx (fun r=>decide ((r[c]?).getD 0≠0)) < (m.drop k).length:=by rw [BQ]; omega
 have:=List.findIdx_getElem (xs:=m.drop k) (p:=fun r=>decide ((r[c]?).getD 0≠0)) (w:=hl)
 have:=Ax this
 unfold C6 Dx
 rw [List.getElem_drop] at this
 rw [BQ] at hl
 rw [Ac (show _ < m.length by omega)]
 exact this
theorem Q7 {m:List (List Int)} {k a c:Nat} (hk:k < m.length) (ha:a < m.length):C6 (Ee m k a) k c=C6 m a c:=by
 unfold Ee; split
 ·rename_i e; rw [e]
 ·rename_i e
  unfold C6 Dx E2
  rw [Ac hk,Ac ha]
  simp only [BC,A2,hk,if_true]
theorem Q8 {c:Nat} {s s':EZ} (h:E9 c s=some s'):s'.piv.length≤s.piv.length+1∧s.piv.length≤s'.piv.length:=by
 unfold E9 at h
 split at h
 ·split at h
  ·injection h with h; subst h; omega
  ·split at h
   ·injection h with h; subst h; show (s.piv ++ [c]).length≤_∧_≤(s.piv ++ [c]).length; rw [Aq]; simp
   ·cases h
 ·injection h with h; subst h; omega
theorem QH {m:List (List Int)}:∀ {n:Nat} {s:EZ},Kq m n=some s→s.piv.length≤n
 | 0,s,h=>by injection h with h; subst h; exact Ah _
 | n+1,s,h=>by
   rw [Kq] at h
   obtain ⟨s1,h1,h2⟩:=Bi.1 h
   have:=QH h1
   have:=(Q8 h2).1
   omega
attribute [local go_sem ↓] AC AD

theorem K1 (w:World) (base:Nat) (e:TypeId) (size:Nat) (h:base≤w.heap.size):(w.alloc (.cells #[] e)).ownsRow base e size (.slice (some ⟨w.heap.size,0,none⟩) 0 0) 0 [] :=
 ⟨by simp,.inr ⟨w.heap.size,0,#[],rfl,h,Ct w _,Ah _,BJ _,by simp,by simp⟩⟩
theorem KV {w:World} {b o:Nat} {xs:List (Value×Value)} (h:∀ i x,xs[i]?=some x→w.cell? ⟨b,o+i * 2,none⟩=some x.1∧w.cell? ⟨b,o+i * 2+1,none⟩=some x.2):∀ (j:Nat) (u:Value),(BH xs)[j]?=some u→w.cell? ((⟨b,o,none⟩:Addr).add j)=some u:=fun j u hj=>by
 have e:∀ k,(⟨b,o,none⟩:Addr).add k=⟨b,o+k,none⟩:=fun k=>by
  unfold Addr.add; split
  ·rename_i h; rw [h]; rfl
  ·rfl
 rw [e]
 obtain ⟨i,x,hi,h2⟩:=Jb _ j u hj
 rcases h2 with ⟨rfl,rfl⟩ | ⟨rfl,rfl⟩
 ·have:=(h i x hi).1
  exact this
 ·have:=(h i x hi).2
  rw [← Nat.add_assoc]; exact this
theorem Hk {P:Program} {w:World} (base:Nat) (t ty e:TypeId) (i:TypeInfo) (size:Nat) (ht:P.underlying t=some (.slice e)) (hi:P.info? e=some i)
 (v:Value) (n:Nat) (xs:List Value) (hown:w.ownsRow base e size v n xs) (src:Option Addr) (c:Nat) :
 (Builtin.append_ #[t,t] ty #[v,.slice src 0 c]).run P w=.ok v w:=by
 cases src with
 | none=>
   rcases hown.2 with ⟨rfl,rfl⟩ | ⟨g,cap,cur,rfl,_,_,hnc,_⟩
   ·simp [Builtin.append_,run_underlying ht,sizeOf,typeInfo,hi,Builtin.lenOf,Builtin.firstCells]
   ·simp [Builtin.append_,run_underlying ht,sizeOf,typeInfo,hi,Builtin.lenOf,Builtin.firstCells,hnc,storeCells]
 | some ad=>
   rcases hown.2 with ⟨rfl,rfl⟩ | ⟨g,cap,cur,rfl,_,_,hnc,_⟩
   ·simp [Builtin.append_,run_underlying ht,sizeOf,typeInfo,hi,Builtin.lenOf,Builtin.firstCells,loadCells,loadCellsFrom]
   ·simp [Builtin.append_,run_underlying ht,sizeOf,typeInfo,hi,Builtin.lenOf,Builtin.firstCells,hnc,storeCells,loadCells,loadCellsFrom]
theorem E3 {P:Program} {w:World} {ops:Array Oper} {o:Oper} {a:Act} {K:Act→World→Prop} {Q:Exit→Act→World→Prop} {E:Prop} (hgd:o.guard=none) (s x:Operand) (t:TypeId)
 (ho:o.op=.call { callee:=.builtin .append,args:=#[s,x],argTypes:=#[t,t] })
 (base:Nat) (e:TypeId) (i:TypeInfo) (z:Value) (size bytes:Nat) (ht:P.underlying t=some (.slice e)) (hi:P.info? e=some i) (hz:i.zero=some z)
 (hsize:i.size=size) (hby:i.bytes=bytes) (hzs:z.cells.size=size) (hsz:0 < size)
 (g0 n c0:Nat) (xs:List Value) (hs:a.eval s=.slice (some ⟨g0,0,none⟩) n c0) (hown:w.ownsRow base e size (.slice (some ⟨g0,0,none⟩) n c0) n xs)
 (src:Option Addr) (m c:Nat) (news:List Value) (hx:a.eval x=.slice src m c) (hl:news.length=m * size) (hsrc:(m=0∧news=[])∨∃ ad,src=some ad∧0 < m∧∀ (j:Nat) (u:Value),news[j]?=some u→w.cell? (ad.add j)=some u) (h1:∀ u ∈ news,u.oneCell'=true)
 (h63:n+m≤maxLen) (hbytes:(n+m) * bytes≤140737488355328) (hbase:base≤w.heap.size)
 (h:∀ (g cap:Nat) w',w'.ownsRow base e size (.slice (some ⟨g,0,none⟩) (n+m) cap) (n+m) (xs ++ news)→w.grownBy w' (some g0)→K (a.put o.dst (.slice (some ⟨g,0,none⟩) (n+m) cap)) w') :
 if Region.wanted o (yielded ops a.tmps)=true then Oper.wp P o a w K Q else E:=by
 rcases hsrc with ⟨e2,e4⟩ | ⟨ad,e1,e2,e3⟩
 ·have hw:Region.wanted o (yielded ops a.tmps)=true:=by simp [Region.wanted,hgd]
  rw [Al hw]
  subst e2; subst e4
  have hrun:=Hk (P:=P) (w:=w) base t o.type e i size ht hi _ n xs hown src c
  unfold Oper.wp
  simp [execOp,ho,resolve,invoke,builtin,hs,hx,hrun,Result.andThen]
  exact h g0 c0 w (by simpa using hown) ⟨rfl,rfl,rfl,Ah _,fun _ _ _=>rfl⟩
 ·subst e1
  exact EV w hgd s x t ho base e i z size bytes ht hi hz hsize hby hzs hsz _ n xs hs hown ad m c news hx hl e3 h1 e2 h63 hbytes hbase w.heap.size rfl (fun g cap w' h2 h3 _ _=>h g cap w' h2 h3)
theorem J6 (aN aA:Option Addr) (cN cA r:Nat) (N A:List Sy) (w:World) (hG:G w) (hn:DB w aN aA cA N A) (hs:TI (N ++ A)) (hNl:N.length≤1000000000) (hAl:A.length≤1000000000)
 (hR:Cs A.length (N ++ A) (N ++ A).length 0=0→∀ (a:Option Addr) (c:Nat) (W:World),Fr w W→Ca W a (A.map Sy.row)→Calls Tryz.prog 58 #[.slice a A.length c] W fun e w'=>e=.returned (.int .i64 r)∧Fr W w') :
 Calls Tryz.prog 18 #[.agg #[.slice aN N.length cN,.slice aA A.length cA]] w fun e w'=>e=.returned (.int .i64 (Cj N A r))∧Fr w w':=by
 have f0:Fr w (w.alloc (.cells #[.slice aN N.length cN,.slice aA A.length cA] 31)):=(Fr.refl w).alloc _
 by_cases hn1:N.length=0
 ·have hfin:=hZ (show Cj N A r=13 by unfold Cj; rw [Al hn1])
  have d1:((N.length:Int) == 0)=true:=by rw [hn1]; rfl
  replace f0:=hZ f0
  clear hn hs hG hR
  replace hn1:=hZ hn1
  go_enter Tryz.func18,Tryz.ntmps18
  go_wp2_with fail
  go_ret
  exact ⟨A7 hfin.out.symm,f0.out⟩
 have d1:((N.length:Int) == 0)=false:=AB (by omega)
 by_cases hn60:60 < N.length
 ·have hfin:=hZ (show Cj N A r=4 by unfold Cj; rw [Ai hn1,Al (.inl hn60)])
  have d2:decide ((60:Int) < (N.length:Int))=true:=Ab (by omega)
  replace f0:=hZ f0
  clear hn hs hG hR
  replace hn1:=hZ hn1
  go_enter Tryz.func18,Tryz.ntmps18
  go_wp2_with fail
  go_ret
  exact ⟨A7 hfin.out.symm,f0.out⟩
 have d2:decide ((60:Int) < (N.length:Int))=false:=Aa (by omega)
 by_cases ha6:6 < A.length
 ·have hfin:=hZ (show Cj N A r=4 by unfold Cj; rw [Ai hn1,Al (.inr ha6)])
  have d3:decide ((6:Int) < (A.length:Int))=true:=Ab (by omega)
  replace f0:=hZ f0
  clear hn hs hG hR
  replace hn1:=hZ hn1
  go_enter Tryz.func18,Tryz.ntmps18
  go_wp2_with fail
  go_ret
  exact ⟨A7 hfin.out.symm,f0.out⟩
 have d3:decide ((6:Int) < (A.length:Int))=false:=Aa (by omega)
 have hlen:(N ++ A).length=N.length+A.length:=Aq
 have hE1:Cs A.length (N ++ A) (N ++ A).length 0≠0→Cj N A r=Cs A.length (N ++ A) (N ++ A).length 0:=fun h=>by unfold Cj; rw [Ai hn1,Ai (by omega),Al h]
 have hE2:Cs A.length (N ++ A) (N ++ A).length 0=0→Cj N A r=if r < A.length then 18 else 0:=fun h=>by unfold Cj; rw [Ai hn1,Ai (by omega),Ai (by rw [h]; simp)]
 have hrows:=fun W (hW:Fr w W)=>KM aA cA A W (hG.fr hW) (hn.accs.fr hW) (by omega)
 replace hn1:0 < N.length:=by omega
 obtain ⟨bN,oN,rfl,hbN,hcN⟩:∃ b o,aN=some ⟨b,o,none⟩∧b < w.heap.size∧∀ i x,(N.map Sy.enc)[i]?=some x→w.cell? ⟨b,o+i * 2,none⟩=some x.1∧w.cell? ⟨b,o+i * 2+1,none⟩=some x.2:=by
  rcases hn.noms.1 with h | h
  ·simp at h; rw [h] at hn1; simp at hn1
  ·exact h
 have hsrcA:∀ W,Fr w W→(A.length=0∧BH (A.map Sy.enc)=[])∨∃ ad,aA=some ad∧0 < A.length∧∀ (j:Nat) (u:Value),(BH (A.map Sy.enc))[j]?=some u→W.cell? (ad.add j)=some u:=fun W hW=>by
  by_cases h0:A.length=0
  ·exact .inl ⟨h0,by rw [Az h0]; rfl⟩
  ·rcases hn.accs.1 with h | ⟨b,o,e,hb,hc⟩
   ·simp at h; rw [h] at h0; simp at h0
   ·exact .inr ⟨_,e,by omega,KV (fun i x hx=>⟨hW.keep (hc i x hx).1,hW.keep (hc i x hx).2⟩)⟩
 have hgn:=CG hG
 have hcN2:=hZ (fun W (hW:Fr w W)=>KV (fun i x hx=>⟨hW.keep (hcN i x hx).1,hW.keep (hcN i x hx).2⟩))
 have hfN:(BH (N.map Sy.enc)).length=N.length * 2:=by rw [CY,Am]
 have hfA:(BH (A.map Sy.enc)).length=A.length * 2:=by rw [CY,Am]
 have h1N:∀ u ∈ BH (N.map Sy.enc),u.oneCell'=true:=EC (Sy.one _)
 have h1A:∀ u ∈ BH (A.map Sy.enc),u.oneCell'=true:=EC (Sy.one _)
 have hcat:BH (N.map Sy.enc) ++ BH (A.map Sy.enc)=BH ((N ++ A).map Sy.enc):=by rw [Av,Fj]
 have hEl:Hid (∀ x,x ∈ N ++ A→El w iv x.ra x.row):=fun x hx=>by
  rcases Bb.1 hx with h9 | h9
  ·exact hn.noms.2 x h9
  ·exact hn.accs.2 x h9
 obtain ⟨T,hT⟩:∃ T,T=(N ++ A).length:=⟨_,rfl⟩
 rw [← hT] at hlen hE1 hE2 hR
 obtain ⟨n,hnn⟩:∃ n,n=N.length:=⟨_,rfl⟩
 obtain ⟨a,han⟩:∃ a,a=A.length:=⟨_,rfl⟩
 rw [← hnn] at hn1 hn60 d1 d2 f0 hlen hfN ⊢
 rw [← han] at ha6 d3 f0 hrows hE1 hE2 hR hlen hfA hsrcA ⊢
 replace hsrcA:=hZ hsrcA
 generalize Cj N A r=E at *
 generalize A.map Sy.row=M at *
 replace hcat:=hZ hcat
 replace hfN:=hZ hfN
 replace hfA:=hZ hfA
 replace h1N:=hZ h1N
 replace h1A:=hZ h1A
 generalize BH (N.map Sy.enc)=FN at *
 generalize BH (A.map Sy.enc)=FA at *
 generalize N ++ A=L at *
 clear hn hnn han hG hcN hNl hAl
 obtain ⟨S,hS⟩:∃ S,S=Cs a L T 0:=⟨_,rfl⟩
 rw [← hS] at hE1 hE2 hR
 replace hs:=hZ hs
 replace hT:=hZ hT
 replace hE1:=hZ hE1
 replace hE2:=hZ hE2
 replace hS:=hZ hS
 replace hR:=hZ hR
 replace hrows:=hZ hrows
 obtain ⟨i1,ji,jz0,jz1,jz2⟩:=AN I6
 go_enter Tryz.func18,Tryz.ntmps18
 go_upto_region 5 with (fail)
 obtain ⟨wo,hwo⟩:∃ wo,wo=w.alloc (.cells #[.slice (some ⟨bN,oN,none⟩) n cN,.slice aA a cA] 31):=⟨_,rfl⟩
 have n0:wo.cell? ⟨w.heap.size,0,none⟩=some (.slice (some ⟨bN,oN,none⟩) n cN):=by rw [hwo]; exact (Cw _ _ _ _).1
 have n1:wo.cell? ⟨w.heap.size,1,none⟩=some (.slice aA a cA):=by rw [hwo]; exact (Cv _ _ _ _).1
 have z0s:wo.heap.size=w.heap.size+1:=by rw [hwo]; simp
 rw [← hwo] at f0 ⊢
 clear hwo
 obtain ⟨nb,hnb⟩:∃ nb,nb=w.heap.size:=⟨_,rfl⟩
 rw [← hnb] at n0 n1 z0s hbN hgn ⊢
 replace hnb:=hZ hnb
 have hS0:=hZ (fun W' (hW':Fr wo W')=>(⟨hW'.keep n0,hW'.keep n1⟩:W'.cell? ⟨nb,0,none⟩=some (.slice (some ⟨bN,oN,none⟩) n cN)∧W'.cell? ⟨nb,1,none⟩=some (.slice aA a cA)))
 refine BL (S:=fun W'=>W'.cell? ⟨nb,0,none⟩=some (.slice (some ⟨bN,oN,none⟩) n cN)∧W'.cell? ⟨nb,1,none⟩=some (.slice aA a cA)) 7 (by kernel_rfl) (hS0.out _ ((Fr.refl _).drew)) (fun hHeld=>?_)
 refine uM 1 24 ?_; try simp only [B7,Cm,Cl]
 refine uM 2 25 ?_; try simp only [B7,Cm,Cl]
 refine uM 4 27 ?_; try simp only [B7,Cm,Cl]
 refine uM 5 28 ?_; try simp only [B7,Cm,Cl]
 refine uC 0 (fun K hK=>?_)
 go_simp
 refine hK.out _ _ (hS0.out _ (by exact Bq)) (fun hHeld=>?_)
 clear hK K
 try simp only [Act.put,B7]
 obtain ⟨W1,hW1⟩:∃ W1,W1=(wo.alloc (.cells #[] 46)).drew:=⟨_,rfl⟩
 have hw1:Fr wo W1:=by rw [hW1]; exact ((Fr.refl wo).alloc _).drew
 have hown0:W1.ownsRow (nb+1) 46 2 (.slice (some ⟨nb+1,0,none⟩) 0 0) 0 []:=by
  have h:=AZ (K1 wo (nb+1) 46 2 (by omega)) (Fr.refl _).drew
  rw [hW1,← z0s]; rw [z0s] at h ⊢; exact h
 have hs1:W1.heap.size=nb+2:=by rw [hW1,Fu,AF]; omega
 rw [← hW1] at hHeld ⊢
 clear hW1
 have hw1w:=hZ (f0.trans hw1)
 have hSA:Hid (∀ wA,W1.grownBy wA (some (nb+1))→Fr wo wA):=fun wA h=>hw1.grown h (fun k e=>by injection e with e; omega)
 refine uC 3 (fun K hK=>?_)
 (refine EV _ rfl (.tmp 23) (.tmp 25) 29 rfl (nb+1) 46 i1 _ 2 40 Tryz.underlying29 ji jz0 jz1 jz2 rfl (by decide) (.slice (some ⟨nb+1,0,none⟩) 0 0) 0 [] (by simp [Act.eval]) hown0 ⟨bN,oN,none⟩ n cN FN (by simp [Act.eval]) hfN.out (hcN2.out _ hw1w.out) h1N.out (by omega) (by unfold maxLen; omega) (by omega) (by rw [hs1]; omega) (nb+2) hs1 ?_; intro gA capA wA hownA hgrowA hatA hltA)
 refine hK.out _ _ ((hS0.out _ (hSA.out wA hgrowA))) (fun hHeld=>?_)
 clear hK K
 try simp only [Act.put,B7]
 have hwA:=hSA.out wA hgrowA
 rw [Ej,Ay] at hownA
 simp only [Ay] at hHeld ⊢
 have hgA:nb+1≤gA:=(hownA.lt gA rfl).1
 have hSB:Hid (∀ wB,wA.grownBy wB (some gA)→Fr wo wB):=fun wB h=>hwA.grown h (fun k e=>by injection e with e; omega)
 have hwAw:=hZ (f0.trans hwA)
 have hsA:=hwA.size
 clear hatA hltA hgrowA hSA hown0
 refine uC 6 (fun K hK=>?_)
 (refine E3 rfl (.tmp 26) (.tmp 28) 29 rfl (nb+1) 46 i1 _ 2 40 Tryz.underlying29 ji jz0 jz1 jz2 rfl (by decide) gA n capA FN (by simp [Act.eval]) hownA aA a cA FA (by simp [Act.eval]) hfA.out (hsrcA.out _ hwAw.out) h1A.out (by unfold maxLen; omega) (by omega) (by omega) ?_; intro gB capB wB hownB hgrowB)
 refine hK.out _ _ ((hS0.out _ (hSB.out wB hgrowB))) (fun hHeld=>?_)
 clear hK K
 try simp only [Act.put]
 have hwB:=hSB.out wB hgrowB
 rw [hcat.out] at hownB
 have hsy:=hZ (show Hm wB (some ⟨gB,0,none⟩) L from ⟨(DL hownB).1,fun x hx=>(hEl.out x hx).fr (f0.trans hwB)⟩)
 have hTn:n+a=T:=by omega
 rw [hTn]
 have hT2:T≤66:=by omega
 clear hTn
 replace hlen:=hZ hlen
 replace hs1:=hZ hs1
 replace z0s:=hZ z0s
 clear hHeld hgrowB hSB hownA hownB hcN2 hsrcA hEl
 refine uL 7 (fun K hK=>?_)
 go_simp
 refine hK.out _ _ ?_
 clear hK K
 have k1:=(hS0.out _ hwB).2
 have hFr:=f0.trans hwB
 clear hS0 n0 n1 hw1w hwAw hwA hw1
 have hwoB:=hwB
 obtain ⟨W2,rfl⟩:∃ W2:World,W2=wB:=⟨_,rfl⟩
 clear hwB hwoB
 have k1:=hZ k1
 have hFr:=hZ hFr
 go_wp2_with fail
 go_loopg [4] T (fun gk s4 wr=>∃ i:Nat,s4=.int .i64 i∧i+gk=T∧Hid (Cs a L gk i=S)∧Fr W2 wr)
 case atStart=>exact ⟨0,rfl,by omega,hS.out.symm,Fr.refl _⟩
 case round=>
  obtain ⟨i,rfl,hik,hsc,hf⟩:=hrel
  have hFr2:=hFr.out.trans hf
  have k2:=hf.keep k1.out
  by_cases hi:i < T
  ·have hdI:decide (i < T)=true:=Ab hi
   obtain ⟨b,o,x,hae,hbl,hxi,hc1,hc2,-⟩:=(hsy.out.fr hf).at (i:=i) (by rw [← hT.out]; exact hi)
   injection hae with hae; injection hae with h1 h2
   subst h1; subst h2
   have hmem:x ∈ L:=Ae hxi
   obtain ⟨hnl,hrl⟩:=hs.out x hmem
   have hel:=(hsy.out.fr hf).2 x hmem
   have hN:=Pq x.nm
   have hck:=fun W (hW:Fr wr W)=>Ei x.row x.ra x.rc W (hel.fr hW) hrl
   obtain ⟨j1,rfl⟩:∃ j1,gk=j1+1:=⟨gk - 1,by omega⟩
   have eN:=fun (h:Bx x.nm=false)=>(Dl (k:=j1) hxi (by rw [GX h]; simp)).symm.trans hsc.out |>.symm.trans (GX (d:=a) (p:=L.take i) h)
   have eD:=fun (h:Bx x.nm=true) h2=>(Dl (k:=j1) hxi (by rw [HV h h2]; simp)).symm.trans hsc.out |>.symm.trans (HV (d:=a) (p:=L.take i) h h2)
   have eR:=fun (h:Bx x.nm=true) h2 h3=>(Dl (k:=j1) hxi (by rw [HU h h2 h3]; exact h3)).symm.trans hsc.out |>.symm.trans (HU (d:=a) (p:=L.take i) h h2 h3)
   have eS:=fun (h:Bx x.nm=true) h2 h3 h5=>(Dl (k:=j1) hxi (by rw [GW h h2 h3 h5]; simp)).symm.trans hsc.out |>.symm.trans (GW (d:=a) (p:=L.take i) h h2 h3 h5)
   have eO:=fun (h:Bx x.nm=true) h2 h3 h5=>(JI (k:=j1) hxi (N3 (d:=a) (p:=L.take i) h h2 h3 h5)).symm.trans hsc.out
   have hE1':=fun (h:S≠0)=>hE1.out h
   have hany:Hid (∀ j y,L[j]?=some y→j < i→(y.nm.toList == x.nm.toList)=true→(L.take i).any (fun y=>y.nm.toList == x.nm.toList)=true):=fun j y hj hji he=>Uq.2 ⟨y,Ae (i:=j) (by rw [B6,Al hji]; exact hj),he⟩
   have hnone:Hid ((∀ j y,L[j]?=some y→j < i→(y.nm.toList == x.nm.toList)=false)→(L.take i).any (fun y=>y.nm.toList == x.nm.toList)=false):=fun h=>by
    rw [Cc]
    intro y hy
    obtain ⟨j,hj⟩:=A6 hy
    rw [B6] at hj
    split at hj
    ·rename_i hji; rw [h j y hj hji]; simp
    ·cases hj
   clear hsc hxi hmem hel
   replace hN:=hZ hN
   replace hck:=hZ hck
   replace eN:=hZ eN
   replace eD:=hZ eD
   replace eR:=hZ eR
   replace eS:=hZ eS
   replace eO:=hZ eO
   replace hE1':=hZ hE1'
   generalize (L.take i).any (fun y=>y.nm.toList == x.nm.toList)=bD at *
   generalize Bx x.nm=bN at *
   generalize CV x.row=bR at *
   generalize x.row.length=d at *
   generalize x.nm=nm at *
   generalize x.ra=ra at *
   generalize x.rc=rc at *
   rw [Ay] at hc1 hc2
   have y1:(i:Int) < (T:Int):=by omega
   have y2:(0:Int)≤(i:Int):=by omega
   obtain ⟨wo2,rfl⟩:∃ wo2:World,wo2=wr:=⟨_,rfl⟩
   go_wp2_with fail
   refine (hN.out _ hnl).mono ?_
   rintro e w9 ⟨rfl,rfl⟩
   cases bN with
   | false=>
     have hS8:=eN.out (by trivial)
     have hfin:=hZ ((hE1'.out (by rw [hS8]; simp)).trans hS8)
     clear hS8
     go_wp2_with fail
     go_ret
     exact ⟨A7 hfin.out.symm,hFr2⟩
   | true=>
   go_wp2_with fail
   go_loopg [5] i (fun gk2 s5 wr2=>∃ j:Nat,s5=.int .i64 j∧j+gk2=i∧Hid (∀ j' y,L[j']?=some y→j' < j→(y.nm.toList == nm.toList)=false)∧Fr wo2 wr2)
   case atStart=>exact ⟨0,rfl,by omega,fun j' y _ h=>by omega,Fr.refl _⟩
   case round=>
    obtain ⟨j,rfl,hjk,hno,hf2⟩:=hrel
    have c1:=hf2.keep hc1
    have c2:=hf2.keep hc2
    have k3:=hf2.keep k2
    by_cases hj:j < i
    ·have hdJ:decide (j < i)=true:=Ab hj
     obtain ⟨b3,o3,y,hae3,hbl3,hyj,hd1,hd2,-⟩:=(hsy.out.fr (hf.trans hf2)).at (i:=j) (by rw [← hT.out]; omega)
     injection hae3 with hae3; injection hae3 with h1 h2
     subst h1; subst h2
     rw [Ay] at hd1
     have y3:(j:Int) < (T:Int):=by omega
     have y4:(0:Int)≤(j:Int):=by omega
     have hyy:=hany.out j y hyj hj
     have hno2:=fun (h:(y.nm.toList == nm.toList)=false) (j':Nat) (y':Sy) (hj':L[j']?=some y') (h3:j' < j+1)=>show (y'.nm.toList == nm.toList)=false by
      by_cases e:j'=j
      ·subst e; rw [hyj] at hj'; injection hj' with hj'; rw [← hj']; exact h
      ·exact hno.out j' y' hj' (by omega)
     replace hyj:=hZ hyj
     replace hyy:=hZ hyy
     replace hno2:=hZ hno2
     clear hd2 c2
     generalize y.nm=nm2 at *
     obtain ⟨bE,hbE⟩:∃ bE,(nm2.toList == nm.toList)=bE:=⟨_,rfl⟩
     have hS8:=fun (h:bE=true)=>eD.out (by trivial) (hyy.out (hbE.trans h))
     have hno3:=fun (h:bE=false)=>hno2.out (hbE.trans h)
     replace hS8:=hZ hS8
     replace hno3:=hZ hno3
     clear hyy hno2
     cases bE with
     | true=>
       have hS9:=hS8.out (by trivial)
       have hfin:=hZ ((hE1'.out (by rw [hS9]; simp)).trans hS9)
       clear hS9
       go_wp2_with fail
       go_quiet (fail)
       go_wp2_with fail
       go_ret
       exact ⟨A7 hfin.out.symm,hFr2.trans (hf2.drewN _)⟩
     | false=>
       go_wp2_with fail
       go_quiet (fail)
       go_wp2_with fail
       go_roundg (gk - 1)
       case measure=>omega
       case rel=>exact ⟨j+1,by go_num,by omega,hno3.out (by trivial),hf2.drewN _⟩
    ·have hdJ:decide (j < i)=false:=Aa hj
     obtain rfl:i=j:=by omega
     have hbD:=hnone.out hno.out
     subst hbD
     go_wp2_with fail
     refine (hck.out _ hf2).mono ?_
     rintro e w5 ⟨rfl,hf5⟩
     have c3:=hf5.keep c2
     have k4:=hf5.keep k3
     have hFr5:=(hFr2.trans hf2).trans hf5
     clear hck hN c1 c2 hc1 hc2 k2 k3
     by_cases h3:bR≠0
     ·have q1:(bR != 0)=true:=by rw [Ba]; exact h3
      have hS8:=eR.out (by trivial) (by trivial) h3
      have hfin:=hZ ((hE1'.out (by rw [hS8]; exact h3)).trans hS8)
      clear hS8
      go_wp2_with fail
      go_ret
      exact ⟨A7 hfin.out.symm,hFr5⟩
     replace h3:bR=0:=CT h3
     have q1:(bR != 0)=false:=by rw [h3]; rfl
     replace h3:=hZ h3
     by_cases h5:d≠a
     ·have q3:((d:Int) != (a:Int))=true:=by rw [Ba]; omega
      have hS8:=eS.out (by trivial) (by trivial) h3.out h5
      have hfin:=hZ ((hE1'.out (by rw [hS8]; simp)).trans hS8)
      clear hS8
      go_wp2_with fail
      go_quiet (fail)
      go_wp2_with fail
      go_ret
      exact ⟨A7 hfin.out.symm,hFr5.drewN _⟩
     replace h5:d=a:=CT h5
     have q3:((d:Int) != (a:Int))=false:=by rw [h5]; simp
     have hO:=hZ (eO.out (by trivial) (by trivial) h3.out h5)
     clear eN eD eR eS eO
     replace h5:=hZ h5
     go_wp2_with fail
     go_quiet (fail)
     go_wp2_with fail
     go_roundg j1
     case measure=>omega
     case rel=>exact ⟨i+1,by go_num,by omega,hO,((hf.trans hf2).trans hf5).drewN _⟩
  ·have hdI:decide (i < T)=false:=Aa hi
   obtain rfl:gk=0:=by omega
   have hS0:S=0:=hsc.out.symm
   have hfin:=hE2.out hS0
   have hrk:=hR.out hS0
   clear hE1 hE2 hR hsc hsy
   replace hfin:=hZ hfin
   replace hrk:=hZ hrk
   replace hS0:=hZ hS0
   obtain ⟨wo,rfl⟩:∃ wo:World,wo=wr:=⟨_,rfl⟩
   go_wp2_with fail
   go_region_held3 (fun w'=>w'.cell? ⟨nb,1,none⟩=some (.slice aA a cA))
    (first | assumption | (refine Fr.keep (by assumption) ?_; assumption) | go_keep)
    (first
     | (go_at_call 28; (with_reducible refine (hrows.out _ ?_).mono ?_); (exact Bq); rintro e w6 ⟨ra,rc,rfl,hma,hf6⟩)
     | (go_at_call 58; (with_reducible refine (hrk.out ra rc _ ?_ hma).mono ?_); (exact Bq); rintro e w7 ⟨rfl,hf7⟩))
   have hfr7:Fr w w7:=(hFr2.trans ((Fr.refl wo).drew.trans hf6)).trans hf7
   by_cases hra:r < a
   ·have q1:decide (r < a)=true:=Ab hra
    have hfin2:=hZ (hfin.out.trans (Al hra))
    go_wp2_with fail
    go_ret
    exact ⟨A7 hfin2.out.symm,hfr7⟩
   ·have q1:decide (r < a)=false:=Aa hra
    have hfin2:=hZ (hfin.out.trans (Ai hra))
    go_wp2_with fail
    go_ret
    exact ⟨A7 hfin2.out.symm,hfr7⟩
theorem NF {w:World} {a:Option Addr} {X:List Sy} (h:Hm w a X) (W:World) (hW:Fr w W) :
 (X.length=0∧BH (X.map Sy.enc)=[])∨∃ ad,a=some ad∧0 < X.length∧∀ (j:Nat) (u:Value),(BH (X.map Sy.enc))[j]?=some u→W.cell? (ad.add j)=some u:=by
 by_cases h0:X.length=0
 ·exact .inl ⟨h0,by rw [Az h0]; rfl⟩
 ·rcases h.1 with h | ⟨b,o,e,hb,hc⟩
  ·simp at h; rw [h] at h0; simp at h0
  ·exact .inr ⟨_,e,by omega,KV (fun i x hx=>⟨hW.keep (hc i x hx).1,hW.keep (hc i x hx).2⟩)⟩
def FH (x:Sy):Bool:=decide (36 < x.nm.size∨(4 < x.row.length∧(x.row.length < 6∨8 < x.row.length)))
def Gy (N A:List Sy):Bool:=decide (¬ ((8 < N.length∧(N.length < 59∨62 < N.length))∨(4 < A.length∧(A.length < 6∨8 < A.length)))) && !(N ++ A).any FH
theorem My {N A:List Sy} (h:Gy N A=true):N.length≤62∧A.length≤8∧TI (N ++ A):=by
 unfold Gy at h
 rw [AW,R5,Cc,IE] at h
 refine ⟨by omega,by omega,fun x hx=>?_⟩
 have:=h.2 x hx
 unfold FH at this
 rw [IE] at this
 omega
theorem Rr (aN aA:Option Addr) (cN cA:Nat) (N A:List Sy) (w:World) (hG:G w) (hn:DB w aN aA cA N A) (hNl:N.length≤maxLen) (hAl:A.length≤maxLen) :
 Calls Tryz.prog 24 #[.agg #[.slice aN N.length cN,.slice aA A.length cA]] w fun e w'=>e=.returned (.bool (Gy N A))∧Fr w w':=by
 unfold maxLen at hNl hAl
 by_cases hB:(8 < N.length∧(N.length < 59∨62 < N.length))∨(4 < A.length∧(A.length < 6∨8 < A.length))
 ·have f0:Fr w (w.alloc (.cells #[.slice aN N.length cN,.slice aA A.length cA] 31)):=(Fr.refl w).alloc _
  have hfin:=hZ (show Gy N A=false by unfold Gy; rw [Aa (by omega)]; rfl)
  generalize Gy N A=E at *
  obtain ⟨n,hnn⟩:∃ n,n=N.length:=⟨_,rfl⟩
  obtain ⟨a,han⟩:∃ a,a=A.length:=⟨_,rfl⟩
  rw [← hnn] at hB hNl f0 ⊢
  rw [← han] at hB hAl f0 ⊢
  clear hn hnn han hG
  replace f0:=hZ f0
  have hcs:(8 < n∧n < 59)∨(8 < n∧¬ n < 59∧62 < n)∨(8 < n∧¬ n < 59∧¬ 62 < n∧4 < a∧a < 6)∨(8 < n∧¬ n < 59∧¬ 62 < n∧4 < a∧¬ a < 6∧8 < a)∨(¬ 8 < n∧4 < a∧a < 6)∨(¬ 8 < n∧4 < a∧¬ a < 6∧8 < a):=by omega
  clear hB
  rcases hcs with ⟨h1,h2⟩ | ⟨h1,h2,h3⟩ | ⟨h1,h2,h3,h4,h5⟩ | ⟨h1,h2,h3,h4,h5,h6⟩ | ⟨h1,h4,h5⟩ | ⟨h1,h4,h5,h6⟩
  all_goals
   (skip
    (try first | have d1:decide ((8:Int) < (n:Int))=true:=Ab (by omega) | have d1:decide ((8:Int) < (n:Int))=false:=Aa (by omega))
    (try first | have d2:decide ((n:Int) < (59:Int))=true:=Ab (by omega) | have d2:decide ((n:Int) < (59:Int))=false:=Aa (by omega))
    (try first | have d3:decide ((62:Int) < (n:Int))=true:=Ab (by omega) | have d3:decide ((62:Int) < (n:Int))=false:=Aa (by omega))
    (try first | have d4:decide ((4:Int) < (a:Int))=true:=Ab (by omega) | have d4:decide ((4:Int) < (a:Int))=false:=Aa (by omega))
    (try first | have d5:decide ((a:Int) < (6:Int))=true:=Ab (by omega) | have d5:decide ((a:Int) < (6:Int))=false:=Aa (by omega))
    (try first | have d6:decide ((8:Int) < (a:Int))=true:=Ab (by omega) | have d6:decide ((8:Int) < (a:Int))=false:=Aa (by omega))
    go_enter Tryz.func24,Tryz.ntmps24
    go_wp2_with fail
    go_ret
    exact ⟨BS hfin.out.symm,f0.out⟩)
 ·have hfin:=hZ (show Gy N A=!(N ++ A).any FH by unfold Gy; rw [Ab hB]; rfl)
  have hsN:=hZ (NF hn.noms)
  have hsA:=hZ (NF hn.accs)
  have hgn:=CG hG
  have hfN:(BH (N.map Sy.enc)).length=N.length * 2:=by rw [CY,Am]
  have hfA:(BH (A.map Sy.enc)).length=A.length * 2:=by rw [CY,Am]
  have h1N:∀ u ∈ BH (N.map Sy.enc),u.oneCell'=true:=EC (Sy.one _)
  have h1A:∀ u ∈ BH (A.map Sy.enc),u.oneCell'=true:=EC (Sy.one _)
  have hcat:BH (N.map Sy.enc) ++ BH (A.map Sy.enc)=BH ((N ++ A).map Sy.enc):=by rw [Av,Fj]
  have hEl:Hid (∀ x,x ∈ N ++ A→El w iv x.ra x.row):=fun x hx=>by
   rcases Bb.1 hx with h9 | h9
   ·exact hn.noms.2 x h9
   ·exact hn.accs.2 x h9
  have hlen:(N ++ A).length=N.length+A.length:=Aq
  generalize Gy N A=E at *
  obtain ⟨T,hT⟩:∃ T,T=(N ++ A).length:=⟨_,rfl⟩
  rw [← hT] at hlen
  obtain ⟨n,hnn⟩:∃ n,n=N.length:=⟨_,rfl⟩
  obtain ⟨a,han⟩:∃ a,a=A.length:=⟨_,rfl⟩
  rw [← hnn] at hB hfN hsN hlen ⊢
  rw [← han] at hB hfA hsA hlen ⊢
  replace hcat:=hZ hcat
  replace hfN:=hZ hfN
  replace hfA:=hZ hfA
  replace h1N:=hZ h1N
  replace h1A:=hZ h1A
  generalize BH (N.map Sy.enc)=FN at *
  generalize BH (A.map Sy.enc)=FA at *
  generalize N ++ A=L at *
  clear hn hnn han hG hNl hAl
  replace hT:=hZ hT
  obtain ⟨i1,ji,jz0,jz1,jz2⟩:=AN I6
  have hn62:n≤62:=by omega
  have ha8:a≤8:=by omega
  have hcs:(¬ 8 < n∧¬ 4 < a)∨(¬ 8 < n∧4 < a∧¬ a < 6∧¬ 8 < a)∨(8 < n∧¬ n < 59∧¬ 62 < n∧¬ 4 < a)∨(8 < n∧¬ n < 59∧¬ 62 < n∧4 < a∧¬ a < 6∧¬ 8 < a):=by omega
  clear hB
  rcases hcs with ⟨h1,h4⟩ | ⟨h1,h4,h5,h6⟩ | ⟨h1,h2,h3,h4⟩ | ⟨h1,h2,h3,h4,h5,h6⟩
  all_goals
   (skip
    (try first | have d1:decide ((8:Int) < (n:Int))=true:=Ab (by omega) | have d1:decide ((8:Int) < (n:Int))=false:=Aa (by omega))
    (try first | have d2:decide ((n:Int) < (59:Int))=true:=Ab (by omega) | have d2:decide ((n:Int) < (59:Int))=false:=Aa (by omega))
    (try first | have d3:decide ((62:Int) < (n:Int))=true:=Ab (by omega) | have d3:decide ((62:Int) < (n:Int))=false:=Aa (by omega))
    (try first | have d4:decide ((4:Int) < (a:Int))=true:=Ab (by omega) | have d4:decide ((4:Int) < (a:Int))=false:=Aa (by omega))
    (try first | have d5:decide ((a:Int) < (6:Int))=true:=Ab (by omega) | have d5:decide ((a:Int) < (6:Int))=false:=Aa (by omega))
    (try first | have d6:decide ((8:Int) < (a:Int))=true:=Ab (by omega) | have d6:decide ((8:Int) < (a:Int))=false:=Aa (by omega))
    go_enter Tryz.func24,Tryz.ntmps24
    go_upto_region 3 with (fail)
    clear h1 h4
    obtain ⟨wo,hwo⟩:∃ wo,wo=w.alloc (.cells #[.slice aN n cN,.slice aA a cA] 31):=⟨_,rfl⟩
    have n0:wo.cell? ⟨w.heap.size,0,none⟩=some (.slice aN n cN):=by rw [hwo]; exact (Cw _ _ _ _).1
    have n1:wo.cell? ⟨w.heap.size,1,none⟩=some (.slice aA a cA):=by rw [hwo]; exact (Cv _ _ _ _).1
    have z0s:wo.heap.size=w.heap.size+1:=by rw [hwo]; simp
    have f0:Fr w wo:=by rw [hwo]; exact (Fr.refl _).alloc _
    rw [← hwo]
    clear hwo
    obtain ⟨nb,hnb⟩:∃ nb,nb=w.heap.size:=⟨_,rfl⟩
    rw [← hnb] at n0 n1 z0s hgn ⊢
    replace hnb:=hZ hnb
    have hS0:=hZ (fun W' (hW':Fr wo W')=>(⟨hW'.keep n0,hW'.keep n1⟩:W'.cell? ⟨nb,0,none⟩=some (.slice aN n cN)∧W'.cell? ⟨nb,1,none⟩=some (.slice aA a cA)))
    refine BL (S:=fun W'=>W'.cell? ⟨nb,0,none⟩=some (.slice aN n cN)∧W'.cell? ⟨nb,1,none⟩=some (.slice aA a cA)) 7 (by kernel_rfl) (hS0.out _ ((Fr.refl _).drew)) (fun hHeld=>?_)
    refine uV 1 40 [2,3,6] ?_; try simp only [B7,Cm,Cl]
    refine uV 2 41 [3,6] ?_; try simp only [B7,Cm,Cl]
    refine uV 4 43 [5,6] ?_; try simp only [B7,Cm,Cl]
    refine uV 5 44 [6] ?_; try simp only [B7,Cm,Cl]
    refine uF 8 ?_
    change BN _ _ _ _ _ _ _ _ (Act.put _ (some 47) _) _
    simp only [Act.put,B7,Cm,Cl]
    refine uC 0 (fun K hK=>?_)
    go_simp
    refine hK.out _ _ (hS0.out _ (by exact Bq)) (fun hHeld=>?_)
    clear hK K
    try simp only [Act.put,B7]
    obtain ⟨W1,hW1⟩:∃ W1,W1=(wo.alloc (.cells #[] 46)).drew:=⟨_,rfl⟩
    have hw1:Fr wo W1:=by rw [hW1]; exact ((Fr.refl wo).alloc _).drew
    have hown0:W1.ownsRow (nb+1) 46 2 (.slice (some ⟨nb+1,0,none⟩) 0 0) 0 []:=by
     have h:=AZ (K1 wo (nb+1) 46 2 (by omega)) (Fr.refl _).drew
     rw [hW1,← z0s]; rw [z0s] at h ⊢; exact h
    have hs1:W1.heap.size=nb+2:=by rw [hW1,Fu,AF]; omega
    rw [← hW1] at hHeld ⊢
    clear hW1
    have hw1w:=hZ (f0.trans hw1)
    have hSA:Hid (∀ wA,W1.grownBy wA (some (nb+1))→Fr wo wA):=fun wA h=>hw1.grown h (fun k e=>by injection e with e; omega)
    refine uC 3 (fun K hK=>?_)
    (refine E3 rfl (.tmp 39) (.tmp 41) 29 rfl (nb+1) 46 i1 _ 2 40 Tryz.underlying29 ji jz0 jz1 jz2 rfl (by decide) (nb+1) 0 0 [] (by simp [Act.eval]) hown0 aN n cN FN (by simp [Act.eval]) hfN.out (hsN.out _ hw1w.out) h1N.out (by unfold maxLen; omega) (by omega) (by omega) ?_; intro gA capA wA hownA hgrowA)
    refine hK.out _ _ ((hS0.out _ (hSA.out wA hgrowA))) (fun hHeld=>?_)
    clear hK K
    try simp only [Act.put,B7]
    have hwA:=hSA.out wA hgrowA
    rw [Ej,Ay] at hownA
    simp only [Ay] at hHeld ⊢
    have hgA:nb+1≤gA:=(hownA.lt gA rfl).1
    have hSB:Hid (∀ wB,wA.grownBy wB (some gA)→Fr wo wB):=fun wB h=>hwA.grown h (fun k e=>by injection e with e; omega)
    have hwAw:=hZ (f0.trans hwA)
    have hsA2:=hwA.size
    clear hgrowA hSA hown0
    refine uC 6 (fun K hK=>?_)
    (refine E3 rfl (.tmp 42) (.tmp 44) 29 rfl (nb+1) 46 i1 _ 2 40 Tryz.underlying29 ji jz0 jz1 jz2 rfl (by decide) gA n capA FN (by simp [Act.eval]) hownA aA a cA FA (by simp [Act.eval]) hfA.out (hsA.out _ hwAw.out) h1A.out (by unfold maxLen; omega) (by omega) (by omega) ?_; intro gB capB wB hownB hgrowB)
    refine hK.out _ _ ((hS0.out _ (hSB.out wB hgrowB))) (fun hHeld=>?_)
    clear hK K
    try simp only [Act.put]
    have hwB:=hSB.out wB hgrowB
    rw [hcat.out] at hownB
    have hsy:=hZ (show Hm wB (some ⟨gB,0,none⟩) L from ⟨(DL hownB).1,fun x hx=>(hEl.out x hx).fr (f0.trans hwB)⟩)
    have hTn:n+a=T:=by omega
    rw [hTn]
    have hT2:T≤70:=by omega
    clear hTn hlen hs1 z0s hHeld hgrowB hSB hownA hownB hsN hsA hEl hsA2 hgA
    refine uL 7 (fun K hK=>?_)
    go_simp
    refine hK.out _ _ ?_
    clear hK K
    have hFr:=hZ (f0.trans hwB)
    clear hS0 n0 n1 hw1w hwAw hwA hw1 hwB
    go_wp2_with fail
    go_loopg [47] T (fun gk s47 wr=>∃ i:Nat,s47=.int .i64 i∧i+gk=T∧Hid ((L.take i).any FH=false)∧Fr wB wr)
    case atStart=>exact ⟨0,rfl,by omega,by show List.any [] FH=false; rfl,Fr.refl _⟩
    case round=>
     obtain ⟨i,rfl,hik,hno,hf⟩:=hrel
     have hFr2:=hZ (hFr.out.trans hf)
     by_cases hi:i < T
     ·have hdI:decide (i < T)=true:=Ab hi
      obtain ⟨b,o,x,hae,hbl,hxi,hc1,hc2,-⟩:=(hsy.out.fr hf).at (i:=i) (by rw [← hT.out]; exact hi)
      injection hae with hae; injection hae with h1 h2
      subst h1; subst h2
      have hbad:=hZ (fun (h:FH x=true)=>(Uq.2 ⟨x,Ae hxi,h⟩:L.any FH=true))
      have hok:=hZ (fun (h:FH x=false)=>(show (L.take (i+1)).any FH=false by
       rw [C0,hxi,P6,List.any_append,hno.out,List.any_cons,h]; rfl))
      have hdf:FH x=decide (36 < x.nm.size∨(4 < x.row.length∧(x.row.length < 6∨8 < x.row.length))):=rfl
      generalize FH x=bx at *
      generalize x.row.length=k at *
      generalize x.nm=nm at *
      generalize x.ra=ra at *
      generalize x.rc=rc at *
      rw [Ay] at hc1 hc2
      have y1:(i:Int) < (T:Int):=by omega
      have y2:(0:Int)≤(i:Int):=by omega
      clear hxi hno
      by_cases hb:36 < nm.size∨(4 < k∧(k < 6∨8 < k))
      ·rw [Ab hb] at hdf
       have hfin2:=hZ (show E=false by rw [hfin.out,hbad.out hdf]; rfl)
       clear hbad hok hdf hfin
       have hcs:(36 < nm.size)∨(¬ 36 < nm.size∧4 < k∧k < 6)∨(¬ 36 < nm.size∧4 < k∧¬ k < 6∧8 < k):=by omega
       clear hb
       rcases hcs with j1 | ⟨j1,j2,j3⟩ | ⟨j1,j2,j3,j4⟩
       all_goals
        (skip
         (try first | have g1:decide ((36:Int) < (nm.size:Int))=true:=Ab (by omega) | have g1:decide ((36:Int) < (nm.size:Int))=false:=Aa (by omega))
         (try first | have g2:decide ((4:Int) < (k:Int))=true:=Ab (by omega) | have g2:decide ((4:Int) < (k:Int))=false:=Aa (by omega))
         (try first | have g3:decide ((k:Int) < (6:Int))=true:=Ab (by omega) | have g3:decide ((k:Int) < (6:Int))=false:=Aa (by omega))
         (try first | have g4:decide ((8:Int) < (k:Int))=true:=Ab (by omega) | have g4:decide ((8:Int) < (k:Int))=false:=Aa (by omega))
         go_wp2_with fail
         go_ret
         exact ⟨BS hfin2.out.symm,hFr2.out.alloc _⟩)
      ·rw [Aa hb] at hdf
       replace hok:=hZ (hok.out hdf)
       clear hbad hdf
       have hcs:(¬ 36 < nm.size∧¬ 4 < k)∨(¬ 36 < nm.size∧4 < k∧¬ k < 6∧¬ 8 < k):=by omega
       clear hb
       rcases hcs with ⟨j1,j2⟩ | ⟨j1,j2,j3,j4⟩
       all_goals
        (skip
         (try first | have g1:decide ((36:Int) < (nm.size:Int))=true:=Ab (by omega) | have g1:decide ((36:Int) < (nm.size:Int))=false:=Aa (by omega))
         (try first | have g2:decide ((4:Int) < (k:Int))=true:=Ab (by omega) | have g2:decide ((4:Int) < (k:Int))=false:=Aa (by omega))
         (try first | have g3:decide ((k:Int) < (6:Int))=true:=Ab (by omega) | have g3:decide ((k:Int) < (6:Int))=false:=Aa (by omega))
         (try first | have g4:decide ((8:Int) < (k:Int))=true:=Ab (by omega) | have g4:decide ((8:Int) < (k:Int))=false:=Aa (by omega))
         go_wp2_with fail
         go_roundg (gk - 1)
         case measure=>omega
         case rel=>exact ⟨i+1,by go_num,by omega,hok.out,hf.alloc _⟩)
     ·have hdI:decide (i < T)=false:=Aa hi
      obtain rfl:i=T:=by omega
      have hfin2:=hZ (show E=true by
       have h9:=hno.out
       rw [hT.out,Uo] at h9
       rw [hfin.out,h9]; rfl)
      go_wp2_with fail
      go_ret
      exact ⟨BS hfin2.out.symm,hFr2.out⟩)
end Go.Proofs.YtcglmebcfeoedaaGreatDoor
