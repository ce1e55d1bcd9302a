/- Contracts and laws: VGW. -/
import Derived.Test.YtmalpgbbddkdcaaGreatDoorVA
import Derived.Test.YtmalpgbbddkdcaaGreatDoorVWA

namespace Go.Proofs.YtmalpgbbddkdcaaGreatDoor
open Go.RowKit Go.Lib
def bigD:Nat:=16000000
def big:Nat:=10 ^ bigD
theorem big_40:10000000000000000000000000000000000000000≤big:=Nat.le_trans (show 10000000000000000000000000000000000000000≤10 ^ 40 by decide) (Nat.pow_le_pow_right (by decide) (show 40≤bigD by decide))
def Wd (n:Int):Prop:=n.natAbs < big
theorem Wd.bn {n:Int} (h:Wd n):Bn bigD n:=h
theorem Wd.size {n:Int} (h:Wd n):(tx n).size≤16000002:=by have:=h.bn.size2; unfold bigD at this; omega
theorem Wd.asize {n:Int} (h:Wd n):(tx (n.natAbs:Int)).size≤16000002:=by have:=h.bn.size; unfold bigD at this; omega
theorem Wd.of40 {n:Int} (h:n.natAbs < 10000000000000000000000000000000000000000):Wd n:=Nat.lt_of_lt_of_le h big_40
theorem MulWd (a b:Int) (ha:Wd a) (hb:Wd b) (w:World) (hG:G w) :
 Calls Tryz.prog 96 #[.string (tx a),.string (tx b)] w fun e w'=>e=.returned (.string (tx (a * b)))∧Fr w w':=WMulG bigD bigD (by decide) (by decide) a b ha.bn hb.bn w hG
theorem SubWd (x q y:Int) (hx:Wd x) (hq:Wd q) (hy:Wd y) (w:World) (hG:G w) :
 Calls Tryz.prog 171 #[.string (tx x),.string (tx (q * y))] w fun e w'=>e=.returned (.string (tx (x - q * y)))∧Fr w w':=WSubG (bigD+bigD) (by decide) x (q * y) (hx.bn.mono (by decide)) (hq.bn.mul hy.bn) w hG
theorem AddWd (a b:Int) (ha:Wd a) (hb:Wd b) (w:World) (hG:G w) :
 Calls Tryz.prog 95 #[.string (tx a),.string (tx b)] w fun e w'=>e=.returned (.string (tx (a+b)))∧Fr w w':=WAddG bigD (by decide) a b ha.bn hb.bn w hG
theorem DivModWd (a b:Int) (ha:Wd a) (hb:Wd b) (h0:b≠0) (w:World) (hG:G w) :
 Calls Tryz.prog 115 #[.string (tx a),.string (tx b)] w fun e w'=>e=.returned (.tuple #[.string (tx (a.fdiv b)),.string (tx (a.fmod b)),.int .i64 0])∧Fr w w':=WDivModG bigD bigD (by decide) (by decide) a b ha.bn hb.bn h0 w hG
def smW (n:Int):Bool:=decide (-10000000000000000000000000000000000000000 < n∧n < 10000000000000000000000000000000000000000) || decide (n.natAbs < big)
theorem smW_wd {n:Int} (h:smW n=true):Wd n:=by
 unfold smW at h
 rcases Bool.or_eq_true_iff.1 h with h | h
 ·have h:=of_decide_eq_true h
  exact Wd.of40 (by omega)
 ·exact of_decide_eq_true (p:=n.natAbs < big) h
theorem wd_smW {n:Int} (h:Wd n):smW n=true:=by unfold smW; rw [Bool.or_eq_true_iff]; exact .inr (decide_eq_true (p:=n.natAbs < big) h)
def okW (q x y:Int):Bool:=smW q && smW y && smW x
theorem okW_wd {q x y:Int} (h:okW q x y=true):Wd q∧Wd y∧Wd x:=by
 unfold okW at h
 simp only [Bool.and_eq_true] at h
 exact ⟨smW_wd h.1.1,smW_wd h.1.2,smW_wd h.2⟩
theorem wd_okW {q x y:Int} (hq:Wd q) (hy:Wd y) (hx:Wd x):okW q x y=true:=by
 unfold okW; rw [wd_smW hq,wd_smW hy,wd_smW hx]; rfl
def takeLW (q:Int):List Int→List Int→Option (List Int)
 | [],_=>some []
 | x :: xs,y :: ys=>if okW q x y then (takeLW q xs ys).map ((x - q * y) :: ·) else none
 | _ :: _,[]=>none
def takeSW (q:Int) (xs ys:List Int):Option (List Int):=if q=0 then some xs else takeLW q xs ys
theorem takeLW_spec (q:Int):∀ (xs ys zs:List Int),takeLW q xs ys=some zs→zs.length=xs.length∧∀ (k:Nat) (x:Int),xs[k]?=some x→∃ y,ys[k]?=some y∧okW q x y=true∧zs[k]?=some (x - q * y)
 | [],ys,zs,h=>by
   injection h with h; subst h
   exact ⟨rfl,fun k x hx=>by simp at hx⟩
 | x :: xs,[],zs,h=>by simp [takeLW] at h
 | x :: xs,y :: ys,zs,h=>by
   simp only [takeLW] at h
   split at h
   ·rename_i hok
    cases e:takeLW q xs ys with
    | none=>rw [e] at h; simp at h
    | some ws=>
      rw [e] at h
      simp only [Option.map_some,Option.some.injEq] at h
      subst h
      obtain ⟨h1,h2⟩:=takeLW_spec q xs ys ws e
      refine ⟨by simp [h1],fun k z hz=>?_⟩
      cases k with
      | zero=>simp at hz; subst hz; exact ⟨y,by simp,hok,by simp⟩
      | succ k=>simpa using h2 k z (by simpa using hz)
   ·simp at h
theorem takeSW_len {q:Int} {xs ys zs:List Int} (h:takeSW q xs ys=some zs):zs.length=xs.length:=by
 unfold takeSW at h
 split at h
 ·injection h with h; rw [h]
 ·exact (takeLW_spec q xs ys zs h).1
def elim1W (g:List (List Int)) (c t i:Nat):Option (List (List Int)) :=
 if smW (ent g i c) && smW (ent g t c) && ent g t c != 0 then (takeSW ((ent g i c).fdiv (ent g t c)) (rowAt g i) (rowAt g t)).map (fun r=>g.set i r) else none
def elimToW (g:List (List Int)) (c t s:Nat):Nat→Option (List (List Int))
 | 0=>some g
 | j+1=>(elimToW g c t s j).bind fun g=>elim1W g c t (s+j)
def smRowW (r:List Int):Bool:=r.all smW
theorem smRowW_mem {r:List Int} (h:smRowW r=true):∀ x,x ∈ r→(tx x).size≤1000000000:=fun x hx=>by
 have:=(smW_wd (List.all_eq_true.1 h x hx)).size
 omega
def finSW (g:List (List Int)) (t c:Nat):Option (List (List Int)) :=
 if ent g t c < 0 then (if smRowW (rowAt g t) then elimToW (g.set t ((rowAt g t).map (fun x=>-x))) c t 0 t else none) else elimToW g c t 0 t
theorem elim1W_some {g g':List (List Int)} {c t i:Nat} (h:elim1W g c t i=some g'):Wd (ent g i c)∧Wd (ent g t c)∧ent g t c≠0∧∃ r,takeSW ((ent g i c).fdiv (ent g t c)) (rowAt g i) (rowAt g t)=some r∧g'=g.set i r:=by
 unfold elim1W at h
 split at h
 ·rename_i hc
  simp only [Bool.and_eq_true,bne_iff_ne] at hc
  obtain ⟨r,hr,rfl⟩:=Option.map_eq_some_iff.1 h
  exact ⟨smW_wd hc.1.1,smW_wd hc.1.2,hc.2,r,hr,rfl⟩
 ·simp at h
theorem elim1W_keeps {g g':List (List Int)} {c t i n:Nat} (h:elim1W g c t i=some g') (hr:Rect n g) (hi:i < g.length):Rect n g'∧g'.length=g.length:=by
 obtain ⟨_,_,_,r,h1,rfl⟩:=elim1W_some h
 exact ⟨hr.set (by rw [takeSW_len h1,rowAt_eq hi,hr.row hi]),by simp⟩
theorem elimToW_keeps {g:List (List Int)} {c t s n:Nat} (hr:Rect n g):∀ (j:Nat) (g':List (List Int)),elimToW g c t s j=some g'→s+j≤g.length→Rect n g'∧g'.length=g.length
 | 0,g',h,_=>by injection h with h; subst h; exact ⟨hr,rfl⟩
 | j+1,g',h,hl=>by
   obtain ⟨g1,h1,h2⟩:=Option.bind_eq_some_iff.1 h
   obtain ⟨a,b⟩:=elimToW_keeps hr j g1 h1 (by omega)
   obtain ⟨a',b'⟩:=elim1W_keeps h2 a (by omega)
   exact ⟨a',by rw [b',b]⟩
theorem elimToW_mono {g:List (List Int)} {c t s:Nat}:∀ (j k:Nat) (g':List (List Int)),elimToW g c t s k=some g'→j≤k→∃ g1,elimToW g c t s j=some g1
 | j,0,g',h,hj=>by obtain rfl:j=0:=by omega
                   exact ⟨g,rfl⟩
 | j,k+1,g',h,hj=>by
   by_cases e:j=k+1
   ·subst e; exact ⟨g',h⟩
   ·obtain ⟨g1,h1,_⟩:=Option.bind_eq_some_iff.1 h
    exact elimToW_mono j k g1 h1 (by omega)
def colOkW (g:List (List Int)) (c:Nat):Bool:=(List.range g.length).all fun i=>smW (ent g i c)
end Go.Proofs.YtmalpgbbddkdcaaGreatDoor
