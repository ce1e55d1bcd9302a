/- Contracts and laws: VGW. -/
import Derived.Test.YtcglmebcfeoedaaGreatDoorVA
import Derived.Test.YtcglmebcfeoedaaGreatDoorVWA
import Derived.Test.YtcglmebcfeoedaaGreatDoorVC

set_option maxRecDepth 100000
set_option maxHeartbeats 4000000
namespace Go.Proofs.YtcglmebcfeoedaaGreatDoor
open Go.RowKit Go.Lib
def Wd (n:Int):Prop:=-10000000000000000000000000000000000000000 < n∧n < 10000000000000000000000000000000000000000
theorem Wd.bn {n:Int} (h:Wd n):Bn 40 n:=by
 obtain ⟨h1,h2⟩:=h
 show n.natAbs < 10000000000000000000000000000000000000000
 omega
theorem Wd.size {n:Int} (h:Wd n):(tx n).size≤42:=h.bn.size2
theorem Wd.asize {n:Int} (h:Wd n):(tx (n.natAbs:Int)).size≤42:=by have:=h.bn.size; omega
theorem Sm.wd {n:Int} (h:Sm n):Wd n:=by obtain ⟨h1,h2⟩:=h; exact ⟨by omega,by omega⟩
theorem U9 (a b:Int) (ha:Wd a) (hb:Wd b) (w:World) (hG:G w) :
 Calls Tryz.prog 80 #[.string (tx a),.string (tx b)] w fun e w'=>e=.returned (.string (tx (a * b)))∧Fr w w':=KR 40 40 (by decide) (by decide) a b ha.bn hb.bn w hG
theorem WR (x q y:Int) (hx:Wd x) (hq:Wd q) (hy:Wd y) (w:World) (hG:G w) :
 Calls Tryz.prog 123 #[.string (tx x),.string (tx (q * y))] w fun e w'=>e=.returned (.string (tx (x - q * y)))∧Fr w w':=WP 80 (by decide) x (q * y) (hx.bn.mono (by decide)) (hq.bn.mul hy.bn) w hG
theorem YC (a b:Int) (ha:Wd a) (hb:Wd b) (w:World) (hG:G w) :
 Calls Tryz.prog 79 #[.string (tx a),.string (tx b)] w fun e w'=>e=.returned (.string (tx (a+b)))∧Fr w w':=RL 40 (by decide) a b ha.bn hb.bn w hG
theorem Yw (a b:Int) (ha:Wd a) (hb:Wd b) (w:World) (hG:G w) :
 Calls Tryz.prog 123 #[.string (tx a),.string (tx b)] w fun e w'=>e=.returned (.string (tx (a - b)))∧Fr w w':=WP 40 (by decide) a b ha.bn hb.bn w hG
theorem J2 (a b:Int) (ha:Wd a) (hb:Wd b) (h0:b≠0) (w:World) (hG:G w) :
 Calls Tryz.prog 172 #[.string (tx a),.string (tx b)] w fun e w'=>e=.returned (.tuple #[.string (tx (a.fdiv b)),.string (tx (a.fmod b)),.int .i64 0])∧Fr w w':=Ml 40 40 (by decide) (by decide) a b ha.bn hb.bn h0 w hG
def VS (q x y:Int):Bool:=decide ((-10000000000000000000000000000000000000000 < q∧q < 10000000000000000000000000000000000000000)∧(-10000000000000000000000000000000000000000 < y∧y < 10000000000000000000000000000000000000000)∧(-10000000000000000000000000000000000000000 < x∧x < 10000000000000000000000000000000000000000))
theorem TZ {q x y:Int} (h:VS q x y=true):Wd q∧Wd y∧Wd x:=by
 unfold VS at h; have h:=Av h; exact h
def Hj (q:Int):List Int→List Int→Option (List Int)
 | [],_=>some []
 | x :: xs,y :: ys=>if VS q x y then (Hj q xs ys).map ((x - q * y) :: ·) else none
 | _ :: _,[]=>none
def DO (q:Int) (xs ys:List Int):Option (List Int):=if q=0 then some xs else Hj q xs ys
theorem Fw (q:Int):∀ (xs ys zs:List Int),Hj q xs ys=some zs→zs.length=xs.length∧∀ (k:Nat) (x:Int),xs[k]?=some x→∃ y,ys[k]?=some y∧VS q x y=true∧zs[k]?=some (x - q * y)
 | [],ys,zs,h=>by
   injection h with h; subst h
   exact ⟨rfl,fun k x hx=>by simp at hx⟩
 | x :: xs,[],zs,h=>by simp [Hj] at h
 | x :: xs,y :: ys,zs,h=>by
   simp only [Hj] at h
   split at h
   ·rename_i hok
    cases e:Hj q xs ys with
    | none=>rw [e] at h; simp at h
    | some ws=>
      rw [e] at h
      simp only [Iw,S9] at h
      subst h
      obtain ⟨h1,h2⟩:=Fw q xs ys ws e
      refine ⟨by simp [h1],fun k z hz=>?_⟩
      cases k with
      | zero=>simp at hz; subst hz; exact ⟨y,by simp,hok,by simp⟩
      | succ k=>simpa using h2 k z (by simpa using hz)
   ·simp at h
theorem F6 {q:Int} {xs ys zs:List Int} (h:DO q xs ys=some zs):zs.length=xs.length:=by
 unfold DO at h
 split at h
 ·injection h with h; rw [h]
 ·exact (Fw q xs ys zs h).1
def M5 (n:Int):Bool:=decide (-10000000000000000000000000000000000000000 < n∧n < 10000000000000000000000000000000000000000)
theorem Ke {n:Int} (h:M5 n=true):Wd n:=by unfold M5 at h; have h:=Av h; exact h
def GH (g:List (List Int)) (c t i:Nat):Option (List (List Int)) :=
 if M5 (ent g i c) && M5 (ent g t c) && ent g t c != 0 then (DO ((ent g i c).fdiv (ent g t c)) (Bv g i) (Bv g t)).map (fun r=>g.set i r) else none
def Cl (g:List (List Int)) (c t s:Nat):Nat→Option (List (List Int))
 | 0=>some g
 | j+1=>(Cl g c t s j).bind fun g=>GH g c t (s+j)
def P4 (r:List Int):Bool:=r.all M5
theorem P3 {r:List Int} (h:P4 r=true):∀ x,x ∈ r→(tx x).size≤1000000000:=fun x hx=>by
 have:=(Ke (As.1 h x hx)).size
 omega
def G4 (g:List (List Int)) (t c:Nat):Option (List (List Int)) :=
 if ent g t c < 0 then (if P4 (Bv g t) then Cl (g.set t ((Bv g t).map (fun x=>-x))) c t 0 t else none) else Cl g c t 0 t
theorem FD {g g':List (List Int)} {c t i:Nat} (h:GH g c t i=some g'):Wd (ent g i c)∧Wd (ent g t c)∧ent g t c≠0∧∃ r,DO ((ent g i c).fdiv (ent g t c)) (Bv g i) (Bv g t)=some r∧g'=g.set i r:=by
 unfold GH at h
 split at h
 ·rename_i hc
  simp only [Bb,Bl] at hc
  obtain ⟨r,hr,rfl⟩:=AV.1 h
  exact ⟨Ke hc.1.1,Ke hc.1.2,hc.2,r,hr,rfl⟩
 ·simp at h
theorem N1 {g g':List (List Int)} {c t i n:Nat} (h:GH g c t i=some g') (hr:Ce n g) (hi:i < g.length):Ce n g'∧g'.length=g.length:=by
 obtain ⟨_,_,_,r,h1,rfl⟩:=FD h
 exact ⟨hr.set (by rw [F6 h1,Cb hi,hr.row hi]),by simp⟩
theorem Cf {g:List (List Int)} {c t s n:Nat} (hr:Ce n g):∀ (j:Nat) (g':List (List Int)),Cl g c t s j=some g'→s+j≤g.length→Ce n g'∧g'.length=g.length
 | 0,g',h,_=>by injection h with h; subst h; exact ⟨hr,rfl⟩
 | j+1,g',h,hl=>by
   obtain ⟨g1,h1,h2⟩:=A2.1 h
   obtain ⟨a,b⟩:=Cf hr j g1 h1 (by omega)
   obtain ⟨a',b'⟩:=N1 h2 a (by omega)
   exact ⟨a',by rw [b',b]⟩
theorem FQ {g:List (List Int)} {c t s:Nat}:∀ (j k:Nat) (g':List (List Int)),Cl g c t s k=some g'→j≤k→∃ g1,Cl g c t s j=some g1
 | j,0,g',h,hj=>by obtain rfl:j=0:=by omega
                   exact ⟨g,rfl⟩
 | j,k+1,g',h,hj=>by
   by_cases e:j=k+1
   ·subst e; exact ⟨g',h⟩
   ·obtain ⟨g1,h1,_⟩:=A2.1 h
    exact FQ j k g1 h1 (by omega)
def N5 (g:List (List Int)) (c:Nat):Bool:=(List.range g.length).all fun i=>M5 (ent g i c)
attribute [local go_sem ↓] AA AB
def Va (w:World) (xs:List Int) (e:Ending) (w':World):Prop:=(xs.all Bi=true→Wp w xs e w')∧(xs.all Bi=false→e=.returned (.tuple #[.slice none 0 0,.int .i64 4])∧Fr w w')
theorem N9 (xs:List Int) (b o c:Nat) (w:World) (hx:El w sv (some ⟨b,o,none⟩) xs) (hl:xs.length≤1000000) (hb:∀ x,x ∈ xs→-9223372036854775808≤x∧x≤9223372036854775807) :
 Calls Tryz.prog 176 #[.slice (some ⟨b,o,none⟩) xs.length c] w (Va w xs):=by
 obtain ⟨i0,hi,hz0,hz1,hz2⟩:=AQ DQ
 obtain ⟨n,hn⟩:∃ n,n=xs.length:=⟨_,rfl⟩
 rw [← hn] at hl
 replace hn:=hZ hn
 replace hx:=hZ hx
 replace hb:=hZ hb
 go_enter Tryz.func176,Tryz.ntmps176
 rw [← hn.out]
 go_wp2_with (at_make; refine Is _ rfl _ _ 44 rfl w.heap.size 3 i0 _ 1 Tryz.underlying44 hi hz0 hz1 _ _ _ n (by rfl) (by rfl) (by omega) (by rw [hz2]; omega) (by unfold maxLen; omega) (Ag _) ?_; intro w2 hown2 hgr2)
 have hf2:Fr w w2:=(Fr.refl w).grown hgr2 (fun k e=>by cases e)
 replace hown2:=hZ hown2
 clear hgr2
 go_loopg [4,14] n (fun k s4 s14 wr=>∃ t:Nat,s14=.int .i64 t∧t+k=n∧Fr w wr∧wr.ownsRow w.heap.size 3 1 s4 t ((xs.take t).map iv)∧s4≠.slice none 0 0∧Hid ((xs.take t).all Bi=true))
 case atStart=>exact ⟨0,rfl,by omega,hf2,by simpa using hown2.out,by simp,rfl⟩
 case round=>
  obtain ⟨t,rfl,htk,hf,hown,hnn,hfit⟩:=hrel
  by_cases ht:t < n
  ·obtain ⟨b2,o2,x,hae,hbl2,hxt,hcell2⟩:=(hx.out.fr hf).at (i:=t) (by rw [← hn.out]; exact ht)
   injection hae with hae; injection hae with hb2 ho2
   subst hb2; subst ho2
   have hmem:=Ae hxt
   obtain ⟨x1,x2⟩:=hb.out x hmem
   have hsn:=Bx hxt
   replace hxt:=hZ hxt
   by_cases hfx:-1000000000≤x∧x≤1000000000
   ·have hd1:decide ((1000000000:Int) < x)=false:=Aa (by omega)
    have hd2:decide (x < -1000000000)=false:=Aa (by omega)
    have hft:Hid ((xs.take (t+1)).all Bi=true):=hZ (by
     have h1:Bi x=true:=Ac hfx
     rw [hsn,FY,hfit.out]; simp [h1])
    have hsn2:=hZ hsn
    clear hmem hsn
    go_wp2_with fail
    refine (ES x (by omega) (by omega) _).mono ?_
    rintro e w3 ⟨rfl,hf3⟩
    go_wp2_with (at_builtin; refine At _ rfl _ _ 44 (by rfl) _ 3 _ _ 1 8 Tryz.underlying44 hi hz0 hz1 hz2 rfl (by decide) _ t _ (by rfl) (Au (Ba hown hf3) _) ⟨w3.heap.size,0,none⟩ 1 1 [iv x] (by rfl) rfl (AF _ _ _ _ (by simp)) (by simp [Value.oneCell']) (by decide) (by unfold maxLen; omega) (by omega) (by have:=(hf.trans hf3).size; simp; omega) (w3.heap.size+1) (by simp) ?_; intro gA capA wA hownA hgrowA hatA hltA)
    go_wp2_with fail
    go_roundg (gk - 1)
    case measure=>omega
    case rel=>exact ⟨t+1,by go_num,by omega,((hf.trans hf3).alloc _).grown hgrowA (fun k e=>(hown.lt k e).1),by rw [hsn2.out,Aw]; exact hownA,by simp,hft.out⟩
   ·have hbad:Hid (xs.all Bi=false):=hZ (CV.2 ⟨x,hmem,by unfold Bi; rw [Aa hfx]; simp⟩)
    clear hmem hsn
    by_cases hgt:(1000000000:Int) < x
    ·have d1:decide ((1000000000:Int) < x)=true:=Ac hgt
     clear hfx
     go_wp2_with fail
     refine (ES x (by omega) (by omega) _).mono ?_
     rintro e w3 ⟨rfl,hf3⟩
     go_wp2_with fail
     go_ret2
     exact ⟨fun h=>(by rw [hbad.out] at h; cases h),fun _=>⟨rfl,hf.trans hf3⟩⟩
    ·have d1:decide ((1000000000:Int) < x)=false:=Aa hgt
     have d2:decide (x < (-1000000000:Int))=true:=Ac (by omega)
     clear hfx
     go_wp2_with fail
     refine (ES x (by omega) (by omega) _).mono ?_
     rintro e w3 ⟨rfl,hf3⟩
     go_wp2_with fail
     go_ret2
     exact ⟨fun h=>(by rw [hbad.out] at h; cases h),fun _=>⟨rfl,hf.trans hf3⟩⟩
  ·have hd:decide (t < n)=false:=Aa ht
   obtain rfl:t=n:=by omega
   obtain ⟨gb7,cp7,rfl⟩:=Jd hown hnn
   rw [Ak (by rw [← hn.out]; omega)] at hown hfit
   clear hnn
   go_wp2_with fail
   go_ret2
   exact ⟨fun _=>⟨gb7,cp7,by rw [← hn.out]; rfl,hf,by rw [← hn.out]; exact hown⟩,fun h=>(by rw [hfit.out] at h; cases h)⟩
theorem Mr (xs:List Int) (b o c:Nat) (w:World) (hx:El w sv (some ⟨b,o,none⟩) xs) (hl:xs.length≤1000000) (hb:∀ x,x ∈ xs→-9223372036854775808≤x∧x≤9223372036854775807) :
 Calls Tryz.prog 127 #[.slice (some ⟨b,o,none⟩) xs.length c] w (Va w xs):=by
 obtain ⟨i0,hi,hz0,hz1,hz2⟩:=AQ DQ
 obtain ⟨n,hn⟩:∃ n,n=xs.length:=⟨_,rfl⟩
 rw [← hn] at hl
 replace hn:=hZ hn
 replace hx:=hZ hx
 replace hb:=hZ hb
 go_enter Tryz.func127,Tryz.ntmps127
 rw [← hn.out]
 go_wp2_with (at_make; refine Is _ rfl _ _ 44 rfl w.heap.size 3 i0 _ 1 Tryz.underlying44 hi hz0 hz1 _ _ _ n (by rfl) (by rfl) (by omega) (by rw [hz2]; omega) (by unfold maxLen; omega) (Ag _) ?_; intro w2 hown2 hgr2)
 have hf2:Fr w w2:=(Fr.refl w).grown hgr2 (fun k e=>by cases e)
 replace hown2:=hZ hown2
 clear hgr2
 go_loopg [4,14] n (fun k s4 s14 wr=>∃ t:Nat,s14=.int .i64 t∧t+k=n∧Fr w wr∧wr.ownsRow w.heap.size 3 1 s4 t ((xs.take t).map iv)∧s4≠.slice none 0 0∧Hid ((xs.take t).all Bi=true))
 case atStart=>exact ⟨0,rfl,by omega,hf2,by simpa using hown2.out,by simp,rfl⟩
 case round=>
  obtain ⟨t,rfl,htk,hf,hown,hnn,hfit⟩:=hrel
  by_cases ht:t < n
  ·obtain ⟨b2,o2,x,hae,hbl2,hxt,hcell2⟩:=(hx.out.fr hf).at (i:=t) (by rw [← hn.out]; exact ht)
   injection hae with hae; injection hae with hb2 ho2
   subst hb2; subst ho2
   have hmem:=Ae hxt
   obtain ⟨x1,x2⟩:=hb.out x hmem
   have hsn:=Bx hxt
   replace hxt:=hZ hxt
   by_cases hfx:-1000000000≤x∧x≤1000000000
   ·have hd1:decide ((1000000000:Int) < x)=false:=Aa (by omega)
    have hd2:decide (x < -1000000000)=false:=Aa (by omega)
    have hft:Hid ((xs.take (t+1)).all Bi=true):=hZ (by
     have h1:Bi x=true:=Ac hfx
     rw [hsn,FY,hfit.out]; simp [h1])
    have hsn2:=hZ hsn
    clear hmem hsn
    go_wp2_with fail
    refine (ES x (by omega) (by omega) _).mono ?_
    rintro e w3 ⟨rfl,hf3⟩
    go_wp2_with (at_builtin; refine At _ rfl _ _ 44 (by rfl) _ 3 _ _ 1 8 Tryz.underlying44 hi hz0 hz1 hz2 rfl (by decide) _ t _ (by rfl) (Au (Ba hown hf3) _) ⟨w3.heap.size,0,none⟩ 1 1 [iv x] (by rfl) rfl (AF _ _ _ _ (by simp)) (by simp [Value.oneCell']) (by decide) (by unfold maxLen; omega) (by omega) (by have:=(hf.trans hf3).size; simp; omega) (w3.heap.size+1) (by simp) ?_; intro gA capA wA hownA hgrowA hatA hltA)
    go_wp2_with fail
    go_roundg (gk - 1)
    case measure=>omega
    case rel=>exact ⟨t+1,by go_num,by omega,((hf.trans hf3).alloc _).grown hgrowA (fun k e=>(hown.lt k e).1),by rw [hsn2.out,Aw]; exact hownA,by simp,hft.out⟩
   ·have hbad:Hid (xs.all Bi=false):=hZ (CV.2 ⟨x,hmem,by unfold Bi; rw [Aa hfx]; simp⟩)
    clear hmem hsn
    by_cases hgt:(1000000000:Int) < x
    ·have d1:decide ((1000000000:Int) < x)=true:=Ac hgt
     clear hfx
     go_wp2_with fail
     refine (ES x (by omega) (by omega) _).mono ?_
     rintro e w3 ⟨rfl,hf3⟩
     go_wp2_with fail
     go_ret2
     exact ⟨fun h=>(by rw [hbad.out] at h; cases h),fun _=>⟨rfl,hf.trans hf3⟩⟩
    ·have d1:decide ((1000000000:Int) < x)=false:=Aa hgt
     have d2:decide (x < (-1000000000:Int))=true:=Ac (by omega)
     clear hfx
     go_wp2_with fail
     refine (ES x (by omega) (by omega) _).mono ?_
     rintro e w3 ⟨rfl,hf3⟩
     go_wp2_with fail
     go_ret2
     exact ⟨fun h=>(by rw [hbad.out] at h; cases h),fun _=>⟨rfl,hf.trans hf3⟩⟩
  ·have hd:decide (t < n)=false:=Aa ht
   obtain rfl:t=n:=by omega
   obtain ⟨gb7,cp7,rfl⟩:=Jd hown hnn
   rw [Ak (by rw [← hn.out]; omega)] at hown hfit
   clear hnn
   go_wp2_with fail
   go_ret2
   exact ⟨fun _=>⟨gb7,cp7,by rw [← hn.out]; rfl,hf,by rw [← hn.out]; exact hown⟩,fun h=>(by rw [hfit.out] at h; cases h)⟩
end Go.Proofs.YtcglmebcfeoedaaGreatDoor
