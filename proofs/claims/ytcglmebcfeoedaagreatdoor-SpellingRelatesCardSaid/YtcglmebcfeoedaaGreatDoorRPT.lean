/- Contracts and laws: RPT. -/
import Derived.Test.YtcglmebcfeoedaaGreatDoorRJ
import Derived.Test.YtcglmebcfeoedaaGreatDoorRPR

set_option maxRecDepth 100000
set_option maxHeartbeats 2000000
namespace Go.Proofs.YtcglmebcfeoedaaGreatDoor
open Go.RowKit Go.Lib
attribute [local go_sem ↓] Go.wp_at_zero Go.wp_at_succ
theorem ContainsFunc_hx (xs:List Int) (a:Option Addr) (cap:Nat) (g:Nat) (lb:Array Value) (p:Int→Bool) (w:World)
 (eg:∀ args w,(callFunc g args).run Tryz.prog w=.ok (.enter g args) w) (hx:El w sv a xs) (hl:xs.length≤1000000000) (hp:Pred w g lb sv p xs) :
 Calls Tryz.prog 119 #[.slice a xs.length cap,.func (.func g) #[] lb] w fun e w'=>e=.returned (.bool (xs.any p))∧Fr w w':=by
 rw [← idx_any]
 have hc:=IndexFunc_hx xs a cap g lb p w eg hx hl hp
 clear hp
 go_enter Tryz.func119,Tryz.ntmps119
 go_wp2_with fail
 refine hc.mono ?_
 rintro e w' ⟨rfl,hf⟩
 go_wp2_with fail
 go_ret
 exact ⟨rfl,hf⟩
theorem hcontains1_pred (w:World) (xs:List Int):Pred w 120 #[] sv (fun x=>x != 0) xs:=fun x W _ _=>by
 show Calls Tryz.prog 120 #[.string (tx x)] W fun e W'=>e=.returned (.bool (x != 0))∧Fr W W'
 have hb:=tx_beq0 x
 have e:(x != 0)=!(decide (x=0)):=by by_cases h:x=0 <;> simp [h]
 rw [e,← hb]
 clear e hb
 go_enter Tryz.func120,Tryz.ntmps120
 go_wp2_with fail
 go_ret
 exact ⟨rfl,Fr.refl _⟩
def zeroB (xs:List Int):Bool:=!xs.any fun x=>x != 0
theorem hcontains_any (s:List Int×List Int) (a xa:Option Addr) (cap cx n N:Nat) (w:World) (hsl:s.1.length≤1000000)
 (hred:∀ W,Fr w W→Calls Tryz.prog 118 #[.slice a N cap,.slice xa n cx] W (HredRet W s)) :
 Calls Tryz.prog 51 #[.slice a N cap,.slice xa n cx] w fun e w'=>∃ v,e=.returned (.tuple #[v,.bool (zeroB s.1)])∧Fr w w':=by
 have eg:∀ args w,(callFunc 120 args).run Tryz.prog w=.ok (.enter 120 args) w:=enters_of Tryz.func120 (by kernel_rfl) rfl
 have hc:=fun (W:World) (b:Option Addr) (c:Nat) (h:El W sv b s.1)=>ContainsFunc_hx s.1 b c 120 #[] _ W eg h (by omega) (hcontains1_pred W s.1)
 have h1:=hZ (hred w (Fr.refl _))
 replace hc:=hZ hc
 clear hred eg
 go_enter Tryz.func51,Tryz.ntmps51
 go_wp2_with fail
 refine h1.out.mono ?_
 rintro e w1 ⟨b,c,v,rfl,hO,-,hf1⟩
 have h2:=hZ (hc.out w1 _ c hO.el)
 clear hO hc h1
 go_wp2_with fail
 refine h2.out.mono ?_
 rintro e w2 ⟨rfl,hf2⟩
 go_wp2_with fail
 go_ret2
 exact ⟨v,rfl,hf1.trans hf2⟩
theorem HContains_ok (form:List (List Int)) (xs:List Int) (s:List Int×List Int) (a xa:Option Addr) (cap cx n:Nat) (w:World) (hG:G w) (hm:MatIs w a form) (hT:TabOk n form) (hcap:form.length≤cap) (hok:formOk form=true) (hn1:1≤n) (hl1:0 < form.length)
 (hx:El w iv xa xs) (hxl:xs.length=n) (hxb:∀ x,x ∈ xs→fitB x=true) (hred:redT form xs form.length=some s) :
 Calls Tryz.prog 15 #[.slice a form.length cap,.slice xa n cx] w fun e w'=>e=.returned (.tuple #[.bool (zeroB s.1),.int .i64 0])∧Fr w w':=by
 have hsl:=redT_len _ s hred
 have fs:∀ x,fitB x=true→Sm x:=fun x h=>by unfold fitB at h; have h:=of_decide_eq_true h; exact ⟨by omega,by omega⟩
 have h1:=hopen_any form xs a xa cap cx n w hm hT hcap hok hl1 hx (by have:=hT.2.1; omega)
 have hoe:openE n xs=0:=by
  unfold openE
  have:rowE xs=0:=rowE_ok (by have:=hT.2.1; omega) (List.any_eq_false.2 (fun x hx=>by rw [hxb x hx]; simp))
  rw [if_neg (by rw [this]; simp),if_neg (by rw [hxl]; simp)]
 rw [hoe,hxl] at h1
 have h2:=fun W (hW:Fr w W)=>hcontains_any s a xa cap cx n form.length W (by have:=hT.2.1; omega) (fun W' hW'=>hreduce_any form xs s a xa cap cx n W' (hG.fr (hW.trans hW')) (hm.fr (hW.trans hW')) hT.2.2.1 hn1 (by have:=hT.2.1; omega) (by have:=hT.1; omega) (fun r hr x hx=>fs x (hT.2.2.2 r hr x hx)) (hx.fr (hW.trans hW')) hxl (fun x hx=>fs x (hxb x hx)) hred)
 clear hm hT hok hx hxb hG hoe hred hsl fs
 generalize form.length=N at *
 replace h1:=hZ h1
 replace h2:=hZ h2
 replace hxl:=hZ hxl
 go_enter Tryz.func15,Tryz.ntmps15
 go_wp2_with fail
 refine h1.out.mono ?_
 rintro e w1 ⟨rfl,hf1⟩
 go_wp2_with fail
 refine (h2.out _ hf1).mono ?_
 rintro e w2 ⟨v,rfl,hf2⟩
 go_wp2_with fail
 go_ret2
 exact ⟨rfl,hf1.trans hf2⟩
def qT (p:Nat→Nat) (K:List (List Int)) (x:Nat→Int):Nat→(Nat→Int)×(Nat→Int)
 | 0=>(x,fun _=>0)
 | i+1=>(fun k=>(qT p K x i).1 k - ((qT p K x i).1 (p i)).fdiv (ent K i (p i)) * ent K i k,fun j=>if j=i then ((qT p K x i).1 (p i)).fdiv (ent K i (p i)) else (qT p K x i).2 j)
theorem qT_sum {p:Nat→Nat} {K:List (List Int)} {x:Nat→Int}:∀ i k,(qT p K x i).1 k=x k - dotZ (qT p K x i).2 (fun j=>ent K j k) i
 | 0,k=>by show x k=x k - 0; omega
 | i+1,k=>by
   have e:dotZ (qT p K x (i+1)).2 (fun j=>ent K j k) i=dotZ (qT p K x i).2 (fun j=>ent K j k) i:=dotZ_cg i (fun j hj=>by show (if j=i then _ else _)=_; rw [if_neg (by omega)]) (fun _ _=>rfl)
   have e2:(qT p K x (i+1)).2 i=((qT p K x i).1 (p i)).fdiv (ent K i (p i)):=by show (if i=i then _ else _)=_; rw [if_pos rfl]
   show (qT p K x i).1 k - ((qT p K x i).1 (p i)).fdiv (ent K i (p i)) * ent K i k=x k - (dotZ (qT p K x (i+1)).2 (fun j=>ent K j k) i+(qT p K x (i+1)).2 i * ent K i k)
   rw [e,e2,qT_sum i k]; omega
theorem qT_back {p:Nat→Nat} {c t:Nat} {K:List (List Int)} (he:Ech p c t K) {x b:Nat→Int} (hx:∀ k,k < c→x k=dotZ b (fun j=>ent K j k) t):∀ i,i≤t→∀ k,k < c→(qT p K x i).1 k=dotZ b (fun j=>ent K j k) t - dotZ b (fun j=>ent K j k) i
 | 0,_,k,hk=>by show x k=_ - 0; rw [hx k hk]; omega
 | i+1,hi,k,hk=>by
   have ih:=qT_back he hx i (by omega)
   have hpi:=he.lt i (by omega)
   have e1:∀ n,i < n→n≤t→dotZ b (fun j=>ent K j (p i)) n=dotZ b (fun j=>ent K j (p i)) i+b i * ent K i (p i):=fun n=>by
    induction n with
    | zero=>intro h; omega
    | succ n ihn=>
      intro h1 h2
      show dotZ b (fun j=>ent K j (p i)) n+b n * ent K n (p i)=_
      by_cases e:n=i
      ·rw [e]
      ·rw [ihn (by omega) (by omega),he.low n (by omega) (p i) (he.inc i n (by omega) (by omega)),Int.mul_zero,Int.add_zero]
   have hq:((qT p K x i).1 (p i)).fdiv (ent K i (p i))=b i:=by
    rw [ih (p i) hpi,e1 t (by omega) (Nat.le_refl _)]
    have h0:=he.pos i (by omega)
    rw [show dotZ b (fun j=>ent K j (p i)) i+b i * ent K i (p i) - dotZ b (fun j=>ent K j (p i)) i=ent K i (p i) * b i by rw [Int.mul_comm]; omega]
    exact Int.mul_fdiv_cancel_left _ (by omega)
   show (qT p K x i).1 k - ((qT p K x i).1 (p i)).fdiv (ent K i (p i)) * ent K i k=_ - (dotZ b (fun j=>ent K j k) i+b i * ent K i k)
   rw [hq,ih k hk]; omega
def gro (B X:Nat):Nat→Nat
 | 0=>X
 | i+1=>gro B X i+gro B X i * B
theorem redT_ech {p:Nat→Nat} {n:Nat} {K:List (List Int)} (hr:Rect n K) (he:Ech p n K.length K) {B X:Nat} (hB:∀ i k,(ent K i k).natAbs≤B) (hB1:B < 100000000) {x:List Int} (hl:x.length=n) (hx:∀ k:Nat,((x[k]?).getD 0).natAbs≤X) (hg:∀ i,i < K.length→gro B X i < 100000000) :
 ∀ i,i≤K.length→∃ s,redT K x i=some s∧(∀ k:Nat,(s.1[k]?).getD 0=(qT p K (fun k=>(x[k]?).getD 0) i).1 k)∧∀ k:Nat,((s.1[k]?).getD 0).natAbs≤gro B X i
 | 0,_=>⟨(x,[]),rfl,fun _=>rfl,hx⟩
 | i+1,hi=>by
   obtain ⟨s,h1,h2,h3⟩:=redT_ech hr he hB hB1 hl hx hg i (by omega)
   have hp:=he.piv (show i < K.length by omega)
   have hs1:=(redT_len i s h1).1
   have hgi:=hg i (by omega)
   have h0:=he.pos i (by omega)
   have hq:(((s.1[p i]?).getD 0).fdiv (ent K i (p i))).natAbs≤gro B X i:=Nat.le_trans (fdiv_le (by omega)) (h3 (p i))
   have hrl:=rowAt_len hr (show i < K.length by omega)
   obtain ⟨y,hy⟩:=takeS_some (q:=((s.1[p i]?).getD 0).fdiv (ent K i (p i))) (xs:=s.1) (ys:=rowAt K i) (by rw [hrl,hs1,hl]) (fun _ k=>okT_of (by omega) (by have:=hB i k; show (ent K i k).natAbs < _; omega) (by have:=h3 k; omega))
   have hget:=takeS_get hy (by rw [hrl,hs1,hl])
   refine ⟨(y,s.2 ++ [((s.1[p i]?).getD 0).fdiv (ent K i (p i))]), ?_,fun k=>?_,fun k=>?_⟩
   ·show (redT K x i).bind (redStep (rowAt K i))=_
    rw [h1]
    show redStep (rowAt K i) s=_
    unfold redStep
    rw [hp,Int.toNat_natCast]
    have c1:smB ((s.1[p i]?).getD 0)=true:=smB_of (by have:=h3 (p i); omega)
    have c2:smB (((rowAt K i)[p i]?).getD 0)=true:=smB_of (by have:=hB i (p i); show (ent K i (p i)).natAbs < _; omega)
    have c3:(((rowAt K i)[p i]?).getD 0 != 0)=true:=by
     have h9:ent K i (p i)≠0:=by omega
     exact bne_iff_ne.2 h9
    rw [c1,c2,c3]
    show (takeS (((s.1[p i]?).getD 0).fdiv (ent K i (p i))) s.1 (rowAt K i)).map _=_
    rw [hy]; rfl
   ·rw [hget k,h2,h2]; rfl
   ·rw [hget k]
    exact abs_step (h3 k) hq (hB i k)
theorem zeroB_iff {xs:List Int}:zeroB xs=true ↔ ∀ k:Nat,(xs[k]?).getD 0=0:=by
 unfold zeroB
 rw [Bool.not_eq_true',List.any_eq_false]
 constructor
 ·intro h k
  cases e:xs[k]? with
  | none=>rfl
  | some y=>have:=h y (List.mem_of_getElem? e); simpa using this
 ·intro h y hy
  obtain ⟨k,hk⟩:=List.getElem?_of_mem hy
  have:=h k
  rw [hk] at this
  have:y=0:=this
  simp [this]
theorem ker_has {m K:List (List Int)} {d:Nat} {p:Nat→Nat} (h:KerIs m d K p) (hm3:m.length≤3) {x:List Int} (hl:x.length=m.length) (hx:∀ k:Nat,((x[k]?).getD 0).natAbs≤256) :
 ∃ s,redT K x K.length=some s∧(zeroB s.1=true ↔ ∀ k,k < d→dotZ (fun j=>(x[j]?).getD 0) (fun j=>ent m j k) m.length=0):=by
 have hle:=h.le
 have key:∃ s,redT K x K.length=some s∧∀ k:Nat,(s.1[k]?).getD 0=(qT p K (fun k=>(x[k]?).getD 0) K.length).1 k:=by
  have hK0:K.length=0∨K.length=1∨K.length=2∨K.length=3:=by omega
  rcases h.few with hf | hf
  ·obtain ⟨s,a,b,-⟩:=redT_ech h.rect h.ech (B:=4374) (X:=256) h.bd (by omega) hl hx (fun i hi=>by
    have:i=0∨i=1:=by omega
    rcases this with rfl | rfl
    ·show 256 < _; omega
    ·show 256+256 * 4374 < _; omega) K.length (Nat.le_refl _)
   exact ⟨s,a,b⟩
  ·obtain ⟨s,a,b,-⟩:=redT_ech h.rect h.ech (B:=1) (X:=256) hf (by omega) hl hx (fun i hi=>by
    have:i=0∨i=1∨i=2:=by omega
    rcases this with rfl | rfl | rfl
    ·show 256 < _; omega
    ·show 256+256 * 1 < _; omega
    ·show 256+256 * 1+(256+256 * 1) * 1 < _; omega) K.length (Nat.le_refl _)
   exact ⟨s,a,b⟩
 obtain ⟨s,h1,h2⟩:=key
 refine ⟨s,h1, ?_⟩
 rw [zeroB_iff]
 constructor
 ·intro h9 k hk
  obtain ⟨q,hq⟩:∃ q,q=(qT p K (fun k=>(x[k]?).getD 0) K.length).2:=⟨_,rfl⟩
  have hxq:∀ j:Nat,(x[j]?).getD 0=dotZ q (fun i=>ent K i j) K.length:=fun j=>by
   have a:=h9 j
   rw [h2 j,qT_sum] at a
   rw [hq]
   omega
  rw [dotZ_cg (f':=fun j=>dotZ q (fun i=>ent K i j) K.length) (g':=fun j=>ent m j k) m.length (fun j _=>hxq j) (fun _ _=>rfl)]
  have lin:∀ t,t≤K.length→dotZ (fun j=>dotZ q (fun i=>ent K i j) t) (fun j=>ent m j k) m.length=0:=fun t=>by
   induction t with
   | zero=>
     intro _
     have:=dotZ_one (f:=fun _:Nat=>(0:Int)) (g:=fun j=>ent m j k) (j:=m.length) (n:=m.length) (fun j _ _=>Int.zero_mul _)
     rw [if_neg (by omega)] at this
     exact this
   | succ t ih=>
     intro ht
     have a:=ih (by omega)
     have b:=h.zero t (by omega) k hk
     have add:∀ n,dotZ (fun j=>dotZ q (fun i=>ent K i j) (t+1)) (fun j=>ent m j k) n=dotZ (fun j=>dotZ q (fun i=>ent K i j) t) (fun j=>ent m j k) n+q t * dotZ (fun j=>ent K t j) (fun j=>ent m j k) n:=fun n=>by
      induction n with
      | zero=>show (0:Int)=0+q t * 0; omega
      | succ n ihn=>
        show dotZ (fun j=>dotZ q (fun i=>ent K i j) (t+1)) (fun j=>ent m j k) n+(dotZ q (fun i=>ent K i n) t+q t * ent K t n) * ent m n k=dotZ (fun j=>dotZ q (fun i=>ent K i j) t) (fun j=>ent m j k) n+dotZ q (fun i=>ent K i n) t * ent m n k+q t * (dotZ (fun j=>ent K t j) (fun j=>ent m j k) n+ent K t n * ent m n k)
        rw [ihn]; grind
     rw [add,a,b]; omega
  exact lin K.length (Nat.le_refl _)
 ·intro h9 k
  obtain ⟨b,hb⟩:=h.all (fun j=>(x[j]?).getD 0) h9
  by_cases hk:k < m.length
  ·rw [h2 k,qT_back h.ech (b:=b) hb K.length (Nat.le_refl _) k hk]; omega
  ·have:=(redT_len _ s h1).1
   rw [List.getElem?_eq_none (by omega)]; rfl
end Go.Proofs.YtcglmebcfeoedaaGreatDoor
