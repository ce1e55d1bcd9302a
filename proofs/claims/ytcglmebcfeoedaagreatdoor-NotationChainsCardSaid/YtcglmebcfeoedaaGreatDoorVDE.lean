/- Contracts and laws: VDE. -/
import Derived.Test.YtcglmebcfeoedaaGreatDoorVDB
import Derived.Laws.OwnMore
import Derived.Lib.AppendZerosOnto
import Derived.Test.YtcglmebcfeoedaaGreatDoorVDC
import Derived.Test.YtcglmebcfeoedaaGreatDoorVD
import Derived.Test.YtcglmebcfeoedaaGreatDoorVRB
import Derived.Deep.Cut

set_option maxRecDepth 100000
set_option maxHeartbeats 8000000
namespace Go.Proofs.YtcglmebcfeoedaaGreatDoor
open Go.RowKit Go.Lib
theorem Es (z:Value) (h:z.cells=#[z]) (k:Nat):(Builtin.zeroCells z.cells k).toList=List.replicate k z:=by
 rw [h]
 refine Cm fun i=>?_
 by_cases hi:i < k
 ·simp [Builtin.zeroCells,hi,Nat.mod_one]
 ·simp [Builtin.zeroCells,hi]
theorem GD {P:Program} (w:World) (base:Nat) (t tn ty e:TypeId) (i:TypeInfo) (z:Value) (bytes:Nat) (kq kn:IntKind) (ht:P.underlying t=some (.slice e)) (htn:P.underlying tn=some (.int kn)) (hi:P.info? e=some i) (hz:i.zero=some z) (hsize:i.size=1) (hby:i.bytes=bytes) (hzc:z.cells=#[z]) (hz1:z.oneCell'=true)
 (g n cap k:Nat) (xs:List Value) (hown:w.ownsRow base e 1 (.slice (some ⟨g,0,none⟩) n cap) n xs) (h63:n+k≤maxLen) (hbytes:(n+k) * bytes≤140737488355328) (hbase:base≤w.heap.size) :
 ∃ g' cap' w',(Builtin.append_ #[t,tn] ty #[.slice (some ⟨g,0,none⟩) n cap,.int kq k]).run P w=.ok (.slice (some ⟨g',0,none⟩) (n+k) cap') w'∧w'.ownsRow base e 1 (.slice (some ⟨g',0,none⟩) (n+k) cap') (n+k) (xs ++ List.replicate k z)∧w.grownBy w' (some g)∧(g'=g∨w.heap.size≤g'):=by
 have hsmall:n+k≤9223372036854775807:=by simp only [maxLen] at h63; omega
 have hxl:xs.length=n:=by have:=hown.1; omega
 have hlen:(xs ++ List.replicate k z).length=(n+k) * 1:=by rw [Ar,AH,hxl,Fi]
 have hself:w.grownBy w (some g):=⟨rfl,rfl,rfl,Ag _,fun _ _ _=>rfl⟩
 have hw:IntKind.i64.wrap (k:Int)=k:=by rw [IntKind.wrap_i64]; omega
 have hneg:¬ ((k:Int) < 0):=by omega
 have h48i:¬ (281474976710656 < (k:Int) * (i.bytes:Int)):=by
  rw [← AU,hby]
  have:k * bytes≤(n+k) * bytes:=Be _ (by omega)
  omega
 rcases hown.2 with ⟨e0,_⟩ | ⟨g',cap',cur,hv,hbg,hg,hnc,hcm,hcs,htake⟩
 ·cases e0
 ·injection hv with e1 e2 e3
  injection e1 with e1
  injection e1 with e1
  subst e1; subst e3
  by_cases hroom:n+k≤cap
  ·by_cases hk0:k=0
   ·subst hk0
    refine ⟨g,cap,w, ?_,by simpa using hown,hself,.inl rfl⟩
    have hw0:IntKind.i64.wrap 0=0:=by decide
    simp [Builtin.append_,run_underlying ht,run_underlying htn,sizeOf,typeInfo,hi,asInt,asIntOf,hnc,storeCells,hw0]
   ·have hfit:n+k≤cur.size:=by omega
    have hns:¬ (k * i.size=0):=by rw [hsize]; omega
    have hst:=run_storeCells_at P g n e (Builtin.zeroCells z.cells k).toList 0 cur w hg (by rw [Es z hzc,AH]; omega) (fun v hv=>by rw [Es z hzc] at hv; rw [CI hv]; exact hz1)
    rw [C9,Es z hzc,AH] at hst
    have hadd:(⟨g,0,none⟩:Addr).add (n * i.size)=⟨g,n,none⟩:=by rw [hsize,Fi]; unfold Addr.add; split <;> simp_all
    have hzl:=Es z hzc k
    refine ⟨g,cap,w.setRow g (cur.toList.take n ++ List.replicate k z ++ cur.toList.drop (n+k)).toArray, ?_,⟨hlen,.inr ⟨g,cap,_,rfl,hbg,Zr w g cur _ e _ hg,hroom,hcm, ?_, ?_⟩⟩,⟨rfl,rfl,rfl,by simp,fun q _ hq=>setRow_other w g q _ (fun e=>hq (by simp [e]))⟩,.inl rfl⟩
    ·simp [Builtin.append_,run_underlying ht,run_underlying htn,sizeOf,typeInfo,zeroValue,hi,hz,asInt,asIntOf,hw,hneg,hns,h48i,hroom,hadd,hzl,hst]
    ·simp only [J9,Ar,AG,B3,AH,ZF]
     omega
    ·have h1:cur.toList.take n=xs:=by rw [← htake,Fi]
     rw [h1,← hlen]
     exact X1
  ·have holds:∀ j u,xs[j]?=some u→w.cell? ((⟨g,0,none⟩:Addr).add j)=some u:=hown.cells (g:=g) rfl
   have hf:=run_firstCells_some (P:=P) w.drew i.size n ⟨g,0,none⟩ n cap xs (by rw [hsize]; omega) (fun j u hu=>by have:=holds j u hu; simpa using this)
   have hge:=grownCap_ge w (n+k) cap e
   have hcm2:grownCap w (n+k) cap e≤maxLen:=grownCap_le_maxLen w (n+k) cap e h63
   have hr:=run_append_grow_zeros (P:=P) w t tn ty e i z kq kn ht htn hi hz (some ⟨g,0,none⟩) n cap xs hf k (by omega) (by omega) (by omega) (by omega) (by
    have:k * i.bytes≤(n+k) * bytes:=by rw [hby]; exact Be _ (by omega)
    omega) (growslice_fits (by omega) (by rw [hby]; exact hbytes))
   refine ⟨w.heap.size,_,_,hr,⟨hlen,.inr ⟨w.heap.size,_,_,rfl,hbase,CG w.drew _,hge,hcm2, ?_, ?_⟩⟩,⟨rfl,rfl,rfl,by simp,fun q hq _=>heap_alloc_old w.drew _ hq⟩,.inr (Ag _)⟩
   ·simp only [Tg,J9,XV,hxl,hzc]
    simp; omega
   ·simp only [IM,BF]
    rw [← BF,Es z hzc,← hlen]
    exact X1
attribute [local go_sem ↓] AA AB
theorem Vh (u v:Nat) (h:¬ ((tx (u:Int)).size≤18∧(tx (v:Int)).size≤18)) (hu:(tx (u:Int)).size≤1000000000) (hv:(tx (v:Int)).size≤1000000000) (w:World) :
 Calls Tryz.prog 202 #[.string (tx (u:Int)),.string (tx (v:Int))] w fun e w'=>e=.returned (.tuple #[.int .u64 0,.int .u64 0,.bool false])∧Fr w w':=by
 by_cases h1:(tx (u:Int)).size≤18
 ·have d1:decide ((18:Int) < ((tx (u:Int)).size:Int))=false:=Aa (by omega)
  have d2:decide ((18:Int) < ((tx (v:Int)).size:Int))=true:=Ac (by omega)
  go_enter Tryz.func202,Tryz.ntmps202
  go_wp2_with fail
  go_ret3
  exact ⟨rfl,Fr.refl _⟩
 ·have d1:decide ((18:Int) < ((tx (u:Int)).size:Int))=true:=Ac (by omega)
  go_enter Tryz.func202,Tryz.ntmps202
  go_wp2_with fail
  go_ret3
  exact ⟨rfl,Fr.refl _⟩
theorem Ng {u:Nat} (h:(tx (u:Int)).size≤18):u < 1000000000000000000:=by
 have:=E5 (n:=(u:Int)) (by rw [AC]; exact h)
 unfold RO at this
 omega
theorem Ji (u v:Nat) (hu:(tx (u:Int)).size≤1000000000) (hv:(tx (v:Int)).size≤1000000000):∃ (x y:Nat) (b:Bool),(b=true→x=u∧y=v∧u < 1000000000000000000∧v < 1000000000000000000)∧(b=false→¬ ((tx (u:Int)).size≤18∧(tx (v:Int)).size≤18))∧(b=true∨b=false) ∧
 Hid (∀ W,Calls Tryz.prog 202 #[.string (tx (u:Int)),.string (tx (v:Int))] W fun e w'=>e=.returned (.tuple #[.int .u64 x,.int .u64 y,.bool b])∧Fr W w'):=by
 by_cases h:(tx (u:Int)).size≤18∧(tx (v:Int)).size≤18
 ·exact ⟨u,v,true,fun _=>⟨rfl,rfl,Ng h.1,Ng h.2⟩,fun e=>(by cases e),.inl rfl,fun W=>WY u v h.1 h.2 (Ng h.1) (Ng h.2) W⟩
 ·exact ⟨0,0,false,fun e=>(by cases e),fun _=>h,.inr rfl,fun W=>Vh u v h hu hv W⟩
theorem E6 {u v:Nat} (h:u≤v):(tx (u:Int)).size≤(tx (v:Int)).size:=by
 have e:=fun x:Nat=>show (tx (x:Int)).size=(decDigits x).length by rw [Ju,BS (by omega),AW,EK]
 rw [e,e]
 have h1:=(CB (decDigits v) 0 (B2 _)).2
 rw [B1,Az,Ex] at h1
 refine Lb _ _ ?_ (BI h h1)
 cases e9:decDigits v with
 | nil=>exact absurd e9 (GJ v)
 | cons=>simp
theorem Ed {u k:Nat} (h:(tx (u:Int)).size≤9 * k):(digs u).length≤k:=by
 have h0:(tx (u:Int)).size=(decDigits u).length:=by rw [Ju,BS (by omega),AW,EK]
 rw [h0] at h
 have h1:=(CB (decDigits u) 0 (B2 _)).2
 rw [B1,Az,Ex] at h1
 refine Ev k u (An h1 ?_)
 rw [p9]
 exact BW (by decide) h
theorem Yz (u v:Nat) (hu:(tx (u:Int)).size≤400000) (hv:(tx (v:Int)).size≤400000) (huv:(digs (u * v)).length≤100000) (w:World) (hG:G w) :
 Calls Tryz.prog 143 #[.string (tx (u:Int)),.string (tx (v:Int))] w fun e w'=>e=.returned (.string (tx ((u * v:Nat):Int)))∧Fr w w':=by
 by_cases hs:(tx (u:Int)).size+(tx (v:Int)).size≤18
 ·have h1:=Ng (u:=u) (by omega)
  have h2:=Ng (u:=v) (by omega)
  have h3:=Nh (a:=(u:Int)) (b:=(v:Int)) (by rw [AC,AC]; exact hs)
  exact Y0 u v hs h1 h2 (by have:((u * v:Nat):Int)≤9223372036854775807:=by rw [AU]; exact h3.2
                            omega) w hG
 ·have du:=Ed (u:=u) (k:=100000) (by omega)
  have dv:=Ed (u:=v) (k:=100000) (by omega)
  have hn:val (digs u) * val (digs v)=((u * v:Nat):Int):=by rw [BZ,BZ,AU]
  have hc1:=hZ (fun W (_:Fr w W)=>PG u W (by omega))
  have hc2:=hZ (fun W (_:Fr w W)=>PG v W (by omega))
  have ht:=hZ (fun W a b ca cb (hx:El W uv a (digs u)) (hy:El W uv b (digs v))=>Vc (digs u) (digs v) (u * v) hn a b ca cb W hx hy (BE u) (BE v) (by omega) (by omega))
  have hx:=hZ (fun W a c (he:El W uv a (digs (u * v)))=>PE (u * v) a c W he huv)
  obtain ⟨lu,hlu⟩:∃ lu,lu=(digs u).length:=⟨_,rfl⟩
  obtain ⟨lv,hlv⟩:∃ lv,lv=(digs v).length:=⟨_,rfl⟩
  obtain ⟨lm,hlm⟩:∃ lm,lm=(digs (u * v)).length:=⟨_,rfl⟩
  rw [← hlu,← hlv] at ht
  rw [← hlm] at hx
  replace hlu:=hZ hlu
  replace hlv:=hZ hlv
  replace hlm:=hZ hlm
  have ks:IntKind.i64.wrap (((tx (u:Int)).size:Int)+((tx (v:Int)).size:Int))=((tx (u:Int)).size:Int)+((tx (v:Int)).size:Int):=Al _ (by omega)
  have ds:decide (((tx (u:Int)).size:Int)+((tx (v:Int)).size:Int)≤18)=false:=Aa (by omega)
  clear hn
  go_enter Tryz.func143,Tryz.ntmps143
  go_wp2_with fail
  refine (hc1.out _ (Fr.refl _)).mono ?_
  rintro e w1 ⟨v1,rfl,ho1,hn1,hf1⟩
  go_wp2_with fail
  refine (hc2.out _ hf1).mono ?_
  rintro e w2 ⟨v2,rfl,ho2,hn2,hf2⟩
  obtain ⟨a1,c1,rfl,he1,-,-⟩:=Ea ho1
  obtain ⟨a2,c2,rfl,he2,-,-⟩:=Ea ho2
  have ht9:=hZ (ht.out w2 a1 a2 c1 c2 (he1.fr hf2) he2)
  rw [← hlu.out,← hlv.out]
  clear ho1 ho2 hn1 hn2 he1 he2
  go_wp2_with fail
  refine ht9.out.mono ?_
  rintro e w3 ⟨v3,rfl,ho3,hn3,hf3⟩
  obtain ⟨a3,c3,rfl,he3,-,-⟩:=Ea ho3
  have hx9:=hZ (hx.out w3 a3 c3 he3)
  rw [← hlm.out]
  clear ho3 hn3 he3
  go_wp2_with fail
  refine hx9.out.mono ?_
  rintro e w4 ⟨rfl,hf4⟩
  go_wp2_with fail
  go_ret
  exact ⟨rfl,((hf1.trans hf2).trans hf3).trans hf4⟩
theorem WZ (u v:Nat) (hv0:v≠0) (hu:(tx (u:Int)).size≤400000) (hv:(tx (v:Int)).size≤400000) (w:World) (hG:G w) :
 Calls Tryz.prog 233 #[.string (tx (u:Int)),.string (tx (v:Int))] w fun e w'=>e=.returned (.tuple #[.string (tx ((u / v:Nat):Int)),.string (tx ((u % v:Nat):Int)),.int .i64 0])∧Fr w w':=by
 have hb0:=C8 (v:Int)
 rw [Aa (show ¬ (v:Int)=0 by omega)] at hb0
 obtain ⟨x,y,bb,hT,hF,hbb,hbo⟩:=Ji u v (by omega) (by omega)
 rcases hbb with rfl | rfl
 ·obtain ⟨rfl,rfl,hu9,hv9⟩:=hT rfl
  clear hT hF
  have e0:¬ (y:Int)=0:=by omega
  have e1:((y:Int) == 0)=false:=Ay e0
  have hq:=C1 x y
  have hr:=XZ x y
  obtain ⟨q,hqd⟩:∃ q,q=x / y:=⟨_,rfl⟩
  obtain ⟨r,hrd⟩:∃ r,r=x % y:=⟨_,rfl⟩
  rw [← hqd] at hq
  rw [← hrd] at hr
  rw [← hqd,← hrd]
  have w8:(x:Int) / (y:Int)=(q:Int):=by rw [hqd]; exact (Eq x y).symm
  have w9:(x:Int) % (y:Int)=(r:Int):=by rw [hrd]; exact (K3 x y).symm
  have w9t:(x:Int).tmod (y:Int)=(r:Int):=by rw [X3 (by omega)]; exact w9
  have w8w:IntKind.u64.wrap (q:Int)=(q:Int):=AJ _ (by omega)
  have w9w:IntKind.u64.wrap (r:Int)=(r:Int):=AJ _ (by omega)
  have ho1:=hZ (fun W (hW:Fr w W)=>X9 q (by omega) W (hG.fr hW))
  have ho2:=hZ (fun W (hW:Fr w W)=>X9 r (by omega) W (hG.fr hW))
  replace hqd:=hZ hqd
  replace hrd:=hZ hrd
  go_enter Tryz.func233,Tryz.ntmps233
  go_wp2_with fail
  refine (hbo.out _).mono ?_
  rintro e w1 ⟨rfl,hf1⟩
  go_wp2_with fail
  have hfd:=hf1.drew
  refine Dm (S:=fun _=>True) (by kernel_rfl) trivial (fun hHeld=>?_)
  refine hK 0 ?_
  change wpAnyH _ _ _ _ _ _ _ (Act.put _ (some 26) _) _
  simp only [Act.put,BL,BV,BU]
  refine hK 1 ?_
  change wpAnyH _ _ _ _ _ _ _ (Act.put _ (some 27) _) _
  simp only [Act.put,BL,BV,BU]
  refine hK 2 ?_
  change wpAnyH _ _ _ _ _ _ _ (Act.put _ (some 28) _) _
  simp only [Act.put,BL,BV,BU]
  refine hK 4 ?_
  change wpAnyH _ _ _ _ _ _ _ (Act.put _ (some 30) _) _
  simp only [Act.put,BL,BV,BU]
  refine hK 5 ?_
  change wpAnyH _ _ _ _ _ _ _ (Act.put _ (some 31) _) _
  simp only [Act.put,BL,BV,BU]
  refine hK 6 ?_
  change wpAnyH _ _ _ _ _ _ _ (Act.put _ (some 32) _) _
  simp only [Act.put,BL,BV,BU]
  refine hC 3 (fun K hK=>?_)
  go_simp
  (refine (ho1.out _ hfd).mono ?_; rintro e w2 ⟨rfl,hf2⟩)
  go_wp2_with fail
  refine hK.out _ _ (trivial) (fun hHeld=>?_)
  clear hK K
  refine hC 7 (fun K hK=>?_)
  go_simp
  (refine (ho2.out _ (hfd.trans hf2)).mono ?_; rintro e w3 ⟨rfl,hf3⟩)
  go_wp2_with fail
  refine hK.out _ _ (trivial) (fun hHeld=>?_)
  clear hK K
  refine hK 8 ?_
  change wpAnyH _ _ _ _ _ _ _ (Act.put _ (some 4) _) _
  simp only [Act.put,BL,BV,BU]
  refine hK 9 ?_
  change wpAnyH _ _ _ _ _ _ _ (Act.put _ (some 5) _) _
  simp only [Act.put,BL,BV,BU]
  refine hK 10 ?_
  change wpAnyH _ _ _ _ _ _ _ (Act.put _ (some 6) _) _
  simp only [Act.put,BL,BV,BU]
  refine Fg (by kernel_rfl) ?_ _
  go_wp2_with fail
  go_ret3
  exact ⟨rfl,(hfd.trans hf2).trans hf3⟩
 ·have hF:=hF rfl
  clear hT
  have du:=Ed (u:=u) (k:=50000) (by omega)
  have dv:=Ed (u:=v) (k:=50000) (by omega)
  have hlv0:(digs v).length≠0:=fun e=>hv0 (DL.1 (Gl.1 e))
  have hc1:=hZ (fun W (_:Fr w W)=>PG u W (by omega))
  have hc2:=hZ (fun W (_:Fr w W)=>PG v W (by omega))
  have hcm:=hZ (fun W a b ca cb (hx:El W uv a (digs u)) (hy:El W uv b (digs v))=>Vg u v a b ca cb W hx hy (by omega) (by omega))
  have hdv:=hZ (fun W a b ca cb (hx:El W uv a (digs u)) (hy:El W uv b (digs v)) (h2:2≤(digs v).length) (h3:v≤u)=>WE u v a b ca cb W hx hy (by omega) h2 h3)
  have hsm:=hZ (fun W a ca (hx:El W uv a (digs u)) (h9:v < 1000000000)=>Ve u v (by omega) h9 a ca W hx (by omega))
  have hq1:(digs (u / v)).length≤(digs u).length:=C2 (C1 u v)
  have hq2:(digs (u % v)).length≤(digs u).length:=C2 (XZ u v)
  have hx1:=hZ (fun W a c (he:El W uv a (digs (u / v)))=>PE (u / v) a c W he (by omega))
  have hx2:=hZ (fun W a c (he:El W uv a (digs (u % v)))=>PE (u % v) a c W he (by omega))
  have hof:=hZ (fun W (hW:Fr w W) (h9:v < 1000000000)=>X9 (u % v) (by have:=CL u (show 0 < v by omega); omega) W (hG.fr hW))
  have hv1:Hid ((digs v).length=1→v < 1000000000):=fun e=>by
   have:=CA v
   rw [e] at this
   exact this
  have hle2:=hZ (fun e:(digs v).length=1=>IH v 0)
  obtain ⟨lu,hlu⟩:∃ lu,lu=(digs u).length:=⟨_,rfl⟩
  obtain ⟨lv,hlv⟩:∃ lv,lv=(digs v).length:=⟨_,rfl⟩
  rw [← hlu,← hlv] at hcm
  rw [← hlu,← hlv] at hdv
  rw [← hlu] at hsm
  rw [← hlv] at hv1 hlv0 dv
  replace hlu:=hZ hlu
  replace hlv:=hZ hlv
  clear hq1 hq2 du hle2
  go_enter Tryz.func233,Tryz.ntmps233
  go_wp2_with fail
  refine (hbo.out _).mono ?_
  rintro e w0 ⟨rfl,hf0⟩
  go_wp2_with fail
  refine (hc1.out _ hf0).mono ?_
  rintro e w1 ⟨v1,rfl,ho1,hn1,hf1⟩
  go_wp2_with fail
  refine (hc2.out _ (hf0.trans hf1)).mono ?_
  rintro e w2 ⟨v2,rfl,ho2,hn2,hf2⟩
  obtain ⟨a1,c1,rfl,he1,-,-⟩:=Ea ho1
  obtain ⟨a2,c2,rfl,he2,-,-⟩:=Ea ho2
  have hfw2:=(hf0.trans hf1).trans hf2
  have he1':=he1.fr hf2
  have hcm9:=hZ (hcm.out w2 a1 a2 c1 c2 he1' he2)
  rw [← hlu.out,← hlv.out]
  clear ho1 ho2 hn1 hn2 he1
  by_cases hlt:u < v
  ·have hs:=JA hlt
   have d1:decide ((-1:Int) < 0)=true:=by decide
   have q0:u / v=0:=HJ hlt
   have q1:u % v=u:=CN hlt
   have q2:tx ((0:Nat):Int)=⟨#[48]⟩:=Ix
   rw [hs] at hcm9
   replace q0:=hZ q0
   replace q1:=hZ q1
   replace q2:=hZ q2
   replace hs:=hZ hs
   go_wp2_with fail
   refine hcm9.out.mono ?_
   rintro e w3 ⟨rfl,hf3⟩
   go_wp2_with fail
   go_ret3
   exact ⟨by rw [q0.out,q1.out,q2.out]; rfl,hfw2.trans hf3⟩
  ·have hs:0≤EA u v:=by unfold EA; rw [Ai hlt]; split <;> omega
   generalize EA u v=sg at *
   have d1:decide (sg < 0)=false:=Aa (by omega)
   by_cases h1:lv=1
   ·have hv9:=hv1.out h1
    have e1:((lv:Int) == 1)=true:=by rw [h1]; rfl
    obtain ⟨b2,o2,rfl,-,hcell⟩:=El.at_gd he2 (i:=0) (by rw [← hlv.out]; omega)
    rw [IH,EE,Fj,CN hv9,C9] at hcell
    have hsm9:=hZ (fun W (hW:Fr w2 W)=>hsm.out W a1 c1 (he1'.fr hW) hv9)
    have z1:(0:Int) < (lv:Int):=by omega
    replace h1:=hZ h1
    go_wp2_with fail
    refine hcm9.out.mono ?_
    rintro e w3 ⟨rfl,hf3⟩
    have hcell3:=hf3.keep hcell
    have h9:=hZ (hsm9.out w3 hf3)
    clear hcell
    go_wp2_with fail
    refine h9.out.mono ?_
    rintro e w4 ⟨a4,c4,rfl,he4,-,hf4⟩
    have h8:=hZ (hx1.out w4 a4 c4 he4)
    generalize (digs (u / v)).length=l4 at *
    go_wp2_with fail
    refine h8.out.mono ?_
    rintro e w5 ⟨rfl,hf5⟩
    have hfw5:=((hfw2.trans hf3).trans hf4).trans hf5
    have h7:=hZ (hof.out w5 hfw5 hv9)
    go_wp2_with fail
    refine h7.out.mono ?_
    rintro e w6 ⟨rfl,hf6⟩
    go_wp2_with fail
    go_ret3
    exact ⟨rfl,hfw5.trans hf6⟩
   ·have e1:((lv:Int) == 1)=false:=Ay (by omega)
    have hdv9:=hZ (fun W (hW:Fr w2 W)=>hdv.out W a1 a2 c1 c2 (he1'.fr hW) (he2.fr hW) (by omega) (by omega))
    go_wp2_with fail
    refine hcm9.out.mono ?_
    rintro e w3 ⟨rfl,hf3⟩
    have h9:=hZ (hdv9.out w3 hf3)
    go_wp2_with fail
    refine h9.out.mono ?_
    rintro e w4 ⟨a4,c4,a5,c5,rfl,he4,he5,-,-,hf4⟩
    have h8:=hZ (hx1.out w4 a4 c4 he4)
    have h7:=hZ (fun W (hW:Fr w4 W)=>hx2.out W a5 c5 (he5.fr hW))
    generalize (digs (u / v)).length=l4 at *
    generalize (digs (u % v)).length=l5 at *
    go_wp2_with fail
    refine h8.out.mono ?_
    rintro e w5 ⟨rfl,hf5⟩
    have h6:=hZ (h7.out w5 hf5)
    go_wp2_with fail
    refine h6.out.mono ?_
    rintro e w6 ⟨rfl,hf6⟩
    go_wp2_with fail
    go_ret3
    exact ⟨rfl,(((hfw2.trans hf3).trans hf4).trans hf5).trans hf6⟩
theorem YA (u v:Nat) (hu:(tx (u:Int)).size≤400000) (hv:(tx (v:Int)).size≤400000) (w:World) (hG:G w) :
 Calls Tryz.prog 280 #[.string (tx (u:Int)),.string (tx (v:Int))] w fun e w'=>e=.returned (.string (tx ((Nat.gcd u v:Nat):Int)))∧Fr w w':=by
 obtain ⟨g,hg⟩:∃ g,g=Nat.gcd u v:=⟨_,rfl⟩
 rw [← hg]
 have hg0:Hid (Nat.gcd u v=g):=hg.symm
 clear hg
 go_enter Tryz.func280,Tryz.ntmps280
 go_wp2_with fail
 go_loopg [0,1] v (fun k s0 s1 wr=>∃ x:Nat,s0=.string (tx (x:Int))∧s1=.string (tx (k:Int))∧(tx (x:Int)).size≤400000∧(tx (k:Int)).size≤400000∧Fr w wr∧Hid (Nat.gcd x k=g))
 case atStart=>exact ⟨u,rfl,rfl,hu,hv,Fr.refl _,hg0⟩
 case round=>
  clear hg0 hu hv
  obtain ⟨x,rfl,rfl,hx,hk,hf,hgx⟩:=hrel
  obtain ⟨y,rfl⟩:∃ y:Nat,y=gk:=⟨_,rfl⟩
  have hb0:=C8 (y:Int)
  by_cases h0:y=0
  ·rw [Ac (show (y:Int)=0 by omega)] at hb0
   have hfin:Hid (x=g):=by have:=hgx.out; rw [h0,QS] at this; exact this
   replace h0:=hZ h0
   go_wp2_with fail
   go_ret
   exact ⟨by rw [← hfin.out]; rfl,hf⟩
  ·rw [Aa (show ¬ (y:Int)=0 by omega)] at hb0
   have hd:=hZ (WZ x y h0 hx hk wr (hG.fr hf))
   have hrl:=CL x (show 0 < y by omega)
   have hrs:(tx ((x % y:Nat):Int)).size≤400000:=by
    refine AE ?_ hk
    exact E6 (by omega)
   have hgr:Hid (Nat.gcd y (x % y)=g):=by
    have:=hgx.out
    rw [DY,Zv,DY] at this
    exact this
   generalize x % y=r at *
   generalize x / y=q at *
   go_wp2_with fail
   refine hd.out.mono ?_
   rintro e w3 ⟨rfl,hf3⟩
   go_wp2_with fail
   go_roundg r
   case measure=>omega
   case rel=>exact ⟨y,rfl,rfl,hk,hrs,hf.trans hf3,hgr⟩
theorem G1 (l:List Int) (k j:Nat):gd (l ++ List.replicate k 0) j=gd l j:=by
 unfold gd
 by_cases h:j < l.length
 ·rw [A0 h]
 ·rw [AR (by omega),AM (l:=l) (by omega),Cq]
  split <;> rfl
theorem Jt (l:List Int) {m:Nat} (h:l.length≤m):vF (gd l) m=val l:=by
 rw [F0]
 obtain ⟨d,rfl⟩:∃ d,m=l.length+d:=⟨m - l.length,by omega⟩
 exact Hg d fun j h1 _=>by unfold gd; rw [AM h1]; rfl
theorem Lk {f:Nat→Int} {N s:Nat} (hd:∀ j,j < N→0≤f j∧f j < 1000000000) (hv:vF f N=(s:Int)):Bu ((List.range N).map f)=digs s:=by
 have hdg:Dg ((List.range N).map f):=fun x hx=>by
  obtain ⟨i,hi,rfl⟩:=Bg.1 hx
  exact hd i (AZ.1 hi)
 have e:val ((List.range N).map f)=(s:Int):=by
  rw [F0,Am,Bz,← hv]
  exact Fv N fun j hj=>Um f hj
 rw [DC hdg,e,AW]
theorem RJ {u v m:Nat} (hu:(digs u).length=m) (hv:(digs v).length≤m) (P Q:Nat→Int) (hP:∀ j,P j=gd (digs u) j) (hQ:∀ j,Q j=gd (digs v) j) :
 (∀ j,j < m+1→0≤Mz P Q m 0 (m+1) j∧Mz P Q m 0 (m+1) j < 1000000000)∧vF (Mz P Q m 0 (m+1)) (m+1)=((u+v:Nat):Int):=by
 have hb:=UH (p:=fun j=>P (0+j)) (q:=Q) (m:=m)
 have hpd:∀ j,0≤P j∧P j < 1000000000:=fun j=>by rw [hP]; exact D7 (BE u) j
 have hqd:∀ j,0≤Q j∧Q j < 1000000000:=fun j=>by rw [hQ]; exact D7 (BE v) j
 have hc:=RI (p:=fun j=>P (0+j)) (q:=Q) (m:=m) (fun j _=>hpd _) (fun j _=>hqd _) (m+1) (by omega)
 have e1:vF (fun j=>P (0+j)) (m+1)=u:=by
  rw [Fv _ (fun j _=>by rw [Az,hP]),Jt _ (by omega),BZ]
 have e2:vF Q m=v:=by rw [Fv _ (fun j _=>hQ j),Jt _ hv,BZ]
 have hU:=CA u
 have hV:=CA v
 have hV2:v < 1000000000 ^ m:=An hV (BW (by decide) hv)
 rw [hu] at hU
 have hbo:=fun j (_:j < m+1)=>QE (fun j=>P (0+j)) Q m j
 have h1:=KG (m+1) (fun j hj=>(hbo j hj).1)
 have hF:∀ j,j < m+1→Mz P Q m 0 (m+1) j=PQ (fun j=>P (0+j)) Q m j:=fun j hj=>by
  unfold Mz; rw [Aj (by omega),Ta]
 refine ⟨fun j hj=>by rw [hF j hj]; exact hbo j hj, ?_⟩
 rw [Fv _ hF]
 rw [e1,e2] at hb
 rcases hc with hc | hc
 ·rw [hc] at hb; omega
 ·rw [hc,Kl,Bj] at hb; omega
theorem VD {u v m:Nat} (hu:(digs u).length=m) (hle:v≤u) (P Q:Nat→Int) (hP:∀ j,P j=gd (digs u) j) (hQ:∀ j,Q j=gd (digs v) j) :
 (∀ j,j < m+1→0≤Jw P Q 1 m 0 (m+1) j∧Jw P Q 1 m 0 (m+1) j < 1000000000)∧vF (Jw P Q 1 m 0 (m+1)) (m+1)=((u - v:Nat):Int):=by
 have hv:(digs v).length≤m:=by rw [← hu]; exact C2 hle
 have hpd:∀ j,0≤P j∧P j < 1000000000:=fun j=>by rw [hP]; exact D7 (BE u) j
 have hqd:∀ j,0≤Q j∧Q j < 1000000000:=fun j=>by rw [hQ]; exact D7 (BE v) j
 have ha:=Tw (p:=fun j=>P (0+j)) (q:=Q) (n:=1) (m:=m) (fun j _=>hpd _) (fun j _=>hqd _) ⟨by decide,by decide⟩
 have hc:=(Lo (p:=fun j=>P (0+j)) (q:=Q) (n:=1) (m:=m) (fun j _=>hpd _) (fun j _=>hqd _) ⟨by decide,by decide⟩ (m+1) (by omega)).2
 have e1:vF (fun j=>P (0+j)) (m+1)=u:=by
  rw [Fv _ (fun j _=>by rw [Az,hP]),Jt _ (by omega),BZ]
 have e2:vF Q m=v:=by rw [Fv _ (fun j _=>hQ j),Jt _ hv,BZ]
 have hbo:=fun j (hj:j < m+1)=>PX (p:=fun j=>P (0+j)) (q:=Q) (n:=1) (m:=m) (fun j _=>hpd _) (fun j _=>hqd _) ⟨by decide,by decide⟩ (k:=j) (by omega)
 have h1:=KG (m+1) (fun j hj=>(hbo j hj).1)
 have h2:=M1 (m+1) hbo
 have hF:∀ j,j < m+1→Jw P Q 1 m 0 (m+1) j=Mw (fun j=>P (0+j)) Q 1 m j:=fun j hj=>by
  unfold Jw; rw [Aj (by omega),Ta]
 refine ⟨fun j hj=>by rw [hF j hj]; exact hbo j hj, ?_⟩
 rw [Fv _ hF]
 rw [e1,e2] at ha
 rcases hc with hc | hc
 ·rw [hc] at ha; omega
 ·rw [hc] at ha; omega
theorem Wn {u v k:Nat} (du:(digs u).length≤k) (dv:(digs v).length≤k):(digs (u+v)).length≤k+1:=by
 refine Ev (k+1) _ ?_
 have h1:=An (CA u) (BW (n:=1000000000) (by decide) du)
 have h2:=An (CA v) (BW (n:=1000000000) (by decide) dv)
 rw [Bj]
 generalize 1000000000 ^ k=B at *
 omega
theorem W0 (u v:Nat) (hu:(tx (u:Int)).size≤400000) (hv:(tx (v:Int)).size≤400000) (w:World) (hG:G w) :
 Calls Tryz.prog 140 #[.string (tx (u:Int)),.string (tx (v:Int))] w fun e w'=>e=.returned (.string (tx ((u+v:Nat):Int)))∧Fr w w':=by
 obtain ⟨i0,hi,hz0,hz1,hz2⟩:=AQ IF
 obtain ⟨x,y,bb,hT,hF,hbb,hbo⟩:=Ji u v (by omega) (by omega)
 rcases hbb with rfl | rfl
 ·obtain ⟨rfl,rfl,hu9,hv9⟩:=hT rfl
  clear hT hF
  have kw:IntKind.u64.wrap ((x:Int)+(y:Int))=((x+y:Nat):Int):=by rw [AJ _ (by omega)]; omega
  obtain ⟨z,hz⟩:∃ z,z=x+y:=⟨_,rfl⟩
  rw [← hz] at kw
  rw [← hz]
  have ho:=hZ (fun W (hW:Fr w W)=>X9 z (by omega) W (hG.fr hW))
  replace hz:=hZ hz
  go_enter Tryz.func140,Tryz.ntmps140
  go_wp2_with fail
  refine (hbo.out _).mono ?_
  rintro e w1 ⟨rfl,hf1⟩
  have h9:=hZ (ho.out w1 hf1)
  go_wp2_with fail
  refine h9.out.mono ?_
  rintro e w2 ⟨rfl,hf2⟩
  go_wp2_with fail
  go_ret
  exact ⟨rfl,hf1.trans hf2⟩
 ·clear hT
  have du:=Ed (u:=u) (k:=50000) (by omega)
  have dv:=Ed (u:=v) (k:=50000) (by omega)
  have hc1:=hZ (fun W (_:Fr w W)=>PG u W (by omega))
  have hc2:=hZ (fun W (_:Fr w W)=>PG v W (by omega))
  have hsl:(digs (u+v)).length≤50001:=Wn du dv
  have hx1:=hZ (fun W a c (he:El W uv a (digs (u+v)))=>PE (u+v) a c W he (by omega))
  obtain ⟨lu,hlu⟩:∃ lu,lu=(digs u).length:=⟨_,rfl⟩
  obtain ⟨lv,hlv⟩:∃ lv,lv=(digs v).length:=⟨_,rfl⟩
  rw [← hlu] at du
  rw [← hlv] at dv
  replace hlu:=hZ hlu
  replace hlv:=hZ hlv
  go_enter Tryz.func140,Tryz.ntmps140
  go_wp2_with fail
  refine (hbo.out _).mono ?_
  rintro e w0 ⟨rfl,hf0⟩
  go_wp2_with fail
  refine (hc1.out _ hf0).mono ?_
  rintro e w1 ⟨v1,rfl,ho1,hn1,hf1⟩
  go_wp2_with fail
  refine (hc2.out _ (hf0.trans hf1)).mono ?_
  rintro e w2 ⟨v2,rfl,ho2,hn2,hf2⟩
  obtain ⟨g1,c1,rfl,hgb1,hgc1,hgw1⟩:=E8 ho1 (.inr hn1)
  obtain ⟨g2,c2,rfl,hgb2,hgc2,hgw2⟩:=E8 ho2 (.inr hn2)
  have hfw2:=(hf0.trans hf1).trans hf2
  have ho1b:=B5 (Ba ho1 hf2) hf0.size
  have ho2b:=B5 ho2 (hf0.trans hf1).size
  rw [← hlu.out] at ho1b
  rw [← hlv.out] at ho2b
  rw [← hlu.out,← hlv.out]
  have hg12:g1 < g2:=by omega
  clear ho1 ho2 hn1 hn2
  by_cases hlt:lu < lv
  ·have dl:decide ((lu:Int) < (lv:Int))=true:=Ac (by omega)
   rw [EG u v] at hx1
   have hk9:lu+(lv - lu)=lv:=by omega
   obtain ⟨kz,hkz⟩:∃ kz,kz=lv - lu:=⟨_,rfl⟩
   have hkz2:lu+kz=lv:=by omega
   have kw1:IntKind.i64.wrap (((lv+1:Nat):Int) - 1)=(lv:Int):=by rw [Al _ (by omega)]; omega
   have kw2:IntKind.i64.wrap ((lv:Int) - (lu:Int))=(kz:Int):=by rw [Al _ (by omega)]; omega
   have kw3:((lv+1:Nat):Int) - 1=(lv:Int):=by omega
   have kw4:IntKind.i64.wrap (lv:Int)=(lv:Int):=Al _ (by omega)
   replace hkz:=hZ hkz
   have hownP:=ho2b
   go_upto_region 8 with (at_builtin; refine At _ rfl _ _ 275 (by rfl) _ 178 _ _ 1 8 Tryz.underlying275 hi hz0 hz1 hz2 rfl (by decide) _ lv _ (by rfl) (Au hownP _) ⟨w2.heap.size,0,none⟩ 1 1 [.int .u64 0] (by rfl) rfl (AF _ _ _ _ (by simp)) (by simp [Value.oneCell']) (by decide) (by unfold maxLen; omega) (by omega) (by have:=hfw2.size; simp; omega) (w2.heap.size+1) (by simp) ?_; intro gA capA wA hownA hgrowA hatA hltA)
   have hAl:((digs v).map uv ++ [Value.int .u64 0])=(digs v ++ [0]).map uv:=by rw [Aw]; rfl
   rw [hAl] at hownA
   have hfA:Fr w wA:=(hfw2.alloc _).grown hgrowA (fun k e=>(ho2b.lt k e).1)
   have hgA:=hownA.lt gA rfl
   have hA2:gA≠g1:=by
    rcases hatA with h | h
    ·have h:g2=gA:=by simpa [Value.ownBlock] using h
     omega
    ·have:=(ho1b.lt g1 rfl).2; omega
   have hownQ:=BM (ho1b.alloc (.cells #[.int .u64 0] 178)) (Fx.of_grown hgrowA) (fun q hq e=>by
    have hq:some g1=some q:=hq
    have e:some g2=some q:=e
    injection hq with hq
    injection e with e
    omega)
   have hNc:=(Bf hownA).2.2.2.1
   obtain ⟨g3,c3,w3,hr3,hown3,hgr3,hg3⟩:=GD (P:=Tryz.prog) wA w.heap.size 275 3 275 178 i0 (.int .u64 0) 8 .i64 .i64 Tryz.underlying275 Tryz.underlying3 hi hz0 hz1 hz2 rfl rfl g1 lu c1 kz _ hownQ (by unfold maxLen; omega) (by omega) hfA.size
   have hfx3:=Fx.of_grown hgr3
   have hA3:=BM hownA hfx3 (fun q hq e=>by have hq:some gA=some q:=hq; have e:some g1=some q:=e; injection hq with hq; injection e with e; omega)
   have hg3A:g3≠gA:=by rcases hg3 with e | e; omega; omega
   have hZl:((digs u).map uv ++ List.replicate kz (Value.int .u64 0))=(digs u ++ List.replicate kz 0).map uv:=by rw [Aw,Gg]
   rw [hZl] at hown3
   rw [hkz2] at hown3 hr3
   have hP3:=D4 hA3
   have hQ3:=(D4 hown3).rd
   have hfr3:Fr w w3:=hfA.grown hgr3 (fun k e=>by have e:some g1=some k:=e; injection e with e; have:=(ho1b.lt g1 rfl).1; omega)
   go_wp2_with (at_builtin; refine wpList_append_run _ rfl _ _ _ _ rfl _ _ rfl rfl _ _ hr3 ?_)
   have hfin:=RJ (u:=v) (v:=u) (m:=lv) hlv.out.symm (by rw [← hlu.out]; omega) (gd (digs v ++ [0])) (gd (digs u ++ List.replicate kz 0)) (fun j=>EQ _ _) (fun j=>G1 _ _ _)
   refine (RX gA (lv+1) capA 0 lv g3 0 c3 (gd (digs v ++ [0])) (gd (digs u ++ List.replicate kz 0)) w3 hP3 hQ3 hg3A (by omega) (by omega) (fun j _=>by rw [Az,EQ]; exact D7 (BE _) j) (fun j _=>by rw [G1]; exact D7 (BE _) j)).mono ?_
   rintro e w4 ⟨rfl,hfx4,hA4⟩
   have hEl:=hA4.el
   have hll:((List.range (lv+1)).map (Mz (gd (digs v ++ [0])) (gd (digs u ++ List.replicate kz 0)) lv 0 (lv+1))).length=lv+1:=by rw [Am,Bz]
   have htr:=J1 ((List.range (lv+1)).map (Mz (gd (digs v ++ [0])) (gd (digs u ++ List.replicate kz 0)) lv 0 (lv+1))) (some ⟨gA,0,none⟩) capA w4 hEl (by rw [hll]; omega) (by rw [hll]; exact hNc)
   have hTl:=Lk hfin.1 hfin.2
   have hle:=(BO ((List.range (lv+1)).map (Mz (gd (digs v ++ [0])) (gd (digs u ++ List.replicate kz 0)) lv 0 (lv+1)))).2
   have hEt:El w4 uv (some ⟨gA,0,none⟩) (digs (v+u)):=by rw [← hTl,(BO ((List.range (lv+1)).map (Mz (gd (digs v ++ [0])) (gd (digs u ++ List.replicate kz 0)) lv 0 (lv+1)))).1]; exact HA hEl _
   rw [hTl,hll] at htr
   replace htr:=hZ htr
   have hxx:=hZ (fun W (hW:Fr w4 W)=>hx1.out W (some ⟨gA,0,none⟩) capA (hEt.fr hW))
   generalize (digs (v+u)).length=l9 at *
   have hf4:Fr w w4:=((Fx.of_fr hfr3).trans hfx4).toFr (fun k hk e=>by have e:k=gA:=e; omega)
   clear hEl hll hTl hle hEt hfin hA4 hP3 hQ3
   go_wp2_with fail
   refine htr.out.mono ?_
   rintro e w5 ⟨rfl,hf5⟩
   have h9:=hZ (hxx.out w5 hf5)
   go_wp2_with fail
   refine h9.out.mono ?_
   rintro e w6 ⟨rfl,hf6⟩
   go_wp2_with fail
   go_ret
   exact ⟨by rw [EG u v]; rfl,(hf4.trans hf5).trans hf6⟩
  ·have dl:decide ((lu:Int) < (lv:Int))=false:=Aa (by omega)
   have hk9:lv+(lu - lv)=lu:=by omega
   obtain ⟨kz,hkz⟩:∃ kz,kz=lu - lv:=⟨_,rfl⟩
   have hkz2:lv+kz=lu:=by omega
   have kw1:IntKind.i64.wrap (((lu+1:Nat):Int) - 1)=(lu:Int):=by rw [Al _ (by omega)]; omega
   have kw2:IntKind.i64.wrap ((lu:Int) - (lv:Int))=(kz:Int):=by rw [Al _ (by omega)]; omega
   have kw3:((lu+1:Nat):Int) - 1=(lu:Int):=by omega
   have kw4:IntKind.i64.wrap (lu:Int)=(lu:Int):=Al _ (by omega)
   replace hkz:=hZ hkz
   have hownP:=ho1b
   go_upto_region 8 with (at_builtin; refine At _ rfl _ _ 275 (by rfl) _ 178 _ _ 1 8 Tryz.underlying275 hi hz0 hz1 hz2 rfl (by decide) _ lu _ (by rfl) (Au hownP _) ⟨w2.heap.size,0,none⟩ 1 1 [.int .u64 0] (by rfl) rfl (AF _ _ _ _ (by simp)) (by simp [Value.oneCell']) (by decide) (by unfold maxLen; omega) (by omega) (by have:=hfw2.size; simp; omega) (w2.heap.size+1) (by simp) ?_; intro gA capA wA hownA hgrowA hatA hltA)
   have hAl:((digs u).map uv ++ [Value.int .u64 0])=(digs u ++ [0]).map uv:=by rw [Aw]; rfl
   rw [hAl] at hownA
   have hfA:Fr w wA:=(hfw2.alloc _).grown hgrowA (fun k e=>(ho1b.lt k e).1)
   have hgA:=hownA.lt gA rfl
   have hA2:gA≠g2:=by
    rcases hatA with h | h
    ·have h:g1=gA:=by simpa [Value.ownBlock] using h
     omega
    ·have:=(ho2b.lt g2 rfl).2; omega
   have hownQ:=BM (ho2b.alloc (.cells #[.int .u64 0] 178)) (Fx.of_grown hgrowA) (fun q hq e=>by
    have hq:some g2=some q:=hq
    have e:some g1=some q:=e
    injection hq with hq
    injection e with e
    omega)
   have hNc:=(Bf hownA).2.2.2.1
   obtain ⟨g3,c3,w3,hr3,hown3,hgr3,hg3⟩:=GD (P:=Tryz.prog) wA w.heap.size 275 3 275 178 i0 (.int .u64 0) 8 .i64 .i64 Tryz.underlying275 Tryz.underlying3 hi hz0 hz1 hz2 rfl rfl g2 lv c2 kz _ hownQ (by unfold maxLen; omega) (by omega) hfA.size
   have hfx3:=Fx.of_grown hgr3
   have hA3:=BM hownA hfx3 (fun q hq e=>by have hq:some gA=some q:=hq; have e:some g2=some q:=e; injection hq with hq; injection e with e; omega)
   have hg3A:g3≠gA:=by rcases hg3 with e | e; omega; omega
   have hZl:((digs v).map uv ++ List.replicate kz (Value.int .u64 0))=(digs v ++ List.replicate kz 0).map uv:=by rw [Aw,Gg]
   rw [hZl] at hown3
   rw [hkz2] at hown3 hr3
   have hP3:=D4 hA3
   have hQ3:=(D4 hown3).rd
   have hfr3:Fr w w3:=hfA.grown hgr3 (fun k e=>by have e:some g2=some k:=e; injection e with e; have:=(ho2b.lt g2 rfl).1; omega)
   go_wp2_with (at_builtin; refine wpList_append_run _ rfl _ _ _ _ rfl _ _ rfl rfl _ _ hr3 ?_)
   have hfin:=RJ (u:=u) (v:=v) (m:=lu) hlu.out.symm (by rw [← hlv.out]; omega) (gd (digs u ++ [0])) (gd (digs v ++ List.replicate kz 0)) (fun j=>EQ _ _) (fun j=>G1 _ _ _)
   refine (RX gA (lu+1) capA 0 lu g3 0 c3 (gd (digs u ++ [0])) (gd (digs v ++ List.replicate kz 0)) w3 hP3 hQ3 hg3A (by omega) (by omega) (fun j _=>by rw [Az,EQ]; exact D7 (BE _) j) (fun j _=>by rw [G1]; exact D7 (BE _) j)).mono ?_
   rintro e w4 ⟨rfl,hfx4,hA4⟩
   have hEl:=hA4.el
   have hll:((List.range (lu+1)).map (Mz (gd (digs u ++ [0])) (gd (digs v ++ List.replicate kz 0)) lu 0 (lu+1))).length=lu+1:=by rw [Am,Bz]
   have htr:=J1 ((List.range (lu+1)).map (Mz (gd (digs u ++ [0])) (gd (digs v ++ List.replicate kz 0)) lu 0 (lu+1))) (some ⟨gA,0,none⟩) capA w4 hEl (by rw [hll]; omega) (by rw [hll]; exact hNc)
   have hTl:=Lk hfin.1 hfin.2
   have hle:=(BO ((List.range (lu+1)).map (Mz (gd (digs u ++ [0])) (gd (digs v ++ List.replicate kz 0)) lu 0 (lu+1)))).2
   have hEt:El w4 uv (some ⟨gA,0,none⟩) (digs (u+v)):=by rw [← hTl,(BO ((List.range (lu+1)).map (Mz (gd (digs u ++ [0])) (gd (digs v ++ List.replicate kz 0)) lu 0 (lu+1)))).1]; exact HA hEl _
   rw [hTl,hll] at htr
   replace htr:=hZ htr
   have hxx:=hZ (fun W (hW:Fr w4 W)=>hx1.out W (some ⟨gA,0,none⟩) capA (hEt.fr hW))
   generalize (digs (u+v)).length=l9 at *
   have hf4:Fr w w4:=((Fx.of_fr hfr3).trans hfx4).toFr (fun k hk e=>by have e:k=gA:=e; omega)
   clear hEl hll hTl hle hEt hfin hA4 hP3 hQ3
   go_wp2_with fail
   refine htr.out.mono ?_
   rintro e w5 ⟨rfl,hf5⟩
   have h9:=hZ (hxx.out w5 hf5)
   go_wp2_with fail
   refine h9.out.mono ?_
   rintro e w6 ⟨rfl,hf6⟩
   go_wp2_with fail
   go_ret
   exact ⟨rfl,(hf4.trans hf5).trans hf6⟩
theorem Vi (u v:Nat) (hle:v≤u) (hu:(tx (u:Int)).size≤400000) (w:World) (hG:G w) :
 Calls Tryz.prog 142 #[.string (tx (u:Int)),.string (tx (v:Int))] w fun e w'=>e=.returned (.tuple #[.string (tx ((u - v:Nat):Int)),.int .i64 0])∧Fr w w':=by
 obtain ⟨i0,hi,hz0,hz1,hz2⟩:=AQ IF
 have hv:=AE (E6 hle) hu
 obtain ⟨x,y,bb,hT,hF,hbb,hbo⟩:=Ji u v (by omega) (by omega)
 have hcm:=hZ (fun W (_:Fr w W)=>Lc u v W (by have:=CP u; omega) (by have:=CP v; omega))
 have hc0:decide (FR u v < 0)=false:=by
  refine Aa ?_
  unfold FR
  split <;> omega
 generalize FR (u:Int) (v:Int)=cm at *
 rcases hbb with rfl | rfl
 ·obtain ⟨rfl,rfl,hu9,hv9⟩:=hT rfl
  clear hT hF
  obtain ⟨z,hz⟩:∃ z,z=x - y:=⟨_,rfl⟩
  have kw:IntKind.u64.wrap ((x:Int) - (y:Int))=(z:Int):=by rw [AJ _ (by omega)]; omega
  rw [← hz]
  have ho:=hZ (fun W (hW:Fr w W)=>X9 z (by omega) W (hG.fr hW))
  replace hz:=hZ hz
  replace hle:=hZ hle
  go_enter Tryz.func142,Tryz.ntmps142
  go_wp2_with fail
  refine (hcm.out _ (Fr.refl _)).mono ?_
  rintro e w0 ⟨rfl,rfl⟩
  go_wp2_with fail
  refine (hbo.out _).mono ?_
  rintro e w1 ⟨rfl,hf1⟩
  have h9:=hZ (ho.out w1 hf1)
  go_wp2_with fail
  refine h9.out.mono ?_
  rintro e w2 ⟨rfl,hf2⟩
  go_wp2_with fail
  go_ret2
  exact ⟨rfl,hf1.trans hf2⟩
 ·clear hT
  have du:=Ed (u:=u) (k:=50000) (by omega)
  have dv:=Ed (u:=v) (k:=50000) (by omega)
  have hc1:=hZ (fun W (_:Fr w W)=>PG u W (by omega))
  have hc2:=hZ (fun W (_:Fr w W)=>PG v W (by omega))
  have hsl:(digs (u - v)).length≤50000:=AE (C2 (XY u v)) du
  have hdl:=C2 hle
  have hx1:=hZ (fun W a c (he:El W uv a (digs (u - v)))=>PE (u - v) a c W he (by omega))
  obtain ⟨lu,hlu⟩:∃ lu,lu=(digs u).length:=⟨_,rfl⟩
  obtain ⟨lv,hlv⟩:∃ lv,lv=(digs v).length:=⟨_,rfl⟩
  rw [← hlu] at du hdl
  rw [← hlv] at dv hdl
  replace hlu:=hZ hlu
  replace hlv:=hZ hlv
  go_enter Tryz.func142,Tryz.ntmps142
  go_wp2_with fail
  refine (hcm.out _ (Fr.refl _)).mono ?_
  rintro e w9 ⟨rfl,rfl⟩
  go_wp2_with fail
  refine (hbo.out _).mono ?_
  rintro e w0 ⟨rfl,hf0⟩
  go_wp2_with fail
  refine (hc1.out _ hf0).mono ?_
  rintro e w2 ⟨v1,rfl,ho1,hn1,hf1⟩
  obtain ⟨g1,c1,rfl,hgb1,hgc1,hgw1⟩:=E8 ho1 (.inr hn1)
  have hfw2:=hf0.trans hf1
  have ho1b:=B5 ho1 hf0.size
  rw [← hlu.out] at ho1b
  rw [← hlu.out]
  clear ho1 hn1
  have hownP:=ho1b
  go_upto_region 7 with (at_builtin; refine At _ rfl _ _ 275 (by rfl) _ 178 _ _ 1 8 Tryz.underlying275 hi hz0 hz1 hz2 rfl (by decide) _ lu _ (by rfl) (Au hownP _) ⟨w2.heap.size,0,none⟩ 1 1 [.int .u64 0] (by rfl) rfl (AF _ _ _ _ (by simp)) (by simp [Value.oneCell']) (by decide) (by unfold maxLen; omega) (by omega) (by have:=hfw2.size; simp; omega) (w2.heap.size+1) (by simp) ?_; intro gA capA wA hownA hgrowA hatA hltA)
  have hAl:((digs u).map uv ++ [Value.int .u64 0])=(digs u ++ [0]).map uv:=by rw [Aw]; rfl
  rw [hAl] at hownA
  have hfA:Fr w wA:=(hfw2.alloc _).grown hgrowA (fun k e=>(ho1b.lt k e).1)
  have hgA:=hownA.lt gA rfl
  have hNc:=(Bf hownA).2.2.2.1
  go_wp2_with fail
  refine (hc2.out _ hfA).mono ?_
  rintro e wB ⟨v2,rfl,ho2,hn2,hfB⟩
  obtain ⟨g2,c2,rfl,hgb2,hgc2,hgw2⟩:=E8 ho2 (.inr hn2)
  go_wp2_with fail
  refine (hc2.out _ (hfA.trans hfB)).mono ?_
  rintro e wC ⟨v3,rfl,ho3,hn3,hfC⟩
  obtain ⟨g4,c4,rfl,-,-,-⟩:=E8 ho3 (.inr hn3)
  rw [← hlv.out]
  have hfw:=(hfA.trans hfB).trans hfC
  have ho2b:=B5 (Ba ho2 hfC) hfA.size
  rw [← hlv.out] at ho2b
  have hA2b:=Ba hownA (hfB.trans hfC)
  have hgA2:gA < g2:=by omega
  obtain ⟨kz,hkz⟩:∃ kz,kz=lu - lv:=⟨_,rfl⟩
  have hkz2:lv+kz=lu:=by omega
  have kw1:IntKind.i64.wrap (((lu+1:Nat):Int) - 1)=(lu:Int):=by rw [Al _ (by omega)]; omega
  have kw2:IntKind.i64.wrap ((lu:Int) - (lv:Int))=(kz:Int):=by rw [Al _ (by omega)]; omega
  have kw3:((lu+1:Nat):Int) - 1=(lu:Int):=by omega
  have kw4:IntKind.i64.wrap (lu:Int)=(lu:Int):=Al _ (by omega)
  replace hkz:=hZ hkz
  obtain ⟨g3,c3,w3,hr3,hown3,hgr3,hg3⟩:=GD (P:=Tryz.prog) wC w.heap.size 275 3 275 178 i0 (.int .u64 0) 8 .i64 .i64 Tryz.underlying275 Tryz.underlying3 hi hz0 hz1 hz2 rfl rfl g2 lv c2 kz _ ho2b (by unfold maxLen; omega) (by omega) hfw.size
  have hfx3:=Fx.of_grown hgr3
  have hA3:=BM hA2b hfx3 (fun q hq e=>by have hq:some gA=some q:=hq; have e:some g2=some q:=e; injection hq with hq; injection e with e; omega)
  have hzC:=(hA2b.lt gA rfl).2
  have hg3A:g3≠gA:=by rcases hg3 with e | e; omega; omega
  have hZl:((digs v).map uv ++ List.replicate kz (Value.int .u64 0))=(digs v ++ List.replicate kz 0).map uv:=by rw [Aw,Gg]
  rw [hZl] at hown3
  rw [hkz2] at hown3 hr3
  have hP3:=D4 hA3
  have hQ3:=(D4 hown3).rd
  have hfr3:Fr w w3:=hfw.grown hgr3 (fun k e=>by have e:some g2=some k:=e; injection e with e; have:=(ho2b.lt g2 rfl).1; omega)
  go_wp2_with (at_builtin; refine wpList_append_run _ rfl _ _ _ _ rfl _ _ rfl rfl _ _ hr3 ?_)
  have hfin:=VD (u:=u) (v:=v) (m:=lu) hlu.out.symm hle (gd (digs u ++ [0])) (gd (digs v ++ List.replicate kz 0)) (fun j=>EQ _ _) (fun j=>G1 _ _ _)
  refine (Vd gA (lu+1) capA 0 lu g3 0 c3 (gd (digs u ++ [0])) (gd (digs v ++ List.replicate kz 0)) 1 w3 hP3 hQ3 hg3A (by omega) (by omega) (fun j _=>by rw [Az,EQ]; exact D7 (BE _) j) (fun j _=>by rw [G1]; exact D7 (BE _) j) ⟨by decide,by decide⟩).mono ?_
  rintro e w4 ⟨rfl,hfx4,hA4⟩
  generalize (HK (fun j=>gd (digs u ++ [0]) (0+j)) (gd (digs v ++ List.replicate kz 0)) 1 lu (lu+1)).2=bo
  have hEl:=hA4.el
  have hll:((List.range (lu+1)).map (Jw (gd (digs u ++ [0])) (gd (digs v ++ List.replicate kz 0)) 1 lu 0 (lu+1))).length=lu+1:=by rw [Am,Bz]
  have htr:=J1 ((List.range (lu+1)).map (Jw (gd (digs u ++ [0])) (gd (digs v ++ List.replicate kz 0)) 1 lu 0 (lu+1))) (some ⟨gA,0,none⟩) capA w4 hEl (by rw [hll]; omega) (by rw [hll]; exact hNc)
  have hTl:=Lk hfin.1 hfin.2
  have hle:=(BO ((List.range (lu+1)).map (Jw (gd (digs u ++ [0])) (gd (digs v ++ List.replicate kz 0)) 1 lu 0 (lu+1)))).2
  have hEt:El w4 uv (some ⟨gA,0,none⟩) (digs (u - v)):=by rw [← hTl,(BO ((List.range (lu+1)).map (Jw (gd (digs u ++ [0])) (gd (digs v ++ List.replicate kz 0)) 1 lu 0 (lu+1)))).1]; exact HA hEl _
  rw [hTl,hll] at htr
  replace htr:=hZ htr
  have hxx:=hZ (fun W (hW:Fr w4 W)=>hx1.out W (some ⟨gA,0,none⟩) capA (hEt.fr hW))
  generalize (digs (u - v)).length=l9 at *
  have hf4:Fr w w4:=((Fx.of_fr hfr3).trans hfx4).toFr (fun k hk e=>by have e:k=gA:=e; omega)
  clear hEl hll hTl hle hEt hfin hA4 hP3 hQ3
  go_wp2_with fail
  refine htr.out.mono ?_
  rintro e w5 ⟨rfl,hf5⟩
  have h9:=hZ (hxx.out w5 hf5)
  go_wp2_with fail
  refine h9.out.mono ?_
  rintro e w6 ⟨rfl,hf6⟩
  go_wp2_with fail
  go_ret2
  exact ⟨rfl,(hf4.trans hf5).trans hf6⟩
end Go.Proofs.YtcglmebcfeoedaaGreatDoor
