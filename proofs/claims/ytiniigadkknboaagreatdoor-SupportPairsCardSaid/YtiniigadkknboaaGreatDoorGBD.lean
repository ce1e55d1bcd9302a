/- Contracts and laws: GBD. -/
import Derived.Test.YtiniigadkknboaaGreatDoorGBC
import Derived.Test.YtiniigadkknboaaGreatDoorGAW
import Derived.Test.YtiniigadkknboaaGreatDoorGAF
import Derived.Deep.CutBlock

set_option maxRecDepth 100000
set_option maxHeartbeats 2000000
namespace Go.Proofs.YtiniigadkknboaaGreatDoor
def mn (f g:Nat→Int) (i j:Nat):Int:=f i * g j - f j * g i
def d3 (f g h:Nat→Int) (i j k:Nat):Int:=f i * mn g h j k - f j * mn g h i k+f k * mn g h i j
end Go.Proofs.YtiniigadkknboaaGreatDoor
namespace Go.Proofs.YtiniigadkknboaaGreatDoor
open Go.RowKit Go.Lib
theorem T5 {t n:Nat} {E:Nat→Nat→Int} {x y:Nat→Int} (h:DL t E y) (ho:∀ i,i < t→Dn (E i) x n=0):Dn y x n=0:=by
 induction h with
 | zero e=>rw [show _=fun _=>(0:Int) from funext e]; exact Es _ _
 | add i q hi hx e ih=>
   rw [show _=fun k=>_+q * E i k from funext e,F9,Ec,ih,ho i hi]; omega
attribute [local go_sem ↓] Go.wp_at_zero Go.wp_at_succ
def AV:Nat→List Int
 | 0=>[2,3,5]
 | 1=>[2,3,5,7]
 | 2=>[2,3]
 | 3=>[2,3,7]
 | 4=>[2,5,7]
 | 5=>[3,5,7]
 | 6=>[2,3,5,11]
 | 7=>[2]
 | 8=>[2,3,7,13]
 | _=>[3,5,7,13]
theorem Ny:∀ k,BQ (AV k)=0∧1≤(AV k).length∧(AV k).length≤4
 | 0 | 1 | 2 | 3 | 4 | 5 | 6 | 7 | 8=>by refine ⟨?_, ?_, ?_⟩ <;> decide +kernel
 | _+9=>by
   show BQ [3,5,7,13]=0∧1≤[3,5,7,13].length∧[3,5,7,13].length≤4
   refine ⟨?_, ?_, ?_⟩ <;> decide +kernel
def Yi (n:Int):List Int:=AV (n.tmod 10).toNat
theorem N2 (n:Int) (h0:0≤n) (h1:n≤255) (w:World) :
 Calls Tryz.prog 12 #[.int .u8 n] w fun e w'=>∃ b,e=.returned (.slice (some ⟨b,0,none⟩) (Yi n).length (Yi n).length)∧El w' iv (some ⟨b,0,none⟩) (Yi n)∧w.heap.size≤b∧Fr w w':=by
 obtain ⟨k,hk⟩:∃ k:Nat,n.tmod 10=(k:Int):=⟨(n.tmod 10).toNat,by have:=WW 10 h0; omega⟩
 have hk10:k < 10:=by have:=Q0 n (show (0:Int) < 10 by decide); omega
 have hp:Yi n=AV k:=by unfold Yi; rw [hk,AR]
 rw [hp]
 clear hp
 obtain ⟨W,hW⟩:∃ W,W=Ef w [(.cells #[.int .i64 2,.int .i64 3,.int .i64 5] 3),(.cells #[.int .i64 2,.int .i64 3,.int .i64 5,.int .i64 7] 3),(.cells #[.int .i64 2,.int .i64 3] 3),(.cells #[.int .i64 2,.int .i64 3,.int .i64 7] 3),(.cells #[.int .i64 2,.int .i64 5,.int .i64 7] 3),(.cells #[.int .i64 3,.int .i64 5,.int .i64 7] 3),(.cells #[.int .i64 2,.int .i64 3,.int .i64 5,.int .i64 11] 3),(.cells #[.int .i64 2] 3),(.cells #[.int .i64 2,.int .i64 3,.int .i64 7,.int .i64 13] 3),(.cells #[.int .i64 3,.int .i64 5,.int .i64 7,.int .i64 13] 3),(.cells #[.slice (some ⟨w.heap.size,0,none⟩) 3 3,.slice (some ⟨w.heap.size+1,0,none⟩) 4 4,.slice (some ⟨w.heap.size+1+1,0,none⟩) 2 2,.slice (some ⟨w.heap.size+1+1+1,0,none⟩) 3 3,.slice (some ⟨w.heap.size+1+1+1+1,0,none⟩) 3 3,.slice (some ⟨w.heap.size+1+1+1+1+1,0,none⟩) 3 3,.slice (some ⟨w.heap.size+1+1+1+1+1+1,0,none⟩) 4 4,.slice (some ⟨w.heap.size+1+1+1+1+1+1+1,0,none⟩) 1 1,.slice (some ⟨w.heap.size+1+1+1+1+1+1+1+1,0,none⟩) 4 4,.slice (some ⟨w.heap.size+1+1+1+1+1+1+1+1+1,0,none⟩) 4 4] 24)]:=⟨_,rfl⟩
 have hf:Fr w W:=by rw [hW]; exact EG _ w
 have hel:∀ (b:Nat) (xs:List Int) (cs:Array Value),W.heap[b]?=some (.cells cs 3 (0,0))→(∀ (i:Nat) (x:Int),xs[i]?=some x→cs[i]?=some (.int .i64 x))→El W iv (some ⟨b,0,none⟩) xs:=fun b xs cs hb hc=>.inr ⟨b,0,rfl,Ll hb,fun i x hx=>by rw [AN,A1 hb]; exact hc i x hx⟩
 have key:∃ b,w.heap.size≤b∧W.cell? ⟨w.heap.size+10,k,none⟩=some (.slice (some ⟨b,0,none⟩) (AV k).length (AV k).length)∧El W iv (some ⟨b,0,none⟩) (AV k):=by
  have hg:∀ (i:Nat) (o:Obj),_→W.heap[w.heap.size+i]?=some o:=fun i o h=>by rw [hW]; exact Cu _ w i o h
  refine ⟨w.heap.size+k,Nat.le_add_right _ _, ?_, ?_⟩
  ·rw [A1 (hg 10 _ rfl)]
   match k,hk10 with
   | 0,_ | 1,_ | 2,_ | 3,_ | 4,_ | 5,_ | 6,_ | 7,_ | 8,_ | 9,_=>rfl
  ·match k,hk10 with
   | 0,_ | 1,_ | 2,_ | 3,_ | 4,_ | 5,_ | 6,_ | 7,_ | 8,_ | 9,_=>
     refine hel _ _ _ (hg _ _ rfl) fun i x hx=>?_
     match i,hx with
     | 0,hx=>injection hx with hx; subst hx; rfl
     | 1,hx=>first | (injection hx with hx; subst hx; rfl) | cases hx
     | 2,hx=>first | (injection hx with hx; subst hx; rfl) | cases hx
     | 3,hx=>first | (injection hx with hx; subst hx; rfl) | cases hx
     | i+4,hx=>cases hx
 clear hel
 obtain ⟨b,hb9,hc,he⟩:=key
 replace hb9:=hZ hb9
 generalize AV k=P at *
 obtain ⟨m,hm⟩:∃ m,m=P.length:=⟨_,rfl⟩
 rw [← hm] at hc ⊢
 replace he:=hZ he
 replace hm:=hZ hm
 replace hf:=hZ hf
 have zk0:(0:Int)≤(k:Int):=Aj _
 have zk1:(k:Int) < 10:=by omega
 go_enter Tryz.func12,Tryz.ntmps12
 go_upto_region 2 with (fail)
 rw [show w.heap.size+10=w.heap.size+1+1+1+1+1+1+1+1+1+1 from rfl] at hc
 change Code.wp _ _ _ _ (Ef w [(.cells #[.int .i64 2,.int .i64 3,.int .i64 5] 3),(.cells #[.int .i64 2,.int .i64 3,.int .i64 5,.int .i64 7] 3),(.cells #[.int .i64 2,.int .i64 3] 3),(.cells #[.int .i64 2,.int .i64 3,.int .i64 7] 3),(.cells #[.int .i64 2,.int .i64 5,.int .i64 7] 3),(.cells #[.int .i64 3,.int .i64 5,.int .i64 7] 3),(.cells #[.int .i64 2,.int .i64 3,.int .i64 5,.int .i64 11] 3),(.cells #[.int .i64 2] 3),(.cells #[.int .i64 2,.int .i64 3,.int .i64 7,.int .i64 13] 3),(.cells #[.int .i64 3,.int .i64 5,.int .i64 7,.int .i64 13] 3),(.cells #[.slice (some ⟨w.heap.size,0,none⟩) 3 3,.slice (some ⟨w.heap.size+1,0,none⟩) 4 4,.slice (some ⟨w.heap.size+1+1,0,none⟩) 2 2,.slice (some ⟨w.heap.size+1+1+1,0,none⟩) 3 3,.slice (some ⟨w.heap.size+1+1+1+1,0,none⟩) 3 3,.slice (some ⟨w.heap.size+1+1+1+1+1,0,none⟩) 3 3,.slice (some ⟨w.heap.size+1+1+1+1+1+1,0,none⟩) 4 4,.slice (some ⟨w.heap.size+1+1+1+1+1+1+1,0,none⟩) 1 1,.slice (some ⟨w.heap.size+1+1+1+1+1+1+1+1,0,none⟩) 4 4,.slice (some ⟨w.heap.size+1+1+1+1+1+1+1+1+1,0,none⟩) 4 4] 24)])
 rw [← hW]
 clear hW
 go_wp2_with fail
 go_ret
 exact ⟨b,rfl,he.out,hb9.out,hf.out⟩
theorem GM.any {w:World} {n:Nat} {g:List (List Int)} {e:Ending} {w':World} (h:GM w n g e w'):∃ (n':Int) (a':Option Addr) (k' c':Nat) (err:Int),e=.returned (.tuple #[.agg #[.int .i64 n',.slice a' k' c'],.int .i64 err])∧Fr w w'∧(BG g=true→err=0∧n'=n∧k'=g.length∧k'≤c'∧∀ W,Fx (· < w.heap.size) w' W→A5 W a' g)∧(BG g=false→err=4):=by
 cases hb:BG g with
 | true=>
   obtain ⟨a,c,he,hc,hm,hf⟩:=h.1 hb
   exact ⟨n,a,g.length,c,0,he,hf,fun _=>⟨rfl,rfl,rfl,hc,hm⟩,fun h=>(by cases h)⟩
 | false=>
   obtain ⟨he,hf⟩:=h.2 hb
   exact ⟨0,none,0,0,4,he,hf,fun h=>(by cases h),fun _=>rfl⟩
end Go.Proofs.YtiniigadkknboaaGreatDoor
