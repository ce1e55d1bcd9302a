/- Contracts and laws: VSB. -/
import Derived.Test.YtcglmebcfeoedaaGreatDoorVSA
import Derived.Test.YtcglmebcfeoedaaGreatDoorVRB
import Derived.Test.YtcglmebcfeoedaaGreatDoorVRd
import Derived.Test.YtcglmebcfeoedaaGreatDoorVRF
import Derived.Test.YtcglmebcfeoedaaGreatDoorVD
import Derived.Test.YtcglmebcfeoedaaGreatDoorVSW
import Derived.Test.YtcglmebcfeoedaaGreatDoorVK
import Derived.Test.YtcglmebcfeoedaaGreatDoorVKn
import Derived.Test.YtcglmebcfeoedaaGreatDoorVNB
import Derived.Test.YtcglmebcfeoedaaGreatDoorVMk
import Derived.Lib.SplitLaws

namespace Go.Proofs.YtcglmebcfeoedaaGreatDoor
open Go.RowKit Go.Lib
attribute [local go_sem ↓] AA AB



theorem O9 (f g h:Nat→Int):∀ n,HO (fun j=>f j+g j) h n=HO f h n+HO g h n
 | 0=>rfl
 | n+1=>by show HO _ h n+(f n+g n) * h n=HO f h n+f n * h n+(HO g h n+g n * h n); rw [O9 f g h n,Gm]; omega
theorem Jg (h:Nat→Int):∀ n,HO (fun _=>0) h n=0
 | 0=>rfl
 | n+1=>by show HO _ h n+0 * h n=0; rw [Jg h n]; omega
theorem L4 {f g f' g':Nat→Int}:∀ {n:Nat},(∀ j,j < n→f j=f' j∧g j=g' j)→HO f g n=HO f' g' n
 | 0,_=>rfl
 | n+1,h=>by
   show HO f g n+f n * g n=HO f' g' n+f' n * g' n
   rw [L4 (fun j hj=>h j (by omega)),(h n (by omega)).1,(h n (by omega)).2]
theorem L3 (D:Int) (k:Nat) (g:Nat→Int):∀ n,HO (fun j=>if k=j then D else 0) g n=if k < n then D * g k else 0
 | 0=>by rw [Ai (Bs _)]; rfl
 | n+1=>by
   show HO _ g n+(if k=n then D else 0) * g n=_
   rw [L3 D k g n]
   by_cases h1:k < n
   ·rw [Aj h1,Ai (by omega),Aj (by omega)]; omega
   ·by_cases h2:k=n
    ·subst h2; rw [Ai h1,Aj rfl,Aj (by omega)]; omega
    ·rw [Ai h1,Ai h2,Ai (by omega)]; omega
theorem V6 {x y:Int} (hy:y≠0):((x:Rat) / (y:Rat)).num.natAbs≤x.natAbs∧((x:Rat) / (y:Rat)).den≤y.natAbs:=by
 have e:(x:Rat) / (y:Rat)=Rat.divInt x y:=(Rat.divInt_eq_div _ _).symm
 rw [e]
 constructor
 ·rw [XW]
  refine AE (Yb _ _) ?_
  rw [BD,Fl hy,Ex]; exact Ag _
 ·rw [XX,Ai hy]; exact C1 _ _

theorem Nl (c:UInt8) (r:List UInt8):∀ (x:List UInt8),c ∉ x→Lib.index (x ++ c :: r) [c]=x.length
 | [],_=>by
   show (if ([c]:List UInt8).isPrefixOf (c :: r) then (0:Int) else _)=0
   rw [Aj (by simp [List.isPrefixOf])]
 | b :: x,h=>by
   have h1:c≠b:=fun e=>h (by rw [e]; exact Bp)
   have h2:c ∉ x:=fun e=>h (BX _ e)
   show (if ([c]:List UInt8).isPrefixOf (b :: (x ++ c :: r)) then (0:Int) else if Lib.index (x ++ c :: r) [c] == -1 then -1 else Lib.index (x ++ c :: r) [c]+1)=_
   rw [Ai (by simp [List.isPrefixOf,h1]),Nl c r x h2,Ai (by simp),A3]
   omega
theorem GF (sep x:List UInt8) (r:List (List UInt8)):Lib.joinTail sep (x :: r)=sep ++ x ++ Lib.joinTail sep r:=by
 unfold Lib.joinTail; simp
theorem KJ:∀ (ws:List (List UInt8)) (w0:List UInt8),(∀ w,w ∈ w0 :: ws→(32:UInt8) ∉ w)→Lib.splitK [32] 0 ws.length (w0 ++ Lib.joinTail [32] ws)=w0 :: ws
 | [],w0,_=>by show [w0 ++ Lib.joinTail [32] []]=_; unfold Lib.joinTail; simp
 | x :: ws,w0,h=>by
   have hi:Lib.index (w0 ++ Lib.joinTail [32] (x :: ws)) [32]=w0.length:=by
    rw [GF]
    exact Nl 32 _ w0 (h w0 Bp)
   have ih:=KJ ws x (fun w hw=>h w (BX _ hw))
   rw [A3]
   unfold Lib.splitK
   rw [hi,Ai (by simp),GF]
   have e1:(w0 ++ ([32] ++ x ++ Lib.joinTail [32] ws)).take ((w0.length:Int).toNat+0)=w0:=by simp
   have e2:(w0 ++ ([32] ++ x ++ Lib.joinTail [32] ws)).drop ((w0.length:Int).toNat+([32]:List UInt8).length)=x ++ Lib.joinTail [32] ws:=by simp
   rw [e1,e2,ih]
theorem Ii:∀ (ws:List (List UInt8)),(∀ w,w ∈ ws→(32:UInt8) ∉ w)→(Lib.joinTail [32] ws).count 32=ws.length
 | [],_=>by unfold Lib.joinTail; simp
 | x :: ws,h=>by
   rw [GF,Tb,Tb,Ii ws (fun w hw=>h w (BX _ hw)),Vt (h x Bp),A3]
   simp; omega
theorem LR (w0:ByteArray) (ws:List ByteArray):(EP (w0 :: ws)).data.toList=w0.data.toList ++ Lib.joinTail [32] (ws.map (·.data.toList)):=by
 unfold EP
 rw [BQ,Lib.join_cons]
theorem KQ:∀ {a b:List ByteArray},a.map (·.data.toList)=b.map (·.data.toList)→a=b
 | [],[],_=>rfl
 | [],_ :: _,h=>by simp at h
 | _ :: _,[],h=>by simp at h
 | x :: a,y :: b,h=>by
   rw [BQ,BQ] at h
   injection h with h1 h2
   rw [Il h1,KQ h2]
theorem KI (w0:ByteArray) (ws:List ByteArray) (h:∀ w,w ∈ w0 :: ws→(32:UInt8) ∉ w.data.toList):Lib.countB (EP (w0 :: ws)) ⟨#[32]⟩=ws.length∧Lib.splitB ⟨#[32]⟩ 0 (Lib.countB (EP (w0 :: ws)) ⟨#[32]⟩) (EP (w0 :: ws))=w0 :: ws:=by
 have hc:Lib.countB (EP (w0 :: ws)) ⟨#[32]⟩=ws.length:=by
  show Lib.count (EP (w0 :: ws)).data.toList [32]=_
  rw [Lib.count_one,LR,Tb,Ii _ (fun w hw=>by
   obtain ⟨x,hx,rfl⟩:=Bg.1 hw
   exact h x (BX _ hx)),Vt (h w0 Bp),Am]
  omega
 refine ⟨hc, ?_⟩
 rw [hc]
 apply KQ
 rw [Lib.splitB_data,LR]
 have:=KJ (ws.map (·.data.toList)) w0.data.toList (fun w hw=>by
  rcases A1.1 hw with rfl | hw
  ·exact h w0 Bp
  ·obtain ⟨x,hx,rfl⟩:=Bg.1 hw
   exact h x (BX _ hx))
 rw [Am] at this
 exact this

end Go.Proofs.YtcglmebcfeoedaaGreatDoor
