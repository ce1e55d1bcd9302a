/- a small fact on rows of the call's own. -/
import Derived.Test.YtphjfalibnnohaaGreatDoorGG
namespace Go.Proofs.YtphjfalibnnohaaGreatDoor
open Go.RowKit Go.Lib
theorem ownsRow_own_ge {w : World} {base : Nat} {e : TypeId} {size : Nat} {v : Value} {n : Nat} {xs : List Value} (h : w.ownsRow base e size v n xs) (g : Nat) (hg : v.ownBlock = some g) : base ≤ g := by
  rcases h.2 with ⟨rfl, _⟩ | ⟨g', cap, cur, rfl, hb, _⟩
  · simp [Value.ownBlock] at hg
  · have : g' = g := by simpa [Value.ownBlock] using hg
    omega
end Go.Proofs.YtphjfalibnnohaaGreatDoor
