/- Contracts and laws: RM. -/
import Derived.Test.YtcglmebcfeoedaaGreatDoorRI
import Derived.Test.YtcglmebcfeoedaaGreatDoorRC
import Derived.Test.YtcglmebcfeoedaaGreatDoorRL

namespace Go.Proofs.YtcglmebcfeoedaaGreatDoor
open Go.RowKit Go.Lib
attribute [local go_sem ↓] Go.wp_at_zero Go.wp_at_succ
structure Links6 (w:World) (cb:Nat) (v0 v1 v2 v3 v4 v5:Value):Prop where
 c0:w.cell? ⟨cb,0,none⟩=some v0
 c1:w.cell? ⟨cb,1,none⟩=some v1
 c2:w.cell? ⟨cb,2,none⟩=some v2
 c3:w.cell? ⟨cb,3,none⟩=some v3
 c4:w.cell? ⟨cb,4,none⟩=some v4
 c5:w.cell? ⟨cb,5,none⟩=some v5
theorem Links6.fr {w w':World} {cb:Nat} {v0 v1 v2 v3 v4 v5:Value} (h:Links6 w cb v0 v1 v2 v3 v4 v5) (k:Fr w w'):Links6 w' cb v0 v1 v2 v3 v4 v5 :=
 ⟨k.keep h.c0,k.keep h.c1,k.keep h.c2,k.keep h.c3,k.keep h.c4,k.keep h.c5⟩
theorem Links6.new (w:World) (v0 v1 v2 v3 v4 v5:Value) (t:TypeId):Links6 (w.alloc (.cells #[v0,v1,v2,v3,v4,v5] t)) w.heap.size v0 v1 v2 v3 v4 v5:=by
 have hb:(w.alloc (.cells #[v0,v1,v2,v3,v4,v5] t)).heap[w.heap.size]?=some (.cells #[v0,v1,v2,v3,v4,v5] t (0,0)):=heap_alloc_new w _
 exact ⟨cells_of hb 0,cells_of hb 1,cells_of hb 2,cells_of hb 3,cells_of hb 4,cells_of hb 5⟩

end Go.Proofs.YtcglmebcfeoedaaGreatDoor
