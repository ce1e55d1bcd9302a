/- Contracts and laws: RPG. -/
import Derived.Test.YtcglmebcfeoedaaGreatDoorRP
import Derived.Test.YtcglmebcfeoedaaGreatDoorRL

namespace Go.Proofs.YtcglmebcfeoedaaGreatDoor
open Go.RowKit Go.Lib
attribute [local go_sem ↓] Go.wp_at_zero Go.wp_at_succ
def Er (w:World):Prop:=∃ ev,w.cell? ⟨1,0,none⟩=some ev∧(ev=.nilIface∨∃ te pe,ev=.iface te pe)
theorem Er.fr {w w':World} (h:Er w) (hf:Fr w w'):Er w':=h.imp fun _ h=>⟨hf.keep h.1,h.2⟩
def PsgRet (w:World) (N A:List Sy) (w0:ByteArray) (ws:List ByteArray) (d:Nat) (e:Ending) (w':World):Prop :=
 (prsE N A w0 ws=0→SpRet w (symI N w0) (cntT (pcsO ws) (atsN A ws) d ws.length) d e w')∧(prsE N A w0 ws≠0→e=.returned (.tuple #[.agg #[.int .i64 0,.slice none 0 0],.int .i64 (prsE N A w0 ws)])∧Fr w w')
theorem PsgRet.err {w w':World} {N A:List Sy} {w0:ByteArray} {ws:List ByteArray} {d:Nat} {E:Int} (h:prsE N A w0 ws=E) (h0:E≠0) (hf:Fr w w'):PsgRet w N A w0 ws d (.returned (.tuple #[.agg #[.int .i64 0,.slice none 0 0],.int .i64 E])) w':=by
 subst h
 exact ⟨fun e=>absurd e h0,fun _=>⟨rfl,hf⟩⟩

end Go.Proofs.YtcglmebcfeoedaaGreatDoor
