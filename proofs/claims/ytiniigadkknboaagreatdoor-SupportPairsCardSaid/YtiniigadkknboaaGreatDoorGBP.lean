/- Contracts and laws: GBP. -/
import Derived.Test.YtiniigadkknboaaGreatDoorGBN
import Derived.Test.YtiniigadkknboaaGreatDoorGBO

namespace Go.Proofs.YtiniigadkknboaaGreatDoor
open Go.RowKit Go.Lib
abbrev T3:=Int×Int×Int
def e0 (i:Nat) (t:T3):Int:=if i=0 then t.1 else if i=1 then t.2.1 else t.2.2
def n1 (a d g:Int) (i:Nat) (t:T3):Int:=if i=0 then t.1 else if i=1 then a * t.2.1 - d * t.1 else a * t.2.2 - g * t.1
def m3 (a d g b e h:Int) (t:T3):Int:=a * (e * t.2.2 - t.2.1 * h) - b * (d * t.2.2 - t.2.1 * g)+t.1 * (d * h - e * g)
def n2 (a d g b e h:Int) (i:Nat) (t:T3):Int:=if i=0 then e * t.1 - b * t.2.1 else if i=1 then a * t.2.1 - d * t.1 else m3 a d g b e h t
def c0 (b e h c f i:Int):T3:=(e * i - f * h,c * h - b * i,b * f - c * e)
def c1 (a d g c f i:Int):T3:=(f * g - d * i,a * i - c * g,c * d - a * f)
def c2 (a d g b e h:Int):T3:=(d * h - e * g,b * g - a * h,a * e - b * d)
def VN (t:T3):T3:=(t.1,t.2.2,t.2.1)

end Go.Proofs.YtiniigadkknboaaGreatDoor
