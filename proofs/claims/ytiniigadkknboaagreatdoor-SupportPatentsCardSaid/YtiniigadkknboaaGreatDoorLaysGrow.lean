/- Nothing of this kind lies in this seat. -/
import Derived.Test.YtiniigadkknboaaGreatDoorProg
