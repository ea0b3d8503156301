/- The walks of letters, digits and names, of the program and of the reference. The walks of named and form of the reference, of names of package recall. -/
import Derived.Test.YtcmhompbdanpdaaGreatDoorRa
import Derived.Test.YtcmhompbdanpdaaGreatDoorChecked
import Derived.Lib.ConvBytes
import Derived.Lib.AtoiErrMem
namespace Go.Proofs.YtcmhompbdanpdaaGreatDoor
open Go.RowKit

theorem sAt {s : ByteArray} {k : Nat} (h : k < s.size) : s.data.toList.getD k 0 = s[k] := by
  rw [List.getD_eq_getElem?_getD, List.getElem?_eq_getElem (by simpa using h)]; rfl

end Go.Proofs.YtcmhompbdanpdaaGreatDoor
namespace Go.Proofs.YtcmhompbdanpdaaGreatDoor
open Go.RowKit

end Go.Proofs.YtcmhompbdanpdaaGreatDoor
