/- A part of the road: the interpreter of plain data and the proof that it is right. -/
import Derived.RowKit
set_option linter.unusedVariables false
set_option linter.unusedSimpArgs false
/- The place of a key in a cache. -/
namespace Go.Pv
open Go
/-- The place of a key. -/
def placeN (n : Nat) (k s : Int) : Nat := if (RowKit.wrap64 (RowKit.wrap64 (31 * k) + s)).tmod n < 0 then ((RowKit.wrap64 (RowKit.wrap64 (31 * k) + s)).tmod n + n).toNat else ((RowKit.wrap64 (RowKit.wrap64 (31 * k) + s)).tmod n).toNat
end Go.Pv
