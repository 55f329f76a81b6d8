/- A part of the road: the interpreter of plain data and the proof that it is right. -/
import Derived.KernelRfl
set_option linter.unusedVariables false
set_option linter.unusedSimpArgs false
/- Walks up through classes, and dictionaries, in plain words. -/
namespace Go.Pv
/-- Where a walk up through classes ends: at a round that leaves, or nowhere. -/
def upR (cls : Int → Bool) (sup : Int → Int) (top : Int → Bool) (goes : Int → Bool → Bool) : Nat → Int → Option (Int × Bool)
  | 0, _ => none
  | k + 1, c => if cls c = true then if goes c true = true then if top (sup c) = true then none else upR cls sup top goes k (sup c) else some (c, true) else if goes c false = true then none else some (c, false)
/-- The value behind a selector, in a dictionary's pairs. -/
def scan : List Int → Int → Option Int
  | k :: v :: r, s => if k = s then some v else scan r s
  | _, _ => none
def findR (r : Option (Int × Bool)) (dl : Int → List Int) (sel : Int) : Int × Int × Int :=
  match r with
  | none => (0, 0, 91)
  | some (_, false) => (0, 0, 90)
  | some (i, true) => ((scan (dl i) sel).getD 0, i, 0)
end Go.Pv
