/-
  No cell of these rows narrows 'for every input' (looked for: loops, veiled, ifaces, maps, wideKeys, modest, calm, conditions, laid).
  DERIVED. THE GIVEN ROWS OF THIS SEAT. 28 by the template 'for every input the law returns true; each argument reads behind the call as it read before'; 0 by the template 'total and deterministic' (their statements: YtnleijomgjhplaaTotals.lean).
  GIVEN WITH THE SEED: the statements are not yours to turn. If you find one false, say at which input.
  Laid BY PROGRAM, IN A SANDBOX (cutbox-rows.mjs): the forced cells as the released guide's own fill.sh prints them over the translation 826e7dcffdafc595… (all of the seat's roots in one cut). By AI agents, Wed Nov 11 2026. No macro, syntax, notation, axiom, sorry.
-/
import Derived.Test.YtnleijomgjhplaaChecked
import GoSem.Claim
import GoSem.ClaimJoined
import GoSem.ClaimMapViews
import Derived.JoinedTies
import Derived.KernelRfl
namespace Go.Proofs.Ytnleijomgjhplaa
/- THE CELL 'sum', in the pinned program and in every row, IS THE sha256 OF THE DUMP (.gsa) THAT YtnleijomgjhplaaProg.lean LOADS. Nothing in Lean hashes anything: it is a label: what it is worth is what the hold of that sum in a sandbox is worth. -/
noncomputable def Try.pinned : Pinned := { name := "ytnleijomgjhplaa", sum := "826e7dcffdafc5956b4121a229ad91971fe73d7745586f30cd833b0c1edd95e1", checked := Try.checked }
namespace Rows
def none {H : Type} : Left H := { results := [], args := [] }

/-- 'anamnesislaw22.PointsTell': WHATEVER THE INPUT: true; the input reads as it did. -/
def pointsTellSpec : ChangeSpec := { name := "pointsTell", fn := fun _ => fun
  | [d1, d2, d3] => { results := [.lit (.bool true)], args := [d1, d2, d3] }
  | _ => none }
def pointsTellRow : OpenClaim := { program := "ytnleijomgjhplaa", sum := "826e7dcffdafc5956b4121a229ad91971fe73d7745586f30cd833b0c1edd95e1", func := "anamnesis/anamnesislaw22.PointsTell", spec := "pointsTell", inPlace := ["math.Float64frombits", "math.Float64bits"], unfollowed := true, recurses := true, apart := false }
def PointsTellSaid : Prop := pointsTellRow.holds Try.pinned (OpenSpec.ofChange pointsTellSpec)

/-- ITS FALSE NEIGHBOUR: 'it returns false'. Refute it at one input. -/
def pointsTellWrong : ChangeSpec := { name := "pointsTell", fn := fun _ => fun
  | [d1, d2, d3] => { results := [.lit (.bool false)], args := [d1, d2, d3] }
  | _ => none }
def PointsTellWrongFalsely : Prop := pointsTellRow.holds Try.pinned (OpenSpec.ofChange pointsTellWrong)

/-- 'anamnesislaw22.PointsKeep': WHATEVER THE INPUT: true; the input reads as it did. -/
def pointsKeepSpec : ChangeSpec := { name := "pointsKeep", fn := fun _ => fun
  | [d1, d2, d3] => { results := [.lit (.bool true)], args := [d1, d2, d3] }
  | _ => none }
def pointsKeepRow : OpenClaim := { program := "ytnleijomgjhplaa", sum := "826e7dcffdafc5956b4121a229ad91971fe73d7745586f30cd833b0c1edd95e1", func := "anamnesis/anamnesislaw22.PointsKeep", spec := "pointsKeep", inPlace := ["math.Float64frombits", "math.Float64bits"], unfollowed := true, recurses := true, apart := false }
def PointsKeepSaid : Prop := pointsKeepRow.holds Try.pinned (OpenSpec.ofChange pointsKeepSpec)

/-- ITS FALSE NEIGHBOUR: 'it returns false'. Refute it at one input. -/
def pointsKeepWrong : ChangeSpec := { name := "pointsKeep", fn := fun _ => fun
  | [d1, d2, d3] => { results := [.lit (.bool false)], args := [d1, d2, d3] }
  | _ => none }
def PointsKeepWrongFalsely : Prop := pointsKeepRow.holds Try.pinned (OpenSpec.ofChange pointsKeepWrong)

/-- 'anamnesislaw22.PointsBest': WHATEVER THE INPUT: true; the input reads as it did. -/
def pointsBestSpec : ChangeSpec := { name := "pointsBest", fn := fun _ => fun
  | [d1, d2] => { results := [.lit (.bool true)], args := [d1, d2] }
  | _ => none }
def pointsBestRow : OpenClaim := { program := "ytnleijomgjhplaa", sum := "826e7dcffdafc5956b4121a229ad91971fe73d7745586f30cd833b0c1edd95e1", func := "anamnesis/anamnesislaw22.PointsBest", spec := "pointsBest", inPlace := ["math.Float64frombits", "math.Float64bits"], unfollowed := true, recurses := true, apart := false }
def PointsBestSaid : Prop := pointsBestRow.holds Try.pinned (OpenSpec.ofChange pointsBestSpec)

/-- ITS FALSE NEIGHBOUR: 'it returns false'. Refute it at one input. -/
def pointsBestWrong : ChangeSpec := { name := "pointsBest", fn := fun _ => fun
  | [d1, d2] => { results := [.lit (.bool false)], args := [d1, d2] }
  | _ => none }
def PointsBestWrongFalsely : Prop := pointsBestRow.holds Try.pinned (OpenSpec.ofChange pointsBestWrong)

/-- 'anamnesislaw22.PointsAgain': WHATEVER THE INPUT: true; the input reads as it did. -/
def pointsAgainSpec : ChangeSpec := { name := "pointsAgain", fn := fun _ => fun
  | [d1, d2, d3] => { results := [.lit (.bool true)], args := [d1, d2, d3] }
  | _ => none }
def pointsAgainRow : OpenClaim := { program := "ytnleijomgjhplaa", sum := "826e7dcffdafc5956b4121a229ad91971fe73d7745586f30cd833b0c1edd95e1", func := "anamnesis/anamnesislaw22.PointsAgain", spec := "pointsAgain", inPlace := ["math.Float64frombits", "math.Float64bits"], unfollowed := true, recurses := true, apart := false }
def PointsAgainSaid : Prop := pointsAgainRow.holds Try.pinned (OpenSpec.ofChange pointsAgainSpec)

/-- ITS FALSE NEIGHBOUR: 'it returns false'. Refute it at one input. -/
def pointsAgainWrong : ChangeSpec := { name := "pointsAgain", fn := fun _ => fun
  | [d1, d2, d3] => { results := [.lit (.bool false)], args := [d1, d2, d3] }
  | _ => none }
def PointsAgainWrongFalsely : Prop := pointsAgainRow.holds Try.pinned (OpenSpec.ofChange pointsAgainWrong)

/-- 'anamnesislaw22.PointsFirst': WHATEVER THE INPUT: true; the input reads as it did. -/
def pointsFirstSpec : ChangeSpec := { name := "pointsFirst", fn := fun _ => fun
  | [d1, d2, d3] => { results := [.lit (.bool true)], args := [d1, d2, d3] }
  | _ => none }
def pointsFirstRow : OpenClaim := { program := "ytnleijomgjhplaa", sum := "826e7dcffdafc5956b4121a229ad91971fe73d7745586f30cd833b0c1edd95e1", func := "anamnesis/anamnesislaw22.PointsFirst", spec := "pointsFirst", inPlace := ["math.Float64frombits", "math.Float64bits"], unfollowed := true, recurses := true, apart := false }
def PointsFirstSaid : Prop := pointsFirstRow.holds Try.pinned (OpenSpec.ofChange pointsFirstSpec)

/-- ITS FALSE NEIGHBOUR: 'it returns false'. Refute it at one input. -/
def pointsFirstWrong : ChangeSpec := { name := "pointsFirst", fn := fun _ => fun
  | [d1, d2, d3] => { results := [.lit (.bool false)], args := [d1, d2, d3] }
  | _ => none }
def PointsFirstWrongFalsely : Prop := pointsFirstRow.holds Try.pinned (OpenSpec.ofChange pointsFirstWrong)

/-- 'anamnesislaw04.MarkTells': WHATEVER THE INPUT: true; the input reads as it did. -/
def markTellsSpec : ChangeSpec := { name := "markTells", fn := fun _ => fun
  | [d1, d2, d3] => { results := [.lit (.bool true)], args := [d1, d2, d3] }
  | _ => none }
def markTellsRow : OpenClaim := { program := "ytnleijomgjhplaa", sum := "826e7dcffdafc5956b4121a229ad91971fe73d7745586f30cd833b0c1edd95e1", func := "anamnesis/anamnesislaw04.MarkTells", spec := "markTells", inPlace := ["math.Float64frombits", "math.Float64bits"], unfollowed := true, recurses := true, apart := false }
def MarkTellsSaid : Prop := markTellsRow.holds Try.pinned (OpenSpec.ofChange markTellsSpec)

/-- ITS FALSE NEIGHBOUR: 'it returns false'. Refute it at one input. -/
def markTellsWrong : ChangeSpec := { name := "markTells", fn := fun _ => fun
  | [d1, d2, d3] => { results := [.lit (.bool false)], args := [d1, d2, d3] }
  | _ => none }
def MarkTellsWrongFalsely : Prop := markTellsRow.holds Try.pinned (OpenSpec.ofChange markTellsWrong)

/-- 'anamnesislaw04.MarkCloses': WHATEVER THE INPUT: true; the input reads as it did. -/
def markClosesSpec : ChangeSpec := { name := "markCloses", fn := fun _ => fun
  | [d1, d2] => { results := [.lit (.bool true)], args := [d1, d2] }
  | _ => none }
def markClosesRow : OpenClaim := { program := "ytnleijomgjhplaa", sum := "826e7dcffdafc5956b4121a229ad91971fe73d7745586f30cd833b0c1edd95e1", func := "anamnesis/anamnesislaw04.MarkCloses", spec := "markCloses", inPlace := ["math.Float64frombits", "math.Float64bits"], unfollowed := true, recurses := true, apart := false }
def MarkClosesSaid : Prop := markClosesRow.holds Try.pinned (OpenSpec.ofChange markClosesSpec)

/-- ITS FALSE NEIGHBOUR: 'it returns false'. Refute it at one input. -/
def markClosesWrong : ChangeSpec := { name := "markCloses", fn := fun _ => fun
  | [d1, d2] => { results := [.lit (.bool false)], args := [d1, d2] }
  | _ => none }
def MarkClosesWrongFalsely : Prop := markClosesRow.holds Try.pinned (OpenSpec.ofChange markClosesWrong)

/-- 'anamnesislaw04.MarkLess': WHATEVER THE INPUT: true; the input reads as it did. -/
def markLessSpec : ChangeSpec := { name := "markLess", fn := fun _ => fun
  | [d1, d2, d3] => { results := [.lit (.bool true)], args := [d1, d2, d3] }
  | _ => none }
def markLessRow : OpenClaim := { program := "ytnleijomgjhplaa", sum := "826e7dcffdafc5956b4121a229ad91971fe73d7745586f30cd833b0c1edd95e1", func := "anamnesis/anamnesislaw04.MarkLess", spec := "markLess", inPlace := ["math.Float64frombits", "math.Float64bits"], unfollowed := true, recurses := true, apart := false }
def MarkLessSaid : Prop := markLessRow.holds Try.pinned (OpenSpec.ofChange markLessSpec)

/-- ITS FALSE NEIGHBOUR: 'it returns false'. Refute it at one input. -/
def markLessWrong : ChangeSpec := { name := "markLess", fn := fun _ => fun
  | [d1, d2, d3] => { results := [.lit (.bool false)], args := [d1, d2, d3] }
  | _ => none }
def MarkLessWrongFalsely : Prop := markLessRow.holds Try.pinned (OpenSpec.ofChange markLessWrong)

/-- 'anamnesislaw04.MarkAll': WHATEVER THE INPUT: true; the input reads as it did. -/
def markAllSpec : ChangeSpec := { name := "markAll", fn := fun _ => fun
  | [d1, d2] => { results := [.lit (.bool true)], args := [d1, d2] }
  | _ => none }
def markAllRow : OpenClaim := { program := "ytnleijomgjhplaa", sum := "826e7dcffdafc5956b4121a229ad91971fe73d7745586f30cd833b0c1edd95e1", func := "anamnesis/anamnesislaw04.MarkAll", spec := "markAll", inPlace := ["math.Float64frombits", "math.Float64bits"], unfollowed := true, recurses := true, apart := false }
def MarkAllSaid : Prop := markAllRow.holds Try.pinned (OpenSpec.ofChange markAllSpec)

/-- ITS FALSE NEIGHBOUR: 'it returns false'. Refute it at one input. -/
def markAllWrong : ChangeSpec := { name := "markAll", fn := fun _ => fun
  | [d1, d2] => { results := [.lit (.bool false)], args := [d1, d2] }
  | _ => none }
def MarkAllWrongFalsely : Prop := markAllRow.holds Try.pinned (OpenSpec.ofChange markAllWrong)

/-- 'anamnesislaw06.CanonTells': WHATEVER THE INPUT: true; the input reads as it did. -/
def canonTellsSpec : ChangeSpec := { name := "canonTells", fn := fun _ => fun
  | [d1, d2] => { results := [.lit (.bool true)], args := [d1, d2] }
  | _ => none }
def canonTellsRow : OpenClaim := { program := "ytnleijomgjhplaa", sum := "826e7dcffdafc5956b4121a229ad91971fe73d7745586f30cd833b0c1edd95e1", func := "anamnesis/anamnesislaw06.CanonTells", spec := "canonTells", inPlace := ["math.Float64frombits", "math.Float64bits"], unfollowed := true, recurses := true, apart := false }
def CanonTellsSaid : Prop := canonTellsRow.holds Try.pinned (OpenSpec.ofChange canonTellsSpec)

/-- ITS FALSE NEIGHBOUR: 'it returns false'. Refute it at one input. -/
def canonTellsWrong : ChangeSpec := { name := "canonTells", fn := fun _ => fun
  | [d1, d2] => { results := [.lit (.bool false)], args := [d1, d2] }
  | _ => none }
def CanonTellsWrongFalsely : Prop := canonTellsRow.holds Try.pinned (OpenSpec.ofChange canonTellsWrong)

/-- 'anamnesislaw06.CanonSame': WHATEVER THE INPUT: true; the input reads as it did. -/
def canonSameSpec : ChangeSpec := { name := "canonSame", fn := fun _ => fun
  | [d1, d2] => { results := [.lit (.bool true)], args := [d1, d2] }
  | _ => none }
def canonSameRow : OpenClaim := { program := "ytnleijomgjhplaa", sum := "826e7dcffdafc5956b4121a229ad91971fe73d7745586f30cd833b0c1edd95e1", func := "anamnesis/anamnesislaw06.CanonSame", spec := "canonSame", inPlace := ["math.Float64frombits", "math.Float64bits"], unfollowed := true, recurses := true, apart := false }
def CanonSameSaid : Prop := canonSameRow.holds Try.pinned (OpenSpec.ofChange canonSameSpec)

/-- ITS FALSE NEIGHBOUR: 'it returns false'. Refute it at one input. -/
def canonSameWrong : ChangeSpec := { name := "canonSame", fn := fun _ => fun
  | [d1, d2] => { results := [.lit (.bool false)], args := [d1, d2] }
  | _ => none }
def CanonSameWrongFalsely : Prop := canonSameRow.holds Try.pinned (OpenSpec.ofChange canonSameWrong)

/-- 'anamnesislaw06.CanonRenames': WHATEVER THE INPUT: true; the input reads as it did. -/
def canonRenamesSpec : ChangeSpec := { name := "canonRenames", fn := fun _ => fun
  | [d1, d2] => { results := [.lit (.bool true)], args := [d1, d2] }
  | _ => none }
def canonRenamesRow : OpenClaim := { program := "ytnleijomgjhplaa", sum := "826e7dcffdafc5956b4121a229ad91971fe73d7745586f30cd833b0c1edd95e1", func := "anamnesis/anamnesislaw06.CanonRenames", spec := "canonRenames", inPlace := ["math.Float64frombits", "math.Float64bits"], unfollowed := true, recurses := true, apart := false }
def CanonRenamesSaid : Prop := canonRenamesRow.holds Try.pinned (OpenSpec.ofChange canonRenamesSpec)

/-- ITS FALSE NEIGHBOUR: 'it returns false'. Refute it at one input. -/
def canonRenamesWrong : ChangeSpec := { name := "canonRenames", fn := fun _ => fun
  | [d1, d2] => { results := [.lit (.bool false)], args := [d1, d2] }
  | _ => none }
def CanonRenamesWrongFalsely : Prop := canonRenamesRow.holds Try.pinned (OpenSpec.ofChange canonRenamesWrong)

/-- 'anamnesislaw06.CanonLeast': WHATEVER THE INPUT: true; the input reads as it did. -/
def canonLeastSpec : ChangeSpec := { name := "canonLeast", fn := fun _ => fun
  | [d1, d2] => { results := [.lit (.bool true)], args := [d1, d2] }
  | _ => none }
def canonLeastRow : OpenClaim := { program := "ytnleijomgjhplaa", sum := "826e7dcffdafc5956b4121a229ad91971fe73d7745586f30cd833b0c1edd95e1", func := "anamnesis/anamnesislaw06.CanonLeast", spec := "canonLeast", inPlace := ["math.Float64frombits", "math.Float64bits"], unfollowed := true, recurses := true, apart := false }
def CanonLeastSaid : Prop := canonLeastRow.holds Try.pinned (OpenSpec.ofChange canonLeastSpec)

/-- ITS FALSE NEIGHBOUR: 'it returns false'. Refute it at one input. -/
def canonLeastWrong : ChangeSpec := { name := "canonLeast", fn := fun _ => fun
  | [d1, d2] => { results := [.lit (.bool false)], args := [d1, d2] }
  | _ => none }
def CanonLeastWrongFalsely : Prop := canonLeastRow.holds Try.pinned (OpenSpec.ofChange canonLeastWrong)

/-- 'anamnesislaw06.CanonEqual': WHATEVER THE INPUT: true; the input reads as it did. -/
def canonEqualSpec : ChangeSpec := { name := "canonEqual", fn := fun _ => fun
  | [d1, d2, d3] => { results := [.lit (.bool true)], args := [d1, d2, d3] }
  | _ => none }
def canonEqualRow : OpenClaim := { program := "ytnleijomgjhplaa", sum := "826e7dcffdafc5956b4121a229ad91971fe73d7745586f30cd833b0c1edd95e1", func := "anamnesis/anamnesislaw06.CanonEqual", spec := "canonEqual", inPlace := ["math.Float64frombits", "math.Float64bits"], unfollowed := true, recurses := true, apart := false }
def CanonEqualSaid : Prop := canonEqualRow.holds Try.pinned (OpenSpec.ofChange canonEqualSpec)

/-- ITS FALSE NEIGHBOUR: 'it returns false'. Refute it at one input. -/
def canonEqualWrong : ChangeSpec := { name := "canonEqual", fn := fun _ => fun
  | [d1, d2, d3] => { results := [.lit (.bool false)], args := [d1, d2, d3] }
  | _ => none }
def CanonEqualWrongFalsely : Prop := canonEqualRow.holds Try.pinned (OpenSpec.ofChange canonEqualWrong)

/-- 'anamnesislaw06.CanonRoots': WHATEVER THE INPUT: true; the input reads as it did. -/
def canonRootsSpec : ChangeSpec := { name := "canonRoots", fn := fun _ => fun
  | [d] => { results := [.lit (.bool true)], args := [d] }
  | _ => none }
def canonRootsRow : OpenClaim := { program := "ytnleijomgjhplaa", sum := "826e7dcffdafc5956b4121a229ad91971fe73d7745586f30cd833b0c1edd95e1", func := "anamnesis/anamnesislaw06.CanonRoots", spec := "canonRoots", inPlace := ["math.Float64frombits", "math.Float64bits"], unfollowed := true, recurses := true, apart := false }
def CanonRootsSaid : Prop := canonRootsRow.holds Try.pinned (OpenSpec.ofChange canonRootsSpec)

/-- ITS FALSE NEIGHBOUR: 'it returns false'. Refute it at one input. -/
def canonRootsWrong : ChangeSpec := { name := "canonRoots", fn := fun _ => fun
  | [d] => { results := [.lit (.bool false)], args := [d] }
  | _ => none }
def CanonRootsWrongFalsely : Prop := canonRootsRow.holds Try.pinned (OpenSpec.ofChange canonRootsWrong)

/-- 'anamnesislaw19.RecordTells': WHATEVER THE INPUT: true; the input reads as it did. -/
def recordTellsSpec : ChangeSpec := { name := "recordTells", fn := fun _ => fun
  | [d1, d2, d3] => { results := [.lit (.bool true)], args := [d1, d2, d3] }
  | _ => none }
def recordTellsRow : OpenClaim := { program := "ytnleijomgjhplaa", sum := "826e7dcffdafc5956b4121a229ad91971fe73d7745586f30cd833b0c1edd95e1", func := "anamnesis/anamnesislaw19.RecordTells", spec := "recordTells", inPlace := ["math.Float64frombits", "math.Float64bits"], unfollowed := true, recurses := true, apart := false }
def RecordTellsSaid : Prop := recordTellsRow.holds Try.pinned (OpenSpec.ofChange recordTellsSpec)

/-- ITS FALSE NEIGHBOUR: 'it returns false'. Refute it at one input. -/
def recordTellsWrong : ChangeSpec := { name := "recordTells", fn := fun _ => fun
  | [d1, d2, d3] => { results := [.lit (.bool false)], args := [d1, d2, d3] }
  | _ => none }
def RecordTellsWrongFalsely : Prop := recordTellsRow.holds Try.pinned (OpenSpec.ofChange recordTellsWrong)

/-- 'anamnesislaw19.RecordUndoes': WHATEVER THE INPUT: true; the input reads as it did. -/
def recordUndoesSpec : ChangeSpec := { name := "recordUndoes", fn := fun _ => fun
  | [d1, d2] => { results := [.lit (.bool true)], args := [d1, d2] }
  | _ => none }
def recordUndoesRow : OpenClaim := { program := "ytnleijomgjhplaa", sum := "826e7dcffdafc5956b4121a229ad91971fe73d7745586f30cd833b0c1edd95e1", func := "anamnesis/anamnesislaw19.RecordUndoes", spec := "recordUndoes", inPlace := ["math.Float64frombits", "math.Float64bits"], unfollowed := true, recurses := true, apart := false }
def RecordUndoesSaid : Prop := recordUndoesRow.holds Try.pinned (OpenSpec.ofChange recordUndoesSpec)

/-- ITS FALSE NEIGHBOUR: 'it returns false'. Refute it at one input. -/
def recordUndoesWrong : ChangeSpec := { name := "recordUndoes", fn := fun _ => fun
  | [d1, d2] => { results := [.lit (.bool false)], args := [d1, d2] }
  | _ => none }
def RecordUndoesWrongFalsely : Prop := recordUndoesRow.holds Try.pinned (OpenSpec.ofChange recordUndoesWrong)

/-- 'anamnesislaw19.RecordNone': WHATEVER THE INPUT: true; the input reads as it did. -/
def recordNoneSpec : ChangeSpec := { name := "recordNone", fn := fun _ => fun
  | [d1, d2] => { results := [.lit (.bool true)], args := [d1, d2] }
  | _ => none }
def recordNoneRow : OpenClaim := { program := "ytnleijomgjhplaa", sum := "826e7dcffdafc5956b4121a229ad91971fe73d7745586f30cd833b0c1edd95e1", func := "anamnesis/anamnesislaw19.RecordNone", spec := "recordNone", inPlace := ["math.Float64frombits", "math.Float64bits"], unfollowed := true, recurses := true, apart := false }
def RecordNoneSaid : Prop := recordNoneRow.holds Try.pinned (OpenSpec.ofChange recordNoneSpec)

/-- ITS FALSE NEIGHBOUR: 'it returns false'. Refute it at one input. -/
def recordNoneWrong : ChangeSpec := { name := "recordNone", fn := fun _ => fun
  | [d1, d2] => { results := [.lit (.bool false)], args := [d1, d2] }
  | _ => none }
def RecordNoneWrongFalsely : Prop := recordNoneRow.holds Try.pinned (OpenSpec.ofChange recordNoneWrong)

/-- 'anamnesislaw05.MoveTells': WHATEVER THE INPUT: true; the input reads as it did. -/
def moveTellsSpec : ChangeSpec := { name := "moveTells", fn := fun _ => fun
  | [d1, d2, d3] => { results := [.lit (.bool true)], args := [d1, d2, d3] }
  | _ => none }
def moveTellsRow : OpenClaim := { program := "ytnleijomgjhplaa", sum := "826e7dcffdafc5956b4121a229ad91971fe73d7745586f30cd833b0c1edd95e1", func := "anamnesis/anamnesislaw05.MoveTells", spec := "moveTells", inPlace := ["math.Float64frombits", "math.Float64bits"], unfollowed := true, recurses := true, apart := false }
def MoveTellsSaid : Prop := moveTellsRow.holds Try.pinned (OpenSpec.ofChange moveTellsSpec)

/-- ITS FALSE NEIGHBOUR: 'it returns false'. Refute it at one input. -/
def moveTellsWrong : ChangeSpec := { name := "moveTells", fn := fun _ => fun
  | [d1, d2, d3] => { results := [.lit (.bool false)], args := [d1, d2, d3] }
  | _ => none }
def MoveTellsWrongFalsely : Prop := moveTellsRow.holds Try.pinned (OpenSpec.ofChange moveTellsWrong)

/-- 'anamnesislaw05.MoveWhole': WHATEVER THE INPUT: true; the input reads as it did. -/
def moveWholeSpec : ChangeSpec := { name := "moveWhole", fn := fun _ => fun
  | [d1, d2] => { results := [.lit (.bool true)], args := [d1, d2] }
  | _ => none }
def moveWholeRow : OpenClaim := { program := "ytnleijomgjhplaa", sum := "826e7dcffdafc5956b4121a229ad91971fe73d7745586f30cd833b0c1edd95e1", func := "anamnesis/anamnesislaw05.MoveWhole", spec := "moveWhole", inPlace := ["math.Float64frombits", "math.Float64bits"], unfollowed := true, recurses := true, apart := false }
def MoveWholeSaid : Prop := moveWholeRow.holds Try.pinned (OpenSpec.ofChange moveWholeSpec)

/-- ITS FALSE NEIGHBOUR: 'it returns false'. Refute it at one input. -/
def moveWholeWrong : ChangeSpec := { name := "moveWhole", fn := fun _ => fun
  | [d1, d2] => { results := [.lit (.bool false)], args := [d1, d2] }
  | _ => none }
def MoveWholeWrongFalsely : Prop := moveWholeRow.holds Try.pinned (OpenSpec.ofChange moveWholeWrong)

/-- 'anamnesislaw05.MoveWays': WHATEVER THE INPUT: true; the input reads as it did. -/
def moveWaysSpec : ChangeSpec := { name := "moveWays", fn := fun _ => fun
  | [d1, d2, d3] => { results := [.lit (.bool true)], args := [d1, d2, d3] }
  | _ => none }
def moveWaysRow : OpenClaim := { program := "ytnleijomgjhplaa", sum := "826e7dcffdafc5956b4121a229ad91971fe73d7745586f30cd833b0c1edd95e1", func := "anamnesis/anamnesislaw05.MoveWays", spec := "moveWays", inPlace := ["math.Float64frombits", "math.Float64bits"], unfollowed := true, recurses := true, apart := false }
def MoveWaysSaid : Prop := moveWaysRow.holds Try.pinned (OpenSpec.ofChange moveWaysSpec)

/-- ITS FALSE NEIGHBOUR: 'it returns false'. Refute it at one input. -/
def moveWaysWrong : ChangeSpec := { name := "moveWays", fn := fun _ => fun
  | [d1, d2, d3] => { results := [.lit (.bool false)], args := [d1, d2, d3] }
  | _ => none }
def MoveWaysWrongFalsely : Prop := moveWaysRow.holds Try.pinned (OpenSpec.ofChange moveWaysWrong)

/-- 'anamnesislaw05.MoveRoom': WHATEVER THE INPUT: true; the input reads as it did. -/
def moveRoomSpec : ChangeSpec := { name := "moveRoom", fn := fun _ => fun
  | [d1, d2] => { results := [.lit (.bool true)], args := [d1, d2] }
  | _ => none }
def moveRoomRow : OpenClaim := { program := "ytnleijomgjhplaa", sum := "826e7dcffdafc5956b4121a229ad91971fe73d7745586f30cd833b0c1edd95e1", func := "anamnesis/anamnesislaw05.MoveRoom", spec := "moveRoom", inPlace := ["math.Float64frombits", "math.Float64bits"], unfollowed := true, recurses := true, apart := false }
def MoveRoomSaid : Prop := moveRoomRow.holds Try.pinned (OpenSpec.ofChange moveRoomSpec)

/-- ITS FALSE NEIGHBOUR: 'it returns false'. Refute it at one input. -/
def moveRoomWrong : ChangeSpec := { name := "moveRoom", fn := fun _ => fun
  | [d1, d2] => { results := [.lit (.bool false)], args := [d1, d2] }
  | _ => none }
def MoveRoomWrongFalsely : Prop := moveRoomRow.holds Try.pinned (OpenSpec.ofChange moveRoomWrong)

/-- 'anamnesislaw05.MoveValues': WHATEVER THE INPUT: true; the input reads as it did. -/
def moveValuesSpec : ChangeSpec := { name := "moveValues", fn := fun _ => fun
  | [d1, d2, d3] => { results := [.lit (.bool true)], args := [d1, d2, d3] }
  | _ => none }
def moveValuesRow : OpenClaim := { program := "ytnleijomgjhplaa", sum := "826e7dcffdafc5956b4121a229ad91971fe73d7745586f30cd833b0c1edd95e1", func := "anamnesis/anamnesislaw05.MoveValues", spec := "moveValues", inPlace := ["math.Float64frombits", "math.Float64bits"], unfollowed := true, recurses := true, apart := false }
def MoveValuesSaid : Prop := moveValuesRow.holds Try.pinned (OpenSpec.ofChange moveValuesSpec)

/-- ITS FALSE NEIGHBOUR: 'it returns false'. Refute it at one input. -/
def moveValuesWrong : ChangeSpec := { name := "moveValues", fn := fun _ => fun
  | [d1, d2, d3] => { results := [.lit (.bool false)], args := [d1, d2, d3] }
  | _ => none }
def MoveValuesWrongFalsely : Prop := moveValuesRow.holds Try.pinned (OpenSpec.ofChange moveValuesWrong)

/-- 'anamnesislaw15.ShapeTells': WHATEVER THE INPUT: true; the input reads as it did. -/
def shapeTellsSpec : ChangeSpec := { name := "shapeTells", fn := fun _ => fun
  | [d] => { results := [.lit (.bool true)], args := [d] }
  | _ => none }
def shapeTellsRow : OpenClaim := { program := "ytnleijomgjhplaa", sum := "826e7dcffdafc5956b4121a229ad91971fe73d7745586f30cd833b0c1edd95e1", func := "anamnesis/anamnesislaw15.ShapeTells", spec := "shapeTells", inPlace := ["math.Float64frombits", "math.Float64bits"], unfollowed := true, recurses := true, apart := false }
def ShapeTellsSaid : Prop := shapeTellsRow.holds Try.pinned (OpenSpec.ofChange shapeTellsSpec)

/-- ITS FALSE NEIGHBOUR: 'it returns false'. Refute it at one input. -/
def shapeTellsWrong : ChangeSpec := { name := "shapeTells", fn := fun _ => fun
  | [d] => { results := [.lit (.bool false)], args := [d] }
  | _ => none }
def ShapeTellsWrongFalsely : Prop := shapeTellsRow.holds Try.pinned (OpenSpec.ofChange shapeTellsWrong)

/-- 'anamnesislaw15.ShapeSame': WHATEVER THE INPUT: true; the input reads as it did. -/
def shapeSameSpec : ChangeSpec := { name := "shapeSame", fn := fun _ => fun
  | [d1, d2] => { results := [.lit (.bool true)], args := [d1, d2] }
  | _ => none }
def shapeSameRow : OpenClaim := { program := "ytnleijomgjhplaa", sum := "826e7dcffdafc5956b4121a229ad91971fe73d7745586f30cd833b0c1edd95e1", func := "anamnesis/anamnesislaw15.ShapeSame", spec := "shapeSame", inPlace := ["math.Float64frombits", "math.Float64bits"], unfollowed := true, recurses := true, apart := false }
def ShapeSameSaid : Prop := shapeSameRow.holds Try.pinned (OpenSpec.ofChange shapeSameSpec)

/-- ITS FALSE NEIGHBOUR: 'it returns false'. Refute it at one input. -/
def shapeSameWrong : ChangeSpec := { name := "shapeSame", fn := fun _ => fun
  | [d1, d2] => { results := [.lit (.bool false)], args := [d1, d2] }
  | _ => none }
def ShapeSameWrongFalsely : Prop := shapeSameRow.holds Try.pinned (OpenSpec.ofChange shapeSameWrong)

/-- 'anamnesislaw15.ShapeCollects': WHATEVER THE INPUT: true; the input reads as it did. -/
def shapeCollectsSpec : ChangeSpec := { name := "shapeCollects", fn := fun _ => fun
  | [d] => { results := [.lit (.bool true)], args := [d] }
  | _ => none }
def shapeCollectsRow : OpenClaim := { program := "ytnleijomgjhplaa", sum := "826e7dcffdafc5956b4121a229ad91971fe73d7745586f30cd833b0c1edd95e1", func := "anamnesis/anamnesislaw15.ShapeCollects", spec := "shapeCollects", inPlace := ["math.Float64frombits", "math.Float64bits"], unfollowed := true, recurses := true, apart := false }
def ShapeCollectsSaid : Prop := shapeCollectsRow.holds Try.pinned (OpenSpec.ofChange shapeCollectsSpec)

/-- ITS FALSE NEIGHBOUR: 'it returns false'. Refute it at one input. -/
def shapeCollectsWrong : ChangeSpec := { name := "shapeCollects", fn := fun _ => fun
  | [d] => { results := [.lit (.bool false)], args := [d] }
  | _ => none }
def ShapeCollectsWrongFalsely : Prop := shapeCollectsRow.holds Try.pinned (OpenSpec.ofChange shapeCollectsWrong)

/-- 'anamnesislaw15.ShapeRenames': WHATEVER THE INPUT: true; the input reads as it did. -/
def shapeRenamesSpec : ChangeSpec := { name := "shapeRenames", fn := fun _ => fun
  | [d1, d2] => { results := [.lit (.bool true)], args := [d1, d2] }
  | _ => none }
def shapeRenamesRow : OpenClaim := { program := "ytnleijomgjhplaa", sum := "826e7dcffdafc5956b4121a229ad91971fe73d7745586f30cd833b0c1edd95e1", func := "anamnesis/anamnesislaw15.ShapeRenames", spec := "shapeRenames", inPlace := ["math.Float64frombits", "math.Float64bits"], unfollowed := true, recurses := true, apart := false }
def ShapeRenamesSaid : Prop := shapeRenamesRow.holds Try.pinned (OpenSpec.ofChange shapeRenamesSpec)

/-- ITS FALSE NEIGHBOUR: 'it returns false'. Refute it at one input. -/
def shapeRenamesWrong : ChangeSpec := { name := "shapeRenames", fn := fun _ => fun
  | [d1, d2] => { results := [.lit (.bool false)], args := [d1, d2] }
  | _ => none }
def ShapeRenamesWrongFalsely : Prop := shapeRenamesRow.holds Try.pinned (OpenSpec.ofChange shapeRenamesWrong)

/-- 'anamnesislaw15.ShapeGarbage': WHATEVER THE INPUT: true; the input reads as it did. -/
def shapeGarbageSpec : ChangeSpec := { name := "shapeGarbage", fn := fun _ => fun
  | [d1, d2] => { results := [.lit (.bool true)], args := [d1, d2] }
  | _ => none }
def shapeGarbageRow : OpenClaim := { program := "ytnleijomgjhplaa", sum := "826e7dcffdafc5956b4121a229ad91971fe73d7745586f30cd833b0c1edd95e1", func := "anamnesis/anamnesislaw15.ShapeGarbage", spec := "shapeGarbage", inPlace := ["math.Float64frombits", "math.Float64bits"], unfollowed := true, recurses := true, apart := false }
def ShapeGarbageSaid : Prop := shapeGarbageRow.holds Try.pinned (OpenSpec.ofChange shapeGarbageSpec)

/-- ITS FALSE NEIGHBOUR: 'it returns false'. Refute it at one input. -/
def shapeGarbageWrong : ChangeSpec := { name := "shapeGarbage", fn := fun _ => fun
  | [d1, d2] => { results := [.lit (.bool false)], args := [d1, d2] }
  | _ => none }
def ShapeGarbageWrongFalsely : Prop := shapeGarbageRow.holds Try.pinned (OpenSpec.ofChange shapeGarbageWrong)

/- THE SECOND FORM. 'bulk': how many values and letters a reading holds, each counted each time it is reached (what is shared counts as often as it is met; a slice's spare places count too). A statement '..UptoSaid' is the law's where the arguments, and the package variables that the reading takes, are together of bulk at most 1048576: NARROWER than '..Said'. Prove '..Said' where nothing that the law and all that it calls make is longer than what came in: it says more and counts as full. Else prove '..UptoSaid'. A law counts once. -/
mutual
def uptoBulk {H : Type} : DataW H → Nat
  | .lit (.string bytes) => bytes.length + 1
  | .lit _ => 1
  | .nil => 1
  | .ptr d => uptoBulk d + 1
  | .slice elems spare => uptoBulkAll elems + uptoBulkAll spare + 1
  | .agg parts => uptoBulkAll parts + 1
  | .iface _ d => uptoBulk d + 1
  | .map entries => uptoBulkEntries entries + 1
  | .held _ => 1
def uptoBulkAll {H : Type} : List (DataW H) → Nat
  | [] => 0
  | d :: r => uptoBulk d + uptoBulkAll r
def uptoBulkEntries {H : Type} : List (Lit × DataW H) → Nat
  | [] => 0
  | x :: r => uptoBulkEntry x + uptoBulkEntries r
def uptoBulkEntry {H : Type} : Lit × DataW H → Nat
  | (.string bytes, d) => bytes.length + uptoBulk d + 1
  | (_, d) => uptoBulk d + 1
 end
def uptoSmall : (H : Type) → List (DataW H) → Bool := fun _ ds => decide (uptoBulkAll ds ≤ 1048576)
def OpenSpec.upto (s : _root_.Go.ChangeSpec) : _root_.Go.OpenSpec := { _root_.Go.OpenSpec.ofChange s with cond := some uptoSmall }

/-- 'anamnesislaw22.PointsTell', WHERE WHAT IT READS IS OF BULK AT MOST 1048576: true; the input reads as it did. -/
def pointsTellUptoRow : OpenClaim := { program := "ytnleijomgjhplaa", sum := "826e7dcffdafc5956b4121a229ad91971fe73d7745586f30cd833b0c1edd95e1", func := "anamnesis/anamnesislaw22.PointsTell", spec := "pointsTell", inPlace := ["math.Float64frombits", "math.Float64bits"], unfollowed := true, recurses := true, apart := false, narrowed := true }
def PointsTellUptoSaid : Prop := pointsTellUptoRow.holds Try.pinned (OpenSpec.upto pointsTellSpec)

/-- 'anamnesislaw22.PointsKeep', WHERE WHAT IT READS IS OF BULK AT MOST 1048576: true; the input reads as it did. -/
def pointsKeepUptoRow : OpenClaim := { program := "ytnleijomgjhplaa", sum := "826e7dcffdafc5956b4121a229ad91971fe73d7745586f30cd833b0c1edd95e1", func := "anamnesis/anamnesislaw22.PointsKeep", spec := "pointsKeep", inPlace := ["math.Float64frombits", "math.Float64bits"], unfollowed := true, recurses := true, apart := false, narrowed := true }
def PointsKeepUptoSaid : Prop := pointsKeepUptoRow.holds Try.pinned (OpenSpec.upto pointsKeepSpec)

/-- 'anamnesislaw22.PointsBest', WHERE WHAT IT READS IS OF BULK AT MOST 1048576: true; the input reads as it did. -/
def pointsBestUptoRow : OpenClaim := { program := "ytnleijomgjhplaa", sum := "826e7dcffdafc5956b4121a229ad91971fe73d7745586f30cd833b0c1edd95e1", func := "anamnesis/anamnesislaw22.PointsBest", spec := "pointsBest", inPlace := ["math.Float64frombits", "math.Float64bits"], unfollowed := true, recurses := true, apart := false, narrowed := true }
def PointsBestUptoSaid : Prop := pointsBestUptoRow.holds Try.pinned (OpenSpec.upto pointsBestSpec)

/-- 'anamnesislaw22.PointsAgain', WHERE WHAT IT READS IS OF BULK AT MOST 1048576: true; the input reads as it did. -/
def pointsAgainUptoRow : OpenClaim := { program := "ytnleijomgjhplaa", sum := "826e7dcffdafc5956b4121a229ad91971fe73d7745586f30cd833b0c1edd95e1", func := "anamnesis/anamnesislaw22.PointsAgain", spec := "pointsAgain", inPlace := ["math.Float64frombits", "math.Float64bits"], unfollowed := true, recurses := true, apart := false, narrowed := true }
def PointsAgainUptoSaid : Prop := pointsAgainUptoRow.holds Try.pinned (OpenSpec.upto pointsAgainSpec)

/-- 'anamnesislaw22.PointsFirst', WHERE WHAT IT READS IS OF BULK AT MOST 1048576: true; the input reads as it did. -/
def pointsFirstUptoRow : OpenClaim := { program := "ytnleijomgjhplaa", sum := "826e7dcffdafc5956b4121a229ad91971fe73d7745586f30cd833b0c1edd95e1", func := "anamnesis/anamnesislaw22.PointsFirst", spec := "pointsFirst", inPlace := ["math.Float64frombits", "math.Float64bits"], unfollowed := true, recurses := true, apart := false, narrowed := true }
def PointsFirstUptoSaid : Prop := pointsFirstUptoRow.holds Try.pinned (OpenSpec.upto pointsFirstSpec)

/-- 'anamnesislaw04.MarkTells', WHERE WHAT IT READS IS OF BULK AT MOST 1048576: true; the input reads as it did. -/
def markTellsUptoRow : OpenClaim := { program := "ytnleijomgjhplaa", sum := "826e7dcffdafc5956b4121a229ad91971fe73d7745586f30cd833b0c1edd95e1", func := "anamnesis/anamnesislaw04.MarkTells", spec := "markTells", inPlace := ["math.Float64frombits", "math.Float64bits"], unfollowed := true, recurses := true, apart := false, narrowed := true }
def MarkTellsUptoSaid : Prop := markTellsUptoRow.holds Try.pinned (OpenSpec.upto markTellsSpec)

/-- 'anamnesislaw04.MarkCloses', WHERE WHAT IT READS IS OF BULK AT MOST 1048576: true; the input reads as it did. -/
def markClosesUptoRow : OpenClaim := { program := "ytnleijomgjhplaa", sum := "826e7dcffdafc5956b4121a229ad91971fe73d7745586f30cd833b0c1edd95e1", func := "anamnesis/anamnesislaw04.MarkCloses", spec := "markCloses", inPlace := ["math.Float64frombits", "math.Float64bits"], unfollowed := true, recurses := true, apart := false, narrowed := true }
def MarkClosesUptoSaid : Prop := markClosesUptoRow.holds Try.pinned (OpenSpec.upto markClosesSpec)

/-- 'anamnesislaw04.MarkLess', WHERE WHAT IT READS IS OF BULK AT MOST 1048576: true; the input reads as it did. -/
def markLessUptoRow : OpenClaim := { program := "ytnleijomgjhplaa", sum := "826e7dcffdafc5956b4121a229ad91971fe73d7745586f30cd833b0c1edd95e1", func := "anamnesis/anamnesislaw04.MarkLess", spec := "markLess", inPlace := ["math.Float64frombits", "math.Float64bits"], unfollowed := true, recurses := true, apart := false, narrowed := true }
def MarkLessUptoSaid : Prop := markLessUptoRow.holds Try.pinned (OpenSpec.upto markLessSpec)

/-- 'anamnesislaw04.MarkAll', WHERE WHAT IT READS IS OF BULK AT MOST 1048576: true; the input reads as it did. -/
def markAllUptoRow : OpenClaim := { program := "ytnleijomgjhplaa", sum := "826e7dcffdafc5956b4121a229ad91971fe73d7745586f30cd833b0c1edd95e1", func := "anamnesis/anamnesislaw04.MarkAll", spec := "markAll", inPlace := ["math.Float64frombits", "math.Float64bits"], unfollowed := true, recurses := true, apart := false, narrowed := true }
def MarkAllUptoSaid : Prop := markAllUptoRow.holds Try.pinned (OpenSpec.upto markAllSpec)

/-- 'anamnesislaw06.CanonTells', WHERE WHAT IT READS IS OF BULK AT MOST 1048576: true; the input reads as it did. -/
def canonTellsUptoRow : OpenClaim := { program := "ytnleijomgjhplaa", sum := "826e7dcffdafc5956b4121a229ad91971fe73d7745586f30cd833b0c1edd95e1", func := "anamnesis/anamnesislaw06.CanonTells", spec := "canonTells", inPlace := ["math.Float64frombits", "math.Float64bits"], unfollowed := true, recurses := true, apart := false, narrowed := true }
def CanonTellsUptoSaid : Prop := canonTellsUptoRow.holds Try.pinned (OpenSpec.upto canonTellsSpec)

/-- 'anamnesislaw06.CanonSame', WHERE WHAT IT READS IS OF BULK AT MOST 1048576: true; the input reads as it did. -/
def canonSameUptoRow : OpenClaim := { program := "ytnleijomgjhplaa", sum := "826e7dcffdafc5956b4121a229ad91971fe73d7745586f30cd833b0c1edd95e1", func := "anamnesis/anamnesislaw06.CanonSame", spec := "canonSame", inPlace := ["math.Float64frombits", "math.Float64bits"], unfollowed := true, recurses := true, apart := false, narrowed := true }
def CanonSameUptoSaid : Prop := canonSameUptoRow.holds Try.pinned (OpenSpec.upto canonSameSpec)

/-- 'anamnesislaw06.CanonRenames', WHERE WHAT IT READS IS OF BULK AT MOST 1048576: true; the input reads as it did. -/
def canonRenamesUptoRow : OpenClaim := { program := "ytnleijomgjhplaa", sum := "826e7dcffdafc5956b4121a229ad91971fe73d7745586f30cd833b0c1edd95e1", func := "anamnesis/anamnesislaw06.CanonRenames", spec := "canonRenames", inPlace := ["math.Float64frombits", "math.Float64bits"], unfollowed := true, recurses := true, apart := false, narrowed := true }
def CanonRenamesUptoSaid : Prop := canonRenamesUptoRow.holds Try.pinned (OpenSpec.upto canonRenamesSpec)

/-- 'anamnesislaw06.CanonLeast', WHERE WHAT IT READS IS OF BULK AT MOST 1048576: true; the input reads as it did. -/
def canonLeastUptoRow : OpenClaim := { program := "ytnleijomgjhplaa", sum := "826e7dcffdafc5956b4121a229ad91971fe73d7745586f30cd833b0c1edd95e1", func := "anamnesis/anamnesislaw06.CanonLeast", spec := "canonLeast", inPlace := ["math.Float64frombits", "math.Float64bits"], unfollowed := true, recurses := true, apart := false, narrowed := true }
def CanonLeastUptoSaid : Prop := canonLeastUptoRow.holds Try.pinned (OpenSpec.upto canonLeastSpec)

/-- 'anamnesislaw06.CanonEqual', WHERE WHAT IT READS IS OF BULK AT MOST 1048576: true; the input reads as it did. -/
def canonEqualUptoRow : OpenClaim := { program := "ytnleijomgjhplaa", sum := "826e7dcffdafc5956b4121a229ad91971fe73d7745586f30cd833b0c1edd95e1", func := "anamnesis/anamnesislaw06.CanonEqual", spec := "canonEqual", inPlace := ["math.Float64frombits", "math.Float64bits"], unfollowed := true, recurses := true, apart := false, narrowed := true }
def CanonEqualUptoSaid : Prop := canonEqualUptoRow.holds Try.pinned (OpenSpec.upto canonEqualSpec)

/-- 'anamnesislaw06.CanonRoots', WHERE WHAT IT READS IS OF BULK AT MOST 1048576: true; the input reads as it did. -/
def canonRootsUptoRow : OpenClaim := { program := "ytnleijomgjhplaa", sum := "826e7dcffdafc5956b4121a229ad91971fe73d7745586f30cd833b0c1edd95e1", func := "anamnesis/anamnesislaw06.CanonRoots", spec := "canonRoots", inPlace := ["math.Float64frombits", "math.Float64bits"], unfollowed := true, recurses := true, apart := false, narrowed := true }
def CanonRootsUptoSaid : Prop := canonRootsUptoRow.holds Try.pinned (OpenSpec.upto canonRootsSpec)

/-- 'anamnesislaw19.RecordTells', WHERE WHAT IT READS IS OF BULK AT MOST 1048576: true; the input reads as it did. -/
def recordTellsUptoRow : OpenClaim := { program := "ytnleijomgjhplaa", sum := "826e7dcffdafc5956b4121a229ad91971fe73d7745586f30cd833b0c1edd95e1", func := "anamnesis/anamnesislaw19.RecordTells", spec := "recordTells", inPlace := ["math.Float64frombits", "math.Float64bits"], unfollowed := true, recurses := true, apart := false, narrowed := true }
def RecordTellsUptoSaid : Prop := recordTellsUptoRow.holds Try.pinned (OpenSpec.upto recordTellsSpec)

/-- 'anamnesislaw19.RecordUndoes', WHERE WHAT IT READS IS OF BULK AT MOST 1048576: true; the input reads as it did. -/
def recordUndoesUptoRow : OpenClaim := { program := "ytnleijomgjhplaa", sum := "826e7dcffdafc5956b4121a229ad91971fe73d7745586f30cd833b0c1edd95e1", func := "anamnesis/anamnesislaw19.RecordUndoes", spec := "recordUndoes", inPlace := ["math.Float64frombits", "math.Float64bits"], unfollowed := true, recurses := true, apart := false, narrowed := true }
def RecordUndoesUptoSaid : Prop := recordUndoesUptoRow.holds Try.pinned (OpenSpec.upto recordUndoesSpec)

/-- 'anamnesislaw19.RecordNone', WHERE WHAT IT READS IS OF BULK AT MOST 1048576: true; the input reads as it did. -/
def recordNoneUptoRow : OpenClaim := { program := "ytnleijomgjhplaa", sum := "826e7dcffdafc5956b4121a229ad91971fe73d7745586f30cd833b0c1edd95e1", func := "anamnesis/anamnesislaw19.RecordNone", spec := "recordNone", inPlace := ["math.Float64frombits", "math.Float64bits"], unfollowed := true, recurses := true, apart := false, narrowed := true }
def RecordNoneUptoSaid : Prop := recordNoneUptoRow.holds Try.pinned (OpenSpec.upto recordNoneSpec)

/-- 'anamnesislaw05.MoveTells', WHERE WHAT IT READS IS OF BULK AT MOST 1048576: true; the input reads as it did. -/
def moveTellsUptoRow : OpenClaim := { program := "ytnleijomgjhplaa", sum := "826e7dcffdafc5956b4121a229ad91971fe73d7745586f30cd833b0c1edd95e1", func := "anamnesis/anamnesislaw05.MoveTells", spec := "moveTells", inPlace := ["math.Float64frombits", "math.Float64bits"], unfollowed := true, recurses := true, apart := false, narrowed := true }
def MoveTellsUptoSaid : Prop := moveTellsUptoRow.holds Try.pinned (OpenSpec.upto moveTellsSpec)

/-- 'anamnesislaw05.MoveWhole', WHERE WHAT IT READS IS OF BULK AT MOST 1048576: true; the input reads as it did. -/
def moveWholeUptoRow : OpenClaim := { program := "ytnleijomgjhplaa", sum := "826e7dcffdafc5956b4121a229ad91971fe73d7745586f30cd833b0c1edd95e1", func := "anamnesis/anamnesislaw05.MoveWhole", spec := "moveWhole", inPlace := ["math.Float64frombits", "math.Float64bits"], unfollowed := true, recurses := true, apart := false, narrowed := true }
def MoveWholeUptoSaid : Prop := moveWholeUptoRow.holds Try.pinned (OpenSpec.upto moveWholeSpec)

/-- 'anamnesislaw05.MoveWays', WHERE WHAT IT READS IS OF BULK AT MOST 1048576: true; the input reads as it did. -/
def moveWaysUptoRow : OpenClaim := { program := "ytnleijomgjhplaa", sum := "826e7dcffdafc5956b4121a229ad91971fe73d7745586f30cd833b0c1edd95e1", func := "anamnesis/anamnesislaw05.MoveWays", spec := "moveWays", inPlace := ["math.Float64frombits", "math.Float64bits"], unfollowed := true, recurses := true, apart := false, narrowed := true }
def MoveWaysUptoSaid : Prop := moveWaysUptoRow.holds Try.pinned (OpenSpec.upto moveWaysSpec)

/-- 'anamnesislaw05.MoveRoom', WHERE WHAT IT READS IS OF BULK AT MOST 1048576: true; the input reads as it did. -/
def moveRoomUptoRow : OpenClaim := { program := "ytnleijomgjhplaa", sum := "826e7dcffdafc5956b4121a229ad91971fe73d7745586f30cd833b0c1edd95e1", func := "anamnesis/anamnesislaw05.MoveRoom", spec := "moveRoom", inPlace := ["math.Float64frombits", "math.Float64bits"], unfollowed := true, recurses := true, apart := false, narrowed := true }
def MoveRoomUptoSaid : Prop := moveRoomUptoRow.holds Try.pinned (OpenSpec.upto moveRoomSpec)

/-- 'anamnesislaw05.MoveValues', WHERE WHAT IT READS IS OF BULK AT MOST 1048576: true; the input reads as it did. -/
def moveValuesUptoRow : OpenClaim := { program := "ytnleijomgjhplaa", sum := "826e7dcffdafc5956b4121a229ad91971fe73d7745586f30cd833b0c1edd95e1", func := "anamnesis/anamnesislaw05.MoveValues", spec := "moveValues", inPlace := ["math.Float64frombits", "math.Float64bits"], unfollowed := true, recurses := true, apart := false, narrowed := true }
def MoveValuesUptoSaid : Prop := moveValuesUptoRow.holds Try.pinned (OpenSpec.upto moveValuesSpec)

/-- 'anamnesislaw15.ShapeTells', WHERE WHAT IT READS IS OF BULK AT MOST 1048576: true; the input reads as it did. -/
def shapeTellsUptoRow : OpenClaim := { program := "ytnleijomgjhplaa", sum := "826e7dcffdafc5956b4121a229ad91971fe73d7745586f30cd833b0c1edd95e1", func := "anamnesis/anamnesislaw15.ShapeTells", spec := "shapeTells", inPlace := ["math.Float64frombits", "math.Float64bits"], unfollowed := true, recurses := true, apart := false, narrowed := true }
def ShapeTellsUptoSaid : Prop := shapeTellsUptoRow.holds Try.pinned (OpenSpec.upto shapeTellsSpec)

/-- 'anamnesislaw15.ShapeSame', WHERE WHAT IT READS IS OF BULK AT MOST 1048576: true; the input reads as it did. -/
def shapeSameUptoRow : OpenClaim := { program := "ytnleijomgjhplaa", sum := "826e7dcffdafc5956b4121a229ad91971fe73d7745586f30cd833b0c1edd95e1", func := "anamnesis/anamnesislaw15.ShapeSame", spec := "shapeSame", inPlace := ["math.Float64frombits", "math.Float64bits"], unfollowed := true, recurses := true, apart := false, narrowed := true }
def ShapeSameUptoSaid : Prop := shapeSameUptoRow.holds Try.pinned (OpenSpec.upto shapeSameSpec)

/-- 'anamnesislaw15.ShapeCollects', WHERE WHAT IT READS IS OF BULK AT MOST 1048576: true; the input reads as it did. -/
def shapeCollectsUptoRow : OpenClaim := { program := "ytnleijomgjhplaa", sum := "826e7dcffdafc5956b4121a229ad91971fe73d7745586f30cd833b0c1edd95e1", func := "anamnesis/anamnesislaw15.ShapeCollects", spec := "shapeCollects", inPlace := ["math.Float64frombits", "math.Float64bits"], unfollowed := true, recurses := true, apart := false, narrowed := true }
def ShapeCollectsUptoSaid : Prop := shapeCollectsUptoRow.holds Try.pinned (OpenSpec.upto shapeCollectsSpec)

/-- 'anamnesislaw15.ShapeRenames', WHERE WHAT IT READS IS OF BULK AT MOST 1048576: true; the input reads as it did. -/
def shapeRenamesUptoRow : OpenClaim := { program := "ytnleijomgjhplaa", sum := "826e7dcffdafc5956b4121a229ad91971fe73d7745586f30cd833b0c1edd95e1", func := "anamnesis/anamnesislaw15.ShapeRenames", spec := "shapeRenames", inPlace := ["math.Float64frombits", "math.Float64bits"], unfollowed := true, recurses := true, apart := false, narrowed := true }
def ShapeRenamesUptoSaid : Prop := shapeRenamesUptoRow.holds Try.pinned (OpenSpec.upto shapeRenamesSpec)

/-- 'anamnesislaw15.ShapeGarbage', WHERE WHAT IT READS IS OF BULK AT MOST 1048576: true; the input reads as it did. -/
def shapeGarbageUptoRow : OpenClaim := { program := "ytnleijomgjhplaa", sum := "826e7dcffdafc5956b4121a229ad91971fe73d7745586f30cd833b0c1edd95e1", func := "anamnesis/anamnesislaw15.ShapeGarbage", spec := "shapeGarbage", inPlace := ["math.Float64frombits", "math.Float64bits"], unfollowed := true, recurses := true, apart := false, narrowed := true }
def ShapeGarbageUptoSaid : Prop := shapeGarbageUptoRow.holds Try.pinned (OpenSpec.upto shapeGarbageSpec)

end Rows
end Go.Proofs.Ytnleijomgjhplaa
