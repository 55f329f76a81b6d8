/-
  No cell of these rows narrows 'for every input' (looked for: loops, veiled, ifaces, maps, wideKeys, modest, calm, conditions, laid).
  DERIVED. THE GIVEN ROWS OF THIS SEAT. 12 by the template 'for every input the law returns true; each argument reads behind the call as it read before'; 0 by the template 'total and deterministic' (their statements: YtidpjpbemhbmbaaTotals.lean).
  GIVEN WITH THE SEED: the statements are not yours to turn. If you find one false, say at which input.
  Laid BY PROGRAM, IN A SANDBOX (cutbox-rows.mjs): the forced cells as the released guide's own fill.sh prints them over the translation 7f0adb9ecc4e19e2… (all of the seat's roots in one cut). By AI agents, Wed Nov 11 2026. No macro, syntax, notation, axiom, sorry.
-/
import Derived.Test.YtidpjpbemhbmbaaChecked
import GoSem.Claim
import GoSem.ClaimJoined
import GoSem.ClaimMapViews
import Derived.JoinedTies
import Derived.KernelRfl
namespace Go.Proofs.Ytidpjpbemhbmbaa
/- THE CELL 'sum', in the pinned program and in every row, IS THE sha256 OF THE DUMP (.gsa) THAT YtidpjpbemhbmbaaProg.lean LOADS. Nothing in Lean hashes anything: it is a label: what it is worth is what the hold of that sum in a sandbox is worth. -/
noncomputable def Try.pinned : Pinned := { name := "ytidpjpbemhbmbaa", sum := "7f0adb9ecc4e19e2ebdab33034f5f0c54c811fc9e07d4b2f7120559fac7a0534", checked := Try.checked }
namespace Rows
def none {H : Type} : Left H := { results := [], args := [] }

/-- 'anamnesislaw07.CrcTells': WHATEVER THE INPUT: true; the input reads as it did. -/
def crcTellsSpec : ChangeSpec := { name := "crcTells", fn := fun _ => fun
  | [d1, d2] => { results := [.lit (.bool true)], args := [d1, d2] }
  | _ => none }
def crcTellsRow : OpenClaim := { program := "ytidpjpbemhbmbaa", sum := "7f0adb9ecc4e19e2ebdab33034f5f0c54c811fc9e07d4b2f7120559fac7a0534", func := "anamnesis/anamnesislaw07.CrcTells", spec := "crcTells", apart := false }
def CrcTellsSaid : Prop := crcTellsRow.holds Try.pinned (OpenSpec.ofChange crcTellsSpec)

/-- ITS FALSE NEIGHBOUR: 'it returns false'. Refute it at one input. -/
def crcTellsWrong : ChangeSpec := { name := "crcTells", fn := fun _ => fun
  | [d1, d2] => { results := [.lit (.bool false)], args := [d1, d2] }
  | _ => none }
def CrcTellsWrongFalsely : Prop := crcTellsRow.holds Try.pinned (OpenSpec.ofChange crcTellsWrong)

/-- 'anamnesislaw07.CrcParts': WHATEVER THE INPUT: true; the input reads as it did. -/
def crcPartsSpec : ChangeSpec := { name := "crcParts", fn := fun _ => fun
  | [d1, d2, d3] => { results := [.lit (.bool true)], args := [d1, d2, d3] }
  | _ => none }
def crcPartsRow : OpenClaim := { program := "ytidpjpbemhbmbaa", sum := "7f0adb9ecc4e19e2ebdab33034f5f0c54c811fc9e07d4b2f7120559fac7a0534", func := "anamnesis/anamnesislaw07.CrcParts", spec := "crcParts", apart := false }
def CrcPartsSaid : Prop := crcPartsRow.holds Try.pinned (OpenSpec.ofChange crcPartsSpec)

/-- ITS FALSE NEIGHBOUR: 'it returns false'. Refute it at one input. -/
def crcPartsWrong : ChangeSpec := { name := "crcParts", fn := fun _ => fun
  | [d1, d2, d3] => { results := [.lit (.bool false)], args := [d1, d2, d3] }
  | _ => none }
def CrcPartsWrongFalsely : Prop := crcPartsRow.holds Try.pinned (OpenSpec.ofChange crcPartsWrong)

/-- 'anamnesislaw07.CrcSees': WHATEVER THE INPUT: true; the input reads as it did. -/
def crcSeesSpec : ChangeSpec := { name := "crcSees", fn := fun _ => fun
  | [d1, d2, d3] => { results := [.lit (.bool true)], args := [d1, d2, d3] }
  | _ => none }
def crcSeesRow : OpenClaim := { program := "ytidpjpbemhbmbaa", sum := "7f0adb9ecc4e19e2ebdab33034f5f0c54c811fc9e07d4b2f7120559fac7a0534", func := "anamnesis/anamnesislaw07.CrcSees", spec := "crcSees", apart := false }
def CrcSeesSaid : Prop := crcSeesRow.holds Try.pinned (OpenSpec.ofChange crcSeesSpec)

/-- ITS FALSE NEIGHBOUR: 'it returns false'. Refute it at one input. -/
def crcSeesWrong : ChangeSpec := { name := "crcSees", fn := fun _ => fun
  | [d1, d2, d3] => { results := [.lit (.bool false)], args := [d1, d2, d3] }
  | _ => none }
def CrcSeesWrongFalsely : Prop := crcSeesRow.holds Try.pinned (OpenSpec.ofChange crcSeesWrong)

/-- 'anamnesislaw07.CrcTurns': WHATEVER THE INPUT: true; the input reads as it did. -/
def crcTurnsSpec : ChangeSpec := { name := "crcTurns", fn := fun _ => fun
  | [d1, d2, d3] => { results := [.lit (.bool true)], args := [d1, d2, d3] }
  | _ => none }
def crcTurnsRow : OpenClaim := { program := "ytidpjpbemhbmbaa", sum := "7f0adb9ecc4e19e2ebdab33034f5f0c54c811fc9e07d4b2f7120559fac7a0534", func := "anamnesis/anamnesislaw07.CrcTurns", spec := "crcTurns", apart := false }
def CrcTurnsSaid : Prop := crcTurnsRow.holds Try.pinned (OpenSpec.ofChange crcTurnsSpec)

/-- ITS FALSE NEIGHBOUR: 'it returns false'. Refute it at one input. -/
def crcTurnsWrong : ChangeSpec := { name := "crcTurns", fn := fun _ => fun
  | [d1, d2, d3] => { results := [.lit (.bool false)], args := [d1, d2, d3] }
  | _ => none }
def CrcTurnsWrongFalsely : Prop := crcTurnsRow.holds Try.pinned (OpenSpec.ofChange crcTurnsWrong)

/-- 'anamnesislaw20.RingTells': WHATEVER THE INPUT: true; the input reads as it did. -/
def ringTellsSpec : ChangeSpec := { name := "ringTells", fn := fun _ => fun
  | [d1, d2] => { results := [.lit (.bool true)], args := [d1, d2] }
  | _ => none }
def ringTellsRow : OpenClaim := { program := "ytidpjpbemhbmbaa", sum := "7f0adb9ecc4e19e2ebdab33034f5f0c54c811fc9e07d4b2f7120559fac7a0534", func := "anamnesis/anamnesislaw20.RingTells", spec := "ringTells", apart := false }
def RingTellsSaid : Prop := ringTellsRow.holds Try.pinned (OpenSpec.ofChange ringTellsSpec)

/-- ITS FALSE NEIGHBOUR: 'it returns false'. Refute it at one input. -/
def ringTellsWrong : ChangeSpec := { name := "ringTells", fn := fun _ => fun
  | [d1, d2] => { results := [.lit (.bool false)], args := [d1, d2] }
  | _ => none }
def RingTellsWrongFalsely : Prop := ringTellsRow.holds Try.pinned (OpenSpec.ofChange ringTellsWrong)

/-- 'anamnesislaw20.RingNewest': WHATEVER THE INPUT: true; the input reads as it did. -/
def ringNewestSpec : ChangeSpec := { name := "ringNewest", fn := fun _ => fun
  | [d1, d2] => { results := [.lit (.bool true)], args := [d1, d2] }
  | _ => none }
def ringNewestRow : OpenClaim := { program := "ytidpjpbemhbmbaa", sum := "7f0adb9ecc4e19e2ebdab33034f5f0c54c811fc9e07d4b2f7120559fac7a0534", func := "anamnesis/anamnesislaw20.RingNewest", spec := "ringNewest", apart := false }
def RingNewestSaid : Prop := ringNewestRow.holds Try.pinned (OpenSpec.ofChange ringNewestSpec)

/-- ITS FALSE NEIGHBOUR: 'it returns false'. Refute it at one input. -/
def ringNewestWrong : ChangeSpec := { name := "ringNewest", fn := fun _ => fun
  | [d1, d2] => { results := [.lit (.bool false)], args := [d1, d2] }
  | _ => none }
def RingNewestWrongFalsely : Prop := ringNewestRow.holds Try.pinned (OpenSpec.ofChange ringNewestWrong)

/-- 'anamnesislaw20.RingTurns': WHATEVER THE INPUT: true; the input reads as it did. -/
def ringTurnsSpec : ChangeSpec := { name := "ringTurns", fn := fun _ => fun
  | [d1, d2] => { results := [.lit (.bool true)], args := [d1, d2] }
  | _ => none }
def ringTurnsRow : OpenClaim := { program := "ytidpjpbemhbmbaa", sum := "7f0adb9ecc4e19e2ebdab33034f5f0c54c811fc9e07d4b2f7120559fac7a0534", func := "anamnesis/anamnesislaw20.RingTurns", spec := "ringTurns", apart := false }
def RingTurnsSaid : Prop := ringTurnsRow.holds Try.pinned (OpenSpec.ofChange ringTurnsSpec)

/-- ITS FALSE NEIGHBOUR: 'it returns false'. Refute it at one input. -/
def ringTurnsWrong : ChangeSpec := { name := "ringTurns", fn := fun _ => fun
  | [d1, d2] => { results := [.lit (.bool false)], args := [d1, d2] }
  | _ => none }
def RingTurnsWrongFalsely : Prop := ringTurnsRow.holds Try.pinned (OpenSpec.ofChange ringTurnsWrong)

/-- 'anamnesislaw20.RingWider': WHATEVER THE INPUT: true; the input reads as it did. -/
def ringWiderSpec : ChangeSpec := { name := "ringWider", fn := fun _ => fun
  | [d1, d2, d3] => { results := [.lit (.bool true)], args := [d1, d2, d3] }
  | _ => none }
def ringWiderRow : OpenClaim := { program := "ytidpjpbemhbmbaa", sum := "7f0adb9ecc4e19e2ebdab33034f5f0c54c811fc9e07d4b2f7120559fac7a0534", func := "anamnesis/anamnesislaw20.RingWider", spec := "ringWider", apart := false }
def RingWiderSaid : Prop := ringWiderRow.holds Try.pinned (OpenSpec.ofChange ringWiderSpec)

/-- ITS FALSE NEIGHBOUR: 'it returns false'. Refute it at one input. -/
def ringWiderWrong : ChangeSpec := { name := "ringWider", fn := fun _ => fun
  | [d1, d2, d3] => { results := [.lit (.bool false)], args := [d1, d2, d3] }
  | _ => none }
def RingWiderWrongFalsely : Prop := ringWiderRow.holds Try.pinned (OpenSpec.ofChange ringWiderWrong)

/-- 'anamnesislaw16.TapeTells': WHATEVER THE INPUT: true; the input reads as it did. -/
def tapeTellsSpec : ChangeSpec := { name := "tapeTells", fn := fun _ => fun
  | [d1, d2] => { results := [.lit (.bool true)], args := [d1, d2] }
  | _ => none }
def tapeTellsRow : OpenClaim := { program := "ytidpjpbemhbmbaa", sum := "7f0adb9ecc4e19e2ebdab33034f5f0c54c811fc9e07d4b2f7120559fac7a0534", func := "anamnesis/anamnesislaw16.TapeTells", spec := "tapeTells", unfollowed := true, recurses := true, apart := false }
def TapeTellsSaid : Prop := tapeTellsRow.holds Try.pinned (OpenSpec.ofChange tapeTellsSpec)

/-- ITS FALSE NEIGHBOUR: 'it returns false'. Refute it at one input. -/
def tapeTellsWrong : ChangeSpec := { name := "tapeTells", fn := fun _ => fun
  | [d1, d2] => { results := [.lit (.bool false)], args := [d1, d2] }
  | _ => none }
def TapeTellsWrongFalsely : Prop := tapeTellsRow.holds Try.pinned (OpenSpec.ofChange tapeTellsWrong)

/-- 'anamnesislaw16.TapeAgain': WHATEVER THE INPUT: true; the input reads as it did. -/
def tapeAgainSpec : ChangeSpec := { name := "tapeAgain", fn := fun _ => fun
  | [d1, d2] => { results := [.lit (.bool true)], args := [d1, d2] }
  | _ => none }
def tapeAgainRow : OpenClaim := { program := "ytidpjpbemhbmbaa", sum := "7f0adb9ecc4e19e2ebdab33034f5f0c54c811fc9e07d4b2f7120559fac7a0534", func := "anamnesis/anamnesislaw16.TapeAgain", spec := "tapeAgain", unfollowed := true, recurses := true, apart := false }
def TapeAgainSaid : Prop := tapeAgainRow.holds Try.pinned (OpenSpec.ofChange tapeAgainSpec)

/-- ITS FALSE NEIGHBOUR: 'it returns false'. Refute it at one input. -/
def tapeAgainWrong : ChangeSpec := { name := "tapeAgain", fn := fun _ => fun
  | [d1, d2] => { results := [.lit (.bool false)], args := [d1, d2] }
  | _ => none }
def TapeAgainWrongFalsely : Prop := tapeAgainRow.holds Try.pinned (OpenSpec.ofChange tapeAgainWrong)

/-- 'anamnesislaw16.TapeDiverges': WHATEVER THE INPUT: true; the input reads as it did. -/
def tapeDivergesSpec : ChangeSpec := { name := "tapeDiverges", fn := fun _ => fun
  | [d1, d2] => { results := [.lit (.bool true)], args := [d1, d2] }
  | _ => none }
def tapeDivergesRow : OpenClaim := { program := "ytidpjpbemhbmbaa", sum := "7f0adb9ecc4e19e2ebdab33034f5f0c54c811fc9e07d4b2f7120559fac7a0534", func := "anamnesis/anamnesislaw16.TapeDiverges", spec := "tapeDiverges", unfollowed := true, recurses := true, apart := false }
def TapeDivergesSaid : Prop := tapeDivergesRow.holds Try.pinned (OpenSpec.ofChange tapeDivergesSpec)

/-- ITS FALSE NEIGHBOUR: 'it returns false'. Refute it at one input. -/
def tapeDivergesWrong : ChangeSpec := { name := "tapeDiverges", fn := fun _ => fun
  | [d1, d2] => { results := [.lit (.bool false)], args := [d1, d2] }
  | _ => none }
def TapeDivergesWrongFalsely : Prop := tapeDivergesRow.holds Try.pinned (OpenSpec.ofChange tapeDivergesWrong)

/-- 'anamnesislaw16.TapeWhole': WHATEVER THE INPUT: true; the input reads as it did. -/
def tapeWholeSpec : ChangeSpec := { name := "tapeWhole", fn := fun _ => fun
  | [d1, d2] => { results := [.lit (.bool true)], args := [d1, d2] }
  | _ => none }
def tapeWholeRow : OpenClaim := { program := "ytidpjpbemhbmbaa", sum := "7f0adb9ecc4e19e2ebdab33034f5f0c54c811fc9e07d4b2f7120559fac7a0534", func := "anamnesis/anamnesislaw16.TapeWhole", spec := "tapeWhole", unfollowed := true, recurses := true, apart := false }
def TapeWholeSaid : Prop := tapeWholeRow.holds Try.pinned (OpenSpec.ofChange tapeWholeSpec)

/-- ITS FALSE NEIGHBOUR: 'it returns false'. Refute it at one input. -/
def tapeWholeWrong : ChangeSpec := { name := "tapeWhole", fn := fun _ => fun
  | [d1, d2] => { results := [.lit (.bool false)], args := [d1, d2] }
  | _ => none }
def TapeWholeWrongFalsely : Prop := tapeWholeRow.holds Try.pinned (OpenSpec.ofChange tapeWholeWrong)

/- THE SECOND FORM. 'bulk': how many values and letters a reading holds, each counted each time it is reached (what is shared counts as often as it is met; a slice's spare places count too). A statement '..UptoSaid' is the law's where the arguments, and the package variables that the reading takes, are together of bulk at most 1048576: NARROWER than '..Said'. Prove '..Said' where nothing that the law and all that it calls make is longer than what came in: it says more and counts as full. Else prove '..UptoSaid'. A law counts once. -/
mutual
def uptoBulk {H : Type} : DataW H → Nat
  | .lit (.string bytes) => bytes.length + 1
  | .lit _ => 1
  | .nil => 1
  | .ptr d => uptoBulk d + 1
  | .slice elems spare => uptoBulkAll elems + uptoBulkAll spare + 1
  | .agg parts => uptoBulkAll parts + 1
  | .iface _ d => uptoBulk d + 1
  | .map entries => uptoBulkEntries entries + 1
  | .held _ => 1
def uptoBulkAll {H : Type} : List (DataW H) → Nat
  | [] => 0
  | d :: r => uptoBulk d + uptoBulkAll r
def uptoBulkEntries {H : Type} : List (Lit × DataW H) → Nat
  | [] => 0
  | x :: r => uptoBulkEntry x + uptoBulkEntries r
def uptoBulkEntry {H : Type} : Lit × DataW H → Nat
  | (.string bytes, d) => bytes.length + uptoBulk d + 1
  | (_, d) => uptoBulk d + 1
 end
def uptoSmall : (H : Type) → List (DataW H) → Bool := fun _ ds => decide (uptoBulkAll ds ≤ 1048576)
def OpenSpec.upto (s : _root_.Go.ChangeSpec) : _root_.Go.OpenSpec := { _root_.Go.OpenSpec.ofChange s with cond := some uptoSmall }

/-- 'anamnesislaw07.CrcTells', WHERE WHAT IT READS IS OF BULK AT MOST 1048576: true; the input reads as it did. -/
def crcTellsUptoRow : OpenClaim := { program := "ytidpjpbemhbmbaa", sum := "7f0adb9ecc4e19e2ebdab33034f5f0c54c811fc9e07d4b2f7120559fac7a0534", func := "anamnesis/anamnesislaw07.CrcTells", spec := "crcTells", apart := false, narrowed := true }
def CrcTellsUptoSaid : Prop := crcTellsUptoRow.holds Try.pinned (OpenSpec.upto crcTellsSpec)

/-- 'anamnesislaw07.CrcParts', WHERE WHAT IT READS IS OF BULK AT MOST 1048576: true; the input reads as it did. -/
def crcPartsUptoRow : OpenClaim := { program := "ytidpjpbemhbmbaa", sum := "7f0adb9ecc4e19e2ebdab33034f5f0c54c811fc9e07d4b2f7120559fac7a0534", func := "anamnesis/anamnesislaw07.CrcParts", spec := "crcParts", apart := false, narrowed := true }
def CrcPartsUptoSaid : Prop := crcPartsUptoRow.holds Try.pinned (OpenSpec.upto crcPartsSpec)

/-- 'anamnesislaw07.CrcSees', WHERE WHAT IT READS IS OF BULK AT MOST 1048576: true; the input reads as it did. -/
def crcSeesUptoRow : OpenClaim := { program := "ytidpjpbemhbmbaa", sum := "7f0adb9ecc4e19e2ebdab33034f5f0c54c811fc9e07d4b2f7120559fac7a0534", func := "anamnesis/anamnesislaw07.CrcSees", spec := "crcSees", apart := false, narrowed := true }
def CrcSeesUptoSaid : Prop := crcSeesUptoRow.holds Try.pinned (OpenSpec.upto crcSeesSpec)

/-- 'anamnesislaw07.CrcTurns', WHERE WHAT IT READS IS OF BULK AT MOST 1048576: true; the input reads as it did. -/
def crcTurnsUptoRow : OpenClaim := { program := "ytidpjpbemhbmbaa", sum := "7f0adb9ecc4e19e2ebdab33034f5f0c54c811fc9e07d4b2f7120559fac7a0534", func := "anamnesis/anamnesislaw07.CrcTurns", spec := "crcTurns", apart := false, narrowed := true }
def CrcTurnsUptoSaid : Prop := crcTurnsUptoRow.holds Try.pinned (OpenSpec.upto crcTurnsSpec)

/-- 'anamnesislaw20.RingTells', WHERE WHAT IT READS IS OF BULK AT MOST 1048576: true; the input reads as it did. -/
def ringTellsUptoRow : OpenClaim := { program := "ytidpjpbemhbmbaa", sum := "7f0adb9ecc4e19e2ebdab33034f5f0c54c811fc9e07d4b2f7120559fac7a0534", func := "anamnesis/anamnesislaw20.RingTells", spec := "ringTells", apart := false, narrowed := true }
def RingTellsUptoSaid : Prop := ringTellsUptoRow.holds Try.pinned (OpenSpec.upto ringTellsSpec)

/-- 'anamnesislaw20.RingNewest', WHERE WHAT IT READS IS OF BULK AT MOST 1048576: true; the input reads as it did. -/
def ringNewestUptoRow : OpenClaim := { program := "ytidpjpbemhbmbaa", sum := "7f0adb9ecc4e19e2ebdab33034f5f0c54c811fc9e07d4b2f7120559fac7a0534", func := "anamnesis/anamnesislaw20.RingNewest", spec := "ringNewest", apart := false, narrowed := true }
def RingNewestUptoSaid : Prop := ringNewestUptoRow.holds Try.pinned (OpenSpec.upto ringNewestSpec)

/-- 'anamnesislaw20.RingTurns', WHERE WHAT IT READS IS OF BULK AT MOST 1048576: true; the input reads as it did. -/
def ringTurnsUptoRow : OpenClaim := { program := "ytidpjpbemhbmbaa", sum := "7f0adb9ecc4e19e2ebdab33034f5f0c54c811fc9e07d4b2f7120559fac7a0534", func := "anamnesis/anamnesislaw20.RingTurns", spec := "ringTurns", apart := false, narrowed := true }
def RingTurnsUptoSaid : Prop := ringTurnsUptoRow.holds Try.pinned (OpenSpec.upto ringTurnsSpec)

/-- 'anamnesislaw20.RingWider', WHERE WHAT IT READS IS OF BULK AT MOST 1048576: true; the input reads as it did. -/
def ringWiderUptoRow : OpenClaim := { program := "ytidpjpbemhbmbaa", sum := "7f0adb9ecc4e19e2ebdab33034f5f0c54c811fc9e07d4b2f7120559fac7a0534", func := "anamnesis/anamnesislaw20.RingWider", spec := "ringWider", apart := false, narrowed := true }
def RingWiderUptoSaid : Prop := ringWiderUptoRow.holds Try.pinned (OpenSpec.upto ringWiderSpec)

/-- 'anamnesislaw16.TapeTells', WHERE WHAT IT READS IS OF BULK AT MOST 1048576: true; the input reads as it did. -/
def tapeTellsUptoRow : OpenClaim := { program := "ytidpjpbemhbmbaa", sum := "7f0adb9ecc4e19e2ebdab33034f5f0c54c811fc9e07d4b2f7120559fac7a0534", func := "anamnesis/anamnesislaw16.TapeTells", spec := "tapeTells", unfollowed := true, recurses := true, apart := false, narrowed := true }
def TapeTellsUptoSaid : Prop := tapeTellsUptoRow.holds Try.pinned (OpenSpec.upto tapeTellsSpec)

/-- 'anamnesislaw16.TapeAgain', WHERE WHAT IT READS IS OF BULK AT MOST 1048576: true; the input reads as it did. -/
def tapeAgainUptoRow : OpenClaim := { program := "ytidpjpbemhbmbaa", sum := "7f0adb9ecc4e19e2ebdab33034f5f0c54c811fc9e07d4b2f7120559fac7a0534", func := "anamnesis/anamnesislaw16.TapeAgain", spec := "tapeAgain", unfollowed := true, recurses := true, apart := false, narrowed := true }
def TapeAgainUptoSaid : Prop := tapeAgainUptoRow.holds Try.pinned (OpenSpec.upto tapeAgainSpec)

/-- 'anamnesislaw16.TapeDiverges', WHERE WHAT IT READS IS OF BULK AT MOST 1048576: true; the input reads as it did. -/
def tapeDivergesUptoRow : OpenClaim := { program := "ytidpjpbemhbmbaa", sum := "7f0adb9ecc4e19e2ebdab33034f5f0c54c811fc9e07d4b2f7120559fac7a0534", func := "anamnesis/anamnesislaw16.TapeDiverges", spec := "tapeDiverges", unfollowed := true, recurses := true, apart := false, narrowed := true }
def TapeDivergesUptoSaid : Prop := tapeDivergesUptoRow.holds Try.pinned (OpenSpec.upto tapeDivergesSpec)

/-- 'anamnesislaw16.TapeWhole', WHERE WHAT IT READS IS OF BULK AT MOST 1048576: true; the input reads as it did. -/
def tapeWholeUptoRow : OpenClaim := { program := "ytidpjpbemhbmbaa", sum := "7f0adb9ecc4e19e2ebdab33034f5f0c54c811fc9e07d4b2f7120559fac7a0534", func := "anamnesis/anamnesislaw16.TapeWhole", spec := "tapeWhole", unfollowed := true, recurses := true, apart := false, narrowed := true }
def TapeWholeUptoSaid : Prop := tapeWholeUptoRow.holds Try.pinned (OpenSpec.upto tapeWholeSpec)

end Rows
end Go.Proofs.Ytidpjpbemhbmbaa
