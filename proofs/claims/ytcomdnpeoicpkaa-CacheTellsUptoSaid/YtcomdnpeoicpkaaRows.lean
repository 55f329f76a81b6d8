/-
  No cell of these rows narrows 'for every input' (looked for: loops, veiled, ifaces, maps, wideKeys, modest, calm, conditions, laid).
  DERIVED. THE GIVEN ROWS OF THIS SEAT. 8 by the template 'for every input the law returns true; each argument reads behind the call as it read before'; 0 by the template 'total and deterministic' (their statements: YtcomdnpeoicpkaaTotals.lean).
  GIVEN WITH THE SEED: the statements are not yours to turn. If you find one false, say at which input.
  Laid BY PROGRAM, IN A SANDBOX (cutbox-rows.mjs): the forced cells as the released guide's own fill.sh prints them over the translation 42e0ad9e984001f9… (all of the seat's roots in one cut). By AI agents, Wed Nov 11 2026. No macro, syntax, notation, axiom, sorry.
-/
import Derived.Test.YtcomdnpeoicpkaaChecked
import GoSem.Claim
import GoSem.ClaimJoined
import GoSem.ClaimMapViews
import Derived.JoinedTies
import Derived.KernelRfl
namespace Go.Proofs.Ytcomdnpeoicpkaa
/- THE CELL 'sum', in the pinned program and in every row, IS THE sha256 OF THE DUMP (.gsa) THAT YtcomdnpeoicpkaaProg.lean LOADS. Nothing in Lean hashes anything: it is a label: what it is worth is what the hold of that sum in a sandbox is worth. -/
noncomputable def Try.pinned : Pinned := { name := "ytcomdnpeoicpkaa", sum := "42e0ad9e984001f94c6218ff4f68fdc2b51452a061d735ce45f00db5bc5ecd21", checked := Try.checked }
namespace Rows
def none {H : Type} : Left H := { results := [], args := [] }

/-- 'anamnesislaw09.LookHides': WHATEVER THE INPUT: true; the input reads as it did. -/
def lookHidesSpec : ChangeSpec := { name := "lookHides", fn := fun _ => fun
  | [d1, d2, d3] => { results := [.lit (.bool true)], args := [d1, d2, d3] }
  | _ => none }
def lookHidesRow : OpenClaim := { program := "ytcomdnpeoicpkaa", sum := "42e0ad9e984001f94c6218ff4f68fdc2b51452a061d735ce45f00db5bc5ecd21", func := "anamnesis/anamnesislaw09.LookHides", spec := "lookHides", inPlace := ["math.Float64frombits", "math.Float64bits"], unfollowed := true, recurses := true, apart := false }
def LookHidesSaid : Prop := lookHidesRow.holds Try.pinned (OpenSpec.ofChange lookHidesSpec)

/-- ITS FALSE NEIGHBOUR: 'it returns false'. Refute it at one input. -/
def lookHidesWrong : ChangeSpec := { name := "lookHides", fn := fun _ => fun
  | [d1, d2, d3] => { results := [.lit (.bool false)], args := [d1, d2, d3] }
  | _ => none }
def LookHidesWrongFalsely : Prop := lookHidesRow.holds Try.pinned (OpenSpec.ofChange lookHidesWrong)

/-- 'anamnesislaw09.LookUnder': WHATEVER THE INPUT: true; the input reads as it did. -/
def lookUnderSpec : ChangeSpec := { name := "lookUnder", fn := fun _ => fun
  | [d1, d2, d3] => { results := [.lit (.bool true)], args := [d1, d2, d3] }
  | _ => none }
def lookUnderRow : OpenClaim := { program := "ytcomdnpeoicpkaa", sum := "42e0ad9e984001f94c6218ff4f68fdc2b51452a061d735ce45f00db5bc5ecd21", func := "anamnesis/anamnesislaw09.LookUnder", spec := "lookUnder", inPlace := ["math.Float64frombits", "math.Float64bits"], unfollowed := true, recurses := true, apart := false }
def LookUnderSaid : Prop := lookUnderRow.holds Try.pinned (OpenSpec.ofChange lookUnderSpec)

/-- ITS FALSE NEIGHBOUR: 'it returns false'. Refute it at one input. -/
def lookUnderWrong : ChangeSpec := { name := "lookUnder", fn := fun _ => fun
  | [d1, d2, d3] => { results := [.lit (.bool false)], args := [d1, d2, d3] }
  | _ => none }
def LookUnderWrongFalsely : Prop := lookUnderRow.holds Try.pinned (OpenSpec.ofChange lookUnderWrong)

/-- 'anamnesislaw09.LookLays': WHATEVER THE INPUT: true; the input reads as it did. -/
def lookLaysSpec : ChangeSpec := { name := "lookLays", fn := fun _ => fun
  | [d1, d2, d3] => { results := [.lit (.bool true)], args := [d1, d2, d3] }
  | _ => none }
def lookLaysRow : OpenClaim := { program := "ytcomdnpeoicpkaa", sum := "42e0ad9e984001f94c6218ff4f68fdc2b51452a061d735ce45f00db5bc5ecd21", func := "anamnesis/anamnesislaw09.LookLays", spec := "lookLays", inPlace := ["math.Float64frombits", "math.Float64bits"], unfollowed := true, recurses := true, apart := false }
def LookLaysSaid : Prop := lookLaysRow.holds Try.pinned (OpenSpec.ofChange lookLaysSpec)

/-- ITS FALSE NEIGHBOUR: 'it returns false'. Refute it at one input. -/
def lookLaysWrong : ChangeSpec := { name := "lookLays", fn := fun _ => fun
  | [d1, d2, d3] => { results := [.lit (.bool false)], args := [d1, d2, d3] }
  | _ => none }
def LookLaysWrongFalsely : Prop := lookLaysRow.holds Try.pinned (OpenSpec.ofChange lookLaysWrong)

/-- 'anamnesislaw10.CacheTells': WHATEVER THE INPUT: true; the input reads as it did. -/
def cacheTellsSpec : ChangeSpec := { name := "cacheTells", fn := fun _ => fun
  | [d1, d2, d3] => { results := [.lit (.bool true)], args := [d1, d2, d3] }
  | _ => none }
def cacheTellsRow : OpenClaim := { program := "ytcomdnpeoicpkaa", sum := "42e0ad9e984001f94c6218ff4f68fdc2b51452a061d735ce45f00db5bc5ecd21", func := "anamnesis/anamnesislaw10.CacheTells", spec := "cacheTells", inPlace := ["math.Float64frombits", "math.Float64bits"], unfollowed := true, recurses := true, apart := false }
def CacheTellsSaid : Prop := cacheTellsRow.holds Try.pinned (OpenSpec.ofChange cacheTellsSpec)

/-- ITS FALSE NEIGHBOUR: 'it returns false'. Refute it at one input. -/
def cacheTellsWrong : ChangeSpec := { name := "cacheTells", fn := fun _ => fun
  | [d1, d2, d3] => { results := [.lit (.bool false)], args := [d1, d2, d3] }
  | _ => none }
def CacheTellsWrongFalsely : Prop := cacheTellsRow.holds Try.pinned (OpenSpec.ofChange cacheTellsWrong)

/-- 'anamnesislaw10.CacheSame': WHATEVER THE INPUT: true; the input reads as it did. -/
def cacheSameSpec : ChangeSpec := { name := "cacheSame", fn := fun _ => fun
  | [d1, d2, d3] => { results := [.lit (.bool true)], args := [d1, d2, d3] }
  | _ => none }
def cacheSameRow : OpenClaim := { program := "ytcomdnpeoicpkaa", sum := "42e0ad9e984001f94c6218ff4f68fdc2b51452a061d735ce45f00db5bc5ecd21", func := "anamnesis/anamnesislaw10.CacheSame", spec := "cacheSame", inPlace := ["math.Float64frombits", "math.Float64bits"], unfollowed := true, recurses := true, apart := false }
def CacheSameSaid : Prop := cacheSameRow.holds Try.pinned (OpenSpec.ofChange cacheSameSpec)

/-- ITS FALSE NEIGHBOUR: 'it returns false'. Refute it at one input. -/
def cacheSameWrong : ChangeSpec := { name := "cacheSame", fn := fun _ => fun
  | [d1, d2, d3] => { results := [.lit (.bool false)], args := [d1, d2, d3] }
  | _ => none }
def CacheSameWrongFalsely : Prop := cacheSameRow.holds Try.pinned (OpenSpec.ofChange cacheSameWrong)

/-- 'anamnesislaw10.CacheCounts': WHATEVER THE INPUT: true; the input reads as it did. -/
def cacheCountsSpec : ChangeSpec := { name := "cacheCounts", fn := fun _ => fun
  | [d1, d2] => { results := [.lit (.bool true)], args := [d1, d2] }
  | _ => none }
def cacheCountsRow : OpenClaim := { program := "ytcomdnpeoicpkaa", sum := "42e0ad9e984001f94c6218ff4f68fdc2b51452a061d735ce45f00db5bc5ecd21", func := "anamnesis/anamnesislaw10.CacheCounts", spec := "cacheCounts", inPlace := ["math.Float64frombits", "math.Float64bits"], unfollowed := true, recurses := true, apart := false }
def CacheCountsSaid : Prop := cacheCountsRow.holds Try.pinned (OpenSpec.ofChange cacheCountsSpec)

/-- ITS FALSE NEIGHBOUR: 'it returns false'. Refute it at one input. -/
def cacheCountsWrong : ChangeSpec := { name := "cacheCounts", fn := fun _ => fun
  | [d1, d2] => { results := [.lit (.bool false)], args := [d1, d2] }
  | _ => none }
def CacheCountsWrongFalsely : Prop := cacheCountsRow.holds Try.pinned (OpenSpec.ofChange cacheCountsWrong)

/-- 'anamnesislaw10.CacheSizes': WHATEVER THE INPUT: true; the input reads as it did. -/
def cacheSizesSpec : ChangeSpec := { name := "cacheSizes", fn := fun _ => fun
  | [d1, d2, d3] => { results := [.lit (.bool true)], args := [d1, d2, d3] }
  | _ => none }
def cacheSizesRow : OpenClaim := { program := "ytcomdnpeoicpkaa", sum := "42e0ad9e984001f94c6218ff4f68fdc2b51452a061d735ce45f00db5bc5ecd21", func := "anamnesis/anamnesislaw10.CacheSizes", spec := "cacheSizes", inPlace := ["math.Float64frombits", "math.Float64bits"], unfollowed := true, recurses := true, apart := false }
def CacheSizesSaid : Prop := cacheSizesRow.holds Try.pinned (OpenSpec.ofChange cacheSizesSpec)

/-- ITS FALSE NEIGHBOUR: 'it returns false'. Refute it at one input. -/
def cacheSizesWrong : ChangeSpec := { name := "cacheSizes", fn := fun _ => fun
  | [d1, d2, d3] => { results := [.lit (.bool false)], args := [d1, d2, d3] }
  | _ => none }
def CacheSizesWrongFalsely : Prop := cacheSizesRow.holds Try.pinned (OpenSpec.ofChange cacheSizesWrong)

/-- 'anamnesislaw10.CacheFlushed': WHATEVER THE INPUT: true; the input reads as it did. -/
def cacheFlushedSpec : ChangeSpec := { name := "cacheFlushed", fn := fun _ => fun
  | [d1, d2] => { results := [.lit (.bool true)], args := [d1, d2] }
  | _ => none }
def cacheFlushedRow : OpenClaim := { program := "ytcomdnpeoicpkaa", sum := "42e0ad9e984001f94c6218ff4f68fdc2b51452a061d735ce45f00db5bc5ecd21", func := "anamnesis/anamnesislaw10.CacheFlushed", spec := "cacheFlushed", inPlace := ["math.Float64frombits", "math.Float64bits"], unfollowed := true, recurses := true, apart := false }
def CacheFlushedSaid : Prop := cacheFlushedRow.holds Try.pinned (OpenSpec.ofChange cacheFlushedSpec)

/-- ITS FALSE NEIGHBOUR: 'it returns false'. Refute it at one input. -/
def cacheFlushedWrong : ChangeSpec := { name := "cacheFlushed", fn := fun _ => fun
  | [d1, d2] => { results := [.lit (.bool false)], args := [d1, d2] }
  | _ => none }
def CacheFlushedWrongFalsely : Prop := cacheFlushedRow.holds Try.pinned (OpenSpec.ofChange cacheFlushedWrong)

/- THE SECOND FORM. 'bulk': how many values and letters a reading holds, each counted each time it is reached (what is shared counts as often as it is met; a slice's spare places count too). A statement '..UptoSaid' is the law's where the arguments, and the package variables that the reading takes, are together of bulk at most 1048576: NARROWER than '..Said'. Prove '..Said' where nothing that the law and all that it calls make is longer than what came in: it says more and counts as full. Else prove '..UptoSaid'. A law counts once. -/
mutual
def uptoBulk {H : Type} : DataW H → Nat
  | .lit (.string bytes) => bytes.length + 1
  | .lit _ => 1
  | .nil => 1
  | .ptr d => uptoBulk d + 1
  | .slice elems spare => uptoBulkAll elems + uptoBulkAll spare + 1
  | .agg parts => uptoBulkAll parts + 1
  | .iface _ d => uptoBulk d + 1
  | .map entries => uptoBulkEntries entries + 1
  | .held _ => 1
def uptoBulkAll {H : Type} : List (DataW H) → Nat
  | [] => 0
  | d :: r => uptoBulk d + uptoBulkAll r
def uptoBulkEntries {H : Type} : List (Lit × DataW H) → Nat
  | [] => 0
  | x :: r => uptoBulkEntry x + uptoBulkEntries r
def uptoBulkEntry {H : Type} : Lit × DataW H → Nat
  | (.string bytes, d) => bytes.length + uptoBulk d + 1
  | (_, d) => uptoBulk d + 1
 end
def uptoSmall : (H : Type) → List (DataW H) → Bool := fun _ ds => decide (uptoBulkAll ds ≤ 1048576)
def OpenSpec.upto (s : _root_.Go.ChangeSpec) : _root_.Go.OpenSpec := { _root_.Go.OpenSpec.ofChange s with cond := some uptoSmall }

/-- 'anamnesislaw09.LookHides', WHERE WHAT IT READS IS OF BULK AT MOST 1048576: true; the input reads as it did. -/
def lookHidesUptoRow : OpenClaim := { program := "ytcomdnpeoicpkaa", sum := "42e0ad9e984001f94c6218ff4f68fdc2b51452a061d735ce45f00db5bc5ecd21", func := "anamnesis/anamnesislaw09.LookHides", spec := "lookHides", inPlace := ["math.Float64frombits", "math.Float64bits"], unfollowed := true, recurses := true, apart := false, narrowed := true }
def LookHidesUptoSaid : Prop := lookHidesUptoRow.holds Try.pinned (OpenSpec.upto lookHidesSpec)

/-- 'anamnesislaw09.LookUnder', WHERE WHAT IT READS IS OF BULK AT MOST 1048576: true; the input reads as it did. -/
def lookUnderUptoRow : OpenClaim := { program := "ytcomdnpeoicpkaa", sum := "42e0ad9e984001f94c6218ff4f68fdc2b51452a061d735ce45f00db5bc5ecd21", func := "anamnesis/anamnesislaw09.LookUnder", spec := "lookUnder", inPlace := ["math.Float64frombits", "math.Float64bits"], unfollowed := true, recurses := true, apart := false, narrowed := true }
def LookUnderUptoSaid : Prop := lookUnderUptoRow.holds Try.pinned (OpenSpec.upto lookUnderSpec)

/-- 'anamnesislaw09.LookLays', WHERE WHAT IT READS IS OF BULK AT MOST 1048576: true; the input reads as it did. -/
def lookLaysUptoRow : OpenClaim := { program := "ytcomdnpeoicpkaa", sum := "42e0ad9e984001f94c6218ff4f68fdc2b51452a061d735ce45f00db5bc5ecd21", func := "anamnesis/anamnesislaw09.LookLays", spec := "lookLays", inPlace := ["math.Float64frombits", "math.Float64bits"], unfollowed := true, recurses := true, apart := false, narrowed := true }
def LookLaysUptoSaid : Prop := lookLaysUptoRow.holds Try.pinned (OpenSpec.upto lookLaysSpec)

/-- 'anamnesislaw10.CacheTells', WHERE WHAT IT READS IS OF BULK AT MOST 1048576: true; the input reads as it did. -/
def cacheTellsUptoRow : OpenClaim := { program := "ytcomdnpeoicpkaa", sum := "42e0ad9e984001f94c6218ff4f68fdc2b51452a061d735ce45f00db5bc5ecd21", func := "anamnesis/anamnesislaw10.CacheTells", spec := "cacheTells", inPlace := ["math.Float64frombits", "math.Float64bits"], unfollowed := true, recurses := true, apart := false, narrowed := true }
def CacheTellsUptoSaid : Prop := cacheTellsUptoRow.holds Try.pinned (OpenSpec.upto cacheTellsSpec)

/-- 'anamnesislaw10.CacheSame', WHERE WHAT IT READS IS OF BULK AT MOST 1048576: true; the input reads as it did. -/
def cacheSameUptoRow : OpenClaim := { program := "ytcomdnpeoicpkaa", sum := "42e0ad9e984001f94c6218ff4f68fdc2b51452a061d735ce45f00db5bc5ecd21", func := "anamnesis/anamnesislaw10.CacheSame", spec := "cacheSame", inPlace := ["math.Float64frombits", "math.Float64bits"], unfollowed := true, recurses := true, apart := false, narrowed := true }
def CacheSameUptoSaid : Prop := cacheSameUptoRow.holds Try.pinned (OpenSpec.upto cacheSameSpec)

/-- 'anamnesislaw10.CacheCounts', WHERE WHAT IT READS IS OF BULK AT MOST 1048576: true; the input reads as it did. -/
def cacheCountsUptoRow : OpenClaim := { program := "ytcomdnpeoicpkaa", sum := "42e0ad9e984001f94c6218ff4f68fdc2b51452a061d735ce45f00db5bc5ecd21", func := "anamnesis/anamnesislaw10.CacheCounts", spec := "cacheCounts", inPlace := ["math.Float64frombits", "math.Float64bits"], unfollowed := true, recurses := true, apart := false, narrowed := true }
def CacheCountsUptoSaid : Prop := cacheCountsUptoRow.holds Try.pinned (OpenSpec.upto cacheCountsSpec)

/-- 'anamnesislaw10.CacheSizes', WHERE WHAT IT READS IS OF BULK AT MOST 1048576: true; the input reads as it did. -/
def cacheSizesUptoRow : OpenClaim := { program := "ytcomdnpeoicpkaa", sum := "42e0ad9e984001f94c6218ff4f68fdc2b51452a061d735ce45f00db5bc5ecd21", func := "anamnesis/anamnesislaw10.CacheSizes", spec := "cacheSizes", inPlace := ["math.Float64frombits", "math.Float64bits"], unfollowed := true, recurses := true, apart := false, narrowed := true }
def CacheSizesUptoSaid : Prop := cacheSizesUptoRow.holds Try.pinned (OpenSpec.upto cacheSizesSpec)

/-- 'anamnesislaw10.CacheFlushed', WHERE WHAT IT READS IS OF BULK AT MOST 1048576: true; the input reads as it did. -/
def cacheFlushedUptoRow : OpenClaim := { program := "ytcomdnpeoicpkaa", sum := "42e0ad9e984001f94c6218ff4f68fdc2b51452a061d735ce45f00db5bc5ecd21", func := "anamnesis/anamnesislaw10.CacheFlushed", spec := "cacheFlushed", inPlace := ["math.Float64frombits", "math.Float64bits"], unfollowed := true, recurses := true, apart := false, narrowed := true }
def CacheFlushedUptoSaid : Prop := cacheFlushedUptoRow.holds Try.pinned (OpenSpec.upto cacheFlushedSpec)

end Rows
end Go.Proofs.Ytcomdnpeoicpkaa
