/- The sum of two texts one behind the other, and of the exclusive or of three texts of one length: the law answers true at every input. -/
import Derived.Test.YtidpjpbemhbmbaaRows
import Derived.Test.YtidpjpbemhbmbaaV
import Derived.Test.YtidpjpbemhbmbaaG
import Derived.ProofKit
namespace Go.Proofs.Ytidpjpbemhbmbaa.lawCrcParts
open Go.Pv Go.ChangeShapes Go.WideShapes Go.ChangeAt Go.RowKit
theorem own : ownKnob Try.prog.godebug = none := by kernel_rfl
theorem laid : laidOutB Try.prog = true := by kernel_rfl
theorem mixed : Try.prog.follows .mixedOrders = true := by kernel_rfl
theorem counts (H : Type) : Counts (H := H) Rows.uptoBulk Rows.uptoBulkAll :=
  ⟨fun d => by cases d with
    | lit l => cases l <;> simp [Rows.uptoBulk]
    | _ => simp [Rows.uptoBulk],
   fun l => by simp [Rows.uptoBulk], fun es sp => by simp [Rows.uptoBulk], fun es => by simp [Rows.uptoBulk], by simp [Rows.uptoBulkAll], fun d ds => by simp [Rows.uptoBulkAll]⟩
abbrev ty : Ty := .pair .str (.pair .str (.pair .str .unit))
set_option maxRecDepth 100000 in
theorem lifted (os : Os) (started : os.Started) (H : Type) (enc : TypeId × Value → H) :
    ReturnsInHanded {} Try.checked os 4 .any (Rows.crcPartsSpec.pre6 enc Try.prog Try.f4 Rows.crcPartsRow.domain false) (Rows.crcPartsSpec.post enc Try.prog Try.f4 false true false false) := by
  refine returnsInHanded_of_change (C := Try.checked) own started (by kernel_rfl) Try.func4
    (ChangeSpec.witness6 (enc := enc) (C := Try.checked) false ⟨#[], #[.string ⟨#[]⟩, .string ⟨#[]⟩, .string ⟨#[]⟩], []⟩ 8 (by kernel_rfl) (by kernel_rfl) (by kernel_rfl) (by kernel_rfl)) ?_
  intro W base args ds gs before hval hW _ _
  refine law_contract (P := Try.prog) (R := lore) (f := 4) (fn := Try.f4) (τ := ty) (n := 9) (s := Rows.crcPartsSpec) (tb := 4) mixed told laid (by kernel_rfl) rfl (by kernel_rfl) (by kernel_rfl) rfl (counts H) hval hW ?_ (fun x hx _ => law_crcParts x hx)
  intro ds hd
  match ds, hd with
  | [d1, d2, d3], _ => exact ⟨rfl, rfl, rfl⟩
theorem holds : Rows.CrcPartsSaid :=
  OpenClaim.holds_of_wide 4 Try.f4 rfl rfl rfl rfl rfl rfl rfl ⟨rfl, rfl, rfl, rfl, rfl⟩ rfl rfl rfl rfl rfl (by kernel_rfl) Try.func4 (by kernel_rfl)
    (of_decide_eq_true (by kernel_rfl)) (by unfold Func.isWrapper; rw [if_neg (of_decide_eq_false (by kernel_rfl))]; exact ⟨rfl, rfl⟩)
    (fun os started H enc _ => lifted os started H enc)
end Go.Proofs.Ytidpjpbemhbmbaa.lawCrcParts
