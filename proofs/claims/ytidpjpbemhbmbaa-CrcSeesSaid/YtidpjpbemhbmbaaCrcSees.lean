/- Bits of one byte that are other are seen, and a text with its sum's bytes behind has one sum: the law answers true at every input. -/
import Derived.Test.YtidpjpbemhbmbaaRows
import Derived.Test.YtidpjpbemhbmbaaU
import Derived.Test.YtidpjpbemhbmbaaG
import Derived.ProofKit
namespace Go.Proofs.Ytidpjpbemhbmbaa.lawCrcSees
open Go.Pv Go.ChangeShapes Go.WideShapes Go.ChangeAt Go.RowKit
theorem own : ownKnob Try.prog.godebug = none := by kernel_rfl
theorem laid : laidOutB Try.prog = true := by kernel_rfl
theorem mixed : Try.prog.follows .mixedOrders = true := by kernel_rfl
theorem counts (H : Type) : Counts (H := H) Rows.uptoBulk Rows.uptoBulkAll :=
  ⟨fun d => by cases d with
    | lit l => cases l <;> simp [Rows.uptoBulk]
    | _ => simp [Rows.uptoBulk],
   fun l => by simp [Rows.uptoBulk], fun es sp => by simp [Rows.uptoBulk], fun es => by simp [Rows.uptoBulk], by simp [Rows.uptoBulkAll], fun d ds => by simp [Rows.uptoBulkAll]⟩
abbrev ty : Ty := .pair .str (.pair (.int .i64) (.pair (.int .i64) .unit))
set_option maxRecDepth 100000 in
theorem lifted (os : Os) (started : os.Started) (H : Type) (enc : TypeId × Value → H) :
    ReturnsInHanded {} Try.checked os 5 .any (Rows.crcSeesSpec.pre6 enc Try.prog Try.f5 Rows.crcSeesRow.domain false) (Rows.crcSeesSpec.post enc Try.prog Try.f5 false true false false) := by
  refine returnsInHanded_of_change (C := Try.checked) own started (by kernel_rfl) Try.func5
    (ChangeSpec.witness6 (enc := enc) (C := Try.checked) false ⟨#[], #[.string ⟨#[]⟩, .int .i64 0, .int .i64 0], []⟩ 8 (by kernel_rfl) (by kernel_rfl) (by kernel_rfl) (by kernel_rfl)) ?_
  intro W base args ds gs before hval hW _ _
  refine law_contract (P := Try.prog) (R := lore) (f := 5) (fn := Try.f5) (τ := ty) (n := 9) (s := Rows.crcSeesSpec) (tb := 4) mixed told laid (by kernel_rfl) rfl (by kernel_rfl) (by kernel_rfl) rfl (counts H) hval hW ?_ (fun x hx _ => law_crcSees x hx)
  intro ds hd
  match ds, hd with
  | [d1, d2, d3], _ => exact ⟨rfl, rfl, rfl⟩
theorem holds : Rows.CrcSeesSaid :=
  OpenClaim.holds_of_wide 5 Try.f5 rfl rfl rfl rfl rfl rfl rfl ⟨rfl, rfl, rfl, rfl, rfl⟩ rfl rfl rfl rfl rfl (by kernel_rfl) Try.func5 (by kernel_rfl)
    (of_decide_eq_true (by kernel_rfl)) (by unfold Func.isWrapper; rw [if_neg (of_decide_eq_false (by kernel_rfl))]; exact ⟨rfl, rfl⟩)
    (fun os started H enc _ => lifted os started H enc)
end Go.Proofs.Ytidpjpbemhbmbaa.lawCrcSees
