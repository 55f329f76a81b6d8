/- What a cache tells, asked anything, of two heaps, and flushed, and how many hits there were, are as the document says: the law answers true at every input of bulk at most 1048576. -/
import Derived.Test.YtcomdnpeoicpkaaRows
import Derived.Test.YtcomdnpeoicpkaaMD
import Derived.Test.YtcomdnpeoicpkaaPE
import Derived.Test.YtcomdnpeoicpkaaG
import Derived.ProofKit
import Derived.JoinedCond
namespace Go.Proofs.Ytcomdnpeoicpkaa.lawCacheTells
open Go.Pv Go.ChangeShapes Go.WideShapes Go.ChangeAt Go.RowKit
theorem own : ownKnob Try.prog.godebug = none := by kernel_rfl
theorem laid : laidOutB Try.prog = true := by kernel_rfl
theorem mixed : Try.prog.follows .mixedOrders = true := by kernel_rfl
theorem counts (H : Type) : Counts (H := H) Rows.uptoBulk Rows.uptoBulkAll :=
  ⟨fun d => by cases d with
    | lit l => cases l <;> simp [Rows.uptoBulk]
    | _ => simp [Rows.uptoBulk],
   fun l => by simp [Rows.uptoBulk], fun es sp => by simp [Rows.uptoBulk], fun es => by simp [Rows.uptoBulk], by simp [Rows.uptoBulkAll], fun d ds => by simp [Rows.uptoBulkAll]⟩
abbrev ty : Ty := cacheST
set_option maxRecDepth 100000 in
theorem lifted (os : Os) (started : os.Started) (H : Type) (enc : TypeId × Value → H) (F : Stop.Interp) :
    ReturnsInHanded {} Try.checked os 6 .any ((Rows.OpenSpec.upto Rows.cacheTellsSpec).pre6 enc Try.prog Try.f6 Rows.cacheTellsUptoRow.domain false) (((Rows.OpenSpec.upto Rows.cacheTellsSpec).at F).post enc Try.prog Try.f6 false true false false) := by
  refine returnsInHanded_of_cond (C := Try.checked) (s := Rows.OpenSpec.upto Rows.cacheTellsSpec) (k := Rows.uptoSmall) rfl own started (by kernel_rfl) Try.func6
    (OpenSpec.witness (enc := enc) (C := Try.checked) (s := Rows.OpenSpec.upto Rows.cacheTellsSpec) (k := Rows.uptoSmall) rfl false ⟨#[], #[.agg #[.slice none 0 0, .int .i64 0, .int .i64 0], .agg #[.slice none 0 0, .int .i64 0, .int .i64 0], .agg #[.int .i64 0, .slice none 0 0]], []⟩ 8 (by kernel_rfl) (by kernel_rfl) (by kernel_rfl)
      (x := ([.agg [.nil, .lit (.int .i64 0), .lit (.int .i64 0)], .agg [.nil, .lit (.int .i64 0), .lit (.int .i64 0)], .agg [.lit (.int .i64 0), .nil]], [], [])) (by kernel_rfl) rfl (by kernel_rfl)) ?_
  intro W base args ds gs before hval hW _ hk _
  have hgs : gs = [] := by
    obtain ⟨p, q, _, hV, _⟩ := hW
    exact (trodVars_none hV).1
  have hb : Rows.uptoBulkAll ds ≤ 1048576 := by
    have h : Rows.uptoBulkAll (ds ++ gs) ≤ 1048576 := of_decide_eq_true hk
    rwa [hgs, List.append_nil] at h
  refine law_contract (P := Try.prog) (R := loreT) (f := 6) (fn := Try.f6) (τ := ty) (n := 9) (s := Rows.cacheTellsSpec) (tb := 4) mixed toldT laid (by kernel_rfl) rfl (by kernel_rfl) (by kernel_rfl) rfl (counts H) hval hW ?_ (fun x hx hk => law_cacheTells x hx (Nat.le_trans hk hb))
  intro ds hd
  match ds, hd with
  | [d1, d2, d3], _ => exact ⟨rfl, rfl, rfl⟩
theorem holds : Rows.CacheTellsUptoSaid :=
  OpenClaim.holds_of_cond 6 Try.f6 rfl rfl rfl rfl rfl rfl rfl ⟨rfl, rfl, rfl, rfl, rfl⟩ rfl rfl rfl rfl rfl (by kernel_rfl) Try.func6 (by kernel_rfl)
    (of_decide_eq_true (by kernel_rfl)) (by unfold Func.isWrapper; rw [if_neg (of_decide_eq_false (by kernel_rfl))]; exact ⟨rfl, rfl⟩)
    (fun os started H enc _ F => lifted os started H enc F)
end Go.Proofs.Ytcomdnpeoicpkaa.lawCacheTells
