/- Writing and reading a heap, with roots, answer as the document's do: the law answers true at every input of bulk at most 1048576. -/
import Derived.Test.YtakdpnelbnbkgaaRows
import Derived.Test.YtakdpnelbnbkgaaM
import Derived.Test.YtakdpnelbnbkgaaY
import Derived.Test.YtakdpnelbnbkgaaG
import Derived.ProofKit
import Derived.JoinedCond
namespace Go.Proofs.Ytakdpnelbnbkgaa.lawSnapTells
open Go.Pv Go.ChangeShapes Go.WideShapes Go.ChangeAt Go.RowKit
theorem own : ownKnob Try.prog.godebug = none := by kernel_rfl
theorem laid : laidOutB Try.prog = true := by kernel_rfl
theorem mixed : Try.prog.follows .mixedOrders = true := by kernel_rfl
theorem counts (H : Type) : Counts (H := H) Rows.uptoBulk Rows.uptoBulkAll :=
  ⟨fun d => by cases d with
    | lit l => cases l <;> simp [Rows.uptoBulk]
    | _ => simp [Rows.uptoBulk],
   fun l => by simp [Rows.uptoBulk], fun es sp => by simp [Rows.uptoBulk], fun es => by simp [Rows.uptoBulk], by simp [Rows.uptoBulkAll], fun d ds => by simp [Rows.uptoBulkAll]⟩
abbrev ty : Ty := stellsT
set_option maxRecDepth 100000 in
theorem lifted (os : Os) (started : os.Started) (H : Type) (enc : TypeId × Value → H) (F : Stop.Interp) :
    ReturnsInHanded {} Try.checked os 3 .any ((Rows.OpenSpec.upto Rows.snapTellsSpec).pre6 enc Try.prog Try.f3 Rows.snapTellsUptoRow.domain false) (((Rows.OpenSpec.upto Rows.snapTellsSpec).at F).post enc Try.prog Try.f3 false true false false) := by
  refine returnsInHanded_of_cond (C := Try.checked) (s := Rows.OpenSpec.upto Rows.snapTellsSpec) (k := Rows.uptoSmall) rfl own started (by kernel_rfl) Try.func3
    (OpenSpec.witness (enc := enc) (C := Try.checked) (s := Rows.OpenSpec.upto Rows.snapTellsSpec) (k := Rows.uptoSmall) rfl false ⟨#[], #[.agg #[.slice none 0 0, .int .i64 0, .int .i64 0], .slice none 0 0, .string ⟨#[]⟩], []⟩ 8 (by kernel_rfl) (by kernel_rfl) (by kernel_rfl)
      (x := ([.agg [.nil, .lit (.int .i64 0), .lit (.int .i64 0)], .nil, .lit (.string [])], [], [])) (by kernel_rfl) rfl (by kernel_rfl)) ?_
  intro W base args ds gs before hval hW _ hk _
  have hgs : gs = [] := by
    obtain ⟨p, q, _, hV, _⟩ := hW
    exact (trodVars_none hV).1
  have hb : Rows.uptoBulkAll ds ≤ 1048576 := by
    have h : Rows.uptoBulkAll (ds ++ gs) ≤ 1048576 := of_decide_eq_true hk
    rwa [hgs, List.append_nil] at h
  refine law_contract (P := Try.prog) (R := loreT) (f := 3) (fn := Try.f3) (τ := ty) (n := 9) (s := Rows.snapTellsSpec) (tb := 4) mixed toldT laid (by kernel_rfl) rfl (by kernel_rfl) (by kernel_rfl) rfl (counts H) hval hW ?_ (fun x hx hk => law_snapTells x hx (Nat.le_trans hk hb))
  intro ds hd
  match ds, hd with
  | [d1, d2, d3], _ => exact ⟨rfl, rfl, rfl⟩
theorem holds : Rows.SnapTellsUptoSaid :=
  OpenClaim.holds_of_cond 3 Try.f3 rfl rfl rfl rfl rfl rfl rfl ⟨rfl, rfl, rfl, rfl, rfl⟩ rfl rfl rfl rfl rfl (by kernel_rfl) Try.func3 (by kernel_rfl)
    (of_decide_eq_true (by kernel_rfl)) (by unfold Func.isWrapper; rw [if_neg (of_decide_eq_false (by kernel_rfl))]; exact ⟨rfl, rfl⟩)
    (fun os started H enc _ F => lifted os started H enc F)
end Go.Proofs.Ytakdpnelbnbkgaa.lawSnapTells
