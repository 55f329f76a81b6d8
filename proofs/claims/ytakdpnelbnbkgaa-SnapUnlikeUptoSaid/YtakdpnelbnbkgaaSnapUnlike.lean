/- Two heaps, with roots, that may be have the same bytes just if they are the same, numbers and all: the law answers true at every input of bulk at most 1048576. -/
import Derived.Test.YtakdpnelbnbkgaaRows
import Derived.Test.YtakdpnelbnbkgaaM
import Derived.Test.YtakdpnelbnbkgaaP
import Derived.Test.YtakdpnelbnbkgaaG
import Derived.ProofKit
import Derived.JoinedCond
namespace Go.Proofs.Ytakdpnelbnbkgaa.lawSnapUnlike
open Go.Pv Go.ChangeShapes Go.WideShapes Go.ChangeAt Go.RowKit
theorem own : ownKnob Try.prog.godebug = none := by kernel_rfl
theorem laid : laidOutB Try.prog = true := by kernel_rfl
theorem mixed : Try.prog.follows .mixedOrders = true := by kernel_rfl
theorem counts (H : Type) : Counts (H := H) Rows.uptoBulk Rows.uptoBulkAll :=
  ⟨fun d => by cases d with
    | lit l => cases l <;> simp [Rows.uptoBulk]
    | _ => simp [Rows.uptoBulk],
   fun l => by simp [Rows.uptoBulk], fun es sp => by simp [Rows.uptoBulk], fun es => by simp [Rows.uptoBulk], by simp [Rows.uptoBulkAll], fun d ds => by simp [Rows.uptoBulkAll]⟩
abbrev ty : Ty := unlikeT
set_option maxRecDepth 100000 in
theorem lifted (os : Os) (started : os.Started) (H : Type) (enc : TypeId × Value → H) (F : Stop.Interp) :
    ReturnsInHanded {} Try.checked os 7 .any ((Rows.OpenSpec.upto Rows.snapUnlikeSpec).pre6 enc Try.prog Try.f7 Rows.snapUnlikeUptoRow.domain false) (((Rows.OpenSpec.upto Rows.snapUnlikeSpec).at F).post enc Try.prog Try.f7 false true false false) := by
  refine returnsInHanded_of_cond (C := Try.checked) (s := Rows.OpenSpec.upto Rows.snapUnlikeSpec) (k := Rows.uptoSmall) rfl own started (by kernel_rfl) Try.func7
    (OpenSpec.witness (enc := enc) (C := Try.checked) (s := Rows.OpenSpec.upto Rows.snapUnlikeSpec) (k := Rows.uptoSmall) rfl false ⟨#[], #[.agg #[.slice none 0 0, .int .i64 0, .int .i64 0], .agg #[.slice none 0 0, .int .i64 0, .int .i64 0], .agg #[.slice none 0 0, .slice none 0 0]], []⟩ 8 (by kernel_rfl) (by kernel_rfl) (by kernel_rfl)
      (x := ([.agg [.nil, .lit (.int .i64 0), .lit (.int .i64 0)], .agg [.nil, .lit (.int .i64 0), .lit (.int .i64 0)], .agg [.nil, .nil]], [], [])) (by kernel_rfl) rfl (by kernel_rfl)) ?_
  intro W base args ds gs before hval hW _ hk _
  have hgs : gs = [] := by
    obtain ⟨p, q, _, hV, _⟩ := hW
    exact (trodVars_none hV).1
  have hb : Rows.uptoBulkAll ds ≤ 1048576 := by
    have h : Rows.uptoBulkAll (ds ++ gs) ≤ 1048576 := of_decide_eq_true hk
    rwa [hgs, List.append_nil] at h
  refine law_contract (P := Try.prog) (R := lore) (f := 7) (fn := Try.f7) (τ := ty) (n := 9) (s := Rows.snapUnlikeSpec) (tb := 4) mixed allTold laid (by kernel_rfl) rfl (by kernel_rfl) (by kernel_rfl) rfl (counts H) hval hW ?_ (fun x hx hk => law_snapUnlike x hx (Nat.le_trans hk hb))
  intro ds hd
  match ds, hd with
  | [d1, d2, d3], _ => exact ⟨rfl, rfl, rfl⟩
theorem holds : Rows.SnapUnlikeUptoSaid :=
  OpenClaim.holds_of_cond 7 Try.f7 rfl rfl rfl rfl rfl rfl rfl ⟨rfl, rfl, rfl, rfl, rfl⟩ rfl rfl rfl rfl rfl (by kernel_rfl) Try.func7 (by kernel_rfl)
    (of_decide_eq_true (by kernel_rfl)) (by unfold Func.isWrapper; rw [if_neg (of_decide_eq_false (by kernel_rfl))]; exact ⟨rfl, rfl⟩)
    (fun os started H enc _ F => lifted os started H enc F)
end Go.Proofs.Ytakdpnelbnbkgaa.lawSnapUnlike
