/- A part of the road: the interpreter of plain data and the proof that it is right. -/
import Derived.Test.YtidpjpbemhbmbaaProg
import Derived.Shelf.RegionOpenPlain
import Derived.WalkKit
import Derived.Lib.Walk
import Derived.Lib.SliceRun
import Derived.Lib.AppendZerosOnto
/- slices.Grow of a slice that is nil: a new row, without elements. -/
namespace Go.Pv
open Go Go.Proofs Go.Shelf Go.RowKit Go.Lib
set_option maxHeartbeats 4000000
set_option maxRecDepth 100000
theorem grow_zero (w : World) : Calls Try.prog 64 #[.slice none 0 0, .int .i64 0] w fun e w' => e = .returned (.slice none 0 0) ∧ w' = w := by
  go_enter Try.func64, Try.ntmps64
  go_wp2
  go_ret
  exact ⟨rfl, rfl⟩
theorem grow_more (w : World) (n : Nat) (h0 : 0 < n) (hb : n * 8 ≤ 140737488355328) : Calls Try.prog 64 #[.slice none 0 0, .int .i64 n] w fun e w' =>
    e = .returned (.slice (some ⟨w.heap.size, 0, none⟩) 0 (grownCap w n 0 3)) ∧ w' = w.drew.alloc (.cells (#[] ++ Builtin.zeroCells #[.int .i64 0] n ++ Builtin.zeroCells #[.int .i64 0] (grownCap w n 0 3 - n)) 3) := by
  have h1 : ¬ ((n : Int) < 0) := by omega
  have h2 : wrap64 ((n : Int)) = n := by unfold wrap64; omega
  have h4 : (n : Int) > 0 := by omega
  obtain ⟨i0, hi0⟩ : ∃ i0, Try.prog.info? 3 = some i0 := ⟨_, rfl⟩
  have hi0' : (Try.prog.info? 3) = some i0 := hi0
  have hs0 : i0.size = 1 := by cases hi0; rfl
  have hb0 : i0.bytes = 8 := by cases hi0; rfl
  have hz0 : i0.zero = some (.int .i64 0) := by cases hi0; rfl
  have hold : (Builtin.firstCells i0.size 0 (.slice none 0 0)).run Try.prog w.drew = .ok ([] : List Value).toArray w.drew := run_firstCells_none w.drew i0.size 0 0 0
  have hrz : ∀ ty, (Builtin.append_ #[51, 3] ty #[.slice none 0 0, .int .i64 (n : Int)]).run Try.prog w =
      .ok (.slice (some ⟨w.heap.size, 0, none⟩) n (grownCap w n 0 3)) (w.drew.alloc (.cells (([] : List Value).toArray ++ Builtin.zeroCells (Value.int .i64 0).cells n ++ Builtin.zeroCells (Value.int .i64 0).cells (grownCap w n 0 3 - n)) 3)) := fun ty => by
    have h := Lib.run_append_grow_zeros w 51 3 ty 3 i0 (.int .i64 0) .i64 .i64 (by kernel_rfl) (by kernel_rfl) hi0 hz0 none 0 0 [] hold n h0 (by omega) (by omega) (by omega) (by rw [hb0]; omega)
      (growslice_fits (by omega) (by rw [hb0]; omega))
    simpa using h
  have hGn : n ≤ grownCap w n 0 3 := grownCap_ge w _ _ _
  obtain ⟨G, hG⟩ : ∃ G, G = grownCap w n 0 3 := ⟨_, rfl⟩
  rw [← hG] at hrz hGn ⊢
  have hG63 : G ≤ 9223372036854775807 := by
    have := grownCap_le_maxLen w n 0 3 (by unfold maxLen; omega)
    rw [← hG] at this
    unfold maxLen at this
    omega
  clear hold hG hi0 hi0' hs0 hb0 hz0
  go_enter Try.func64, Try.ntmps64
  go_wp2_with (at_builtin; refine Lib.wpList_append_run _ rfl _ _ _ _ rfl _ _ rfl rfl _ _ (hrz _) ?_)
  all_goals (go_ret; exact ⟨rfl, rfl⟩)
theorem grow_made (w : World) (n : Nat) (h0 : 0 < n) (hb : n * 8 ≤ 140737488355328) : Calls Try.prog 64 #[.slice none 0 0, .int .i64 n] w fun e w' =>
    ∃ cs cap, e = .returned (.slice (some ⟨w.heap.size, 0, none⟩) 0 cap) ∧ w' = w.drew.alloc (.cells cs 3) ∧ cs.size = cap ∧ cap ≤ maxLen := by
  refine (grow_more w n h0 hb).mono fun e w' ⟨h1, h2⟩ => ⟨_, _, h1, h2, ?_, grownCap_le_maxLen w n 0 3 (by unfold maxLen; omega)⟩
  have hGn : n ≤ grownCap w n 0 3 := grownCap_ge w _ _ _
  simp [Builtin.zeroCells]
  omega
end Go.Pv
