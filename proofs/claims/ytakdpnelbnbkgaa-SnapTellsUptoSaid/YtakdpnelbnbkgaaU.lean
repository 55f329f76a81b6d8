/- A part of the road: the interpreter of plain data and the proof that it is right. -/
import Derived.Test.YtakdpnelbnbkgaaProg
import Derived.Lib.FrozenHead2
import Derived.Lib.OthersKept
import Derived.Lib.UnsafeStr
import Derived.Lib.Strings
import Derived.Lib.Walk
import Derived.WalkKit
import Derived.Laws.Externs
import Derived.KernelRfl
import Derived.OwnWalk
import Derived.Test.YtakdpnelbnbkgaaN
import Derived.Deep.RegionWith
set_option linter.unusedVariables false
set_option linter.unusedSimpArgs false
/- strings.Builder inside a writer: what its methods do. -/
namespace Go.Pv
open Go Go.Proofs Go.RowKit
set_option maxHeartbeats 4000000
set_option maxRecDepth 100000
set_option linter.unusedVariables false
set_option linter.unusedSimpArgs false
abbrev Wr (B b : Nat) (l : List UInt8) (w : World) : Prop := Lib.IsBuilderF 57 5 B b (Lib.byteCells l) w
abbrev WrK (B b : Nat) (w w' : World) : Prop := Below B w w' ∧ Lib.OthersKept 5 (some b) w w'
theorem sizeBuilder : (Try.prog.info? 55).map (·.size) = some 2 := by kernel_rfl
theorem copyCheck_used (b : Nat) (w : World) (h0 : w.cell? ⟨b, 0, none⟩ = some (.pointer (some ⟨b, 0, none⟩))) :
    Calls Try.prog 54 #[.pointer (some ⟨b, 0, none⟩)] w fun e w' => e = .returned (.tuple #[]) ∧ w' = w := by
  obtain ⟨j, hj, _⟩ := Option.map_eq_some_iff.1 sizeBuilder
  go_enter Try.func54, Try.ntmps54
  go_wp2
  rw [Lib.run_neq_ptr_same w _ Try.underlying53 hj]
  go_wp2
  go_end0
  exact ⟨rfl, rfl⟩
theorem copyCheck_fresh (b : Nat) (w : World) (h0 : w.cell? ⟨b, 0, none⟩ = some (.pointer none)) (hsh : w.shape? b = some (57, 2)) (hfz : w.frozen? ⟨b, 0, none⟩ = false) :
    Calls Try.prog 54 #[.pointer (some ⟨b, 0, none⟩)] w fun e w' => e = .returned (.tuple #[]) ∧ w' = w.setCell ⟨b, 0, none⟩ (.pointer (some ⟨b, 0, none⟩)) := by
  obtain ⟨j, hj, hjs⟩ := Option.map_eq_some_iff.1 sizeBuilder
  go_enter Try.func54, Try.ntmps54
  go_wp2
  rw [Lib.run_to_unsafe w ⟨b, 0, none⟩ Try.underlying53 Try.underlying94 hj (by rw [hjs]; decide) hsh (Nat.zero_lt_succ 1)]
  simp only [Result.andThen]
  rw [Oper.upon_value]
  go_wp2
  rw [run_callFunc_extern Try.func68 (by kernel_rfl) (by kernel_rfl) (by kernel_rfl) (e := Extern.AbiNoEscape.same) (by kernel_rfl)]
  rw [Lib.run_noEscape]
  simp only [Result.andThen]
  rw [Oper.upon_value]
  go_wp2
  rw [Lib.run_from_unsafe w ⟨b, 0, none⟩ Try.underlying94 Try.underlying53 hj hsh (by kernel_rfl)]
  simp only [Result.andThen]
  rw [Oper.upon_value]
  go_wp2
  go_end0
  exact ⟨rfl, rfl⟩
theorem copyCheck_any (B b : Nat) (bs : List Value) (w : World) (h : Lib.IsBuilderF 57 5 B b bs w) :
    Calls Try.prog 54 #[.pointer (some ⟨b, 0, none⟩)] w fun e w' => e = .returned (.tuple #[]) ∧ Lib.BuilderAtF 57 5 B b (.pointer (some ⟨b, 0, none⟩)) bs w' ∧ WrK B b w w' := by
  rcases h with h | h
  · refine (copyCheck_fresh b w h.cell0 h.shape h.frozen0).mono ?_
    rintro e w' ⟨rfl, rfl⟩
    exact ⟨rfl, h.used _, (Below.refl B w).setCell (p := ⟨b, 0, none⟩) h.1 _, (Lib.OthersKept.refl _ _ w).setCell ⟨b, 0, none⟩ rfl _⟩
  · refine (copyCheck_used b w h.cell0).mono ?_
    rintro e w' ⟨rfl, rfl⟩
    exact ⟨rfl, h, Below.refl B _, Lib.OthersKept.refl _ _ _⟩
end Go.Pv

/- strings.Builder inside a writer: what its methods do. -/
namespace Go.Pv
open Go Go.Proofs Go.RowKit
set_option maxHeartbeats 4000000
set_option maxRecDepth 100000
set_option linter.unusedVariables false
set_option linter.unusedSimpArgs false
theorem infoByte : (Try.prog.info? 5).map (fun i => (i.zero, i.size, i.bytes)) = some (some (.int .u8 0), 1, 1) := by kernel_rfl
theorem WriteByte_any (B b : Nat) (l : List UInt8) (c : UInt8) (w : World) (h : Wr B b l w) (hlen : l.length + 1 ≤ 140737488355328) (hBw : B ≤ w.heap.size) :
    Calls Try.prog 55 #[.pointer (some ⟨b, 0, none⟩), .int .u8 c.toNat] w fun e w' => e = .returned .nilIface ∧ Wr B b (l ++ [c]) w' ∧ WrK B b w w' := by
  obtain ⟨i0, hi, hz0, hz1, hz2⟩ := info_parts infoByte
  go_enter Try.func55, Try.ntmps55
  go_wp2_with (go_at_call 54; refine (copyCheck_any B b _ _ h).mono ?_)
  rintro e w1 ⟨rfl, h1, hb1, hk1⟩
  obtain ⟨hB, v, hbk, hown, hne⟩ := h1
  have c0 : w1.cell? ⟨b, 0, none⟩ = some (.pointer (some ⟨b, 0, none⟩)) := by rw [Lib.cell_of_heap hbk]; rfl
  have c1 : w1.cell? ⟨b, 1, none⟩ = some v := by rw [Lib.cell_of_heap hbk]; rfl
  go_wp2_with (at_builtin; refine wpList_append_ownF _ rfl _ _ 36 rfl B 5 i0 (.int .u8 0) 1 1 Try.underlying36 hi hz0 hz1 hz2 rfl (by decide) _ _ _ rfl (hown.alloc _) ⟨w1.heap.size, 0, none⟩ 1 1 [.int .u8 c.toNat] rfl rfl ?c1 ?c2 ?c3 ?c4 ?c5 ?_)
  case c1 =>
    intro j u hj
    match j, hj with
    | 0, hj => simp at hj; subst hj; simp [Addr.add]
  case c2 => intro u hu; simp at hu; subst hu; rfl
  case c3 => rw [Lib.byteCells_length]; unfold maxLen; omega
  case c4 => rw [Lib.byteCells_length]; omega
  case c5 => have := hb1.size; simp; omega
  intro v' w2 hown' hgrow _
  have hlt : b < w1.heap.size := by
    rcases Nat.lt_or_ge b w1.heap.size with h' | h'
    · exact h'
    · simp [Array.getElem?_eq_none h'] at hbk
  have hb2 : w2.heap[b]? = some (.cells #[.pointer (some ⟨b, 0, none⟩), v] 57 (0, 0)) := by
    rw [hgrow.block b (by simp; omega) (fun e => hne e.symm), Lib.alloc_old w1 _ b hlt]
    exact hbk
  have d0 : w2.cell? ⟨b, 0, none⟩ = some (.pointer (some ⟨b, 0, none⟩)) := by rw [Lib.cell_of_heap hb2]; rfl
  have d1 : w2.cell? ⟨b, 1, none⟩ = some v := by rw [Lib.cell_of_heap hb2]; rfl
  have f1 : w2.frozen? ⟨b, 1, none⟩ = false := Lib.frozen_of_heap hb2 1
  obtain ⟨g, cap, rfl⟩ : ∃ g cap, v' = .slice (some ⟨g, 0, none⟩) (l.length + 1) cap := by
    rcases hown'.2 with ⟨_, h0⟩ | ⟨g, cap, cur, fz, hv, _⟩
    · omega
    · exact ⟨g, cap, by rw [hv, Lib.byteCells_length]⟩
  go_wp2
  go_ret
  refine ⟨rfl, .inr ?_, ?_, ((hk1.alloc _).grown hgrow (Lib.ownsRowF_kind (hown.alloc _))).setCell ⟨b, 1, none⟩ rfl _⟩
  · exact Lib.BuilderAtF.put (T := 57) (e := 5) hB hb2 (bs' := Lib.byteCells (l ++ [c])) (by rw [Lib.byteCells_append] at *; simpa [Lib.byteCells] using hown') (by decide)
  · exact ((hb1.alloc (by have := hb1.size; omega) _).grown hgrow (by have := hb1.size; simp; omega) (fun k hk => (hown.lt k hk).1)).setCell (p := ⟨b, 1, none⟩) hB _
theorem WriteString_any (B b : Nat) (l : List UInt8) (s : ByteArray) (w : World) (h : Wr B b l w) (hlen : l.length + s.size ≤ 140737488355328) (hBw : B ≤ w.heap.size) :
    Calls Try.prog 28 #[.pointer (some ⟨b, 0, none⟩), .string s] w fun e w' => e = .returned (.tuple #[.int .i64 s.size, .nilIface]) ∧ Wr B b (l ++ s.data.toList) w' ∧ WrK B b w w' := by
  obtain ⟨i0, hi, hz0, hz1, hz2⟩ := info_parts infoByte
  go_enter Try.func28, Try.ntmps28
  go_wp2_with (go_at_call 54; refine (copyCheck_any B b _ _ h).mono ?_)
  rintro e w1 ⟨rfl, h1, hb1, hk1⟩
  obtain ⟨hB, v, hbk, hown, hne⟩ := h1
  have c0 : w1.cell? ⟨b, 0, none⟩ = some (.pointer (some ⟨b, 0, none⟩)) := by rw [Lib.cell_of_heap hbk]; rfl
  have c1 : w1.cell? ⟨b, 1, none⟩ = some v := by rw [Lib.cell_of_heap hbk]; rfl
  go_wp2_with (at_builtin; refine Lib.wpList_append_own_stringF _ rfl _ _ 36 9 rfl B 5 i0 Try.underlying36 Try.underlying9 hi hz0 hz1 hz2 _ _ _ rfl hown s rfl ?c3 ?c4 ?c5 ?_)
  case c3 => rw [Lib.byteCells_length]; unfold maxLen; omega
  case c4 => rw [Lib.byteCells_length]; omega
  case c5 => have := hb1.size; omega
  intro v' w2 hown' hgrow _
  have hlt : b < w1.heap.size := by
    rcases Nat.lt_or_ge b w1.heap.size with h' | h'
    · exact h'
    · simp [Array.getElem?_eq_none h'] at hbk
  have hb2 : w2.heap[b]? = some (.cells #[.pointer (some ⟨b, 0, none⟩), v] 57 (0, 0)) := by
    rw [hgrow.block b hlt (fun e => hne e.symm)]
    exact hbk
  have d0 : w2.cell? ⟨b, 0, none⟩ = some (.pointer (some ⟨b, 0, none⟩)) := by rw [Lib.cell_of_heap hb2]; rfl
  have d1 : w2.cell? ⟨b, 1, none⟩ = some v := by rw [Lib.cell_of_heap hb2]; rfl
  have f1 : w2.frozen? ⟨b, 1, none⟩ = false := Lib.frozen_of_heap hb2 1
  obtain ⟨ao, n', cap, rfl⟩ : ∃ ao n' cap, v' = .slice ao n' cap := by
    rcases hown'.2 with ⟨hv, _⟩ | ⟨g, cap, cur, fz, hv, _⟩
    · exact ⟨_, _, _, hv⟩
    · exact ⟨_, _, _, hv⟩
  go_wp2
  go_ret2
  refine ⟨rfl, .inr ?_, ?_, (hk1.grown hgrow (Lib.ownsRowF_kind hown)).setCell ⟨b, 1, none⟩ rfl _⟩
  · exact Lib.BuilderAtF.put (T := 57) (e := 5) hB hb2 (bs' := Lib.byteCells (l ++ s.data.toList)) (by rw [Lib.byteCells_append, ← Lib.strCells_eq]; simpa [Lib.strCells_length] using hown') (by decide)
  · exact (hb1.grown hgrow (by have := hb1.size; omega) (fun k hk => (hown.lt k hk).1)).setCell (p := ⟨b, 1, none⟩) hB _
theorem String_any (B b : Nat) (l : List UInt8) (w : World) (h : Wr B b l w) (h0 : l ≠ []) :
    Calls Try.prog 32 #[.pointer (some ⟨b, 0, none⟩)] w fun e w' => e = .returned (.string ⟨l.toArray⟩) ∧ Wr B b l w' ∧ WrK B b w w' := by
  obtain ⟨p, hp, hAt⟩ : ∃ p, (p = .pointer none ∨ p = .pointer (some ⟨b, 0, none⟩)) ∧ Lib.BuilderAtF 57 5 B b p (Lib.byteCells l) w := by
    rcases h with h | h
    · exact ⟨_, .inl rfl, h⟩
    · exact ⟨_, .inr rfl, h⟩
  obtain ⟨hB, v, hbk, hown, hne⟩ := hAt
  have hl0 : l.length ≠ 0 := by simpa using h0
  rw [Lib.byteCells_length] at hown
  obtain ⟨g, cap, cur, fz, rfl, hbg, hg, hfz, hnc, hcm, hcs, htake⟩ : ∃ g cap cur fz, v = .slice (some ⟨g, 0, none⟩) l.length cap ∧ B ≤ g ∧ w.heap[g]? = some (.cells cur 5 fz) ∧ fz.2 ≤ l.length * 1 ∧ l.length ≤ cap ∧ cap ≤ maxLen ∧ cur.size = cap * 1 ∧ cur.toList.take (l.length * 1) = Lib.byteCells l := by
    rcases hown.2 with ⟨_, hz⟩ | ⟨g, cap, cur, fz, hv, r⟩
    · exact absurd hz hl0
    · exact ⟨g, cap, cur, fz, hv, r⟩
  have c1 : w.drew.cell? ⟨b, 1, none⟩ = some (.slice (some ⟨g, 0, none⟩) l.length cap) := by
    have : w.drew.heap[b]? = some (.cells #[p, .slice (some ⟨g, 0, none⟩) l.length cap] 57 (0, 0)) := hbk
    rw [Lib.cell_of_heap this]; rfl
  have hSD : (Builtin.unsafeSliceData_ #[36] 84 #[.slice (some ⟨g, 0, none⟩) l.length cap]).run Try.prog w.drew = .ok (.pointer (some ⟨g, 0, none⟩)) w.drew :=
    Lib.run_unsafeSliceData_row _ _ _ _ _ _ (by omega)
  have hUS : (Builtin.unsafeString_ #[84, 3] 9 #[.pointer (some ⟨g, 0, none⟩), .int .i64 l.length]).run Try.prog w.drew = .ok (.string ⟨l.toArray⟩) (w.drew.freeze ⟨g, 0, none⟩ l.length) := by
    refine Lib.run_unsafeString_row w.drew 84 3 9 5 Try.underlying84 (by kernel_rfl) g cur.size (by have hg' : w.drew.heap[g]? = some (.cells cur 5 fz) := hg; simp [World.shape?, hg']) l h0 (by omega) (by unfold maxLen at hcm; omega) ?_
    intro j x hx
    have := hown.cells (g := g) rfl j (.int .u8 x.toNat) (by simp [Lib.byteCells, hx])
    exact this
  have hkeep : Lib.IsBuilderF 57 5 B b (Lib.byteCells l) (w.drew.freeze ⟨g, 0, none⟩ l.length) := by
    have hA : Lib.BuilderAtF 57 5 B b p (Lib.byteCells l) w.drew := ⟨hB, _, hbk, by rw [Lib.byteCells_length]; exact hown, hne⟩
    have hF := hA.froze (g := g) (cap := cap) (by rw [Lib.byteCells_length]; exact c1)
    rw [Lib.byteCells_length] at hF
    rcases hp with rfl | rfl
    · exact .inl hF
    · exact .inr hF
  go_enter Try.func32, Try.ntmps32
  go_wp2
  go_region
  all_goals (go_wp2; go_ret; exact ⟨rfl, hkeep, Lib.below_freeze (Below.drew (Below.refl B w)) (p := ⟨g, 0, none⟩) hbg _, ((Lib.OthersKept.refl _ _ w).drew).freeze ⟨g, 0, none⟩ _ ⟨cur, fz, hg⟩⟩)
end Go.Pv

/- A writer's numbers and lists. -/
namespace Go.Pv
open Go Go.Proofs Go.RowKit
set_option maxHeartbeats 4000000
set_option maxRecDepth 100000
set_option linter.unusedVariables false
set_option linter.unusedSimpArgs false
theorem leB_length (k : Nat) : ∀ n : Int, (leB k n).length = k := by
  induction k with
  | zero => intro n; rfl
  | succ k ih => intro n; simp [leB, ih]
theorem leB_snoc (k : Nat) : ∀ n : Int, leB (k + 1) n = leB k n ++ [UInt8.ofNat ((n / 256 ^ k) % 256).toNat] := by
  induction k with
  | zero => intro n; simp [leB]
  | succ k ih =>
    intro n
    rw [leB, ih]
    show _ = leB (k + 1) n ++ _
    rw [leB, List.cons_append, Int.ediv_ediv_of_nonneg (by omega), Int.pow_succ, Int.mul_comm]
theorem byte_nat (n : Int) : ((UInt8.ofNat (n % 256).toNat).toNat : Int) = n % 256 := by
  rw [UInt8.toNat_ofNat', Nat.mod_eq_of_lt (by omega)]; omega
theorem WriteByte_int (B b : Nat) (l : List UInt8) (m n : Int) (hm : m = n % 256) (w : World) (h : Wr B b l w) (hlen : l.length + 1 ≤ 140737488355328) (hBw : B ≤ w.heap.size) :
    Calls Try.prog 55 #[.pointer (some ⟨b, 0, none⟩), .int .u8 m] w fun e w' => e = .returned .nilIface ∧ Wr B b (l ++ [UInt8.ofNat (n % 256).toNat]) w' ∧ WrK B b w w' := by
  have := WriteByte_any B b l (UInt8.ofNat (n % 256).toNat) w h hlen hBw
  rw [byte_nat] at this
  rw [hm]; exact this
theorem num_any (B b : Nat) (l : List UInt8) (n : Int) (k : Nat) (hk : k ≤ 8) (w : World) (h : Wr B b l w) (hlen : l.length + 8 ≤ 140737488355328) (hBw : B ≤ w.heap.size) :
    Calls Try.prog 29 #[.pointer (some ⟨b, 0, none⟩), .int .i64 n, .int .i64 k] w fun e w' => e = .returned (.tuple #[]) ∧ Wr B b (l ++ leB k n) w' ∧ WrK B b w w' := by
  go_enter Try.func29, Try.ntmps29
  go_wp2
  go_loopw [1, 7] (fun m j wr => ∃ i : Nat, m = .int .i64 (n / 256 ^ i) ∧ j = .int .i64 i ∧ i ≤ k ∧ Wr B b (l ++ leB i n) wr ∧ WrK B b w wr)
    (fun _ j _ => (k - RowKit.intOf j).toNat)
  case atStart => exact ⟨0, by simp, rfl, Nat.zero_le _, by simpa [leB] using h, Below.refl _ _, Lib.OthersKept.refl _ _ _⟩
  case round =>
    obtain ⟨i, rfl, rfl, hi, hW, hK⟩ := hrel
    have hBr : B ≤ wr.heap.size := Nat.le_trans hBw hK.1.size
    by_cases hik : i < k
    · have hlt : (i : Int) < (k : Int) := by omega
      go_wp2_with (go_at_call 55; go_loud (refine (WriteByte_int B b _ _ (n / 256 ^ i) (by first | rfl | simp [IntKind.wrap, IntKind.signed, IntKind.bits]) _ hW (by rw [List.length_append, leB_length]; omega) hBr).mono ?_))
      rintro e w1 ⟨rfl, h1, hb1, hk1⟩
      go_wp2
      have hw : w64 ((i : Int) + 1) = ((i + 1 : Nat) : Int) := by rw [w64_id] <;> omega
      refine ⟨⟨i + 1, ?_, by rw [hw], by omega, ?_, hK.1.trans hb1, hK.2.trans hk1⟩, ?_⟩
      · rw [Int.ediv_ediv_of_nonneg (by exact Int.pow_nonneg (by omega)), Int.pow_succ]
      · rw [leB_snoc, ← List.append_assoc]; exact h1
      · rw [hw]; simp only [intOf]; omega
    · have : i = k := by omega
      subst this
      go_wp2
      go_end0
      exact ⟨rfl, hW, hK⟩
end Go.Pv

/- A writer's lists. -/
namespace Go.Pv
open Go Go.Proofs Go.RowKit
set_option maxHeartbeats 4000000
set_option maxRecDepth 100000
set_option linter.unusedVariables false
set_option linter.unusedSimpArgs false
/-- A row of numbers. -/
def NumRow (W : World) (l : Value) (xs : List Int) : Prop := ∃ A cap, l = .slice A xs.length cap ∧ (xs ≠ [] → ∃ B o, A = some ⟨B, o, none⟩ ∧ ∀ k x, xs[k]? = some x → W.cell? ⟨B, o + k, none⟩ = some (.int .i64 x))
theorem cell_below {n : Nat} {w w' : World} (h : Below n w w') {a : Addr} (ha : a.block < n) : w'.cell? a = w.cell? a := by
  unfold World.cell?; rw [h.block _ ha]
theorem cell_lt {w : World} {a : Addr} {v : Value} (h : w.cell? a = some v) : a.block < w.heap.size := by
  rcases Nat.lt_or_ge a.block w.heap.size with h' | h'
  · exact h'
  · simp [World.cell?, Array.getElem?_eq_none h'] at h
theorem list_any (w0 : World) (b : Nat) (l : List UInt8) (u : Value) (xs : List Int) (hrow : NumRow w0 u xs) (w : World) (h : Wr w0.heap.size b l w) (h0 : Below w0.heap.size w0 w) (hlen : l.length + 4 * xs.length + 100 ≤ 140737488355328) :
    Calls Try.prog 31 #[.pointer (some ⟨b, 0, none⟩), u] w fun e w' => e = .returned (.tuple #[]) ∧ Wr w0.heap.size b (l ++ lstB xs) w' ∧ WrK w0.heap.size b w w' := by
  obtain ⟨A, cap, rfl, hA⟩ := hrow
  go_enter Try.func31, Try.ntmps31
  go_wp2_with (go_at_call 29; go_loud (refine (num_any _ b _ (xs.length : Int) 4 (by omega) _ h (by omega) h0.size).mono ?_))
  rintro e w1 ⟨rfl, h1, hb1, hk1⟩
  go_wp2
  go_loopw [12] (fun j wr => ∃ i : Nat, j = .int .i64 i ∧ i ≤ xs.length ∧ Wr w0.heap.size b (l ++ leB 4 xs.length ++ (xs.take i).flatMap (leB 4)) wr ∧ WrK w0.heap.size b w wr)
    (fun j _ => (xs.length - RowKit.intOf j).toNat)
  case atStart => exact ⟨0, rfl, Nat.zero_le _, by simpa using h1, hb1, hk1⟩
  case round =>
    obtain ⟨i, rfl, hi, hW, hK⟩ := hrel
    have hbr : Below w0.heap.size w0 wr := h0.trans hK.1
    by_cases hik : i < xs.length
    · have hlt : (i : Int) < (xs.length : Int) := by omega
      have hin : (0 : Int) ≤ (i : Int) ∧ (i : Int) < (xs.length : Int) := ⟨by omega, hlt⟩
      obtain ⟨q, o, rfl, hc⟩ := hA (fun e => by subst e; simp at hik)
      have hc0 := hc i _ (List.getElem?_eq_getElem hik)
      have hc1 : wr.cell? ⟨q, o + i, none⟩ = some (.int .i64 xs[i]) := by rw [cell_below hbr (cell_lt hc0)]; exact hc0
      have hll : ((xs.take i).flatMap (leB 4)).length ≤ 4 * xs.length := by
        rw [List.length_flatMap]
        have : ∀ ys : List Int, (ys.map fun a => (leB 4 a).length).sum = 4 * ys.length := fun ys => by
          induction ys with
          | nil => rfl
          | cons a r ih => rw [List.map_cons, List.sum_cons, ih, leB_length, List.length_cons]; omega
        rw [this, List.length_take]; omega
      go_wp2_with (go_at_call 29; go_loud (refine (num_any _ b _ xs[i] 4 (by omega) _ hW (by rw [List.length_append, List.length_append, leB_length]; omega) hbr.size).mono ?_))
      rintro e w2 ⟨rfl, h2, hb2, hk2⟩
      go_wp2
      have hw : w64 ((i : Int) + 1) = ((i + 1 : Nat) : Int) := by rw [w64_id] <;> omega
      refine ⟨⟨i + 1, by rw [hw], by omega, ?_, hK.1.trans hb2, hK.2.trans hk2⟩, ?_⟩
      · rw [List.take_succ_eq_append_getElem hik, List.flatMap_append, ← List.append_assoc]; simpa using h2
      · rw [hw]; simp only [intOf]; omega
    · have : i = xs.length := by omega
      subst this
      go_wp2
      go_end0
      refine ⟨rfl, ?_, hK⟩
      rw [List.take_length, List.append_assoc] at hW
      exact hW
end Go.Pv

/- A writer's objects. -/
namespace Go.Pv
open Go Go.Proofs Go.RowKit
set_option maxHeartbeats 4000000
set_option maxRecDepth 100000
set_option linter.unusedVariables false
set_option linter.unusedSimpArgs false
/-- An object's cells. -/
abbrev obV (o : GObj) (u : Value) : Array Value := #[.int .i64 o.Class, .int .i64 o.Kind, u, .string o.Text, .int .i64 o.Bits, .int .i64 o.Hash]
theorem kept_box {b k : Nat} {w w' : World} {cs : Array Value} {T : TypeId} (h : Lib.OthersKept 5 (some b) w w') (hk : w.heap[k]? = some (.cells cs T (0, 0))) (hb : k ≠ b) (hT : T ≠ 5) : w'.heap[k]? = some (.cells cs T (0, 0)) :=
  h k _ hk (fun e => hb (Option.some.inj e)) (fun c fz e => hT (by cases e; rfl))
theorem Wr.lt {B b : Nat} {l : List UInt8} {w : World} (h : Wr B b l w) : b < w.heap.size := by
  rcases h with h | h
  · exact h.lt
  · exact h.lt
theorem Wr.le {B b : Nat} {l : List UInt8} {w : World} (h : Wr B b l w) : B ≤ b := by
  rcases h with h | h
  · exact h.1
  · exact h.1
theorem lstB_length (xs : List Int) : (lstB xs).length = 4 + 4 * xs.length := by
  unfold lstB
  rw [List.length_append, leB_length, List.length_flatMap]
  have : ∀ ys : List Int, (ys.map fun a => (leB 4 a).length).sum = 4 * ys.length := fun ys => by
    induction ys with
    | nil => rfl
    | cons a r ih => rw [List.map_cons, List.sum_cons, ih, leB_length, List.length_cons]; omega
  rw [this]
theorem object_any (w0 : World) (b : Nat) (l : List UInt8) (o : GObj) (u : Value) (hrow : NumRow w0 u o.Slots) (w : World) (h : Wr w0.heap.size b l w) (h0 : Below w0.heap.size w0 w) (hlen : l.length + 4 * o.Slots.length + o.Text.size + 200 ≤ 140737488355328) :
    Calls Try.prog 30 #[.pointer (some ⟨b, 0, none⟩), .agg (obV o u)] w fun e w' => e = .returned (.tuple #[]) ∧ Wr w0.heap.size b (l ++ objB o) w' ∧ WrK w0.heap.size b w w' := by
  have hb := h.lt
  have hB := h.le
  have k0 : WrK w0.heap.size b w (w.alloc (.cells (obV o u) 41)) := ⟨(Below.refl _ _).alloc h0.size _, (Lib.OthersKept.refl _ _ _).alloc _⟩
  have x0 : (w.alloc (.cells (obV o u) 41)).heap[w.heap.size]? = some (.cells (obV o u) 41 (0, 0)) := heap_alloc_new w _
  have W0 : Wr w0.heap.size b l (w.alloc (.cells (obV o u) 41)) := h.alloc _
  have cs : ∀ V : World, V.heap[w.heap.size]? = some (.cells (obV o u) 41 (0, 0)) → V.cell? ⟨w.heap.size, 0, none⟩ = some (.int .i64 o.Class) ∧ V.cell? ⟨w.heap.size, 1, none⟩ = some (.int .i64 o.Kind) ∧ V.cell? ⟨w.heap.size, 2, none⟩ = some u ∧ V.cell? ⟨w.heap.size, 3, none⟩ = some (.string o.Text) ∧ V.cell? ⟨w.heap.size, 4, none⟩ = some (.int .i64 o.Bits) ∧ V.cell? ⟨w.heap.size, 5, none⟩ = some (.int .i64 o.Hash) := fun V hV => by
    simp only [Lib.cell_of_heap hV]; exact ⟨rfl, rfl, rfl, rfl, rfl, rfl⟩
  go_enter Try.func30, Try.ntmps30
  go_wp2_with (go_at_call 29; go_loud (refine (num_any _ b _ o.Class 4 (by omega) _ W0 (by omega) (Nat.le_trans h0.size k0.1.size)).mono ?_))
  rintro e w1 ⟨rfl, W1, K1⟩
  have x1 := kept_box K1.2 x0 (by omega) (by decide)
  have k1 : WrK w0.heap.size b w w1 := ⟨k0.1.trans K1.1, k0.2.trans K1.2⟩
  obtain ⟨c10, c11, c12, c13, c14, c15⟩ := cs w1 x1
  go_wp2_with (go_at_call 29; go_loud (refine (num_any _ b _ o.Kind 4 (by omega) _ W1 (by simp [leB_length]; omega) (Nat.le_trans h0.size k1.1.size)).mono ?_))
  rintro e w2 ⟨rfl, W2, K2⟩
  have x2 := kept_box K2.2 x1 (by omega) (by decide)
  have k2 : WrK w0.heap.size b w w2 := ⟨k1.1.trans K2.1, k1.2.trans K2.2⟩
  obtain ⟨c20, c21, c22, c23, c24, c25⟩ := cs w2 x2
  go_wp2_with (go_at_call 29; go_loud (refine (num_any _ b _ o.Hash 4 (by omega) _ W2 (by simp [leB_length]; omega) (Nat.le_trans h0.size k2.1.size)).mono ?_))
  rintro e w3 ⟨rfl, W3, K3⟩
  have x3 := kept_box K3.2 x2 (by omega) (by decide)
  have k3 : WrK w0.heap.size b w w3 := ⟨k2.1.trans K3.1, k2.2.trans K3.2⟩
  obtain ⟨c30, c31, c32, c33, c34, c35⟩ := cs w3 x3
  have q3 : Below w0.heap.size w0 w3 := h0.trans k3.1
  clear x0 W0 k0 x1 k1 x2 k2 c10 c11 c12 c13 c14 c15 c20 c21 c22 c23 c24 c25 K1 K2 K3 W1 W2
  by_cases e0 : o.Kind = 0
  · have p0 : (o.Kind == 0) = true := by simpa using e0
    go_wp2_with (go_at_call 31; go_loud (refine (list_any w0 b _ u o.Slots hrow _ W3 q3 (by simp [leB_length]; omega)).mono ?_))
    rintro e w4 ⟨rfl, W4, K4⟩
    go_wp2
    go_end0
    refine ⟨rfl, ?_, k3.1.trans K4.1, k3.2.trans K4.2⟩
    unfold objB
    rw [if_pos e0]
    simpa only [List.append_assoc] using W4
  · have p0 : (o.Kind == 0) = false := by simpa using e0
    by_cases e1 : o.Kind = 1
    · have p1 : (o.Kind == 1) = true := by simpa using e1
      go_wp2_with (go_at_call 29; go_loud (refine (num_any _ b _ (o.Text.size : Int) 4 (by omega) _ W3 (by simp [leB_length]; omega) q3.size).mono ?_))
      rintro e w4 ⟨rfl, W4, K4⟩
      have x4 := kept_box K4.2 x3 (by omega) (by decide)
      obtain ⟨c40, c41, c42, c43, c44, c45⟩ := cs w4 x4
      have W4' : Wr w0.heap.size b _ w4.drew := W4
      go_wp2
      go_region_with (go_at_call 28; go_loud (refine (WriteString_any _ b _ o.Text _ W4' (by simp [leB_length]; omega) (Nat.le_trans q3.size K4.1.size)).mono ?_); rintro e w5 ⟨rfl, W5, K5⟩)
      all_goals (
        go_wp2
        go_end0
        refine ⟨rfl, ?_, (k3.1.trans K4.1).trans (Below.trans (Below.drew (Below.refl _ _)) K5.1), (k3.2.trans K4.2).trans (Lib.OthersKept.trans (Lib.OthersKept.drew (Lib.OthersKept.refl _ _ _)) K5.2)⟩
        unfold objB
        rw [if_neg e0, if_pos e1]
        simpa only [List.append_assoc] using W5)
    · have p1 : (o.Kind == 1) = false := by simpa using e1
      by_cases e2 : o.Kind = 2
      · have p2 : (o.Kind == 2) = true := by simpa using e2
        go_wp2_with (go_at_call 29; go_loud (refine (num_any _ b _ o.Bits 8 (by omega) _ W3 (by simp [leB_length]; omega) q3.size).mono ?_))
        rintro e w4 ⟨rfl, W4, K4⟩
        go_wp2
        go_end0
        refine ⟨rfl, ?_, k3.1.trans K4.1, k3.2.trans K4.2⟩
        unfold objB
        rw [if_neg e0, if_neg e1, if_pos e2]
        simpa only [List.append_assoc] using W4
      · have p2 : (o.Kind == 2) = false := by simpa using e2
        go_wp2
        go_end0
        refine ⟨rfl, ?_, k3⟩
        unfold objB
        rw [if_neg e0, if_neg e1, if_neg e2, List.append_nil]
        simpa only [List.append_assoc] using W3
end Go.Pv

/- snap.Encode. -/
namespace Go.Pv
open Go Go.Proofs Go.RowKit
set_option maxHeartbeats 8000000
set_option maxRecDepth 100000
set_option linter.unusedVariables false
set_option linter.unusedSimpArgs false
theorem Wr.kept {B b : Nat} {l : List UInt8} {w w' : World} (h : Wr B b l w) (hk : ∀ j o, w.heap[j]? = some o → (j = b ∨ ∃ c fz, o = .cells c 5 fz) → w'.heap[j]? = some o) : Wr B b l w' := by
  have at' : ∀ p, Lib.BuilderAtF 57 5 B b p (Lib.byteCells l) w → Lib.BuilderAtF 57 5 B b p (Lib.byteCells l) w' := by
    rintro p ⟨hB, v, hb, hown, hne⟩
    refine ⟨hB, v, hk _ _ hb (.inl rfl), ⟨hown.1, ?_⟩, hne⟩
    rcases hown.2 with h0 | ⟨g, cap, cur, fz, hv, hg, hh, r⟩
    · exact .inl h0
    · exact .inr ⟨g, cap, cur, fz, hv, hg, hk _ _ hh (.inr ⟨_, _, rfl⟩), r⟩
  rcases h with h | h
  · exact .inl (at' _ h)
  · exact .inr (at' _ h)
theorem Wr.below {B b : Nat} {l : List UInt8} {w w' : World} (h : Wr B b l w) (hb : Below w.heap.size w w') : Wr B b l w' :=
  h.kept fun j o hj _ => by rw [hb.block j (Array.getElem?_eq_some_iff.1 hj).1]; exact hj
theorem objB_length {n : Nat} {o : GObj} (h : okObjB n o = true) : (objB o).length ≤ 300 := by
  rw [okObjB_eq, dec_iff] at h
  have h1 := h.nslots; have h2 := h.ntext
  unfold objB
  simp only [List.length_append, leB_length]
  split
  · rw [lstB_length]; omega
  · split
    · rw [List.length_append, leB_length]; have : o.Text.data.toList.length = o.Text.size := by rw [Array.length_toList]; rfl
      omega
    · split
      · rw [leB_length]; omega
      · simp
theorem flat_length {α : Type} (f : α → List UInt8) (k : Nat) : ∀ l : List α, (∀ x ∈ l, (f x).length ≤ k) → (l.flatMap f).length ≤ k * l.length
  | [], _ => by simp
  | a :: l, h => by
    have h1 := h a (List.mem_cons_self ..)
    have h2 := flat_length f k l fun x hx => h x (List.mem_cons_of_mem _ hx)
    rw [List.flatMap_cons, List.length_append, List.length_cons, Nat.mul_succ]; omega
/-- A row of objects. -/
def ObjRow (W : World) (u0 : Value) (os : List GObj) : Prop := ∃ A cap, u0 = .slice A os.length cap ∧ (os ≠ [] → ∃ q o, A = some ⟨q, o, none⟩ ∧ ∀ k ob, os[k]? = some ob → ∃ u, NumRow W u ob.Slots ∧
  W.cell? ⟨q, o + k * 6, none⟩ = some (.int .i64 ob.Class) ∧ W.cell? ⟨q, o + k * 6 + 1, none⟩ = some (.int .i64 ob.Kind) ∧ W.cell? ⟨q, o + k * 6 + 2, none⟩ = some u ∧ W.cell? ⟨q, o + k * 6 + 3, none⟩ = some (.string ob.Text) ∧ W.cell? ⟨q, o + k * 6 + 4, none⟩ = some (.int .i64 ob.Bits) ∧ W.cell? ⟨q, o + k * 6 + 5, none⟩ = some (.int .i64 ob.Hash))
/-- A writer's state, seen from the world ahead. -/
def WG (w0 : World) (b : Nat) (l : List UInt8) (W : World) : Prop := Wr w0.heap.size b l W ∧ Below w0.heap.size w0 W
theorem WG.drew {w0 : World} {b : Nat} {l : List UInt8} {W : World} (h : WG w0 b l W) : WG w0 b l W.drew := ⟨h.1, Below.trans h.2 (Below.drew (Below.refl _ _))⟩
theorem String_G {w0 : World} {b : Nat} {l : List UInt8} (h0 : l ≠ []) (W : World) (h : WG w0 b l W) : Calls Try.prog 32 #[.pointer (some ⟨b, 0, none⟩)] W fun e W' => e = .returned (.string ⟨l.toArray⟩) ∧ WG w0 b l W' :=
  (String_any _ b l W h.1 h0).mono fun e W' ⟨h1, h2, h3⟩ => ⟨h1, h2, h.2.trans h3.1⟩
theorem below_G {w0 : World} {b : Nat} {l : List UInt8} {f : FuncId} {vs : Array Value} {v : Value} (W : World) (h : WG w0 b l W) (hc : Calls Try.prog f vs W fun e W' => e = .returned v ∧ Below W.heap.size W W') : Calls Try.prog f vs W fun e W' => e = .returned v ∧ WG w0 b l W' :=
  hc.mono fun e W' ⟨h1, h2⟩ => ⟨h1, h.1.below h2, h.2.trans (h2.mono h.2.size)⟩
theorem encode_in (u0 rv : Value) (h : GHeap) (r : List Int) (w : World) (hO : ObjRow w u0 h.Objs) (hR : NumRow w rv r)
    (hMay : ∀ W, Below w.heap.size w W → Calls Try.prog 27 #[.agg #[u0, .int .i64 h.Cap, .int .i64 h.Last], rv] W fun e W' => e = .returned (.bool (mayP h r)) ∧ Below W.heap.size W W')
    (hOf : ∀ s W, s.size ≤ big → Calls Try.prog 21 #[.string s] W fun e W' => e = .returned (.int .i64 ((sumV 0#32 s).toNat : Int)) ∧ Below W.heap.size W W')
    (hBy : ∀ (v : V) W, Calls Try.prog 20 #[.int .i64 (v.toNat : Int)] W fun e W' => e = .returned (.string (bytesOfL (leB 4 (v.toNat : Int)))) ∧ Below W.heap.size W W') :
    Calls Try.prog 12 #[.agg #[u0, .int .i64 h.Cap, .int .i64 h.Last], rv] w fun e w' => e = .returned (.string (encP h r)) ∧ Below w.heap.size w w' := by
  have b0 : Below w.heap.size w (w.alloc (.cells #[u0, .int .i64 h.Cap, .int .i64 h.Last] 24)) := (Below.refl _ _).alloc (Nat.le_refl _) _
  go_enter Try.func12, Try.ntmps12
  go_wp2_with (go_at_call 27; go_loud (refine (hMay _ b0).mono ?_))
  rintro e w1 ⟨rfl, b1⟩
  cases hm : mayP h r with
  | false =>
    go_wp2
    go_ret
    refine ⟨?_, b0.trans (b1.mono b0.size)⟩
    unfold encP
    rw [hm]; rfl
  | true =>
    have hm1 := hm
    unfold mayP okHeapB at hm1
    simp only [Bool.and_eq_true, decide_eq_true_eq, List.all_eq_true] at hm1
    obtain ⟨⟨⟨⟨⟨hc1, hc2⟩, hol⟩, hl1, hl2⟩, hobs⟩, hrl, hrs⟩ := hm1
    have hn : h.Objs.length ≤ 256 := by omega
    have bb1 : Below w.heap.size w w1 := b0.trans (b1.mono b0.size)
    have y1 : w1.heap[w.heap.size]? = some (.cells #[u0, .int .i64 h.Cap, .int .i64 h.Last] 24 (0, 0)) := by
      have y0 : (w.alloc (.cells #[u0, .int .i64 h.Cap, .int .i64 h.Last] 24)).heap[w.heap.size]? = some (.cells #[u0, .int .i64 h.Cap, .int .i64 h.Last] 24 (0, 0)) := heap_alloc_new w _
      rw [b1.block _ (Array.getElem?_eq_some_iff.1 y0).1]; exact y0
    have hlt1 : w.heap.size < w1.heap.size := (Array.getElem?_eq_some_iff.1 y1).1
    have W1 : Wr w.heap.size w1.heap.size [] (w1.alloc (.cells #[.pointer none, .slice none 0 0] 57)) :=
      Lib.IsBuilderF.of (Or.inl ⟨bb1.size, .slice none 0 0, heap_alloc_new w1 _, World.ownsRow_nil _ _ _ _, by simp [Value.ownBlock]⟩)
    have bb2 : Below w.heap.size w (w1.alloc (.cells #[.pointer none, .slice none 0 0] 57)) := bb1.alloc bb1.size _
    have y2 : (w1.alloc (.cells #[.pointer none, .slice none 0 0] 57)).heap[w.heap.size]? = some (.cells #[u0, .int .i64 h.Cap, .int .i64 h.Last] 24 (0, 0)) := by
      rw [Lib.alloc_old w1 _ _ hlt1]; exact y1
    go_wp2_with (go_at_call 28; go_loud (refine (WriteString_any _ w1.heap.size _ ⟨#[65, 78, 49]⟩ _ W1 (by show (0 : Nat) + 3 ≤ _; omega) bb2.size).mono ?_))
    intro e w3 he W3' K31 K32
    subst he
    have K3 : WrK w.heap.size w1.heap.size _ w3 := ⟨K31, K32⟩
    clear K31 K32
    have W3 : Wr w.heap.size w1.heap.size [65, 78, 49] w3 := W3'
    clear W3'
    have y3 := kept_box K3.2 y2 (by omega) (by decide)
    have bb3 := bb2.trans K3.1
    have c31 : w3.cell? ⟨w.heap.size, 1, none⟩ = some (.int .i64 h.Cap) := by rw [Lib.cell_of_heap y3]; rfl
    clear W1 K3
    go_wp2_with (go_at_call 29; go_loud (refine (num_any _ w1.heap.size _ h.Cap 4 (by omega) _ W3 (by simp only [List.length_cons, List.length_nil]; omega) bb3.size).mono ?_))
    rintro e w4 ⟨rfl, W4, K4⟩
    have y4 := kept_box K4.2 y3 (by omega) (by decide)
    have bb4 := bb3.trans K4.1
    have c42 : w4.cell? ⟨w.heap.size, 2, none⟩ = some (.int .i64 h.Last) := by rw [Lib.cell_of_heap y4]; rfl
    clear W3 K4
    go_wp2_with (go_at_call 29; go_loud (refine (num_any _ w1.heap.size _ h.Last 4 (by omega) _ W4 (by simp only [List.length_append, leB_length, List.length_cons, List.length_nil]; omega) bb4.size).mono ?_))
    rintro e w5 ⟨rfl, W5, K5⟩
    have y5 := kept_box K5.2 y4 (by omega) (by decide)
    have bb5 := bb4.trans K5.1
    obtain ⟨A, cap, rfl, hA⟩ := hO
    have c50 : w5.cell? ⟨w.heap.size, 0, none⟩ = some (.slice A h.Objs.length cap) := by rw [Lib.cell_of_heap y5]; rfl
    clear W4 K5
    go_wp2_with (go_at_call 29; go_loud (refine (num_any _ w1.heap.size _ (h.Objs.length : Int) 4 (by omega) _ W5 (by simp only [List.length_append, leB_length, List.length_cons, List.length_nil]; omega) bb5.size).mono ?_))
    rintro e w6 ⟨rfl, W6, K6⟩
    have y6 := kept_box K6.2 y5 (by omega) (by decide)
    have bb6 := bb5.trans K6.1
    have c60 : w6.cell? ⟨w.heap.size, 0, none⟩ = some (.slice A h.Objs.length cap) := by rw [Lib.cell_of_heap y6]; rfl
    clear W5 K6
    have W6' : Wr w.heap.size w1.heap.size ([65, 78, 49] ++ (leB 4 h.Cap ++ (leB 4 h.Last ++ leB 4 h.Objs.length))) w6 := by simpa only [List.append_assoc, List.nil_append] using W6
    clear W6
    have G6 : WG w w1.heap.size ([65, 78, 49] ++ (leB 4 h.Cap ++ (leB 4 h.Last ++ leB 4 h.Objs.length)) ++ (h.Objs.take 0).flatMap objB) w6 := ⟨by simpa using W6', bb6⟩
    clear W6' bb6 bb5 bb4 bb3 bb2 b0 y1 y2 y3 y4 y5 y6 c31 c42 c50 hMay
    generalize hl0 : [65, 78, 49] ++ (leB 4 h.Cap ++ (leB 4 h.Last ++ leB 4 h.Objs.length)) = l0 at G6
    have hll0 : l0.length = 15 := by rw [← hl0]; simp [leB_length]
    go_wp2
    go_loopw [34] (fun j wr => ∃ i : Nat, j = .int .i64 i ∧ i ≤ h.Objs.length ∧ WG w w1.heap.size (l0 ++ (h.Objs.take i).flatMap objB) wr)
      (fun j _ => (h.Objs.length - RowKit.intOf j).toNat)
    case atStart => exact ⟨0, rfl, Nat.zero_le _, G6⟩
    case round =>
      obtain ⟨i, rfl, hi, hG⟩ := hrel
      by_cases hik : i < h.Objs.length
      · have hlt : (i : Int) < (h.Objs.length : Int) := by omega
        have hin : (0 : Int) ≤ (i : Int) ∧ (i : Int) < (h.Objs.length : Int) := ⟨by omega, hlt⟩
        obtain ⟨q, o, rfl, hc⟩ := hA (fun e => by rw [e] at hik; simp at hik)
        obtain ⟨u, hnu, d0, d1, d2, d3, d4, d5⟩ := hc i _ (List.getElem?_eq_getElem hik)
        have hnu' := hnu
        obtain ⟨Au, cu, hu, _⟩ := hnu
        subst hu
        have e0 := (cell_below hG.2 (cell_lt d0)).trans d0
        have e1 := (cell_below hG.2 (cell_lt d1)).trans d1
        have e2 := (cell_below hG.2 (cell_lt d2)).trans d2
        have e3 := (cell_below hG.2 (cell_lt d3)).trans d3
        have e4 := (cell_below hG.2 (cell_lt d4)).trans d4
        have e5 := (cell_below hG.2 (cell_lt d5)).trans d5
        have G1 : WG w w1.heap.size (l0 ++ (h.Objs.take i).flatMap objB) (wr.alloc (.cells (obV h.Objs[i] (.slice Au h.Objs[i].Slots.length cu)) 41)) := ⟨hG.1.alloc _, hG.2.alloc hG.2.size _⟩
        have hob := hobs h.Objs[i] (List.getElem_mem hik)
        have hoc := hob
        rw [okObjB_eq, dec_iff] at hoc
        have n1 := hoc.nslots
        have n2 := hoc.ntext
        have n3 := flat_length objB 300 (h.Objs.take i) fun x hx => objB_length (hobs x (List.mem_of_mem_take hx))
        rw [List.length_take] at n3
        go_wp2_with (go_at_call 30; go_loud (refine (object_any w w1.heap.size _ h.Objs[i] _ hnu' _ G1.1 G1.2 (by rw [List.length_append]; omega)).mono ?_))
        rintro e w7 ⟨rfl, W7, K7⟩
        go_wp2
        have hw : w64 ((i : Int) + 1) = ((i + 1 : Nat) : Int) := by rw [w64_id] <;> omega
        refine ⟨⟨i + 1, by rw [hw], by omega, ?_, G1.2.trans K7.1⟩, ?_⟩
        · rw [List.take_succ_eq_append_getElem hik, List.flatMap_append, ← List.append_assoc]; simpa using W7
        · rw [hw]; simp only [intOf]; omega
      · have : i = h.Objs.length := by omega
        subst this
        rw [List.take_length] at hG
        have n3 := flat_length objB 300 h.Objs fun x hx => objB_length (hobs x hx)
        go_wp2_with (go_at_call 31; go_loud (refine (list_any w w1.heap.size _ rv r hR _ hG.1 hG.2 (by rw [List.length_append]; omega)).mono ?_))
        rintro e w7 ⟨rfl, W7, K7⟩
        have hbody : l0 ++ h.Objs.flatMap objB ++ lstB r = bodyB h r := by
          rw [← hl0]; simp only [bodyB, List.append_assoc]
        rw [hbody] at W7
        have G7 : WG w w1.heap.size (bodyB h r) w7.drew := WG.drew ⟨W7, hG.2.trans K7.1⟩
        have hne : bodyB h r ≠ [] := by simp [bodyB]
        have hsz : (bytesOfL (bodyB h r)).size ≤ big := by
          rw [← hbody]; show (l0 ++ h.Objs.flatMap objB ++ lstB r).toArray.size ≤ _
          simp only [List.size_toArray, List.length_append, lstB_length]; unfold big; omega
        have hO : ∀ W, WG w w1.heap.size (bodyB h r) W → Calls Try.prog 21 #[.string ⟨(bodyB h r).toArray⟩] W fun e W' => e = .returned (.int .i64 ((sumV 0#32 (bytesOfL (bodyB h r))).toNat : Int)) ∧ WG w w1.heap.size (bodyB h r) W' := fun W hW => below_G W hW (hOf _ W hsz)
        have hY : ∀ W, WG w w1.heap.size (bodyB h r) W → Calls Try.prog 20 #[.int .i64 ((sumV 0#32 (bytesOfL (bodyB h r))).toNat : Int)] W fun e W' => e = .returned (.string (bytesOfL (sumB (bodyB h r)))) ∧ WG w w1.heap.size (bodyB h r) W' := fun W hW => below_G W hW (hBy _ W)
        have hS := String_G (w0 := w) (b := w1.heap.size) hne
        have hend : (⟨(bodyB h r).toArray⟩ : ByteArray) ++ bytesOfL (sumB (bodyB h r)) = encP h r := by
          unfold encP
          rw [if_pos hm]
          unfold bytesOfL
          apply ByteArray.ext
          simp
        clear hG n3 hbody hA K7 W7 hOf hBy hobs hrs
        generalize hbb : bodyB h r = bb at *
        generalize hss : (sumV 0#32 (bytesOfL bb)).toNat = ss at *
        generalize htt : bytesOfL (sumB bb) = tt at *
        generalize hsa : (⟨bb.toArray⟩ : ByteArray) = sa at *
        have hq0 : sa.size + tt.size ≤ 9223372036854775807 := by
          have h4 : tt.size = 4 := by rw [← htt]; show (sumB bb).toArray.size = 4; rw [List.size_toArray]; exact leB_length _ _
          have h5 : sa.size ≤ big := by rw [← hsa]; exact hsz
          unfold big at h5; omega
        have hq : ¬ (sa.size + tt.size > 9223372036854775807) := by omega
        have hq1 : ¬ (9223372036854775807 < sa.size + tt.size) := by omega
        go_wp2
        go_region_with (first
          | (go_at_call 32; refine (hS _ (by assumption)).mono ?_; rintro e W' ⟨rfl, hW'⟩)
          | (go_at_call 21; refine (hO _ (by assumption)).mono ?_; rintro e W' ⟨rfl, hW'⟩)
          | (go_at_call 20; refine (hY _ (by assumption)).mono ?_; rintro e W' ⟨rfl, hW'⟩))
        all_goals (
          go_wp2
          go_ret
          refine ⟨?_, And.right (a := Wr w.heap.size w1.heap.size bb _) (by assumption)⟩
          rw [← hend]
          rfl)
end Go.Pv
