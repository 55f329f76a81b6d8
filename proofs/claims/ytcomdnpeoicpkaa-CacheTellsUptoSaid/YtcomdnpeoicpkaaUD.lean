/- A part of the road: the interpreter of plain data and the proof that it is right. -/
import Derived.Test.YtcomdnpeoicpkaaV
import Derived.Test.YtcomdnpeoicpkaaW
import Derived.Test.YtcomdnpeoicpkaaProg
import Derived.RangeFuncBox
import Derived.Shelf.Abstract
import Derived.Shelf.RegionOpen
import Derived.WalkKit
import Derived.OwnWalkIn
import Derived.TacticsInMore
import Derived.LoopNIn
import Derived.LoopIn
import Derived.KernelRfl
set_option linter.unusedVariables false
set_option linter.unusedSimpArgs false
/- cache: the walks of place, Hits, New. -/
namespace Go.Pv
open Go Go.Proofs Go.Shelf Go.RowKit
attribute [local go_sem] Oper.semAt_some
set_option maxHeartbeats 4000000
set_option maxRecDepth 100000
/-- A cache's blocks. -/
structure CacheW (W : World) (Bc Be n cap : Nat) (cur : Array Value) (Tc Te : TypeId) (hi mi : Int) : Prop where
  box : W.heap[Bc]? = some (.cells #[.slice (some ⟨Be, 0, none⟩) n cap, .int .i64 hi, .int .i64 mi] Tc (0, 0))
  row : W.heap[Be]? = some (.cells cur Te (0, 0))
theorem CacheW.c0 {W : World} {Bc Be n cap : Nat} {cur : Array Value} {Tc Te : TypeId} {hi mi : Int} (h : CacheW W Bc Be n cap cur Tc Te hi mi) : W.cell? ⟨Bc, 0, none⟩ = some (.slice (some ⟨Be, 0, none⟩) n cap) ∧ W.cell? ⟨Bc, 1, none⟩ = some (.int .i64 hi) ∧ W.cell? ⟨Bc, 2, none⟩ = some (.int .i64 mi) ∧
    W.frozen? ⟨Bc, 1, none⟩ = false ∧ W.frozen? ⟨Bc, 2, none⟩ = false := by
  refine ⟨?_, ?_, ?_, ?_, ?_⟩ <;> simp [World.cell?, World.frozen?, h.box]
/-- What the rest of the world is, beside a cache's two blocks. -/
structure Oth (W V : World) (Bc Be : Nat) : Prop where
  os : V.os = W.os
  tape : V.tape = W.tape
  output : V.output = W.output
  size : W.heap.size ≤ V.heap.size
  block : ∀ k, k < W.heap.size → k ≠ Bc → k ≠ Be → V.heap[k]? = W.heap[k]?
theorem Oth.of {W V : World} {Bc Be : Nat} (h : Below W.heap.size W V) : Oth W V Bc Be := ⟨h.os, h.tape, h.output, h.size, fun k hk _ _ => h.block k hk⟩
theorem Oth.trans {W V U : World} {Bc Be : Nat} (h : Oth W V Bc Be) (g : Oth V U Bc Be) : Oth W U Bc Be :=
  ⟨g.os.trans h.os, g.tape.trans h.tape, g.output.trans h.output, Nat.le_trans h.size g.size, fun k hk a b => (g.block k (Nat.lt_of_lt_of_le hk h.size) a b).trans (h.block k hk a b)⟩
theorem CacheW.on {W V : World} {Bc Be n cap : Nat} {cur : Array Value} {Tc Te : TypeId} {hi mi : Int} (h : CacheW W Bc Be n cap cur Tc Te hi mi) (hb : Below W.heap.size W V) : CacheW V Bc Be n cap cur Tc Te hi mi :=
  ⟨(hb.block _ (Array.getElem?_eq_some_iff.1 h.box).1).trans h.box, (hb.block _ (Array.getElem?_eq_some_iff.1 h.row).1).trans h.row⟩
theorem CacheW.lt {W : World} {Bc Be n cap : Nat} {cur : Array Value} {Tc Te : TypeId} {hi mi : Int} (h : CacheW W Bc Be n cap cur Tc Te hi mi) : Bc < W.heap.size ∧ Be < W.heap.size := ⟨(Array.getElem?_eq_some_iff.1 h.box).1, (Array.getElem?_eq_some_iff.1 h.row).1⟩
theorem below_drew (W : World) : Below W.heap.size W W.drew := ⟨rfl, rfl, rfl, Nat.le_refl _, fun _ _ => rfl⟩
theorem res27 (W : World) (tmps : Array Value) : (results Try.f27 tmps).run Try.prog W = .ok (.tuple #[tmps.getD 2 undef, tmps.getD 3 undef]) W := by
  simp [results, Try.f27, go_sem]
theorem hits_in {W : World} {Bc Be n cap : Nat} {cur : Array Value} {Tc Te : TypeId} {hi mi : Int} (h : CacheW W Bc Be n cap cur Tc Te hi mi) :
    Calls Try.prog 27 #[.pointer (some ⟨Bc, 0, none⟩)] W fun e W' => e = .returned (.tuple #[.int .i64 hi, .int .i64 mi]) ∧ Below W.heap.size W W' := by
  obtain ⟨c0, c1, c2, f1, f2⟩ := h.c0
  refine (callsIn_wide (n := 9)).1 ?_
  refine callsIn_of_wp Try.func27 rfl trivial ?_ rfl
  simp only [Try.ntmps27, List.size_toArray, List.length_cons, List.length_nil, Nat.reduceAdd, Nat.reduceSub, Array.replicate_succ, Array.replicate_zero, List.push_toArray, List.append_toArray, List.nil_append, List.cons_append]
  have hmx : Try.prog.follows .mixedOrders = true := by kernel_rfl
  have hls : Try.prog.follows .lateStores = true := by kernel_rfl
  gi_wp2
  gi_region_o
  all_goals gi_wp2
  all_goals exact ⟨rfl, _, res27 _ _, rfl, below_drew W⟩
theorem hits_nil (W : World) :
    Calls Try.prog 27 #[.pointer none] W fun e W' => e = .returned (.tuple #[.int .i64 0, .int .i64 0]) ∧ Below W.heap.size W W' := by
  refine (callsIn_wide (n := 9)).1 ?_
  refine callsIn_of_wp Try.func27 rfl trivial ?_ rfl
  simp only [Try.ntmps27, List.size_toArray, List.length_cons, List.length_nil, Nat.reduceAdd, Nat.reduceSub, Array.replicate_succ, Array.replicate_zero, List.push_toArray, List.append_toArray, List.nil_append, List.cons_append]
  gi_wp2
  exact ⟨rfl, _, res27 _ _, rfl, Below.refl _ _⟩
theorem tmod_range (a : Int) (n : Nat) (hn : 0 < n) : -(n : Int) < a.tmod n ∧ a.tmod n < n := by
  have h1 := Int.tmod_lt_of_pos a (show (0 : Int) < n by omega)
  refine ⟨?_, h1⟩
  have h2 := Int.tmod_lt_of_pos (-a) (show (0 : Int) < n by omega)
  rw [Int.neg_tmod] at h2
  omega
theorem wrap_add (t : Int) (n : Nat) (h1 : -(n : Int) < t) (h2 : t < n) (h3 : n ≤ 64) : RowKit.wrap64 (t + n) = t + n := by unfold RowKit.wrap64; omega
theorem placeN_lt (n : Nat) (k s : Int) (hn : 0 < n) : placeN n k s < n := by
  have := tmod_range (RowKit.wrap64 (RowKit.wrap64 (31 * k) + s)) n hn
  unfold placeN
  split <;> omega
theorem place_in {W : World} {Bc Be n cap : Nat} {cur : Array Value} {Tc Te : TypeId} {hi mi : Int} (h : CacheW W Bc Be n cap cur Tc Te hi mi) (k s : Int) (hn : 0 < n) (hn2 : n ≤ 64) :
    Calls Try.prog 42 #[.pointer (some ⟨Bc, 0, none⟩), .agg #[.int .i64 k, .int .i64 s]] W fun e W' => e = .returned (.pointer (some ⟨Be, placeN n k s * 5, none⟩)) ∧ Below W.heap.size W W' := by
  obtain ⟨hlt, hlt'⟩ := h.lt
  refine (callsIn_wide (n := 9)).1 ?_
  refine callsIn_of_wp Try.func42 rfl trivial ?_ rfl
  simp only [Try.ntmps42, List.size_toArray, List.length_cons, List.length_nil, Nat.reduceAdd, Nat.reduceSub, Array.replicate_succ, Array.replicate_zero, List.push_toArray, List.append_toArray, List.nil_append, List.cons_append]
  obtain ⟨w1, hw1⟩ : ∃ w1, W.alloc (Obj.cells #[Value.int IntKind.i64 k, Value.int IntKind.i64 s] 77) = w1 := ⟨_, rfl⟩
  have hb1 : Below W.heap.size W w1 := by rw [← hw1]; exact (Below.refl _ W).alloc (Nat.le_refl _) _
  obtain ⟨c0, c1, c2, f1, f2⟩ := (h.on hb1).c0
  have k1 : w1.heap[W.heap.size]? = some (Obj.cells #[Value.int IntKind.i64 k, Value.int IntKind.i64 s] 77) := by rw [← hw1]; exact World.alloc_heap_new _ _
  have d0 : w1.cell? ⟨W.heap.size, 0, none⟩ = some (.int .i64 k) := by simp [World.cell?, k1]
  have d1 : w1.cell? ⟨W.heap.size, 1, none⟩ = some (.int .i64 s) := by simp [World.cell?, k1]
  have hn0 : ¬ (n : Int) = 0 := by omega
  obtain ⟨r1, r2⟩ := tmod_range (RowKit.wrap64 (RowKit.wrap64 (31 * k) + s)) n hn
  have hw : RowKit.wrap64 ((RowKit.wrap64 (RowKit.wrap64 (31 * k) + s)).tmod n + n) = (RowKit.wrap64 (RowKit.wrap64 (31 * k) + s)).tmod n + n := wrap_add _ _ r1 r2 hn2
  by_cases hneg : (RowKit.wrap64 (RowKit.wrap64 (31 * k) + s)).tmod n < 0
  · have b0 : 0 ≤ (RowKit.wrap64 (RowKit.wrap64 (31 * k) + s)).tmod n + n := by omega
    have b1 : (RowKit.wrap64 (RowKit.wrap64 (31 * k) + s)).tmod n + n < n := by omega
    gi_wp2
    go_ret
    refine ⟨?_, hb1⟩
    unfold placeN
    rw [if_pos hneg]
    rfl
  · have b0 : 0 ≤ (RowKit.wrap64 (RowKit.wrap64 (31 * k) + s)).tmod n := by omega
    gi_wp2
    go_ret
    refine ⟨?_, hb1⟩
    unfold placeN
    rw [if_neg (by omega)]
    rfl
theorem info81 : ∃ i z, Try.prog.info? 81 = some i ∧ i.zero = some z ∧ z.cells = #[.int .i64 0, .int .i64 0, .int .i64 0, .int .i64 0, .bool false] ∧ i.size = 5 ∧ i.bytes = 40 := by
  have h : ((Try.prog.info? 81).map fun i => (i.size, i.bytes, i.zero.map (·.cells.toList))) = some (5, 40, some [.int .i64 0, .int .i64 0, .int .i64 0, .int .i64 0, .bool false]) := by kernel_rfl
  cases e : Try.prog.info? 81 with
  | none => rw [e] at h; cases h
  | some i =>
    rw [e] at h
    simp only [Option.map_some, Option.some.injEq, Prod.mk.injEq] at h
    obtain ⟨h1, h2, h3⟩ := h
    cases ez : i.zero with
    | none => rw [ez] at h3; cases h3
    | some z =>
      rw [ez] at h3
      simp only [Option.map_some, Option.some.injEq] at h3
      exact ⟨i, z, rfl, ez, Array.toList_inj.1 h3, h1, h2⟩
theorem new_in (W : World) (s : Int) (h1 : 1 ≤ s) (h2 : s ≤ 64) :
    Calls Try.prog 21 #[.int .i64 s] W fun e W' => e = .returned (.pointer (some ⟨W.heap.size + 1, 0, none⟩)) ∧
      W' = (W.alloc (.cells (madeCells #[.int .i64 0, .int .i64 0, .int .i64 0, .int .i64 0, .bool false] (s.toNat * 5)) 81)).alloc (.cells #[.slice (some ⟨W.heap.size, 0, none⟩) s.toNat s.toNat, .int .i64 0, .int .i64 0] 73) := by
  refine (callsIn_wide (n := 9)).1 ?_
  refine callsIn_of_wp Try.func21 rfl trivial ?_ rfl
  simp only [Try.ntmps21, List.size_toArray, List.length_cons, List.length_nil, Nat.reduceAdd, Nat.reduceSub, Array.replicate_succ, Array.replicate_zero, List.push_toArray, List.append_toArray, List.nil_append, List.cons_append]
  have hm : Sem.run Try.prog (Instr.makeSlice 71 (Value.int IntKind.i64 s) (Value.int IntKind.i64 s)) W = .ok (.slice (some ⟨W.heap.size, 0, none⟩) s.toNat s.toNat) (W.alloc (.cells (madeCells #[.int .i64 0, .int .i64 0, .int .i64 0, .int .i64 0, .bool false] (s.toNat * 5)) 81)) := by
    obtain ⟨i, z, e1, e2, e3, e4, e5⟩ := info81
    have := run_make (P := Try.prog) W 71 81 i z (by kernel_rfl) e1 e2 .i64 .i64 s s (by omega) (by omega) (by rw [e5]; omega) (by omega)
    rw [e3, e4] at this
    exact this
  gi_wp2
  go_ret
  exact ⟨rfl, rfl⟩
theorem new_nil (W : World) (s : Int) (h1 : ¬ (1 ≤ s ∧ s ≤ 64)) : Calls Try.prog 21 #[.int .i64 s] W fun e W' => e = .returned (.pointer none) ∧ W' = W := by
  refine (callsIn_wide (n := 9)).1 ?_
  refine callsIn_of_wp Try.func21 rfl trivial ?_ rfl
  simp only [Try.ntmps21, List.size_toArray, List.length_cons, List.length_nil, Nat.reduceAdd, Nat.reduceSub, Array.replicate_succ, Array.replicate_zero, List.push_toArray, List.append_toArray, List.nil_append, List.cons_append]
  by_cases h2 : s < 1
  · gi_wp2
    go_ret
    exact ⟨rfl, rfl⟩
  · have h3 : 64 < s := by omega
    gi_wp2
    go_ret
    exact ⟨rfl, rfl⟩
theorem flush_in {W : World} {Bc Be n cap : Nat} {cur : Array Value} {Tc : TypeId} {hi mi : Int} (h : CacheW W Bc Be n cap cur Tc 81 hi mi) (hn : 0 < n) (hsz : n * 5 ≤ cur.size) :
    Calls Try.prog 23 #[.pointer (some ⟨Bc, 0, none⟩)] W fun e W' => e = .returned (.tuple #[]) ∧ W' = W.setCells Be 0 (madeCells #[.int .i64 0, .int .i64 0, .int .i64 0, .int .i64 0, .bool false] (n * 5)).toList := by
  obtain ⟨c0, c1, c2, f1, f2⟩ := h.c0
  refine (callsIn_wide (n := 9)).1 ?_
  refine callsIn_of_wp Try.func23 rfl trivial ?_ rfl
  simp only [Try.ntmps23, List.size_toArray, List.length_cons, List.length_nil, Nat.reduceAdd, Nat.reduceSub, Array.replicate_succ, Array.replicate_zero, List.push_toArray, List.append_toArray, List.nil_append, List.cons_append]
  have hcl : Sem.run Try.prog (Builtin.clear_ #[71] 0 #[Value.slice (some { block := Be, off := 0 }) n cap]) W = .ok (.tuple #[]) (W.setCells Be 0 (madeCells #[.int .i64 0, .int .i64 0, .int .i64 0, .int .i64 0, .bool false] (n * 5)).toList) := by
    obtain ⟨i, z, e1, e2, e3, e4, e5⟩ := info81
    have hv : ∀ w, (zeroValue 81).run Try.prog w = .ok z w := fun w => by simp [zeroValue, typeInfo, e1, e2]
    have hl : ((madeCells #[.int .i64 0, .int .i64 0, .int .i64 0, .int .i64 0, .bool false] (n * 5)).toList).length = n * 5 := by rw [Array.length_toList, size_madeCells]
    have hst := run_storeCells_cells (P := Try.prog) Be 0 (madeCells #[.int .i64 0, .int .i64 0, .int .i64 0, .int .i64 0, .bool false] (n * 5)).toList 0 W (fun j hj => by rw [hl] at hj; simp [World.cell?, h.row, show j < cur.size by omega]) (fun j hj => by simp [World.frozen?, h.row]) (fun v hv' => by
      simp only [madeCells, Array.toList_map, List.mem_map] at hv'
      obtain ⟨j, _, rfl⟩ := hv'
      have : j % 5 < 5 := Nat.mod_lt _ (by omega)
      show ((#[Value.int .i64 0, .int .i64 0, .int .i64 0, .int .i64 0, .bool false])[j % 5]!).oneCell' = true
      rcases (show j % 5 = 0 ∨ j % 5 = 1 ∨ j % 5 = 2 ∨ j % 5 = 3 ∨ j % 5 = 4 by omega) with e | e | e | e | e <;> rw [e] <;> rfl)
    simp only [Nat.add_zero] at hst
    obtain ⟨m, rfl⟩ : ∃ m, n = m + 1 := ⟨n - 1, by omega⟩
    have hz : (Builtin.zeroCells z.cells (m + 1)).toList = (madeCells #[.int .i64 0, .int .i64 0, .int .i64 0, .int .i64 0, .bool false] ((m + 1) * 5)).toList := by rw [e3]; rfl
    simp [Builtin.clear_, run_underlying (show Try.prog.underlying 71 = some (.slice 81) by kernel_rfl), hv, hz, hst]
  gi_wp2
  exact ⟨rfl, _, by simp [results, Try.f23, go_sem], rfl, rfl⟩
theorem flush_nil (W : World) : Calls Try.prog 23 #[.pointer none] W fun e W' => e = .returned (.tuple #[]) ∧ W' = W := by
  refine (callsIn_wide (n := 9)).1 ?_
  refine callsIn_of_wp Try.func23 rfl trivial ?_ rfl
  simp only [Try.ntmps23, List.size_toArray, List.length_cons, List.length_nil, Nat.reduceAdd, Nat.reduceSub, Array.replicate_succ, Array.replicate_zero, List.push_toArray, List.append_toArray, List.nil_append, List.cons_append]
  gi_wp2
  exact ⟨rfl, _, by simp [results, Try.f23, go_sem], rfl, rfl⟩
end Go.Pv

/- cache.Find: its walk. -/
namespace Go.Pv
open Go Go.Proofs Go.Shelf Go.RowKit
attribute [local go_sem] Oper.semAt_some
set_option maxHeartbeats 8000000
set_option maxRecDepth 100000
theorem CacheW.set1 {W : World} {Bc Be n cap : Nat} {cur : Array Value} {Tc Te : TypeId} {hi mi : Int} (h : CacheW W Bc Be n cap cur Tc Te hi mi) (hne : Bc ≠ Be) (m : Int) : CacheW (W.setCell ⟨Bc, 1, none⟩ (.int .i64 m)) Bc Be n cap cur Tc Te m mi :=
  ⟨by rw [heap_setCell_same W Bc 1 _ _ _ h.box]; rfl, by rw [heap_setCell_other W ⟨Bc, 1, none⟩ Be _ (Ne.symm hne)]; exact h.row⟩
theorem CacheW.set2 {W : World} {Bc Be n cap : Nat} {cur : Array Value} {Tc Te : TypeId} {hi mi : Int} (h : CacheW W Bc Be n cap cur Tc Te hi mi) (hne : Bc ≠ Be) (m : Int) : CacheW (W.setCell ⟨Bc, 2, none⟩ (.int .i64 m)) Bc Be n cap cur Tc Te hi m :=
  ⟨by rw [heap_setCell_same W Bc 2 _ _ _ h.box]; rfl, by rw [heap_setCell_other W ⟨Bc, 2, none⟩ Be _ (Ne.symm hne)]; exact h.row⟩
theorem Oth.set {W : World} {Bc Be : Nat} (B o : Nat) (v : Value) (hB : B = Bc ∨ B = Be) : Oth W (W.setCell ⟨B, o, none⟩ v) Bc Be :=
  ⟨rfl, rfl, rfl, by simp [World.setCell], fun k hk a b => heap_setCell_other W ⟨B, o, none⟩ k v (by rintro rfl; rcases hB with e | e <;> simp_all)⟩
/-- An entry, laid. -/
def put5 (cur : Array Value) (o : Nat) (k s m a : Int) : Array Value :=
  ((((cur.setIfInBounds o (.int .i64 k)).setIfInBounds (o + 1) (.int .i64 s)).setIfInBounds (o + 2) (.int .i64 m)).setIfInBounds (o + 3) (.int .i64 a)).setIfInBounds (o + 4) (.bool true)
theorem CacheW.put {W : World} {Bc Be n cap : Nat} {cur : Array Value} {Tc Te : TypeId} {hi mi : Int} (h : CacheW W Bc Be n cap cur Tc Te hi mi) (hne : Bc ≠ Be) (o : Nat) (k s m a : Int) :
    CacheW (((((W.setCell ⟨Be, o, none⟩ (.int .i64 k)).setCell ⟨Be, o + 1, none⟩ (.int .i64 s)).setCell ⟨Be, o + 2, none⟩ (.int .i64 m)).setCell ⟨Be, o + 3, none⟩ (.int .i64 a)).setCell ⟨Be, o + 4, none⟩ (.bool true)) Bc Be n cap (put5 cur o k s m a) Tc Te hi mi := by
  have h1 := heap_setCell_same W Be o _ _ (.int .i64 k) h.row
  have h2 := heap_setCell_same _ Be (o + 1) _ _ (.int .i64 s) h1
  have h3 := heap_setCell_same _ Be (o + 2) _ _ (.int .i64 m) h2
  have h4 := heap_setCell_same _ Be (o + 3) _ _ (.int .i64 a) h3
  have h5 := heap_setCell_same _ Be (o + 4) _ _ (.bool true) h4
  refine ⟨?_, h5⟩
  rw [heap_setCell_other _ ⟨Be, o + 4, none⟩ Bc _ hne, heap_setCell_other _ ⟨Be, o + 3, none⟩ Bc _ hne, heap_setCell_other _ ⟨Be, o + 2, none⟩ Bc _ hne, heap_setCell_other _ ⟨Be, o + 1, none⟩ Bc _ hne, heap_setCell_other _ ⟨Be, o, none⟩ Bc _ hne]
  exact h.box
theorem res25 (W : World) (tmps : Array Value) : (results Try.f25 tmps).run Try.prog W = .ok (.tuple #[tmps.getD 8 undef, tmps.getD 9 undef, tmps.getD 10 undef]) W := by
  simp [results, Try.f25, go_sem]
theorem eq77 (a b c d : Int) (w : World) : (Op.equalIn 10000 77 (.agg #[.int .i64 a, .int .i64 b]) (.agg #[.int .i64 c, .int .i64 d])).run Try.prog w = .ok (a == c && b == d) w := by
  have u3 := Try.underlying3
  have a3 := Try.isAgg3
  have z3 := Try.sizeOf3
  have hS : Try.prog.underlying 77 = some (.struct (Try.prog.fieldsOf 77)) := by kernel_rfl
  rw [show (10000 : Nat) = 9999 + 1 from rfl, run_equalIn_agg w 9999 77 _ _ hS (by kernel_rfl)]
  simp only [Program.fieldsOf, Try.underlying77]
  go_simp
  by_cases h1 : a = c <;> by_cases h2 : b = d <;> simp [h1, h2]
theorem find_miss {W : World} {Bc Be n cap : Nat} {cur : Array Value} {Tc : TypeId} {hi mi : Int} (h : CacheW W Bc Be n cap cur Tc 81 hi mi) (hne : Bc ≠ Be) (k s : Int) (hn : 0 < n) (hn2 : n ≤ 64) (x y z : Value)
    (k0 s0 m0 a0 : Int) (f0 : Bool) (e0 : W.cell? ⟨Be, placeN n k s * 5, none⟩ = some (.int .i64 k0)) (e1 : W.cell? ⟨Be, placeN n k s * 5 + 1, none⟩ = some (.int .i64 s0)) (e2 : W.cell? ⟨Be, placeN n k s * 5 + 2, none⟩ = some (.int .i64 m0))
    (e3 : W.cell? ⟨Be, placeN n k s * 5 + 3, none⟩ = some (.int .i64 a0)) (e4 : W.cell? ⟨Be, placeN n k s * 5 + 4, none⟩ = some (.bool f0)) (hcur : placeN n k s * 5 + 4 < cur.size) (hf0 : (f0 && (decide (k0 = k) && decide (s0 = s))) = false) (m a e : Int) (cur' : Array Value) (hc' : cur' = if e = 0 then put5 cur (placeN n k s * 5) k s m a else cur)
    (hfind : ∀ V, Oth W V Bc Be → Calls Try.prog 14 #[.agg #[x, y, z], .int .i64 k, .int .i64 s] V fun r V' => r = .returned (.tuple #[.int .i64 m, .int .i64 a, .int .i64 e]) ∧ Below V.heap.size V V') :
    Calls Try.prog 25 #[.pointer (some ⟨Bc, 0, none⟩), .agg #[x, y, z], .int .i64 k, .int .i64 s] W fun r W' => r = .returned (.tuple #[.int .i64 m, .int .i64 a, .int .i64 e]) ∧ Oth W W' Bc Be ∧ CacheW W' Bc Be n cap cur' Tc 81 hi (RowKit.wrap64 (mi + 1)) := by
  obtain ⟨hlt, hlt'⟩ := h.lt
  refine (callsIn_wide (n := 9)).1 ?_
  refine callsIn_of_wp Try.func25 rfl trivial ?_ rfl
  simp only [Try.ntmps25, List.size_toArray, List.length_cons, List.length_nil, Nat.reduceAdd, Nat.reduceSub, Array.replicate_succ, Array.replicate_zero, List.push_toArray, List.append_toArray, List.nil_append, List.cons_append]
  have hmx : Try.prog.follows .mixedOrders = true := by kernel_rfl
  have hls : Try.prog.follows .lateStores = true := by kernel_rfl
  obtain ⟨w2, hw2⟩ : ∃ w2, (W.alloc (Obj.cells #[x, y, z] 24)).alloc (Obj.cells #[Value.int IntKind.i64 k, Value.int IntKind.i64 s] 77) = w2 := ⟨_, rfl⟩
  have hs2 : w2.heap.size = W.heap.size + 2 := by rw [← hw2, World.size_alloc, World.size_alloc]
  have hb2 : Below W.heap.size W w2 := by rw [← hw2]; exact ((Below.refl _ W).alloc (Nat.le_refl _) _).trans ((Below.refl _ _).alloc (by rw [World.size_alloc]; omega) _)
  have kb2 : w2.heap[W.heap.size + 1]? = some (Obj.cells #[Value.int IntKind.i64 k, Value.int IntKind.i64 s] 77) := by
    rw [← hw2]
    have := World.alloc_heap_new (W.alloc (Obj.cells #[x, y, z] 24)) (Obj.cells #[Value.int IntKind.i64 k, Value.int IntKind.i64 s] 77)
    rwa [World.size_alloc] at this
  have hb2' : w2.heap[W.heap.size]? = some (Obj.cells #[x, y, z] 24) := by
    rw [← hw2]
    have h1 := World.alloc_heap_new W (Obj.cells #[x, y, z] 24)
    rw [← h1]
    exact ((Below.refl _ _).alloc (Nat.le_refl _) _).block _ (by rw [World.size_alloc]; omega)
  have h2 := h.on hb2
  have d0 : w2.cell? ⟨W.heap.size + 1, 0, none⟩ = some (.int .i64 k) := by simp [World.cell?, kb2]
  have d1 : w2.cell? ⟨W.heap.size + 1, 1, none⟩ = some (.int .i64 s) := by simp [World.cell?, kb2]
  gi_wp2_with (first
    | (refine ⟨trivial, ?_⟩; gi_at_call 42; refine (callsIn_wide.2 (place_in h2 k s hn hn2)).mono ?_; rintro e W4 ⟨rfl, hb4⟩
       have hW4 : Below W.heap.size W W4 := hb2.trans (hb4.mono (by omega))
       have g0 := (hW4.cell (p := ⟨Be, placeN n k s * 5, none⟩) hlt').trans e0
       have g1 := (hW4.cell (p := ⟨Be, placeN n k s * 5 + 1, none⟩) hlt').trans e1
       have g2 := (hW4.cell (p := ⟨Be, placeN n k s * 5 + 2, none⟩) hlt').trans e2
       have g3 := (hW4.cell (p := ⟨Be, placeN n k s * 5 + 3, none⟩) hlt').trans e3
       have g4 := (hW4.cell (p := ⟨Be, placeN n k s * 5 + 4, none⟩) hlt').trans e4
       have kb4 := (hb4.block _ (by omega)).trans kb2
       have hb4' := (hb4.block _ (by omega)).trans hb2'
       have k0c : W4.cell? ⟨W.heap.size + 1, 0, none⟩ = some (.int .i64 k) := by simp [World.cell?, kb4]
       have k1c : W4.cell? ⟨W.heap.size + 1, 1, none⟩ = some (.int .i64 s) := by simp [World.cell?, kb4]
       have h4 := h.on hW4
       obtain ⟨c0, c1, c2, p1, p2⟩ := h4.c0))
  refine wpIn_mono (Q := fun e a V => match e with | .normal => V = W4.drew ∧ ∃ v31 v32 v33 v34 v35 v36 v37 v38 v39 v40 v41 : Value, a =
      { tmps := #[Value.pointer (some { block := Bc, off := 0 }), Value.agg #[x, y, z], Value.int IntKind.i64 k,
          Value.int IntKind.i64 s, undef, Value.pointer (some { block := W.heap.size, off := 0 }), undef, undef,
          Value.int IntKind.i64 0, Value.int IntKind.i64 0, Value.int IntKind.i64 0,
          Value.pointer (some { block := W.heap.size + 1, off := 0 }),
          Value.pointer (some { block := Be, off := placeN n k s * 5 }), undef, undef, undef,
          Value.pointer (some { block := Bc, off := 0 }), Value.bool false, undef, undef, undef, undef, undef, undef,
          undef, Value.int IntKind.i64 k, Value.int IntKind.i64 s,
          Value.agg #[Value.int IntKind.i64 k, Value.int IntKind.i64 s], Value.pointer (some { block := Bc, off := 0 }),
          Value.agg #[Value.int IntKind.i64 k, Value.int IntKind.i64 s],
          Value.pointer (some { block := Be, off := placeN n k s * 5 }), v31, v32, v33, v34, v35, v36, v37, v38, v39, v40, v41, .bool false,
          undef, undef, undef, undef, undef, undef, undef, undef, undef, undef, undef, undef, undef, undef, undef, undef, undef, undef, undef, undef, undef, undef, undef, undef, undef, undef, undef, undef, undef, undef, undef, undef, undef, undef, undef, undef, undef, undef, undef, undef, undef], defers := [] } | _ => False) ?reg ?rest
  case reg =>
    cases f0 with
    | false =>
      first | gi_region_elder_o | fail "elder"
      all_goals (refine ⟨rfl, ?_⟩; (repeat apply Exists.intro); rfl)
    | true =>
      have heq : ∀ V, Sem.run Try.prog (Op.equalIn 10000 77 (Value.agg #[Value.int IntKind.i64 k0, Value.int IntKind.i64 s0]) (Value.agg #[Value.int IntKind.i64 k, Value.int IntKind.i64 s])) V = Result.ok false V := fun V => by
        rw [eq77]
        simp only [Bool.true_and, Bool.and_eq_false_iff, decide_eq_false_iff_not] at hf0
        congr 1
        rcases hf0 with h | h <;> simp [h]
      have hgd : Try.prog.eqGuardType Try.prog.depth 77 = false := by kernel_rfl
      gi_big_region_o
      all_goals (refine ⟨rfl, ?_⟩; (repeat apply Exists.intro); rfl)
  case rest =>
    intro e' a' V hq
    cases e' <;> try exact hq.elim
    obtain ⟨rfl, v31, v32, v33, v34, v35, v36, v37, v38, v39, v40, v41, rfl⟩ := hq
    obtain ⟨w5, hw5⟩ : ∃ w5, (W4.setCell ⟨Bc, 2, none⟩ (.int .i64 (RowKit.wrap64 (mi + 1)))).drew = w5 := ⟨_, rfl⟩
    have h5 : CacheW w5 Bc Be n cap cur Tc 81 hi (RowKit.wrap64 (mi + 1)) := by rw [← hw5]; have := h4.set2 hne (RowKit.wrap64 (mi + 1)); exact ⟨this.box, this.row⟩
    have hs5 : w5.heap.size = W4.heap.size := by rw [← hw5]; simp [World.drew, World.setCell]
    have o5 : ∀ b, b ≠ Bc → w5.heap[b]? = W4.heap[b]? := fun b hb => by rw [← hw5]; exact heap_setCell_other W4 ⟨Bc, 2, none⟩ b _ hb
    have hO5 : Oth W w5 Bc Be := (Oth.of hW4).trans (by rw [← hw5]; have := Oth.set (W := W4) (Be := Be) Bc 2 (.int .i64 (RowKit.wrap64 (mi + 1))) (.inl rfl); exact ⟨this.os, this.tape, this.output, this.size, this.block⟩)
    have hb5 : w5.heap[W.heap.size]? = some (Obj.cells #[x, y, z] 24) := (o5 _ (by omega)).trans hb4'
    have kb5 : w5.heap[W.heap.size + 1]? = some (Obj.cells #[Value.int IntKind.i64 k, Value.int IntKind.i64 s] 77) := (o5 _ (by omega)).trans kb4
    have hlt2 : W.heap.size + 1 < w5.heap.size := (Array.getElem?_eq_some_iff.1 kb5).1
    have x0 : w5.cell? ⟨W.heap.size, 0, none⟩ = some x := by simp [World.cell?, hb5]
    have x1 : w5.cell? ⟨W.heap.size, 1, none⟩ = some y := by simp [World.cell?, hb5]
    have x2 : w5.cell? ⟨W.heap.size, 2, none⟩ = some z := by simp [World.cell?, hb5]
    have hrow5 := h5.row
    by_cases hE : e = 0
    · rw [if_pos hE] at hc'
      subst hE
      clear hf0
      gi_wp2_with (first
        | (refine ⟨trivial, ?_⟩; gi_at_call 14; refine (callsIn_wide.2 (hfind _ hO5)).mono ?_; rintro r W6 ⟨rfl, hb6⟩
           have h6 := h5.on hb6
           have kb6 := (hb6.block _ hlt2).trans kb5
           have k0d : W6.cell? ⟨W.heap.size + 1, 0, none⟩ = some (.int .i64 k) := by simp [World.cell?, kb6]
           have k1d : W6.cell? ⟨W.heap.size + 1, 1, none⟩ = some (.int .i64 s) := by simp [World.cell?, kb6]
           have hsz : placeN n k s * 5 + 4 < cur.size := hcur
           have q0 : W6.cell? ⟨Be, placeN n k s * 5, none⟩ = some cur[placeN n k s * 5] := by simp [World.cell?, h6.row, show placeN n k s * 5 < cur.size by omega]
           have q1 : W6.cell? ⟨Be, placeN n k s * 5 + 1, none⟩ = some cur[placeN n k s * 5 + 1] := by simp [World.cell?, h6.row, show placeN n k s * 5 + 1 < cur.size by omega]
           have q2 : W6.cell? ⟨Be, placeN n k s * 5 + 2, none⟩ = some cur[placeN n k s * 5 + 2] := by simp [World.cell?, h6.row, show placeN n k s * 5 + 2 < cur.size by omega]
           have q3 : W6.cell? ⟨Be, placeN n k s * 5 + 3, none⟩ = some cur[placeN n k s * 5 + 3] := by simp [World.cell?, h6.row, show placeN n k s * 5 + 3 < cur.size by omega]
           have q4 : W6.cell? ⟨Be, placeN n k s * 5 + 4, none⟩ = some cur[placeN n k s * 5 + 4] := by simp [World.cell?, h6.row, show placeN n k s * 5 + 4 < cur.size by omega]
           have fz : ∀ o, W6.frozen? ⟨Be, o, none⟩ = false := fun o => by simp [World.frozen?, h6.row]
           have z0 := fz (placeN n k s * 5)
           have z1 := fz (placeN n k s * 5 + 1)
           have z2 := fz (placeN n k s * 5 + 2)
           have z3 := fz (placeN n k s * 5 + 3)
           have z4 := fz (placeN n k s * 5 + 4)))
      refine ⟨rfl, _, res25 _ _, rfl, ?_, ?_⟩
      · exact ((hO5.trans (Oth.of hb6)).trans (Oth.set Be _ _ (.inr rfl))).trans ((Oth.set Be _ _ (.inr rfl)).trans ((Oth.set Be _ _ (.inr rfl)).trans ((Oth.set Be _ _ (.inr rfl)).trans (Oth.set Be _ _ (.inr rfl)))))
      · rw [hc']; exact h6.put hne _ _ _ _ _
    · rw [if_neg hE] at hc'
      clear hf0
      gi_wp2_with (first
        | (refine ⟨trivial, ?_⟩; gi_at_call 14; refine (callsIn_wide.2 (hfind _ hO5)).mono ?_; rintro r W6 ⟨rfl, hb6⟩
           have h6 := h5.on hb6
           have kb6 := (hb6.block _ hlt2).trans kb5
           have k0d : W6.cell? ⟨W.heap.size + 1, 0, none⟩ = some (.int .i64 k) := by simp [World.cell?, kb6]
           have k1d : W6.cell? ⟨W.heap.size + 1, 1, none⟩ = some (.int .i64 s) := by simp [World.cell?, kb6]
           have hsz : placeN n k s * 5 + 4 < cur.size := hcur
           have q0 : W6.cell? ⟨Be, placeN n k s * 5, none⟩ = some cur[placeN n k s * 5] := by simp [World.cell?, h6.row, show placeN n k s * 5 < cur.size by omega]
           have q1 : W6.cell? ⟨Be, placeN n k s * 5 + 1, none⟩ = some cur[placeN n k s * 5 + 1] := by simp [World.cell?, h6.row, show placeN n k s * 5 + 1 < cur.size by omega]
           have q2 : W6.cell? ⟨Be, placeN n k s * 5 + 2, none⟩ = some cur[placeN n k s * 5 + 2] := by simp [World.cell?, h6.row, show placeN n k s * 5 + 2 < cur.size by omega]
           have q3 : W6.cell? ⟨Be, placeN n k s * 5 + 3, none⟩ = some cur[placeN n k s * 5 + 3] := by simp [World.cell?, h6.row, show placeN n k s * 5 + 3 < cur.size by omega]
           have q4 : W6.cell? ⟨Be, placeN n k s * 5 + 4, none⟩ = some cur[placeN n k s * 5 + 4] := by simp [World.cell?, h6.row, show placeN n k s * 5 + 4 < cur.size by omega]
           have fz : ∀ o, W6.frozen? ⟨Be, o, none⟩ = false := fun o => by simp [World.frozen?, h6.row]
           have z0 := fz (placeN n k s * 5)
           have z1 := fz (placeN n k s * 5 + 1)
           have z2 := fz (placeN n k s * 5 + 2)
           have z3 := fz (placeN n k s * 5 + 3)
           have z4 := fz (placeN n k s * 5 + 4)))
      exact ⟨rfl, _, res25 _ _, rfl, hO5.trans (Oth.of hb6), by rw [hc']; exact h6⟩
theorem find_hit {W : World} {Bc Be n cap : Nat} {cur : Array Value} {Tc : TypeId} {hi mi : Int} (h : CacheW W Bc Be n cap cur Tc 81 hi mi) (hne : Bc ≠ Be) (k s : Int) (hn : 0 < n) (hn2 : n ≤ 64) (x y z : Value)
    (m0 a0 : Int) (e0 : W.cell? ⟨Be, placeN n k s * 5, none⟩ = some (.int .i64 k)) (e1 : W.cell? ⟨Be, placeN n k s * 5 + 1, none⟩ = some (.int .i64 s)) (e2 : W.cell? ⟨Be, placeN n k s * 5 + 2, none⟩ = some (.int .i64 m0))
    (e3 : W.cell? ⟨Be, placeN n k s * 5 + 3, none⟩ = some (.int .i64 a0)) (e4 : W.cell? ⟨Be, placeN n k s * 5 + 4, none⟩ = some (.bool true)) :
    Calls Try.prog 25 #[.pointer (some ⟨Bc, 0, none⟩), .agg #[x, y, z], .int .i64 k, .int .i64 s] W fun r W' => r = .returned (.tuple #[.int .i64 m0, .int .i64 a0, .int .i64 0]) ∧ Oth W W' Bc Be ∧ CacheW W' Bc Be n cap cur Tc 81 (RowKit.wrap64 (hi + 1)) mi := by
  obtain ⟨hlt, hlt'⟩ := h.lt
  refine (callsIn_wide (n := 9)).1 ?_
  refine callsIn_of_wp Try.func25 rfl trivial ?_ rfl
  simp only [Try.ntmps25, List.size_toArray, List.length_cons, List.length_nil, Nat.reduceAdd, Nat.reduceSub, Array.replicate_succ, Array.replicate_zero, List.push_toArray, List.append_toArray, List.nil_append, List.cons_append]
  have hmx : Try.prog.follows .mixedOrders = true := by kernel_rfl
  have hls : Try.prog.follows .lateStores = true := by kernel_rfl
  obtain ⟨w2, hw2⟩ : ∃ w2, (W.alloc (Obj.cells #[x, y, z] 24)).alloc (Obj.cells #[Value.int IntKind.i64 k, Value.int IntKind.i64 s] 77) = w2 := ⟨_, rfl⟩
  have hs2 : w2.heap.size = W.heap.size + 2 := by rw [← hw2, World.size_alloc, World.size_alloc]
  have hb2 : Below W.heap.size W w2 := by rw [← hw2]; exact ((Below.refl _ W).alloc (Nat.le_refl _) _).trans ((Below.refl _ _).alloc (by rw [World.size_alloc]; omega) _)
  have kb2 : w2.heap[W.heap.size + 1]? = some (Obj.cells #[Value.int IntKind.i64 k, Value.int IntKind.i64 s] 77) := by
    rw [← hw2]
    have := World.alloc_heap_new (W.alloc (Obj.cells #[x, y, z] 24)) (Obj.cells #[Value.int IntKind.i64 k, Value.int IntKind.i64 s] 77)
    rwa [World.size_alloc] at this
  have hb2' : w2.heap[W.heap.size]? = some (Obj.cells #[x, y, z] 24) := by
    rw [← hw2]
    have h1 := World.alloc_heap_new W (Obj.cells #[x, y, z] 24)
    rw [← h1]
    exact ((Below.refl _ _).alloc (Nat.le_refl _) _).block _ (by rw [World.size_alloc]; omega)
  have h2 := h.on hb2
  have d0 : w2.cell? ⟨W.heap.size + 1, 0, none⟩ = some (.int .i64 k) := by simp [World.cell?, kb2]
  have d1 : w2.cell? ⟨W.heap.size + 1, 1, none⟩ = some (.int .i64 s) := by simp [World.cell?, kb2]
  gi_wp2_with (first
    | (refine ⟨trivial, ?_⟩; gi_at_call 42; refine (callsIn_wide.2 (place_in h2 k s hn hn2)).mono ?_; rintro e W4 ⟨rfl, hb4⟩
       have hW4 : Below W.heap.size W W4 := hb2.trans (hb4.mono (by omega))
       have g0 := (hW4.cell (p := ⟨Be, placeN n k s * 5, none⟩) hlt').trans e0
       have g1 := (hW4.cell (p := ⟨Be, placeN n k s * 5 + 1, none⟩) hlt').trans e1
       have g2 := (hW4.cell (p := ⟨Be, placeN n k s * 5 + 2, none⟩) hlt').trans e2
       have g3 := (hW4.cell (p := ⟨Be, placeN n k s * 5 + 3, none⟩) hlt').trans e3
       have g4 := (hW4.cell (p := ⟨Be, placeN n k s * 5 + 4, none⟩) hlt').trans e4
       have kb4 := (hb4.block _ (by omega)).trans kb2
       have hb4' := (hb4.block _ (by omega)).trans hb2'
       have k0c : W4.cell? ⟨W.heap.size + 1, 0, none⟩ = some (.int .i64 k) := by simp [World.cell?, kb4]
       have k1c : W4.cell? ⟨W.heap.size + 1, 1, none⟩ = some (.int .i64 s) := by simp [World.cell?, kb4]
       have h4 := h.on hW4
       obtain ⟨c0, c1, c2, p1, p2⟩ := h4.c0))
  refine wpIn_mono (Q := fun e a V => match e with | .normal => V = W4.drew ∧ ∃ v31 v32 v33 v34 v35 v36 v37 v38 v39 v40 v41 : Value, a =
      { tmps := #[Value.pointer (some { block := Bc, off := 0 }), Value.agg #[x, y, z], Value.int IntKind.i64 k,
          Value.int IntKind.i64 s, undef, Value.pointer (some { block := W.heap.size, off := 0 }), undef, undef,
          Value.int IntKind.i64 0, Value.int IntKind.i64 0, Value.int IntKind.i64 0,
          Value.pointer (some { block := W.heap.size + 1, off := 0 }),
          Value.pointer (some { block := Be, off := placeN n k s * 5 }), undef, undef, undef,
          Value.pointer (some { block := Bc, off := 0 }), Value.bool false, undef, undef, undef, undef, undef, undef,
          undef, Value.int IntKind.i64 k, Value.int IntKind.i64 s,
          Value.agg #[Value.int IntKind.i64 k, Value.int IntKind.i64 s], Value.pointer (some { block := Bc, off := 0 }),
          Value.agg #[Value.int IntKind.i64 k, Value.int IntKind.i64 s],
          Value.pointer (some { block := Be, off := placeN n k s * 5 }), v31, v32, v33, v34, v35, v36, v37, v38, v39, v40, v41, .bool true,
          undef, undef, undef, undef, undef, undef, undef, undef, undef, undef, undef, undef, undef, undef, undef, undef, undef, undef, undef, undef, undef, undef, undef, undef, undef, undef, undef, undef, undef, undef, undef, undef, undef, undef, undef, undef, undef, undef, undef, undef, undef], defers := [] } | _ => False) ?reg ?rest
  case reg =>
    have heq : ∀ V, Sem.run Try.prog (Op.equalIn 10000 77 (Value.agg #[Value.int IntKind.i64 k, Value.int IntKind.i64 s]) (Value.agg #[Value.int IntKind.i64 k, Value.int IntKind.i64 s])) V = Result.ok true V := fun V => by
      rw [eq77]
      simp
    have hgd : Try.prog.eqGuardType Try.prog.depth 77 = false := by kernel_rfl
    gi_big_region_o
    all_goals (refine ⟨rfl, ?_⟩; (repeat apply Exists.intro); rfl)
  case rest =>
    intro e' a' V hq
    cases e' <;> try exact hq.elim
    obtain ⟨rfl, v31, v32, v33, v34, v35, v36, v37, v38, v39, v40, v41, rfl⟩ := hq
    obtain ⟨w5, hw5⟩ : ∃ w5, (W4.setCell ⟨Bc, 1, none⟩ (.int .i64 (RowKit.wrap64 (hi + 1)))).drew = w5 := ⟨_, rfl⟩
    have h5 : CacheW w5 Bc Be n cap cur Tc 81 (RowKit.wrap64 (hi + 1)) mi := by rw [← hw5]; have := h4.set1 hne (RowKit.wrap64 (hi + 1)); exact ⟨this.box, this.row⟩
    have hO5 : Oth W w5 Bc Be := (Oth.of hW4).trans (by rw [← hw5]; have := Oth.set (W := W4) (Be := Be) Bc 1 (.int .i64 (RowKit.wrap64 (hi + 1))) (.inl rfl); exact ⟨this.os, this.tape, this.output, this.size, this.block⟩)
    have o5 : w5.heap[Be]? = W4.heap[Be]? := by rw [← hw5]; exact heap_setCell_other W4 ⟨Bc, 1, none⟩ Be _ (Ne.symm hne)
    have q2 : w5.cell? ⟨Be, placeN n k s * 5 + 1 + 1, none⟩ = some (.int .i64 m0) := by rw [← g2]; simp only [World.cell?, o5]
    have q3 : w5.cell? ⟨Be, placeN n k s * 5 + 3, none⟩ = some (.int .i64 a0) := by rw [← g3]; simp only [World.cell?, o5]
    have q2' : w5.cell? ⟨Be, placeN n k s * 5 + 2, none⟩ = some (.int .i64 m0) := q2
    gi_wp2
    gi_region_o
    all_goals gi_wp2
    all_goals exact ⟨rfl, _, res25 _ _, rfl, hO5.trans ⟨rfl, rfl, rfl, Nat.le_refl _, fun _ _ _ _ => rfl⟩, ⟨h5.box, h5.row⟩⟩
theorem find_nil {W : World} (k s : Int) (x y z : Value) (m a e : Int)
    (hfind : ∀ V, Below W.heap.size W V → Calls Try.prog 14 #[.agg #[x, y, z], .int .i64 k, .int .i64 s] V fun r V' => r = .returned (.tuple #[.int .i64 m, .int .i64 a, .int .i64 e]) ∧ Below V.heap.size V V') :
    Calls Try.prog 25 #[.pointer none, .agg #[x, y, z], .int .i64 k, .int .i64 s] W fun r W' => r = .returned (.tuple #[.int .i64 m, .int .i64 a, .int .i64 e]) ∧ Below W.heap.size W W' := by
  refine (callsIn_wide (n := 9)).1 ?_
  refine callsIn_of_wp Try.func25 rfl trivial ?_ rfl
  simp only [Try.ntmps25, List.size_toArray, List.length_cons, List.length_nil, Nat.reduceAdd, Nat.reduceSub, Array.replicate_succ, Array.replicate_zero, List.push_toArray, List.append_toArray, List.nil_append, List.cons_append]
  have hmx : Try.prog.follows .mixedOrders = true := by kernel_rfl
  have hls : Try.prog.follows .lateStores = true := by kernel_rfl
  obtain ⟨w2, hw2⟩ : ∃ w2, W.alloc (Obj.cells #[x, y, z] 24) = w2 := ⟨_, rfl⟩
  have hb2 : Below W.heap.size W w2 := by rw [← hw2]; exact (Below.refl _ W).alloc (Nat.le_refl _) _
  have hb2' : w2.heap[W.heap.size]? = some (Obj.cells #[x, y, z] 24) := by rw [← hw2]; exact World.alloc_heap_new _ _
  have x0 : w2.cell? ⟨W.heap.size, 0, none⟩ = some x := by simp [World.cell?, hb2']
  have x1 : w2.cell? ⟨W.heap.size, 1, none⟩ = some y := by simp [World.cell?, hb2']
  have x2 : w2.cell? ⟨W.heap.size, 2, none⟩ = some z := by simp [World.cell?, hb2']
  gi_wp2_with (first
    | (refine ⟨trivial, ?_⟩; gi_at_call 14; refine (callsIn_wide.2 (hfind _ hb2)).mono ?_; rintro r W6 ⟨rfl, hb6⟩))
  exact ⟨rfl, _, res25 _ _, rfl, hb2.trans (hb6.mono hb2.size)⟩
end Go.Pv

/- anamnesisref10.New: its walk. -/
namespace Go.Pv
open Go Go.Proofs Go.Shelf Go.RowKit
attribute [local go_sem] Oper.semAt_some
set_option maxHeartbeats 4000000
set_option maxRecDepth 100000
theorem info75 : ∃ i z, Try.prog.info? 75 = some i ∧ i.zero = some z ∧ z.cells = #[.int .i64 0, .int .i64 0, .int .i64 0, .int .i64 0, .bool false] ∧ i.size = 5 ∧ i.bytes = 40 := by
  have h : ((Try.prog.info? 75).map fun i => (i.size, i.bytes, i.zero.map (·.cells.toList))) = some (5, 40, some [.int .i64 0, .int .i64 0, .int .i64 0, .int .i64 0, .bool false]) := by kernel_rfl
  cases e : Try.prog.info? 75 with
  | none => rw [e] at h; cases h
  | some i =>
    rw [e] at h
    simp only [Option.map_some, Option.some.injEq, Prod.mk.injEq] at h
    obtain ⟨h1, h2, h3⟩ := h
    cases ez : i.zero with
    | none => rw [ez] at h3; cases h3
    | some z =>
      rw [ez] at h3
      simp only [Option.map_some, Option.some.injEq] at h3
      exact ⟨i, z, rfl, ez, Array.toList_inj.1 h3, h1, h2⟩
theorem rnew_in (W : World) (s : Int) (h1 : 1 ≤ s) (h2 : s ≤ 64) :
    Calls Try.prog 22 #[.int .i64 s] W fun e W' => e = .returned (.pointer (some ⟨W.heap.size + 1, 0, none⟩)) ∧
      W' = (W.alloc (.cells (madeCells #[.int .i64 0, .int .i64 0, .int .i64 0, .int .i64 0, .bool false] (s.toNat * 5)) 75)).alloc (.cells #[.slice (some ⟨W.heap.size, 0, none⟩) s.toNat s.toNat, .int .i64 0, .int .i64 0] 53) := by
  refine (callsIn_wide (n := 9)).1 ?_
  refine callsIn_of_wp Try.func22 rfl trivial ?_ rfl
  simp only [Try.ntmps22, List.size_toArray, List.length_cons, List.length_nil, Nat.reduceAdd, Nat.reduceSub, Array.replicate_succ, Array.replicate_zero, List.push_toArray, List.append_toArray, List.nil_append, List.cons_append]
  have hm : Sem.run Try.prog (Instr.makeSlice 51 (Value.int IntKind.i64 s) (Value.int IntKind.i64 s)) W = .ok (.slice (some ⟨W.heap.size, 0, none⟩) s.toNat s.toNat) (W.alloc (.cells (madeCells #[.int .i64 0, .int .i64 0, .int .i64 0, .int .i64 0, .bool false] (s.toNat * 5)) 75)) := by
    obtain ⟨i, z, e1, e2, e3, e4, e5⟩ := info75
    have := run_make (P := Try.prog) W 51 75 i z (by kernel_rfl) e1 e2 .i64 .i64 s s (by omega) (by omega) (by rw [e5]; omega) (by omega)
    rw [e3, e4] at this
    exact this
  gi_wp2
  go_ret
  exact ⟨rfl, rfl⟩
end Go.Pv
