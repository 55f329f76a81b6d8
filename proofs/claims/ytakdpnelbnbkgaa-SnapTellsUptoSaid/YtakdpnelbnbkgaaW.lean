/- A part of the road: the interpreter of plain data and the proof that it is right. -/
import Derived.Test.YtakdpnelbnbkgaaN
import Derived.Laws.Entries
import Derived.Laws.Bits64b
import Derived.Test.YtakdpnelbnbkgaaU
import Derived.WalkLawsBesides
import Derived.Maps.AppendAt
import Derived.Recover
import Derived.Deep.AppendLies
import Derived.Deep.RegionWith
import Derived.Deep.RegionLaw
set_option linter.unusedVariables false
set_option linter.unusedSimpArgs false
/- Bytes put together to a number, as the loops do it. -/
namespace Go.Pv
open Go
theorem valN_snoc (l : List Nat) (b : Nat) : valN (l ++ [b]) = valN l + b * 256 ^ l.length := by
  induction l with
  | nil => simp [valN]
  | cons a l ih => rw [List.cons_append, valN, ih, valN, List.length_cons, Nat.pow_succ, Nat.mul_add, ← Nat.add_assoc, Nat.mul_left_comm, Nat.mul_comm 256 (256 ^ _)]
theorem valN_lt : ∀ l : List Nat, (∀ b ∈ l, b < 256) → valN l < 256 ^ l.length
  | [], _ => by simp [valN]
  | a :: l, h => by
    have h1 := h a (List.mem_cons_self ..)
    have h2 := valN_lt l fun b hb => h b (List.mem_cons_of_mem _ hb)
    rw [valN, List.length_cons, Nat.pow_succ]; omega
theorem nbs_lt (s : ByteArray) : ∀ b ∈ nbs s, b < 256 := by
  intro b hb
  simp only [nbs, List.mem_map] at hb
  obtain ⟨c, _, rfl⟩ := hb
  exact c.toNat_lt
theorem nbs_length (s : ByteArray) : (nbs s).length = s.size := by simp [nbs]
theorem nbs_get (s : ByteArray) (i : Nat) (h : i < s.size) : (nbs s)[i]'(by rw [nbs_length]; exact h) = (s[i]'h).toNat := by
  simp only [nbs, List.getElem_map]; rfl
theorem nat_or (a b k : Nat) (h : a < 2 ^ k) : a ||| (b * 2 ^ k) = a + b * 2 ^ k := by
  rw [← Nat.shiftLeft_eq, Nat.or_comm, ← Nat.shiftLeft_add_eq_or_of_lt h, Nat.add_comm]
theorem pow256 (i : Nat) : (256 : Nat) ^ i = 2 ^ (8 * i) := by rw [Nat.pow_mul]
theorem bits_or_u32_nat (a b : Nat) (ha : a < 4294967296) (hb : b < 4294967296) : bits .or .u32 (a : Int) (b : Int) = ((a ||| b : Nat) : Int) := by
  have hx : a ||| b < 2 ^ 32 := Nat.or_lt_two_pow (by omega) (by omega)
  have h1 : (BitVec.ofInt 32 (a : Int)).toNat = a := by
    rw [BitVec.ofInt_natCast, BitVec.toNat_ofNat]; exact Nat.mod_eq_of_lt (by omega)
  have h2 : (BitVec.ofInt 32 (b : Int)).toNat = b := by
    rw [BitVec.ofInt_natCast, BitVec.toNat_ofNat]; exact Nat.mod_eq_of_lt (by omega)
  show IntKind.u32.wrap ((BitVec.ofInt 32 (a : Int) ||| BitVec.ofInt 32 (b : Int)).toNat : Int) = _
  rw [BitVec.toNat_or, h1, h2, IntKind.wrap_u32]
  omega
theorem valN_take (t : ByteArray) (i : Nat) (ht : i < t.size) : valN ((nbs t).take i) < 2 ^ (8 * i) ∧ valN ((nbs t).take (i + 1)) = valN ((nbs t).take i) + (t[i]'ht).toNat * 2 ^ (8 * i) := by
  have hl : i < (nbs t).length := by rw [nbs_length]; exact ht
  have e : ((nbs t).take i).length = i := by rw [List.length_take]; omega
  have h1 := valN_lt ((nbs t).take i) fun b hb => nbs_lt t b (List.mem_of_mem_take hb)
  rw [e, pow256] at h1
  rw [List.take_succ_eq_append_getElem hl, valN_snoc, nbs_get t i ht, e, pow256]
  exact ⟨h1, rfl⟩
/-- One byte more, of four; of eight. -/
theorem or32 (t : ByteArray) (i : Nat) (hi : i < 4) (ht : i < t.size) : bits .or .u32 ((valN ((nbs t).take i) : Nat) : Int) (((t[i]'ht).toNat : Int) % 4294967296 * 2 ^ (8 * i) % 4294967296) = ((valN ((nbs t).take (i + 1)) : Nat) : Int) := by
  obtain ⟨h1, h6⟩ := valN_take t i ht
  rw [h6]
  generalize valN ((nbs t).take i) = a at *
  have hb := (t[i]'ht).toNat_lt
  generalize (t[i]'ht).toNat = b at *
  have h2 : b * 2 ^ (8 * i) < 4294967296 := by
    have h3 : (2 : Nat) ^ (8 * i) ≤ 2 ^ 24 := Nat.pow_le_pow_right (by omega) (by omega)
    have h4 : b * 2 ^ (8 * i) ≤ 255 * 2 ^ 24 := Nat.mul_le_mul (by omega) h3
    omega
  have h5 : a < 4294967296 := Nat.lt_of_lt_of_le h1 (by
    have h3 : (2 : Nat) ^ (8 * i) ≤ 2 ^ 32 := Nat.pow_le_pow_right (by omega) (by omega)
    omega)
  have e2 : ((b : Int) % 4294967296 * 2 ^ (8 * i) % 4294967296) = ((b * 2 ^ (8 * i) : Nat) : Int) := by
    have e3 : (b : Int) % 4294967296 = b := Int.emod_eq_of_lt (by omega) (by omega)
    have e4 : ((2 : Int) ^ (8 * i)) = ((2 ^ (8 * i) : Nat) : Int) := by simp
    rw [e3, e4, ← Int.natCast_mul, Int.emod_eq_of_lt (by omega) (by omega)]
  rw [e2, bits_or_u32_nat _ _ h5 h2, nat_or _ _ _ h1]
theorem or64 (t : ByteArray) (i : Nat) (hi : i < 8) (ht : i < t.size) : bits .or .u64 ((valN ((nbs t).take i) : Nat) : Int) (((t[i]'ht).toNat : Int) % 18446744073709551616 * 2 ^ (8 * i) % 18446744073709551616) = ((valN ((nbs t).take (i + 1)) : Nat) : Int) := by
  obtain ⟨h1, h6⟩ := valN_take t i ht
  rw [h6]
  generalize valN ((nbs t).take i) = a at *
  have hb := (t[i]'ht).toNat_lt
  generalize (t[i]'ht).toNat = b at *
  have h2 : b * 2 ^ (8 * i) < 18446744073709551616 := by
    have h3 : (2 : Nat) ^ (8 * i) ≤ 2 ^ 56 := Nat.pow_le_pow_right (by omega) (by omega)
    have h4 : b * 2 ^ (8 * i) ≤ 255 * 2 ^ 56 := Nat.mul_le_mul (by omega) h3
    omega
  have h5 : a < 18446744073709551616 := Nat.lt_of_lt_of_le h1 (by
    have h3 : (2 : Nat) ^ (8 * i) ≤ 2 ^ 64 := Nat.pow_le_pow_right (by omega) (by omega)
    omega)
  have e2 : ((b : Int) % 18446744073709551616 * 2 ^ (8 * i) % 18446744073709551616) = ((b * 2 ^ (8 * i) : Nat) : Int) := by
    have e3 : (b : Int) % 18446744073709551616 = b := Int.emod_eq_of_lt (by omega) (by omega)
    have e4 : ((2 : Int) ^ (8 * i)) = ((2 ^ (8 * i) : Nat) : Int) := by simp
    rw [e3, e4, ← Int.natCast_mul, Int.emod_eq_of_lt (by omega) (by omega)]
  rw [e2, bits_or_u64_nat _ _ h5 h2, nat_or _ _ _ h1]
end Go.Pv

/- A reader of bytes: what its methods do. -/
namespace Go.Pv
open Go Go.Proofs Go.RowKit
set_option maxHeartbeats 8000000
set_option maxRecDepth 100000
set_option linter.unusedVariables false
set_option linter.unusedSimpArgs false
/-- The panic of bytes that are not enough. -/
abbrev endP : List PanicEntry := [{ v := .iface 75 (.agg #[]), recovered := false }]
/-- A reader's bytes. -/
def Rd (br : Nat) (s : ByteArray) (w : World) : Prop := w.heap[br]? = some (.cells #[.string s] 79 (0, 0))
/-- All but one block stays. -/
structure OffR (br : Nat) (w w' : World) : Prop where
  os : w'.os = w.os
  tape : w'.tape = w.tape
  output : w'.output = w.output
  size : w.heap.size ≤ w'.heap.size
  block : ∀ k, k < w.heap.size → k ≠ br → w'.heap[k]? = w.heap[k]?
theorem OffR.refl (br : Nat) (w : World) : OffR br w w := ⟨rfl, rfl, rfl, Nat.le_refl _, fun _ _ _ => rfl⟩
theorem OffR.trans {br : Nat} {a b c : World} (h : OffR br a b) (k : OffR br b c) : OffR br a c :=
  ⟨k.os.trans h.os, k.tape.trans h.tape, k.output.trans h.output, Nat.le_trans h.size k.size, fun i hi hb => (k.block i (Nat.lt_of_lt_of_le hi h.size) hb).trans (h.block i hi hb)⟩
theorem OffR.of {br : Nat} {a b : World} (h : Below a.heap.size a b) : OffR br a b := ⟨h.os, h.tape, h.output, h.size, fun k hk _ => h.block k hk⟩
theorem Rd.cell {br : Nat} {s : ByteArray} {w : World} (h : Rd br s w) : w.cell? ⟨br, 0, none⟩ = some (.string s) := by rw [Lib.cell_of_heap h]; rfl
theorem Rd.frozen {br : Nat} {s : ByteArray} {w : World} (h : Rd br s w) : w.frozen? ⟨br, 0, none⟩ = false := Lib.frozen_of_heap h 0
theorem Rd.lt {br : Nat} {s : ByteArray} {w : World} (h : Rd br s w) : br < w.heap.size := (Array.getElem?_eq_some_iff.1 h).1
theorem Rd.set {br : Nat} {s : ByteArray} {w : World} (h : Rd br s w) (r : ByteArray) : Rd br r (w.setCell ⟨br, 0, none⟩ (.string r)) ∧ OffR br w (w.setCell ⟨br, 0, none⟩ (.string r)) := by
  have h' : w.heap[br]? = some (.cells #[.string s] 79 (0, 0)) := h
  refine ⟨?_, rfl, rfl, rfl, by simp [World.setCell], fun k _ hk => Below.heap_setCell _ _ _ _ hk⟩
  show (w.setCell ⟨br, 0, none⟩ (.string r)).heap[br]? = _
  simp [World.setCell, Array.getElem?_modify, h']
theorem Rd.below {br : Nat} {s : ByteArray} {w w' : World} (h : Rd br s w) (hb : Below w.heap.size w w') : Rd br s w' := (hb.block br h.lt).trans h
/-- What a reading comes to. -/
def RdPost (br : Nat) (w : World) (o : Option (Value × ByteArray)) (e : Ending) (w' : World) : Prop :=
  OffR br w w' ∧ match o with
  | some (v, r) => e = .returned v ∧ Rd br r w'
  | none => e = .panicked endP
theorem take_any (br : Nat) (s : ByteArray) (n : Int) (w : World) (h : Rd br s w) :
    Calls Try.prog 45 #[.pointer (some ⟨br, 0, none⟩), .int .i64 n] w (RdPost br w ((takeB n s).map fun p => (.string p.1, p.2))) := by
  have hc := h.cell
  have hf := h.frozen
  go_enter Try.func45, Try.ntmps45
  by_cases h0 : n < 0
  · have e : takeB n s = none := by unfold takeB; rw [if_neg (by omega)]
    rw [e]
    go_wp2
    exact ⟨rfl, OffR.refl _ _, rfl⟩
  · by_cases h1 : n > (s.size : Int)
    · have e : takeB n s = none := by unfold takeB; rw [if_neg (by omega)]
      rw [e]
      go_wp2
      exact ⟨rfl, OffR.refl _ _, rfl⟩
    · have h2 : (0 : Int) ≤ n ∧ n ≤ (s.size : Int) := by omega
      have e : takeB n s = some (s.extract 0 n.toNat, s.extract n.toNat s.size) := by unfold takeB; rw [if_pos h2]
      rw [e]
      go_wp2
      go_ret
      exact ⟨(h.set _).2, rfl, (h.set _).1⟩
end Go.Pv

/- A reader's numbers. -/
namespace Go.Pv
open Go Go.Proofs Go.RowKit
set_option maxHeartbeats 8000000
set_option maxRecDepth 100000
set_option linter.unusedVariables false
set_option linter.unusedSimpArgs false
theorem takeB_size {n : Int} {s t r : ByteArray} (h : takeB n s = some (t, r)) : (t.size : Int) = n ∧ r.size + t.size = s.size := by
  unfold takeB at h
  split at h
  · rename_i h1
    cases h
    rw [ByteArray.size_extract, ByteArray.size_extract]; omega
  · cases h
theorem num_rd (br : Nat) (s : ByteArray) (w : World) (h : Rd br s w) :
    Calls Try.prog 46 #[.pointer (some ⟨br, 0, none⟩)] w (RdPost br w ((numB s).map fun p => (.int .i64 p.1, p.2))) := by
  have H := take_any br s 4 w h
  cases ht : takeB 4 s with
  | none =>
    have e : numB s = none := by unfold numB; rw [ht]
    rw [e]
    rw [ht] at H
    go_enter Try.func46, Try.ntmps46
    go_wp2_with (go_at_call 45; go_loud (refine H.mono ?_))
    rintro e w1 ⟨hO, hp⟩
    have hp : e = .panicked endP := hp
    subst hp
    exact ⟨rfl, hO, rfl⟩
  | some p =>
    obtain ⟨t, r⟩ := p
    have e : numB s = some (IntKind.i32.wrap (valN (nbs t)), r) := by unfold numB; rw [ht]
    rw [e]
    rw [ht] at H
    go_enter Try.func46, Try.ntmps46
    go_wp2_with (go_at_call 45; go_loud (refine H.mono ?_))
    rintro e w1 ⟨hO, he, hR⟩
    have he : e = .returned (.string t) := he
    subst he
    go_wp2
    go_loopw [4, 8] (fun v j wr => ∃ i : Nat, v = .int .u32 (valN ((nbs t).take i)) ∧ j = .int .i64 i ∧ i ≤ 4 ∧ wr = w1)
      (fun _ j _ => (4 - RowKit.intOf j).toNat)
    case atStart => exact ⟨0, rfl, rfl, by omega, rfl⟩
    case round =>
      obtain ⟨i, rfl, rfl, hi, rfl⟩ := hrel
      have hts : t.size = 4 := by have := (takeB_size ht).1; omega
      by_cases hik : i < 4
      · have hlt : (i : Int) < 4 := by omega
        have hin : (0 : Int) ≤ (i : Int) ∧ (i : Int) < (t.size : Int) := ⟨by omega, by omega⟩
        have hs8 : w64 (8 * (i : Int)) = 8 * (i : Int) := by rw [w64_id] <;> omega
        have hsh : (0 : Int) ≤ w64 (8 * (i : Int)) := by omega
        go_wp2
        have hw : w64 ((i : Int) + 1) = ((i + 1 : Nat) : Int) := by rw [w64_id] <;> omega
        refine ⟨⟨i + 1, ?_, by rw [hw], by omega, trivial⟩, ?_⟩
        · exact congrArg (Value.int .u32) (or32 t i hik (by omega))
        · rw [hw]; simp only [intOf]; omega
      · have : i = 4 := by omega
        subst this
        have ha : (nbs t).take 4 = nbs t := List.take_of_length_le (by rw [nbs_length]; omega)
        rw [ha]
        go_wp2
        go_ret
        refine ⟨hO, ?_, hR⟩
        have h32 : IntKind.i32.wrap (valN (nbs t)) = wrap32 (valN (nbs t)) := by simp [wrap32, IntKind.wrap_i32]
        rw [h32]
        have hr : -2147483648 ≤ wrap32 (valN (nbs t)) ∧ wrap32 (valN (nbs t)) < 2147483648 := by unfold wrap32; omega
        rw [w64_id] <;> first | rfl | omega
theorem bits_rd (br : Nat) (s : ByteArray) (w : World) (h : Rd br s w) :
    Calls Try.prog 61 #[.pointer (some ⟨br, 0, none⟩)] w (RdPost br w ((bitsB s).map fun p => (.int .i64 p.1, p.2))) := by
  have H := take_any br s 8 w h
  cases ht : takeB 8 s with
  | none =>
    have e : bitsB s = none := by unfold bitsB; rw [ht]
    rw [e]
    rw [ht] at H
    go_enter Try.func61, Try.ntmps61
    go_wp2_with (go_at_call 45; go_loud (refine H.mono ?_))
    rintro e w1 ⟨hO, hp⟩
    have hp : e = .panicked endP := hp
    subst hp
    exact ⟨rfl, hO, rfl⟩
  | some p =>
    obtain ⟨t, r⟩ := p
    have e : bitsB s = some (IntKind.i64.wrap (valN (nbs t)), r) := by unfold bitsB; rw [ht]
    rw [e]
    rw [ht] at H
    go_enter Try.func61, Try.ntmps61
    go_wp2_with (go_at_call 45; go_loud (refine H.mono ?_))
    rintro e w1 ⟨hO, he, hR⟩
    have he : e = .returned (.string t) := he
    subst he
    go_wp2
    go_loopw [4, 8] (fun v j wr => ∃ i : Nat, v = .int .u64 (valN ((nbs t).take i)) ∧ j = .int .i64 i ∧ i ≤ 8 ∧ wr = w1)
      (fun _ j _ => (8 - RowKit.intOf j).toNat)
    case atStart => exact ⟨0, rfl, rfl, by omega, rfl⟩
    case round =>
      obtain ⟨i, rfl, rfl, hi, rfl⟩ := hrel
      have hts : t.size = 8 := by have := (takeB_size ht).1; omega
      by_cases hik : i < 8
      · have hlt : (i : Int) < 8 := by omega
        have hin : (0 : Int) ≤ (i : Int) ∧ (i : Int) < (t.size : Int) := ⟨by omega, by omega⟩
        have hs8 : w64 (8 * (i : Int)) = 8 * (i : Int) := by rw [w64_id] <;> omega
        have hsh : (0 : Int) ≤ w64 (8 * (i : Int)) := by omega
        go_wp2
        have hw : w64 ((i : Int) + 1) = ((i + 1 : Nat) : Int) := by rw [w64_id] <;> omega
        refine ⟨⟨i + 1, ?_, by rw [hw], by omega, trivial⟩, ?_⟩
        · exact congrArg (Value.int .u64) (or64 t i hik (by omega))
        · rw [hw]; simp only [intOf]; omega
      · have : i = 8 := by omega
        subst this
        have ha : (nbs t).take 8 = nbs t := List.take_of_length_le (by rw [nbs_length]; omega)
        rw [ha]
        go_wp2
        go_ret
        exact ⟨hO, rfl, hR⟩
theorem count_rd (br : Nat) (s : ByteArray) (size : Nat) (hs0 : 0 < size) (hs1 : size ≤ 12) (hsz : s.size ≤ big) (w : World) (h : Rd br s w) :
    Calls Try.prog 47 #[.pointer (some ⟨br, 0, none⟩), .int .i64 size] w (RdPost br w ((cntB size s).map fun p => (.int .i64 p.1, p.2))) := by
  have H := num_rd br s w h
  cases ht : numB s with
  | none =>
    have e : cntB size s = none := by unfold cntB; rw [ht]
    rw [e]
    rw [ht] at H
    go_enter Try.func47, Try.ntmps47
    go_wp2_with (go_at_call 46; go_loud (refine H.mono ?_))
    rintro e w1 ⟨hO, hp⟩
    have hp : e = .panicked endP := hp
    subst hp
    exact ⟨rfl, hO, rfl⟩
  | some p =>
    obtain ⟨n, r⟩ := p
    have hrs : r.size ≤ big := by
      unfold numB at ht
      split at ht
      · rename_i t r' ht'
        cases ht
        have := (takeB_size ht').2; omega
      · cases ht
    have hnz : ¬ (size : Int) = 0 := by omega
    have hq : w64 ((r.size : Int) / (size : Int)) = ((r.size / size : Nat) : Int) := by
      rw [show (r.size : Int) / (size : Int) = ((r.size / size : Nat) : Int) from rfl]
      have : r.size / size ≤ r.size := Nat.div_le_self _ _
      generalize r.size / size = k at *
      unfold big at hrs
      rw [w64_id] <;> omega
    rw [ht] at H
    cases hb : (decide (n < 0) || decide (w64 ((r.size : Int) / (size : Int)) < n)) with
    | true =>
      have e : cntB size s = none := by
        unfold cntB; rw [ht]; refine if_neg ?_
        rw [hq] at hb
        simp only [Bool.or_eq_true, decide_eq_true_eq] at hb
        omega
      rw [e]
      clear hq e
      go_enter Try.func47, Try.ntmps47
      go_wp2_with (go_at_call 46; go_loud (refine H.mono ?_))
      rintro e w1 ⟨hO, he, hR⟩
      have he : e = .returned (.int .i64 n) := he
      subst he
      have hc := hR.cell
      go_wp2
      all_goals exact ⟨rfl, hO, rfl⟩
    | false =>
      have e : cntB size s = some (n.toNat, r) ∧ 0 ≤ n := by
        rw [hq] at hb
        simp only [Bool.or_eq_false_iff, decide_eq_false_iff_not] at hb
        refine ⟨?_, by omega⟩
        unfold cntB; rw [ht]; refine if_pos ?_
        omega
      rw [e.1]
      have hn : ((n.toNat : Nat) : Int) = n := Int.toNat_of_nonneg e.2
      clear hq e
      go_enter Try.func47, Try.ntmps47
      go_wp2_with (go_at_call 46; go_loud (refine H.mono ?_))
      rintro e w1 ⟨hO, he, hR⟩
      have he : e = .returned (.int .i64 n) := he
      subst he
      have hc := hR.cell
      go_wp2
      go_ret
      exact ⟨hO, by rw [hn]; rfl, hR⟩
end Go.Pv

/- A reader's lists. -/
namespace Go.Pv
open Go Go.Proofs Go.RowKit
set_option maxHeartbeats 8000000
set_option maxRecDepth 100000
set_option linter.unusedVariables false
set_option linter.unusedSimpArgs false
theorem manyB_step {α : Type} (f : ByteArray → Option (α × ByteArray)) {n i : Nat} (hi : i < n) {s0 s : ByteArray} {l : List α} (h : manyB f n s0 = (manyB f (n - i) s).map fun p => (l ++ p.1, p.2)) :
    (f s = none → manyB f n s0 = none) ∧ ∀ x r, f s = some (x, r) → manyB f n s0 = (manyB f (n - (i + 1)) r).map fun p => ((l ++ [x]) ++ p.1, p.2) := by
  rw [h, show n - i = (n - (i + 1)) + 1 by omega]
  refine ⟨fun e => by rw [manyB, e]; rfl, fun x r e => ?_⟩
  rw [manyB, e]
  dsimp only
  cases manyB f (n - (i + 1)) r with
  | none => rfl
  | some p => simp
theorem numB_size {s r : ByteArray} {n : Int} (h : numB s = some (n, r)) : r.size ≤ s.size := by
  unfold numB at h
  split at h
  · rename_i t r' ht'
    cases h
    have := (takeB_size ht').2; omega
  · cases h
theorem cntB_size {size : Nat} {s r : ByteArray} {n : Nat} (h : cntB size s = some (n, r)) : r.size ≤ s.size ∧ n ≤ r.size / size := by
  unfold cntB at h
  split at h
  · rename_i m r' h'
    split at h
    · rename_i hc
      cases h
      exact ⟨numB_size h', by omega⟩
    · cases h
  · cases h
theorem infoInt : (Try.prog.info? 3).map (fun i => (i.zero, i.size, i.bytes)) = some (some (.int .i64 0), 1, 8) := by kernel_rfl
/-- A row of numbers, one's own. -/
def IntRow (B : Nat) (w : World) (u : Value) (xs : List Int) : Prop := w.ownsRow B 3 1 u xs.length (xs.map (Value.int .i64))
theorem IntRow.nil (B : Nat) (w : World) : IntRow B w (.slice none 0 0) [] := World.ownsRow_nil w B 3 1

theorem OffR.grown {br B : Nat} {w0 w w' : World} {v : Value} (h : OffR br w0 w) (hB : w0.heap.size ≤ B) (hown : ∀ k, v.ownBlock = some k → B ≤ k ∧ k < w.heap.size) (g : w.grownBy w' v.ownBlock) : OffR br w0 w' :=
  ⟨g.os.trans h.os, g.tape.trans h.tape, g.output.trans h.output, Nat.le_trans h.size g.size, fun k hk hne =>
    (g.block k (Nat.lt_of_lt_of_le hk h.size) fun e => by have := (hown k e.symm).1; omega).trans (h.block k hk hne)⟩
theorem OffR.alloc {br : Nat} {w0 w : World} (h : OffR br w0 w) (o : Obj) : OffR br w0 (w.alloc o) :=
  ⟨h.os, h.tape, h.output, by have := h.size; simp; omega, fun k hk hne => (Lib.alloc_old w o k (Nat.lt_of_lt_of_le hk h.size)).trans (h.block k hk hne)⟩
/-- What a caller's steps leave: a row of one's own lies elsewhere. -/
theorem ownsRow_off {br B : Nat} {w w' : World} {e : TypeId} {sz n : Nat} {v : Value} {us : List Value} (h : w.ownsRow B e sz v n us) (hbr : v.ownBlock ≠ some br) (hO : OffR br w w') : w'.ownsRow B e sz v n us :=
  ownsRow_same h fun g hg => hO.block g (h.lt g hg).2 fun e => by subst e; exact hbr hg
theorem own_off {br B : Nat} {s : ByteArray} {w : World} {e : TypeId} {sz n : Nat} {v : Value} {us : List Value} (h : w.ownsRow B e sz v n us) (hR : Rd br s w) (he : e ≠ 79) : v.ownBlock ≠ some br := by
  intro hb
  rcases h.2 with ⟨rfl, _⟩ | ⟨g, cap, cur, rfl, _, hg, _⟩
  · cases hb
  · cases hb
    have := hR.symm.trans hg
    cases this
    exact he rfl
/-- What a list's reading comes to. -/
def LsPost (br : Nat) (w : World) (o : Option (List Int × ByteArray)) (e : Ending) (w' : World) : Prop :=
  OffR br w w' ∧ match o with
  | none => e = .panicked endP
  | some (l, r) => ∃ v, e = .returned v ∧ Rd br r w' ∧ IntRow w.heap.size w' v l
theorem list_rd (br : Nat) (s : ByteArray) (hsz : s.size ≤ big) (w : World) (h : Rd br s w) :
    Calls Try.prog 49 #[.pointer (some ⟨br, 0, none⟩)] w (LsPost br w (listB s)) := by
  obtain ⟨i0, hi, hz0, hz1, hz2⟩ := info_parts infoInt
  have H := count_rd br s 4 (by omega) (by omega) hsz w h
  cases ht : cntB 4 s with
  | none =>
    have e : listB s = none := by unfold listB; rw [ht]
    rw [e]
    rw [ht] at H
    go_enter Try.func49, Try.ntmps49
    go_wp2_with (go_at_call 47; go_loud (refine H.mono ?_))
    rintro e w1 ⟨hO, hp⟩
    have hp : e = .panicked endP := hp
    subst hp
    exact ⟨rfl, hO, rfl⟩
  | some p =>
    obtain ⟨n, r⟩ := p
    have hn := cntB_size ht
    have hnb : n * 8 ≤ 140737488355328 := by unfold big at hsz; omega
    have e : listB s = manyB numB n r := by unfold listB; rw [ht]
    rw [e]
    rw [ht] at H
    clear e ht hsz
    go_enter Try.func49, Try.ntmps49
    go_wp2_with (go_at_call 47; go_loud (refine H.mono ?_))
    rintro e w1 ⟨hO, he, hR⟩
    have he : e = .returned (.int .i64 n) := he
    subst he
    go_wp2
    go_loopw [3, 6] (fun u j wr => ∃ (i : Nat) (l : List Int) (si : ByteArray), j = .int .i64 i ∧ i ≤ n ∧ l.length = i ∧ manyB numB n r = ((manyB numB (n - i) si).map fun p => (l ++ p.1, p.2)) ∧ OffR br w wr ∧ Rd br si wr ∧ IntRow w.heap.size wr u l)
      (fun _ j _ => (n - RowKit.intOf j).toNat)
    case atStart => exact ⟨0, [], r, rfl, Nat.zero_le _, rfl, by cases manyB numB n r <;> simp, hO, hR, IntRow.nil _ _⟩
    case round =>
      obtain ⟨i, l, si, rfl, hin, hl, hm, hOi, hRi, hown⟩ := hrel
      by_cases hik : i < n
      · have hlt : (i : Int) < (n : Int) := by omega
        obtain ⟨m0, m1⟩ := manyB_step numB hik hm
        have H := num_rd br si wr hRi
        cases hx : numB si with
        | none =>
          rw [hx] at H
          have m0 := m0 hx
          go_wp2_with (go_at_call 46; go_loud (refine H.mono ?_))
          rintro e w2 ⟨hO2, hp⟩
          have hp : e = .panicked endP := hp
          subst hp
          go_wp2
          rw [m0]
          exact ⟨rfl, hOi.trans hO2, rfl⟩
        | some q =>
          obtain ⟨x, s2⟩ := q
          rw [hx] at H
          have m1 := m1 x s2 hx
          clear m0 hm
          go_wp2_with (go_at_call 46; go_loud (refine H.mono ?_))
          rintro e w2 ⟨hO2, he, hR2⟩
          have he : e = .returned (.int .i64 x) := he
          subst he
          have hbr := own_off hown hRi (by decide)
          have hown2 := ownsRow_off (show wr.ownsRow w.heap.size 3 1 _ l.length (l.map (Value.int .i64)) from hown) hbr hO2
          have hO3 := hOi.trans hO2
          go_wp2_with (at_builtin; refine wpList_append_own_at _ rfl _ _ 25 rfl w.heap.size 3 i0 (.int .i64 0) 1 8 Try.underlying25 hi hz0 hz1 hz2 rfl (by decide) _ _ _ rfl (hown2.alloc _) ⟨w2.heap.size, 0, none⟩ 1 1 [.int .i64 x] rfl rfl ?c1 ?c2 ?c3 ?c4 ?c5 ?_)
          case c1 =>
            intro j u hj
            match j, hj with
            | 0, hj => simp at hj; subst hj; simp [Addr.add]
          case c2 => intro u hu; simp at hu; subst hu; rfl
          case c3 => unfold maxLen; omega
          case c4 => omega
          case c5 => have := hO3.size; simp; omega
          intro v' w3 hown3 hgrow _ hblk
          have hlt3 := (hown2.alloc (.cells #[.int .i64 x] 3)).lt
          have hO4 : OffR br w w3 := (hO3.alloc _).grown (Nat.le_refl _) hlt3 hgrow
          have hR3 : Rd br s2 w3 := (hgrow.block br (by have := hR2.lt; simp; omega) (fun e => hbr e.symm)).trans ((Lib.alloc_old w2 _ br hR2.lt).trans hR2)
          go_wp2
          have hw : w64 ((i : Int) + 1) = ((i + 1 : Nat) : Int) := by rw [w64_id] <;> omega
          refine ⟨⟨i + 1, l ++ [x], s2, by rw [hw], by omega, by simp [hl], m1, hO4, hR3, ?_⟩, ?_⟩
          · unfold IntRow; rw [List.length_append, List.map_append, hl]; exact hown3
          · rw [hw]; simp only [intOf]; omega
      · have : i = n := by omega
        subst this
        have hfin : manyB numB i r = some (l, si) := by rw [hm, Nat.sub_self]; simp [manyB]
        clear hm
        go_wp2
        go_ret
        refine ⟨hOi, ?_⟩
        rw [hfin]
        exact ⟨_, rfl, hRi, hown⟩
end Go.Pv

/- A reader's objects. -/
namespace Go.Pv
open Go Go.Proofs Go.RowKit
set_option maxHeartbeats 4000000
set_option maxRecDepth 100000
set_option linter.unusedVariables false
set_option linter.unusedSimpArgs false
/-- What an object's reading comes to. -/
def ObPost (br : Nat) (w : World) (o : Option (GObj × ByteArray)) (e : Ending) (w' : World) : Prop :=
  OffR br w w' ∧ match o with
  | none => e = .panicked endP
  | some (ob, r) => ∃ u, e = .returned (.agg (obV ob u)) ∧ Rd br r w' ∧ IntRow w.heap.size w' u ob.Slots
theorem RdPost.none {br : Nat} {w : World} {e : Ending} {w' : World} {α : Type} {f : α → Value × ByteArray} (h : RdPost br w ((Option.none : Option α).map f) e w') : OffR br w w' ∧ e = .panicked endP := h
theorem RdPost.some {br : Nat} {w : World} {e : Ending} {w' : World} {α : Type} {f : α → Value × ByteArray} {a : α} (h : RdPost br w ((Option.some a).map f) e w') : OffR br w w' ∧ e = .returned (f a).1 ∧ Rd br (f a).2 w' := h
theorem Rd.alloc {br : Nat} {s : ByteArray} {w : World} (h : Rd br s w) (o : Obj) : Rd br s (w.alloc o) := (Lib.alloc_old w o br h.lt).trans h
abbrev zO : Array Value := #[.int .i64 0, .int .i64 0, .slice none 0 0, .string .empty, .int .i64 0, .int .i64 0]

theorem OffR.cells {br k : Nat} {w w' : World} {cs : Array Value} {T : TypeId} (h : OffR br w w') (hk : w.heap[k]? = some (.cells cs T (0, 0))) (hb : k ≠ br) : w'.heap[k]? = some (.cells cs T (0, 0)) :=
  (h.block k (Array.getElem?_eq_some_iff.1 hk).1 hb).trans hk
theorem zcells {W : World} {b : Nat} {cs : Array Value} (h : W.heap[b]? = some (.cells cs 41 (0, 0))) (j : Nat) (v : Value) (hj : cs[j]? = some v) : W.cell? ⟨b, j, none⟩ = some v := by
  rw [Lib.cell_of_heap h]; exact hj
theorem OffR.set {br b j : Nat} {w0 w : World} (h : OffR br w0 w) (hb : w0.heap.size ≤ b) (v : Value) : OffR br w0 (w.setCell ⟨b, j, none⟩ v) :=
  ⟨h.os, h.tape, h.output, by have := h.size; simp [World.setCell]; omega, fun k hk hne => (heap_setCell_other w ⟨b, j, none⟩ k v (by show k ≠ b; omega)).trans (h.block k hk hne)⟩
theorem Rd.other {br b j : Nat} {s : ByteArray} {w : World} (h : Rd br s w) (hb : br ≠ b) (v : Value) : Rd br s (w.setCell ⟨b, j, none⟩ v) := (heap_setCell_other w ⟨b, j, none⟩ br v hb).trans h
theorem IntRow.set {B b j : Nat} {w : World} {u : Value} {xs : List Int} (h : IntRow B w u xs) (hb : u.ownBlock ≠ some b) (v : Value) : IntRow B (w.setCell ⟨b, j, none⟩ v) u xs :=
  ownsRow_same h fun g hg => heap_setCell_other w ⟨b, j, none⟩ g v (fun e => by subst e; exact hb hg)
theorem own_ne {B b : Nat} {w : World} {e T : TypeId} {cs : Array Value} {sz n : Nat} {v : Value} {us : List Value} (h : w.ownsRow B e sz v n us) (hb : w.heap[b]? = some (.cells cs T (0, 0))) (he : e ≠ T) : v.ownBlock ≠ some b := by
  intro hq
  rcases h.2 with ⟨rfl, _⟩ | ⟨g, cap, cur, rfl, _, hg, _⟩
  · cases hq
  · cases hq
    have := hb.symm.trans hg
    cases this
    exact he rfl
theorem IntRow.le {B B' : Nat} {w : World} {u : Value} {xs : List Int} (h : IntRow B w u xs) (hb : B' ≤ B) : IntRow B' w u xs := by
  refine ⟨h.1, ?_⟩
  rcases h.2 with h0 | ⟨g, cap, cur, hv, hg, r⟩
  · exact .inl h0
  · exact .inr ⟨g, cap, cur, hv, Nat.le_trans hb hg, r⟩
/-- What holds at a reading's end. -/
structure Fin' (w : World) (br : Nat) (r : ByteArray) (u : Value) (xs : List Int) (W : World) : Prop where
  off : OffR br w W
  rd : Rd br r W
  row : IntRow w.heap.size W u xs
theorem Fin'.set {w : World} {br : Nat} {r : ByteArray} {u : Value} {xs : List Int} {W : World} {b j : Nat} {v : Value} (h : Fin' w br r u xs W) (hb : w.heap.size ≤ b) (hbr : br ≠ b) (hu : u.ownBlock ≠ some b) : Fin' w br r u xs (W.setCell ⟨b, j, none⟩ v) :=
  ⟨h.off.set hb v, h.rd.other hbr v, h.row.set hu v⟩
theorem Fin'.alloc {w : World} {br : Nat} {r : ByteArray} {u : Value} {xs : List Int} {W : World} (h : Fin' w br r u xs W) (o : Obj) : Fin' w br r u xs (W.alloc o) :=
  ⟨h.off.alloc o, h.rd.alloc o, ownsRow_same h.row fun g hg => Lib.alloc_old W o g (h.row.lt g hg).2⟩
theorem Fin'.post {s r : ByteArray} {w : World} {br : Nat} {u : Value} {W : World} {ob : GObj} (e : objR s = some (ob, r)) (h : Fin' w br r u ob.Slots W) : ObPost br w (objR s) (.returned (.agg (obV ob u))) W := by
  rw [e]; exact ⟨h.off, u, rfl, h.rd, h.row⟩
theorem res48 {a : Act} {W : World} {b : Nat} {us : Array Value} (ht : a.tmps.getD 2 undef = .pointer (some ⟨b, 0, none⟩)) (hu : us.size = 6) (h : W.heap[b]? = some (.cells us 41 (0, 0))) : (results Try.f48 a.tmps).run Try.prog W = .ok (.agg us) W := by
  have h1 := (run_loadVar_cells (P := Try.prog) (w := W) (ty := 41) (b := b) (o := 0) (us := us.toList) (by kernel_rfl) (by rw [Array.length_toList, hu]; kernel_rfl) (fun j u hj => by rw [Nat.zero_add, Lib.cell_of_heap h]; simpa using hj)).1 (by kernel_rfl)
  rw [Array.toArray_toList] at h1
  have ht' : a.tmps[2]?.getD undef = .pointer (some ⟨b, 0, none⟩) := by simpa using ht
  simp [results, Try.results48, ht', asAddr, h1]
theorem post48 {s r : ByteArray} {w : World} {br : Nat} {u : Value} {W : World} {ob : GObj} {a : Act} (e : objR s = some (ob, r)) (ht : a.tmps.getD 2 undef = .pointer (some ⟨w.heap.size, 0, none⟩)) (hd : a.defers = []) (hW : W.heap[w.heap.size]? = some (.cells (obV ob u) 41 (0, 0))) (h : Fin' w br r u ob.Slots W) :
    bodyPost Try.prog Try.f48 (ObPost br w (objR s)) .ret a W := ⟨hd, _, res48 ht rfl hW, h.post e⟩
theorem object_rd (br : Nat) (s : ByteArray) (hsz : s.size ≤ big) (w : World) (h : Rd br s w) :
    Calls Try.prog 48 #[.pointer (some ⟨br, 0, none⟩)] w (ObPost br w (objR s)) := by
  have hlt := h.lt
  have h0 := h.alloc (.cells zO 41)
  have O0 : OffR br w (w.alloc (.cells zO 41)) := (OffR.refl br w).alloc _
  have x0 : (w.alloc (.cells zO 41)).heap[w.heap.size]? = some (.cells zO 41 (0, 0)) := heap_alloc_new w _
  have H := num_rd br s _ h0
  cases hc : numB s with
  | none =>
    have e0 : objR s = none := by unfold objR; rw [hc]
    rw [hc] at H
    go_enter Try.func48, Try.ntmps48
    go_wp2_with (go_at_call 46; go_loud (refine H.mono ?_))
    intro e w1 hp
    obtain ⟨hO, rfl⟩ := hp.none
    exact ⟨rfl, O0.trans hO, by first | rfl | (rw [e0]; rfl)⟩
  | some p =>
    obtain ⟨c, s1⟩ := p
    rw [hc] at H
    have hs1 := numB_size hc
    go_enter Try.func48, Try.ntmps48
    go_wp2_with (go_at_call 46; go_loud (refine H.mono ?_))
    intro e w1 hp
    obtain ⟨hO, he, h1⟩ := hp.some
    clear hp H
    have he : e = .returned (.int .i64 c) := he
    subst he
    have h1 : Rd br s1 w1 := h1
    have O1 := O0.trans hO
    have x1 := hO.cells x0 (by omega)
    clear x0 O0 hO h0
    have H := num_rd br s1 _ h1
    cases hk : numB s1 with
    | none =>
      have e0 : objR s = none := by unfold objR; rw [hc]; dsimp only; rw [hk]
      rw [hk] at H
      go_wp2_with (go_at_call 46; go_loud (refine H.mono ?_))
      intro e w2 hp
      obtain ⟨hO, rfl⟩ := hp.none
      exact ⟨rfl, O1.trans hO, by first | rfl | (rw [e0]; rfl)⟩
    | some p =>
      obtain ⟨k, s2⟩ := p
      rw [hk] at H
      have hs2 := numB_size hk
      go_wp2_with (go_at_call 46; go_loud (refine H.mono ?_))
      intro e w2 hp
      obtain ⟨hO, he, h2⟩ := hp.some
      clear hp H
      have he : e = .returned (.int .i64 k) := he
      subst he
      have h2 : Rd br s2 w2 := h2
      have O2 := O1.trans hO
      have x2 := hO.cells x1 (by omega)
      clear x1 O1 hO h1
      have H := num_rd br s2 _ h2
      cases hh : numB s2 with
      | none =>
        have e0 : objR s = none := by unfold objR; rw [hc]; dsimp only; rw [hk]; dsimp only; rw [hh]
        rw [hh] at H
        go_wp2_with (go_at_call 46; go_loud (refine H.mono ?_))
        intro e w3 hp
        obtain ⟨hO, rfl⟩ := hp.none
        exact ⟨rfl, O2.trans hO, by first | rfl | (rw [e0]; rfl)⟩
      | some p =>
        obtain ⟨ha, s3⟩ := p
        rw [hh] at H
        have hs3 := numB_size hh
        go_wp2_with (go_at_call 46; go_loud (refine H.mono ?_))
        intro e w3 hp
        obtain ⟨hO, he, h3⟩ := hp.some
        clear hp H
        have he : e = .returned (.int .i64 ha) := he
        subst he
        have h3 : Rd br s3 w3 := h3
        have O3 := O2.trans hO
        have x3 := hO.cells x2 (by omega)
        have hob : objR s = if k = 0 then match listB s3 with
          | none => none
          | some (l, r) => some (⟨c, k, l, .empty, 0, ha⟩, r)
        else if k = 1 then match numB s3 with
          | none => none
          | some (n, s4) => match takeB n s4 with
            | none => none
            | some (t, r) => some (⟨c, k, [], t, 0, ha⟩, r)
        else if k = 2 then match bitsB s3 with
          | none => none
          | some (b, r) => some (⟨c, k, [], .empty, b, ha⟩, r)
        else some (⟨c, k, [], .empty, 0, ha⟩, s3) := by
          unfold objR; rw [hc]; dsimp only; rw [hk]; dsimp only; rw [hh]
          rfl
        clear x2 O2 hO h2 hc hk hh
        have hls : w.heap.size < w3.heap.size := (Array.getElem?_eq_some_iff.1 x3).1
        have hne : ¬ w.heap.size = w3.heap.size := by omega
        have hne' : ¬ w3.heap.size = w.heap.size := by omega
        have y3 : (w3.alloc (.cells #[.int .i64 c, .int .i64 k, .slice none 0 0, .string ⟨#[]⟩, .int .i64 0, .int .i64 ha] 41)).heap[w.heap.size]? = some (.cells zO 41 (0, 0)) := (Lib.alloc_old w3 _ _ hls).trans x3
        have z3 : (w3.alloc (.cells #[.int .i64 c, .int .i64 k, .slice none 0 0, .string ⟨#[]⟩, .int .i64 0, .int .i64 ha] 41)).heap[w3.heap.size]? = some (.cells #[.int .i64 c, .int .i64 k, .slice none 0 0, .string ⟨#[]⟩, .int .i64 0, .int .i64 ha] 41 (0, 0)) := heap_alloc_new w3 _
        by_cases e0 : k = 0
        · subst e0
          rw [if_pos rfl] at hob
          clear x3
          have hY := h3.alloc (.cells #[.int .i64 c, .int .i64 0, .slice none 0 0, .string ⟨#[]⟩, .int .i64 0, .int .i64 ha] 41)
          have OY := O3.alloc (.cells #[.int .i64 c, .int .i64 0, .slice none 0 0, .string ⟨#[]⟩, .int .i64 0, .int .i64 ha] 41)
          have H := list_rd br s3 (by omega) _ hY
          cases hx : listB s3 with
          | none =>
            rw [hx] at H hob
            go_wp2_with (go_at_call 49; go_loud (refine H.mono ?_))
            rintro e w5 ⟨hO, hp⟩
            have hp : e = .panicked endP := hp
            subst hp
            exact ⟨rfl, OY.trans hO, by first | rfl | (rw [hob]; rfl)⟩
          | some p =>
            obtain ⟨l, r⟩ := p
            rw [hx] at H hob
            have hob : objR s = some (⟨c, 0, l, .empty, 0, ha⟩, r) := hob
            go_wp2_with (go_at_call 49; go_loud (refine H.mono ?_))
            rintro e w5 ⟨hO, u, rfl, hR, hI⟩
            have hbn : ∀ b cs T, w5.heap[b]? = some (.cells cs T (0, 0)) → 3 ≠ T → u.ownBlock ≠ some b := fun b cs T hb hT => own_ne hI hb hT
            have y5 := hO.cells y3 (by omega)
            have z5 := hO.cells z3 (by omega)
            have r0 := zcells y5 0 _ rfl
            have r1 := zcells y5 1 _ rfl
            have r2 := zcells y5 2 _ rfl
            have r3 := zcells y5 3 _ rfl
            have r4 := zcells y5 4 _ rfl
            have r5 := zcells y5 5 _ rfl
            have q0 := zcells z5 0 _ rfl
            have q1 := zcells z5 1 _ rfl
            have q2 := zcells z5 2 _ rfl
            have q3 := zcells z5 3 _ rfl
            have q4 := zcells z5 4 _ rfl
            have q5 := zcells z5 5 _ rfl
            have rf : ∀ j, w5.frozen? ⟨w.heap.size, j, none⟩ = false := fun j => Lib.frozen_of_heap y5 j
            have qf : ∀ j, w5.frozen? ⟨w3.heap.size, j, none⟩ = false := fun j => Lib.frozen_of_heap z5 j
            obtain ⟨A, cap, rfl⟩ : ∃ A cap, u = .slice A l.length cap := by
              rcases ownsRow_form hI with ⟨h1, h2⟩ | ⟨g, cap, h1, _⟩
              · exact ⟨none, 0, by rw [h1, h2]⟩
              · exact ⟨_, cap, h1⟩
            have hn0 := hbn _ _ _ y5 (by decide)
            have hn1 := hbn _ _ _ z5 (by decide)
            have F : Fin' w br r _ l w5 := ⟨OY.trans hO, hR, IntRow.le hI (by simp; omega)⟩
            have HX : Hid (w5.heap[w.heap.size]? = some (.cells zO 41 (0, 0))) := y5
            clear y3 z3 y5 z5 hI hR hO H OY hY hbn
            go_wp2
            have y5 := HX.out
            have y6 : (w5.setCell ⟨w3.heap.size, 2, none⟩ (.slice A l.length cap)).heap[w.heap.size]? = some (.cells zO 41 (0, 0)) := (heap_setCell_other _ _ _ _ hne).trans y5
            have X0 : ((w5.setCell ⟨w3.heap.size, 2, none⟩ (.slice A l.length cap)).setCell ⟨w.heap.size, 0, none⟩ (.int .i64 c)).heap[w.heap.size]? = some (.cells #[.int .i64 c, .int .i64 0, .slice none 0 0, .string ⟨#[]⟩, .int .i64 0, .int .i64 0] 41 (0, 0)) := heap_setCell_same _ _ 0 _ _ _ y6
            have X1 : (((w5.setCell ⟨w3.heap.size, 2, none⟩ (.slice A l.length cap)).setCell ⟨w.heap.size, 0, none⟩ (.int .i64 c)).setCell ⟨w.heap.size, 1, none⟩ (.int .i64 0)).heap[w.heap.size]? = some (.cells #[.int .i64 c, .int .i64 0, .slice none 0 0, .string ⟨#[]⟩, .int .i64 0, .int .i64 0] 41 (0, 0)) := heap_setCell_same _ _ 1 _ _ _ X0
            have X2 : ((((w5.setCell ⟨w3.heap.size, 2, none⟩ (.slice A l.length cap)).setCell ⟨w.heap.size, 0, none⟩ (.int .i64 c)).setCell ⟨w.heap.size, 1, none⟩ (.int .i64 0)).setCell ⟨w.heap.size, 2, none⟩ (.slice A l.length cap)).heap[w.heap.size]? = some (.cells #[.int .i64 c, .int .i64 0, .slice A l.length cap, .string ⟨#[]⟩, .int .i64 0, .int .i64 0] 41 (0, 0)) := heap_setCell_same _ _ 2 _ _ _ X1
            have X3 : (((((w5.setCell ⟨w3.heap.size, 2, none⟩ (.slice A l.length cap)).setCell ⟨w.heap.size, 0, none⟩ (.int .i64 c)).setCell ⟨w.heap.size, 1, none⟩ (.int .i64 0)).setCell ⟨w.heap.size, 2, none⟩ (.slice A l.length cap)).setCell ⟨w.heap.size, 3, none⟩ (.string ⟨#[]⟩)).heap[w.heap.size]? = some (.cells #[.int .i64 c, .int .i64 0, .slice A l.length cap, .string ⟨#[]⟩, .int .i64 0, .int .i64 0] 41 (0, 0)) := heap_setCell_same _ _ 3 _ _ _ X2
            have X4 : ((((((w5.setCell ⟨w3.heap.size, 2, none⟩ (.slice A l.length cap)).setCell ⟨w.heap.size, 0, none⟩ (.int .i64 c)).setCell ⟨w.heap.size, 1, none⟩ (.int .i64 0)).setCell ⟨w.heap.size, 2, none⟩ (.slice A l.length cap)).setCell ⟨w.heap.size, 3, none⟩ (.string ⟨#[]⟩)).setCell ⟨w.heap.size, 4, none⟩ (.int .i64 0)).heap[w.heap.size]? = some (.cells #[.int .i64 c, .int .i64 0, .slice A l.length cap, .string ⟨#[]⟩, .int .i64 0, .int .i64 0] 41 (0, 0)) := heap_setCell_same _ _ 4 _ _ _ X3
            have X5 : (((((((w5.setCell ⟨w3.heap.size, 2, none⟩ (.slice A l.length cap)).setCell ⟨w.heap.size, 0, none⟩ (.int .i64 c)).setCell ⟨w.heap.size, 1, none⟩ (.int .i64 0)).setCell ⟨w.heap.size, 2, none⟩ (.slice A l.length cap)).setCell ⟨w.heap.size, 3, none⟩ (.string ⟨#[]⟩)).setCell ⟨w.heap.size, 4, none⟩ (.int .i64 0)).setCell ⟨w.heap.size, 5, none⟩ (.int .i64 ha)).heap[w.heap.size]? = some (.cells #[.int .i64 c, .int .i64 0, .slice A l.length cap, .string ⟨#[]⟩, .int .i64 0, .int .i64 ha] 41 (0, 0)) := heap_setCell_same _ _ 5 _ _ _ X4
            refine post48 (u := .slice A l.length cap) hob rfl rfl X5 ?_
            repeat' (first | (with_reducible exact F) | with_reducible refine Fin'.set ?_ (by omega) (by omega) (by assumption) | with_reducible refine Fin'.alloc ?_ _)
        · have p0 : (k == 0) = false := by simpa using e0
          rw [if_neg e0] at hob
          by_cases e1 : k = 1
          · subst e1
            rw [if_pos rfl] at hob
            clear x3
            have hY := h3.alloc (.cells #[.int .i64 c, .int .i64 1, .slice none 0 0, .string ⟨#[]⟩, .int .i64 0, .int .i64 ha] 41)
            have OY := O3.alloc (.cells #[.int .i64 c, .int .i64 1, .slice none 0 0, .string ⟨#[]⟩, .int .i64 0, .int .i64 ha] 41)
            have H := num_rd br s3 _ hY
            cases hx : numB s3 with
            | none =>
              rw [hx] at H hob
              go_wp2_with (go_at_call 46; go_loud (refine H.mono ?_))
              intro e w5 hp
              obtain ⟨hO, rfl⟩ := hp.none
              exact ⟨rfl, OY.trans hO, by first | rfl | (rw [hob]; rfl)⟩
            | some p =>
              obtain ⟨n, s4⟩ := p
              rw [hx] at H hob
              dsimp only at hob
              have HB : Hid _ := hob
              clear hob
              go_wp2_with (go_at_call 46; go_loud (refine H.mono ?_))
              intro e w4 hp
              obtain ⟨hO, he, h4⟩ := hp.some
              have he : e = .returned (.int .i64 n) := he
              subst he
              have h4 : Rd br s4 w4 := h4
              have y4 := hO.cells y3 (by omega)
              have z4 := hO.cells z3 (by omega)
              have O4 := OY.trans hO
              clear hp H hO y3 z3
              have H := take_any br s4 n _ h4
              have hob := HB.out
              cases hx2 : takeB n s4 with
              | none =>
                rw [hx2] at H hob
                have hob : objR s = none := hob
                go_wp2_with (go_at_call 45; go_loud (refine H.mono ?_))
                intro e w5 hp
                obtain ⟨hO, rfl⟩ := hp.none
                exact ⟨rfl, O4.trans hO, by first | rfl | (rw [hob]; rfl)⟩
              | some p =>
                obtain ⟨t, r⟩ := p
                rw [hx2] at H hob
                have hob : objR s = some (⟨c, 1, [], t, 0, ha⟩, r) := hob
                go_wp2_with (go_at_call 45; go_loud (refine H.mono ?_))
                intro e w5 hp
                obtain ⟨hO, he, hR⟩ := hp.some
                have he : e = .returned (.string t) := he
                subst he
                have hR : Rd br r w5 := hR
                have y5 := hO.cells y4 (by omega)
                have z5 := hO.cells z4 (by omega)
                have O5 := O4.trans hO
                clear hp H hO y4 z4 O4 h4
                have r0 := zcells y5 0 _ rfl
                have r1 := zcells y5 1 _ rfl
                have r2 := zcells y5 2 _ rfl
                have r3 := zcells y5 3 _ rfl
                have r4 := zcells y5 4 _ rfl
                have r5 := zcells y5 5 _ rfl
                have q0 := zcells z5 0 _ rfl
                have q1 := zcells z5 1 _ rfl
                have q2 := zcells z5 2 _ rfl
                have q3 := zcells z5 3 _ rfl
                have q4 := zcells z5 4 _ rfl
                have q5 := zcells z5 5 _ rfl
                have rf : ∀ j, w5.frozen? ⟨w.heap.size, j, none⟩ = false := fun j => Lib.frozen_of_heap y5 j
                have qf : ∀ j, w5.frozen? ⟨w3.heap.size, j, none⟩ = false := fun j => Lib.frozen_of_heap z5 j
                have F : Fin' w br r (.slice none 0 0) [] w5 := ⟨O5, hR, IntRow.nil _ _⟩
                have HX : Hid (w5.heap[w.heap.size]? = some (.cells zO 41 (0, 0))) := y5
                clear y5 z5 hR O5 OY hY
                go_wp2
                have y5 := HX.out
                have y6 : (w5.setCell ⟨w3.heap.size, 3, none⟩ (.string t)).heap[w.heap.size]? = some (.cells zO 41 (0, 0)) := (heap_setCell_other _ _ _ _ hne).trans y5
                have X0 : ((w5.setCell ⟨w3.heap.size, 3, none⟩ (.string t)).setCell ⟨w.heap.size, 0, none⟩ (.int .i64 c)).heap[w.heap.size]? = some (.cells #[.int .i64 c, .int .i64 0, .slice none 0 0, .string ⟨#[]⟩, .int .i64 0, .int .i64 0] 41 (0, 0)) := heap_setCell_same _ _ 0 _ _ _ y6
                have X1 : (((w5.setCell ⟨w3.heap.size, 3, none⟩ (.string t)).setCell ⟨w.heap.size, 0, none⟩ (.int .i64 c)).setCell ⟨w.heap.size, 1, none⟩ (.int .i64 1)).heap[w.heap.size]? = some (.cells #[.int .i64 c, .int .i64 1, .slice none 0 0, .string ⟨#[]⟩, .int .i64 0, .int .i64 0] 41 (0, 0)) := heap_setCell_same _ _ 1 _ _ _ X0
                have X2 : ((((w5.setCell ⟨w3.heap.size, 3, none⟩ (.string t)).setCell ⟨w.heap.size, 0, none⟩ (.int .i64 c)).setCell ⟨w.heap.size, 1, none⟩ (.int .i64 1)).setCell ⟨w.heap.size, 2, none⟩ (.slice none 0 0)).heap[w.heap.size]? = some (.cells #[.int .i64 c, .int .i64 1, .slice none 0 0, .string ⟨#[]⟩, .int .i64 0, .int .i64 0] 41 (0, 0)) := heap_setCell_same _ _ 2 _ _ _ X1
                have X3 : (((((w5.setCell ⟨w3.heap.size, 3, none⟩ (.string t)).setCell ⟨w.heap.size, 0, none⟩ (.int .i64 c)).setCell ⟨w.heap.size, 1, none⟩ (.int .i64 1)).setCell ⟨w.heap.size, 2, none⟩ (.slice none 0 0)).setCell ⟨w.heap.size, 3, none⟩ (.string t)).heap[w.heap.size]? = some (.cells #[.int .i64 c, .int .i64 1, .slice none 0 0, .string t, .int .i64 0, .int .i64 0] 41 (0, 0)) := heap_setCell_same _ _ 3 _ _ _ X2
                have X4 : ((((((w5.setCell ⟨w3.heap.size, 3, none⟩ (.string t)).setCell ⟨w.heap.size, 0, none⟩ (.int .i64 c)).setCell ⟨w.heap.size, 1, none⟩ (.int .i64 1)).setCell ⟨w.heap.size, 2, none⟩ (.slice none 0 0)).setCell ⟨w.heap.size, 3, none⟩ (.string t)).setCell ⟨w.heap.size, 4, none⟩ (.int .i64 0)).heap[w.heap.size]? = some (.cells #[.int .i64 c, .int .i64 1, .slice none 0 0, .string t, .int .i64 0, .int .i64 0] 41 (0, 0)) := heap_setCell_same _ _ 4 _ _ _ X3
                have X5 : (((((((w5.setCell ⟨w3.heap.size, 3, none⟩ (.string t)).setCell ⟨w.heap.size, 0, none⟩ (.int .i64 c)).setCell ⟨w.heap.size, 1, none⟩ (.int .i64 1)).setCell ⟨w.heap.size, 2, none⟩ (.slice none 0 0)).setCell ⟨w.heap.size, 3, none⟩ (.string t)).setCell ⟨w.heap.size, 4, none⟩ (.int .i64 0)).setCell ⟨w.heap.size, 5, none⟩ (.int .i64 ha)).heap[w.heap.size]? = some (.cells #[.int .i64 c, .int .i64 1, .slice none 0 0, .string t, .int .i64 0, .int .i64 ha] 41 (0, 0)) := heap_setCell_same _ _ 5 _ _ _ X4
                refine post48 (u := .slice none 0 0) hob rfl rfl X5 ?_
                repeat' (first | (with_reducible exact F) | with_reducible refine Fin'.set ?_ (by omega) (by omega) (by simp [Value.ownBlock]) | with_reducible refine Fin'.alloc ?_ _)
          · have p1 : (k == 1) = false := by simpa using e1
            rw [if_neg e1] at hob
            by_cases e2 : k = 2
            · subst e2
              rw [if_pos rfl] at hob
              clear x3
              have hY := h3.alloc (.cells #[.int .i64 c, .int .i64 2, .slice none 0 0, .string ⟨#[]⟩, .int .i64 0, .int .i64 ha] 41)
              have OY := O3.alloc (.cells #[.int .i64 c, .int .i64 2, .slice none 0 0, .string ⟨#[]⟩, .int .i64 0, .int .i64 ha] 41)
              have H := bits_rd br s3 _ hY
              cases hx : bitsB s3 with
              | none =>
                rw [hx] at H hob
                go_wp2_with (go_at_call 61; go_loud (refine H.mono ?_))
                intro e w5 hp
                obtain ⟨hO, rfl⟩ := hp.none
                exact ⟨rfl, OY.trans hO, by first | rfl | (rw [hob]; rfl)⟩
              | some p =>
                obtain ⟨n, r⟩ := p
                rw [hx] at H hob
                have hob : objR s = some (⟨c, 2, [], .empty, n, ha⟩, r) := hob
                go_wp2_with (go_at_call 61; go_loud (refine H.mono ?_))
                intro e w5 hp
                obtain ⟨hO, he, hR⟩ := hp.some
                have he : e = .returned (.int .i64 n) := he
                subst he
                have hR : Rd br r w5 := hR
                have y5 := hO.cells y3 (by omega)
                have z5 := hO.cells z3 (by omega)
                have O5 := OY.trans hO
                clear hp H hO
                have r0 := zcells y5 0 _ rfl
                have r1 := zcells y5 1 _ rfl
                have r2 := zcells y5 2 _ rfl
                have r3 := zcells y5 3 _ rfl
                have r4 := zcells y5 4 _ rfl
                have r5 := zcells y5 5 _ rfl
                have q0 := zcells z5 0 _ rfl
                have q1 := zcells z5 1 _ rfl
                have q2 := zcells z5 2 _ rfl
                have q3 := zcells z5 3 _ rfl
                have q4 := zcells z5 4 _ rfl
                have q5 := zcells z5 5 _ rfl
                have rf : ∀ j, w5.frozen? ⟨w.heap.size, j, none⟩ = false := fun j => Lib.frozen_of_heap y5 j
                have qf : ∀ j, w5.frozen? ⟨w3.heap.size, j, none⟩ = false := fun j => Lib.frozen_of_heap z5 j
                have F : Fin' w br r (.slice none 0 0) [] w5 := ⟨O5, hR, IntRow.nil _ _⟩
                have HX : Hid (w5.heap[w.heap.size]? = some (.cells zO 41 (0, 0))) := y5
                clear y3 z3 y5 z5 hR O5 OY hY
                go_wp2
                have y5 := HX.out
                have y6 : (w5.setCell ⟨w3.heap.size, 4, none⟩ (.int .i64 n)).heap[w.heap.size]? = some (.cells zO 41 (0, 0)) := (heap_setCell_other _ _ _ _ hne).trans y5
                have X0 : ((w5.setCell ⟨w3.heap.size, 4, none⟩ (.int .i64 n)).setCell ⟨w.heap.size, 0, none⟩ (.int .i64 c)).heap[w.heap.size]? = some (.cells #[.int .i64 c, .int .i64 0, .slice none 0 0, .string ⟨#[]⟩, .int .i64 0, .int .i64 0] 41 (0, 0)) := heap_setCell_same _ _ 0 _ _ _ y6
                have X1 : (((w5.setCell ⟨w3.heap.size, 4, none⟩ (.int .i64 n)).setCell ⟨w.heap.size, 0, none⟩ (.int .i64 c)).setCell ⟨w.heap.size, 1, none⟩ (.int .i64 2)).heap[w.heap.size]? = some (.cells #[.int .i64 c, .int .i64 2, .slice none 0 0, .string ⟨#[]⟩, .int .i64 0, .int .i64 0] 41 (0, 0)) := heap_setCell_same _ _ 1 _ _ _ X0
                have X2 : ((((w5.setCell ⟨w3.heap.size, 4, none⟩ (.int .i64 n)).setCell ⟨w.heap.size, 0, none⟩ (.int .i64 c)).setCell ⟨w.heap.size, 1, none⟩ (.int .i64 2)).setCell ⟨w.heap.size, 2, none⟩ (.slice none 0 0)).heap[w.heap.size]? = some (.cells #[.int .i64 c, .int .i64 2, .slice none 0 0, .string ⟨#[]⟩, .int .i64 0, .int .i64 0] 41 (0, 0)) := heap_setCell_same _ _ 2 _ _ _ X1
                have X3 : (((((w5.setCell ⟨w3.heap.size, 4, none⟩ (.int .i64 n)).setCell ⟨w.heap.size, 0, none⟩ (.int .i64 c)).setCell ⟨w.heap.size, 1, none⟩ (.int .i64 2)).setCell ⟨w.heap.size, 2, none⟩ (.slice none 0 0)).setCell ⟨w.heap.size, 3, none⟩ (.string ⟨#[]⟩)).heap[w.heap.size]? = some (.cells #[.int .i64 c, .int .i64 2, .slice none 0 0, .string ⟨#[]⟩, .int .i64 0, .int .i64 0] 41 (0, 0)) := heap_setCell_same _ _ 3 _ _ _ X2
                have X4 : ((((((w5.setCell ⟨w3.heap.size, 4, none⟩ (.int .i64 n)).setCell ⟨w.heap.size, 0, none⟩ (.int .i64 c)).setCell ⟨w.heap.size, 1, none⟩ (.int .i64 2)).setCell ⟨w.heap.size, 2, none⟩ (.slice none 0 0)).setCell ⟨w.heap.size, 3, none⟩ (.string ⟨#[]⟩)).setCell ⟨w.heap.size, 4, none⟩ (.int .i64 n)).heap[w.heap.size]? = some (.cells #[.int .i64 c, .int .i64 2, .slice none 0 0, .string ⟨#[]⟩, .int .i64 n, .int .i64 0] 41 (0, 0)) := heap_setCell_same _ _ 4 _ _ _ X3
                have X5 : (((((((w5.setCell ⟨w3.heap.size, 4, none⟩ (.int .i64 n)).setCell ⟨w.heap.size, 0, none⟩ (.int .i64 c)).setCell ⟨w.heap.size, 1, none⟩ (.int .i64 2)).setCell ⟨w.heap.size, 2, none⟩ (.slice none 0 0)).setCell ⟨w.heap.size, 3, none⟩ (.string ⟨#[]⟩)).setCell ⟨w.heap.size, 4, none⟩ (.int .i64 n)).setCell ⟨w.heap.size, 5, none⟩ (.int .i64 ha)).heap[w.heap.size]? = some (.cells #[.int .i64 c, .int .i64 2, .slice none 0 0, .string ⟨#[]⟩, .int .i64 n, .int .i64 ha] 41 (0, 0)) := heap_setCell_same _ _ 5 _ _ _ X4
                refine post48 (u := .slice none 0 0) hob rfl rfl X5 ?_
                repeat' (first | (with_reducible exact F) | with_reducible refine Fin'.set ?_ (by omega) (by omega) (by simp [Value.ownBlock]) | with_reducible refine Fin'.alloc ?_ _)
            · have p2 : (k == 2) = false := by simpa using e2
              rw [if_neg e2] at hob
              have r0 := zcells x3 0 _ rfl
              have r1 := zcells x3 1 _ rfl
              have r2 := zcells x3 2 _ rfl
              have r3 := zcells x3 3 _ rfl
              have r4 := zcells x3 4 _ rfl
              have r5 := zcells x3 5 _ rfl
              have rf : ∀ j, w3.frozen? ⟨w.heap.size, j, none⟩ = false := fun j => Lib.frozen_of_heap x3 j
              have HX : Hid (w3.heap[w.heap.size]? = some (.cells zO 41 (0, 0))) := x3
              clear y3 z3 x3
              go_wp2
              have x3 := HX.out
              have F : Fin' w br s3 (.slice none 0 0) [] w3 := ⟨O3, h3, IntRow.nil _ _⟩
              have X0 : (w3.setCell ⟨w.heap.size, 0, none⟩ (.int .i64 c)).heap[w.heap.size]? = some (.cells #[.int .i64 c, .int .i64 0, .slice none 0 0, .string ⟨#[]⟩, .int .i64 0, .int .i64 0] 41 (0, 0)) := heap_setCell_same _ _ 0 _ _ _ x3
              have X1 : ((w3.setCell ⟨w.heap.size, 0, none⟩ (.int .i64 c)).setCell ⟨w.heap.size, 1, none⟩ (.int .i64 k)).heap[w.heap.size]? = some (.cells #[.int .i64 c, .int .i64 k, .slice none 0 0, .string ⟨#[]⟩, .int .i64 0, .int .i64 0] 41 (0, 0)) := heap_setCell_same _ _ 1 _ _ _ X0
              have X2 : (((w3.setCell ⟨w.heap.size, 0, none⟩ (.int .i64 c)).setCell ⟨w.heap.size, 1, none⟩ (.int .i64 k)).setCell ⟨w.heap.size, 2, none⟩ (.slice none 0 0)).heap[w.heap.size]? = some (.cells #[.int .i64 c, .int .i64 k, .slice none 0 0, .string ⟨#[]⟩, .int .i64 0, .int .i64 0] 41 (0, 0)) := heap_setCell_same _ _ 2 _ _ _ X1
              have X3 : ((((w3.setCell ⟨w.heap.size, 0, none⟩ (.int .i64 c)).setCell ⟨w.heap.size, 1, none⟩ (.int .i64 k)).setCell ⟨w.heap.size, 2, none⟩ (.slice none 0 0)).setCell ⟨w.heap.size, 3, none⟩ (.string ⟨#[]⟩)).heap[w.heap.size]? = some (.cells #[.int .i64 c, .int .i64 k, .slice none 0 0, .string ⟨#[]⟩, .int .i64 0, .int .i64 0] 41 (0, 0)) := heap_setCell_same _ _ 3 _ _ _ X2
              have X4 : (((((w3.setCell ⟨w.heap.size, 0, none⟩ (.int .i64 c)).setCell ⟨w.heap.size, 1, none⟩ (.int .i64 k)).setCell ⟨w.heap.size, 2, none⟩ (.slice none 0 0)).setCell ⟨w.heap.size, 3, none⟩ (.string ⟨#[]⟩)).setCell ⟨w.heap.size, 4, none⟩ (.int .i64 0)).heap[w.heap.size]? = some (.cells #[.int .i64 c, .int .i64 k, .slice none 0 0, .string ⟨#[]⟩, .int .i64 0, .int .i64 0] 41 (0, 0)) := heap_setCell_same _ _ 4 _ _ _ X3
              have X5 : ((((((w3.setCell ⟨w.heap.size, 0, none⟩ (.int .i64 c)).setCell ⟨w.heap.size, 1, none⟩ (.int .i64 k)).setCell ⟨w.heap.size, 2, none⟩ (.slice none 0 0)).setCell ⟨w.heap.size, 3, none⟩ (.string ⟨#[]⟩)).setCell ⟨w.heap.size, 4, none⟩ (.int .i64 0)).setCell ⟨w.heap.size, 5, none⟩ (.int .i64 ha)).heap[w.heap.size]? = some (.cells #[.int .i64 c, .int .i64 k, .slice none 0 0, .string ⟨#[]⟩, .int .i64 0, .int .i64 ha] 41 (0, 0)) := heap_setCell_same _ _ 5 _ _ _ X4
              refine post48 (u := .slice none 0 0) hob rfl rfl ?_ ?_
              · refine (Lib.alloc_old _ _ _ ?_).trans X5
                simp [World.setCell]; omega
              · repeat' (first | (with_reducible exact F) | with_reducible refine Fin'.set ?_ (by omega) (by omega) (by simp [Value.ownBlock]) | with_reducible refine Fin'.alloc ?_ _)
end Go.Pv

/- snap.read's closure: a panic of bytes that are not enough is taken up. -/
namespace Go.Pv
open Go Go.Proofs Go.RowKit
set_option maxHeartbeats 2000000
set_option maxRecDepth 100000
set_option linter.unusedVariables false
set_option linter.unusedSimpArgs false
/-- Nothing to take up. -/
theorem catch_idle (b0 b1 b2 : Nat) (w : World) :
    CallsD Try.prog 44 #[.pointer (some ⟨b0, 0, none⟩), .pointer (some ⟨b1, 0, none⟩), .pointer (some ⟨b2, 0, none⟩)] .returning w fun e u' w' => e = .returned (.tuple #[]) ∧ u' = .returning ∧ w' = w := by
  refine callsD_of_wpS Try.func44 rfl fun c₀ cs hu => ?_
  simp only [Try.ntmps44, List.size_toArray, List.length_cons, List.length_nil, Nat.reduceAdd, Nat.reduceSub, Array.replicate_succ,
     Array.replicate_zero, List.push_toArray, List.append_toArray, List.nil_append, List.cons_append]
  apply wpS_seq
  apply wpS_region
  simp [wpOpsS, go_sem, recoverD, hu, Exit.thenS]
  refine wpS_of_wp ?_
  go_wp2
  exact ⟨rfl, _, by rw [← hu], _, by simp [results, Try.results44], rfl, rfl, rfl⟩
theorem assertCut (w : World) : (Instr.typeAssert (.iface 75 (.agg #[])) 20 75 true).run Try.prog w = .ok (.tuple #[.agg #[], .bool true]) w := by kernel_rfl
/-- A panic taken up. -/
theorem catch_hit (v0 v1 v2 v3 v4 : Value) (b0 b1 b2 : Nat) (w : World) (h0 : w.heap[b0]? = some (.cells #[v0, v1, v2] 24 (0, 0))) (h1 : w.heap[b1]? = some (.cells #[v3] 25 (0, 0))) (h2 : w.heap[b2]? = some (.cells #[v4] 4 (0, 0))) (h01 : b0 ≠ b1) (h02 : b0 ≠ b2) (h12 : b1 ≠ b2) :
    CallsD Try.prog 44 #[.pointer (some ⟨b0, 0, none⟩), .pointer (some ⟨b1, 0, none⟩), .pointer (some ⟨b2, 0, none⟩)] (.panicking endP) w fun e u' w' => e = .returned (.tuple #[]) ∧ settle u' = .returning ∧ w'.heap[b0]? = some (.cells #[.slice none 0 0, .int .i64 0, .int .i64 0] 24 (0, 0)) ∧ w'.heap[b1]? = some (.cells #[.slice none 0 0] 25 (0, 0)) ∧ w'.heap[b2]? = some (.cells #[.bool false] 4 (0, 0)) ∧ ∀ B, B ≤ b0 → B ≤ b1 → B ≤ b2 → B ≤ w.heap.size → Below B w w' := by
  have hl0 := (Array.getElem?_eq_some_iff.1 h0).1
  have hl1 := (Array.getElem?_eq_some_iff.1 h1).1
  have hl2 := (Array.getElem?_eq_some_iff.1 h2).1
  have c00 : w.cell? ⟨b0, 0, none⟩ = some v0 := by rw [Lib.cell_of_heap h0]; rfl
  have c01 : w.cell? ⟨b0, 1, none⟩ = some v1 := by rw [Lib.cell_of_heap h0]; rfl
  have c02 : w.cell? ⟨b0, 2, none⟩ = some v2 := by rw [Lib.cell_of_heap h0]; rfl
  have c1 : w.cell? ⟨b1, 0, none⟩ = some v3 := by rw [Lib.cell_of_heap h1]; rfl
  have c2 : w.cell? ⟨b2, 0, none⟩ = some v4 := by rw [Lib.cell_of_heap h2]; rfl
  have f0 : ∀ j, w.frozen? ⟨b0, j, none⟩ = false := fun j => Lib.frozen_of_heap h0 j
  have f1 : ∀ j, w.frozen? ⟨b1, j, none⟩ = false := fun j => Lib.frozen_of_heap h1 j
  have f2 : ∀ j, w.frozen? ⟨b2, j, none⟩ = false := fun j => Lib.frozen_of_heap h2 j
  have HX : Hid (w.heap[b0]? = some (.cells #[v0, v1, v2] 24 (0, 0)) ∧ w.heap[b1]? = some (.cells #[v3] 25 (0, 0)) ∧ w.heap[b2]? = some (.cells #[v4] 4 (0, 0))) := ⟨h0, h1, h2⟩
  clear h0 h1 h2
  have h01' : ¬ b0 = b1 := h01
  have h02' : ¬ b0 = b2 := h02
  have h12' : ¬ b1 = b2 := h12
  have h10' : ¬ b1 = b0 := fun e => h01 e.symm
  have h20' : ¬ b2 = b0 := fun e => h02 e.symm
  have h21' : ¬ b2 = b1 := fun e => h12 e.symm
  have hta := assertCut
  refine callsD_of_wpS Try.func44 rfl fun c₀ cs hu => ?_
  simp only [Try.ntmps44, List.size_toArray, List.length_cons, List.length_nil, Nat.reduceAdd, Nat.reduceSub, Array.replicate_succ,
     Array.replicate_zero, List.push_toArray, List.append_toArray, List.nil_append, List.cons_append]
  apply wpS_seq
  apply wpS_region
  simp [wpOpsS, go_sem, recoverD, hu, Exit.thenS]
  refine wpS_of_wp ?_
  go_wp2
  have y0 := HX.out.1
  have y1 := HX.out.2.1
  have y2 := HX.out.2.2
  have X0 : (((w.setCell ⟨b0, 0, none⟩ (.slice none 0 0)).setCell ⟨b0, 1, none⟩ (.int .i64 0)).setCell ⟨b0, 2, none⟩ (.int .i64 0)).heap[b0]? = some (.cells #[.slice none 0 0, .int .i64 0, .int .i64 0] 24 (0, 0)) :=
    heap_setCell_same _ _ 2 _ _ _ (heap_setCell_same _ _ 1 _ _ _ (heap_setCell_same _ _ 0 _ _ _ y0))
  have O : ∀ k, k ≠ b0 → (((w.setCell ⟨b0, 0, none⟩ (.slice none 0 0)).setCell ⟨b0, 1, none⟩ (.int .i64 0)).setCell ⟨b0, 2, none⟩ (.int .i64 0)).heap[k]? = w.heap[k]? := fun k hk =>
    (heap_setCell_other _ ⟨b0, 2, none⟩ k _ hk).trans ((heap_setCell_other _ ⟨b0, 1, none⟩ k _ hk).trans (heap_setCell_other _ ⟨b0, 0, none⟩ k _ hk))
  have Z : ∀ B, B ≤ b0 → B ≤ w.heap.size → Below B w (((w.setCell ⟨b0, 0, none⟩ (.slice none 0 0)).setCell ⟨b0, 1, none⟩ (.int .i64 0)).setCell ⟨b0, 2, none⟩ (.int .i64 0)) := fun B hB _ =>
    (((Below.refl B w).setCell (p := ⟨b0, 0, none⟩) hB _).setCell (p := ⟨b0, 1, none⟩) hB _).setCell (p := ⟨b0, 2, none⟩) hB _
  have hsz : (((w.setCell ⟨b0, 0, none⟩ (.slice none 0 0)).setCell ⟨b0, 1, none⟩ (.int .i64 0)).setCell ⟨b0, 2, none⟩ (.int .i64 0)).heap.size = w.heap.size := by simp [World.setCell]
  generalize ((w.setCell ⟨b0, 0, none⟩ (.slice none 0 0)).setCell ⟨b0, 1, none⟩ (.int .i64 0)).setCell ⟨b0, 2, none⟩ (.int .i64 0) = V at *
  have x1 : V.heap[b1]? = some (.cells #[v3] 25 (0, 0)) := (O b1 h10').trans y1
  have x2 : V.heap[b2]? = some (.cells #[v4] 4 (0, 0)) := (O b2 h20').trans y2
  refine ⟨rfl, _, rfl, _, by simp [results, Try.results44], rfl, rfl, ?_, ?_, ?_, ?_⟩
  · refine (Lib.alloc_old _ _ _ (by simp [World.setCell, hsz]; omega)).trans ?_
    exact (heap_setCell_other _ ⟨b2, 0, none⟩ b0 _ h02').trans ((heap_setCell_other _ ⟨b1, 0, none⟩ b0 _ h01').trans X0)
  · refine (Lib.alloc_old _ _ _ (by simp [World.setCell, hsz]; omega)).trans ?_
    exact (heap_setCell_other _ ⟨b2, 0, none⟩ b1 _ h12').trans (heap_setCell_same _ _ 0 _ _ _ x1)
  · refine (Lib.alloc_old _ _ _ (by simp [World.setCell, hsz]; omega)).trans ?_
    exact heap_setCell_same _ _ 0 _ _ _ ((heap_setCell_other _ ⟨b1, 0, none⟩ b2 _ h21').trans x2)
  · intro B hB0 hB1 hB2 hB
    exact (((Z B hB0 hB).setCell (p := ⟨b1, 0, none⟩) hB1 _).setCell (p := ⟨b2, 0, none⟩) hB2 _).alloc (by simp [World.setCell, hsz]; omega) _
end Go.Pv

/- snap.read. -/
namespace Go.Pv
open Go Go.Proofs Go.RowKit
set_option maxHeartbeats 4000000
set_option maxRecDepth 100000
set_option linter.unusedVariables false
set_option linter.unusedSimpArgs false
/-- Rows of objects, with rows of one's own in them. -/
def ObjsIn (B : Nat) (W : World) : List GObj → List Value → Prop
  | [], us => us = []
  | o :: os, us => ∃ u us', us = (obV o u).toList ++ us' ∧ IntRow B W u o.Slots ∧ ObjsIn B W os us'
/-- Rows of numbers stay. -/
def Kept3 (B : Nat) (W W' : World) : Prop := ∀ g c fz, B ≤ g → W.heap[g]? = some (.cells c 3 fz) → W'.heap[g]? = W.heap[g]?
theorem IntRow.kept {B : Nat} {W W' : World} {u : Value} {xs : List Int} (h : IntRow B W u xs) (k : Kept3 B W W') : IntRow B W' u xs := by
  refine ownsRow_same h fun g hg => ?_
  rcases h.2 with ⟨rfl, _⟩ | ⟨g', cap, cur, rfl, hb, hg', _⟩
  · cases hg
  · cases hg; exact k _ _ _ hb hg'
theorem ObjsIn.kept {B : Nat} {W W' : World} (k : Kept3 B W W') : ∀ {os : List GObj} {us : List Value}, ObjsIn B W os us → ObjsIn B W' os us
  | [], _, h => h
  | _ :: _, _, ⟨u, us', e, h1, h2⟩ => ⟨u, us', e, h1.kept k, h2.kept k⟩
theorem ObjsIn.snoc {B : Nat} {W : World} {o : GObj} {u : Value} (h1 : IntRow B W u o.Slots) : ∀ {os : List GObj} {us : List Value}, ObjsIn B W os us → ObjsIn B W (os ++ [o]) (us ++ (obV o u).toList)
  | [], us, h => by cases h; exact ⟨u, [], by simp, h1, rfl⟩
  | _ :: _, _, ⟨v, us', e, h2, h3⟩ => ⟨v, us' ++ (obV o u).toList, by rw [e]; simp, h2, h3.snoc h1⟩
def ObRow (B : Nat) (W : World) (u : Value) (os : List GObj) : Prop := ∃ us, W.ownsRow B 41 6 u os.length us ∧ ObjsIn B W os us
/-- What stands while a heap is read. -/
structure RS (w : World) (u : Value) (cap last : Int) (os : List GObj) (si : ByteArray) (W : World) : Prop where
  below : Below w.heap.size w W
  h0 : W.heap[w.heap.size]? = some (.cells #[u, .int .i64 cap, .int .i64 last] 24 (0, 0))
  h1 : W.heap[w.heap.size + 1]? = some (.cells #[.slice none 0 0] 25 (0, 0))
  h2 : W.heap[w.heap.size + 2]? = some (.cells #[.bool false] 4 (0, 0))
  rd : Rd (w.heap.size + 3) si W
  row : ObRow w.heap.size W u os
theorem OffR.kept3 {br B : Nat} {s : ByteArray} {W W' : World} (h : OffR br W W') (hR : Rd br s W) : Kept3 B W W' := fun g c fz _ hg =>
  h.block g (Array.getElem?_eq_some_iff.1 hg).1 fun e => by
    subst e
    have := hR.symm.trans hg
    cases this
theorem RS.off {w : World} {u : Value} {cap last : Int} {os : List GObj} {si s' : ByteArray} {W W' : World} (h : RS w u cap last os si W) (hO : OffR (w.heap.size + 3) W W') (hR : Rd (w.heap.size + 3) s' W') : RS w u cap last os s' W' := by
  obtain ⟨us, ho, hi⟩ := h.row
  refine ⟨⟨hO.os.trans h.below.os, hO.tape.trans h.below.tape, hO.output.trans h.below.output, Nat.le_trans h.below.size hO.size, fun k hk => ?_⟩, hO.cells h.h0 (by omega), hO.cells h.h1 (by omega), hO.cells h.h2 (by omega), hR, us, ownsRow_off ho (own_off ho h.rd (by decide)) hO, hi.kept (hO.kept3 h.rd)⟩
  have := h.below.size
  exact (hO.block k (by omega) (by omega)).trans (h.below.block k hk)
theorem RS.drew {w : World} {u : Value} {cap last : Int} {os : List GObj} {si : ByteArray} {W : World} (h : RS w u cap last os si W) : RS w u cap last os si W.drew :=
  let ⟨us, ho, hi⟩ := h.row
  ⟨Below.trans h.below (Below.drew (Below.refl _ _)), h.h0, h.h1, h.h2, h.rd, us, ho, ObjsIn.kept (W := W) (W' := W.drew) (fun _ _ _ _ _ => rfl) hi⟩
theorem RS.cell {w : World} {u : Value} {cap last : Int} {os : List GObj} {si : ByteArray} {W : World} (h : RS w u cap last os si W) : W.cell? ⟨w.heap.size, 0, none⟩ = some u ∧ W.cell? ⟨w.heap.size, 1, none⟩ = some (.int .i64 cap) ∧ W.cell? ⟨w.heap.size, 2, none⟩ = some (.int .i64 last) ∧ (∀ j, W.frozen? ⟨w.heap.size, j, none⟩ = false) := by
  refine ⟨?_, ?_, ?_, fun j => Lib.frozen_of_heap h.h0 j⟩ <;> · rw [Lib.cell_of_heap h.h0]; rfl
/-- A row of objects, stored. -/
theorem RS.put {w : World} {u u' : Value} {cap last cap' last' : Int} {os os' : List GObj} {si : ByteArray} {W : World} {j : Nat} {v : Value} (h : RS w u cap last os si W) (hr : ObRow w.heap.size W u' os') (hv : (#[u, .int .i64 cap, .int .i64 last] : Array Value).setIfInBounds j v = #[u', .int .i64 cap', .int .i64 last']) :
    RS w u' cap' last' os' si (W.setCell ⟨w.heap.size, j, none⟩ v) := by
  obtain ⟨us, ho, hi⟩ := hr
  refine ⟨h.below.setCell (p := ⟨w.heap.size, j, none⟩) (Nat.le_refl _) v, by rw [← hv]; exact heap_setCell_same _ _ _ _ _ _ h.h0, (heap_setCell_other _ ⟨w.heap.size, j, none⟩ _ v (by show w.heap.size + 1 ≠ w.heap.size; omega)).trans h.h1, (heap_setCell_other _ ⟨w.heap.size, j, none⟩ _ v (by show w.heap.size + 2 ≠ w.heap.size; omega)).trans h.h2,
    h.rd.other (by omega) v, us, ownsRow_same ho fun g hg => heap_setCell_other _ ⟨w.heap.size, j, none⟩ g v fun e => ?_, hi.kept fun g c fz _ hg => heap_setCell_other _ ⟨w.heap.size, j, none⟩ g v fun e => ?_⟩
  · subst e; exact own_ne ho h.h0 (by decide) hg
  · subst e; have := h.h0.symm.trans hg; cases this
/-- What reading comes to. -/
def RePost (w : World) (o : GHeap × List Int × Bool) (e : Ending) (w' : World) : Prop :=
  Below w.heap.size w w' ∧ ∃ u rv, e = .returned (.tuple #[.agg #[u, .int .i64 o.1.Cap, .int .i64 o.1.Last], rv, .bool o.2.2]) ∧ ObRow w.heap.size w' u o.1.Objs ∧ IntRow w.heap.size w' rv o.2.1
theorem res22 {tmps : Array Value} {W : World} {b b1 b2 : Nat} {u rv : Value} {cap last : Int} {ok : Bool} (t2 : tmps[2]?.getD undef = .pointer (some ⟨b, 0, none⟩)) (t3 : tmps[3]?.getD undef = .pointer (some ⟨b1, 0, none⟩)) (t4 : tmps[4]?.getD undef = .pointer (some ⟨b2, 0, none⟩))
    (h0 : W.heap[b]? = some (.cells #[u, .int .i64 cap, .int .i64 last] 24 (0, 0))) (h1 : W.heap[b1]? = some (.cells #[rv] 25 (0, 0))) (h2 : W.heap[b2]? = some (.cells #[.bool ok] 4 (0, 0))) :
    (results Try.f22 tmps).run Try.prog W = .ok (.tuple #[.agg #[u, .int .i64 cap, .int .i64 last], rv, .bool ok]) W := by
  have k0 : (loadVar 24 ⟨b, 0, none⟩).run Try.prog W = .ok (.agg #[u, .int .i64 cap, .int .i64 last]) W := run_loadVar_row W b 24 24 _ (0, 0) _ h0 Try.underlying24 rfl (by kernel_rfl)
  have k1 : (loadVar 25 ⟨b1, 0, none⟩).run Try.prog W = .ok rv W := (run_loadVar_cells (P := Try.prog) (w := W) (ty := 25) (b := b1) (o := 0) (us := [rv]) (by kernel_rfl) (by kernel_rfl) (fun j u hj => by rw [Nat.zero_add, Lib.cell_of_heap h1]; simpa using hj)).2 (by kernel_rfl) rv rfl
  have k2 : (loadVar 4 ⟨b2, 0, none⟩).run Try.prog W = .ok (.bool ok) W := (run_loadVar_cells (P := Try.prog) (w := W) (ty := 4) (b := b2) (o := 0) (us := [.bool ok]) (by kernel_rfl) (by kernel_rfl) (fun j u hj => by rw [Nat.zero_add, Lib.cell_of_heap h2]; simpa using hj)).2 (by kernel_rfl) _ rfl
  have hr : Try.f22.results = #[.cell 2 24, .cell 3 25, .cell 4 4] := rfl
  unfold results
  rw [hr]
  simp [t2, t3, t4, asAddr, k0, k1, k2]
/-- The deferred closure. -/
abbrev defR (n : Nat) : List Deferred := [{ target := .fn (.func 44) #[.pointer (some ⟨n, 0, none⟩), .pointer (some ⟨n + 1, 0, none⟩), .pointer (some ⟨n + 2, 0, none⟩)], args := #[] }]
theorem leaf_panic {s : ByteArray} {w W : World} {v0 v1 v2 v3 v4 : Value} {tmps : Array Value} (hb : Below w.heap.size w W) (h0 : W.heap[w.heap.size]? = some (.cells #[v0, v1, v2] 24 (0, 0))) (h1 : W.heap[w.heap.size + 1]? = some (.cells #[v3] 25 (0, 0))) (h2 : W.heap[w.heap.size + 2]? = some (.cells #[v4] 4 (0, 0)))
    (t2 : tmps[2]?.getD undef = .pointer (some ⟨w.heap.size, 0, none⟩)) (t3 : tmps[3]?.getD undef = .pointer (some ⟨w.heap.size + 1, 0, none⟩)) (t4 : tmps[4]?.getD undef = .pointer (some ⟨w.heap.size + 2, 0, none⟩)) (hr : readP s = none) :
    Leaves Try.prog Try.f22 tmps (RePost w (readR s)) (defR w.heap.size) (.panicking endP) W := by
  refine leaves_cons (f := 44) (args := #[.pointer (some ⟨w.heap.size, 0, none⟩), .pointer (some ⟨w.heap.size + 1, 0, none⟩), .pointer (some ⟨w.heap.size + 2, 0, none⟩)]) (by simp) (by simp [go_sem]) ?_
  refine (catch_hit v0 v1 v2 v3 v4 _ _ _ W h0 h1 h2 (by omega) (by omega) (by omega)).mono ?_
  rintro e u' w'' ⟨rfl, hs, y0, y1, y2, hB⟩
  show Leaves Try.prog Try.f22 tmps _ [] (settle u') w''
  rw [hs]
  have hR : readR s = (⟨[], 0, 0⟩, [], false) := by unfold readR; rw [hr]
  refine ⟨_, res22 t2 t3 t4 y0 y1 y2, hb.trans (hB _ (by omega) (by omega) (by omega) hb.size), ?_⟩
  rw [hR]
  exact ⟨_, _, rfl, ⟨[], World.ownsRow_nil _ _ _ _, rfl⟩, IntRow.nil _ _⟩
theorem leaf_ret {s : ByteArray} {w W : World} {u rv : Value} {h : GHeap} {r : List Int} {tmps : Array Value} (hb : Below w.heap.size w W) (h0 : W.heap[w.heap.size]? = some (.cells #[u, .int .i64 h.Cap, .int .i64 h.Last] 24 (0, 0))) (h1 : W.heap[w.heap.size + 1]? = some (.cells #[rv] 25 (0, 0))) (h2 : W.heap[w.heap.size + 2]? = some (.cells #[.bool true] 4 (0, 0)))
    (t2 : tmps[2]?.getD undef = .pointer (some ⟨w.heap.size, 0, none⟩)) (t3 : tmps[3]?.getD undef = .pointer (some ⟨w.heap.size + 1, 0, none⟩)) (t4 : tmps[4]?.getD undef = .pointer (some ⟨w.heap.size + 2, 0, none⟩)) (hr : readP s = some (h, r)) (hO : ObRow w.heap.size W u h.Objs) (hI : IntRow w.heap.size W rv r) :
    Leaves Try.prog Try.f22 tmps (RePost w (readR s)) (defR w.heap.size) .returning W := by
  refine leaves_cons (f := 44) (args := #[.pointer (some ⟨w.heap.size, 0, none⟩), .pointer (some ⟨w.heap.size + 1, 0, none⟩), .pointer (some ⟨w.heap.size + 2, 0, none⟩)]) (by simp) (by simp [go_sem]) ?_
  refine (catch_idle _ _ _ W).mono ?_
  rintro e u' w'' ⟨rfl, rfl, rfl⟩
  show Leaves Try.prog Try.f22 tmps _ [] .returning w''
  have hR : readR s = (h, r, true) := by unfold readR; rw [hr]
  refine ⟨_, res22 t2 t3 t4 h0 h1 h2, hb, ?_⟩
  rw [hR]
  exact ⟨u, rv, rfl, hO, hI⟩
theorem RS.ends {w : World} {u : Value} {cap last : Int} {os : List GObj} {si : ByteArray} {W W' : World} (h : RS w u cap last os si W) (hO : OffR (w.heap.size + 3) W W') : Below w.heap.size w W' ∧ W'.heap[w.heap.size]? = some (.cells #[u, .int .i64 cap, .int .i64 last] 24 (0, 0)) ∧ W'.heap[w.heap.size + 1]? = some (.cells #[.slice none 0 0] 25 (0, 0)) ∧ W'.heap[w.heap.size + 2]? = some (.cells #[.bool false] 4 (0, 0)) := by
  refine ⟨⟨hO.os.trans h.below.os, hO.tape.trans h.below.tape, hO.output.trans h.below.output, Nat.le_trans h.below.size hO.size, fun k hk => ?_⟩, hO.cells h.h0 (by omega), hO.cells h.h1 (by omega), hO.cells h.h2 (by omega)⟩
  have := h.below.size
  exact (hO.block k (by omega) (by omega)).trans (h.below.block k hk)
theorem results22 {t t' : Array Value} (h2 : t[2]?.getD undef = t'[2]?.getD undef) (h3 : t[3]?.getD undef = t'[3]?.getD undef) (h4 : t[4]?.getD undef = t'[4]?.getD undef) : results Try.f22 t = results Try.f22 t' := by
  have hr : Try.f22.results = #[.cell 2 24, .cell 3 25, .cell 4 4] := rfl
  unfold results
  rw [hr]
  simp [h2, h3, h4]
theorem Leaves.congr {P : Program} {fn : Func} {t t' : Array Value} {R : Ending → World → Prop} (h : results fn t = results fn t') : ∀ (ds : List Deferred) (u : FrameMode) (w : World), Leaves P fn t R ds u w → Leaves P fn t' R ds u w
  | [], .returning, w, ⟨v, h1, h2⟩ => ⟨v, by rw [← h]; exact h1, h2⟩
  | [], .panicking _, w, h1 => h1
  | [], .run, _, h1 => h1
  | d :: ds, u, w, ⟨h0, fv, cap, f, args, h1, h2, h3⟩ => ⟨h0, fv, cap, f, args, h1, h2, h3.mono fun e u' w' he => by
      cases e with
      | returned v => exact Leaves.congr h ds _ _ he
      | panicked c => exact Leaves.congr h ds _ _ he
      | outgrown => exact he⟩
theorem put22 {R : Ending → World → Prop} {a : Act} {d : Nat} (hd : 4 < d) {v : Value} {c : List PanicEntry} {w : World} (h : bodyPostD Try.prog Try.f22 R (.panic c) (a.put (some d) v) w) : bodyPostD Try.prog Try.f22 R (.panic c) a w := by
  refine Leaves.congr (results22 ?_ ?_ ?_) _ _ _ h
  · simp only [Act.put]; rw [Array.getElem?_setIfInBounds_ne (by omega)]
  · simp only [Act.put]; rw [Array.getElem?_setIfInBounds_ne (by omega)]
  · simp only [Act.put]; rw [Array.getElem?_setIfInBounds_ne (by omega)]
end Go.Pv

/- snap.read, walked. -/
namespace Go.Pv
open Go Go.Proofs Go.RowKit
set_option maxHeartbeats 4000000
set_option maxRecDepth 100000
set_option linter.unusedVariables false
set_option linter.unusedSimpArgs false
/-- The world with the results' boxes and a reader. -/
abbrev W0 (w : World) (s : ByteArray) : World := (((w.alloc (.cells #[.slice none 0 0, .int .i64 0, .int .i64 0] 24)).alloc (.cells #[.slice none 0 0] 25)).alloc (.cells #[.bool false] 4)).alloc (.cells #[.string s] 79)
theorem ObRow.nil (B : Nat) (W : World) : ObRow B W (.slice none 0 0) [] := ⟨[], World.ownsRow_nil _ _ _ _, rfl⟩
theorem RS.start (w : World) (s : ByteArray) : RS w (.slice none 0 0) 0 0 [] s (W0 w s) := by
  have e1 : (w.alloc (.cells #[.slice none 0 0, .int .i64 0, .int .i64 0] 24)).heap.size = w.heap.size + 1 := by simp
  have e2 : ((w.alloc (.cells #[.slice none 0 0, .int .i64 0, .int .i64 0] 24)).alloc (.cells #[.slice none 0 0] 25)).heap.size = w.heap.size + 2 := by simp
  have e3 : (((w.alloc (.cells #[.slice none 0 0, .int .i64 0, .int .i64 0] 24)).alloc (.cells #[.slice none 0 0] 25)).alloc (.cells #[.bool false] 4)).heap.size = w.heap.size + 3 := by simp
  refine ⟨?_, ?_, ?_, ?_, ?_, [], World.ownsRow_nil _ _ _ _, rfl⟩
  · exact ((((Below.refl _ w).alloc (Nat.le_refl _) _).alloc (by omega) _).alloc (by omega) _).alloc (by omega) _
  · rw [Lib.alloc_old _ _ _ (by omega), Lib.alloc_old _ _ _ (by omega), Lib.alloc_old _ _ _ (by omega)]; exact heap_alloc_new w _
  · rw [Lib.alloc_old _ _ _ (by omega), Lib.alloc_old _ _ _ (by omega), ← e1]; exact heap_alloc_new _ _
  · rw [Lib.alloc_old _ _ _ (by omega), ← e2]; exact heap_alloc_new _ _
  · show (W0 w s).heap[w.heap.size + 3]? = _
    rw [← e3]; exact heap_alloc_new _ _
theorem infoObj : (Try.prog.info? 41).map (fun i => (i.zero, i.size, i.bytes)) = some (some (.agg zO), 6, 72) := by kernel_rfl
theorem manyB_size {α : Type} {f : ByteArray → Option (α × ByteArray)} (hf : ∀ s x r, f s = some (x, r) → r.size ≤ s.size) : ∀ (n : Nat) (s r : ByteArray) (l : List α), manyB f n s = some (l, r) → r.size ≤ s.size
  | 0, s, r, l, h => by cases h; exact Nat.le_refl _
  | n + 1, s, r, l, h => by
    rw [manyB] at h
    split at h
    · cases h
    · rename_i x r1 h1
      split at h
      · cases h
      · rename_i l' r2 h2
        cases h
        exact Nat.le_trans (manyB_size hf n _ _ _ h2) (hf _ _ _ h1)
theorem listB_size {s r : ByteArray} {l : List Int} (h : listB s = some (l, r)) : r.size ≤ s.size := by
  unfold listB at h
  split at h
  · rename_i n r1 h1
    exact Nat.le_trans (manyB_size (fun _ _ _ e => numB_size e) _ _ _ _ h) (cntB_size h1).1
  · cases h
theorem objR_size {s r : ByteArray} {o : GObj} (h : objR s = some (o, r)) : r.size ≤ s.size := by
  unfold objR at h
  split at h
  · cases h
  · rename_i c s1 h1
    split at h
    · cases h
    · rename_i k s2 h2
      split at h
      · cases h
      · rename_i hh s3 h3
        have e1 := numB_size h1; have e2 := numB_size h2; have e3 := numB_size h3
        split at h
        · split at h
          · cases h
          · rename_i l r' h4; cases h; have := listB_size h4; omega
        · split at h
          · split at h
            · cases h
            · rename_i n s4 h4
              have := numB_size h4
              split at h
              · cases h
              · rename_i t r' h5; cases h; have := (takeB_size h5).2; omega
          · split at h
            · split at h
              · cases h
              · rename_i b r' h4
                cases h
                unfold bitsB at h4
                split at h4
                · rename_i t r'' h5; cases h4; have := (takeB_size h5).2; omega
                · cases h4
            · cases h; omega
theorem RS.lt {w : World} {u : Value} {cap last : Int} {os : List GObj} {si : ByteArray} {W : World} (h : RS w u cap last os si W) : w.heap.size < W.heap.size := (Array.getElem?_eq_some_iff.1 h.h0).1
theorem news6 (W : World) (us : Array Value) (T : TypeId) (hsz : us.size = 6 := by rfl) : ∀ j u, us.toList[j]? = some u → (W.alloc (.cells us T)).cell? ((⟨W.heap.size, 0, none⟩ : Addr).add j) = some u := by
  intro j u hj
  have : (⟨W.heap.size, 0, none⟩ : Addr).add j = ⟨W.heap.size, j, none⟩ := by unfold Addr.add; split <;> simp_all
  rw [this, Lib.cell_of_heap (heap_alloc_new W _)]
  simpa using hj
/-- What stands, but for the row. -/
structure RB (w : World) (u : Value) (cap last : Int) (si : ByteArray) (W : World) : Prop where
  below : Below w.heap.size w W
  h0 : W.heap[w.heap.size]? = some (.cells #[u, .int .i64 cap, .int .i64 last] 24 (0, 0))
  h1 : W.heap[w.heap.size + 1]? = some (.cells #[.slice none 0 0] 25 (0, 0))
  h2 : W.heap[w.heap.size + 2]? = some (.cells #[.bool false] 4 (0, 0))
  rd : Rd (w.heap.size + 3) si W
theorem RB.cell {w : World} {u : Value} {cap last : Int} {si : ByteArray} {W : World} (h : RB w u cap last si W) : W.cell? ⟨w.heap.size, 0, none⟩ = some u ∧ (∀ j, W.frozen? ⟨w.heap.size, j, none⟩ = false) := by
  refine ⟨?_, fun j => Lib.frozen_of_heap h.h0 j⟩
  rw [Lib.cell_of_heap h.h0]; rfl
theorem RB.put {w : World} {u u' : Value} {cap last : Int} {os' : List GObj} {si : ByteArray} {W : World} (h : RB w u cap last si W) (hr : ObRow w.heap.size W u' os') :
    RS w u' cap last os' si (W.setCell ⟨w.heap.size, 0, none⟩ u') := by
  obtain ⟨us, ho, hi⟩ := hr
  refine ⟨h.below.setCell (p := ⟨w.heap.size, 0, none⟩) (Nat.le_refl _) u', heap_setCell_same _ _ 0 _ _ _ h.h0, (heap_setCell_other _ ⟨w.heap.size, 0, none⟩ _ u' (by show w.heap.size + 1 ≠ w.heap.size; omega)).trans h.h1, (heap_setCell_other _ ⟨w.heap.size, 0, none⟩ _ u' (by show w.heap.size + 2 ≠ w.heap.size; omega)).trans h.h2,
    h.rd.other (by omega) u', us, ownsRow_same ho fun g hg => heap_setCell_other _ ⟨w.heap.size, 0, none⟩ g u' fun e => ?_, hi.kept fun g c fz _ hg => heap_setCell_other _ ⟨w.heap.size, 0, none⟩ g u' fun e => ?_⟩
  · subst e; exact own_ne ho h.h0 (by decide) hg
  · subst e; have := h.h0.symm.trans hg; cases this
/-- One object more. -/
theorem RS.grow {w : World} {u : Value} {cap last : Int} {os : List GObj} {si : ByteArray} {W : World} (h : RS w u cap last os si W) (us : List Value) (ho : W.ownsRow w.heap.size 41 6 u os.length us) (hi : ObjsIn w.heap.size W os us) (ob : GObj) (sl : Value) (hI : IntRow w.heap.size W sl ob.Slots) {o : Array Value} {g cg : Nat} (w6 : World)
    (hown : w6.ownsRow w.heap.size 41 6 (.slice (some ⟨g, 0, none⟩) (os.length + 1) cg) (os.length + 1) (us ++ (obV ob sl).toList)) (hgrow : (W.alloc (.cells o 41)).grownBy w6 u.ownBlock) :
    RB w u cap last si w6 ∧ ObRow w.heap.size w6 (.slice (some ⟨g, 0, none⟩) (os.length + 1) cg) (os ++ [ob]) := by
  have hb := h.below.size
  have keep : ∀ k x, k < W.heap.size → u.ownBlock ≠ some k → W.heap[k]? = some x → w6.heap[k]? = some x := fun k x hk hne hx =>
    (hgrow.block k (by simp; omega) (fun e => hne e.symm)).trans ((Lib.alloc_old W _ k hk).trans hx)
  have lt : ∀ k x, W.heap[k]? = some x → k < W.heap.size := fun k x hx => (Array.getElem?_eq_some_iff.1 hx).1
  have K3 : Kept3 w.heap.size W w6 := fun q c fz _ hq => by
    rw [hq]
    refine keep q _ (lt _ _ hq) (fun e => ?_) hq
    rcases ho.2 with ⟨rfl, _⟩ | ⟨g', cap', cur, rfl, _, hg', _⟩
    · cases e
    · cases e; have := hq.symm.trans hg'; cases this
  refine ⟨⟨(h.below.alloc hb _).grown hgrow (by simp; omega) fun k hk => (ho.lt k hk).1, ?_, ?_, ?_, ?_⟩, us ++ (obV ob sl).toList, ?_, (hi.kept K3).snoc (hI.kept K3)⟩
  · exact keep _ _ (lt _ _ h.h0) (own_ne ho h.h0 (by decide)) h.h0
  · exact keep _ _ (lt _ _ h.h1) (own_ne ho h.h1 (by decide)) h.h1
  · exact keep _ _ (lt _ _ h.h2) (own_ne ho h.h2 (by decide)) h.h2
  · exact keep _ _ h.rd.lt (own_off ho h.rd (by decide)) h.rd
  · rw [List.length_append]; exact hown
theorem ObRow.kept {B : Nat} {W W' : World} {u : Value} {os : List GObj} (h : ObRow B W u os) (k : ∀ g c T fz, B ≤ g → (T = 3 ∨ T = 41) → W.heap[g]? = some (.cells c T fz) → W'.heap[g]? = W.heap[g]?) : ObRow B W' u os := by
  obtain ⟨us, ho, hi⟩ := h
  refine ⟨us, ownsRow_same ho fun g hg => ?_, hi.kept fun g c fz hb hg => k g c 3 fz hb (.inl rfl) hg⟩
  rcases ho.2 with ⟨rfl, _⟩ | ⟨g', cap, cur, rfl, hb, hg', _⟩
  · cases hg
  · cases hg; exact k _ _ 41 _ hb (.inr rfl) hg'
theorem end22 {s : ByteArray} {w W : World} {Au A : Option Addr} {cu c' i : Nat} {cap last : Int} {os : List GObj} {r : List Int} {tmps : Array Value} {si : ByteArray} (S : RS w (.slice Au os.length cu) cap last os si W) (hI : IntRow w.heap.size W (.slice A r.length c') r) (e1 : readP s = some (⟨os, cap, last⟩, r)) (hol : os.length = i)
    (t2 : tmps[2]?.getD undef = .pointer (some ⟨w.heap.size, 0, none⟩)) (t3 : tmps[3]?.getD undef = .pointer (some ⟨w.heap.size + 1, 0, none⟩)) (t4 : tmps[4]?.getD undef = .pointer (some ⟨w.heap.size + 2, 0, none⟩)) :
    Leaves Try.prog Try.f22 tmps (RePost w (readR s)) (defR w.heap.size) .returning ((((((W.setCell ⟨w.heap.size + 1, 0, none⟩ (.slice A r.length c')).setCell ⟨w.heap.size, 0, none⟩ (.slice Au i cu)).setCell ⟨w.heap.size, 1, none⟩ (.int .i64 cap)).setCell ⟨w.heap.size, 2, none⟩ (.int .i64 last)).setCell ⟨w.heap.size + 1, 0, none⟩ (.slice A r.length c')).setCell ⟨w.heap.size + 1 + 1, 0, none⟩ (.bool true)).drew := by
  subst hol
  have n1 : w.heap.size ≠ w.heap.size + 1 := by omega
  have n2 : w.heap.size ≠ w.heap.size + 1 + 1 := by omega
  have n3 : w.heap.size + 1 ≠ w.heap.size + 1 + 1 := by omega
  have z : ∀ k, k ≠ w.heap.size → k ≠ w.heap.size + 1 → k ≠ w.heap.size + 1 + 1 → ((((((W.setCell ⟨w.heap.size + 1, 0, none⟩ (.slice A r.length c')).setCell ⟨w.heap.size, 0, none⟩ (.slice Au os.length cu)).setCell ⟨w.heap.size, 1, none⟩ (.int .i64 cap)).setCell ⟨w.heap.size, 2, none⟩ (.int .i64 last)).setCell ⟨w.heap.size + 1, 0, none⟩ (.slice A r.length c')).setCell ⟨w.heap.size + 1 + 1, 0, none⟩ (.bool true)).heap[k]? = W.heap[k]? := fun k h0 h1 h2 => by
    rw [heap_setCell_other _ ⟨w.heap.size + 1 + 1, 0, none⟩ k _ h2, heap_setCell_other _ ⟨w.heap.size + 1, 0, none⟩ k _ h1, heap_setCell_other _ ⟨w.heap.size, 2, none⟩ k _ h0, heap_setCell_other _ ⟨w.heap.size, 1, none⟩ k _ h0, heap_setCell_other _ ⟨w.heap.size, 0, none⟩ k _ h0, heap_setCell_other _ ⟨w.heap.size + 1, 0, none⟩ k _ h1]
  have hb : ∀ g c T fz, (T = 3 ∨ T = 41) → W.heap[g]? = some (.cells c T fz) → g ≠ w.heap.size ∧ g ≠ w.heap.size + 1 ∧ g ≠ w.heap.size + 1 + 1 := fun g c T fz hT hg => by
    refine ⟨fun e => ?_, fun e => ?_, fun e => ?_⟩ <;> subst e
    · have := S.h0.symm.trans hg; cases this; rcases hT with h | h <;> cases h
    · have := S.h1.symm.trans hg; cases this; rcases hT with h | h <;> cases h
    · have := S.h2.symm.trans hg; cases this; rcases hT with h | h <;> cases h
  have k0 : Below w.heap.size w ((((((W.setCell ⟨w.heap.size + 1, 0, none⟩ (.slice A r.length c')).setCell ⟨w.heap.size, 0, none⟩ (.slice Au os.length cu)).setCell ⟨w.heap.size, 1, none⟩ (.int .i64 cap)).setCell ⟨w.heap.size, 2, none⟩ (.int .i64 last)).setCell ⟨w.heap.size + 1, 0, none⟩ (.slice A r.length c')).setCell ⟨w.heap.size + 1 + 1, 0, none⟩ (.bool true)) := (((((S.below.setCell (p := ⟨w.heap.size + 1, 0, none⟩) (by show w.heap.size ≤ w.heap.size + 1; omega) _).setCell (p := ⟨w.heap.size, 0, none⟩) (Nat.le_refl _) _).setCell (p := ⟨w.heap.size, 1, none⟩) (Nat.le_refl _) _).setCell (p := ⟨w.heap.size, 2, none⟩) (Nat.le_refl _) _).setCell (p := ⟨w.heap.size + 1, 0, none⟩) (by show w.heap.size ≤ w.heap.size + 1; omega) _).setCell (p := ⟨w.heap.size + 1 + 1, 0, none⟩) (by show w.heap.size ≤ w.heap.size + 1 + 1; omega) _
  have k1 : ((((((W.setCell ⟨w.heap.size + 1, 0, none⟩ (.slice A r.length c')).setCell ⟨w.heap.size, 0, none⟩ (.slice Au os.length cu)).setCell ⟨w.heap.size, 1, none⟩ (.int .i64 cap)).setCell ⟨w.heap.size, 2, none⟩ (.int .i64 last)).setCell ⟨w.heap.size + 1, 0, none⟩ (.slice A r.length c')).setCell ⟨w.heap.size + 1 + 1, 0, none⟩ (.bool true)).heap[w.heap.size]? = some (.cells #[.slice Au os.length cu, .int .i64 cap, .int .i64 last] 24 (0, 0)) := by
    rw [heap_setCell_other _ ⟨w.heap.size + 1 + 1, 0, none⟩ _ _ n2, heap_setCell_other _ ⟨w.heap.size + 1, 0, none⟩ _ _ n1]
    exact heap_setCell_same _ _ 2 _ _ _ (heap_setCell_same _ _ 1 _ _ _ (heap_setCell_same _ _ 0 _ _ _ ((heap_setCell_other _ ⟨w.heap.size + 1, 0, none⟩ _ _ n1).trans S.h0)))
  have k2 : ((((((W.setCell ⟨w.heap.size + 1, 0, none⟩ (.slice A r.length c')).setCell ⟨w.heap.size, 0, none⟩ (.slice Au os.length cu)).setCell ⟨w.heap.size, 1, none⟩ (.int .i64 cap)).setCell ⟨w.heap.size, 2, none⟩ (.int .i64 last)).setCell ⟨w.heap.size + 1, 0, none⟩ (.slice A r.length c')).setCell ⟨w.heap.size + 1 + 1, 0, none⟩ (.bool true)).heap[w.heap.size + 1]? = some (.cells #[.slice A r.length c'] 25 (0, 0)) := by
    rw [heap_setCell_other _ ⟨w.heap.size + 1 + 1, 0, none⟩ _ _ n3]
    refine heap_setCell_same _ _ 0 (#[.slice A r.length c']) _ _ ?_
    rw [heap_setCell_other _ ⟨w.heap.size, 2, none⟩ _ _ n1.symm, heap_setCell_other _ ⟨w.heap.size, 1, none⟩ _ _ n1.symm, heap_setCell_other _ ⟨w.heap.size, 0, none⟩ _ _ n1.symm]
    exact heap_setCell_same _ _ 0 _ _ _ S.h1
  have k3 : ((((((W.setCell ⟨w.heap.size + 1, 0, none⟩ (.slice A r.length c')).setCell ⟨w.heap.size, 0, none⟩ (.slice Au os.length cu)).setCell ⟨w.heap.size, 1, none⟩ (.int .i64 cap)).setCell ⟨w.heap.size, 2, none⟩ (.int .i64 last)).setCell ⟨w.heap.size + 1, 0, none⟩ (.slice A r.length c')).setCell ⟨w.heap.size + 1 + 1, 0, none⟩ (.bool true)).heap[w.heap.size + 2]? = some (.cells #[.bool true] 4 (0, 0)) := by
    refine heap_setCell_same _ _ 0 (#[.bool false]) _ _ ?_
    rw [heap_setCell_other _ ⟨w.heap.size + 1, 0, none⟩ _ _ n3.symm, heap_setCell_other _ ⟨w.heap.size, 2, none⟩ _ _ n2.symm, heap_setCell_other _ ⟨w.heap.size, 1, none⟩ _ _ n2.symm, heap_setCell_other _ ⟨w.heap.size, 0, none⟩ _ _ n2.symm, heap_setCell_other _ ⟨w.heap.size + 1, 0, none⟩ _ _ n3.symm]
    exact S.h2
  generalize ((((((W.setCell ⟨w.heap.size + 1, 0, none⟩ (.slice A r.length c')).setCell ⟨w.heap.size, 0, none⟩ (.slice Au os.length cu)).setCell ⟨w.heap.size, 1, none⟩ (.int .i64 cap)).setCell ⟨w.heap.size, 2, none⟩ (.int .i64 last)).setCell ⟨w.heap.size + 1, 0, none⟩ (.slice A r.length c')).setCell ⟨w.heap.size + 1 + 1, 0, none⟩ (.bool true)) = V at *
  have k4 : ObRow w.heap.size V (.slice Au os.length cu) os := S.row.kept fun g c T fz _ hT hg => let ⟨a, b, d⟩ := hb g c T fz hT hg; z g a b d
  have k5 : IntRow w.heap.size V (.slice A r.length c') r := hI.kept fun g c fz _ hg => let ⟨a, b, d⟩ := hb g c 3 fz (.inl rfl) hg; z g a b d
  have k4' : ObRow w.heap.size V.drew (.slice Au os.length cu) os := k4.kept fun _ _ _ _ _ _ _ => rfl
  have k5' : IntRow w.heap.size V.drew (.slice A r.length c') r := k5.kept fun _ _ _ _ _ => rfl
  exact leaf_ret (h := ⟨os, cap, last⟩) (r := r) (u := .slice Au os.length cu) (rv := .slice A r.length c') (Below.trans k0 (Below.drew (Below.refl _ _))) k1 k2 k3 t2 t3 t4 e1 k4' k5'
theorem read_any (s : ByteArray) (hsz : s.size ≤ big) (w : World) : Calls Try.prog 22 #[.string s] w (RePost w (readR s)) := by
  have hmf : ∀ (fn : Fn) (first cap : Array Value) (w : World), (Instr.makeFunc fn first cap).run Try.prog w = .ok (.func fn first cap) w := fun _ _ _ _ => rfl
  obtain ⟨i0, hi, hz0, hz1, hz2⟩ := info_parts infoObj
  have S0 := RS.start w s
  have H := take_any (w.heap.size + 3) s 3 _ S0.rd
  cases ht : takeB 3 s with
  | none =>
    have e0 : readP s = none := by unfold readP; rw [ht]
    rw [ht] at H
    go_enter_defers Try.func22, Try.ntmps22
    go_wp2_with (go_at_call 45; go_loud (refine H.mono ?_))
    intro e w1 hp
    obtain ⟨hO, rfl⟩ := hp.none
    obtain ⟨k, k0, k1, k2⟩ := S0.ends hO
    exact leaf_panic k k0 k1 k2 rfl rfl rfl e0
  | some p =>
    obtain ⟨m, s0⟩ := p
    rw [ht] at H
    have hs0 : s0.size ≤ s.size := by have := (takeB_size ht).2; omega
    go_enter_defers Try.func22, Try.ntmps22
    go_wp2_with (go_at_call 45; go_loud (refine H.mono ?_))
    intro e w1 hp
    obtain ⟨hO, he, h1⟩ := hp.some
    clear hp H
    have he : e = .returned (.string m) := he
    subst he
    have S1 := S0.off hO h1
    clear S0 hO h1
    by_cases hm : m = ⟨#[65, 78, 49]⟩
    · subst hm
      have hcell := S1.cell
      obtain ⟨q0, q1, q2, qf⟩ := hcell
      have H := num_rd (w.heap.size + 3) s0 _ S1.rd
      cases hc : numB s0 with
      | none =>
        have e0 : readP s = none := by unfold readP; rw [ht]; dsimp only; rw [if_pos rfl, hc]
        rw [hc] at H
        go_wp2_with (go_at_call 46; go_loud (refine H.mono ?_))
        intro e w2 hp
        obtain ⟨hO, rfl⟩ := hp.none
        obtain ⟨k, k0, k1, k2⟩ := S1.ends hO
        exact leaf_panic k k0 k1 k2 rfl rfl rfl e0
      | some p =>
        obtain ⟨cap, s1⟩ := p
        rw [hc] at H
        have hs1 := numB_size hc
        clear q0 q1 q2 qf
        go_wp2_with (go_at_call 46; go_loud (refine H.mono ?_))
        intro e w2 hp
        obtain ⟨hO, he, h2⟩ := hp.some
        clear hp H
        have he : e = .returned (.int .i64 cap) := he
        subst he
        have S2 := S1.off hO h2
        clear S1 hO h2
        have H := num_rd (w.heap.size + 3) s1 _ S2.rd
        cases hl : numB s1 with
        | none =>
          have e0 : readP s = none := by unfold readP; rw [ht]; dsimp only; rw [if_pos rfl, hc]; dsimp only; rw [hl]
          rw [hl] at H
          go_wp2_with (go_at_call 46; go_loud (refine H.mono ?_))
          intro e w3 hp
          obtain ⟨hO, rfl⟩ := hp.none
          obtain ⟨k, k0, k1, k2⟩ := S2.ends hO
          exact leaf_panic k k0 k1 k2 rfl rfl rfl e0
        | some p =>
          obtain ⟨last, s2⟩ := p
          rw [hl] at H
          have hs2 := numB_size hl
          go_wp2_with (go_at_call 46; go_loud (refine H.mono ?_))
          intro e w3 hp
          obtain ⟨hO, he, h3⟩ := hp.some
          clear hp H
          have he : e = .returned (.int .i64 last) := he
          subst he
          have S3 := S2.off hO h3
          clear S2 hO h3
          obtain ⟨q0, q1, q2, qf⟩ := S3.cell
          have S4 : RS w (.slice none 0 0) cap last [] s2 ((w3.setCell ⟨w.heap.size, 1, none⟩ (.int .i64 cap)).setCell ⟨w.heap.size, 2, none⟩ (.int .i64 last)) :=
            (S3.put (j := 1) (cap' := cap) (last' := 0) (ObRow.nil _ _) rfl).put (j := 2) (cap' := cap) (last' := last) (ObRow.nil _ _) rfl
          clear S3
          have H := count_rd (w.heap.size + 3) s2 12 (by omega) (by omega) (by omega) _ S4.rd
          cases hn : cntB 12 s2 with
          | none =>
            have e0 : readP s = none := by unfold readP; rw [ht]; dsimp only; rw [if_pos rfl, hc]; dsimp only; rw [hl]; dsimp only; rw [hn]
            rw [hn] at H
            go_wp2_with (go_at_call 47; go_loud (refine H.mono ?_))
            intro e w4 hp
            obtain ⟨hO, rfl⟩ := hp.none
            obtain ⟨k, k0, k1, k2⟩ := S4.ends hO
            exact leaf_panic k k0 k1 k2 rfl rfl rfl e0
          | some p =>
            obtain ⟨n, s3⟩ := p
            rw [hn] at H
            have hs3 := cntB_size hn
            go_wp2_with (go_at_call 47; go_loud (refine H.mono ?_))
            intro e w4 hp
            obtain ⟨hO, he, h4⟩ := hp.some
            clear hp H
            have he : e = .returned (.int .i64 n) := he
            subst he
            have S5 := S4.off hO h4
            clear S4 hO h4 q0 q1 q2 qf
            have HB : Hid (readP s = match manyB objR n s3 with
              | none => none
              | some (os, s4) => match listB s4 with
                | none => none
                | some (r, s5) => if s5.size = 0 then some (⟨os, cap, last⟩, r) else none) := by
              unfold Hid readP; rw [ht]; dsimp only; rw [if_pos rfl, hc]; dsimp only; rw [hl]; dsimp only; rw [hn]; rfl
            have hnb : n * 72 ≤ 140737488355328 := by unfold big at hsz; omega
            have hs3b : s3.size ≤ big := by omega
            clear ht hc hl hn hs3 hs2 hs1 hs0 hsz
            go_wp2
            go_loopw [23] (fun j wr => ∃ (i : Nat) (os : List GObj) (si : ByteArray) (u : Value), j = .int .i64 i ∧ i ≤ n ∧ os.length = i ∧ manyB objR n s3 = ((manyB objR (n - i) si).map fun p => (os ++ p.1, p.2)) ∧ RS w u cap last os si wr ∧ si.size ≤ s3.size)
              (fun j _ => (n - RowKit.intOf j).toNat)
            case atStart => exact ⟨0, [], s3, _, rfl, Nat.zero_le _, rfl, by cases manyB objR n s3 <;> simp, S5, Nat.le_refl _⟩
            case round =>
              obtain ⟨i, os, si, u, rfl, hin, hol, hm, S, hsi⟩ := hrel
              by_cases hik : i < n
              · have hlt : (i : Int) < (n : Int) := by omega
                obtain ⟨m0, m1⟩ := manyB_step objR hik hm
                cases hx : objR si with
                | none =>
                  have e0 : readP s = none := by rw [HB.out, m0 hx]
                  clear m0 m1 hm
                  have HC : ∀ W, RS w u cap last os si W → Calls Try.prog 48 #[.pointer (some ⟨w.heap.size + 1 + 1 + 1, 0, none⟩)] W fun e W' => e = .panicked endP ∧ Hid (Below w.heap.size w W' ∧ W'.heap[w.heap.size]? = some (.cells #[u, .int .i64 cap, .int .i64 last] 24 (0, 0)) ∧ W'.heap[w.heap.size + 1]? = some (.cells #[.slice none 0 0] 25 (0, 0)) ∧ W'.heap[w.heap.size + 2]? = some (.cells #[.bool false] 4 (0, 0))) := fun W hW => by
                    have H := object_rd (w.heap.size + 3) si (by omega) W hW.rd
                    rw [hx] at H
                    refine H.mono ?_
                    rintro e W' ⟨hO, he⟩
                    exact ⟨he, hW.ends hO⟩
                  have SD := S.drew
                  obtain ⟨q0, _, _, _⟩ := SD.cell
                  clear S
                  go_wp2
                  refine wp_region_any (by kernel_rfl) ?_
                  change wpAny _ _ _ _ _ _ _ (World.drew _)
                  refine wpAny_take (i := 0) (v := .pointer (some ⟨w.heap.size, 0, none⟩)) rfl (by kernel_rfl) (by kernel_rfl) (by kernel_rfl) (fun c a w h => put22 (d := 25) (by omega) h) (Or.inl ⟨by rfl, ?_⟩) ?_
                  · intro w
                    go_simp
                  refine wpAny_take (i := 2) (v := .pointer (some ⟨w.heap.size + 1 + 1 + 1, 0, none⟩)) rfl (by kernel_rfl) (by kernel_rfl) (by kernel_rfl) (fun c a w h => put22 (d := 27) (by omega) h) (Or.inl ⟨by rfl, ?_⟩) ?_
                  · intro w
                    go_simp
                  refine wpAny_ready (rs := [1, 3]) (by kernel_rfl) (by simp) ?_
                  refine AllReady.cons rfl (fun K hK => ?_) (AllReady.cons rfl (fun K hK => ?_) AllReady.nil)
                  · go_simp
                    refine hK _ _ ?_
                    clear hK K
                    refine wpAny_ready (rs := [3]) (by kernel_rfl) (by simp) ?_
                    refine AllReady.cons rfl (fun K hK => ?_) AllReady.nil
                    go_simp
                    refine (HC _ SD).mono ?_
                    rintro e W' ⟨rfl, hW'⟩
                    obtain ⟨k, k0, k1, k2⟩ := hW'.out
                    exact leaf_panic k k0 k1 k2 rfl rfl rfl e0
                  · go_simp
                    refine (HC _ SD).mono ?_
                    rintro e W' ⟨rfl, hW'⟩
                    obtain ⟨k, k0, k1, k2⟩ := hW'.out
                    exact leaf_panic k k0 k1 k2 rfl rfl rfl e0
                | some q =>
                  obtain ⟨ob, s4⟩ := q
                  have m1 := m1 ob s4 hx
                  have hs4 := objR_size hx
                  clear m0 hm
                  have HC : ∀ W, RS w u cap last os si W → Calls Try.prog 48 #[.pointer (some ⟨w.heap.size + 1 + 1 + 1, 0, none⟩)] W fun e W' => ∃ A c', e = .returned (.agg (obV ob (.slice A ob.Slots.length c'))) ∧ RS w u cap last os s4 W' ∧ IntRow w.heap.size W' (.slice A ob.Slots.length c') ob.Slots := fun W hW => by
                    have H := object_rd (w.heap.size + 3) si (by omega) W hW.rd
                    rw [hx] at H
                    refine H.mono ?_
                    rintro e W' ⟨hO, sl, he, hR, hI⟩
                    obtain ⟨A, c', rfl⟩ : ∃ A c', sl = .slice A ob.Slots.length c' := by
                      rcases ownsRow_form hI with ⟨h1, h2⟩ | ⟨g, c', h1, _⟩
                      · exact ⟨none, 0, by rw [h1, h2]⟩
                      · exact ⟨_, c', h1⟩
                    exact ⟨A, c', he, hW.off hO hR, IntRow.le hI hW.below.size⟩
                  have SD := S.drew
                  obtain ⟨q0, _, _, _⟩ := SD.cell
                  clear S
                  go_wp2
                  refine wp_region_any (by kernel_rfl) ?_
                  change wpAny _ _ _ _ _ _ _ (World.drew _)
                  refine wpAny_take (i := 0) (v := .pointer (some ⟨w.heap.size, 0, none⟩)) rfl (by kernel_rfl) (by kernel_rfl) (by kernel_rfl) (fun c a w h => put22 (d := 25) (by omega) h) (Or.inl ⟨by rfl, ?_⟩) ?_
                  · intro w
                    go_simp
                  refine wpAny_take (i := 2) (v := .pointer (some ⟨w.heap.size + 1 + 1 + 1, 0, none⟩)) rfl (by kernel_rfl) (by kernel_rfl) (by kernel_rfl) (fun c a w h => put22 (d := 27) (by omega) h) (Or.inl ⟨by rfl, ?_⟩) ?_
                  · intro w
                    go_simp
                  refine wpAny_ready (rs := [1, 3]) (by kernel_rfl) (by simp) ?_
                  refine AllReady.cons rfl (fun K hK => ?_) (AllReady.cons rfl (fun K hK => ?_) AllReady.nil)
                  · go_simp
                    refine hK _ _ ?_
                    clear hK K
                    refine wpAny_ready (rs := [3]) (by kernel_rfl) (by simp) ?_
                    refine AllReady.cons rfl (fun K hK => ?_) AllReady.nil
                    go_simp
                    refine (HC _ SD).mono ?_
                    rintro e W' ⟨A, c', rfl, S', hI⟩
                    refine hK _ _ ?_
                    clear hK K q0
                    have hl := S'.lt
                    obtain ⟨q0, _, _, qf⟩ := S'.cell
                    obtain ⟨us, ho, hi'⟩ := S'.row
                    refine wpAny_ready (rs := [4]) (by kernel_rfl) (by simp) ?_
                    refine AllReady.cons rfl (fun K hK => ?_) AllReady.nil
                    go_simp
                    refine hK _ _ ?_
                    clear hK K
                    refine wpAny_ready (rs := [5]) (by kernel_rfl) (by simp) ?_
                    refine AllReady.cons rfl (fun K hK => ?_) AllReady.nil
                    refine step_append_lies _ rfl _ _ 22 rfl w.heap.size 41 i0 (.agg zO) 6 72 Try.underlying22 hi hz0 hz1 hz2 rfl (by decide) u os.length us rfl (ho.alloc _) ⟨W'.heap.size, 0, none⟩ 1 1 (obV ob (.slice A ob.Slots.length c')).toList rfl rfl (news6 _ _ _ rfl) (by intro x hx; simp at hx; rcases hx with rfl | rfl | rfl | rfl | rfl | rfl <;> rfl) (by omega) (by unfold maxLen; omega) (by omega) (by have := S'.below.size; simp; omega) _ rfl ?_
                    intro g cg w6 hown hgrow hat hlt6
                    refine hK _ _ ?_
                    clear hK K
                    have S6 := S'.grow us ho hi' ob (.slice A ob.Slots.length c') hI w6 hown hgrow
                    obtain ⟨q0, qf⟩ := S6.1.cell
                    refine wpAny_ready (rs := [6]) (by kernel_rfl) (by simp) ?_
                    refine AllReady.cons rfl (fun K hK => ?_) AllReady.nil
                    go_simp
                    refine hK _ _ ?_
                    clear hK K
                    refine wpAny_ready (rs := [7]) (by kernel_rfl) (by simp) ?_
                    refine AllReady.cons rfl (fun K hK => ?_) AllReady.nil
                    go_simp
                    refine hK _ _ ?_
                    clear hK K
                    refine wpAny_done (by kernel_rfl) ?_ _
                    have S7 := S6.1.put S6.2
                    rw [hol] at S7
                    clear S6 q0 qf hown hgrow hat hlt6 ho hi' hI S' SD HC HB
                    go_wp2
                    have hw : w64 ((i : Int) + 1) = ((i + 1 : Nat) : Int) := by rw [w64_id] <;> omega
                    refine ⟨⟨i + 1, os ++ [ob], s4, _, by rw [hw], by omega, by simp [hol], m1, S7, by omega⟩, ?_⟩
                    rw [hw]; simp only [intOf]; omega
                  · go_simp
                    refine (HC _ SD).mono ?_
                    rintro e W' ⟨A, c', rfl, S', hI⟩
                    refine hK _ _ ?_
                    clear hK K q0
                    have hl := S'.lt
                    obtain ⟨q0, _, _, qf⟩ := S'.cell
                    obtain ⟨us, ho, hi'⟩ := S'.row
                    refine wpAny_ready (rs := [1, 4]) (by kernel_rfl) (by simp) ?_
                    refine AllReady.cons rfl (fun K hK => ?_) (AllReady.cons rfl (fun K hK => ?_) AllReady.nil)
                    · go_simp
                      refine hK _ _ ?_
                      clear hK K
                      refine wpAny_ready (rs := [4]) (by kernel_rfl) (by simp) ?_
                      refine AllReady.cons rfl (fun K hK => ?_) AllReady.nil
                      go_simp
                      refine hK _ _ ?_
                      clear hK K
                      refine wpAny_ready (rs := [5]) (by kernel_rfl) (by simp) ?_
                      refine AllReady.cons rfl (fun K hK => ?_) AllReady.nil
                      refine step_append_lies _ rfl _ _ 22 rfl w.heap.size 41 i0 (.agg zO) 6 72 Try.underlying22 hi hz0 hz1 hz2 rfl (by decide) u os.length us rfl (ho.alloc _) ⟨W'.heap.size, 0, none⟩ 1 1 (obV ob (.slice A ob.Slots.length c')).toList rfl rfl (news6 _ _ _ rfl) (by intro x hx; simp at hx; rcases hx with rfl | rfl | rfl | rfl | rfl | rfl <;> rfl) (by omega) (by unfold maxLen; omega) (by omega) (by have := S'.below.size; simp; omega) _ rfl ?_
                      intro g cg w6 hown hgrow hat hlt6
                      refine hK _ _ ?_
                      clear hK K
                      have S6 := S'.grow us ho hi' ob (.slice A ob.Slots.length c') hI w6 hown hgrow
                      obtain ⟨q0, qf⟩ := S6.1.cell
                      refine wpAny_ready (rs := [6]) (by kernel_rfl) (by simp) ?_
                      refine AllReady.cons rfl (fun K hK => ?_) AllReady.nil
                      go_simp
                      refine hK _ _ ?_
                      clear hK K
                      refine wpAny_ready (rs := [7]) (by kernel_rfl) (by simp) ?_
                      refine AllReady.cons rfl (fun K hK => ?_) AllReady.nil
                      go_simp
                      refine hK _ _ ?_
                      clear hK K
                      refine wpAny_done (by kernel_rfl) ?_ _
                      have S7 := S6.1.put S6.2
                      rw [hol] at S7
                      clear S6 q0 qf hown hgrow hat hlt6 ho hi' hI S' SD HC HB
                      go_wp2
                      have hw : w64 ((i : Int) + 1) = ((i + 1 : Nat) : Int) := by rw [w64_id] <;> omega
                      refine ⟨⟨i + 1, os ++ [ob], s4, _, by rw [hw], by omega, by simp [hol], m1, S7, by omega⟩, ?_⟩
                      rw [hw]; simp only [intOf]; omega
                    · go_simp
                      refine hK _ _ ?_
                      clear hK K
                      refine wpAny_ready (rs := [1]) (by kernel_rfl) (by simp) ?_
                      refine AllReady.cons rfl (fun K hK => ?_) AllReady.nil
                      go_simp
                      refine hK _ _ ?_
                      clear hK K
                      refine wpAny_ready (rs := [5]) (by kernel_rfl) (by simp) ?_
                      refine AllReady.cons rfl (fun K hK => ?_) AllReady.nil
                      refine step_append_lies _ rfl _ _ 22 rfl w.heap.size 41 i0 (.agg zO) 6 72 Try.underlying22 hi hz0 hz1 hz2 rfl (by decide) u os.length us rfl (ho.alloc _) ⟨W'.heap.size, 0, none⟩ 1 1 (obV ob (.slice A ob.Slots.length c')).toList rfl rfl (news6 _ _ _ rfl) (by intro x hx; simp at hx; rcases hx with rfl | rfl | rfl | rfl | rfl | rfl <;> rfl) (by omega) (by unfold maxLen; omega) (by omega) (by have := S'.below.size; simp; omega) _ rfl ?_
                      intro g cg w6 hown hgrow hat hlt6
                      refine hK _ _ ?_
                      clear hK K
                      have S6 := S'.grow us ho hi' ob (.slice A ob.Slots.length c') hI w6 hown hgrow
                      obtain ⟨q0, qf⟩ := S6.1.cell
                      refine wpAny_ready (rs := [6]) (by kernel_rfl) (by simp) ?_
                      refine AllReady.cons rfl (fun K hK => ?_) AllReady.nil
                      go_simp
                      refine hK _ _ ?_
                      clear hK K
                      refine wpAny_ready (rs := [7]) (by kernel_rfl) (by simp) ?_
                      refine AllReady.cons rfl (fun K hK => ?_) AllReady.nil
                      go_simp
                      refine hK _ _ ?_
                      clear hK K
                      refine wpAny_done (by kernel_rfl) ?_ _
                      have S7 := S6.1.put S6.2
                      rw [hol] at S7
                      clear S6 q0 qf hown hgrow hat hlt6 ho hi' hI S' SD HC HB
                      go_wp2
                      have hw : w64 ((i : Int) + 1) = ((i + 1 : Nat) : Int) := by rw [w64_id] <;> omega
                      refine ⟨⟨i + 1, os ++ [ob], s4, _, by rw [hw], by omega, by simp [hol], m1, S7, by omega⟩, ?_⟩
                      rw [hw]; simp only [intOf]; omega
              · have : i = n := by omega
                subst this
                have hfin : manyB objR i s3 = some (os, si) := by rw [hm, Nat.sub_self]; simp [manyB]
                have HD : Hid (readP s = match listB si with
                    | none => none
                    | some (r, s5) => if s5.size = 0 then some (⟨os, cap, last⟩, r) else none) := by
                  unfold Hid; rw [HB.out, hfin]
                clear hm HB hfin S5
                have H := list_rd (w.heap.size + 3) si (by omega) _ S.rd
                cases hx : listB si with
                | none =>
                  have e0 : readP s = none := by rw [HD.out, hx]
                  rw [hx] at H
                  go_wp2_with (go_at_call 49; go_loud (refine H.mono ?_))
                  rintro e w5 ⟨hO, hp⟩
                  have hp : e = .panicked endP := hp
                  subst hp
                  obtain ⟨k, k0, k1, k2⟩ := S.ends hO
                  exact leaf_panic k k0 k1 k2 rfl rfl rfl e0
                | some q =>
                  obtain ⟨r, s5⟩ := q
                  rw [hx] at H
                  have HE : Hid (readP s = if s5.size = 0 then some (⟨os, cap, last⟩, r) else none) := by unfold Hid; rw [HD.out, hx]
                  have hbr := S.below.size
                  clear HD hx
                  go_wp2_with (go_at_call 49; go_loud (refine H.mono ?_))
                  rintro e w5 ⟨hO, rv, rfl, hR, hI⟩
                  have hI := IntRow.le hI hbr
                  obtain ⟨A, c', rfl⟩ : ∃ A c', rv = .slice A r.length c' := by
                    rcases ownsRow_form hI with ⟨h1, h2⟩ | ⟨g, c', h1, _⟩
                    · exact ⟨none, 0, by rw [h1, h2]⟩
                    · exact ⟨_, c', h1⟩
                  have S6 := S.off hO hR
                  clear S hO H
                  obtain ⟨Au, cu, rfl⟩ : ∃ Au cu, u = .slice Au os.length cu := by
                    obtain ⟨us, ho, _⟩ := S6.row
                    rcases ownsRow_form ho with ⟨h1, h2⟩ | ⟨g, c', h1, _⟩
                    · exact ⟨none, 0, by rw [h1, h2]⟩
                    · exact ⟨_, c', h1⟩
                  obtain ⟨q0, q1, q2, qf⟩ := S6.cell
                  have c1 : w5.cell? ⟨w.heap.size + 1, 0, none⟩ = some (.slice none 0 0) := by rw [Lib.cell_of_heap S6.h1]; rfl
                  have f1 : ∀ j, w5.frozen? ⟨w.heap.size + 1, j, none⟩ = false := fun j => Lib.frozen_of_heap S6.h1 j
                  have c2 : w5.cell? ⟨w.heap.size + 1 + 1, 0, none⟩ = some (.bool false) := by rw [Lib.cell_of_heap S6.h2]; rfl
                  have f2 : ∀ j, w5.frozen? ⟨w.heap.size + 1 + 1, j, none⟩ = false := fun j => Lib.frozen_of_heap S6.h2 j
                  have c3 : w5.cell? ⟨w.heap.size + 1 + 1 + 1, 0, none⟩ = some (.string s5) := hR.cell
                  by_cases h5 : s5.size = 0
                  · have e1 : readP s = some (⟨os, cap, last⟩, r) := by rw [HE.out, if_pos h5]
                    obtain rfl : s5 = ⟨#[]⟩ := by
                      apply ByteArray.ext
                      exact Array.eq_empty_of_size_eq_zero h5
                    clear HE h5
                    have HX : Hid (RS w (.slice Au os.length cu) cap last os ⟨#[]⟩ w5 ∧ IntRow w.heap.size w5 (.slice A r.length c') r ∧ readP s = some (⟨os, cap, last⟩, r)) := ⟨S6, hI, e1⟩
                    clear S6 hI e1 hR
                    go_wp2
                    go_region
                    all_goals (
                      go_wp2
                      exact end22 HX.out.1 HX.out.2.1 HX.out.2.2 hol rfl rfl rfl)
                  · have e0 : readP s = none := by rw [HE.out, if_neg h5]
                    have hsb : (s5.toList == []) = false := by
                      rw [beq_eq_false_iff_ne]; intro h; apply h5
                      have : s5 = ByteArray.empty := ba_ext (h.trans (by rw [ByteArray.toList_eq]; rfl))
                      rw [this]; rfl
                    have HX : Hid (RS w (.slice Au os.length cu) cap last os s5 w5) := S6
                    clear S6 HE hI
                    go_wp2
                    obtain ⟨k, k0, k1, k2⟩ := HX.out.ends (OffR.refl _ _)
                    refine leaf_panic (k.setCell (p := ⟨w.heap.size + 1, 0, none⟩) (by show w.heap.size ≤ w.heap.size + 1; omega) _) ((heap_setCell_other _ ⟨w.heap.size + 1, 0, none⟩ _ _ (by show w.heap.size ≠ w.heap.size + 1; omega)).trans k0) (heap_setCell_same _ _ 0 _ _ _ k1) ((heap_setCell_other _ ⟨w.heap.size + 1, 0, none⟩ _ _ (by show w.heap.size + 2 ≠ w.heap.size + 1; omega)).trans k2) rfl rfl rfl e0
    · have e0 : readP s = none := by
        unfold readP; rw [ht]; dsimp only; rw [if_neg]; intro h; apply hm; apply ByteArray.ext; apply Array.ext'; exact h
      have hmb : (m.toList == [65, 78, 49]) = false := by
        rw [beq_eq_false_iff_ne]; intro h; exact hm (ba_ext (h.trans (by rw [ByteArray.toList_eq])))
      go_wp2
      obtain ⟨k, k0, k1, k2⟩ := S1.ends (OffR.refl _ _)
      exact leaf_panic k k0 k1 k2 rfl rfl rfl e0
end Go.Pv
