/- A part of the road: the interpreter of plain data and the proof that it is right. -/
import Derived.Test.YtakdpnelbnbkgaaW
import Derived.Test.YtakdpnelbnbkgaaP
import Derived.Test.YtakdpnelbnbkgaaS
import Derived.Test.YtakdpnelbnbkgaaM
set_option linter.unusedVariables false
set_option linter.unusedSimpArgs false
/- The document's reader: its bytes and its numbers. -/
namespace Go.Pv
open Go Go.Proofs Go.RowKit Go.Pv.Bs
set_option maxHeartbeats 4000000
set_option maxRecDepth 100000
set_option linter.unusedVariables false
set_option linter.unusedSimpArgs false
/-! ### in plain words -/
def takeR (n : Int) (s : ByteArray) (b : Bool) : ByteArray × ByteArray × Bool :=
  if b = true ∨ n < 0 ∨ (s.size : Int) < n then (⟨#[]⟩, s, true) else (s.extract 0 n.toNat, s.extract n.toNat s.size, false)
def plainV (t : ByteArray) : Int := w64 (valN (nbs t) : Int)
def numR (s : ByteArray) (b : Bool) : Int × ByteArray × Bool :=
  (if 2147483648 ≤ plainV (takeR 4 s b).1 then plainV (takeR 4 s b).1 - 4294967296 else plainV (takeR 4 s b).1, (takeR 4 s b).2)
/-! ### the plain loop -/
theorem valN_drop (l : List Nat) (i : Nat) (h : i < l.length) : valN (l.drop i) = l[i] + 256 * valN (l.drop (i + 1)) := by
  rw [List.drop_eq_getElem_cons h, valN]
theorem or_low (x : Int) (b : Nat) (hb : b < 256) : bOr .i64 (iShl .i64 x 8) (b : Int) = w64 (x * 256 + b) := by
  have e1 : iShl .i64 x 8 = w64 (x * 256) := rfl
  have e2 : (BitVec.ofInt 64 (w64 (x * 256))).toNat = (x % 72057594037927936).toNat * 2 ^ 8 := by
    rw [BitVec.toNat_ofInt]
    unfold w64
    simp [IntKind.wrap, IntKind.bits, IntKind.signed]
    omega
  have e3 : (BitVec.ofInt 64 (b : Int)).toNat = b := by
    rw [BitVec.ofInt_natCast, BitVec.toNat_ofNat]; exact Nat.mod_eq_of_lt (by omega)
  show IntKind.i64.wrap ((BitVec.ofInt 64 (iShl .i64 x 8) ||| BitVec.ofInt 64 (b : Int)).toNat : Int) = _
  rw [BitVec.toNat_or, e1, e2, e3, Nat.or_comm, nat_or b _ 8 (by omega)]
  unfold w64
  simp [IntKind.wrap, IntKind.bits, IntKind.signed]
  omega
theorem R08_plain_loop (t : ByteArray) (ht : t.size ≤ 8) (k : Nat) : ∀ (n : Int) (i : Int), i = (k : Int) - 1 → k ≤ t.size → n = w64 (valN ((nbs t).drop k) : Int) →
    iterO (fun p : Int × Int => s0_R08_plain t p.fst p.snd) (n, i) = some (w64 (valN (nbs t) : Int)) := by
  induction k with
  | zero =>
    intro n i hi _ hn
    subst hi hn
    rw [iterO_stop (b := w64 (valN ((nbs t).drop 0) : Int)) (by simp [s0_R08_plain]), List.drop_zero]
  | succ k ih =>
    intro n i hi hk hn
    have hi : i = k := by omega
    subst hi
    have hl : k < (nbs t).length := by rw [nbs_length]; omega
    have hw : w64 ((t.data[(k : Int).toNat]?.getD (0 : UInt8)).toNat : Int) = (((nbs t)[k] : Nat) : Int) := by
      have hd : t.data[k]? = some (t.data[k]'(by show k < t.size; omega)) := Array.getElem?_eq_getElem _
      rw [Int.toNat_natCast, hd]
      simp only [Option.getD_some, nbs, List.getElem_map]
      have := (t.data[k]'(by show k < t.size; omega)).toNat_lt
      rw [w64_id (by omega) (by omega)]
      rfl
    have hb := nbs_lt t _ (List.getElem_mem hl)
    have hi2 : w64 ((k : Int) - 1) = (k : Int) - 1 := by rw [w64_id] <;> omega
    rw [iterO_step (a' := (w64 (valN ((nbs t).drop k) : Int), (k : Int) - 1)) (by
      simp only [s0_R08_plain]
      rw [if_pos (by omega), if_pos ⟨by omega, by omega⟩, hw, or_low _ _ hb, hi2, hn, valN_drop _ _ hl]
      refine congrArg some (congrArg Sum.inl (Prod.ext ?_ rfl))
      dsimp only
      generalize valN ((nbs t).drop (k + 1)) = v
      generalize (nbs t)[k] = c
      unfold w64
      simp [IntKind.wrap, IntKind.bits, IntKind.signed]
      omega)]
    exact ih _ _ rfl (by omega) rfl
theorem R08_plain_eq (t : ByteArray) (ht : t.size ≤ 8) : F_R08_plain t = some (plainV t) := by
  unfold F_R08_plain plainV
  rw [R08_plain_loop t ht t.size 0 _ (by rw [w64_id] <;> omega) (Nat.le_refl _) (by rw [List.drop_eq_nil_of_le (by rw [nbs_length]; exact Nat.le_refl _)]; rfl), ob_some]
/-! ### the walks -/
def Rq (br : Nat) (s : ByteArray) (b : Bool) (w : World) : Prop := w.heap[br]? = some (.cells #[.string s, .bool b] 48 (0, 0))
theorem Rq.lt {br : Nat} {s : ByteArray} {b : Bool} {w : World} (h : Rq br s b w) : br < w.heap.size := (Array.getElem?_eq_some_iff.1 h).1
theorem Rq.c0 {br : Nat} {s : ByteArray} {b : Bool} {w : World} (h : Rq br s b w) : w.cell? ⟨br, 0, none⟩ = some (.string s) := by rw [Lib.cell_of_heap h]; rfl
theorem Rq.c1 {br : Nat} {s : ByteArray} {b : Bool} {w : World} (h : Rq br s b w) : w.cell? ⟨br, 1, none⟩ = some (.bool b) := by rw [Lib.cell_of_heap h]; rfl
theorem Rq.fz {br : Nat} {s : ByteArray} {b : Bool} {w : World} (h : Rq br s b w) : ∀ j, w.frozen? ⟨br, j, none⟩ = false := fun j => Lib.frozen_of_heap h j
theorem Rq.alloc {br : Nat} {s : ByteArray} {b : Bool} {w : World} (h : Rq br s b w) (o : Obj) : Rq br s b (w.alloc o) := (Lib.alloc_old w o br h.lt).trans h
theorem Rq.other {br k j : Nat} {s : ByteArray} {b : Bool} {w : World} (h : Rq br s b w) (hb : br ≠ k) (v : Value) : Rq br s b (w.setCell ⟨k, j, none⟩ v) := (heap_setCell_other w ⟨k, j, none⟩ br v hb).trans h
theorem Rq.below {br : Nat} {s : ByteArray} {b : Bool} {w w' : World} (h : Rq br s b w) (hb : Below w.heap.size w w') : Rq br s b w' := (hb.block br h.lt).trans h
theorem Rq.put0 {br : Nat} {s : ByteArray} {b : Bool} {w : World} (h : Rq br s b w) (r : ByteArray) : Rq br r b (w.setCell ⟨br, 0, none⟩ (.string r)) := heap_setCell_same w br 0 _ _ (.string r) h
theorem Rq.put1 {br : Nat} {s : ByteArray} {b : Bool} {w : World} (h : Rq br s b w) (c : Bool) : Rq br s c (w.setCell ⟨br, 1, none⟩ (.bool c)) := heap_setCell_same w br 1 _ _ (.bool c) h
theorem OffR.self {br j : Nat} {w0 w : World} (h : OffR br w0 w) (v : Value) : OffR br w0 (w.setCell ⟨br, j, none⟩ v) :=
  ⟨h.os, h.tape, h.output, by have := h.size; simp [World.setCell]; omega, fun k hk hne => (heap_setCell_other w ⟨br, j, none⟩ k v hne).trans (h.block k hk hne)⟩
/-- What a reading comes to. -/
def RqPost (br : Nat) (w : World) (v : Value) (s : ByteArray) (b : Bool) (e : Ending) (w' : World) : Prop := OffR br w w' ∧ e = .returned v ∧ Rq br s b w'
theorem take_q (br : Nat) (s : ByteArray) (b : Bool) (n : Int) (w : World) (h : Rq br s b w) :
    Calls Try.prog 23 #[.pointer (some ⟨br, 0, none⟩), .int .i64 n] w (RqPost br w (.string (takeR n s b).1) (takeR n s b).2.1 (takeR n s b).2.2) := by
  have c0 := h.c0
  have c1 := h.c1
  have fz := h.fz
  cases b with
  | true =>
    have e : takeR n s true = (⟨#[]⟩, s, true) := by unfold takeR; rw [if_pos (.inl rfl)]
    rw [e]
    go_enter Try.func23, Try.ntmps23
    go_wp2
    go_ret
    exact ⟨(OffR.refl _ _).self _, rfl, h.put1 true⟩
  | false =>
    by_cases h0 : n < 0
    · have e : takeR n s false = (⟨#[]⟩, s, true) := by unfold takeR; rw [if_pos (.inr (.inl h0))]
      rw [e]
      have d0 : decide (n < 0) = true := decide_eq_true h0
      go_enter Try.func23, Try.ntmps23
      go_wp2
      go_ret
      exact ⟨(OffR.refl _ _).self _, rfl, h.put1 true⟩
    · by_cases h1 : (s.size : Int) < n
      · have e : takeR n s false = (⟨#[]⟩, s, true) := by unfold takeR; rw [if_pos (.inr (.inr h1))]
        rw [e]
        have d0 : decide (n < 0) = false := decide_eq_false h0
        go_enter Try.func23, Try.ntmps23
        go_wp2
        go_ret
        exact ⟨(OffR.refl _ _).self _, rfl, h.put1 true⟩
      · have e : takeR n s false = (s.extract 0 n.toNat, s.extract n.toNat s.size, false) := by
          unfold takeR; rw [if_neg]; rintro (h | h | h)
          · cases h
          · exact h0 h
          · exact h1 h
        rw [e]
        have d0 : decide (n < 0) = false := decide_eq_false h0
        have h2 : (0 : Int) ≤ n ∧ n ≤ (s.size : Int) := by omega
        go_enter Try.func23, Try.ntmps23
        go_wp2
        go_ret
        exact ⟨(OffR.refl _ _).self _, rfl, h.put0 _⟩
theorem plain_q (t : ByteArray) (ht : t.size ≤ 8) (W : World) : Calls Try.prog 50 #[.string t] W fun e W' => e = .returned (.int .i64 (plainV t)) ∧ Below W.heap.size W W' := by
  have g := f_R08_plain t
  rw [R08_plain_eq t ht, ob_some] at g
  refine (call_data goodL g rfl (fun i x d hx hd => ?_)).mono ?_
  · match i, hx, hd with
    | 0, hx, hd => cases hx; cases hd; exact ⟨rfl, .t _ _ _ (.sc _ rfl)⟩
    | i + 1, hx, hd => simp at hd
  · rintro e w' ⟨v, G', rfl, hb, hv⟩
    exact ⟨by rw [hv.sc], hb⟩
end Go.Pv

/- The document's reader: numbers and lists. -/
namespace Go.Pv
open Go Go.Proofs Go.RowKit Go.Pv.Bs
set_option maxHeartbeats 4000000
set_option maxRecDepth 100000
set_option linter.unusedVariables false
set_option linter.unusedSimpArgs false
theorem takeR_size (n : Int) (s : ByteArray) (b : Bool) : (takeR n s b).1.size ≤ n.toNat ∧ (takeR n s b).2.1.size ≤ s.size ∧ ((takeR n s b).2.2 = false → (takeR n s b).2.1.size + n.toNat = s.size ∧ b = false) := by
  unfold takeR
  by_cases h : b = true ∨ n < 0 ∨ (s.size : Int) < n
  · rw [if_pos h]; exact ⟨Nat.zero_le _, Nat.le_refl _, fun e => by cases e⟩
  · rw [if_neg h]
    have hb : b = false := by cases b; rfl; exact absurd (.inl rfl) h
    have h1 : ¬ n < 0 := fun e => h (.inr (.inl e))
    have h2 : ¬ (s.size : Int) < n := fun e => h (.inr (.inr e))
    refine ⟨?_, ?_, fun _ => ⟨?_, hb⟩⟩ <;> simp only [ByteArray.size_extract] <;> omega
theorem plainV_in (t : ByteArray) : -9223372036854775808 ≤ plainV t ∧ plainV t ≤ 9223372036854775807 := by
  unfold plainV w64; simp [IntKind.wrap, IntKind.bits, IntKind.signed]; omega
theorem num_q (br : Nat) (s : ByteArray) (b : Bool) (w : World) (h : Rq br s b w) :
    Calls Try.prog 24 #[.pointer (some ⟨br, 0, none⟩)] w (RqPost br w (.int .i64 (numR s b).1) (numR s b).2.1 (numR s b).2.2) := by
  have H := take_q br s b 4 w h
  obtain ⟨z1, z2, _⟩ := takeR_size 4 s b
  unfold numR
  generalize takeR 4 s b = t at H z1 z2 ⊢
  obtain ⟨t, s1, b1⟩ := t
  dsimp only at H z1 z2 ⊢
  have HP := fun W => plain_q t (by have : (4 : Int).toNat = 4 := rfl; omega) W
  have hin := plainV_in t
  generalize plainV t = n at HP hin ⊢
  by_cases hn : 2147483648 ≤ n
  · have hd : decide (2147483648 ≤ n) = true := decide_eq_true hn
    have hw : w64 (n - 4294967296) = n - 4294967296 := by rw [w64_id] <;> omega
    rw [if_pos hn]
    clear hin
    go_enter Try.func24, Try.ntmps24
    go_wp2_with (go_at_call 23; go_loud (refine H.mono ?_))
    rintro e w1 ⟨hO, rfl, h1⟩
    go_wp2_with (go_at_call 50; go_loud (refine (HP _).mono ?_))
    rintro e w2 ⟨rfl, hb⟩
    go_wp2
    go_ret
    exact ⟨hO.trans (.of hb), by first | rfl | (show Ending.returned (Value.int .i64 (w64 (n - 4294967296))) = _; rw [hw]), h1.below hb⟩
  · have hd : decide (2147483648 ≤ n) = false := decide_eq_false hn
    rw [if_neg hn]
    clear hin
    go_enter Try.func24, Try.ntmps24
    go_wp2_with (go_at_call 23; go_loud (refine H.mono ?_))
    rintro e w1 ⟨hO, rfl, h1⟩
    go_wp2_with (go_at_call 50; go_loud (refine (HP _).mono ?_))
    rintro e w2 ⟨rfl, hb⟩
    go_wp2
    go_ret
    exact ⟨hO.trans (.of hb), rfl, h1.below hb⟩
/-- So many, as long as there are bytes. -/
def manyR {α : Type} (f : ByteArray → Bool → α × ByteArray × Bool) : Nat → ByteArray → Bool → List α × ByteArray × Bool
  | 0, s, b => ([], s, b)
  | k + 1, s, b => if b = true then ([], s, b) else ((f s b).1 :: (manyR f k (f s b).2.1 (f s b).2.2).1, (manyR f k (f s b).2.1 (f s b).2.2).2)
def listR (s : ByteArray) (b : Bool) : List Int × ByteArray × Bool := manyR numR (numR s b).1.toNat (numR s b).2.1 ((numR s b).2.2 || decide ((numR s b).1 < 0))
theorem numR_size (s : ByteArray) (b : Bool) : (numR s b).2.1.size ≤ s.size ∧ ((numR s b).2.2 = false → (numR s b).2.1.size + 4 = s.size ∧ b = false) := by
  obtain ⟨_, z2, z3⟩ := takeR_size 4 s b
  exact ⟨z2, z3⟩
theorem manyR_step {α : Type} (f : ByteArray → Bool → α × ByteArray × Bool) {n i : Nat} (hi : i < n) {s0 s : ByteArray} {b0 : Bool} {l : List α} (h : manyR f n s0 b0 = (l ++ (manyR f (n - i) s false).1, (manyR f (n - i) s false).2)) :
    manyR f n s0 b0 = ((l ++ [(f s false).1]) ++ (manyR f (n - (i + 1)) (f s false).2.1 (f s false).2.2).1, (manyR f (n - (i + 1)) (f s false).2.1 (f s false).2.2).2) := by
  rw [h, show n - i = (n - (i + 1)) + 1 by omega, manyR, if_neg (by simp)]
  simp
theorem manyR_bad {α : Type} (f : ByteArray → Bool → α × ByteArray × Bool) (k : Nat) (s : ByteArray) : manyR f k s true = ([], s, true) := by
  cases k with
  | zero => rfl
  | succ k => rw [manyR, if_pos rfl]
def LqPost (br : Nat) (w : World) (r : List Int × ByteArray × Bool) (e : Ending) (w' : World) : Prop :=
  OffR br w w' ∧ ∃ v, e = .returned v ∧ Rq br r.2.1 r.2.2 w' ∧ IntRow w.heap.size w' v r.1
theorem own_offq {br B : Nat} {s : ByteArray} {b : Bool} {w : World} {e : TypeId} {sz n : Nat} {v : Value} {us : List Value} (h : w.ownsRow B e sz v n us) (hR : Rq br s b w) (he : e ≠ 48) : v.ownBlock ≠ some br := own_ne h hR he
theorem list_q (br : Nat) (s : ByteArray) (b : Bool) (hsz : s.size ≤ big) (w : World) (h : Rq br s b w) :
    Calls Try.prog 26 #[.pointer (some ⟨br, 0, none⟩)] w (LqPost br w (listR s b)) := by
  obtain ⟨i0, hi, hz0, hz1, hz2⟩ := info_parts infoInt
  have h0 : Rq br s b (w.alloc (.cells #[] 3)) := h.alloc _
  have H := num_q br s b _ h0
  have O0 : OffR br w (w.alloc (.cells #[] 3)) := (OffR.refl _ _).alloc _
  have r0 : (w.alloc (.cells #[] 3)).ownsRow w.heap.size 3 1 (.slice (some ⟨w.heap.size, 0, none⟩) 0 0) 0 [] := World.ownsRow_made w #[] 0 (Nat.le_refl _) (by unfold maxLen; omega) rfl
  unfold listR
  obtain ⟨z1, z2⟩ := numR_size s b
  generalize numR s b = x at H z1 z2 ⊢
  obtain ⟨n, s1, b1⟩ := x
  dsimp only at H z1 z2 ⊢
  have hlt := h.lt
  go_enter Try.func26, Try.ntmps26
  go_wp2_with (go_at_call 24; go_loud (refine H.mono ?_))
  rintro e w1 ⟨hO, rfl, h1⟩
  have r1 : w1.ownsRow w.heap.size 3 1 (.slice (some ⟨w.heap.size, 0, none⟩) 0 0) 0 [] := ownsRow_off r0 (own_offq r0 h0 (by decide)) hO
  have O1 := O0.trans hO
  clear r0 hO O0 h0 H
  have c1 := h1.c1
  have fz := h1.fz
  by_cases hn : n < 0
  · have hd : decide (n < 0) = true := decide_eq_true hn
    have e0 : manyR numR n.toNat s1 (b1 || decide (n < 0)) = ([], s1, true) := by rw [hd, Bool.or_true, manyR_bad]
    have h2 := h1.put1 true
    have O2 := O1.self (j := 1) (.bool true)
    have r2 : (w1.setCell ⟨br, 1, none⟩ (.bool true)).ownsRow w.heap.size 3 1 (.slice (some ⟨w.heap.size, 0, none⟩) 0 0) 0 [] := ownsRow_same r1 fun g hg => heap_setCell_other _ ⟨br, 1, none⟩ g _ (by cases hg; show w.heap.size ≠ br; omega)
    clear r1 O1
    go_wp2
    go_loopw [3, 5] (fun u j wr => u = .slice (some ⟨w.heap.size, 0, none⟩) 0 0 ∧ j = .int .i64 0 ∧ Rq br s1 true wr ∧ OffR br w wr ∧ wr.ownsRow w.heap.size 3 1 (.slice (some ⟨w.heap.size, 0, none⟩) 0 0) 0 [])
      (fun _ _ _ => 0)
    case atStart => exact ⟨rfl, rfl, h2, O2, r2⟩
    case round =>
      obtain ⟨rfl, rfl, hR, hO, hr⟩ := hrel
      have hd0 : decide ((0 : Int) < n) = false := decide_eq_false (by omega)
      have hn0 : ¬ (0 : Int) < n := by omega
      go_wp2
      go_ret
      first
        | (rw [manyR_bad]; exact ⟨hO, _, rfl, hR, hr⟩)
        | (rw [e0]; exact ⟨hO, _, rfl, hR, hr⟩)
  · have hd : decide (n < 0) = false := decide_eq_false hn
    obtain ⟨N, rfl⟩ : ∃ N : Nat, n = N := ⟨n.toNat, by omega⟩
    have e0 : manyR numR (N : Int).toNat s1 (b1 || decide ((N : Int) < 0)) = manyR numR N s1 b1 := by rw [hd, Bool.or_false, Int.toNat_natCast]
    have hsz' : s.size ≤ 1099511627776 := hsz
    go_wp2
    go_loopw [3, 5] (fun u j wr => ∃ (i : Nat) (l : List Int) (si : ByteArray) (bi : Bool), j = .int .i64 i ∧ i ≤ N ∧ l.length = i ∧ manyR numR N s1 b1 = (l ++ (manyR numR (N - i) si bi).1, (manyR numR (N - i) si bi).2) ∧ 4 * i + si.size ≤ s1.size + (if bi = true then 4 else 0) ∧ OffR br w wr ∧ Rq br si bi wr ∧ IntRow w.heap.size wr u l)
      (fun _ j _ => (N - RowKit.intOf j).toNat)
    case atStart => exact ⟨0, [], s1, b1, rfl, Nat.zero_le _, rfl, by simp, by omega, O1, h1, r1⟩
    case round =>
      obtain ⟨i, l, si, bi, rfl, hin, hl, hm, hz, hOi, hRi, hown⟩ := hrel
      have c1 := hRi.c1
      by_cases hik : i < N
      · have hlt : (i : Int) < (N : Int) := by omega
        have hdl : decide ((i : Int) < (N : Int)) = true := decide_eq_true hlt
        cases bi with
        | true =>
          have hfin : manyR numR N s1 b1 = (l, si, true) := by rw [hm, manyR_bad]; simp
          clear hm
          go_wp2
          go_ret
          first
            | exact ⟨hOi, _, rfl, hRi, hown⟩
            | (rw [e0, hfin]; exact ⟨hOi, _, rfl, hRi, hown⟩)
            | (rw [hfin]; exact ⟨hOi, _, rfl, hRi, hown⟩)
        | false =>
          have m1 := manyR_step numR hik hm
          have hz : 4 * i + si.size ≤ s1.size := by simpa using hz
          have H := num_q br si false wr hRi
          obtain ⟨y1, y2⟩ := numR_size si false
          generalize numR si false = x at H m1 y1 y2
          obtain ⟨x, s2, b2⟩ := x
          dsimp only at H m1 y1 y2
          clear hm
          go_wp2_with (go_at_call 24; go_loud (refine H.mono ?_))
          rintro e w2 ⟨hO2, rfl, hR2⟩
          have hbr := own_offq hown hRi (by decide)
          have hown2 := ownsRow_off (show wr.ownsRow w.heap.size 3 1 _ l.length (l.map (Value.int .i64)) from hown) hbr hO2
          have hO3 := hOi.trans hO2
          go_wp2_with (at_builtin; refine wpList_append_own_at _ rfl _ _ 25 rfl w.heap.size 3 i0 (.int .i64 0) 1 8 Try.underlying25 hi hz0 hz1 hz2 rfl (by decide) _ _ _ rfl (hown2.alloc _) ⟨w2.heap.size, 0, none⟩ 1 1 [.int .i64 x] rfl rfl ?c1 ?c2 ?c3 ?c4 ?c5 ?_)
          case c1 =>
            intro j u hj
            match j, hj with
            | 0, hj => simp at hj; subst hj; simp [Addr.add]
          case c2 => intro u hu; simp at hu; subst hu; rfl
          case c3 => unfold maxLen; omega
          case c4 => omega
          case c5 => have := hO3.size; simp; omega
          intro v' w3 hown3 hgrow _ hblk
          have hlt3 := (hown2.alloc (.cells #[.int .i64 x] 3)).lt
          have hO4 : OffR br w w3 := (hO3.alloc _).grown (Nat.le_refl _) hlt3 hgrow
          have hR3 : Rq br s2 b2 w3 := (hgrow.block br (by have := hR2.lt; simp; omega) (fun e => hbr e.symm)).trans ((Lib.alloc_old w2 _ br hR2.lt).trans hR2)
          go_wp2
          have hw : w64 ((i : Int) + 1) = ((i + 1 : Nat) : Int) := by rw [w64_id] <;> omega
          refine ⟨⟨i + 1, l ++ [x], s2, b2, by rw [hw], by omega, by simp [hl], m1, ?_, hO4, hR3, ?_⟩, ?_⟩
          · cases b2 with
            | true => simp; omega
            | false => have := (y2 rfl).1; simp; omega
          · unfold IntRow; rw [List.length_append, List.map_append, hl]; exact hown3
          · rw [hw]; simp only [intOf]; omega
      · have : i = N := by omega
        subst this
        have hdl : decide ((i : Int) < (i : Int)) = false := decide_eq_false (by omega)
        have hfin : manyR numR i s1 b1 = (l, si, bi) := by rw [hm, Nat.sub_self]; simp [manyR]
        clear hm
        go_wp2
        go_ret
        first
          | exact ⟨hOi, _, rfl, hRi, hown⟩
          | (rw [e0, hfin]; exact ⟨hOi, _, rfl, hRi, hown⟩)
          | (rw [hfin]; exact ⟨hOi, _, rfl, hRi, hown⟩)
end Go.Pv

/- The document's reader: objects. -/
namespace Go.Pv
open Go Go.Proofs Go.RowKit Go.Pv.Bs
set_option maxHeartbeats 8000000
set_option maxRecDepth 100000
set_option linter.unusedVariables false
set_option linter.unusedSimpArgs false
def objQ (s : ByteArray) (b : Bool) : GObj × ByteArray × Bool :=
  let c := numR s b
  let k := numR c.2.1 c.2.2
  let h := numR k.2.1 k.2.2
  if k.1 = 0 then let l := listR h.2.1 h.2.2; (⟨c.1, k.1, l.1, ⟨#[]⟩, 0, h.1⟩, l.2)
  else if k.1 = 1 then let n := numR h.2.1 h.2.2; let t := takeR n.1 n.2.1 n.2.2; (⟨c.1, k.1, [], t.1, 0, h.1⟩, t.2)
  else if k.1 = 2 then let t := takeR 8 h.2.1 h.2.2; (⟨c.1, k.1, [], ⟨#[]⟩, plainV t.1, h.1⟩, t.2)
  else (⟨c.1, k.1, [], ⟨#[]⟩, 0, h.1⟩, h.2)
/-- What an object's reading comes to. -/
def OqPost (br : Nat) (w : World) (o : GObj × ByteArray × Bool) (e : Ending) (w' : World) : Prop :=
  OffR br w w' ∧ ∃ u, e = .returned (.agg (obV o.1 u)) ∧ Rq br o.2.1 o.2.2 w' ∧ IntRow w.heap.size w' u o.1.Slots
structure FinQ (w : World) (br : Nat) (s : ByteArray) (b : Bool) (u : Value) (xs : List Int) (W : World) : Prop where
  off : OffR br w W
  rd : Rq br s b W
  row : IntRow w.heap.size W u xs
theorem FinQ.set {w : World} {br : Nat} {s : ByteArray} {b : Bool} {u : Value} {xs : List Int} {W : World} {k j : Nat} {v : Value} (h : FinQ w br s b u xs W) (hb : w.heap.size ≤ k) (hbr : br ≠ k) (hu : u.ownBlock ≠ some k) : FinQ w br s b u xs (W.setCell ⟨k, j, none⟩ v) :=
  ⟨h.off.set hb v, h.rd.other hbr v, h.row.set hu v⟩
theorem res25 {tmps : Array Value} {W : World} {b : Nat} {us : Array Value} (ht : tmps[2]?.getD undef = .pointer (some ⟨b, 0, none⟩)) (hu : us.size = 6) (h : W.heap[b]? = some (.cells us 41 (0, 0))) : (results Try.f25 tmps).run Try.prog W = .ok (.agg us) W := by
  have h1 : (loadVar 41 ⟨b, 0, none⟩).run Try.prog W = .ok (.agg us) W := run_loadVar_row W b 41 41 us (0, 0) _ h Try.underlying41 rfl (by rw [hu]; kernel_rfl)
  have hr : Try.f25.results = #[.cell 2 41] := rfl
  unfold results
  rw [hr]
  simp [ht, asAddr, h1]
theorem post25 {w : World} {br : Nat} {u : Value} {W : World} {o : GObj × ByteArray × Bool} {a : Act} (ht : a.tmps[2]?.getD undef = .pointer (some ⟨w.heap.size, 0, none⟩)) (hd : a.defers = []) (hW : W.heap[w.heap.size]? = some (.cells (obV o.1 u) 41 (0, 0))) (h : FinQ w br o.2.1 o.2.2 u o.1.Slots W) :
    bodyPost Try.prog Try.f25 (OqPost br w o) .ret a W := ⟨hd, _, res25 ht rfl hW, h.off, u, rfl, h.rd, h.row⟩
theorem object_q (br : Nat) (s : ByteArray) (b : Bool) (hsz : s.size ≤ big) (w : World) (h : Rq br s b w) :
    Calls Try.prog 25 #[.pointer (some ⟨br, 0, none⟩)] w (OqPost br w (objQ s b)) := by
  have hlt := h.lt
  have n1 : w.heap.size ≠ w.heap.size + 1 := by omega
  have n2 : ¬ w.heap.size = w.heap.size + 1 := by omega
  have ea : (w.alloc (.cells zO 41)).heap.size = w.heap.size + 1 := by simp
  have x0 : ((w.alloc (.cells zO 41)).alloc (.cells zO 41)).heap[w.heap.size + 1]? = some (.cells zO 41 (0, 0)) := by rw [← ea]; exact heap_alloc_new _ _
  have y0 : ((w.alloc (.cells zO 41)).alloc (.cells zO 41)).heap[w.heap.size]? = some (.cells zO 41 (0, 0)) := (Lib.alloc_old _ _ _ (by omega)).trans (heap_alloc_new w _)
  have h0 : Rq br s b ((w.alloc (.cells zO 41)).alloc (.cells zO 41)) := (h.alloc _).alloc _
  have O0 : OffR br w ((w.alloc (.cells zO 41)).alloc (.cells zO 41)) := ((OffR.refl _ _).alloc _).alloc _
  have H := num_q br s b _ h0
  unfold objQ
  obtain ⟨z1, _⟩ := numR_size s b
  generalize numR s b = x at H z1 ⊢
  obtain ⟨c, s1, b1⟩ := x
  dsimp only at H z1 ⊢
  have G2 := fun W (hW : Rq br s1 b1 W) => num_q br s1 b1 W hW
  obtain ⟨z2, _⟩ := numR_size s1 b1
  generalize numR s1 b1 = x at G2 z2 ⊢
  obtain ⟨k, s2, b2⟩ := x
  dsimp only at G2 z2 ⊢
  have G3 := fun W (hW : Rq br s2 b2 W) => num_q br s2 b2 W hW
  obtain ⟨z3, _⟩ := numR_size s2 b2
  generalize numR s2 b2 = x at G3 z3 ⊢
  obtain ⟨hh, s3, b3⟩ := x
  dsimp only at G3 z3 ⊢
  have kcases : ∀ (o : GObj × ByteArray × Bool), True := fun _ => trivial
  clear kcases
  by_cases e0 : k = 0
  · subst e0
    rw [if_pos rfl]
    have G4 := fun W (hW : Rq br s3 b3 W) => list_q br s3 b3 (by omega) W hW
    generalize listR s3 b3 = x at G4 ⊢
    obtain ⟨l, s4, b4⟩ := x
    dsimp only at G4 ⊢
    go_enter Try.func25, Try.ntmps25
    go_wp2_with (go_at_call 24; go_loud (refine (H).mono ?_))
    rintro e w1 ⟨hO, rfl, hR⟩
    have a0 := hO.cells x0 (by omega)
    have g0 := hO.cells y0 (by omega)
    have OO0 := O0.trans hO
    have q0 := zcells a0 0 _ rfl
    have q1 := zcells a0 1 _ rfl
    have q2 := zcells a0 2 _ rfl
    have q3 := zcells a0 3 _ rfl
    have q4 := zcells a0 4 _ rfl
    have q5 := zcells a0 5 _ rfl
    have qf : ∀ j, w1.frozen? ⟨w.heap.size + 1, j, none⟩ = false := fun j => Lib.frozen_of_heap a0 j
    have x1 : (w1.setCell ⟨w.heap.size + 1, 0, none⟩ (.int .i64 c)).heap[w.heap.size + 1]? = some (.cells #[.int .i64 c, .int .i64 0, .slice none 0 0, .string ⟨#[]⟩, .int .i64 0, .int .i64 0] 41 (0, 0)) := heap_setCell_same _ _ 0 _ _ _ a0
    have y1 : (w1.setCell ⟨w.heap.size + 1, 0, none⟩ (.int .i64 c)).heap[w.heap.size]? = some (.cells zO 41 (0, 0)) := (heap_setCell_other _ ⟨w.heap.size + 1, 0, none⟩ _ _ n1).trans g0
    have h1 := hR.other (k := w.heap.size + 1) (j := 0) (by omega) (.int .i64 c)
    have O1 := OO0.set (b := w.heap.size + 1) (j := 0) (by omega) (.int .i64 c)
    clear a0 g0 OO0 hO hR
    go_wp2_with (go_at_call 24; go_loud (refine ((G2 _ h1)).mono ?_))
    rintro e w2 ⟨hO, rfl, hR⟩
    have a1 := hO.cells x1 (by omega)
    have g1 := hO.cells y1 (by omega)
    have OO1 := O1.trans hO
    have q0 := zcells a1 0 _ rfl
    have q1 := zcells a1 1 _ rfl
    have q2 := zcells a1 2 _ rfl
    have q3 := zcells a1 3 _ rfl
    have q4 := zcells a1 4 _ rfl
    have q5 := zcells a1 5 _ rfl
    have qf : ∀ j, w2.frozen? ⟨w.heap.size + 1, j, none⟩ = false := fun j => Lib.frozen_of_heap a1 j
    have x2 : (w2.setCell ⟨w.heap.size + 1, 1, none⟩ (.int .i64 0)).heap[w.heap.size + 1]? = some (.cells #[.int .i64 c, .int .i64 0, .slice none 0 0, .string ⟨#[]⟩, .int .i64 0, .int .i64 0] 41 (0, 0)) := heap_setCell_same _ _ 1 _ _ _ a1
    have y2 : (w2.setCell ⟨w.heap.size + 1, 1, none⟩ (.int .i64 0)).heap[w.heap.size]? = some (.cells zO 41 (0, 0)) := (heap_setCell_other _ ⟨w.heap.size + 1, 1, none⟩ _ _ n1).trans g1
    have h2 := hR.other (k := w.heap.size + 1) (j := 1) (by omega) (.int .i64 0)
    have O2 := OO1.set (b := w.heap.size + 1) (j := 1) (by omega) (.int .i64 0)
    clear a1 g1 OO1 hO hR
    go_wp2_with (go_at_call 24; go_loud (refine ((G3 _ h2)).mono ?_))
    rintro e w3 ⟨hO, rfl, hR⟩
    have a2 := hO.cells x2 (by omega)
    have g2 := hO.cells y2 (by omega)
    have OO2 := O2.trans hO
    have q0 := zcells a2 0 _ rfl
    have q1 := zcells a2 1 _ rfl
    have q2 := zcells a2 2 _ rfl
    have q3 := zcells a2 3 _ rfl
    have q4 := zcells a2 4 _ rfl
    have q5 := zcells a2 5 _ rfl
    have qf : ∀ j, w3.frozen? ⟨w.heap.size + 1, j, none⟩ = false := fun j => Lib.frozen_of_heap a2 j
    have x3 : (w3.setCell ⟨w.heap.size + 1, 5, none⟩ (.int .i64 hh)).heap[w.heap.size + 1]? = some (.cells #[.int .i64 c, .int .i64 0, .slice none 0 0, .string ⟨#[]⟩, .int .i64 0, .int .i64 hh] 41 (0, 0)) := heap_setCell_same _ _ 5 _ _ _ a2
    have y3 : (w3.setCell ⟨w.heap.size + 1, 5, none⟩ (.int .i64 hh)).heap[w.heap.size]? = some (.cells zO 41 (0, 0)) := (heap_setCell_other _ ⟨w.heap.size + 1, 5, none⟩ _ _ n1).trans g2
    have h3 := hR.other (k := w.heap.size + 1) (j := 5) (by omega) (.int .i64 hh)
    have O3 := OO2.set (b := w.heap.size + 1) (j := 5) (by omega) (.int .i64 hh)
    clear a2 g2 OO2 hO hR
    go_wp2_with (go_at_call 26; go_loud (refine (G4 _ h3).mono ?_))
    rintro e w5 ⟨hO, u, rfl, hR, hI⟩
    have x5 := hO.cells x3 (by omega)
    have y5 := hO.cells y3 (by omega)
    have k0 := own_ne hI y5 (by decide)
    have k1 := own_ne hI x5 (by decide)
    have hI' := IntRow.le hI O3.size
    have O5 := O3.trans hO
    obtain ⟨A, cap, rfl⟩ : ∃ A cap, u = .slice A l.length cap := by
      rcases ownsRow_form hI with ⟨h1, h2⟩ | ⟨g, cap, h1, _⟩
      · exact ⟨none, 0, by rw [h1, h2]⟩
      · exact ⟨_, cap, h1⟩
    clear x3 y3 x0 y0 x1 y1 x2 y2 h0 h1 h2 h3 O0 O1 O2 O3 hO hI H G2 G3 G4 ea
    have q0 := zcells x5 0 _ rfl
    have q1 := zcells x5 1 _ rfl
    have q2 := zcells x5 2 _ rfl
    have q3 := zcells x5 3 _ rfl
    have q4 := zcells x5 4 _ rfl
    have q5 := zcells x5 5 _ rfl
    have qf : ∀ j, w5.frozen? ⟨w.heap.size + 1, j, none⟩ = false := fun j => Lib.frozen_of_heap x5 j
    have r0 := zcells y5 0 _ rfl
    have r1 := zcells y5 1 _ rfl
    have r2 := zcells y5 2 _ rfl
    have r3 := zcells y5 3 _ rfl
    have r4 := zcells y5 4 _ rfl
    have r5 := zcells y5 5 _ rfl
    have rf : ∀ j, w5.frozen? ⟨w.heap.size, j, none⟩ = false := fun j => Lib.frozen_of_heap y5 j
    have HX : Hid (w5.heap[w.heap.size]? = some (.cells zO 41 (0, 0))) := y5
    have hn0 : (.slice A l.length cap : Value).ownBlock ≠ some w.heap.size := k0
    have hn1 : (.slice A l.length cap : Value).ownBlock ≠ some (w.heap.size + 1) := k1
    have F : FinQ w br s4 b4 (.slice A l.length cap) l w5 := ⟨O5, hR, hI'⟩
    clear x5 y5 hR O5
    go_wp2
    have y5 := HX.out
    have y6 : (w5.setCell ⟨w.heap.size + 1, 2, none⟩ (.slice A l.length cap)).heap[w.heap.size]? = some (.cells zO 41 (0, 0)) := (heap_setCell_other _ ⟨w.heap.size + 1, 2, none⟩ _ _ n1).trans y5
    have X0 : ((w5.setCell ⟨w.heap.size + 1, 2, none⟩ (.slice A l.length cap)).setCell ⟨w.heap.size, 0, none⟩ (.int .i64 c)).heap[w.heap.size]? = some (.cells #[.int .i64 c, .int .i64 0, .slice none 0 0, .string ⟨#[]⟩, .int .i64 0, .int .i64 0] 41 (0, 0)) := heap_setCell_same _ _ 0 _ _ _ y6
    have X1 : (((w5.setCell ⟨w.heap.size + 1, 2, none⟩ (.slice A l.length cap)).setCell ⟨w.heap.size, 0, none⟩ (.int .i64 c)).setCell ⟨w.heap.size, 1, none⟩ (.int .i64 0)).heap[w.heap.size]? = some (.cells #[.int .i64 c, .int .i64 0, .slice none 0 0, .string ⟨#[]⟩, .int .i64 0, .int .i64 0] 41 (0, 0)) := heap_setCell_same _ _ 1 _ _ _ X0
    have X2 : ((((w5.setCell ⟨w.heap.size + 1, 2, none⟩ (.slice A l.length cap)).setCell ⟨w.heap.size, 0, none⟩ (.int .i64 c)).setCell ⟨w.heap.size, 1, none⟩ (.int .i64 0)).setCell ⟨w.heap.size, 2, none⟩ (.slice A l.length cap)).heap[w.heap.size]? = some (.cells #[.int .i64 c, .int .i64 0, .slice A l.length cap, .string ⟨#[]⟩, .int .i64 0, .int .i64 0] 41 (0, 0)) := heap_setCell_same _ _ 2 _ _ _ X1
    have X3 : (((((w5.setCell ⟨w.heap.size + 1, 2, none⟩ (.slice A l.length cap)).setCell ⟨w.heap.size, 0, none⟩ (.int .i64 c)).setCell ⟨w.heap.size, 1, none⟩ (.int .i64 0)).setCell ⟨w.heap.size, 2, none⟩ (.slice A l.length cap)).setCell ⟨w.heap.size, 3, none⟩ (.string ⟨#[]⟩)).heap[w.heap.size]? = some (.cells #[.int .i64 c, .int .i64 0, .slice A l.length cap, .string ⟨#[]⟩, .int .i64 0, .int .i64 0] 41 (0, 0)) := heap_setCell_same _ _ 3 _ _ _ X2
    have X4 : ((((((w5.setCell ⟨w.heap.size + 1, 2, none⟩ (.slice A l.length cap)).setCell ⟨w.heap.size, 0, none⟩ (.int .i64 c)).setCell ⟨w.heap.size, 1, none⟩ (.int .i64 0)).setCell ⟨w.heap.size, 2, none⟩ (.slice A l.length cap)).setCell ⟨w.heap.size, 3, none⟩ (.string ⟨#[]⟩)).setCell ⟨w.heap.size, 4, none⟩ (.int .i64 0)).heap[w.heap.size]? = some (.cells #[.int .i64 c, .int .i64 0, .slice A l.length cap, .string ⟨#[]⟩, .int .i64 0, .int .i64 0] 41 (0, 0)) := heap_setCell_same _ _ 4 _ _ _ X3
    have X5 : (((((((w5.setCell ⟨w.heap.size + 1, 2, none⟩ (.slice A l.length cap)).setCell ⟨w.heap.size, 0, none⟩ (.int .i64 c)).setCell ⟨w.heap.size, 1, none⟩ (.int .i64 0)).setCell ⟨w.heap.size, 2, none⟩ (.slice A l.length cap)).setCell ⟨w.heap.size, 3, none⟩ (.string ⟨#[]⟩)).setCell ⟨w.heap.size, 4, none⟩ (.int .i64 0)).setCell ⟨w.heap.size, 5, none⟩ (.int .i64 hh)).heap[w.heap.size]? = some (.cells #[.int .i64 c, .int .i64 0, .slice A l.length cap, .string ⟨#[]⟩, .int .i64 0, .int .i64 hh] 41 (0, 0)) := heap_setCell_same _ _ 5 _ _ _ X4
    refine post25 (u := .slice A l.length cap) rfl rfl X5 ?_
    repeat' (first | (with_reducible exact F) | with_reducible refine FinQ.set ?_ (by omega) (by omega) (by first | exact hn0 | exact hn1))
  · rw [if_neg e0]
    by_cases e1 : k = 1
    · subst e1
      rw [if_pos rfl]
      have G4 := fun W (hW : Rq br s3 b3 W) => num_q br s3 b3 W hW
      generalize numR s3 b3 = x at G4 ⊢
      obtain ⟨n, s4, b4⟩ := x
      dsimp only at G4 ⊢
      have G5 := fun W (hW : Rq br s4 b4 W) => take_q br s4 b4 n W hW
      generalize takeR n s4 b4 = x at G5 ⊢
      obtain ⟨t, s5, b5⟩ := x
      dsimp only at G5 ⊢
      go_enter Try.func25, Try.ntmps25
      go_wp2_with (go_at_call 24; go_loud (refine (H).mono ?_))
      rintro e w1 ⟨hO, rfl, hR⟩
      have a0 := hO.cells x0 (by omega)
      have g0 := hO.cells y0 (by omega)
      have OO0 := O0.trans hO
      have q0 := zcells a0 0 _ rfl
      have q1 := zcells a0 1 _ rfl
      have q2 := zcells a0 2 _ rfl
      have q3 := zcells a0 3 _ rfl
      have q4 := zcells a0 4 _ rfl
      have q5 := zcells a0 5 _ rfl
      have qf : ∀ j, w1.frozen? ⟨w.heap.size + 1, j, none⟩ = false := fun j => Lib.frozen_of_heap a0 j
      have x1 : (w1.setCell ⟨w.heap.size + 1, 0, none⟩ (.int .i64 c)).heap[w.heap.size + 1]? = some (.cells #[.int .i64 c, .int .i64 0, .slice none 0 0, .string ⟨#[]⟩, .int .i64 0, .int .i64 0] 41 (0, 0)) := heap_setCell_same _ _ 0 _ _ _ a0
      have y1 : (w1.setCell ⟨w.heap.size + 1, 0, none⟩ (.int .i64 c)).heap[w.heap.size]? = some (.cells zO 41 (0, 0)) := (heap_setCell_other _ ⟨w.heap.size + 1, 0, none⟩ _ _ n1).trans g0
      have h1 := hR.other (k := w.heap.size + 1) (j := 0) (by omega) (.int .i64 c)
      have O1 := OO0.set (b := w.heap.size + 1) (j := 0) (by omega) (.int .i64 c)
      clear a0 g0 OO0 hO hR
      go_wp2_with (go_at_call 24; go_loud (refine ((G2 _ h1)).mono ?_))
      rintro e w2 ⟨hO, rfl, hR⟩
      have a1 := hO.cells x1 (by omega)
      have g1 := hO.cells y1 (by omega)
      have OO1 := O1.trans hO
      have q0 := zcells a1 0 _ rfl
      have q1 := zcells a1 1 _ rfl
      have q2 := zcells a1 2 _ rfl
      have q3 := zcells a1 3 _ rfl
      have q4 := zcells a1 4 _ rfl
      have q5 := zcells a1 5 _ rfl
      have qf : ∀ j, w2.frozen? ⟨w.heap.size + 1, j, none⟩ = false := fun j => Lib.frozen_of_heap a1 j
      have x2 : (w2.setCell ⟨w.heap.size + 1, 1, none⟩ (.int .i64 1)).heap[w.heap.size + 1]? = some (.cells #[.int .i64 c, .int .i64 1, .slice none 0 0, .string ⟨#[]⟩, .int .i64 0, .int .i64 0] 41 (0, 0)) := heap_setCell_same _ _ 1 _ _ _ a1
      have y2 : (w2.setCell ⟨w.heap.size + 1, 1, none⟩ (.int .i64 1)).heap[w.heap.size]? = some (.cells zO 41 (0, 0)) := (heap_setCell_other _ ⟨w.heap.size + 1, 1, none⟩ _ _ n1).trans g1
      have h2 := hR.other (k := w.heap.size + 1) (j := 1) (by omega) (.int .i64 1)
      have O2 := OO1.set (b := w.heap.size + 1) (j := 1) (by omega) (.int .i64 1)
      clear a1 g1 OO1 hO hR
      go_wp2_with (go_at_call 24; go_loud (refine ((G3 _ h2)).mono ?_))
      rintro e w3 ⟨hO, rfl, hR⟩
      have a2 := hO.cells x2 (by omega)
      have g2 := hO.cells y2 (by omega)
      have OO2 := O2.trans hO
      have q0 := zcells a2 0 _ rfl
      have q1 := zcells a2 1 _ rfl
      have q2 := zcells a2 2 _ rfl
      have q3 := zcells a2 3 _ rfl
      have q4 := zcells a2 4 _ rfl
      have q5 := zcells a2 5 _ rfl
      have qf : ∀ j, w3.frozen? ⟨w.heap.size + 1, j, none⟩ = false := fun j => Lib.frozen_of_heap a2 j
      have x3 : (w3.setCell ⟨w.heap.size + 1, 5, none⟩ (.int .i64 hh)).heap[w.heap.size + 1]? = some (.cells #[.int .i64 c, .int .i64 1, .slice none 0 0, .string ⟨#[]⟩, .int .i64 0, .int .i64 hh] 41 (0, 0)) := heap_setCell_same _ _ 5 _ _ _ a2
      have y3 : (w3.setCell ⟨w.heap.size + 1, 5, none⟩ (.int .i64 hh)).heap[w.heap.size]? = some (.cells zO 41 (0, 0)) := (heap_setCell_other _ ⟨w.heap.size + 1, 5, none⟩ _ _ n1).trans g2
      have h3 := hR.other (k := w.heap.size + 1) (j := 5) (by omega) (.int .i64 hh)
      have O3 := OO2.set (b := w.heap.size + 1) (j := 5) (by omega) (.int .i64 hh)
      clear a2 g2 OO2 hO hR
      go_wp2_with (go_at_call 24; go_loud (refine (G4 _ h3).mono ?_))
      rintro e w4 ⟨hO, rfl, h4⟩
      have x4 := hO.cells x3 (by omega)
      have y4 := hO.cells y3 (by omega)
      have O4 := O3.trans hO
      clear x3 y3 O3 hO h3
      go_wp2_with (go_at_call 23; go_loud (refine (G5 _ h4).mono ?_))
      rintro e w5 ⟨hO, rfl, hR⟩
      have x5 := hO.cells x4 (by omega)
      have y5 := hO.cells y4 (by omega)
      have O5 := O4.trans hO
      clear x4 y4 x0 y0 x1 y1 x2 y2 h0 h1 h2 h4 O0 O1 O2 O4 hO H G2 G3 G4 G5 ea
      have q0 := zcells x5 0 _ rfl
      have q1 := zcells x5 1 _ rfl
      have q2 := zcells x5 2 _ rfl
      have q3 := zcells x5 3 _ rfl
      have q4 := zcells x5 4 _ rfl
      have q5 := zcells x5 5 _ rfl
      have qf : ∀ j, w5.frozen? ⟨w.heap.size + 1, j, none⟩ = false := fun j => Lib.frozen_of_heap x5 j
      have r0 := zcells y5 0 _ rfl
      have r1 := zcells y5 1 _ rfl
      have r2 := zcells y5 2 _ rfl
      have r3 := zcells y5 3 _ rfl
      have r4 := zcells y5 4 _ rfl
      have r5 := zcells y5 5 _ rfl
      have rf : ∀ j, w5.frozen? ⟨w.heap.size, j, none⟩ = false := fun j => Lib.frozen_of_heap y5 j
      have HX : Hid (w5.heap[w.heap.size]? = some (.cells zO 41 (0, 0))) := y5
      have hn0 : (.slice none 0 0 : Value).ownBlock ≠ some w.heap.size := by simp [Value.ownBlock]
      have hn1 : (.slice none 0 0 : Value).ownBlock ≠ some (w.heap.size + 1) := by simp [Value.ownBlock]
      have F : FinQ w br s5 b5 (.slice none 0 0) [] w5 := ⟨O5, hR, IntRow.nil _ _⟩
      clear x5 y5 hR O5
      go_wp2
      have y5 := HX.out
      have y6 : (w5.setCell ⟨w.heap.size + 1, 3, none⟩ (.string t)).heap[w.heap.size]? = some (.cells zO 41 (0, 0)) := (heap_setCell_other _ ⟨w.heap.size + 1, 3, none⟩ _ _ n1).trans y5
      have X0 : ((w5.setCell ⟨w.heap.size + 1, 3, none⟩ (.string t)).setCell ⟨w.heap.size, 0, none⟩ (.int .i64 c)).heap[w.heap.size]? = some (.cells #[.int .i64 c, .int .i64 0, .slice none 0 0, .string ⟨#[]⟩, .int .i64 0, .int .i64 0] 41 (0, 0)) := heap_setCell_same _ _ 0 _ _ _ y6
      have X1 : (((w5.setCell ⟨w.heap.size + 1, 3, none⟩ (.string t)).setCell ⟨w.heap.size, 0, none⟩ (.int .i64 c)).setCell ⟨w.heap.size, 1, none⟩ (.int .i64 1)).heap[w.heap.size]? = some (.cells #[.int .i64 c, .int .i64 1, .slice none 0 0, .string ⟨#[]⟩, .int .i64 0, .int .i64 0] 41 (0, 0)) := heap_setCell_same _ _ 1 _ _ _ X0
      have X2 : ((((w5.setCell ⟨w.heap.size + 1, 3, none⟩ (.string t)).setCell ⟨w.heap.size, 0, none⟩ (.int .i64 c)).setCell ⟨w.heap.size, 1, none⟩ (.int .i64 1)).setCell ⟨w.heap.size, 2, none⟩ (.slice none 0 0)).heap[w.heap.size]? = some (.cells #[.int .i64 c, .int .i64 1, .slice none 0 0, .string ⟨#[]⟩, .int .i64 0, .int .i64 0] 41 (0, 0)) := heap_setCell_same _ _ 2 _ _ _ X1
      have X3 : (((((w5.setCell ⟨w.heap.size + 1, 3, none⟩ (.string t)).setCell ⟨w.heap.size, 0, none⟩ (.int .i64 c)).setCell ⟨w.heap.size, 1, none⟩ (.int .i64 1)).setCell ⟨w.heap.size, 2, none⟩ (.slice none 0 0)).setCell ⟨w.heap.size, 3, none⟩ (.string t)).heap[w.heap.size]? = some (.cells #[.int .i64 c, .int .i64 1, .slice none 0 0, .string t, .int .i64 0, .int .i64 0] 41 (0, 0)) := heap_setCell_same _ _ 3 _ _ _ X2
      have X4 : ((((((w5.setCell ⟨w.heap.size + 1, 3, none⟩ (.string t)).setCell ⟨w.heap.size, 0, none⟩ (.int .i64 c)).setCell ⟨w.heap.size, 1, none⟩ (.int .i64 1)).setCell ⟨w.heap.size, 2, none⟩ (.slice none 0 0)).setCell ⟨w.heap.size, 3, none⟩ (.string t)).setCell ⟨w.heap.size, 4, none⟩ (.int .i64 0)).heap[w.heap.size]? = some (.cells #[.int .i64 c, .int .i64 1, .slice none 0 0, .string t, .int .i64 0, .int .i64 0] 41 (0, 0)) := heap_setCell_same _ _ 4 _ _ _ X3
      have X5 : (((((((w5.setCell ⟨w.heap.size + 1, 3, none⟩ (.string t)).setCell ⟨w.heap.size, 0, none⟩ (.int .i64 c)).setCell ⟨w.heap.size, 1, none⟩ (.int .i64 1)).setCell ⟨w.heap.size, 2, none⟩ (.slice none 0 0)).setCell ⟨w.heap.size, 3, none⟩ (.string t)).setCell ⟨w.heap.size, 4, none⟩ (.int .i64 0)).setCell ⟨w.heap.size, 5, none⟩ (.int .i64 hh)).heap[w.heap.size]? = some (.cells #[.int .i64 c, .int .i64 1, .slice none 0 0, .string t, .int .i64 0, .int .i64 hh] 41 (0, 0)) := heap_setCell_same _ _ 5 _ _ _ X4
      refine post25 (u := .slice none 0 0) rfl rfl X5 ?_
      repeat' (first | (with_reducible exact F) | with_reducible refine FinQ.set ?_ (by omega) (by omega) (by first | exact hn0 | exact hn1))
    · rw [if_neg e1]
      by_cases e2 : k = 2
      · subst e2
        rw [if_pos rfl]
        have G4 := fun W (hW : Rq br s3 b3 W) => take_q br s3 b3 8 W hW
        have zt := (takeR_size 8 s3 b3).1
        generalize takeR 8 s3 b3 = x at G4 zt ⊢
        obtain ⟨t, s5, b5⟩ := x
        dsimp only at G4 zt ⊢
        have G5 := fun W => plain_q t (by have : (8 : Int).toNat = 8 := rfl; omega) W
        generalize plainV t = n at G5 ⊢
        clear zt
        go_enter Try.func25, Try.ntmps25
        go_wp2_with (go_at_call 24; go_loud (refine (H).mono ?_))
        rintro e w1 ⟨hO, rfl, hR⟩
        have a0 := hO.cells x0 (by omega)
        have g0 := hO.cells y0 (by omega)
        have OO0 := O0.trans hO
        have q0 := zcells a0 0 _ rfl
        have q1 := zcells a0 1 _ rfl
        have q2 := zcells a0 2 _ rfl
        have q3 := zcells a0 3 _ rfl
        have q4 := zcells a0 4 _ rfl
        have q5 := zcells a0 5 _ rfl
        have qf : ∀ j, w1.frozen? ⟨w.heap.size + 1, j, none⟩ = false := fun j => Lib.frozen_of_heap a0 j
        have x1 : (w1.setCell ⟨w.heap.size + 1, 0, none⟩ (.int .i64 c)).heap[w.heap.size + 1]? = some (.cells #[.int .i64 c, .int .i64 0, .slice none 0 0, .string ⟨#[]⟩, .int .i64 0, .int .i64 0] 41 (0, 0)) := heap_setCell_same _ _ 0 _ _ _ a0
        have y1 : (w1.setCell ⟨w.heap.size + 1, 0, none⟩ (.int .i64 c)).heap[w.heap.size]? = some (.cells zO 41 (0, 0)) := (heap_setCell_other _ ⟨w.heap.size + 1, 0, none⟩ _ _ n1).trans g0
        have h1 := hR.other (k := w.heap.size + 1) (j := 0) (by omega) (.int .i64 c)
        have O1 := OO0.set (b := w.heap.size + 1) (j := 0) (by omega) (.int .i64 c)
        clear a0 g0 OO0 hO hR
        go_wp2_with (go_at_call 24; go_loud (refine ((G2 _ h1)).mono ?_))
        rintro e w2 ⟨hO, rfl, hR⟩
        have a1 := hO.cells x1 (by omega)
        have g1 := hO.cells y1 (by omega)
        have OO1 := O1.trans hO
        have q0 := zcells a1 0 _ rfl
        have q1 := zcells a1 1 _ rfl
        have q2 := zcells a1 2 _ rfl
        have q3 := zcells a1 3 _ rfl
        have q4 := zcells a1 4 _ rfl
        have q5 := zcells a1 5 _ rfl
        have qf : ∀ j, w2.frozen? ⟨w.heap.size + 1, j, none⟩ = false := fun j => Lib.frozen_of_heap a1 j
        have x2 : (w2.setCell ⟨w.heap.size + 1, 1, none⟩ (.int .i64 2)).heap[w.heap.size + 1]? = some (.cells #[.int .i64 c, .int .i64 2, .slice none 0 0, .string ⟨#[]⟩, .int .i64 0, .int .i64 0] 41 (0, 0)) := heap_setCell_same _ _ 1 _ _ _ a1
        have y2 : (w2.setCell ⟨w.heap.size + 1, 1, none⟩ (.int .i64 2)).heap[w.heap.size]? = some (.cells zO 41 (0, 0)) := (heap_setCell_other _ ⟨w.heap.size + 1, 1, none⟩ _ _ n1).trans g1
        have h2 := hR.other (k := w.heap.size + 1) (j := 1) (by omega) (.int .i64 2)
        have O2 := OO1.set (b := w.heap.size + 1) (j := 1) (by omega) (.int .i64 2)
        clear a1 g1 OO1 hO hR
        go_wp2_with (go_at_call 24; go_loud (refine ((G3 _ h2)).mono ?_))
        rintro e w3 ⟨hO, rfl, hR⟩
        have a2 := hO.cells x2 (by omega)
        have g2 := hO.cells y2 (by omega)
        have OO2 := O2.trans hO
        have q0 := zcells a2 0 _ rfl
        have q1 := zcells a2 1 _ rfl
        have q2 := zcells a2 2 _ rfl
        have q3 := zcells a2 3 _ rfl
        have q4 := zcells a2 4 _ rfl
        have q5 := zcells a2 5 _ rfl
        have qf : ∀ j, w3.frozen? ⟨w.heap.size + 1, j, none⟩ = false := fun j => Lib.frozen_of_heap a2 j
        have x3 : (w3.setCell ⟨w.heap.size + 1, 5, none⟩ (.int .i64 hh)).heap[w.heap.size + 1]? = some (.cells #[.int .i64 c, .int .i64 2, .slice none 0 0, .string ⟨#[]⟩, .int .i64 0, .int .i64 hh] 41 (0, 0)) := heap_setCell_same _ _ 5 _ _ _ a2
        have y3 : (w3.setCell ⟨w.heap.size + 1, 5, none⟩ (.int .i64 hh)).heap[w.heap.size]? = some (.cells zO 41 (0, 0)) := (heap_setCell_other _ ⟨w.heap.size + 1, 5, none⟩ _ _ n1).trans g2
        have h3 := hR.other (k := w.heap.size + 1) (j := 5) (by omega) (.int .i64 hh)
        have O3 := OO2.set (b := w.heap.size + 1) (j := 5) (by omega) (.int .i64 hh)
        clear a2 g2 OO2 hO hR
        go_wp2_with (go_at_call 23; go_loud (refine (G4 _ h3).mono ?_))
        rintro e w4 ⟨hO, rfl, h4⟩
        have x4 := hO.cells x3 (by omega)
        have y4 := hO.cells y3 (by omega)
        have O4 := O3.trans hO
        clear x3 y3 O3 hO h3
        go_wp2_with (go_at_call 50; go_loud (refine (G5 _).mono ?_))
        rintro e w5 ⟨rfl, hbw⟩
        have hO : OffR br w4 w5 := .of hbw
        have hR := h4.below hbw
        have x5 := hO.cells x4 (by omega)
        have y5 := hO.cells y4 (by omega)
        have O5 := O4.trans hO
        clear x4 y4 x0 y0 x1 y1 x2 y2 h0 h1 h2 h4 O0 O1 O2 O4 hO H G2 G3 G4 G5 ea hbw
        have q0 := zcells x5 0 _ rfl
        have q1 := zcells x5 1 _ rfl
        have q2 := zcells x5 2 _ rfl
        have q3 := zcells x5 3 _ rfl
        have q4 := zcells x5 4 _ rfl
        have q5 := zcells x5 5 _ rfl
        have qf : ∀ j, w5.frozen? ⟨w.heap.size + 1, j, none⟩ = false := fun j => Lib.frozen_of_heap x5 j
        have r0 := zcells y5 0 _ rfl
        have r1 := zcells y5 1 _ rfl
        have r2 := zcells y5 2 _ rfl
        have r3 := zcells y5 3 _ rfl
        have r4 := zcells y5 4 _ rfl
        have r5 := zcells y5 5 _ rfl
        have rf : ∀ j, w5.frozen? ⟨w.heap.size, j, none⟩ = false := fun j => Lib.frozen_of_heap y5 j
        have HX : Hid (w5.heap[w.heap.size]? = some (.cells zO 41 (0, 0))) := y5
        have hn0 : (.slice none 0 0 : Value).ownBlock ≠ some w.heap.size := by simp [Value.ownBlock]
        have hn1 : (.slice none 0 0 : Value).ownBlock ≠ some (w.heap.size + 1) := by simp [Value.ownBlock]
        have F : FinQ w br s5 b5 (.slice none 0 0) [] w5 := ⟨O5, hR, IntRow.nil _ _⟩
        clear x5 y5 hR O5
        go_wp2
        have y5 := HX.out
        have y6 : (w5.setCell ⟨w.heap.size + 1, 4, none⟩ (.int .i64 n)).heap[w.heap.size]? = some (.cells zO 41 (0, 0)) := (heap_setCell_other _ ⟨w.heap.size + 1, 4, none⟩ _ _ n1).trans y5
        have X0 : ((w5.setCell ⟨w.heap.size + 1, 4, none⟩ (.int .i64 n)).setCell ⟨w.heap.size, 0, none⟩ (.int .i64 c)).heap[w.heap.size]? = some (.cells #[.int .i64 c, .int .i64 0, .slice none 0 0, .string ⟨#[]⟩, .int .i64 0, .int .i64 0] 41 (0, 0)) := heap_setCell_same _ _ 0 _ _ _ y6
        have X1 : (((w5.setCell ⟨w.heap.size + 1, 4, none⟩ (.int .i64 n)).setCell ⟨w.heap.size, 0, none⟩ (.int .i64 c)).setCell ⟨w.heap.size, 1, none⟩ (.int .i64 2)).heap[w.heap.size]? = some (.cells #[.int .i64 c, .int .i64 2, .slice none 0 0, .string ⟨#[]⟩, .int .i64 0, .int .i64 0] 41 (0, 0)) := heap_setCell_same _ _ 1 _ _ _ X0
        have X2 : ((((w5.setCell ⟨w.heap.size + 1, 4, none⟩ (.int .i64 n)).setCell ⟨w.heap.size, 0, none⟩ (.int .i64 c)).setCell ⟨w.heap.size, 1, none⟩ (.int .i64 2)).setCell ⟨w.heap.size, 2, none⟩ (.slice none 0 0)).heap[w.heap.size]? = some (.cells #[.int .i64 c, .int .i64 2, .slice none 0 0, .string ⟨#[]⟩, .int .i64 0, .int .i64 0] 41 (0, 0)) := heap_setCell_same _ _ 2 _ _ _ X1
        have X3 : (((((w5.setCell ⟨w.heap.size + 1, 4, none⟩ (.int .i64 n)).setCell ⟨w.heap.size, 0, none⟩ (.int .i64 c)).setCell ⟨w.heap.size, 1, none⟩ (.int .i64 2)).setCell ⟨w.heap.size, 2, none⟩ (.slice none 0 0)).setCell ⟨w.heap.size, 3, none⟩ (.string ⟨#[]⟩)).heap[w.heap.size]? = some (.cells #[.int .i64 c, .int .i64 2, .slice none 0 0, .string ⟨#[]⟩, .int .i64 0, .int .i64 0] 41 (0, 0)) := heap_setCell_same _ _ 3 _ _ _ X2
        have X4 : ((((((w5.setCell ⟨w.heap.size + 1, 4, none⟩ (.int .i64 n)).setCell ⟨w.heap.size, 0, none⟩ (.int .i64 c)).setCell ⟨w.heap.size, 1, none⟩ (.int .i64 2)).setCell ⟨w.heap.size, 2, none⟩ (.slice none 0 0)).setCell ⟨w.heap.size, 3, none⟩ (.string ⟨#[]⟩)).setCell ⟨w.heap.size, 4, none⟩ (.int .i64 n)).heap[w.heap.size]? = some (.cells #[.int .i64 c, .int .i64 2, .slice none 0 0, .string ⟨#[]⟩, .int .i64 n, .int .i64 0] 41 (0, 0)) := heap_setCell_same _ _ 4 _ _ _ X3
        have X5 : (((((((w5.setCell ⟨w.heap.size + 1, 4, none⟩ (.int .i64 n)).setCell ⟨w.heap.size, 0, none⟩ (.int .i64 c)).setCell ⟨w.heap.size, 1, none⟩ (.int .i64 2)).setCell ⟨w.heap.size, 2, none⟩ (.slice none 0 0)).setCell ⟨w.heap.size, 3, none⟩ (.string ⟨#[]⟩)).setCell ⟨w.heap.size, 4, none⟩ (.int .i64 n)).setCell ⟨w.heap.size, 5, none⟩ (.int .i64 hh)).heap[w.heap.size]? = some (.cells #[.int .i64 c, .int .i64 2, .slice none 0 0, .string ⟨#[]⟩, .int .i64 n, .int .i64 hh] 41 (0, 0)) := heap_setCell_same _ _ 5 _ _ _ X4
        refine post25 (u := .slice none 0 0) rfl rfl X5 ?_
        repeat' (first | (with_reducible exact F) | with_reducible refine FinQ.set ?_ (by omega) (by omega) (by first | exact hn0 | exact hn1))
      · rw [if_neg e2]
        have p0 : (k == 0) = false := by simpa using e0
        have p1 : (k == 1) = false := by simpa using e1
        have p2 : (k == 2) = false := by simpa using e2
        go_enter Try.func25, Try.ntmps25
        go_wp2_with (go_at_call 24; go_loud (refine (H).mono ?_))
        rintro e w1 ⟨hO, rfl, hR⟩
        have a0 := hO.cells x0 (by omega)
        have g0 := hO.cells y0 (by omega)
        have OO0 := O0.trans hO
        have q0 := zcells a0 0 _ rfl
        have q1 := zcells a0 1 _ rfl
        have q2 := zcells a0 2 _ rfl
        have q3 := zcells a0 3 _ rfl
        have q4 := zcells a0 4 _ rfl
        have q5 := zcells a0 5 _ rfl
        have qf : ∀ j, w1.frozen? ⟨w.heap.size + 1, j, none⟩ = false := fun j => Lib.frozen_of_heap a0 j
        have x1 : (w1.setCell ⟨w.heap.size + 1, 0, none⟩ (.int .i64 c)).heap[w.heap.size + 1]? = some (.cells #[.int .i64 c, .int .i64 0, .slice none 0 0, .string ⟨#[]⟩, .int .i64 0, .int .i64 0] 41 (0, 0)) := heap_setCell_same _ _ 0 _ _ _ a0
        have y1 : (w1.setCell ⟨w.heap.size + 1, 0, none⟩ (.int .i64 c)).heap[w.heap.size]? = some (.cells zO 41 (0, 0)) := (heap_setCell_other _ ⟨w.heap.size + 1, 0, none⟩ _ _ n1).trans g0
        have h1 := hR.other (k := w.heap.size + 1) (j := 0) (by omega) (.int .i64 c)
        have O1 := OO0.set (b := w.heap.size + 1) (j := 0) (by omega) (.int .i64 c)
        clear a0 g0 OO0 hO hR
        go_wp2_with (go_at_call 24; go_loud (refine ((G2 _ h1)).mono ?_))
        rintro e w2 ⟨hO, rfl, hR⟩
        have a1 := hO.cells x1 (by omega)
        have g1 := hO.cells y1 (by omega)
        have OO1 := O1.trans hO
        have q0 := zcells a1 0 _ rfl
        have q1 := zcells a1 1 _ rfl
        have q2 := zcells a1 2 _ rfl
        have q3 := zcells a1 3 _ rfl
        have q4 := zcells a1 4 _ rfl
        have q5 := zcells a1 5 _ rfl
        have qf : ∀ j, w2.frozen? ⟨w.heap.size + 1, j, none⟩ = false := fun j => Lib.frozen_of_heap a1 j
        have x2 : (w2.setCell ⟨w.heap.size + 1, 1, none⟩ (.int .i64 k)).heap[w.heap.size + 1]? = some (.cells #[.int .i64 c, .int .i64 k, .slice none 0 0, .string ⟨#[]⟩, .int .i64 0, .int .i64 0] 41 (0, 0)) := heap_setCell_same _ _ 1 _ _ _ a1
        have y2 : (w2.setCell ⟨w.heap.size + 1, 1, none⟩ (.int .i64 k)).heap[w.heap.size]? = some (.cells zO 41 (0, 0)) := (heap_setCell_other _ ⟨w.heap.size + 1, 1, none⟩ _ _ n1).trans g1
        have h2 := hR.other (k := w.heap.size + 1) (j := 1) (by omega) (.int .i64 k)
        have O2 := OO1.set (b := w.heap.size + 1) (j := 1) (by omega) (.int .i64 k)
        clear a1 g1 OO1 hO hR
        go_wp2_with (go_at_call 24; go_loud (refine ((G3 _ h2)).mono ?_))
        rintro e w3 ⟨hO, rfl, hR⟩
        have a2 := hO.cells x2 (by omega)
        have g2 := hO.cells y2 (by omega)
        have OO2 := O2.trans hO
        have q0 := zcells a2 0 _ rfl
        have q1 := zcells a2 1 _ rfl
        have q2 := zcells a2 2 _ rfl
        have q3 := zcells a2 3 _ rfl
        have q4 := zcells a2 4 _ rfl
        have q5 := zcells a2 5 _ rfl
        have qf : ∀ j, w3.frozen? ⟨w.heap.size + 1, j, none⟩ = false := fun j => Lib.frozen_of_heap a2 j
        have x5 := a2
        have y5 := g2
        have O5 := OO2
        clear a2 g2 OO2 hO q0 q1 q2 q3 q4 q5 qf x0 y0 x1 y1 x2 y2 h0 h1 h2 O0 O1 O2 H G2 G3 ea
        have q0 := zcells x5 0 _ rfl
        have q1 := zcells x5 1 _ rfl
        have q2 := zcells x5 2 _ rfl
        have q3 := zcells x5 3 _ rfl
        have q4 := zcells x5 4 _ rfl
        have q5 := zcells x5 5 _ rfl
        have qf : ∀ j, w3.frozen? ⟨w.heap.size + 1, j, none⟩ = false := fun j => Lib.frozen_of_heap x5 j
        have r0 := zcells y5 0 _ rfl
        have r1 := zcells y5 1 _ rfl
        have r2 := zcells y5 2 _ rfl
        have r3 := zcells y5 3 _ rfl
        have r4 := zcells y5 4 _ rfl
        have r5 := zcells y5 5 _ rfl
        have rf : ∀ j, w3.frozen? ⟨w.heap.size, j, none⟩ = false := fun j => Lib.frozen_of_heap y5 j
        have HX : Hid (w3.heap[w.heap.size]? = some (.cells zO 41 (0, 0))) := y5
        have hn0 : (.slice none 0 0 : Value).ownBlock ≠ some w.heap.size := by simp [Value.ownBlock]
        have hn1 : (.slice none 0 0 : Value).ownBlock ≠ some (w.heap.size + 1) := by simp [Value.ownBlock]
        have F : FinQ w br s3 b3 (.slice none 0 0) [] w3 := ⟨O5, hR, IntRow.nil _ _⟩
        clear x5 y5 hR O5
        go_wp2
        have y5 := HX.out
        have y6 : (w3.setCell ⟨w.heap.size + 1, 5, none⟩ (.int .i64 hh)).heap[w.heap.size]? = some (.cells zO 41 (0, 0)) := (heap_setCell_other _ ⟨w.heap.size + 1, 5, none⟩ _ _ n1).trans y5
        have X0 : ((w3.setCell ⟨w.heap.size + 1, 5, none⟩ (.int .i64 hh)).setCell ⟨w.heap.size, 0, none⟩ (.int .i64 c)).heap[w.heap.size]? = some (.cells #[.int .i64 c, .int .i64 0, .slice none 0 0, .string ⟨#[]⟩, .int .i64 0, .int .i64 0] 41 (0, 0)) := heap_setCell_same _ _ 0 _ _ _ y6
        have X1 : (((w3.setCell ⟨w.heap.size + 1, 5, none⟩ (.int .i64 hh)).setCell ⟨w.heap.size, 0, none⟩ (.int .i64 c)).setCell ⟨w.heap.size, 1, none⟩ (.int .i64 k)).heap[w.heap.size]? = some (.cells #[.int .i64 c, .int .i64 k, .slice none 0 0, .string ⟨#[]⟩, .int .i64 0, .int .i64 0] 41 (0, 0)) := heap_setCell_same _ _ 1 _ _ _ X0
        have X2 : ((((w3.setCell ⟨w.heap.size + 1, 5, none⟩ (.int .i64 hh)).setCell ⟨w.heap.size, 0, none⟩ (.int .i64 c)).setCell ⟨w.heap.size, 1, none⟩ (.int .i64 k)).setCell ⟨w.heap.size, 2, none⟩ (.slice none 0 0)).heap[w.heap.size]? = some (.cells #[.int .i64 c, .int .i64 k, .slice none 0 0, .string ⟨#[]⟩, .int .i64 0, .int .i64 0] 41 (0, 0)) := heap_setCell_same _ _ 2 _ _ _ X1
        have X3 : (((((w3.setCell ⟨w.heap.size + 1, 5, none⟩ (.int .i64 hh)).setCell ⟨w.heap.size, 0, none⟩ (.int .i64 c)).setCell ⟨w.heap.size, 1, none⟩ (.int .i64 k)).setCell ⟨w.heap.size, 2, none⟩ (.slice none 0 0)).setCell ⟨w.heap.size, 3, none⟩ (.string ⟨#[]⟩)).heap[w.heap.size]? = some (.cells #[.int .i64 c, .int .i64 k, .slice none 0 0, .string ⟨#[]⟩, .int .i64 0, .int .i64 0] 41 (0, 0)) := heap_setCell_same _ _ 3 _ _ _ X2
        have X4 : ((((((w3.setCell ⟨w.heap.size + 1, 5, none⟩ (.int .i64 hh)).setCell ⟨w.heap.size, 0, none⟩ (.int .i64 c)).setCell ⟨w.heap.size, 1, none⟩ (.int .i64 k)).setCell ⟨w.heap.size, 2, none⟩ (.slice none 0 0)).setCell ⟨w.heap.size, 3, none⟩ (.string ⟨#[]⟩)).setCell ⟨w.heap.size, 4, none⟩ (.int .i64 0)).heap[w.heap.size]? = some (.cells #[.int .i64 c, .int .i64 k, .slice none 0 0, .string ⟨#[]⟩, .int .i64 0, .int .i64 0] 41 (0, 0)) := heap_setCell_same _ _ 4 _ _ _ X3
        have X5 : (((((((w3.setCell ⟨w.heap.size + 1, 5, none⟩ (.int .i64 hh)).setCell ⟨w.heap.size, 0, none⟩ (.int .i64 c)).setCell ⟨w.heap.size, 1, none⟩ (.int .i64 k)).setCell ⟨w.heap.size, 2, none⟩ (.slice none 0 0)).setCell ⟨w.heap.size, 3, none⟩ (.string ⟨#[]⟩)).setCell ⟨w.heap.size, 4, none⟩ (.int .i64 0)).setCell ⟨w.heap.size, 5, none⟩ (.int .i64 hh)).heap[w.heap.size]? = some (.cells #[.int .i64 c, .int .i64 k, .slice none 0 0, .string ⟨#[]⟩, .int .i64 0, .int .i64 hh] 41 (0, 0)) := heap_setCell_same _ _ 5 _ _ _ X4
        refine post25 (u := .slice none 0 0) rfl rfl X5 ?_
        repeat' (first | (with_reducible exact F) | with_reducible refine FinQ.set ?_ (by omega) (by omega) (by first | exact hn0 | exact hn1))
end Go.Pv

/- The document's reader: how far it reads. -/
namespace Go.Pv
open Go Go.Proofs Go.RowKit Go.Pv.Bs
theorem manyR_size {α : Type} {f : ByteArray → Bool → α × ByteArray × Bool} {Q : α → Prop} {k B : Nat} (hf : ∀ s b, s.size ≤ B → Q (f s b).1 ∧ (f s b).2.1.size ≤ s.size ∧ ((f s b).2.2 = false → (f s b).2.1.size + k ≤ s.size ∧ b = false)) :
    ∀ (n : Nat) (s : ByteArray) (b : Bool), s.size ≤ B → (∀ x ∈ (manyR f n s b).1, Q x) ∧ k * (manyR f n s b).1.length + (manyR f n s b).2.1.size ≤ s.size + k ∧ (manyR f n s b).2.1.size ≤ s.size ∧ ((manyR f n s b).2.2 = false → b = false)
  | 0, s, b, _ => ⟨fun x hx => by simp [manyR] at hx, by simp only [manyR, List.length_nil]; omega, Nat.le_refl _, fun h => h⟩
  | n + 1, s, b, hs => by
    rw [manyR]
    by_cases hb : b = true
    · rw [if_pos hb]
      exact ⟨fun x hx => by simp at hx, by simp only [List.length_nil]; omega, Nat.le_refl _, fun h => h⟩
    · rw [if_neg hb]
      obtain ⟨q1, q2, q3⟩ := hf s b hs
      obtain ⟨p1, p2, p3, p4⟩ := manyR_size hf n (f s b).2.1 (f s b).2.2 (by omega)
      refine ⟨fun x hx => ?_, ?_, Nat.le_trans p3 q2, fun h => by simpa using hb⟩
      · rcases List.mem_cons.1 hx with rfl | hx
        · exact q1
        · exact p1 x hx
      · cases hc : (f s b).2.2 with
        | true =>
          have e : manyR f n (f s b).2.1 (f s b).2.2 = ([], (f s b).2.1, true) := by rw [hc, manyR_bad]
          rw [← hc, e]
          simp only [List.length_cons, List.length_nil]
          omega
        | false =>
          rw [← hc]
          have := (q3 hc).1
          simp only [List.length_cons, Nat.mul_add, Nat.mul_one]
          omega
theorem listR_size (s : ByteArray) (b : Bool) : 4 * (listR s b).1.length ≤ s.size + 4 ∧ (listR s b).2.1.size ≤ s.size ∧ ((listR s b).2.2 = false → (listR s b).2.1.size + 4 * (listR s b).1.length ≤ s.size ∧ b = false) := by
  unfold listR
  obtain ⟨z1, z2⟩ := numR_size s b
  obtain ⟨_, p2, p3, p4⟩ := manyR_size (f := numR) (Q := fun _ => True) (k := 4) (B := (numR s b).2.1.size) (fun s b _ => by
    obtain ⟨z1, z2⟩ := numR_size s b
    exact ⟨trivial, z1, fun h => ⟨by have := (z2 h).1; omega, (z2 h).2⟩⟩) (numR s b).1.toNat (numR s b).2.1 ((numR s b).2.2 || decide ((numR s b).1 < 0)) (Nat.le_refl _)
  refine ⟨by omega, by omega, fun h => ?_⟩
  have h1 := p4 h
  have h2 : (numR s b).2.2 = false := by
    cases hx : (numR s b).2.2 with
    | false => rfl
    | true => rw [hx] at h1; simp at h1
  obtain ⟨h3, h4⟩ := z2 h2
  exact ⟨by omega, h4⟩
/-- What an object that is read has of size. -/
def FitO (o : GObj) : Prop := o.Slots.length + o.Text.size ≤ big ∧ inR o.Bits
theorem objQ_size (s : ByteArray) (b : Bool) (hs : s.size ≤ big) : FitO (objQ s b).1 ∧ (objQ s b).2.1.size ≤ s.size ∧ ((objQ s b).2.2 = false → (objQ s b).2.1.size + 12 ≤ s.size ∧ b = false) := by
  have z0 : inR 0 := by unfold inR; omega
  have ze : (⟨#[]⟩ : ByteArray).size = 0 := rfl
  unfold big at hs
  unfold objQ
  obtain ⟨z1, y1⟩ := numR_size s b
  generalize numR s b = x at z1 y1 ⊢
  obtain ⟨c, s1, b1⟩ := x
  dsimp only at z1 y1 ⊢
  obtain ⟨z2, y2⟩ := numR_size s1 b1
  generalize numR s1 b1 = x at z2 y2 ⊢
  obtain ⟨k, s2, b2⟩ := x
  dsimp only at z2 y2 ⊢
  obtain ⟨z3, y3⟩ := numR_size s2 b2
  generalize numR s2 b2 = x at z3 y3 ⊢
  obtain ⟨hh, s3, b3⟩ := x
  dsimp only at z3 y3 ⊢
  have fin : ∀ (s4 : ByteArray) (b4 : Bool), s4.size ≤ s3.size → (b4 = false → b3 = false) → s4.size ≤ s.size ∧ (b4 = false → s4.size + 12 ≤ s.size ∧ b = false) := fun s4 b4 h1 h2 => by
    refine ⟨by omega, fun h => ?_⟩
    have h3 := y3 (h2 h)
    have h4 := y2 h3.2
    have h5 := y1 h4.2
    exact ⟨by omega, h5.2⟩
  split
  · obtain ⟨p1, p2, p3⟩ := listR_size s3 b3
    exact ⟨⟨by dsimp only; rw [ze]; unfold big; omega, z0⟩, fin _ _ p2 fun h => (p3 h).2⟩
  · split
    · obtain ⟨z4, y4⟩ := numR_size s3 b3
      generalize numR s3 b3 = x at z4 y4 ⊢
      obtain ⟨n, s4, b4⟩ := x
      dsimp only at z4 y4 ⊢
      obtain ⟨p1, p2, p3⟩ := takeR_size n s4 b4
      have p4 : (takeR n s4 b4).1.size ≤ s4.size := by
        unfold takeR; split
        · rw [ze]; omega
        · simp only [ByteArray.size_extract]; omega
      exact ⟨⟨by dsimp only; simp only [List.length_nil]; unfold big; omega, z0⟩, fin _ _ (by omega) fun h => (y4 (p3 h).2).2⟩
    · split
      · obtain ⟨p1, p2, p3⟩ := takeR_size 8 s3 b3
        exact ⟨⟨by dsimp only; rw [ze]; simp [big], plainV_in _⟩, fin _ _ p2 fun h => (p3 h).2⟩
      · exact ⟨⟨by dsimp only; rw [ze]; simp [big], z0⟩, fin _ _ (Nat.le_refl _) fun h => h⟩
/-- What its Encode answers. -/
def EncLaw : Prop := ∀ (B : Nat) (W : World) (u rv : Value) (h : GHeap) (r : List Int), B ≤ W.heap.size → Slim h → BitsR h → r.length ≤ big → ObRow B W u h.Objs → IntRow B W rv r →
  Calls Try.prog 13 #[.agg #[u, .int .i64 h.Cap, .int .i64 h.Last], rv] W fun e W' => e = .returned (.string (encP h r)) ∧ Below W.heap.size W W'
end Go.Pv
