/- A part of the road: the interpreter of plain data and the proof that it is right. -/
import Derived.Test.YtcomdnpeoicpkaaUD
import Derived.Lib.FrozenHead2
import Derived.Lib.OthersKept
import Derived.Lib.Walk
import Derived.WalkLawsBesides
import Derived.Below
set_option linter.unusedVariables false
set_option linter.unusedSimpArgs false
/- anamnesisref10.Flush: its walk. -/
namespace Go.Pv
open Go Go.Proofs Go.RowKit
set_option maxHeartbeats 8000000
set_option maxRecDepth 100000
set_option linter.unusedVariables false
set_option linter.unusedSimpArgs false
/-- The first places are empty. -/
def Empt (cur : Array Value) (i : Nat) : Prop := ∀ j, j < i → cur[j * 5]? = some (.int .i64 0) ∧ cur[j * 5 + 1]? = some (.int .i64 0) ∧ cur[j * 5 + 2]? = some (.int .i64 0) ∧ cur[j * 5 + 3]? = some (.int .i64 0) ∧ cur[j * 5 + 4]? = some (.bool false)
/-- A place, emptied. -/
def put0 (cur : Array Value) (o : Nat) : Array Value :=
  ((((cur.setIfInBounds o (.int .i64 0)).setIfInBounds (o + 1) (.int .i64 0)).setIfInBounds (o + 2) (.int .i64 0)).setIfInBounds (o + 3) (.int .i64 0)).setIfInBounds (o + 4) (.bool false)
theorem CacheW.put0 {W : World} {Bc Be n cap : Nat} {cur : Array Value} {Tc Te : TypeId} {hi mi : Int} (h : CacheW W Bc Be n cap cur Tc Te hi mi) (hne : Bc ≠ Be) (o : Nat) :
    CacheW (((((W.setCell ⟨Be, o, none⟩ (.int .i64 0)).setCell ⟨Be, o + 1, none⟩ (.int .i64 0)).setCell ⟨Be, o + 2, none⟩ (.int .i64 0)).setCell ⟨Be, o + 3, none⟩ (.int .i64 0)).setCell ⟨Be, o + 4, none⟩ (.bool false)) Bc Be n cap (put0 cur o) Tc Te hi mi := by
  have h1 := heap_setCell_same W Be o _ _ (.int .i64 0) h.row
  have h2 := heap_setCell_same _ Be (o + 1) _ _ (.int .i64 0) h1
  have h3 := heap_setCell_same _ Be (o + 2) _ _ (.int .i64 0) h2
  have h4 := heap_setCell_same _ Be (o + 3) _ _ (.int .i64 0) h3
  have h5 := heap_setCell_same _ Be (o + 4) _ _ (.bool false) h4
  refine ⟨?_, h5⟩
  rw [heap_setCell_other _ ⟨Be, o + 4, none⟩ Bc _ hne, heap_setCell_other _ ⟨Be, o + 3, none⟩ Bc _ hne, heap_setCell_other _ ⟨Be, o + 2, none⟩ Bc _ hne, heap_setCell_other _ ⟨Be, o + 1, none⟩ Bc _ hne, heap_setCell_other _ ⟨Be, o, none⟩ Bc _ hne]
  exact h.box
theorem put0_size (cur : Array Value) (o : Nat) : (Go.Pv.put0 cur o).size = cur.size := by simp [Go.Pv.put0]
theorem put0_at (cur : Array Value) (o : Nat) (h : o + 4 < cur.size) : (Go.Pv.put0 cur o)[o]? = some (.int .i64 0) ∧ (Go.Pv.put0 cur o)[o + 1]? = some (.int .i64 0) ∧ (Go.Pv.put0 cur o)[o + 2]? = some (.int .i64 0) ∧ (Go.Pv.put0 cur o)[o + 3]? = some (.int .i64 0) ∧ (Go.Pv.put0 cur o)[o + 4]? = some (.bool false) := by
  refine ⟨?_, ?_, ?_, ?_, ?_⟩ <;> simp (disch := omega) [Go.Pv.put0, Array.getElem?_setIfInBounds] <;> omega
theorem put0_other (cur : Array Value) (o k : Nat) (h : k < o ∨ o + 4 < k) : (Go.Pv.put0 cur o)[k]? = cur[k]? := by
  simp only [Go.Pv.put0, Array.getElem?_setIfInBounds]
  rw [if_neg (by omega), if_neg (by omega), if_neg (by omega), if_neg (by omega), if_neg (by omega)]
theorem Empt.put {cur : Array Value} {i : Nat} (h : Empt cur i) (hs : i * 5 + 4 < cur.size) : Empt (Go.Pv.put0 cur (i * 5)) (i + 1) := fun j hj => by
  by_cases e : j = i
  · subst e; exact put0_at cur (j * 5) hs
  · have := h j (by omega)
    rw [put0_other _ _ _ (.inl (by omega)), put0_other _ _ _ (.inl (by omega)), put0_other _ _ _ (.inl (by omega)), put0_other _ _ _ (.inl (by omega)), put0_other _ _ _ (.inl (by omega))]
    exact this
/-- What the document's Flush leaves. -/
def FlPost (W : World) (Bc Be n cap sz : Nat) (hi mi : Int) (e : Ending) (W' : World) : Prop := e = .returned (.tuple #[]) ∧ Oth W W' Bc Be ∧ ∃ cur', CacheW W' Bc Be n cap cur' 53 75 hi mi ∧ cur'.size = sz ∧ Empt cur' n
theorem rflush_in {W : World} {Bc Be n cap : Nat} {cur : Array Value} {hi mi : Int} (h : CacheW W Bc Be n cap cur 53 75 hi mi) (hne : Bc ≠ Be) (hn : n ≤ 64) (hsz : n * 5 ≤ cur.size) :
    Calls Try.prog 24 #[.pointer (some ⟨Bc, 0, none⟩)] W (FlPost W Bc Be n cap cur.size hi mi) := by
  obtain ⟨c0, c1, c2, f1, f2⟩ := h.c0
  go_enter Try.func24, Try.ntmps24
  go_wp2
  go_loopw [2] (fun j wr => ∃ (i : Nat) (cu : Array Value), j = .int .i64 i ∧ i ≤ n ∧ CacheW wr Bc Be n cap cu 53 75 hi mi ∧ cu.size = cur.size ∧ Empt cu i ∧ Oth W wr Bc Be)
    (fun j _ => (n - RowKit.intOf j).toNat)
  case atStart => exact ⟨0, cur, rfl, Nat.zero_le _, h, rfl, fun j hj => absurd hj (Nat.not_lt_zero _), Oth.of (Below.refl _ _)⟩
  case round =>
    obtain ⟨i, cu, rfl, hin, hC, hsc, hE, hO⟩ := hrel
    clear c0 c1 c2 f1 f2 h
    obtain ⟨c0, c1, c2, f1, f2⟩ := hC.c0
    by_cases hik : i < n
    · have hlt : (i : Int) < (n : Int) := by omega
      have hdl : decide ((i : Int) < (n : Int)) = true := decide_eq_true hlt
      have h5 : i * 5 + 4 < cu.size := by omega
      have hin2 : (0 : Int) ≤ (i : Int) ∧ (i : Int) < (n : Int) := by omega
      have q : ∀ k, k < 5 → wr.cell? ⟨Be, i * 5 + k, none⟩ = some cu[i * 5 + k]! := fun k hk => by
        rw [Lib.cell_of_heap hC.row]
        rw [Array.getElem?_eq_getElem (show i * 5 + k < cu.size by omega), getElem!_pos cu _ (show i * 5 + k < cu.size by omega)]
      have q0 := q 0 (by omega)
      have q1 := q 1 (by omega)
      have q2 := q 2 (by omega)
      have q3 := q 3 (by omega)
      have q4 := q 4 (by omega)
      rw [Nat.add_zero] at q0
      have qf : ∀ j, wr.frozen? ⟨Be, j, none⟩ = false := fun j => Lib.frozen_of_heap hC.row j
      clear q
      go_wp2
      refine ⟨⟨i + 1, Go.Pv.put0 cu (i * 5), rfl, by omega, hC.put0 hne (i * 5), (put0_size _ _).trans hsc, hE.put h5, ?_⟩, ?_⟩
      · exact hO.trans ((Oth.set Be _ _ (.inr rfl)).trans ((Oth.set Be _ _ (.inr rfl)).trans ((Oth.set Be _ _ (.inr rfl)).trans ((Oth.set Be _ _ (.inr rfl)).trans (Oth.set Be _ _ (.inr rfl))))))
      · simp only [RowKit.intOf]; omega
    · have : i = n := by omega
      subst this
      have hdl : decide ((i : Int) < (i : Int)) = false := decide_eq_false (by omega)
      go_wp2
      exact ⟨rfl, _, by simp [results, Try.f24, go_sem], rfl, hO, cu, hC, hsc, hE⟩
end Go.Pv

/- anamnesisref10.Find: its walk. -/
namespace Go.Pv
open Go Go.Proofs Go.RowKit
set_option maxHeartbeats 8000000
set_option maxRecDepth 100000
set_option linter.unusedVariables false
set_option linter.unusedSimpArgs false
/-- What the document's Find leaves. -/
def FdPost (W : World) (Bc Be n cap : Nat) (cur' : Array Value) (hi mi m a e : Int) (r : Ending) (W' : World) : Prop := r = .returned (.tuple #[.int .i64 m, .int .i64 a, .int .i64 e]) ∧ Oth W W' Bc Be ∧ CacheW W' Bc Be n cap cur' 53 75 hi mi
theorem res26 (W : World) (tmps : Array Value) : (results Try.f26 tmps).run Try.prog W = .ok (.tuple #[tmps.getD 8 undef, tmps.getD 9 undef, tmps.getD 10 undef]) W := by
  simp [results, Try.f26, go_sem]
/-- The document's place. -/
def placeR (n : Nat) (k s : Int) : Int := RowKit.wrap64 (((RowKit.wrap64 (RowKit.wrap64 (31 * k) + s)).tmod n) + n)
theorem rfind_hit {W : World} {Bc Be n cap : Nat} {cur : Array Value} {hi mi : Int} (h : CacheW W Bc Be n cap cur 53 75 hi mi) (hne : Bc ≠ Be) (k s : Int) (hn : 0 < n) (hn2 : n ≤ 64) (x y z : Value) (o : Nat) (ho : o < n) (m a : Int)
    (hp : (placeR n k s).tmod n = o) (hcur : o * 5 + 4 < cur.size)
    (e0 : W.cell? ⟨Be, o * 5, none⟩ = some (.int .i64 k)) (e1 : W.cell? ⟨Be, o * 5 + 1, none⟩ = some (.int .i64 s)) (e2 : W.cell? ⟨Be, o * 5 + 2, none⟩ = some (.int .i64 m)) (e3 : W.cell? ⟨Be, o * 5 + 3, none⟩ = some (.int .i64 a)) (e4 : W.cell? ⟨Be, o * 5 + 4, none⟩ = some (.bool true)) :
    Calls Try.prog 26 #[.pointer (some ⟨Bc, 0, none⟩), .agg #[x, y, z], .int .i64 k, .int .i64 s] W (FdPost W Bc Be n cap cur (RowKit.wrap64 (hi + 1)) mi m a 0) := by
  obtain ⟨c0, c1, c2, f1, f2⟩ := h.c0
  obtain ⟨hlt, hlt'⟩ := h.lt
  unfold placeR at hp
  go_enter Try.func26, Try.ntmps26
  go_wp2
  have hC := h.set1 hne (RowKit.wrap64 (hi + 1))
  have hO : Oth W (W.setCell ⟨Bc, 1, none⟩ (.int .i64 (RowKit.wrap64 (hi + 1)))) Bc Be := Oth.set Bc 1 _ (.inl rfl)
  have hs : (W.setCell ⟨Bc, 1, none⟩ (.int .i64 (RowKit.wrap64 (hi + 1)))).heap.size = W.heap.size := by simp [World.setCell]
  generalize W.setCell ⟨Bc, 1, none⟩ (.int .i64 (RowKit.wrap64 (hi + 1))) = w3 at *
  have hb : Below w3.heap.size w3 ((w3.alloc (.cells #[x, y, z] 24)).alloc (.cells #[.int .i64 k, .int .i64 s, .int .i64 m, .int .i64 a, .bool true] 75)) :=
    ((Below.refl _ w3).alloc (Nat.le_refl _) _).alloc (by rw [World.size_alloc]; omega) _
  have hx : ((w3.alloc (.cells #[x, y, z] 24)).alloc (.cells #[.int .i64 k, .int .i64 s, .int .i64 m, .int .i64 a, .bool true] 75)).heap[W.heap.size + 1]? = some (.cells #[.int .i64 k, .int .i64 s, .int .i64 m, .int .i64 a, .bool true] 75 (0, 0)) := by
    have := heap_alloc_new (w3.alloc (.cells #[x, y, z] 24)) (.cells #[.int .i64 k, .int .i64 s, .int .i64 m, .int .i64 a, .bool true] 75)
    rwa [World.size_alloc, hs] at this
  generalize (w3.alloc (.cells #[x, y, z] 24)).alloc (.cells #[.int .i64 k, .int .i64 s, .int .i64 m, .int .i64 a, .bool true] 75) = w5 at *
  have hC5 : CacheW w5.drew Bc Be n cap cur 53 75 (RowKit.wrap64 (hi + 1)) mi := (hC.on hb).on (below_drew w5)
  have hO5 : Oth W w5.drew Bc Be := (hO.trans (Oth.of hb)).trans (Oth.of (below_drew w5))
  have x2 : w5.drew.cell? ⟨W.heap.size + 1, 2, none⟩ = some (.int .i64 m) := by rw [show w5.drew.cell? ⟨W.heap.size + 1, 2, none⟩ = w5.cell? ⟨W.heap.size + 1, 2, none⟩ from rfl, Lib.cell_of_heap hx]; rfl
  have x3 : w5.drew.cell? ⟨W.heap.size + 1, 3, none⟩ = some (.int .i64 a) := by rw [show w5.drew.cell? ⟨W.heap.size + 1, 3, none⟩ = w5.cell? ⟨W.heap.size + 1, 3, none⟩ from rfl, Lib.cell_of_heap hx]; rfl
  have y2 : w5.cell? ⟨W.heap.size + 1, 2, none⟩ = some (.int .i64 m) := x2
  have y3 : w5.cell? ⟨W.heap.size + 1, 3, none⟩ = some (.int .i64 a) := x3
  clear hx hb hC hO c0 c1 c2 f1 f2 e0 e1 e2 e3 e4
  go_region
  all_goals (
    go_wp2
    exact ⟨rfl, _, res26 _ _, rfl, hO5, hC5⟩)
end Go.Pv

/- anamnesisref10.Find, a miss: its walk. -/
namespace Go.Pv
open Go Go.Proofs Go.RowKit
set_option maxHeartbeats 8000000
set_option maxRecDepth 100000
set_option linter.unusedVariables false
set_option linter.unusedSimpArgs false
def R9Post (V : World) (m a e : Int) (r : Ending) (V' : World) : Prop := r = .returned (.tuple #[.int .i64 m, .int .i64 a, .int .i64 e]) ∧ Below V.heap.size V V'
theorem rfind_miss {W : World} {Bc Be n cap : Nat} {cur : Array Value} {hi mi : Int} (h : CacheW W Bc Be n cap cur 53 75 hi mi) (hne : Bc ≠ Be) (k s : Int) (hn : 0 < n) (hn2 : n ≤ 64) (x y z : Value) (o : Nat) (ho : o < n)
    (hp : (placeR n k s).tmod n = o) (hcur : o * 5 + 4 < cur.size) (k0 s0 m0 a0 : Int) (f0 : Bool)
    (e0 : W.cell? ⟨Be, o * 5, none⟩ = some (.int .i64 k0)) (e1 : W.cell? ⟨Be, o * 5 + 1, none⟩ = some (.int .i64 s0)) (e2 : W.cell? ⟨Be, o * 5 + 2, none⟩ = some (.int .i64 m0)) (e3 : W.cell? ⟨Be, o * 5 + 3, none⟩ = some (.int .i64 a0)) (e4 : W.cell? ⟨Be, o * 5 + 4, none⟩ = some (.bool f0))
    (hf0 : f0 = false ∨ (f0 = true ∧ k0 ≠ k) ∨ (f0 = true ∧ k0 = k ∧ s0 ≠ s)) (m a e : Int) (cur' : Array Value) (hc' : Hid (cur' = if e = 0 then put5 cur (o * 5) k s m a else cur))
    (hfind : ∀ V, Oth W V Bc Be → Calls Try.prog 28 #[.agg #[x, y, z], .int .i64 k, .int .i64 s] V (R9Post V m a e)) :
    Calls Try.prog 26 #[.pointer (some ⟨Bc, 0, none⟩), .agg #[x, y, z], .int .i64 k, .int .i64 s] W (FdPost W Bc Be n cap cur' hi (RowKit.wrap64 (mi + 1)) m a e) := by
  obtain ⟨c0, c1, c2, f1, f2⟩ := h.c0
  obtain ⟨hlt, hlt'⟩ := h.lt
  unfold placeR at hp
  have hC1 := h.set2 hne (RowKit.wrap64 (mi + 1))
  have hO1 : Oth W (W.setCell ⟨Bc, 2, none⟩ (.int .i64 (RowKit.wrap64 (mi + 1)))) Bc Be := Oth.set Bc 2 _ (.inl rfl)
  have hb1 : Below (W.setCell ⟨Bc, 2, none⟩ (.int .i64 (RowKit.wrap64 (mi + 1)))).heap.size (W.setCell ⟨Bc, 2, none⟩ (.int .i64 (RowKit.wrap64 (mi + 1)))) (((W.setCell ⟨Bc, 2, none⟩ (.int .i64 (RowKit.wrap64 (mi + 1)))).alloc (.cells #[x, y, z] 24)).alloc (.cells #[.int .i64 k0, .int .i64 s0, .int .i64 m0, .int .i64 a0, .bool f0] 75)) :=
    ((Below.refl _ _).alloc (Nat.le_refl _) _).alloc (by rw [World.size_alloc]; omega) _
  have H := hfind _ (hO1.trans (Oth.of hb1))
  have HX : Hid _ := And.intro (hC1.on hb1) (hO1.trans (Oth.of hb1))
  clear hfind hC1 hO1 hb1
  rcases hf0 with rfl | ⟨rfl, h1⟩ | ⟨rfl, rfl, h1⟩
  · go_enter Try.func26, Try.ntmps26
    go_wp2_with (go_at_call 28; go_loud (refine H.mono ?_))
    rintro r W6 ⟨rfl, hb6⟩
    clear c0 c1 c2 f1 f2 e0 e1 e2 e3 e4 H
    obtain ⟨hC, hO⟩ := HX.out
    have hC6 := hC.on hb6
    have hO6 := hO.trans (Oth.of hb6)
    clear HX hC hO hb6
    obtain ⟨c0, c1, c2, f1, f2⟩ := hC6.c0
    have q : ∀ j, j < 5 → W6.cell? ⟨Be, o * 5 + j, none⟩ = some cur[o * 5 + j]! := fun j hj => by
      rw [Lib.cell_of_heap hC6.row]
      rw [Array.getElem?_eq_getElem (show o * 5 + j < cur.size by omega), getElem!_pos cur _ (show o * 5 + j < cur.size by omega)]
    have q0 := q 0 (by omega)
    have q1 := q 1 (by omega)
    have q2 := q 2 (by omega)
    have q3 := q 3 (by omega)
    have q4 := q 4 (by omega)
    rw [Nat.add_zero] at q0
    have qf : ∀ j, W6.frozen? ⟨Be, j, none⟩ = false := fun j => Lib.frozen_of_heap hC6.row j
    clear q
    have hin2 : (0 : Int) ≤ (o : Int) ∧ (o : Int) < (n : Int) := by omega
    by_cases hE : e = 0
    · have hc := hc'.out
      rw [if_pos hE] at hc
      subst hE
      go_wp2
      refine ⟨rfl, _, res26 _ _, rfl, ?_, ?_⟩
      · exact hO6.trans ((Oth.set Be _ _ (.inr rfl)).trans ((Oth.set Be _ _ (.inr rfl)).trans ((Oth.set Be _ _ (.inr rfl)).trans ((Oth.set Be _ _ (.inr rfl)).trans (Oth.set Be _ _ (.inr rfl))))))
      · rw [hc]; exact hC6.put hne _ _ _ _ _
    · have hc := hc'.out
      rw [if_neg hE] at hc
      have dE : decide (e = 0) = false := decide_eq_false hE
      go_wp2
      exact ⟨rfl, _, res26 _ _, rfl, hO6, by rw [hc]; exact hC6⟩
  · have d1 : decide (k0 = k) = false := decide_eq_false h1
    go_enter Try.func26, Try.ntmps26
    go_wp2_with (go_at_call 28; go_loud (refine H.mono ?_))
    rintro r W6 ⟨rfl, hb6⟩
    clear c0 c1 c2 f1 f2 e0 e1 e2 e3 e4 H
    obtain ⟨hC, hO⟩ := HX.out
    have hC6 := hC.on hb6
    have hO6 := hO.trans (Oth.of hb6)
    clear HX hC hO hb6
    obtain ⟨c0, c1, c2, f1, f2⟩ := hC6.c0
    have q : ∀ j, j < 5 → W6.cell? ⟨Be, o * 5 + j, none⟩ = some cur[o * 5 + j]! := fun j hj => by
      rw [Lib.cell_of_heap hC6.row]
      rw [Array.getElem?_eq_getElem (show o * 5 + j < cur.size by omega), getElem!_pos cur _ (show o * 5 + j < cur.size by omega)]
    have q0 := q 0 (by omega)
    have q1 := q 1 (by omega)
    have q2 := q 2 (by omega)
    have q3 := q 3 (by omega)
    have q4 := q 4 (by omega)
    rw [Nat.add_zero] at q0
    have qf : ∀ j, W6.frozen? ⟨Be, j, none⟩ = false := fun j => Lib.frozen_of_heap hC6.row j
    clear q
    have hin2 : (0 : Int) ≤ (o : Int) ∧ (o : Int) < (n : Int) := by omega
    by_cases hE : e = 0
    · have hc := hc'.out
      rw [if_pos hE] at hc
      subst hE
      go_wp2
      refine ⟨rfl, _, res26 _ _, rfl, ?_, ?_⟩
      · exact hO6.trans ((Oth.set Be _ _ (.inr rfl)).trans ((Oth.set Be _ _ (.inr rfl)).trans ((Oth.set Be _ _ (.inr rfl)).trans ((Oth.set Be _ _ (.inr rfl)).trans (Oth.set Be _ _ (.inr rfl))))))
      · rw [hc]; exact hC6.put hne _ _ _ _ _
    · have hc := hc'.out
      rw [if_neg hE] at hc
      have dE : decide (e = 0) = false := decide_eq_false hE
      go_wp2
      exact ⟨rfl, _, res26 _ _, rfl, hO6, by rw [hc]; exact hC6⟩
  · have d1 : decide (s0 = s) = false := decide_eq_false h1
    go_enter Try.func26, Try.ntmps26
    go_wp2_with (go_at_call 28; go_loud (refine H.mono ?_))
    rintro r W6 ⟨rfl, hb6⟩
    clear c0 c1 c2 f1 f2 e0 e1 e2 e3 e4 H
    obtain ⟨hC, hO⟩ := HX.out
    have hC6 := hC.on hb6
    have hO6 := hO.trans (Oth.of hb6)
    clear HX hC hO hb6
    obtain ⟨c0, c1, c2, f1, f2⟩ := hC6.c0
    have q : ∀ j, j < 5 → W6.cell? ⟨Be, o * 5 + j, none⟩ = some cur[o * 5 + j]! := fun j hj => by
      rw [Lib.cell_of_heap hC6.row]
      rw [Array.getElem?_eq_getElem (show o * 5 + j < cur.size by omega), getElem!_pos cur _ (show o * 5 + j < cur.size by omega)]
    have q0 := q 0 (by omega)
    have q1 := q 1 (by omega)
    have q2 := q 2 (by omega)
    have q3 := q 3 (by omega)
    have q4 := q 4 (by omega)
    rw [Nat.add_zero] at q0
    have qf : ∀ j, W6.frozen? ⟨Be, j, none⟩ = false := fun j => Lib.frozen_of_heap hC6.row j
    clear q
    have hin2 : (0 : Int) ≤ (o : Int) ∧ (o : Int) < (n : Int) := by omega
    by_cases hE : e = 0
    · have hc := hc'.out
      rw [if_pos hE] at hc
      subst hE
      go_wp2
      refine ⟨rfl, _, res26 _ _, rfl, ?_, ?_⟩
      · exact hO6.trans ((Oth.set Be _ _ (.inr rfl)).trans ((Oth.set Be _ _ (.inr rfl)).trans ((Oth.set Be _ _ (.inr rfl)).trans ((Oth.set Be _ _ (.inr rfl)).trans (Oth.set Be _ _ (.inr rfl))))))
      · rw [hc]; exact hC6.put hne _ _ _ _ _
    · have hc := hc'.out
      rw [if_neg hE] at hc
      have dE : decide (e = 0) = false := decide_eq_false hE
      go_wp2
      exact ⟨rfl, _, res26 _ _, rfl, hO6, by rw [hc]; exact hC6⟩
end Go.Pv

/- The two caches' places are alike. -/
namespace Go.Pv
open Go
theorem placeR_eq (n : Nat) (k s : Int) (hn : 0 < n) (hn2 : n ≤ 64) : (placeR n k s).tmod n = (placeN n k s : Nat) := by
  unfold placeR placeN
  generalize RowKit.wrap64 (RowKit.wrap64 (31 * k) + s) = v
  obtain ⟨h1, h2⟩ := tmod_range v n hn
  generalize v.tmod n = t at h1 h2 ⊢
  rw [wrap_add t n h1 h2 hn2]
  by_cases h : t < 0
  · rw [if_pos h, Int.tmod_eq_emod_of_nonneg (by omega), Int.emod_eq_of_lt (by omega) (by omega), Int.toNat_of_nonneg (by omega)]
  · rw [if_neg h, Int.tmod_eq_emod_of_nonneg (by omega), Int.toNat_of_nonneg (by omega), Int.add_emod_right, Int.emod_eq_of_lt (by omega) (by omega)]
end Go.Pv
