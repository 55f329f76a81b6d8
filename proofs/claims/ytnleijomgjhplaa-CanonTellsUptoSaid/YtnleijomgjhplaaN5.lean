/- A part of the road: the interpreter of plain data and the proof that it is right. -/
import Derived.Test.YtnleijomgjhplaaT5
import Derived.Test.YtnleijomgjhplaaH5
set_option linter.unusedVariables false
set_option linter.unusedSimpArgs false
/- Values in plain words; what is reached in a graph, by a stack and by rounds. -/
namespace Go.Pv
/-! ### values -/
/-- The number of the object that a value is the ref of. -/
def at? (v : Int) : Option Nat := if v % 2 = 0 ∧ 0 ≤ v ∧ v ≤ 2097150 then some (v / 2).toNat else none
/-- The number that a value is. -/
def n? (v : Int) : Option Int := if v % 2 = 1 ∧ -2147483647 ≤ v ∧ v ≤ 2147483647 then some (v / 2) else none
def atP (v : Int) : Int × Bool := match at? v with | some i => ((i : Int), true) | none => (0, false)
def nP (v : Int) : Int × Bool := match n? v with | some i => (i, true) | none => (0, false)
/-- That number, of n objects; -1: none. -/
def refI (n : Nat) (v : Int) : Int := match at? v with | some i => if i < n then (i : Int) else -1 | none => -1
/-- A value of a heap of n objects. -/
def hasB (n : Nat) (v : Int) : Bool := (n? v).isSome || (match at? v with | some i => decide (i < n) | none => false)
theorem atv_some {v : Int} {i : Nat} : at? v = some i ↔ v = 2 * (i : Int) ∧ i ≤ 1048575 := by
  unfold at?
  constructor
  · intro h
    split at h
    · simp only [Option.some.injEq] at h; omega
    · cases h
  · rintro ⟨rfl, h⟩
    rw [if_pos (by omega)]
    congr 1; omega
theorem at_two {i : Nat} (h : i ≤ 1048575) : at? (2 * (i : Int)) = some i := atv_some.2 ⟨rfl, h⟩
theorem n_at {v : Int} {i : Nat} (h : at? v = some i) : n? v = none := by
  have := atv_some.1 h
  unfold n?
  rw [if_neg (by omega)]
theorem hasB_iff {n : Nat} {v : Int} : hasB n v = true ↔ (n? v).isSome = true ∨ ∃ i, at? v = some i ∧ i < n := by
  unfold hasB
  cases h : at? v <;> simp
theorem hasB_at {n : Nat} {v : Int} {i : Nat} (h : hasB n v = true) (e : at? v = some i) : i < n := by
  rcases hasB_iff.1 h with h | ⟨k, h1, h2⟩
  · rw [n_at e] at h; cases h
  · rw [e] at h1; cases h1; exact h2
theorem refI_nonneg {n : Nat} {v : Int} : 0 ≤ refI n v ↔ ∃ i, at? v = some i ∧ i < n := by
  unfold refI
  cases h : at? v with
  | none => simp
  | some i =>
    by_cases hi : i < n
    · simp [hi]
    · simp [hi]
theorem refI_of {n : Nat} {v : Int} {i : Nat} (e : at? v = some i) (h : i < n) : refI n v = i := by
  unfold refI; rw [e]; exact if_pos h
theorem refI_none {n : Nat} {v : Int} (e : at? v = none) : refI n v = -1 := by unfold refI; rw [e]
/-! ### bits -/
theorem bAnd_one (v : Int) : bAnd .i64 v 1 = v % 2 := by
  have h : (BitVec.ofInt IntKind.i64.bits v &&& BitVec.ofInt IntKind.i64.bits 1).toNat = (v % 2).toNat := by
    show (BitVec.ofInt 64 v &&& BitVec.ofInt 64 1).toNat = _
    rw [BitVec.toNat_and, BitVec.toNat_ofInt, BitVec.toNat_ofInt]
    show (v % ((2 ^ 64 : Nat) : Int)).toNat &&& 1 = _
    rw [Nat.and_one_is_mod]
    omega
  unfold bAnd
  rw [h, wrap_w64, w64_id (by omega) (by omega)]
  omega
theorem iShr_one (v : Int) : iShr .i64 v 1 = v / 2 := by
  show v.fdiv (2 ^ (min (1 : Int).toNat 64)) = v / 2
  rw [show (2 : Int) ^ (min (1 : Int).toNat 64) = 2 from rfl, Int.fdiv_eq_ediv_of_nonneg _ (by omega)]
theorem iShl_one (i : Int) : iShl .i64 i 1 = w64 (2 * i) := by
  show IntKind.i64.wrap (i * 2 ^ (min (1 : Int).toNat 64)) = _
  rw [show (2 : Int) ^ (min (1 : Int).toNat 64) = 2 from rfl, wrap_w64, Int.mul_comm]
theorem tmod_two (v : Int) : (v.tmod 2 = 0) ↔ v % 2 = 0 := by
  rw [← Int.dvd_iff_tmod_eq_zero, Int.dvd_iff_emod_eq_zero]
/-! ### what is reached -/
/-- What is reached from values, in a graph of n objects that have values. -/
inductive Rch (n : Nat) (vals : Nat → List Int) (rs : List Int) : Nat → Prop
  | root {v : Int} {i : Nat} (hv : v ∈ rs) (h : at? v = some i) (hi : i < n) : Rch n vals rs i
  | step {i : Nat} {v : Int} {j : Nat} (hr : Rch n vals rs i) (hv : v ∈ vals i) (h : at? v = some j) (hj : j < n) : Rch n vals rs j
/-- What is reached lies in whatever is closed. -/
theorem Rch.least {n : Nat} {vals : Nat → List Int} {rs : List Int} {Q : Nat → Prop} (h0 : ∀ v i, v ∈ rs → at? v = some i → i < n → Q i) (h1 : ∀ i v j, Q i → v ∈ vals i → at? v = some j → j < n → Q j) {i : Nat} (h : Rch n vals rs i) : Q i := by
  induction h with
  | root hv h hi => exact h0 _ _ hv h hi
  | step _ hv h hj ih => exact h1 _ _ _ ih hv h hj
/-- Marks. -/
def isM (M : List Bool) (i : Nat) : Bool := M.getD i false
/-- The numbers that are marked, rising. -/
def idxs (M : List Bool) : List Int := ((List.range M.length).filter (isM M)).map Int.ofNat
/-- A value's object is marked, and laid onto a stack. -/
def push1 (n : Nat) (p : List Bool × List Int) (v : Int) : List Bool × List Int :=
  match at? v with
  | none => p
  | some i => if i < n then if isM p.1 i = true then p else (p.1.set i true, p.2 ++ [(i : Int)]) else p
def falses (M : List Bool) : Nat := M.count false
structure Pushed (n : Nat) (M : List Bool) (S : List Int) (vs : List Int) (M' : List Bool) (S' : List Int) : Prop where
  len : M'.length = M.length
  up : ∀ i, isM M i = true → isM M' i = true
  all : ∀ v ∈ vs, ∀ i, at? v = some i → i < n → isM M' i = true
  only : ∀ i, isM M' i = true → isM M i = true ∨ ∃ v ∈ vs, at? v = some i ∧ i < n
  new : ∀ i, isM M' i = true → isM M i = true ∨ (i : Int) ∈ S'
  stack : ∃ E, S' = S ++ E ∧ ∀ s ∈ E, ∃ i : Nat, s = (i : Int) ∧ isM M' i = true
  size : falses M' + S'.length = falses M + S.length
/-- What holds while objects wait on the stack. -/
structure Dfs (n : Nat) (vals : Nat → List Int) (rs : List Int) (M : List Bool) (S : List Int) : Prop where
  len : M.length = n
  st : ∀ s ∈ S, ∃ i : Nat, s = (i : Int) ∧ isM M i = true
  sound : ∀ i, isM M i = true → Rch n vals rs i
  closed : ∀ i, isM M i = true → (i : Int) ∈ S ∨ ∀ v ∈ vals i, ∀ j, at? v = some j → j < n → isM M j = true
  roots : ∀ v ∈ rs, ∀ j, at? v = some j → j < n → isM M j = true
/-! ### by rounds -/
end Go.Pv

/- Numbering objects as they are met; heaps that are the same but for numbers. -/
namespace Go.Pv
/-! ### lists of numbers -/
theorem nodup_len : ∀ (n : Nat) (l : List Nat), l.Nodup → (∀ x ∈ l, x < n) → l.length ≤ n
  | 0, l, _, h => by
    cases l with
    | nil => exact Nat.le_refl _
    | cons x l => exact absurd (h x (by simp)) (by omega)
  | n + 1, l, hd, h => by
    have ih := nodup_len n (l.erase n) (hd.erase n) fun x hx => by
      have h1 := (hd.mem_erase_iff).1 hx
      have := h x h1.2
      omega
    by_cases hm : n ∈ l
    · rw [List.length_erase_of_mem hm] at ih; omega
    · rw [List.erase_of_not_mem hm] at ih; omega
theorem idxOf_app {l m : List Nat} {i : Nat} (h : i ∈ l) : (l ++ m).idxOf i = l.idxOf i := by
  rw [List.idxOf_append, if_pos h]
/-! ### meeting -/
def meet (l : List Nat) (v : Int) : List Nat := match at? v with | none => l | some i => if i ∈ l then l else l ++ [i]
def meets (l : List Nat) (vs : List Int) : List Nat := vs.foldl meet l
theorem meet_at {l : List Nat} {v : Int} {i : Nat} (h : at? v = some i) : meet l v = if i ∈ l then l else l ++ [i] := by unfold meet; rw [h]
theorem meet_no {l : List Nat} {v : Int} (h : at? v = none) : meet l v = l := by unfold meet; rw [h]
theorem meet_pre (l : List Nat) (v : Int) : ∃ e, meet l v = l ++ e := by
  unfold meet
  split
  · exact ⟨[], by simp⟩
  · split
    · exact ⟨[], by simp⟩
    · exact ⟨_, rfl⟩
theorem mem_meet {l : List Nat} {v : Int} {j : Nat} : j ∈ meet l v ↔ j ∈ l ∨ at? v = some j := by
  cases h : at? v with
  | none => rw [meet_no h]; simp
  | some i =>
    rw [meet_at h]
    by_cases hi : i ∈ l
    · rw [if_pos hi]
      constructor
      · exact .inl
      · rintro (h | h)
        · exact h
        · cases h; exact hi
    · rw [if_neg hi, List.mem_append, List.mem_singleton]
      constructor
      · rintro (h | h)
        · exact .inl h
        · exact .inr (by rw [h])
      · rintro (h | h)
        · exact .inl h
        · cases h; exact .inr rfl
theorem nodup_meet {l : List Nat} (h : l.Nodup) (v : Int) : (meet l v).Nodup := by
  cases e : at? v with
  | none => rw [meet_no e]; exact h
  | some i =>
    rw [meet_at e]
    split
    · exact h
    · rename_i hi
      refine List.nodup_append.2 ⟨h, by simp, fun a ha b hb => ?_⟩
      simp only [List.mem_singleton] at hb
      subst hb
      exact fun e => hi (e ▸ ha)
theorem meets_pre (vs : List Int) : ∀ l : List Nat, ∃ e, meets l vs = l ++ e := by
  induction vs with
  | nil => exact fun l => ⟨[], by simp [meets]⟩
  | cons v vs ih =>
    intro l
    obtain ⟨e, he⟩ := meet_pre l v
    obtain ⟨f, hf⟩ := ih (meet l v)
    exact ⟨e ++ f, by show meets (meet l v) vs = _; rw [hf, he, List.append_assoc]⟩
theorem mem_meets (vs : List Int) : ∀ {l : List Nat} {j : Nat}, j ∈ meets l vs ↔ j ∈ l ∨ ∃ v ∈ vs, at? v = some j := by
  induction vs with
  | nil => simp [meets]
  | cons v vs ih =>
    intro l j
    show j ∈ meets (meet l v) vs ↔ _
    rw [ih, mem_meet]
    simp [or_assoc]
theorem nodup_meets (vs : List Int) : ∀ {l : List Nat}, l.Nodup → (meets l vs).Nodup := by
  induction vs with
  | nil => exact fun h => h
  | cons v vs ih => exact fun h => ih (nodup_meet h v)
theorem meets_app (l : List Nat) (vs ws : List Int) : meets l (vs ++ ws) = meets (meets l vs) ws := List.foldl_append ..
theorem meets_cons (l : List Nat) (v : Int) (vs : List Int) : meets l (v :: vs) = meets (meet l v) vs := rfl
/-! ### all that is met -/
def bfs (vals : Nat → List Int) : Nat → Nat → List Nat → List Nat
  | 0, _, l => l
  | f + 1, k, l => match l[k]? with
    | some i => bfs vals f (k + 1) (meets l (vals i))
    | none => l
theorem bfs_end (vals : Nat → List Int) (f k : Nat) (l : List Nat) (h : l.length ≤ k) : bfs vals f k l = l := by
  cases f with
  | zero => rfl
  | succ f => unfold bfs; rw [List.getElem?_eq_none h]
theorem bfs_step (vals : Nat → List Int) (f k : Nat) (l : List Nat) (h : k < l.length) : bfs vals (f + 1) k l = bfs vals f (k + 1) (meets l (vals l[k])) := by
  rw [bfs, List.getElem?_eq_getElem h]
/-- A graph of n objects whose values lead to these alone. -/
def Fits (n : Nat) (vals : Nat → List Int) : Prop := ∀ i, i < n → ∀ v ∈ vals i, hasB n v = true
structure Met (n : Nat) (vals : Nat → List Int) (k : Nat) (l r : List Nat) : Prop where
  pre : ∃ e, r = l ++ e
  nodup : r.Nodup
  lt : ∀ x ∈ r, x < n
  closed : ∀ t (h : t < r.length), k ≤ t → ∀ v ∈ vals r[t], ∀ j, at? v = some j → j ∈ r
  only : ∀ {rs : List Int}, (∀ x ∈ l, Rch n vals rs x) → ∀ x ∈ r, Rch n vals rs x
theorem bfs_met {n : Nat} {vals : Nat → List Int} (hv : Fits n vals) : ∀ (f k : Nat) (l : List Nat), n ≤ f + k → k ≤ l.length → l.Nodup → (∀ x ∈ l, x < n) → Met n vals k l (bfs vals f k l) := by
  intro f
  induction f with
  | zero =>
    intro k l hk hkl hd hlt
    have := nodup_len n l hd hlt
    exact ⟨⟨[], by simp [bfs]⟩, hd, hlt, fun t h ht => by simp only [bfs] at h; omega, fun h => h⟩
  | succ f ih =>
    intro k l hk hkl hd hlt
    rcases Nat.lt_or_ge k l.length with h | h
    · rw [bfs_step vals f k l h]
      obtain ⟨e, he⟩ := meets_pre (vals l[k]) l
      have hkn : l[k] < n := hlt _ (List.getElem_mem h)
      have hlt' : ∀ x ∈ meets l (vals l[k]), x < n := fun x hx => by
        rcases (mem_meets _).1 hx with hx | ⟨v, hv', ev⟩
        · exact hlt x hx
        · exact hasB_at (hv _ hkn v hv') ev
      have m := ih (k + 1) (meets l (vals l[k])) (by omega) (by rw [he, List.length_append]; omega) (nodup_meets _ hd) hlt'
      obtain ⟨g, hg⟩ := m.pre
      refine ⟨⟨e ++ g, by rw [hg, he, List.append_assoc]⟩, m.nodup, m.lt, fun t ht hkt v hv' j ej => ?_, fun hl x hx => m.only (fun y hy => ?_) x hx⟩
      · rcases Nat.lt_or_ge k t with h' | h'
        · exact m.closed t ht h' v hv' j ej
        · have ekt : t = k := by omega
          subst ekt
          have : (bfs vals f (t + 1) (meets l (vals l[t])))[t] = l[t] := by
            have h2 : ∀ (r : List Nat) (hr : r = l ++ (e ++ g)) (h3 : t < r.length), r[t] = l[t] := by
              intro r hr h3
              subst hr
              exact List.getElem_append_left h
            exact h2 _ (by rw [hg, he, List.append_assoc]) ht
          rw [this] at hv'
          have : j ∈ meets l (vals l[t]) := (mem_meets _).2 (.inr ⟨v, hv', ej⟩)
          rw [hg]
          exact List.mem_append_left _ this
      · rcases (mem_meets _).1 hy with hy | ⟨v, hv', ev⟩
        · exact hl y hy
        · exact .step (hl _ (List.getElem_mem h)) hv' ev (hasB_at (hv _ hkn v hv') ev)
    · rw [bfs_end vals _ k l h]
      exact ⟨⟨[], by simp⟩, hd, hlt, fun t ht hkt => by omega, fun h => h⟩
/-- The numbers of what is reached, as they are met. (Graphs have at most 256 objects.) -/
def order (vals : Nat → List Int) (rs : List Int) : List Nat := bfs vals 256 0 (meets [] rs)
structure Ordered (n : Nat) (vals : Nat → List Int) (rs : List Int) (l : List Nat) : Prop where
  nodup : l.Nodup
  lt : ∀ x ∈ l, x < n
  roots : ∀ v ∈ rs, ∀ j, at? v = some j → j ∈ l
  closed : ∀ i ∈ l, ∀ v ∈ vals i, ∀ j, at? v = some j → j ∈ l
  iff : ∀ i, i ∈ l ↔ Rch n vals rs i
theorem order_ok {n : Nat} {vals : Nat → List Int} {rs : List Int} (hn : n ≤ 256) (hv : Fits n vals) (hr : ∀ v ∈ rs, hasB n v = true) : Ordered n vals rs (order vals rs) := by
  have h0 : ∀ x ∈ meets [] rs, ∃ v ∈ rs, at? v = some x := fun x hx => ((mem_meets rs).1 hx).resolve_left (by simp)
  have m := bfs_met hv 256 0 (meets [] rs) (by omega) (Nat.zero_le _) (nodup_meets _ (by simp)) fun x hx => by
    obtain ⟨v, h1, h2⟩ := h0 x hx
    exact hasB_at (hr v h1) h2
  have roots : ∀ v ∈ rs, ∀ j, at? v = some j → j ∈ order vals rs := fun v hv' j e => by
    obtain ⟨g, hg⟩ := m.pre
    unfold order
    rw [hg]
    exact List.mem_append_left _ ((mem_meets rs).2 (.inr ⟨v, hv', e⟩))
  have closed : ∀ i ∈ order vals rs, ∀ v ∈ vals i, ∀ j, at? v = some j → j ∈ order vals rs := fun i hi v hv' j e => by
    obtain ⟨t, ht, rfl⟩ := List.getElem_of_mem hi
    exact m.closed t ht (Nat.zero_le _) v hv' j e
  refine ⟨m.nodup, m.lt, roots, closed, fun i => ⟨fun hi => m.only (fun x hx => ?_) i hi, fun hi => ?_⟩⟩
  · obtain ⟨v, h1, h2⟩ := h0 x hx
    exact .root h1 h2 (hasB_at (hr v h1) h2)
  · exact hi.least (fun v j hv' e _ => roots v hv' j e) fun i v j hi hv' e _ => closed i hi v hv' j e
/-- A value by a list of numbers. -/
def num (l : List Nat) (v : Int) : Int := match at? v with | none => v | some i => 2 * (l.idxOf i : Int)
theorem num_at {l : List Nat} {v : Int} {i : Nat} (h : at? v = some i) : num l v = 2 * (l.idxOf i : Int) := by unfold num; rw [h]
theorem num_no {l : List Nat} {v : Int} (h : at? v = none) : num l v = v := by unfold num; rw [h]
/-! ### the same but for numbers -/
/-- Pairs of numbers, each of either side at most once. -/
structure Bij (R : Nat → Nat → Prop) : Prop where
  fn : ∀ {i k k'}, R i k → R i k' → k = k'
  inj : ∀ {i i' k}, R i k → R i' k → i = i'
/-- Two values that may be the same. -/
inductive VR (R : Nat → Nat → Prop) : Int → Int → Prop
  | n {v : Int} (h : at? v = none) : VR R v v
  | r {v w : Int} {i k : Nat} (h : at? v = some i) (h' : at? w = some k) (hr : R i k) : VR R v w
inductive L2 {α β : Type} (R : α → β → Prop) : List α → List β → Prop
  | nil : L2 R [] []
  | cons {a : α} {b : β} {l : List α} {m : List β} (h : R a b) (t : L2 R l m) : L2 R (a :: l) (b :: m)
section
variable {α β : Type} {R : α → β → Prop}
end
/-- Two graphs with roots, the same but for numbers, with what objects else have (dat). -/
structure Iso {δ : Type} (vals wals : Nat → List Int) (dat : Nat → δ) (dbt : Nat → δ) (rs qs : List Int) (R : Nat → Nat → Prop) : Prop where
  bij : Bij R
  roots : L2 (VR R) rs qs
  step : ∀ i k, R i k → dat i = dbt k ∧ L2 (VR R) (vals i) (wals k)
/-- What is told of a graph: its data and its values by numbers. -/
def told {δ : Type} (vals : Nat → List Int) (dat : Nat → δ) (l : List Nat) : List (δ × List Int) := l.map fun i => (dat i, (vals i).map (num l))
end Go.Pv

/- Pairing objects of two graphs, again and again: it holds just if they are the same but for numbers. -/
namespace Go.Pv
/-- Which object each one is paired with, either way; -1: none. -/
abbrev PS := List Int × List Int
def RP (P : PS) (i k : Nat) : Prop := P.1[i]? = some (k : Int)
structure PBj (n m : Nat) (P : PS) : Prop where
  l1 : P.1.length = n
  l2 : P.2.length = m
  to : ∀ (i : Nat) (x : Int), P.1[i]? = some x → x = -1 ∨ ∃ k : Nat, x = (k : Int) ∧ P.2[k]? = some (i : Int)
  fr : ∀ (k : Nat) (x : Int), P.2[k]? = some x → x = -1 ∨ ∃ i : Nat, x = (i : Int) ∧ P.1[i]? = some (k : Int)
def cnt (P : PS) : Nat := P.1.countP fun x => decide (0 ≤ x)
def pairM (P : PS) (v w : Int) : Bool × PS :=
  match at? v, at? w with
  | some i, some k =>
    let P' := if P.1.getD i 0 = -1 ∧ P.2.getD k 0 = -1 then (P.1.set i (k : Int), P.2.set k (i : Int)) else P
    (decide (P'.1.getD i 0 = (k : Int) ∧ P'.2.getD k 0 = (i : Int)), P')
  | none, none => (decide (v = w), P)
  | _, _ => (false, P)
structure Paired (n m : Nat) (P P' : PS) : Prop where
  ok : PBj n m P'
  up : ∀ i k, RP P i k → RP P' i k
  cnt : Pv.cnt P ≤ Pv.cnt P'
  same : Pv.cnt P = Pv.cnt P' → P = P'
def pairL : List Int → List Int → PS → Option PS
  | v :: vs, w :: ws, P => if (pairM P v w).1 = true then pairL vs ws (pairM P v w).2 else none
  | _, _, P => some P
section
variable {δ : Type} [DecidableEq δ] (vals wals : Nat → List Int) (dat dbt : Nat → δ)
/-- One object's pair. -/
def fitI (i : Nat) (P : PS) : Option PS :=
  if P.1.getD i 0 < 0 then some P else
  if dat i = dbt (P.1.getD i 0).toNat ∧ (vals i).length = (wals (P.1.getD i 0).toNat).length then pairL (vals i) (wals (P.1.getD i 0).toNat) P else none
def fitsF : Nat → Nat → PS → Option PS
  | 0, _, P => some P
  | f + 1, i, P => match fitI vals wals dat dbt i P with
    | some P' => fitsF f (i + 1) P'
    | none => none
def roundsF (n : Nat) : Nat → PS → Option PS
  | 0, P => some P
  | k + 1, P => match fitsF vals wals dat dbt n 0 P with
    | some P' => roundsF n k P'
    | none => none
variable {vals wals dat dbt}
variable {n m : Nat} (hv : Fits n vals) (hw : Fits m wals)
include hv hw
/-- What an object's pair must be. -/
def okAt (vals wals : Nat → List Int) (dat dbt : Nat → δ) (P : PS) (i : Nat) : Prop := ∀ k, RP P i k → dat i = dbt k ∧ L2 (VR (RP P)) (vals i) (wals k)
end
def none2 (n m : Nat) : PS := (List.replicate n (-1), List.replicate m (-1))
/-- What the pairing answers. -/
def pairing {δ : Type} [DecidableEq δ] (vals wals : Nat → List Int) (dat dbt : Nat → δ) (n m : Nat) (rs qs : List Int) : Bool :=
  decide (rs.length = qs.length) && (match pairL rs qs (none2 n m) with
    | some P => (roundsF vals wals dat dbt n (n + 1) P).isSome
    | none => false)
end Go.Pv

/- Graphs told by a list of their numbers: the same but for numbers, and all of it reached. -/
namespace Go.Pv
section
variable {δ : Type} {vals wals : Nat → List Int} {dat dbt : Nat → δ} {rs qs : List Int} {R : Nat → Nat → Prop} {n m : Nat}
end
/-- A graph by a list of its numbers. -/
def renv (vals : Nat → List Int) (l : List Nat) (k : Nat) : List Int := (vals (l.getD k 0)).map (num l)
def rend {δ : Type} (dat : Nat → δ) (l : List Nat) (k : Nat) : δ := dat (l.getD k 0)
def RL (l : List Nat) (i k : Nat) : Prop := l[k]? = some i
/-- A list that has what roots and its objects lead to. -/
structure Shut (n : Nat) (vals : Nat → List Int) (rs : List Int) (l : List Nat) : Prop where
  nodup : l.Nodup
  lt : ∀ x ∈ l, x < n
  roots : ∀ v ∈ rs, ∀ j, at? v = some j → j ∈ l
  closed : ∀ i ∈ l, ∀ v ∈ vals i, ∀ j, at? v = some j → j ∈ l
section
variable {n : Nat} {vals : Nat → List Int} {rs : List Int} {l : List Nat}
end
/-! ### what is marked, as a list -/
def lv (M : List Bool) : List Nat := (List.range M.length).filter (isM M)
theorem idxs_eq (M : List Bool) : idxs M = (lv M).map Int.ofNat := rfl
/-- The marks of what is reached. -/
noncomputable def marks (n : Nat) (vals : Nat → List Int) (rs : List Int) : List Bool := by
  classical exact (List.range n).map fun i => decide (Rch n vals rs i)
/-- The numbers of what is reached, rising. -/
noncomputable def live (n : Nat) (vals : Nat → List Int) (rs : List Int) : List Nat := lv (marks n vals rs)
end Go.Pv

/- Heaps in plain words. -/
namespace Go.Pv
open Classical in
noncomputable def dec (p : Prop) : Bool := decide p
theorem dec_iff {p : Prop} : dec p = true ↔ p := by unfold dec; simp
theorem dec_true {p : Prop} (h : p) : dec p = true := dec_iff.2 h
theorem dec_false {p : Prop} (h : ¬ p) : dec p = false := by cases e : dec p with | false => rfl | true => exact absurd (dec_iff.1 e) h
theorem dec_congr {p q : Prop} (h : p ↔ q) : dec p = dec q := by rw [propext h]
def GObj.vals (o : GObj) : List Int := o.Class :: o.Slots
abbrev Dat := Int × ByteArray × Int × Int
def GObj.dat (o : GObj) : Dat := (o.Kind, o.Text, o.Bits, o.Hash)
structure OkObj (n : Nat) (o : GObj) : Prop where
  cls : 0 ≤ refI n o.Class
  kind : 0 ≤ o.Kind ∧ o.Kind ≤ 2
  hash : 0 ≤ o.Hash ∧ o.Hash ≤ 1073741823
  ptr : o.Kind ≠ 0 → o.Slots = []
  text : o.Kind ≠ 1 → o.Text = ByteArray.empty
  bits : o.Kind ≠ 2 → o.Bits = 0
  nslots : o.Slots.length ≤ 64
  ntext : o.Text.size ≤ 64
  canon : canonF o.Bits = o.Bits
  slots : ∀ v ∈ o.Slots, hasB n v = true
theorem OkObj.vals {n : Nat} {o : GObj} (h : OkObj n o) : ∀ v ∈ o.vals, hasB n v = true := by
  intro v hv
  rcases List.mem_cons.1 hv with rfl | hv
  · obtain ⟨i, h1, h2⟩ := refI_nonneg.1 h.cls
    exact hasB_iff.2 (.inr ⟨i, h1, h2⟩)
  · exact h.slots v hv
def GHeap.n (h : GHeap) : Nat := h.Objs.length
def GHeap.vals (h : GHeap) (i : Nat) : List Int := (atN h.Objs i).vals
def GHeap.dat (h : GHeap) (i : Nat) : Dat := (atN h.Objs i).dat
structure OkHeap (h : GHeap) : Prop where
  cap : 1 ≤ h.Cap ∧ h.Cap ≤ 256
  len : (h.Objs.length : Int) ≤ h.Cap
  last : 0 ≤ h.Last ∧ h.Last ≤ 1073741823
  objs : ∀ o ∈ h.Objs, OkObj h.Objs.length o
theorem atN_get {α : Type} [Enc α] (l : List α) (i : Nat) (h : i < l.length) : atN l i = l[i] := by simp [atN, h]
theorem atN_mem {α : Type} [Enc α] {l : List α} {i : Nat} (h : i < l.length) : atN l i ∈ l := by rw [atN_get l i h]; exact List.getElem_mem h
theorem OkHeap.small {h : GHeap} (o : OkHeap h) : h.n ≤ 256 := by
  have h1 := o.len
  have h2 := o.cap
  unfold GHeap.n
  omega
theorem OkHeap.ok {h : GHeap} (o : OkHeap h) {i : Nat} (hi : i < h.n) : OkObj h.n (atN h.Objs i) := o.objs _ (atN_mem hi)
theorem OkHeap.fits {h : GHeap} (o : OkHeap h) : Fits h.n h.vals := fun _ hi => (o.ok hi).vals
/-- Roots that may be. -/
def Roots (h : GHeap) (rs : List Int) : Prop := ∀ v ∈ rs, hasB h.n v = true
/-- An object by a list of numbers. -/
def GObj.by (l : List Nat) (o : GObj) : GObj := { o with Class := num l o.Class, Slots := o.Slots.map (num l) }
theorem by_vals (l : List Nat) (o : GObj) : (o.by l).vals = o.vals.map (num l) := rfl
theorem by_dat (l : List Nat) (o : GObj) : (o.by l).dat = o.dat := rfl
def GHeap.by (h : GHeap) (l : List Nat) : GHeap := { h with Objs := l.map fun i => (atN h.Objs i).by l }
theorem by_n (h : GHeap) (l : List Nat) : (h.by l).n = l.length := by simp [GHeap.n, GHeap.by]
/-- Two heaps with roots, the same but for numbers. -/
def SameH (h : GHeap) (rs : List Int) (g : GHeap) (qs : List Int) : Prop := ∃ R, (∀ i k, R i k → i < h.n ∧ k < g.n) ∧ Iso h.vals g.vals h.dat g.dat rs qs R
noncomputable def liveH (h : GHeap) (rs : List Int) : List Nat := live h.n h.vals rs
def orderH (h : GHeap) (rs : List Int) : List Nat := order h.vals rs
section
variable {h : GHeap} {rs : List Int} (o : OkHeap h) (r : Roots h rs)
include o r
end
end Go.Pv

/- States and checkpoints in plain words. -/
namespace Go.Pv
structure OkState (s : GState) : Prop where
  heap : OkHeap s.Heap
  many : 12 ≤ s.Heap.Objs.length
  proc : 0 ≤ refI s.Heap.n s.Proc
  ready : 0 ≤ refI s.Heap.n s.Ready
  halt : 0 ≤ s.Halt ∧ s.Halt ≤ 255
  steps : 0 ≤ s.Steps ∧ s.Steps ≤ 1099511627776
  used : 0 ≤ s.Used ∧ s.Used ≤ 1000
def Rising (L : List GState) : Prop := L.Pairwise fun a b => a.Steps < b.Steps
/-- How many states have at most so many steps. -/
def upN (L : List GState) (x : Int) : Nat := L.countP fun s => decide (s.Steps ≤ x)
structure OkPoints (p : GPoints) : Prop where
  every : 1 ≤ p.Every ∧ p.Every ≤ 1000
  most : 1 ≤ p.Most ∧ p.Most ≤ 50
  len : (p.L.length : Int) ≤ p.Most
  ok : ∀ s ∈ p.L, OkState s
  rising : Rising p.L
def GPoints.zero : GPoints := ⟨0, 0, []⟩
def GState.zero : GState := ⟨⟨[], 0, 0⟩, 0, 0, 0, 0, 0⟩
def lastS (L : List GState) : GState := atN L (L.length - 1)
open Classical in
noncomputable def noteS (p : GPoints) (s : GState) : GPoints × Int :=
  if OkPoints p ∧ OkState s then
    if p.L ≠ [] ∧ (s.Steps % p.Every ≠ 0 ∨ s.Steps ≤ (lastS p.L).Steps) then (p, 0)
    else (⟨p.Every, p.Most, (p.L ++ [s]).drop (p.L.length + 1 - p.Most.toNat)⟩, 0)
  else (GPoints.zero, 220)
open Classical in
noncomputable def bestS (p : GPoints) (x : Int) : GState × Int :=
  if OkPoints p then if upN p.L x = 0 then (GState.zero, 201) else (atN p.L (upN p.L x - 1), 0) else (GState.zero, 220)
open Classical in
noncomputable def cutS (p : GPoints) (x : Int) : GPoints × Int :=
  if OkPoints p then (⟨p.Every, p.Most, p.L.take (upN p.L x)⟩, 0) else (GPoints.zero, 220)
end Go.Pv
