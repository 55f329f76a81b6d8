/- A part of the road: the interpreter of plain data and the proof that it is right. -/
import Derived.Test.YtnleijomgjhplaaT9g
import Derived.Test.YtnleijomgjhplaaH9g
set_option linter.unusedVariables false
set_option linter.unusedSimpArgs false
/- Values in plain words; what is reached in a graph, by a stack and by rounds. -/
namespace Go.Pv
def at? (v : Int) : Option Nat := if v % 2 = 0 ∧ 0 ≤ v ∧ v ≤ 2097150 then some (v / 2).toNat else none
def n? (v : Int) : Option Int := if v % 2 = 1 ∧ -2147483647 ≤ v ∧ v ≤ 2147483647 then some (v / 2) else none
def atP (v : Int) : Int × Bool := match at? v with | some i => ((i : Int), true) | none => (0, false)
def nP (v : Int) : Int × Bool := match n? v with | some i => (i, true) | none => (0, false)
def refI (n : Nat) (v : Int) : Int := match at? v with | some i => if i < n then (i : Int) else -1 | none => -1
def hasB (n : Nat) (v : Int) : Bool := (n? v).isSome || (match at? v with | some i => decide (i < n) | none => false)
theorem atv_some {v : Int} {i : Nat} : at? v = some i ↔ v = 2 * (i : Int) ∧ i ≤ 1048575 := by
  unfold at?
  constructor
  · intro h
    split at h
    · simp only [Option.some.injEq] at h; omega
    · cases h
  · rintro ⟨rfl, h⟩
    rw [if_pos (by omega)]
    congr 1; omega
theorem at_two {i : Nat} (h : i ≤ 1048575) : at? (2 * (i : Int)) = some i := atv_some.2 ⟨rfl, h⟩
theorem n_some {v k : Int} : n? v = some k ↔ v = 2 * k + 1 ∧ -1073741824 ≤ k ∧ k ≤ 1073741823 := by
  unfold n?
  constructor
  · intro h
    split at h
    · simp only [Option.some.injEq] at h; omega
    · cases h
  · rintro ⟨rfl, h⟩
    rw [if_pos (by omega)]
    congr 1; omega
theorem n_at {v : Int} {i : Nat} (h : at? v = some i) : n? v = none := by
  have := atv_some.1 h
  unfold n?
  rw [if_neg (by omega)]
theorem at_n {v : Int} (h : (n? v).isSome = true) : at? v = none := by
  cases e : at? v with
  | none => rfl
  | some i => rw [n_at e] at h; cases h
theorem hasB_iff {n : Nat} {v : Int} : hasB n v = true ↔ (n? v).isSome = true ∨ ∃ i, at? v = some i ∧ i < n := by
  unfold hasB
  cases h : at? v <;> simp
theorem hasB_at {n : Nat} {v : Int} {i : Nat} (h : hasB n v = true) (e : at? v = some i) : i < n := by
  rcases hasB_iff.1 h with h | ⟨k, h1, h2⟩
  · rw [n_at e] at h; cases h
  · rw [e] at h1; cases h1; exact h2
theorem refI_nonneg {n : Nat} {v : Int} : 0 ≤ refI n v ↔ ∃ i, at? v = some i ∧ i < n := by
  unfold refI
  cases h : at? v with
  | none => simp
  | some i =>
    by_cases hi : i < n
    · simp [hi]
    · simp [hi]
theorem refI_of {n : Nat} {v : Int} {i : Nat} (e : at? v = some i) (h : i < n) : refI n v = i := by
  unfold refI; rw [e]; exact if_pos h
theorem bAnd_one (v : Int) : bAnd .i64 v 1 = v % 2 := by
  have h : (BitVec.ofInt IntKind.i64.bits v &&& BitVec.ofInt IntKind.i64.bits 1).toNat = (v % 2).toNat := by
    show (BitVec.ofInt 64 v &&& BitVec.ofInt 64 1).toNat = _
    rw [BitVec.toNat_and, BitVec.toNat_ofInt, BitVec.toNat_ofInt]
    show (v % ((2 ^ 64 : Nat) : Int)).toNat &&& 1 = _
    rw [Nat.and_one_is_mod]
    omega
  unfold bAnd
  rw [h, wrap_w64, w64_id (by omega) (by omega)]
  omega
theorem iShr_one (v : Int) : iShr .i64 v 1 = v / 2 := by
  show v.fdiv (2 ^ (min (1 : Int).toNat 64)) = v / 2
  rw [show (2 : Int) ^ (min (1 : Int).toNat 64) = 2 from rfl, Int.fdiv_eq_ediv_of_nonneg _ (by omega)]
theorem iShl_one (i : Int) : iShl .i64 i 1 = w64 (2 * i) := by
  show IntKind.i64.wrap (i * 2 ^ (min (1 : Int).toNat 64)) = _
  rw [show (2 : Int) ^ (min (1 : Int).toNat 64) = 2 from rfl, wrap_w64, Int.mul_comm]
theorem tmod_two (v : Int) : (v.tmod 2 = 0) ↔ v % 2 = 0 := by
  rw [← Int.dvd_iff_tmod_eq_zero, Int.dvd_iff_emod_eq_zero]
inductive Rch (n : Nat) (vals : Nat → List Int) (rs : List Int) : Nat → Prop
  | root {v : Int} {i : Nat} (hv : v ∈ rs) (h : at? v = some i) (hi : i < n) : Rch n vals rs i
  | step {i : Nat} {v : Int} {j : Nat} (hr : Rch n vals rs i) (hv : v ∈ vals i) (h : at? v = some j) (hj : j < n) : Rch n vals rs j
theorem Rch.lt {n : Nat} {vals : Nat → List Int} {rs : List Int} {i : Nat} (h : Rch n vals rs i) : i < n := by
  cases h <;> assumption
theorem Rch.least {n : Nat} {vals : Nat → List Int} {rs : List Int} {Q : Nat → Prop} (h0 : ∀ v i, v ∈ rs → at? v = some i → i < n → Q i) (h1 : ∀ i v j, Q i → v ∈ vals i → at? v = some j → j < n → Q j) {i : Nat} (h : Rch n vals rs i) : Q i := by
  induction h with
  | root hv h hi => exact h0 _ _ hv h hi
  | step _ hv h hj ih => exact h1 _ _ _ ih hv h hj
def isM (M : List Bool) (i : Nat) : Bool := M.getD i false
theorem isM_lt {M : List Bool} {i : Nat} (h : isM M i = true) : i < M.length := by
  unfold isM at h
  rcases Nat.lt_or_ge i M.length with hl | hl
  · exact hl
  · rw [List.getD_eq_getElem?_getD, List.getElem?_eq_none hl] at h; cases h
theorem isM_get {M : List Bool} {i : Nat} (h : i < M.length) : isM M i = M[i] := by
  unfold isM; simp [h]
theorem isM_set {M : List Bool} {i j : Nat} (h : i < M.length) : isM (M.set i true) j = (decide (i = j) || isM M j) := by
  unfold isM
  simp only [List.getD_eq_getElem?_getD, List.getElem?_set]
  by_cases e : i = j
  · subst e; simp [h]
  · simp [e]
theorem isM_ext {M N : List Bool} (hl : M.length = N.length) (h : ∀ i, i < M.length → (isM M i = true ↔ isM N i = true)) : M = N := by
  refine List.ext_getElem hl fun i h1 h2 => ?_
  have := h i h1
  rw [isM_get h1, isM_get h2] at this
  cases hm : M[i] <;> cases hn : N[i] <;> simp_all
def idxs (M : List Bool) : List Int := ((List.range M.length).filter (isM M)).map Int.ofNat
def push1 (n : Nat) (p : List Bool × List Int) (v : Int) : List Bool × List Int :=
  match at? v with
  | none => p
  | some i => if i < n then if isM p.1 i = true then p else (p.1.set i true, p.2 ++ [(i : Int)]) else p
def falses (M : List Bool) : Nat := M.count false
structure Pushed (n : Nat) (M : List Bool) (S : List Int) (vs : List Int) (M' : List Bool) (S' : List Int) : Prop where
  len : M'.length = M.length
  up : ∀ i, isM M i = true → isM M' i = true
  all : ∀ v ∈ vs, ∀ i, at? v = some i → i < n → isM M' i = true
  only : ∀ i, isM M' i = true → isM M i = true ∨ ∃ v ∈ vs, at? v = some i ∧ i < n
  new : ∀ i, isM M' i = true → isM M i = true ∨ (i : Int) ∈ S'
  stack : ∃ E, S' = S ++ E ∧ ∀ s ∈ E, ∃ i : Nat, s = (i : Int) ∧ isM M' i = true
  size : falses M' + S'.length = falses M + S.length
theorem pushed1 {n : Nat} {M : List Bool} {S : List Int} (hl : M.length = n) (v : Int) : Pushed n M S [v] (push1 n (M, S) v).1 (push1 n (M, S) v).2 := by
  unfold push1
  cases e : at? v with
  | none => exact ⟨rfl, fun _ h => h, fun w hw i h => (by simp at hw; subst hw; rw [e] at h; cases h), fun _ h => .inl h, fun _ h => .inl h, ⟨[], by simp, by simp⟩, rfl⟩
  | some i =>
    simp only
    by_cases hi : i < n
    · rw [if_pos hi]
      by_cases hm : isM M i = true
      · rw [if_pos hm]
        exact ⟨rfl, fun _ h => h, fun w hw j h hj => (by simp at hw; subst hw; rw [e] at h; cases h; exact hm), fun _ h => .inl h, fun _ h => .inl h, ⟨[], by simp, by simp⟩, rfl⟩
      · rw [if_neg hm]
        have hi' : i < M.length := by omega
        have hf : M[i] = false := by rw [isM_get hi'] at hm; simpa using hm
        refine ⟨List.length_set, fun j h => by simp only [isM_set hi', h, Bool.or_true], fun w hw j h hj => ?_, fun j h => ?_, fun j h => ?_, ⟨[(i : Int)], rfl, fun s hs => ?_⟩, ?_⟩
        · simp at hw; subst hw; rw [e] at h; cases h
          simp only [isM_set hi', decide_true, Bool.true_or]
        · simp only [isM_set hi', Bool.or_eq_true, decide_eq_true_eq] at h
          rcases h with rfl | h
          · exact .inr ⟨v, by simp, e, hi⟩
          · exact .inl h
        · simp only [isM_set hi', Bool.or_eq_true, decide_eq_true_eq] at h
          rcases h with rfl | h
          · exact .inr (by simp)
          · exact .inl h
        · simp at hs; subst hs
          exact ⟨i, rfl, by simp only [isM_set hi', decide_true, Bool.true_or]⟩
        · simp only [falses, List.count_set hi', hf, List.length_append, List.length_cons, List.length_nil]
          have : 0 < M.count false := List.count_pos_iff.2 (hf ▸ List.getElem_mem hi')
          simp
          omega
    · rw [if_neg hi]
      exact ⟨rfl, fun _ h => h, fun w hw j h hj => (by simp at hw; subst hw; rw [e] at h; cases h; exact absurd hj hi), fun _ h => .inl h, fun _ h => .inl h, ⟨[], by simp, by simp⟩, rfl⟩
theorem Pushed.comp {n : Nat} {M M1 M2 : List Bool} {S S1 S2 vs ws : List Int} (a : Pushed n M S vs M1 S1) (b : Pushed n M1 S1 ws M2 S2) : Pushed n M S (vs ++ ws) M2 S2 where
  len := b.len.trans a.len
  up := fun i h => b.up i (a.up i h)
  all := fun v hv i h hi => (List.mem_append.1 hv).elim (fun hv => b.up i (a.all v hv i h hi)) fun hv => b.all v hv i h hi
  only := fun i h => (b.only i h).elim (fun h => (a.only i h).imp id fun ⟨v, hv, h⟩ => ⟨v, List.mem_append_left _ hv, h⟩) fun ⟨v, hv, h⟩ => .inr ⟨v, List.mem_append_right _ hv, h⟩
  new := fun i h => (b.new i h).elim (fun h => (a.new i h).imp id fun h => by
    obtain ⟨E, e, _⟩ := b.stack
    rw [e]; exact List.mem_append_left _ h) .inr
  stack := by
    obtain ⟨E, e, h⟩ := a.stack
    obtain ⟨F, f, h'⟩ := b.stack
    refine ⟨E ++ F, by rw [f, e, List.append_assoc], fun s hs => (List.mem_append.1 hs).elim (fun hs => ?_) (h' s)⟩
    obtain ⟨i, e, hm⟩ := h s hs
    exact ⟨i, e, b.up i hm⟩
  size := by rw [b.size, a.size]
theorem Pushed.nil {n : Nat} {M : List Bool} {S : List Int} : Pushed n M S [] M S :=
  ⟨rfl, fun _ h => h, (fun _ h => by cases h), fun _ h => .inl h, fun _ h => .inl h, ⟨[], by simp, by simp⟩, rfl⟩
theorem pushedL {n : Nat} (vs : List Int) : ∀ {M : List Bool} {S : List Int}, M.length = n → Pushed n M S vs (vs.foldl (push1 n) (M, S)).1 (vs.foldl (push1 n) (M, S)).2 := by
  induction vs with
  | nil => intro M S _; exact .nil
  | cons v vs ih =>
    intro M S hl
    have a := pushed1 (S := S) hl v
    have b := ih (S := (push1 n (M, S) v).2) (a.len.trans hl)
    exact a.comp b
structure Dfs (n : Nat) (vals : Nat → List Int) (rs : List Int) (M : List Bool) (S : List Int) : Prop where
  len : M.length = n
  st : ∀ s ∈ S, ∃ i : Nat, s = (i : Int) ∧ isM M i = true
  sound : ∀ i, isM M i = true → Rch n vals rs i
  closed : ∀ i, isM M i = true → (i : Int) ∈ S ∨ ∀ v ∈ vals i, ∀ j, at? v = some j → j < n → isM M j = true
  roots : ∀ v ∈ rs, ∀ j, at? v = some j → j < n → isM M j = true
theorem Dfs.start {n : Nat} {vals : Nat → List Int} {rs : List Int} {M' : List Bool} {S' : List Int} (h : Pushed n (List.replicate n false) [] rs M' S') : Dfs n vals rs M' S' := by
  have h0 : ∀ i, isM (List.replicate n false) i = false := fun i => by
    unfold isM
    rw [List.getD_eq_getElem?_getD, List.getElem?_replicate]
    split <;> rfl
  have hno : ∀ {i} {Q : Prop}, isM (List.replicate n false) i = true ∨ Q → Q := fun {i} {Q} h => h.resolve_left (by rw [h0 i]; exact Bool.false_ne_true)
  refine ⟨h.len.trans List.length_replicate, fun s hs => ?_, fun i hi => ?_, fun i hi => .inl (hno (h.new i hi)), h.all⟩
  · obtain ⟨E, e, hE⟩ := h.stack
    rw [List.nil_append] at e
    exact hE s (e ▸ hs)
  · obtain ⟨v, hv, e, hl⟩ := hno (h.only i hi)
    exact .root hv e hl
theorem Dfs.pop {n : Nat} {vals : Nat → List Int} {rs : List Int} {M M' : List Bool} {S S' : List Int} {i : Nat} (d : Dfs n vals rs M (S ++ [(i : Int)])) (h : Pushed n M S (vals i) M' S') :
    Dfs n vals rs M' S' ∧ 2 * falses M' + S'.length < 2 * falses M + (S ++ [(i : Int)]).length := by
  obtain ⟨i', e', hmi⟩ := d.st (i : Int) (by simp)
  obtain rfl : i' = i := by omega
  obtain ⟨E, e, hE⟩ := h.stack
  refine ⟨⟨h.len.trans d.len, fun s hs => ?_, fun j hj => ?_, fun j hj => ?_, fun v hv j e hj => h.up j (d.roots v hv j e hj)⟩, ?_⟩
  · rw [e] at hs
    rcases List.mem_append.1 hs with hs | hs
    · obtain ⟨j, ej, hj⟩ := d.st s (List.mem_append_left _ hs)
      exact ⟨j, ej, h.up j hj⟩
    · exact hE s hs
  · rcases h.only j hj with hj | ⟨v, hv, ev, hl⟩
    · exact d.sound j hj
    · exact .step (d.sound _ hmi) hv ev hl
  · rcases h.new j hj with hj | hj
    · rcases d.closed j hj with hs | hc
      · rcases List.mem_append.1 hs with hs | hs
        · left; rw [e]; exact List.mem_append_left _ hs
        · right
          have : j = i' := by simp at hs; omega
          subst this
          exact h.all
      · right; exact fun v hv k ek hk => h.up k (hc v hv k ek hk)
    · exact .inl hj
  · have h1 := h.size
    have h2 : falses M' ≤ falses M := by
      have : E.length = S'.length - S.length := by rw [e, List.length_append]; omega
      have : S.length ≤ S'.length := by rw [e, List.length_append]; omega
      omega
    rw [List.length_append]
    simp only [List.length_cons, List.length_nil]
    omega
theorem Dfs.done {n : Nat} {vals : Nat → List Int} {rs : List Int} {M : List Bool} (d : Dfs n vals rs M []) (i : Nat) : isM M i = true ↔ Rch n vals rs i := by
  refine ⟨d.sound i, fun h => h.least (fun v i hv e hi => d.roots v hv i e hi) fun i v j hi hv e hj => ?_⟩
  exact ((d.closed i hi).resolve_left (by simp)) v hv j e hj
theorem count_le : ∀ (M N : List Bool), M.length = N.length → (∀ j, isM M j = true → isM N j = true) → M.count true ≤ N.count true ∧ (M.count true = N.count true → M = N)
  | [], [], _, _ => ⟨Nat.le_refl _, fun _ => rfl⟩
  | [], _ :: _, h, _ => by cases h
  | _ :: _, [], h, _ => by cases h
  | a :: M, b :: N, hl, h => by
    have ih := count_le M N (by simpa using hl) fun j hj => h (j + 1) hj
    have h0 : a = true → b = true := h 0
    cases a <;> cases b <;> simp at h0 ⊢
    · exact ih
    · exact ⟨by omega, fun e => by omega⟩
    · exact ih
theorem rounds {n : Nat} {vals : Nat → List Int} {rs : List Int} (M : Nat → List Bool) (hl : ∀ k, (M k).length = n)
    (h0 : ∀ i, isM (M 0) i = true ↔ ∃ v ∈ rs, at? v = some i ∧ i < n)
    (h1 : ∀ k, k < n → ∀ j, isM (M (k + 1)) j = true ↔ isM (M k) j = true ∨ ∃ i, isM (M k) i = true ∧ ∃ v ∈ vals i, at? v = some j ∧ j < n) (i : Nat) :
    isM (M n) i = true ↔ Rch n vals rs i := by
  have sound : ∀ k, k ≤ n → ∀ i, isM (M k) i = true → Rch n vals rs i := by
    intro k
    induction k with
    | zero =>
      intro _ i hi
      obtain ⟨v, hv, e, hl⟩ := (h0 i).1 hi
      exact .root hv e hl
    | succ k ih =>
      intro hk i hi
      rcases (h1 k (by omega) i).1 hi with hi | ⟨j, hj, v, hv, e, hl⟩
      · exact ih (by omega) i hi
      · exact .step (ih (by omega) j hj) hv e hl
  have grow : ∀ k, k ≤ n → ∀ v ∈ rs, ∀ i, at? v = some i → i < n → isM (M k) i = true := by
    intro k
    induction k with
    | zero => exact fun _ v hv i e hi => (h0 i).2 ⟨v, hv, e, hi⟩
    | succ k ih => exact fun hk v hv i e hi => (h1 k (by omega) i).2 (.inl (ih (by omega) v hv i e hi))
  have key : ∀ k, k ≤ n → (∀ i, isM (M k) i = true → ∀ v ∈ vals i, ∀ j, at? v = some j → j < n → isM (M k) j = true) ∨ k ≤ (M k).count true := by
    intro k
    induction k with
    | zero => exact fun _ => .inr (Nat.zero_le _)
    | succ k ih =>
      intro hk
      have up : ∀ j, isM (M k) j = true → isM (M (k + 1)) j = true := fun j hj => (h1 k (by omega) j).2 (.inl hj)
      obtain ⟨c1, c2⟩ := count_le (M k) (M (k + 1)) (by rw [hl, hl]) up
      by_cases e : (M k).count true = (M (k + 1)).count true
      · left
        have e' := c2 e
        intro i hi v hv j ej hj
        rw [← e'] at hi
        exact (h1 k (by omega) j).2 (.inr ⟨i, hi, v, hv, ej, hj⟩)
      · rcases ih (by omega) with hc | hc
        · left
          intro i hi v hv j ej hj
          refine up j ?_
          rcases (h1 k (by omega) i).1 hi with hi | ⟨i0, hi0, w, hw, ew, hwi⟩
          · exact hc i hi v hv j ej hj
          · exact hc i (hc i0 hi0 w hw i ew hwi) v hv j ej hj
        · right; omega
  refine ⟨sound n (Nat.le_refl n) i, fun h => ?_⟩
  rcases key n (Nat.le_refl n) with hc | hc
  · exact h.least (fun v i hv e hi => grow n (Nat.le_refl n) v hv i e hi) fun i v j hi hv e hj => hc i hi v hv j e hj
  · have hi := h.lt
    have hall : (M n).count true = (M n).length := Nat.le_antisymm List.count_le_length (by rw [hl]; exact hc)
    have hi' : i < (M n).length := by rw [hl]; exact hi
    rw [isM_get hi']
    exact ((List.count_eq_length.1 hall) _ (List.getElem_mem hi')).symm
end Go.Pv

/- Numbering objects as they are met; heaps that are the same but for numbers. -/
namespace Go.Pv
theorem nodup_len : ∀ (n : Nat) (l : List Nat), l.Nodup → (∀ x ∈ l, x < n) → l.length ≤ n
  | 0, l, _, h => by
    cases l with
    | nil => exact Nat.le_refl _
    | cons x l => exact absurd (h x (by simp)) (by omega)
  | n + 1, l, hd, h => by
    have ih := nodup_len n (l.erase n) (hd.erase n) fun x hx => by
      have h1 := (hd.mem_erase_iff).1 hx
      have := h x h1.2
      omega
    by_cases hm : n ∈ l
    · rw [List.length_erase_of_mem hm] at ih; omega
    · rw [List.erase_of_not_mem hm] at ih; omega
theorem get_idxOf {l : List Nat} {i : Nat} (h : i ∈ l) : ∃ h' : l.idxOf i < l.length, l[l.idxOf i] = i :=
  ⟨List.idxOf_lt_length_of_mem h, List.getElem_idxOf _⟩
theorem idxOf_app {l m : List Nat} {i : Nat} (h : i ∈ l) : (l ++ m).idxOf i = l.idxOf i := by
  rw [List.idxOf_append, if_pos h]
def meet (l : List Nat) (v : Int) : List Nat := match at? v with | none => l | some i => if i ∈ l then l else l ++ [i]
def meets (l : List Nat) (vs : List Int) : List Nat := vs.foldl meet l
theorem meet_at {l : List Nat} {v : Int} {i : Nat} (h : at? v = some i) : meet l v = if i ∈ l then l else l ++ [i] := by unfold meet; rw [h]
theorem meet_no {l : List Nat} {v : Int} (h : at? v = none) : meet l v = l := by unfold meet; rw [h]
theorem meet_pre (l : List Nat) (v : Int) : ∃ e, meet l v = l ++ e := by
  unfold meet
  split
  · exact ⟨[], by simp⟩
  · split
    · exact ⟨[], by simp⟩
    · exact ⟨_, rfl⟩
theorem mem_meet {l : List Nat} {v : Int} {j : Nat} : j ∈ meet l v ↔ j ∈ l ∨ at? v = some j := by
  cases h : at? v with
  | none => rw [meet_no h]; simp
  | some i =>
    rw [meet_at h]
    by_cases hi : i ∈ l
    · rw [if_pos hi]
      constructor
      · exact .inl
      · rintro (h | h)
        · exact h
        · cases h; exact hi
    · rw [if_neg hi, List.mem_append, List.mem_singleton]
      constructor
      · rintro (h | h)
        · exact .inl h
        · exact .inr (by rw [h])
      · rintro (h | h)
        · exact .inl h
        · cases h; exact .inr rfl
theorem nodup_meet {l : List Nat} (h : l.Nodup) (v : Int) : (meet l v).Nodup := by
  cases e : at? v with
  | none => rw [meet_no e]; exact h
  | some i =>
    rw [meet_at e]
    split
    · exact h
    · rename_i hi
      refine List.nodup_append.2 ⟨h, by simp, fun a ha b hb => ?_⟩
      simp only [List.mem_singleton] at hb
      subst hb
      exact fun e => hi (e ▸ ha)
theorem meets_pre (vs : List Int) : ∀ l : List Nat, ∃ e, meets l vs = l ++ e := by
  induction vs with
  | nil => exact fun l => ⟨[], by simp [meets]⟩
  | cons v vs ih =>
    intro l
    obtain ⟨e, he⟩ := meet_pre l v
    obtain ⟨f, hf⟩ := ih (meet l v)
    exact ⟨e ++ f, by show meets (meet l v) vs = _; rw [hf, he, List.append_assoc]⟩
theorem mem_meets (vs : List Int) : ∀ {l : List Nat} {j : Nat}, j ∈ meets l vs ↔ j ∈ l ∨ ∃ v ∈ vs, at? v = some j := by
  induction vs with
  | nil => simp [meets]
  | cons v vs ih =>
    intro l j
    show j ∈ meets (meet l v) vs ↔ _
    rw [ih, mem_meet]
    simp [or_assoc]
theorem nodup_meets (vs : List Int) : ∀ {l : List Nat}, l.Nodup → (meets l vs).Nodup := by
  induction vs with
  | nil => exact fun h => h
  | cons v vs ih => exact fun h => ih (nodup_meet h v)
theorem meets_app (l : List Nat) (vs ws : List Int) : meets l (vs ++ ws) = meets (meets l vs) ws := List.foldl_append ..
theorem meets_cons (l : List Nat) (v : Int) (vs : List Int) : meets l (v :: vs) = meets (meet l v) vs := rfl
def bfs (vals : Nat → List Int) : Nat → Nat → List Nat → List Nat
  | 0, _, l => l
  | f + 1, k, l => match l[k]? with
    | some i => bfs vals f (k + 1) (meets l (vals i))
    | none => l
theorem bfs_end (vals : Nat → List Int) (f k : Nat) (l : List Nat) (h : l.length ≤ k) : bfs vals f k l = l := by
  cases f with
  | zero => rfl
  | succ f => unfold bfs; rw [List.getElem?_eq_none h]
theorem bfs_step (vals : Nat → List Int) (f k : Nat) (l : List Nat) (h : k < l.length) : bfs vals (f + 1) k l = bfs vals f (k + 1) (meets l (vals l[k])) := by
  rw [bfs, List.getElem?_eq_getElem h]
def Fits (n : Nat) (vals : Nat → List Int) : Prop := ∀ i, i < n → ∀ v ∈ vals i, hasB n v = true
structure Met (n : Nat) (vals : Nat → List Int) (k : Nat) (l r : List Nat) : Prop where
  pre : ∃ e, r = l ++ e
  nodup : r.Nodup
  lt : ∀ x ∈ r, x < n
  closed : ∀ t (h : t < r.length), k ≤ t → ∀ v ∈ vals r[t], ∀ j, at? v = some j → j ∈ r
  only : ∀ {rs : List Int}, (∀ x ∈ l, Rch n vals rs x) → ∀ x ∈ r, Rch n vals rs x
theorem bfs_met {n : Nat} {vals : Nat → List Int} (hv : Fits n vals) : ∀ (f k : Nat) (l : List Nat), n ≤ f + k → k ≤ l.length → l.Nodup → (∀ x ∈ l, x < n) → Met n vals k l (bfs vals f k l) := by
  intro f
  induction f with
  | zero =>
    intro k l hk hkl hd hlt
    have := nodup_len n l hd hlt
    exact ⟨⟨[], by simp [bfs]⟩, hd, hlt, fun t h ht => by simp only [bfs] at h; omega, fun h => h⟩
  | succ f ih =>
    intro k l hk hkl hd hlt
    rcases Nat.lt_or_ge k l.length with h | h
    · rw [bfs_step vals f k l h]
      obtain ⟨e, he⟩ := meets_pre (vals l[k]) l
      have hkn : l[k] < n := hlt _ (List.getElem_mem h)
      have hlt' : ∀ x ∈ meets l (vals l[k]), x < n := fun x hx => by
        rcases (mem_meets _).1 hx with hx | ⟨v, hv', ev⟩
        · exact hlt x hx
        · exact hasB_at (hv _ hkn v hv') ev
      have m := ih (k + 1) (meets l (vals l[k])) (by omega) (by rw [he, List.length_append]; omega) (nodup_meets _ hd) hlt'
      obtain ⟨g, hg⟩ := m.pre
      refine ⟨⟨e ++ g, by rw [hg, he, List.append_assoc]⟩, m.nodup, m.lt, fun t ht hkt v hv' j ej => ?_, fun hl x hx => m.only (fun y hy => ?_) x hx⟩
      · rcases Nat.lt_or_ge k t with h' | h'
        · exact m.closed t ht h' v hv' j ej
        · have ekt : t = k := by omega
          subst ekt
          have : (bfs vals f (t + 1) (meets l (vals l[t])))[t] = l[t] := by
            have h2 : ∀ (r : List Nat) (hr : r = l ++ (e ++ g)) (h3 : t < r.length), r[t] = l[t] := by
              intro r hr h3
              subst hr
              exact List.getElem_append_left h
            exact h2 _ (by rw [hg, he, List.append_assoc]) ht
          rw [this] at hv'
          have : j ∈ meets l (vals l[t]) := (mem_meets _).2 (.inr ⟨v, hv', ej⟩)
          rw [hg]
          exact List.mem_append_left _ this
      · rcases (mem_meets _).1 hy with hy | ⟨v, hv', ev⟩
        · exact hl y hy
        · exact .step (hl _ (List.getElem_mem h)) hv' ev (hasB_at (hv _ hkn v hv') ev)
    · rw [bfs_end vals _ k l h]
      exact ⟨⟨[], by simp⟩, hd, hlt, fun t ht hkt => by omega, fun h => h⟩
def order (vals : Nat → List Int) (rs : List Int) : List Nat := bfs vals 256 0 (meets [] rs)
structure Ordered (n : Nat) (vals : Nat → List Int) (rs : List Int) (l : List Nat) : Prop where
  nodup : l.Nodup
  lt : ∀ x ∈ l, x < n
  roots : ∀ v ∈ rs, ∀ j, at? v = some j → j ∈ l
  closed : ∀ i ∈ l, ∀ v ∈ vals i, ∀ j, at? v = some j → j ∈ l
  iff : ∀ i, i ∈ l ↔ Rch n vals rs i
theorem order_ok {n : Nat} {vals : Nat → List Int} {rs : List Int} (hn : n ≤ 256) (hv : Fits n vals) (hr : ∀ v ∈ rs, hasB n v = true) : Ordered n vals rs (order vals rs) := by
  have h0 : ∀ x ∈ meets [] rs, ∃ v ∈ rs, at? v = some x := fun x hx => ((mem_meets rs).1 hx).resolve_left (by simp)
  have m := bfs_met hv 256 0 (meets [] rs) (by omega) (Nat.zero_le _) (nodup_meets _ (by simp)) fun x hx => by
    obtain ⟨v, h1, h2⟩ := h0 x hx
    exact hasB_at (hr v h1) h2
  have roots : ∀ v ∈ rs, ∀ j, at? v = some j → j ∈ order vals rs := fun v hv' j e => by
    obtain ⟨g, hg⟩ := m.pre
    unfold order
    rw [hg]
    exact List.mem_append_left _ ((mem_meets rs).2 (.inr ⟨v, hv', e⟩))
  have closed : ∀ i ∈ order vals rs, ∀ v ∈ vals i, ∀ j, at? v = some j → j ∈ order vals rs := fun i hi v hv' j e => by
    obtain ⟨t, ht, rfl⟩ := List.getElem_of_mem hi
    exact m.closed t ht (Nat.zero_le _) v hv' j e
  refine ⟨m.nodup, m.lt, roots, closed, fun i => ⟨fun hi => m.only (fun x hx => ?_) i hi, fun hi => ?_⟩⟩
  · obtain ⟨v, h1, h2⟩ := h0 x hx
    exact .root h1 h2 (hasB_at (hr v h1) h2)
  · exact hi.least (fun v j hv' e _ => roots v hv' j e) fun i v j hi hv' e _ => closed i hi v hv' j e
def num (l : List Nat) (v : Int) : Int := match at? v with | none => v | some i => 2 * (l.idxOf i : Int)
theorem num_at {l : List Nat} {v : Int} {i : Nat} (h : at? v = some i) : num l v = 2 * (l.idxOf i : Int) := by unfold num; rw [h]
theorem num_no {l : List Nat} {v : Int} (h : at? v = none) : num l v = v := by unfold num; rw [h]
structure Bij (R : Nat → Nat → Prop) : Prop where
  fn : ∀ {i k k'}, R i k → R i k' → k = k'
  inj : ∀ {i i' k}, R i k → R i' k → i = i'
inductive VR (R : Nat → Nat → Prop) : Int → Int → Prop
  | n {v : Int} (h : at? v = none) : VR R v v
  | r {v w : Int} {i k : Nat} (h : at? v = some i) (h' : at? w = some k) (hr : R i k) : VR R v w
inductive L2 {α β : Type} (R : α → β → Prop) : List α → List β → Prop
  | nil : L2 R [] []
  | cons {a : α} {b : β} {l : List α} {m : List β} (h : R a b) (t : L2 R l m) : L2 R (a :: l) (b :: m)
section
variable {α β : Type} {R : α → β → Prop}
theorem L2.len {l : List α} {m : List β} (h : L2 R l m) : l.length = m.length := by
  induction h with
  | nil => rfl
  | cons _ _ ih => simp [ih]
theorem L2.get {l : List α} {m : List β} (h : L2 R l m) : ∀ t (h1 : t < l.length) (h2 : t < m.length), R l[t] m[t] := by
  induction h with
  | nil => intro t h1; simp at h1
  | cons h _ ih =>
    intro t h1 h2
    cases t with
    | zero => exact h
    | succ t => exact ih t (by simpa using h1) (by simpa using h2)
theorem L2.of_get : ∀ {l : List α} {m : List β}, l.length = m.length → (∀ t (h1 : t < l.length) (h2 : t < m.length), R l[t] m[t]) → L2 R l m
  | [], [], _, _ => .nil
  | [], _ :: _, h, _ => by cases h
  | _ :: _, [], h, _ => by cases h
  | a :: l, b :: m, hl, h => .cons (h 0 (by simp) (by simp)) (L2.of_get (by simpa using hl) fun t h1 h2 => h (t + 1) (by simpa using h1) (by simpa using h2))
theorem L2.app {l l' : List α} {m m' : List β} (h : L2 R l m) (h' : L2 R l' m') : L2 R (l ++ l') (m ++ m') := by
  induction h with
  | nil => exact h'
  | cons a _ ih => exact .cons a ih
theorem L2.mono {R' : α → β → Prop} {l : List α} {m : List β} (h : L2 R l m) (f : ∀ a b, a ∈ l → b ∈ m → R a b → R' a b) : L2 R' l m := by
  induction h with
  | nil => exact .nil
  | cons a _ ih => exact .cons (f _ _ (by simp) (by simp) a) (ih fun x y hx hy => f x y (by simp [hx]) (by simp [hy]))
theorem L2.left {l : List α} {m : List β} (h : L2 R l m) {a : α} (ha : a ∈ l) : ∃ b ∈ m, R a b := by
  obtain ⟨t, ht, rfl⟩ := List.getElem_of_mem ha
  have h2 : t < m.length := h.len ▸ ht
  exact ⟨m[t], List.getElem_mem h2, h.get t ht h2⟩
theorem L2.right {l : List α} {m : List β} (h : L2 R l m) {b : β} (hb : b ∈ m) : ∃ a ∈ l, R a b := by
  obtain ⟨t, ht, rfl⟩ := List.getElem_of_mem hb
  have h2 : t < l.length := h.len.symm ▸ ht
  exact ⟨l[t], List.getElem_mem h2, h.get t h2 ht⟩
theorem L2.flip {l : List α} {m : List β} (h : L2 R l m) : L2 (fun b a => R a b) m l := by
  induction h with
  | nil => exact .nil
  | cons a _ ih => exact .cons a ih
theorem L2.comp {γ : Type} {S : β → γ → Prop} {l : List α} {m : List β} {o : List γ} (h : L2 R l m) (h' : L2 S m o) : L2 (fun a c => ∃ b, R a b ∧ S b c) l o := by
  refine .of_get (h.len.trans h'.len) fun t h1 h2 => ?_
  have h3 : t < m.length := h.len ▸ h1
  exact ⟨m[t], h.get t h1 h3, h'.get t h3 h2⟩
end
theorem VR.flip {R : Nat → Nat → Prop} {v w : Int} (h : VR R v w) : VR (fun b a => R a b) w v := by
  cases h with
  | n h => exact .n h
  | r h h' hr => exact .r h' h hr
theorem VR.comp {R S : Nat → Nat → Prop} {v w x : Int} (h : VR R v w) (h' : VR S w x) : VR (fun a c => ∃ b, R a b ∧ S b c) v x := by
  cases h with
  | n h => cases h' with
    | n _ => exact .n h
    | r e _ _ => rw [h] at e; cases e
  | r h h2 hr => cases h' with
    | n e => rw [h2] at e; cases e
    | r e e2 hs => rw [h2] at e; cases e; exact .r h e2 ⟨_, hr, hs⟩
structure Iso {δ : Type} (vals wals : Nat → List Int) (dat : Nat → δ) (dbt : Nat → δ) (rs qs : List Int) (R : Nat → Nat → Prop) : Prop where
  bij : Bij R
  roots : L2 (VR R) rs qs
  step : ∀ i k, R i k → dat i = dbt k ∧ L2 (VR R) (vals i) (wals k)
theorem Iso.flip {δ : Type} {vals wals : Nat → List Int} {dat dbt : Nat → δ} {rs qs : List Int} {R : Nat → Nat → Prop} (h : Iso vals wals dat dbt rs qs R) : Iso wals vals dbt dat qs rs fun b a => R a b :=
  ⟨⟨fun a b => h.bij.inj a b, fun a b => h.bij.fn a b⟩, h.roots.flip.mono fun _ _ _ _ => VR.flip, fun i k hr => ⟨(h.step k i hr).1.symm, (h.step k i hr).2.flip.mono fun _ _ _ _ => VR.flip⟩⟩
theorem Iso.comp {δ : Type} {vals wals xals : Nat → List Int} {dat dbt dct : Nat → δ} {rs qs ps : List Int} {R S : Nat → Nat → Prop} (h : Iso vals wals dat dbt rs qs R) (h' : Iso wals xals dbt dct qs ps S) :
    Iso vals xals dat dct rs ps fun a c => ∃ b, R a b ∧ S b c where
  bij := ⟨fun ⟨b, h1, h2⟩ ⟨b', h3, h4⟩ => by
      have := h.bij.fn h1 h3; subst this
      exact h'.bij.fn h2 h4, fun ⟨b, h1, h2⟩ ⟨b', h3, h4⟩ => by
      have := h'.bij.inj h2 h4; subst this
      exact h.bij.inj h1 h3⟩
  roots := (h.roots.comp h'.roots).mono fun _ _ _ _ ⟨_, a, b⟩ => a.comp b
  step := fun i k ⟨b, h1, h2⟩ => ⟨(h.step i b h1).1.trans (h'.step b k h2).1, ((h.step i b h1).2.comp (h'.step b k h2).2).mono fun _ _ _ _ ⟨_, a, b⟩ => a.comp b⟩
theorem VR.meet {R : Nat → Nat → Prop} (hb : Bij R) {l m : List Nat} (h : L2 R l m) {v w : Int} (hv : VR R v w) : L2 R (meet l v) (meet m w) := by
  cases hv with
  | n e => rw [meet_no e, meet_no e]; exact h
  | r e e' hr =>
    rename_i i k
    rw [meet_at e, meet_at e']
    by_cases hi : i ∈ l
    · obtain ⟨k', hk, hr'⟩ := h.left hi
      have := hb.fn hr hr'
      subst this
      rw [if_pos hi, if_pos hk]; exact h
    · have hk : k ∉ m := fun hk => by
        obtain ⟨i', hi', hr'⟩ := h.right hk
        have := hb.inj hr hr'
        subst this
        exact hi hi'
      rw [if_neg hi, if_neg hk]
      exact h.app (.cons hr .nil)
theorem L2.meets {R : Nat → Nat → Prop} (hb : Bij R) {vs ws : List Int} (hv : L2 (VR R) vs ws) : ∀ {l m : List Nat}, L2 R l m → L2 R (meets l vs) (meets m ws) := by
  induction hv with
  | nil => exact fun h => h
  | cons a _ ih => exact fun h => ih (a.meet hb h)
theorem Iso.bfs {δ : Type} {vals wals : Nat → List Int} {dat dbt : Nat → δ} {rs qs : List Int} {R : Nat → Nat → Prop} (h : Iso vals wals dat dbt rs qs R) : ∀ (f k : Nat) {l m : List Nat}, L2 R l m → L2 R (bfs vals f k l) (bfs wals f k m) := by
  intro f
  induction f with
  | zero => exact fun _ _ _ h => h
  | succ f ih =>
    intro k l m hl
    rcases Nat.lt_or_ge k l.length with hk | hk
    · have hk' : k < m.length := hl.len ▸ hk
      rw [bfs_step _ _ _ _ hk, bfs_step _ _ _ _ hk']
      exact ih (k + 1) ((h.step _ _ (hl.get k hk hk')).2.meets h.bij hl)
    · rw [bfs_end _ _ _ _ hk, bfs_end _ _ _ _ (hl.len ▸ hk)]
      exact hl
theorem Iso.order {δ : Type} {vals wals : Nat → List Int} {dat dbt : Nat → δ} {rs qs : List Int} {R : Nat → Nat → Prop} (h : Iso vals wals dat dbt rs qs R) : L2 R (order vals rs) (order wals qs) :=
  h.bfs 256 0 (h.roots.meets h.bij .nil)
theorem idx_same {R : Nat → Nat → Prop} (hb : Bij R) {l m : List Nat} (hl : L2 R l m) {i k : Nat} (hr : R i k) (hi : i ∈ l) : l.idxOf i = m.idxOf k := by
  induction hl with
  | nil => cases hi
  | @cons a b l m hab _ ih =>
    rw [List.idxOf_cons, List.idxOf_cons]
    by_cases e : a = i
    · subst e
      have := hb.fn hab hr
      subst this
      simp
    · have e' : ¬ b = k := fun e' => by subst e'; exact e (hb.inj hab hr)
      have hi' : i ∈ l := by
        rcases List.mem_cons.1 hi with h | h
        · exact absurd h.symm e
        · exact h
      have e1 : (a == i) = false := by simpa using e
      have e2 : (b == k) = false := by simpa using e'
      simp only [e1, e2, ih hi']
theorem VR.num {R : Nat → Nat → Prop} (hb : Bij R) {l m : List Nat} (hl : L2 R l m) {v w : Int} (hv : VR R v w) (hi : ∀ i, at? v = some i → i ∈ l) : num l v = num m w := by
  cases hv with
  | n e => rw [num_no e, num_no e]
  | r e e' hr => rw [num_at e, num_at e', idx_same hb hl hr (hi _ e)]
theorem L2.num {R : Nat → Nat → Prop} (hb : Bij R) {l m : List Nat} (hl : L2 R l m) {vs ws : List Int} (hv : L2 (VR R) vs ws) (hi : ∀ v ∈ vs, ∀ i, at? v = some i → i ∈ l) : vs.map (num l) = ws.map (num m) := by
  induction hv with
  | nil => rfl
  | cons a _ ih =>
    simp only [List.map_cons, List.cons.injEq]
    exact ⟨a.num hb hl (hi _ (by simp)), ih fun v hv => hi v (by simp [hv])⟩
def told {δ : Type} (vals : Nat → List Int) (dat : Nat → δ) (l : List Nat) : List (δ × List Int) := l.map fun i => (dat i, (vals i).map (num l))
theorem iso_told {δ : Type} {n n' : Nat} {vals wals : Nat → List Int} {dat dbt : Nat → δ} {rs qs : List Int} (o : Ordered n vals rs (order vals rs)) (o' : Ordered n' wals qs (order wals qs))
    (hv : Fits n vals) (hr : ∀ v ∈ rs, hasB n v = true) (hw : Fits n' wals) (hq : ∀ v ∈ qs, hasB n' v = true) :
    (∃ R, Iso vals wals dat dbt rs qs R) ↔ told vals dat (order vals rs) = told wals dbt (order wals qs) ∧ rs.map (num (order vals rs)) = qs.map (num (order wals qs)) := by
  constructor
  · rintro ⟨R, h⟩
    have hl := h.order
    refine ⟨List.ext_getElem (by simp [told, hl.len]) fun t h1 h2 => ?_, hl.num h.bij h.roots o.roots⟩
    simp only [told, List.length_map] at h1 h2
    simp only [told, List.getElem_map, Prod.mk.injEq]
    have hr := hl.get t h1 h2
    exact ⟨(h.step _ _ hr).1, hl.num h.bij (h.step _ _ hr).2 (o.closed _ (List.getElem_mem h1))⟩
  · rintro ⟨ht, hro⟩
    have hlen : (order vals rs).length = (order wals qs).length := by simpa [told] using congrArg List.length ht
    have one : ∀ v w, hasB n v = true → hasB n' w = true → (∀ j, at? v = some j → j ∈ order vals rs) → (∀ j, at? w = some j → j ∈ order wals qs) → num (order vals rs) v = num (order wals qs) w →
        VR (fun i k => ∃ t, ∃ h1 : t < (order vals rs).length, ∃ h2 : t < (order wals qs).length, (order vals rs)[t] = i ∧ (order wals qs)[t] = k) v w := by
      intro v w hv' hw' h1 h2 e
      cases ev : at? v with
      | none =>
        rw [num_no ev] at e
        cases ew : at? w with
        | none => rw [num_no ew] at e; subst e; exact .n ev
        | some k =>
          rw [num_at ew] at e
          have hn : (n? v).isSome = true := by
            rcases hasB_iff.1 hv' with h | ⟨i, h, _⟩
            · exact h
            · rw [ev] at h; cases h
          obtain ⟨x, hx⟩ := Option.isSome_iff_exists.1 hn
          have := n_some.1 hx
          omega
      | some i =>
        rw [num_at ev] at e
        cases ew : at? w with
        | none =>
          rw [num_no ew] at e
          have hn : (n? w).isSome = true := by
            rcases hasB_iff.1 hw' with h | ⟨i, h, _⟩
            · exact h
            · rw [ew] at h; cases h
          obtain ⟨x, hx⟩ := Option.isSome_iff_exists.1 hn
          have := n_some.1 hx
          omega
        | some k =>
          rw [num_at ew] at e
          obtain ⟨p1, p2⟩ := get_idxOf (h1 i ev)
          obtain ⟨q1, q2⟩ := get_idxOf (h2 k ew)
          have e' : (order vals rs).idxOf i = (order wals qs).idxOf k := by omega
          exact .r ev ew ⟨_, p1, e' ▸ q1, p2, by simp only [e', q2]⟩
    have lists : ∀ vs ws : List Int, (∀ v ∈ vs, hasB n v = true) → (∀ v ∈ ws, hasB n' v = true) → (∀ v ∈ vs, ∀ j, at? v = some j → j ∈ order vals rs) → (∀ v ∈ ws, ∀ j, at? v = some j → j ∈ order wals qs) →
        vs.map (num (order vals rs)) = ws.map (num (order wals qs)) → L2 (VR (fun i k => ∃ t, ∃ h1 : t < (order vals rs).length, ∃ h2 : t < (order wals qs).length, (order vals rs)[t] = i ∧ (order wals qs)[t] = k)) vs ws := by
      intro vs ws a b c d e
      have hl : vs.length = ws.length := by simpa using congrArg List.length e
      refine .of_get hl fun t h1 h2 => one _ _ (a _ (List.getElem_mem h1)) (b _ (List.getElem_mem h2)) (c _ (List.getElem_mem h1)) (d _ (List.getElem_mem h2)) ?_
      have := congrArg (fun l => l[t]?) e
      simpa [h1, h2] using this
    refine ⟨_, ⟨⟨?_, ?_⟩, lists rs qs hr hq o.roots o'.roots hro, ?_⟩⟩
    · rintro i k k' ⟨t, h1, h2, rfl, rfl⟩ ⟨t', h3, h4, e, rfl⟩
      have := (List.getElem_inj o.nodup).1 e
      subst this; rfl
    · rintro i i' k ⟨t, h1, h2, rfl, rfl⟩ ⟨t', h3, h4, rfl, e⟩
      have := (List.getElem_inj o'.nodup).1 e
      subst this; rfl
    · rintro i k ⟨t, h1, h2, rfl, rfl⟩
      have := congrArg (fun l => l[t]?) ht
      simp only [told, List.getElem?_map, List.getElem?_eq_getElem h1, List.getElem?_eq_getElem h2, Option.map_some, Option.some.injEq, Prod.mk.injEq] at this
      exact ⟨this.1, lists _ _ (hv _ (o.lt _ (List.getElem_mem h1))) (hw _ (o'.lt _ (List.getElem_mem h2))) (o.closed _ (List.getElem_mem h1)) (o'.closed _ (List.getElem_mem h2)) this.2⟩
end Go.Pv

/- Pairing objects of two graphs, again and again: it holds just if they are the same but for numbers. -/
namespace Go.Pv
abbrev PS := List Int × List Int
def RP (P : PS) (i k : Nat) : Prop := P.1[i]? = some (k : Int)
structure PBj (n m : Nat) (P : PS) : Prop where
  l1 : P.1.length = n
  l2 : P.2.length = m
  to : ∀ (i : Nat) (x : Int), P.1[i]? = some x → x = -1 ∨ ∃ k : Nat, x = (k : Int) ∧ P.2[k]? = some (i : Int)
  fr : ∀ (k : Nat) (x : Int), P.2[k]? = some x → x = -1 ∨ ∃ i : Nat, x = (i : Int) ∧ P.1[i]? = some (k : Int)
def cnt (P : PS) : Nat := P.1.countP fun x => decide (0 ≤ x)
def pairM (P : PS) (v w : Int) : Bool × PS :=
  match at? v, at? w with
  | some i, some k =>
    let P' := if P.1.getD i 0 = -1 ∧ P.2.getD k 0 = -1 then (P.1.set i (k : Int), P.2.set k (i : Int)) else P
    (decide (P'.1.getD i 0 = (k : Int) ∧ P'.2.getD k 0 = (i : Int)), P')
  | none, none => (decide (v = w), P)
  | _, _ => (false, P)
structure Paired (n m : Nat) (P P' : PS) : Prop where
  ok : PBj n m P'
  up : ∀ i k, RP P i k → RP P' i k
  cnt : Pv.cnt P ≤ Pv.cnt P'
  same : Pv.cnt P = Pv.cnt P' → P = P'
def pairL : List Int → List Int → PS → Option PS
  | v :: vs, w :: ws, P => if (pairM P v w).1 = true then pairL vs ws (pairM P v w).2 else none
  | _, _, P => some P
section
variable {δ : Type} [DecidableEq δ] (vals wals : Nat → List Int) (dat dbt : Nat → δ)
def fitI (i : Nat) (P : PS) : Option PS :=
  if P.1.getD i 0 < 0 then some P else
  if dat i = dbt (P.1.getD i 0).toNat ∧ (vals i).length = (wals (P.1.getD i 0).toNat).length then pairL (vals i) (wals (P.1.getD i 0).toNat) P else none
def fitsF : Nat → Nat → PS → Option PS
  | 0, _, P => some P
  | f + 1, i, P => match fitI vals wals dat dbt i P with
    | some P' => fitsF f (i + 1) P'
    | none => none
def roundsF (n : Nat) : Nat → PS → Option PS
  | 0, P => some P
  | k + 1, P => match fitsF vals wals dat dbt n 0 P with
    | some P' => roundsF n k P'
    | none => none
variable {vals wals dat dbt}
variable {n m : Nat} (hv : Fits n vals) (hw : Fits m wals)
include hv hw
def okAt (vals wals : Nat → List Int) (dat dbt : Nat → δ) (P : PS) (i : Nat) : Prop := ∀ k, RP P i k → dat i = dbt k ∧ L2 (VR (RP P)) (vals i) (wals k)
end
def none2 (n m : Nat) : PS := (List.replicate n (-1), List.replicate m (-1))
def pairing {δ : Type} [DecidableEq δ] (vals wals : Nat → List Int) (dat dbt : Nat → δ) (n m : Nat) (rs qs : List Int) : Bool :=
  decide (rs.length = qs.length) && (match pairL rs qs (none2 n m) with
    | some P => (roundsF vals wals dat dbt n (n + 1) P).isSome
    | none => false)
end Go.Pv

/- Graphs told by a list of their numbers: the same but for numbers, and all of it reached. -/
namespace Go.Pv
section
variable {δ : Type} {vals wals : Nat → List Int} {dat dbt : Nat → δ} {rs qs : List Int} {R : Nat → Nat → Prop} {n m : Nat}
end
def renv (vals : Nat → List Int) (l : List Nat) (k : Nat) : List Int := (vals (l.getD k 0)).map (num l)
def rend {δ : Type} (dat : Nat → δ) (l : List Nat) (k : Nat) : δ := dat (l.getD k 0)
def RL (l : List Nat) (i k : Nat) : Prop := l[k]? = some i
structure Shut (n : Nat) (vals : Nat → List Int) (rs : List Int) (l : List Nat) : Prop where
  nodup : l.Nodup
  lt : ∀ x ∈ l, x < n
  roots : ∀ v ∈ rs, ∀ j, at? v = some j → j ∈ l
  closed : ∀ i ∈ l, ∀ v ∈ vals i, ∀ j, at? v = some j → j ∈ l
section
variable {n : Nat} {vals : Nat → List Int} {rs : List Int} {l : List Nat}
theorem Shut.len (s : Shut n vals rs l) : l.length ≤ n := nodup_len n l s.nodup s.lt
theorem num_has (hn : l.length ≤ 1048576) {v : Int} (hv : hasB n v = true) (h : ∀ j, at? v = some j → j ∈ l) : hasB l.length (num l v) = true := by
  cases e : at? v with
  | none =>
    rw [num_no e]
    rcases hasB_iff.1 hv with h1 | ⟨i, h1, _⟩
    · exact hasB_iff.2 (.inl h1)
    · rw [e] at h1; cases h1
  | some i =>
    rw [num_at e]
    obtain ⟨h1, _⟩ := get_idxOf (h i e)
    exact hasB_iff.2 (.inr ⟨_, at_two (by omega), h1⟩)
theorem RL_bij (hd : l.Nodup) : Bij (RL l) where
  fn := fun {i k k'} a b => by
    unfold RL at a b
    obtain ⟨h1, e1⟩ := List.getElem?_eq_some_iff.1 a
    obtain ⟨h2, e2⟩ := List.getElem?_eq_some_iff.1 b
    exact (List.getElem_inj hd).1 (e1.trans e2.symm)
  inj := fun {i i' k} a b => by unfold RL at a b; rw [a] at b; cases b; rfl
theorem num_VR (hn : l.length ≤ 1048576) {v : Int} (h : ∀ j, at? v = some j → j ∈ l) : VR (RL l) v (num l v) := by
  cases e : at? v with
  | none => rw [num_no e]; exact .n e
  | some i =>
    rw [num_at e]
    obtain ⟨h1, h2⟩ := get_idxOf (h i e)
    exact .r e (at_two (by omega)) (by unfold RL; rw [List.getElem?_eq_getElem h1, h2])
theorem num_L2 (hn : l.length ≤ 1048576) : ∀ {vs : List Int}, (∀ v ∈ vs, ∀ j, at? v = some j → j ∈ l) → L2 (VR (RL l)) vs (vs.map (num l))
  | [], _ => .nil
  | v :: vs, h => .cons (num_VR hn (h v (by simp))) (num_L2 hn fun w hw => h w (by simp [hw]))
theorem RL_getD {i k : Nat} (h : RL l i k) : l.getD k 0 = i := by
  unfold RL at h
  rw [List.getD_eq_getElem?_getD, h]; rfl
theorem RL_lt {i k : Nat} (h : RL l i k) : k < l.length := (List.getElem?_eq_some_iff.1 h).1
theorem RL_mem {i k : Nat} (h : RL l i k) : i ∈ l := List.mem_of_getElem? h
theorem Shut.iso {δ : Type} {dat : Nat → δ} (s : Shut n vals rs l) (hn : l.length ≤ 1048576) : Iso vals (renv vals l) dat (rend dat l) rs (rs.map (num l)) (RL l) where
  bij := RL_bij s.nodup
  roots := num_L2 hn s.roots
  step := fun i k h => by
    unfold renv rend
    rw [RL_getD h]
    exact ⟨rfl, num_L2 hn (s.closed i (RL_mem h))⟩
end
def lv (M : List Bool) : List Nat := (List.range M.length).filter (isM M)
theorem mem_lv {M : List Bool} {i : Nat} : i ∈ lv M ↔ isM M i = true := by
  unfold lv
  rw [List.mem_filter, List.mem_range]
  exact ⟨fun h => h.2, fun h => ⟨isM_lt h, h⟩⟩
theorem idxs_eq (M : List Bool) : idxs M = (lv M).map Int.ofNat := rfl
theorem lv_nodup (M : List Bool) : (lv M).Nodup := List.nodup_range.filter _
theorem lv_sorted (M : List Bool) : (lv M).Pairwise (· < ·) := List.pairwise_lt_range.filter _
theorem lv_shut {n : Nat} {vals : Nat → List Int} {rs : List Int} {M : List Bool} (hv : Fits n vals) (hr : ∀ v ∈ rs, hasB n v = true) (h : ∀ i, isM M i = true ↔ Rch n vals rs i) : Shut n vals rs (lv M) where
  nodup := lv_nodup M
  lt := fun x hx => ((h x).1 (mem_lv.1 hx)).lt
  roots := fun v hv' j e => mem_lv.2 ((h j).2 (.root hv' e (hasB_at (hr v hv') e)))
  closed := fun i hi v hv' j e => by
    have hi' := (h i).1 (mem_lv.1 hi)
    exact mem_lv.2 ((h j).2 (.step hi' hv' e (hasB_at (hv i hi'.lt v hv') e)))
noncomputable def marks (n : Nat) (vals : Nat → List Int) (rs : List Int) : List Bool := by
  classical exact (List.range n).map fun i => decide (Rch n vals rs i)
theorem marks_len (n : Nat) (vals : Nat → List Int) (rs : List Int) : (marks n vals rs).length = n := by simp [marks]
theorem isM_marks {n : Nat} {vals : Nat → List Int} {rs : List Int} {i : Nat} : isM (marks n vals rs) i = true ↔ Rch n vals rs i := by
  constructor
  · intro h
    have hl := isM_lt h
    rw [isM_get hl] at h
    simpa [marks] using h
  · intro h
    have hl : i < (marks n vals rs).length := by rw [marks_len]; exact h.lt
    rw [isM_get hl]
    simpa [marks] using h
theorem marks_of {n : Nat} {vals : Nat → List Int} {rs : List Int} {M : List Bool} (hl : M.length = n) (h : ∀ i, isM M i = true ↔ Rch n vals rs i) : M = marks n vals rs :=
  isM_ext (by rw [hl, marks_len]) fun i _ => (h i).trans isM_marks.symm
noncomputable def live (n : Nat) (vals : Nat → List Int) (rs : List Int) : List Nat := lv (marks n vals rs)
theorem mem_live {n : Nat} {vals : Nat → List Int} {rs : List Int} {i : Nat} : i ∈ live n vals rs ↔ Rch n vals rs i := mem_lv.trans isM_marks
theorem live_shut {n : Nat} {vals : Nat → List Int} {rs : List Int} (hv : Fits n vals) (hr : ∀ v ∈ rs, hasB n v = true) : Shut n vals rs (live n vals rs) := lv_shut hv hr fun _ => isM_marks
end Go.Pv

/- Heaps in plain words. -/
namespace Go.Pv
open Classical in
noncomputable def dec (p : Prop) : Bool := decide p
theorem dec_iff {p : Prop} : dec p = true ↔ p := by unfold dec; simp
theorem dec_true {p : Prop} (h : p) : dec p = true := dec_iff.2 h
theorem dec_false {p : Prop} (h : ¬ p) : dec p = false := by cases e : dec p with | false => rfl | true => exact absurd (dec_iff.1 e) h
theorem dec_congr {p q : Prop} (h : p ↔ q) : dec p = dec q := by rw [propext h]
def GObj.vals (o : GObj) : List Int := o.Class :: o.Slots
abbrev Dat := Int × ByteArray × Int × Int
def GObj.dat (o : GObj) : Dat := (o.Kind, o.Text, o.Bits, o.Hash)
theorem GObj.ext2 {a b : GObj} (h : a.dat = b.dat) (h' : a.vals = b.vals) : a = b := by
  cases a; cases b
  simp only [GObj.dat, GObj.vals, Prod.mk.injEq, List.cons.injEq] at h h'
  obtain ⟨h1, h2, h3, h4⟩ := h
  obtain ⟨h5, h6⟩ := h'
  subst h1; subst h2; subst h3; subst h4; subst h5; subst h6
  rfl
structure OkObj (n : Nat) (o : GObj) : Prop where
  cls : 0 ≤ refI n o.Class
  kind : 0 ≤ o.Kind ∧ o.Kind ≤ 2
  hash : 0 ≤ o.Hash ∧ o.Hash ≤ 1073741823
  ptr : o.Kind ≠ 0 → o.Slots = []
  text : o.Kind ≠ 1 → o.Text = ByteArray.empty
  bits : o.Kind ≠ 2 → o.Bits = 0
  nslots : o.Slots.length ≤ 64
  ntext : o.Text.size ≤ 64
  canon : canonF o.Bits = o.Bits
  slots : ∀ v ∈ o.Slots, hasB n v = true
theorem OkObj.vals {n : Nat} {o : GObj} (h : OkObj n o) : ∀ v ∈ o.vals, hasB n v = true := by
  intro v hv
  rcases List.mem_cons.1 hv with rfl | hv
  · obtain ⟨i, h1, h2⟩ := refI_nonneg.1 h.cls
    exact hasB_iff.2 (.inr ⟨i, h1, h2⟩)
  · exact h.slots v hv
def GHeap.n (h : GHeap) : Nat := h.Objs.length
def GHeap.vals (h : GHeap) (i : Nat) : List Int := (atN h.Objs i).vals
def GHeap.dat (h : GHeap) (i : Nat) : Dat := (atN h.Objs i).dat
structure OkHeap (h : GHeap) : Prop where
  cap : 1 ≤ h.Cap ∧ h.Cap ≤ 256
  len : (h.Objs.length : Int) ≤ h.Cap
  last : 0 ≤ h.Last ∧ h.Last ≤ 1073741823
  objs : ∀ o ∈ h.Objs, OkObj h.Objs.length o
theorem atN_get {α : Type} [Enc α] (l : List α) (i : Nat) (h : i < l.length) : atN l i = l[i] := by simp [atN, h]
theorem atN_mem {α : Type} [Enc α] {l : List α} {i : Nat} (h : i < l.length) : atN l i ∈ l := by rw [atN_get l i h]; exact List.getElem_mem h
theorem OkHeap.small {h : GHeap} (o : OkHeap h) : h.n ≤ 256 := by
  have h1 := o.len
  have h2 := o.cap
  unfold GHeap.n
  omega
theorem OkHeap.ok {h : GHeap} (o : OkHeap h) {i : Nat} (hi : i < h.n) : OkObj h.n (atN h.Objs i) := o.objs _ (atN_mem hi)
theorem OkHeap.fits {h : GHeap} (o : OkHeap h) : Fits h.n h.vals := fun _ hi => (o.ok hi).vals
def Roots (h : GHeap) (rs : List Int) : Prop := ∀ v ∈ rs, hasB h.n v = true
def GObj.by (l : List Nat) (o : GObj) : GObj := { o with Class := num l o.Class, Slots := o.Slots.map (num l) }
theorem by_vals (l : List Nat) (o : GObj) : (o.by l).vals = o.vals.map (num l) := rfl
theorem by_dat (l : List Nat) (o : GObj) : (o.by l).dat = o.dat := rfl
def GHeap.by (h : GHeap) (l : List Nat) : GHeap := { h with Objs := l.map fun i => (atN h.Objs i).by l }
theorem by_n (h : GHeap) (l : List Nat) : (h.by l).n = l.length := by simp [GHeap.n, GHeap.by]
theorem by_at (h : GHeap) (l : List Nat) {k : Nat} (hk : k < l.length) : atN (h.by l).Objs k = (atN h.Objs (l.getD k 0)).by l := by
  simp [atN, GHeap.by, hk]
theorem by_renv (h : GHeap) (l : List Nat) {k : Nat} (hk : k < l.length) : (h.by l).vals k = renv h.vals l k := by
  unfold GHeap.vals renv
  rw [by_at h l hk, by_vals]
theorem by_rend (h : GHeap) (l : List Nat) {k : Nat} (hk : k < l.length) : (h.by l).dat k = rend h.dat l k := by
  unfold GHeap.dat rend
  rw [by_at h l hk, by_dat]
theorem num_isRef {l : List Nat} (hn : l.length ≤ 1048576) {n : Nat} {v : Int} (hv : 0 ≤ refI n v) (h : ∀ j, at? v = some j → j ∈ l) : 0 ≤ refI l.length (num l v) := by
  obtain ⟨i, e, _⟩ := refI_nonneg.1 hv
  obtain ⟨h1, _⟩ := get_idxOf (h i e)
  rw [num_at e]
  exact refI_nonneg.2 ⟨_, at_two (by omega), h1⟩
theorem OkObj.by {n : Nat} {o : GObj} {l : List Nat} (ok : OkObj n o) (hn : l.length ≤ 1048576) (h : ∀ v ∈ o.vals, ∀ j, at? v = some j → j ∈ l) : OkObj l.length (o.by l) where
  cls := num_isRef hn ok.cls (h _ (List.mem_cons_self ..))
  kind := ok.kind
  hash := ok.hash
  ptr := fun hk => by
    have := ok.ptr hk
    show o.Slots.map (num l) = []
    rw [this]; rfl
  text := ok.text
  bits := ok.bits
  nslots := by
    show (o.Slots.map (num l)).length ≤ 64
    rw [List.length_map]; exact ok.nslots
  ntext := ok.ntext
  canon := ok.canon
  slots := fun w hw => by
    obtain ⟨v, h1, rfl⟩ := List.mem_map.1 hw
    exact num_has hn (ok.slots v h1) (h v (List.mem_cons_of_mem _ h1))
theorem OkHeap.by {h : GHeap} (o : OkHeap h) {rs : List Int} {l : List Nat} (s : Shut h.n h.vals rs l) : OkHeap (h.by l) where
  cap := o.cap
  len := by
    have h1 := s.len
    have h2 := o.len
    show (((h.by l).n : Nat) : Int) ≤ h.Cap
    rw [by_n]
    unfold GHeap.n at h1
    omega
  last := o.last
  objs := fun x hx => by
    have hn : (h.by l).Objs.length = l.length := by simp [GHeap.by]
    rw [hn]
    simp only [GHeap.by, List.mem_map] at hx
    obtain ⟨i, hi, rfl⟩ := hx
    have h1 := s.len
    have h2 := o.small
    exact (o.ok (s.lt i hi)).by (by omega) (s.closed i hi)
def SameH (h : GHeap) (rs : List Int) (g : GHeap) (qs : List Int) : Prop := ∃ R, (∀ i k, R i k → i < h.n ∧ k < g.n) ∧ Iso h.vals g.vals h.dat g.dat rs qs R
noncomputable def liveH (h : GHeap) (rs : List Int) : List Nat := live h.n h.vals rs
def orderH (h : GHeap) (rs : List Int) : List Nat := order h.vals rs
theorem by_same {h : GHeap} {rs : List Int} (o : OkHeap h) {l : List Nat} (s : Shut h.n h.vals rs l) : SameH h rs (h.by l) (rs.map (num l)) := by
  have h1 := s.len
  have h2 := o.small
  have iso : Iso h.vals (renv h.vals l) h.dat (rend h.dat l) rs (rs.map (num l)) (RL l) := s.iso (by omega)
  refine ⟨RL l, fun i k hik => ⟨s.lt i (RL_mem hik), by rw [by_n]; exact RL_lt hik⟩, iso.bij, iso.roots, fun i k hik => ?_⟩
  rw [by_renv h l (RL_lt hik), by_rend h l (RL_lt hik)]
  exact iso.step i k hik
section
variable {h : GHeap} {rs : List Int} (o : OkHeap h) (r : Roots h rs)
include o r
theorem ordered : Ordered h.n h.vals rs (orderH h rs) := order_ok o.small o.fits r
theorem liveShut : Shut h.n h.vals rs (liveH h rs) := live_shut o.fits r
end
theorem SameH.flip {h g : GHeap} {rs qs : List Int} (s : SameH h rs g qs) : SameH g qs h rs := by
  obtain ⟨R, h1, h2⟩ := s
  exact ⟨_, fun i k hr => (h1 k i hr).symm, h2.flip⟩
theorem SameH.comp {h g f : GHeap} {rs qs ps : List Int} (s : SameH h rs g qs) (t : SameH g qs f ps) : SameH h rs f ps := by
  obtain ⟨R, h1, h2⟩ := s
  obtain ⟨S, h3, h4⟩ := t
  exact ⟨_, fun i k ⟨b, a, c⟩ => ⟨(h1 i b a).1, (h3 b k c).2⟩, h2.comp h4⟩
theorem same_told {h g : GHeap} {rs qs : List Int} (o : OkHeap h) (r : Roots h rs) (o' : OkHeap g) (r' : Roots g qs) :
    SameH h rs g qs ↔ (h.by (orderH h rs)).Objs = (g.by (orderH g qs)).Objs ∧ rs.map (num (orderH h rs)) = qs.map (num (orderH g qs)) := by
  have key := iso_told (dat := h.dat) (dbt := g.dat) (ordered o r) (ordered o' r') o.fits r o'.fits r'
  have e : ∀ {h g : GHeap} {rs qs : List Int}, told h.vals h.dat (order h.vals rs) = told g.vals g.dat (order g.vals qs) ↔ (h.by (orderH h rs)).Objs = (g.by (orderH g qs)).Objs := by
    intro h g rs qs
    constructor
    · intro e
      have hl : (orderH h rs).length = (orderH g qs).length := by simpa [told, orderH] using congrArg List.length e
      refine List.ext_getElem (by simp [GHeap.by, hl]) fun t h1 h2 => ?_
      simp only [GHeap.by, List.length_map] at h1 h2
      simp only [GHeap.by, List.getElem_map]
      have := congrArg (fun l => l[t]?) e
      have h1' : t < (order h.vals rs).length := h1
      have h2' : t < (order g.vals qs).length := h2
      simp only [told, List.getElem?_map, List.getElem?_eq_getElem h1', List.getElem?_eq_getElem h2', Option.map_some, Option.some.injEq, Prod.mk.injEq] at this
      exact GObj.ext2 this.1 this.2
    · intro e
      have hl : (orderH h rs).length = (orderH g qs).length := by simpa [GHeap.by] using congrArg List.length e
      refine List.ext_getElem (by simpa [told, orderH] using hl) fun t h1 h2 => ?_
      simp only [told, List.length_map] at h1 h2
      simp only [told, List.getElem_map, Prod.mk.injEq]
      have := congrArg (fun l => l[t]?) e
      have h1' : t < (orderH h rs).length := h1
      have h2' : t < (orderH g qs).length := h2
      simp only [GHeap.by, List.getElem?_map, List.getElem?_eq_getElem h1', List.getElem?_eq_getElem h2', Option.map_some, Option.some.injEq] at this
      have e1 := congrArg GObj.dat this
      have e2 := congrArg GObj.vals this
      exact ⟨e1, e2⟩
  rw [e] at key
  refine Iff.trans ?_ key
  constructor
  · rintro ⟨R, _, h2⟩; exact ⟨R, h2⟩
  · rintro ⟨R, h2⟩
    refine ⟨fun i k => R i k ∧ i < h.n ∧ k < g.n, fun _ _ h => h.2, ⟨fun a b => h2.bij.fn a.1 b.1, fun a b => h2.bij.inj a.1 b.1⟩, ?_, ?_⟩
    all_goals
      have one : ∀ {vs ws : List Int}, (∀ v ∈ vs, hasB h.n v = true) → (∀ v ∈ ws, hasB g.n v = true) → L2 (VR R) vs ws → L2 (VR fun i k => R i k ∧ i < h.n ∧ k < g.n) vs ws := fun hv hw hl =>
        hl.mono fun v w h1 h3 hvw => by
          cases hvw with
          | n e => exact .n e
          | r e e' hr => exact .r e e' ⟨hr, hasB_at (hv _ h1) e, hasB_at (hw _ h3) e'⟩
    · exact one r r' h2.roots
    · rintro i k ⟨hr, hi, hk⟩
      exact ⟨(h2.step i k hr).1, one (o.fits i hi) (o'.fits k hk) (h2.step i k hr).2⟩
end Go.Pv

/- States and checkpoints in plain words. -/
namespace Go.Pv
structure OkState (s : GState) : Prop where
  heap : OkHeap s.Heap
  many : 12 ≤ s.Heap.Objs.length
  proc : 0 ≤ refI s.Heap.n s.Proc
  ready : 0 ≤ refI s.Heap.n s.Ready
  halt : 0 ≤ s.Halt ∧ s.Halt ≤ 255
  steps : 0 ≤ s.Steps ∧ s.Steps ≤ 1099511627776
  used : 0 ≤ s.Used ∧ s.Used ≤ 1000
def Rising (L : List GState) : Prop := L.Pairwise fun a b => a.Steps < b.Steps
def upN (L : List GState) (x : Int) : Nat := L.countP fun s => decide (s.Steps ≤ x)
structure OkPoints (p : GPoints) : Prop where
  every : 1 ≤ p.Every ∧ p.Every ≤ 1000
  most : 1 ≤ p.Most ∧ p.Most ≤ 50
  len : (p.L.length : Int) ≤ p.Most
  ok : ∀ s ∈ p.L, OkState s
  rising : Rising p.L
def GPoints.zero : GPoints := ⟨0, 0, []⟩
def GState.zero : GState := ⟨⟨[], 0, 0⟩, 0, 0, 0, 0, 0⟩
def lastS (L : List GState) : GState := atN L (L.length - 1)
open Classical in
noncomputable def noteS (p : GPoints) (s : GState) : GPoints × Int :=
  if OkPoints p ∧ OkState s then
    if p.L ≠ [] ∧ (s.Steps % p.Every ≠ 0 ∨ s.Steps ≤ (lastS p.L).Steps) then (p, 0)
    else (⟨p.Every, p.Most, (p.L ++ [s]).drop (p.L.length + 1 - p.Most.toNat)⟩, 0)
  else (GPoints.zero, 220)
open Classical in
noncomputable def bestS (p : GPoints) (x : Int) : GState × Int :=
  if OkPoints p then if upN p.L x = 0 then (GState.zero, 201) else (atN p.L (upN p.L x - 1), 0) else (GState.zero, 220)
open Classical in
noncomputable def cutS (p : GPoints) (x : Int) : GPoints × Int :=
  if OkPoints p then (⟨p.Every, p.Most, p.L.take (upN p.L x)⟩, 0) else (GPoints.zero, 220)
end Go.Pv

/- Tables of new numbers, in plain words. -/
namespace Go.Pv
def newNo (l : List Nat) (i : Nat) : Int := if i ∈ l then (l.idxOf i : Int) else -1
def tab (n : Nat) (l : List Nat) : List Int := (List.range n).map (newNo l)
theorem tab_len (n : Nat) (l : List Nat) : (tab n l).length = n := by simp [tab]
theorem tab_get {n : Nat} {l : List Nat} {i : Nat} (h : i < n) : (tab n l)[i]? = some (newNo l i) := by
  unfold tab
  rw [List.getElem?_map, List.getElem?_range h, Option.map_some]
theorem tab_atN {n : Nat} {l : List Nat} {i : Nat} (h : i < n) (d : Int) : (tab n l).getD i d = newNo l i := by
  rw [List.getD_eq_getElem?_getD, tab_get h, Option.getD_some]
def refP (i : Int) : Int × Bool := if 0 ≤ i ∧ i < 1048576 then (2 * i, true) else (0, false)
def valP (t : List Int) (v : Int) : Int × Bool :=
  match at? v with
  | none => if (n? v).isSome then (v, true) else (0, false)
  | some i => if i < t.length then refP (t.getD i 0) else (0, false)
theorem valP_n {t : List Int} {v : Int} (h : (n? v).isSome = true) : valP t v = (v, true) := by
  unfold valP
  rw [at_n h, if_pos h]
theorem valP_in {n : Nat} {l : List Nat} {v : Int} {i : Nat} (hl : l.length ≤ 1048576) (e : at? v = some i) (hi : i < n) (hm : i ∈ l) : valP (tab n l) v = (num l v, true) := by
  have h1 := List.idxOf_lt_length_of_mem hm
  unfold valP
  rw [e]
  simp only
  rw [if_pos (by rw [tab_len]; exact hi), tab_atN hi, num_at e]
  unfold newNo refP
  rw [if_pos hm, if_pos (by omega)]
theorem valP_tab {n : Nat} {l : List Nat} {v : Int} (hl : l.length ≤ 1048576) (hv : hasB n v = true) (h : ∀ i, at? v = some i → i ∈ l) : valP (tab n l) v = (num l v, true) := by
  cases e : at? v with
  | some i => exact valP_in hl e (hasB_at hv e) (h i e)
  | none =>
    rcases hasB_iff.1 hv with h1 | ⟨i, h1, _⟩
    · rw [valP_n h1, num_no e]
    · rw [e] at h1; cases h1
theorem vals_tab {n : Nat} {l : List Nat} {vs : List Int} (hl : l.length ≤ 1048576) (hv : ∀ v ∈ vs, hasB n v = true) (h : ∀ v ∈ vs, ∀ i, at? v = some i → i ∈ l) : vs.map (fun v => (valP (tab n l) v).1) = vs.map (num l) :=
  List.map_congr_left fun v hm => by rw [valP_tab hl (hv v hm) (h v hm)]
theorem tab_nil (n : Nat) : tab n [] = List.replicate n (-1) := by
  refine List.ext_getElem (by simp [tab]) fun i h1 h2 => ?_
  simp [tab, newNo]
theorem newNo_snoc {l : List Nat} {i : Nat} (h : i ∉ l) (j : Nat) : newNo (l ++ [i]) j = if j = i then (l.length : Int) else newNo l j := by
  unfold newNo
  by_cases e : j = i
  · subst e
    rw [if_pos (by simp), if_pos rfl]
    simp [List.idxOf_append, h]
  · rw [if_neg e]
    by_cases hm : j ∈ l
    · rw [if_pos (by simp [hm]), if_pos hm, idxOf_app hm]
    · rw [if_neg (by simp [hm, e]), if_neg hm]
theorem tab_snoc {n : Nat} {l : List Nat} {i : Nat} (h : i ∉ l) : (tab n l).set i (l.length : Int) = tab n (l ++ [i]) := by
  refine List.ext_getElem (by simp [tab]) fun j h1 h2 => ?_
  have hj : j < n := by simpa [tab] using h2
  rw [List.getElem_set]
  have e1 : (tab n (l ++ [i]))[j] = newNo (l ++ [i]) j := by simp [tab]
  have e2 : (tab n l)[j]'(by rw [tab_len]; exact hj) = newNo l j := by simp [tab]
  rw [e1, newNo_snoc h, e2]
  by_cases e : i = j
  · rw [if_pos e, if_pos e.symm]
  · rw [if_neg e, if_neg (fun h => e h.symm)]
theorem idxOf_less : ∀ {l : List Nat} {i : Nat}, l.Pairwise (· < ·) → i ∈ l → l.idxOf i = l.countP fun x => decide (x < i)
  | [], _, _, h => by cases h
  | a :: l, i, hp, hm => by
    obtain ⟨h1, h2⟩ := List.pairwise_cons.1 hp
    rw [List.idxOf_cons, List.countP_cons]
    by_cases e : a = i
    · subst e
      have : l.countP (fun x => decide (x < a)) = 0 := by
        rw [List.countP_eq_zero]
        intro x hx
        have := h1 x hx
        simp only [decide_eq_true_eq]; omega
      simp [this]
    · have hm' : i ∈ l := by
        rcases List.mem_cons.1 hm with h | h
        · exact absurd h.symm e
        · exact h
      have := h1 i hm'
      have e' : (a == i) = false := by simpa using e
      rw [e', cond_false, idxOf_less h2 hm', if_pos (by simpa using this)]
theorem idx_first : ∀ {l : List Nat} {k : Nat}, l.Pairwise (· < ·) → (∀ i, i < k → i ∈ l) → ∀ i, i < k → l.idxOf i = i := by
  intro l k hp hk i hi
  rw [idxOf_less hp (hk i hi)]
  have hd : l.Nodup := hp.imp fun h => Nat.ne_of_lt h
  have e : (l.filter fun x => decide (x < i)) = List.range i := by
    have h1 : (l.filter fun x => decide (x < i)).Pairwise (· < ·) := hp.filter _
    have h2 : (List.range i).Pairwise (· < ·) := List.pairwise_lt_range
    refine List.Perm.eq_of_pairwise (fun a b _ _ h3 h4 => absurd h3 (Nat.lt_asymm h4)) h1 h2 ?_
    refine (List.perm_ext_iff_of_nodup (hd.filter _) List.nodup_range).2 fun x => ?_
    rw [List.mem_filter, List.mem_range]
    exact ⟨fun h => by simpa using h.2, fun h => ⟨hk x (by omega), by simpa using h⟩⟩
  rw [List.countP_eq_length_filter, e, List.length_range]
theorem sorted_filter {l : List Nat} {n : Nat} (hp : l.Pairwise (· < ·)) (hl : ∀ x ∈ l, x < n) : (List.range n).filter (fun i => decide (i ∈ l)) = l := by
  have hd : l.Nodup := hp.imp fun h => Nat.ne_of_lt h
  have h2 : ((List.range n).filter fun i => decide (i ∈ l)).Pairwise (· < ·) := List.pairwise_lt_range.filter _
  refine List.Perm.eq_of_pairwise (fun a b _ _ h3 h4 => absurd h3 (Nat.lt_asymm h4)) h2 hp ?_
  refine (List.perm_ext_iff_of_nodup (List.nodup_range.filter _) hd).2 fun x => ?_
  rw [List.mem_filter, List.mem_range]
  exact ⟨fun h => by simpa using h.2, fun h => ⟨hl x h, by simpa using h⟩⟩
def back (to : List Int) (n : Nat) : List Nat := (List.range n).map fun (k : Nat) => to.idxOf (k : Int)
structure Turned (to : List Int) (n : Nat) (l : List Nat) : Prop where
  nodup : l.Nodup
  len : l.length = n
  mem : ∀ i, i ∈ l ↔ i < n
  to : ∀ i, i < n → to.getD i 0 = (l.idxOf i : Int)
end Go.Pv

/- Compaction, ways, changed places: in plain words. -/
namespace Go.Pv
theorem live_sorted {h : GHeap} {rs : List Int} : (liveH h rs).Pairwise (· < ·) := lv_sorted _
theorem mem_liveH {h : GHeap} {rs : List Int} {i : Nat} : i ∈ liveH h rs ↔ Rch h.n h.vals rs i := mem_live
theorem live_lt {h : GHeap} {rs : List Int} : ∀ x ∈ liveH h rs, x < h.n := fun _ hx => (mem_liveH.1 hx).lt
theorem live_filter {h : GHeap} {rs : List Int} : (List.range h.n).filter (fun i => decide (i ∈ liveH h rs)) = liveH h rs := sorted_filter live_sorted live_lt
section
variable {h : GHeap} {rs : List Int} (o : OkHeap h) (r : Roots h rs)
include o r
end
def endS (h : GHeap) : List Int → Int → Option Int
  | [], v => some v
  | w :: ws, v =>
    if 0 ≤ refI h.n v then
      if w = -1 then endS h ws (atN h.Objs (refI h.n v).toNat).Class
      else if w < 0 ∨ ((atN h.Objs (refI h.n v).toNat).Slots.length : Int) ≤ w then none
      else endS h ws ((atN h.Objs (refI h.n v).toNat).Slots.getD w.toNat 0)
    else none
end Go.Pv

/- States: roots, what is collected, sameness. -/
namespace Go.Pv
def firsts : List Int := [0, 2, 4, 6, 8, 10, 12, 14, 16, 18, 20, 22]
def rootsT (s : GState) : List Int := firsts ++ [s.Proc, s.Ready]
theorem at_first {v : Int} (h : v ∈ firsts) : ∃ i : Nat, i < 12 ∧ v = 2 * (i : Int) := by
  simp only [firsts, List.mem_cons, List.not_mem_nil, or_false] at h
  rcases h with h | h | h | h | h | h | h | h | h | h | h | h <;> exact ⟨(v / 2).toNat, by omega, by omega⟩
theorem first_mem {i : Nat} (h : i < 12) : 2 * (i : Int) ∈ firsts := by
  simp only [firsts, List.mem_cons, List.not_mem_nil, or_false]
  omega
theorem OkState.roots {s : GState} (o : OkState s) : Roots s.Heap (rootsT s) := by
  intro v hv
  have hn := o.many
  rcases List.mem_append.1 hv with h | h
  · obtain ⟨i, h1, rfl⟩ := at_first h
    exact hasB_iff.2 (.inr ⟨i, at_two (by omega), by unfold GHeap.n; omega⟩)
  · simp only [List.mem_cons, List.not_mem_nil, or_false] at h
    rcases h with rfl | rfl
    · obtain ⟨i, h1, h2⟩ := refI_nonneg.1 o.proc
      exact hasB_iff.2 (.inr ⟨i, h1, h2⟩)
    · obtain ⟨i, h1, h2⟩ := refI_nonneg.1 o.ready
      exact hasB_iff.2 (.inr ⟨i, h1, h2⟩)
noncomputable def liveT (s : GState) : List Nat := liveH s.Heap (rootsT s)
def GState.by (s : GState) (l : List Nat) : GState := { s with Heap := s.Heap.by l, Proc := num l s.Proc, Ready := num l s.Ready }
noncomputable def collT (s : GState) : GState := s.by (liveT s)
section
variable {s : GState} (o : OkState s)
include o
theorem live_first {i : Nat} (h : i < 12) : i ∈ liveT s := by
  refine mem_liveH.2 (.root (List.mem_append_left _ (first_mem h)) (at_two (by omega)) ?_)
  have := o.many
  unfold GHeap.n; omega
theorem liveT_idx {i : Nat} (h : i < 12) : (liveT s).idxOf i = i := idx_first live_sorted (fun _ h => live_first o h) i h
theorem liveT_len : 12 ≤ (liveT s).length := by
  have h1 := List.idxOf_lt_length_of_mem (live_first o (i := 11) (by omega))
  have e := liveT_idx o (i := 11) (by omega)
  omega
omit o in
theorem firsts_map {l : List Nat} (hl : ∀ i, i < 12 → l.idxOf i = i) : firsts.map (num l) = firsts := by
  have : firsts.map (num l) = firsts.map id := List.map_congr_left fun v hv => by
    obtain ⟨i, h1, rfl⟩ := at_first hv
    rw [num_at (at_two (by omega)), hl i h1]; rfl
  rw [this, List.map_id]
omit o in
theorem rootsT_by {l : List Nat} (hl : ∀ i, i < 12 → l.idxOf i = i) : rootsT (s.by l) = (rootsT s).map (num l) := by
  unfold rootsT
  rw [List.map_append, firsts_map hl]
  rfl
theorem OkState.by {l : List Nat} (sh : Shut s.Heap.n s.Heap.vals (rootsT s) l) (hl : 12 ≤ l.length) : OkState (s.by l) := by
  have h1 := sh.len
  have h2 := o.heap.small
  refine ⟨o.heap.by sh, ?_, ?_, ?_, o.halt, o.steps, o.used⟩
  · show 12 ≤ (s.Heap.by l).n
    rw [by_n]; exact hl
  · show 0 ≤ refI (s.Heap.by l).n (num l s.Proc)
    rw [by_n]
    exact num_isRef (by omega) o.proc (sh.roots _ (List.mem_append_right _ (by simp)))
  · show 0 ≤ refI (s.Heap.by l).n (num l s.Ready)
    rw [by_n]
    exact num_isRef (by omega) o.ready (sh.roots _ (List.mem_append_right _ (by simp)))
theorem shutT : Shut s.Heap.n s.Heap.vals (rootsT s) (liveT s) := liveShut o.heap o.roots
end
structure SameT (a b : GState) : Prop where
  oka : OkState a
  okb : OkState b
  halt : a.Halt = b.Halt
  steps : a.Steps = b.Steps
  used : a.Used = b.Used
  heap : SameH a.Heap (rootsT a) b.Heap (rootsT b)
theorem SameT.flip {a b : GState} (s : SameT a b) : SameT b a := ⟨s.okb, s.oka, s.halt.symm, s.steps.symm, s.used.symm, s.heap.flip⟩
theorem SameT.comp {a b c : GState} (s : SameT a b) (t : SameT b c) : SameT a c := ⟨s.oka, t.okb, s.halt.trans t.halt, s.steps.trans t.steps, s.used.trans t.used, s.heap.comp t.heap⟩
theorem SameT.by {s : GState} (o : OkState s) {l : List Nat} (sh : Shut s.Heap.n s.Heap.vals (rootsT s) l) (hl : ∀ i, i < 12 → l.idxOf i = i) (h12 : 12 ≤ l.length) : SameT s (s.by l) where
  oka := o
  okb := o.by sh h12
  halt := rfl
  steps := rfl
  used := rfl
  heap := by
    rw [rootsT_by hl]
    exact by_same o.heap sh
theorem SameT.coll {s : GState} (o : OkState s) : SameT s (collT s) := .by o (shutT o) (fun _ h => liveT_idx o h) (liveT_len o)
theorem rch_more {n : Nat} {vals wals : Nat → List Int} {rs : List Int} (hv : Fits n vals) (hr : ∀ v ∈ rs, hasB n v = true) (he : ∀ i, i < n → vals i = wals i) {i : Nat} : Rch (n + 1) wals rs i ↔ Rch n vals rs i := by
  constructor
  · intro h
    refine h.least (Q := fun i => Rch n vals rs i) (fun v i hv' e _ => .root hv' e (hasB_at (hr v hv') e)) fun i v j hi hv' e _ => ?_
    have hin := hi.lt
    rw [← he i hin] at hv'
    exact .step hi hv' e (hasB_at (hv i hin v hv') e)
  · intro h
    refine (h.least (Q := fun i => Rch (n + 1) wals rs i ∧ i < n) (fun v i hv' e hi => ⟨.root hv' e (by omega), hi⟩) fun i v j hi hv' e hj => ?_).1
    exact ⟨.step hi.1 (he i hi.2 ▸ hv') e (by omega), hj⟩
def GState.more (s : GState) (x : GObj) : GState := { s with Heap := { s.Heap with Objs := s.Heap.Objs ++ [x] } }
section
variable {s : GState} (o : OkState s) (x : GObj)
include o
omit o in
theorem more_vals {i : Nat} (h : i < s.Heap.n) : s.Heap.vals i = (s.more x).Heap.vals i := by
  unfold GHeap.vals GState.more
  simp only [atN]
  rw [List.getD_eq_getElem?_getD, List.getD_eq_getElem?_getD, List.getElem?_append_left h]
omit o in
theorem more_at {i : Nat} (h : i < s.Heap.n) : atN s.Heap.Objs i = atN (s.more x).Heap.Objs i := by
  unfold GState.more
  simp only [atN]
  rw [List.getD_eq_getElem?_getD, List.getD_eq_getElem?_getD, List.getElem?_append_left h]
omit o in
theorem more_n : (s.more x).Heap.n = s.Heap.n + 1 := by simp [GHeap.n, GState.more]
theorem more_live : liveT (s.more x) = liveT s := by
  have hm : ∀ i, i ∈ liveT (s.more x) ↔ i ∈ liveT s := fun i => by
    have e := more_n (s := s) x
    have h1 : i ∈ liveT (s.more x) ↔ Rch (s.more x).Heap.n (s.more x).Heap.vals (rootsT (s.more x)) i := mem_liveH
    have h2 : i ∈ liveT s ↔ Rch s.Heap.n s.Heap.vals (rootsT s) i := mem_liveH
    rw [h1, h2, e]
    exact rch_more o.heap.fits o.roots fun i h => more_vals x h
  refine List.Perm.eq_of_pairwise (fun a b _ _ h3 h4 => absurd h3 (Nat.lt_asymm h4)) live_sorted live_sorted ?_
  exact (List.perm_ext_iff_of_nodup (live_sorted.imp fun h => Nat.ne_of_lt h) (live_sorted.imp fun h => Nat.ne_of_lt h)).2 hm
theorem more_coll : collT (s.more x) = collT s := by
  unfold collT
  rw [more_live o x]
  have : ((s.more x).Heap.by (liveT s)) = s.Heap.by (liveT s) := by
    unfold GHeap.by
    have : (liveT s).map (fun i => (atN (s.more x).Heap.Objs i).by (liveT s)) = (liveT s).map fun i => (atN s.Heap.Objs i).by (liveT s) := List.map_congr_left fun i hi => by
      rw [more_at x (live_lt i hi)]
    rw [this]
    rfl
  unfold GState.by
  rw [this]
  rfl
theorem more_same (h : OkState (s.more x)) : SameT s (s.more x) := by
  have h1 := SameT.coll o
  have h2 := SameT.coll h
  rw [more_coll o x] at h2
  exact h1.comp h2.flip
end
end Go.Pv
