/- A part of the road: the interpreter of plain data and the proof that it is right. -/
import Derived.Test.YtcomdnpeoicpkaaN
import Derived.Test.YtcomdnpeoicpkaaO
import Derived.Test.YtcomdnpeoicpkaaS
import Derived.Test.YtcomdnpeoicpkaaL
import Derived.Test.YtcomdnpeoicpkaaG
set_option linter.unusedVariables false
set_option linter.unusedSimpArgs false
/- Walks up through classes: the laws in plain words. -/
namespace Go.Pv
section
variable (cls : Int → Bool) (sup : Int → Int) (top : Int → Bool)
/-- The class so many steps above. -/
def pth : Nat → Int → Option Int
  | 0, c => some c
  | k + 1, c => if cls c = true ∧ top (sup c) = false then pth k (sup c) else none
variable {cls sup top}
theorem pth_add {k m : Nat} {c d : Int} (h : pth cls sup top k c = some d) : pth cls sup top (k + m) c = pth cls sup top m d := by
  induction k generalizing c with
  | zero => cases h; rw [Nat.zero_add]
  | succ k ih =>
    rw [show k + 1 + m = (k + m) + 1 by omega]
    rw [pth] at h
    rw [pth]
    split at h
    · rename_i hc; rw [if_pos hc]; exact ih h
    · cases h
theorem pth_lt {k j : Nat} {c d : Int} (h : pth cls sup top k c = some d) (hj : j < k) : ∃ x, pth cls sup top j c = some x ∧ cls x = true ∧ top (sup x) = false ∧ pth cls sup top (j + 1) c = some (sup x) := by
  induction k generalizing c j with
  | zero => omega
  | succ k ih =>
    unfold pth at h
    split at h
    · rename_i hc
      cases j with
      | zero => exact ⟨c, rfl, hc.1, hc.2, by unfold pth; rw [if_pos hc]; rfl⟩
      | succ j =>
        obtain ⟨x, h1, h2, h3, h4⟩ := ih h (show j < k by omega)
        refine ⟨x, ?_, h2, h3, ?_⟩
        · unfold pth; rw [if_pos hc]; exact h1
        · unfold pth; rw [if_pos hc]; exact h4
    · cases h
/-- What is found is on the way, and nothing ahead of it is. -/
theorem upR_some {goes : Int → Bool → Bool} {n : Nat} {c i : Int} (h : upR cls sup top goes n c = some (i, true)) :
    ∃ k, k < n ∧ pth cls sup top k c = some i ∧ cls i = true ∧ goes i true = false ∧ ∀ j, j < k → ∀ x, pth cls sup top j c = some x → goes x true = true := by
  induction n generalizing c with
  | zero => cases h
  | succ n ih =>
    unfold upR at h
    by_cases hc : cls c = true
    · rw [if_pos hc] at h
      by_cases hg : goes c true = true
      · rw [if_pos hg] at h
        by_cases ht : top (sup c) = true
        · rw [if_pos ht] at h; cases h
        · rw [if_neg ht] at h
          obtain ⟨k, h1, h2, h3, h4, h5⟩ := ih h
          refine ⟨k + 1, by omega, ?_, h3, h4, fun j hj x hx => ?_⟩
          · unfold pth; rw [if_pos ⟨hc, by simpa using ht⟩]; exact h2
          · cases j with
            | zero => cases hx; exact hg
            | succ j => unfold pth at hx; rw [if_pos ⟨hc, by simpa using ht⟩] at hx; exact h5 j (by omega) x hx
      · rw [if_neg hg] at h
        cases h
        exact ⟨0, by omega, rfl, hc, by simpa using hg, fun j hj => by omega⟩
    · rw [if_neg hc] at h
      split at h <;> cases h
/-- What is on the way is found, or something ahead of it. -/
theorem upR_found {goes : Int → Bool → Bool} {n k : Nat} {c i : Int} (hk : k < n) (hp : pth cls sup top k c = some i) (hi : cls i = true) (hg : goes i true = false) : ∃ j, upR cls sup top goes n c = some (j, true) := by
  induction n generalizing c k with
  | zero => omega
  | succ n ih =>
    unfold upR
    cases k with
    | zero =>
      cases hp
      rw [if_pos hi, if_neg (by simp [hg])]
      exact ⟨_, rfl⟩
    | succ k =>
      unfold pth at hp
      split at hp
      · rename_i hc
        rw [if_pos hc.1]
        by_cases h1 : goes c true = true
        · rw [if_pos h1, if_neg (by simp [hc.2])]
          exact ih (by omega) hp
        · rw [if_neg h1]; exact ⟨_, rfl⟩
      · cases hp
theorem under_iff {n : Nat} {c d : Int} : (upR cls sup top (fun i is => !(is && decide (i = d))) n c).isSome = true ↔ ∃ k, k < n ∧ pth cls sup top k c = some d ∧ cls d = true := by
  constructor
  · intro h
    obtain ⟨⟨i, b⟩, hi⟩ := Option.isSome_iff_exists.1 h
    have hb : b = true := by
      cases b with
      | true => rfl
      | false =>
        exfalso
        clear h
        induction n generalizing c with
        | zero => cases hi
        | succ n ih =>
          unfold upR at hi
          split at hi
          · split at hi
            · split at hi
              · cases hi
              · exact ih hi
            · cases hi
          · simp at hi
    subst hb
    obtain ⟨k, h1, h2, h3, h4, _⟩ := upR_some hi
    have hid : i = d := by simpa using h4
    subst hid
    exact ⟨k, h1, h2, h3⟩
  · rintro ⟨k, h1, h2, h3⟩
    obtain ⟨j, hj⟩ := upR_found (goes := fun i is => !(is && decide (i = d))) h1 h2 h3 (by simp)
    rw [hj]; rfl
/-- No more numbers below n than n. -/
theorem pigeon : ∀ (n m : Nat) (f : Nat → Nat), (∀ i, i < m → f i < n) → (∀ i j, i < m → j < m → f i = f j → i = j) → m ≤ n
  | 0, m, f, h, _ => by
    cases m with
    | zero => exact Nat.le_refl _
    | succ m => exact absurd (h 0 (by omega)) (by omega)
  | n + 1, 0, f, _, _ => Nat.zero_le _
  | n + 1, m + 1, f, h, hi => by
    have := pigeon n m (fun i => if f i = n then f m else f i) (fun i hm => by
      have h1 := h i (by omega)
      have h2 := h m (by omega)
      show (if f i = n then f m else f i) < n
      by_cases e : f i = n
      · rw [if_pos e]
        have : f m ≠ n := fun e' => by have := hi i m (by omega) (by omega) (by rw [e, e']); omega
        omega
      · rw [if_neg e]; omega) (fun i j hi' hj' e => by
      by_cases e1 : f i = n
      · by_cases e2 : f j = n
        · exact hi i j (by omega) (by omega) (by rw [e1, e2])
        · rw [if_pos e1, if_neg e2] at e
          have := hi m j (by omega) (by omega) e; omega
      · by_cases e2 : f j = n
        · rw [if_neg e1, if_pos e2] at e
          have := hi i m (by omega) (by omega) e; omega
        · rw [if_neg e1, if_neg e2] at e
          exact hi i j (by omega) (by omega) e)
    omega
/-- What is reached is reached by fewer steps than there are classes. -/
theorem pth_short {N : Nat} (idx : Int → Nat) (hidx : ∀ c, cls c = true → idx c < N) (hinj : ∀ c d, cls c = true → cls d = true → idx c = idx d → c = d) {k : Nat} {c d : Int} (h : pth cls sup top k c = some d) (hd : cls d = true) :
    ∃ m, m < N ∧ pth cls sup top m c = some d := by
  obtain ⟨m, hm, hmin⟩ : ∃ m, pth cls sup top m c = some d ∧ ∀ j, j < m → pth cls sup top j c ≠ some d := by
    clear hidx hinj
    induction k using Nat.strongRecOn with
    | ind k ih =>
      by_cases e : ∃ j, j < k ∧ pth cls sup top j c = some d
      · obtain ⟨j, hj, hp⟩ := e
        exact ih j hj hp
      · exact ⟨k, h, fun j hj hp => e ⟨j, hj, hp⟩⟩
  refine ⟨m, ?_, hm⟩
  have hall : ∀ j, j < m + 1 → ∃ x, pth cls sup top j c = some x ∧ cls x = true := fun j hj => by
    by_cases e : j = m
    · subst e; exact ⟨d, hm, hd⟩
    · obtain ⟨x, h1, h2, _⟩ := pth_lt hm (show j < m by omega)
      exact ⟨x, h1, h2⟩
  have key := pigeon N (m + 1) (fun j => idx ((pth cls sup top j c).getD 0)) (fun j hj => by
    obtain ⟨x, h1, h2⟩ := hall j hj
    show idx ((pth cls sup top j c).getD 0) < N
    rw [h1]; exact hidx x h2) (fun i j hi hj e => by
    obtain ⟨x, hx1, hx2⟩ := hall i hi
    obtain ⟨y, hy1, hy2⟩ := hall j hj
    rw [hx1, hy1] at e
    have hxy : x = y := hinj x y hx2 hy2 e
    subst hxy
    rcases Nat.lt_trichotomy i j with hlt | hlt | hlt
    · exfalso
      refine hmin (i + (m - j)) (by omega) ?_
      rw [pth_add hx1, ← pth_add hy1, show j + (m - j) = m by omega, hm]
    · exact hlt
    · exfalso
      refine hmin (j + (m - i)) (by omega) ?_
      rw [pth_add hy1, ← pth_add hx1, show i + (m - i) = m by omega, hm])
  omega
end
theorem scan_step (xs : List Int) (s : Int) (q : Nat) (h : 2 * q + 1 < xs.length) : scan (xs.drop (2 * q)) s = if xs[2 * q] = s then some xs[2 * q + 1] else scan (xs.drop (2 * (q + 1))) s := by
  rw [List.drop_eq_getElem_cons (show 2 * q < xs.length by omega), List.drop_eq_getElem_cons h]
  rfl
theorem scan_stop (xs : List Int) (s : Int) (q : Nat) (h : ¬ 2 * q + 1 < xs.length) : scan (xs.drop (2 * q)) s = none := by
  have hl : (xs.drop (2 * q)).length ≤ 1 := by rw [List.length_drop]; omega
  match e : xs.drop (2 * q), hl with
  | [], _ => rfl
  | [a], _ => rfl
/-! ### classes of heaps -/
def idxP (c : Int) : Nat := (at? c).getD 0
theorem objP_some {h : GHeap} {c : Int} {o : GObj} : objP h c = some o ↔ ∃ i, at? c = some i ∧ i < h.Objs.length ∧ o = atN h.Objs i := by
  unfold objP
  cases e : at? c with
  | none => simp
  | some i =>
    by_cases hi : i < h.Objs.length
    · simp [hi, eq_comm]
    · simp [hi]
theorem clsP_ref {h : GHeap} {c : Int} (e : clsP h c = true) : ∃ i, at? c = some i ∧ i < h.Objs.length ∧ c = 2 * (i : Int) ∧ i ≤ 1048575 ∧ (atN h.Objs i).Kind = 0 ∧ 3 ≤ (atN h.Objs i).Slots.length ∧
    (objP h (atI (atN h.Objs i).Slots 0)).isSome = true ∧ (prP h (atI (atN h.Objs i).Slots 1)).2 = true := by
  unfold clsP at e
  split at e
  · cases e
  · rename_i o ho
    obtain ⟨i, h1, h2, rfl⟩ := objP_some.1 ho
    have h3 := atv_some.1 h1
    split at e
    · rename_i hk
      split at e
      · cases e
      · split at e
        · cases e
        · rename_i p hp
          simp only [Bool.and_eq_true] at e
          exact ⟨i, h1, h2, h3.1, h3.2, hk, by omega, by rw [hp]; rfl, e.1⟩
    · cases e
theorem idxP_lt {h : GHeap} {c : Int} (e : clsP h c = true) : idxP c < h.Objs.length := by
  obtain ⟨i, h1, h2, _⟩ := clsP_ref e
  unfold idxP; rw [h1]; exact h2
theorem idxP_inj {h : GHeap} {c d : Int} (e : clsP h c = true) (e' : clsP h d = true) (hi : idxP c = idxP d) : c = d := by
  obtain ⟨i, h1, _, h3, _⟩ := clsP_ref e
  obtain ⟨j, h1', _, h3', _⟩ := clsP_ref e'
  unfold idxP at hi; rw [h1, h1'] at hi
  have : i = j := hi
  omega
/-! ### LookUnder -/
theorem under_self {h : GHeap} (ok : okHeapB h = true) (a : Int) : underP h a a = clsP h a := by
  unfold underP
  rw [ok, Bool.true_and]
  unfold upR
  cases e : clsP h a <;> simp
theorem underP_iff {h : GHeap} (ok : okHeapB h = true) {a b : Int} : underP h a b = true ↔ ∃ k, k < 64 ∧ pth (clsP h) (slotP h 0) topP k a = some b ∧ clsP h b = true := by
  unfold underP
  rw [ok, Bool.true_and]
  exact under_iff
theorem under_trans {h : GHeap} (ok : okHeapB h = true) (hl : h.Objs.length ≤ 30) {a b c : Int} (h1 : underP h a b = true) (h2 : underP h b c = true) : underP h a c = true := by
  obtain ⟨k, _, hk, cb⟩ := (underP_iff ok).1 h1
  obtain ⟨m, _, hm, cc⟩ := (underP_iff ok).1 h2
  obtain ⟨k', lk, hk'⟩ := pth_short idxP (fun _ => idxP_lt) (fun _ _ => idxP_inj) hk cb
  obtain ⟨m', lm, hm'⟩ := pth_short idxP (fun _ => idxP_lt) (fun _ _ => idxP_inj) hm cc
  exact (underP_iff ok).2 ⟨k' + m', by omega, by rw [pth_add hk', hm'], cc⟩
/-- What goes on behind a class: its dictionary has not the selector. -/
def goesF (h : GHeap) (s : Int) (i : Int) (is : Bool) : Bool := is && (scan (prP h (slotP h 1 i)).1 s).isNone
theorem upR_true {cls : Int → Bool} {sup : Int → Int} {top : Int → Bool} {goes : Int → Bool → Bool} {n : Nat} {c i : Int} (h : upR cls sup top goes n c = some (i, true)) : cls i = true ∧ goes i true = false := by
  obtain ⟨_, _, _, h3, h4, _⟩ := upR_some h
  exact ⟨h3, h4⟩
theorem findP_eq {h : GHeap} (ok : okHeapB h = true) (c s : Int) : findP h c s = findR (upR (clsP h) (slotP h 0) topP (goesF h s) 64 c) (fun i => (prP h (slotP h 1 i)).1) s := by
  unfold findP
  rw [if_pos ok]
  rfl
theorem findP_ok {h : GHeap} (ok : okHeapB h = true) {c s : Int} : (findP h c s).2.2 = 0 ↔ ∃ i, upR (clsP h) (slotP h 0) topP (goesF h s) 64 c = some (i, true) := by
  rw [findP_eq ok]
  unfold findR
  split
  · rename_i e; rw [e]; simp
  · rename_i e; rw [e]; simp
  · rename_i i e; rw [e]; simp
theorem find_under {h : GHeap} (ok : okHeapB h = true) (hl : h.Objs.length ≤ 30) {a b s : Int} (h1 : underP h a b = true) (h2 : (findP h b s).2.2 = 0) : (findP h a s).2.2 = 0 := by
  obtain ⟨k, _, hk, cb⟩ := (underP_iff ok).1 h1
  obtain ⟨i, hi⟩ := (findP_ok ok).1 h2
  obtain ⟨m, _, hm, ci, gi, _⟩ := upR_some hi
  obtain ⟨k', lk, hk'⟩ := pth_short idxP (fun _ => idxP_lt) (fun _ _ => idxP_inj) hk cb
  obtain ⟨m', lm, hm'⟩ := pth_short idxP (fun _ => idxP_lt) (fun _ _ => idxP_inj) hm ci
  exact (findP_ok ok).2 (upR_found (show k' + m' < 64 by omega) (by rw [pth_add hk', hm']) ci gi)
/-! ### LookHides -/
/-- One step of the walk to what is found. -/
theorem hides_step {h : GHeap} {s : Int} {n : Nat} {c i : Int} (e : upR (clsP h) (slotP h 0) topP (goesF h s) (n + 1) c = some (i, true)) :
    clsP h c = true ∧ ((c = i ∧ ∃ v, scan (prP h (slotP h 1 c)).1 s = some v) ∨ (c ≠ i ∧ scan (prP h (slotP h 1 c)).1 s = none ∧ upR (clsP h) (slotP h 0) topP (goesF h s) n (slotP h 0 c) = some (i, true))) := by
  have hi := upR_true e
  unfold upR at e
  by_cases hc : clsP h c = true
  · rw [if_pos hc] at e
    refine ⟨hc, ?_⟩
    by_cases hg : goesF h s c true = true
    · rw [if_pos hg] at e
      have hs : scan (prP h (slotP h 1 c)).1 s = none := by simpa [goesF] using hg
      split at e
      · cases e
      · refine .inr ⟨fun hci => ?_, hs, e⟩
        subst hci
        rw [hg] at hi; cases hi.2
    · rw [if_neg hg] at e
      cases e
      refine .inl ⟨rfl, ?_⟩
      have hs : ¬ scan (prP h (slotP h 1 c)).1 s = none := by simpa [goesF] using hg
      cases e' : scan (prP h (slotP h 1 c)).1 s with
      | none => exact absurd e' hs
      | some v => exact ⟨v, rfl⟩
  · rw [if_neg hc] at e
    split at e <;> cases e
theorem hides_found {h : GHeap} (ok : okHeapB h = true) {c s v a : Int} (e : findP h c s = (v, a, 0)) : upR (clsP h) (slotP h 0) topP (goesF h s) 64 c = some (a, true) ∧ scan (prP h (slotP h 1 a)).1 s = some v := by
  obtain ⟨i, hi⟩ := (findP_ok ok).1 (by rw [e])
  rw [findP_eq ok, hi] at e
  have hg := (upR_true hi).2
  have hs : ¬ scan (prP h (slotP h 1 i)).1 s = none := fun e' => by simp [goesF, e'] at hg
  unfold findR at e
  simp only [Prod.mk.injEq] at e
  obtain ⟨e1, rfl, _⟩ := e
  refine ⟨hi, ?_⟩
  cases e' : scan (prP h (slotP h 1 i)).1 s with
  | none => exact absurd e' hs
  | some x => rw [e'] at e1; rw [← e1]; rfl
theorem hides_not {h : GHeap} (ok : okHeapB h = true) {c s : Int} (e : (findP h c s).2.2 ≠ 0) : findP h c s = (0, 0, 90) ∨ findP h c s = (0, 0, 91) := by
  rw [findP_eq ok] at *
  unfold findR at *
  split
  · exact .inr rfl
  · exact .inl rfl
  · rename_i i hi
    rw [hi] at e
    exact absurd rfl e
theorem hides_under {h : GHeap} (ok : okHeapB h = true) {c s v a : Int} (e : findP h c s = (v, a, 0)) : underP h c a = true := by
  obtain ⟨h1, _⟩ := hides_found ok e
  obtain ⟨k, hk, hp, hc, _⟩ := upR_some h1
  exact (underP_iff ok).2 ⟨k, hk, hp, hc⟩
end Go.Pv

/- Heaps: the document's functions in plain words (layers 3 and 9). -/
namespace Go.Pv
open Go.Pv.Bs
theorem bAnd_low (v : Int) : bAnd .i64 v 9223372036854775807 = v % 9223372036854775808 := by
  have h : (BitVec.ofInt IntKind.i64.bits v &&& BitVec.ofInt IntKind.i64.bits 9223372036854775807).toNat = (v % 9223372036854775808).toNat := by
    show (BitVec.ofInt 64 v &&& BitVec.ofInt 64 9223372036854775807).toNat = _
    rw [BitVec.toNat_and, BitVec.toNat_ofInt, BitVec.toNat_ofInt]
    show (v % ((2 ^ 64 : Nat) : Int)).toNat &&& (2 ^ 63 - 1) = _
    rw [Nat.and_two_pow_sub_one_eq_mod]
    omega
  unfold bAnd
  rw [h, wrap_w64, w64_id (by omega) (by omega)]
  omega
theorem iShr_52 (v : Int) : iShr .i64 v 52 = v / 4503599627370496 := by
  show v.fdiv (2 ^ (min (52 : Int).toNat 64)) = v / 4503599627370496
  rw [show (2 : Int) ^ (min (52 : Int).toNat 64) = 4503599627370496 from rfl, Int.fdiv_eq_ediv_of_nonneg _ (by omega)]
def inR (b : Int) : Prop := -9223372036854775808 ≤ b ∧ b ≤ 9223372036854775807
theorem R02_Canon_eq (a : Int) (h : inR a) : F_R02_Canon a = some (canonF a) := by
  unfold F_R02_Canon F_R02_Kind F_R02_plain F_R02_most F_R02_NaN canonF nanB
  simp only [ob_some, bAnd_low, iShr_52]
  rw [Int.tmod_eq_emod_of_nonneg (by omega), w64_id h.1 h.2]
  by_cases h1 : a % 9223372036854775808 / 4503599627370496 = 2047
  · rw [if_pos h1]
    by_cases h2 : a % 9223372036854775808 % 4503599627370496 = 0
    · have h3 : a % 4503599627370496 = 0 := by omega
      rw [if_pos h2, ob_some]
      simp [h3]
    · have h3 : ¬ a % 4503599627370496 = 0 := by omega
      rw [if_neg h2, ob_some]
      simp [h1, h3]
  · rw [if_neg h1]
    by_cases h4 : 0 < a % 9223372036854775808 / 4503599627370496
    · rw [if_pos h4, ob_some]; simp [h1]
    · rw [if_neg h4]
      by_cases h5 : 0 < a % 9223372036854775808 % 4503599627370496
      · rw [if_pos h5, ob_some]; simp [h1]
      · rw [if_neg h5, ob_some]; simp [h1]
theorem R01_At_eq (v : Int) : F_R01_At v = some (atP v) := by
  unfold F_R01_At atP at?
  by_cases h : v % 2 = 0
  · rw [if_pos ((tmod_two v).2 h)]
    by_cases h1 : 0 ≤ v
    · rw [if_pos h1]
      by_cases h2 : 2097150 < v
      · rw [if_pos h2, if_neg (by omega)]
      · rw [if_neg h2, if_pos (by omega), Int.tdiv_eq_ediv_of_nonneg h1, w64_id (by omega) (by omega)]
        simp only [Option.some.injEq, Prod.mk.injEq, and_true]; omega
    · rw [if_neg h1, if_neg (by omega)]
  · rw [if_neg (fun k => h ((tmod_two v).1 k)), if_neg (by omega)]
theorem tdiv_odd {v : Int} (h : v % 2 = 1) : (v - 1).tdiv 2 = v / 2 := by
  have e : v - 1 = 2 * (v / 2) := by omega
  rw [e, Int.mul_tdiv_cancel_left _ (by omega)]
theorem R01_N_eq (v : Int) : F_R01_N v = some (nP v) := by
  unfold F_R01_N nP n?
  by_cases h : v % 2 = 0
  · rw [if_pos ((tmod_two v).2 h), if_neg (by omega)]
  · rw [if_neg (fun k => h ((tmod_two v).1 k))]
    by_cases h1 : -2147483647 ≤ v
    · rw [if_pos h1]
      by_cases h2 : 2147483647 < v
      · rw [if_pos h2, if_neg (by omega)]
      · have h3 : v % 2 = 1 := by omega
        rw [if_neg h2, if_pos (by omega), w64_id (n := v - 1) (by omega) (by omega), tdiv_odd h3, w64_id (by omega) (by omega)]
    · rw [if_neg h1, if_neg (by omega)]
theorem R03_Ref_eq (h : GHeap) (v : Int) : F_R03_Ref h v = some (refI h.n v) := by
  unfold F_R03_Ref refI
  rw [R01_At_eq, ob_some]
  unfold atP GHeap.n
  cases at? v with
  | none => simp
  | some i =>
    by_cases hi : i < h.Objs.length
    · have : ¬ ((h.Objs.length : Int) ≤ (i : Int)) := by omega
      simp [hi, this]
    · have : (h.Objs.length : Int) ≤ (i : Int) := by omega
      simp [hi, this]
theorem R03_Has_eq (h : GHeap) (v : Int) : F_R03_Has h v = some (hasB h.n v) := by
  unfold F_R03_Has
  rw [R01_N_eq, ob_some, nP_snd, R03_Ref_eq, ob_some, hasB_ref]
  cases (n? v).isSome <;> simp
theorem R03_hash_eq (n : Int) : F_R03_hash n = some (decide (0 ≤ n ∧ n ≤ 1073741823)) := by
  unfold F_R03_hash
  by_cases h : 0 ≤ n
  · have : (n < 1073741824) ↔ (n ≤ 1073741823) := by omega
    simp [h, this]
  · simp [h]
theorem R03_obj_eq (h : GHeap) (o : GObj) (hl : o.Slots.length ≤ big) (hb : inR o.Bits) : F_R03_obj h o = some (dec (OkObj h.n o)) := by
  unfold F_R03_obj
  unfold big at hl
  obtain ⟨r, e, hr⟩ := iter_all o.Slots (hasB h.n) (S := fun p => s0_R03_obj h.Objs h.Cap h.Last o.Class o.Kind o.Slots o.Text o.Bits o.Hash p) (fun _ => false) (fun k hk => by
    simp only [s0_R03_obj, atI_nat _ k hk]
    rw [if_pos (by omega), if_pos (by omega), w64_id (by omega) (by omega)]
    rw [R03_Has_eq h, ob_some]
    cases hasB h.n o.Slots[k] <;> simp) (by simp [s0_R03_obj])
  rw [e, ob_some]
  cases r with
  | inl b =>
    obtain ⟨h7, k, _, rfl, _⟩ := hr
    rw [sm_inl, dec_false fun k => by
      rw [List.all_eq_true.2 k.slots] at h7; cases h7]
  | inr u =>
    have h7 : o.Slots.all (hasB h.n) = true := hr
    rw [sm_inr]
    simp only [R03_Ref_eq, R03_hash_eq, R02_Canon_eq _ hb, ob_some]
    by_cases h1 : 0 ≤ refI h.n o.Class
    case neg => rw [dec_false fun k => h1 k.cls]; simp [h1]
    by_cases h2 : 0 ≤ o.Kind
    case neg => rw [dec_false fun k => h2 k.kind.1]; simp [h2]
    by_cases h2' : o.Kind ≤ 2
    case neg => rw [dec_false fun k => h2' k.kind.2]; simp [h2']
    by_cases h3 : 0 ≤ o.Hash ∧ o.Hash ≤ 1073741823
    case neg => rw [dec_false fun k => h3 k.hash, decide_eq_false h3]; simp
    by_cases h4 : (o.Slots.length : Int) ≤ 64
    case neg => rw [dec_false fun k => h4 (by have := k.nslots; omega)]; simp [h4]
    by_cases h5 : (o.Text.size : Int) ≤ 64
    case neg => rw [dec_false fun k => h5 (by have := k.ntext; omega)]; simp [h5]
    by_cases h6 : canonF o.Bits = o.Bits
    case neg =>
      rw [dec_false fun k => h6 k.canon]
      have : (canonF o.Bits == o.Bits) = false := by simpa using h6
      simp [this]
    have hiff : OkObj h.n o ↔ ((o.Kind ≠ 0 → o.Slots = []) ∧ (o.Kind ≠ 1 → o.Text = ByteArray.empty) ∧ (o.Kind ≠ 2 → o.Bits = 0)) :=
      ⟨fun k => ⟨k.ptr, k.text, k.bits⟩, fun k => ⟨h1, ⟨h2, h2'⟩, h3, k.1, k.2.1, k.2.2, by omega, by omega, h6, List.all_eq_true.1 h7⟩⟩
    rw [dec_congr hiff, dec_decide, decide_eq_true h3]
    have e0 : ({ data := #[] } : ByteArray) = ByteArray.empty := rfl
    have e1 : (canonF o.Bits == o.Bits) = true := by simpa using h6
    rw [e0, e1]
    simp only [h1, h2, h2', h4, h5, if_true]
    by_cases k0 : o.Kind = 0
    · simp [k0]
      by_cases b1 : o.Text = ByteArray.empty <;> by_cases b2 : o.Bits = 0 <;> simp [b1, b2]
    · by_cases k1 : o.Kind = 1
      · simp [k1]
        by_cases b1 : o.Slots = [] <;> by_cases b2 : o.Bits = 0 <;> simp [b1, b2]
      · have k2 : o.Kind = 2 := by omega
        simp [k2]
        by_cases b1 : o.Slots = [] <;> by_cases b2 : o.Text = ByteArray.empty <;> simp [b1, b2]
/-- All bits are a machine's. -/
def BitsR (h : GHeap) : Prop := ∀ o ∈ h.Objs, inR o.Bits
theorem R03_May_eq (h : GHeap) (hs : Slim h) (hb : BitsR h) : F_R03_May h = some (dec (OkHeap h)) := by
  obtain ⟨hl, hso⟩ := hs
  unfold big at hl
  unfold F_R03_May
  obtain ⟨r, e, hr⟩ := iter_all h.Objs (fun o => dec (OkObj h.n o)) (S := fun p => s0_R03_May h.Objs h.Cap h.Last p) (fun _ => false) (fun k hk => by
    have ho := R03_obj_eq h h.Objs[k] (by have := hso _ (List.getElem_mem hk); omega) (hb _ (List.getElem_mem hk))
    simp only [s0_R03_May, atI_nat _ k hk]
    rw [if_pos (by omega), if_pos (by omega), w64_id (by omega) (by omega)]
    rw [ho, ob_some]
    cases dec (OkObj h.n h.Objs[k]) <;> simp) (by simp [s0_R03_May])
  rw [e, ob_some]
  cases r with
  | inl b =>
    obtain ⟨h5, k, hk, rfl, hf, _⟩ := hr
    rw [sm_inl, dec_false fun ok => by
      rw [show OkObj h.n h.Objs[k] = OkObj h.Objs.length h.Objs[k] from rfl, dec_true (ok.objs _ (List.getElem_mem hk))] at hf; cases hf]
  | inr u =>
    have h5 : h.Objs.all (fun o => dec (OkObj h.n o)) = true := hr
    rw [sm_inr]
    by_cases h1 : 1 ≤ h.Cap
    case neg => rw [if_neg h1, dec_false fun k => h1 k.cap.1]
    by_cases h2 : h.Cap ≤ 256
    case neg => rw [if_pos h1, if_neg h2, dec_false fun k => h2 k.cap.2]
    by_cases h3 : (h.Objs.length : Int) ≤ h.Cap
    case neg => rw [if_pos h1, if_pos h2, if_neg h3, dec_false fun k => h3 k.len]
    rw [if_pos h1, if_pos h2, if_pos h3, R03_hash_eq, ob_some]
    by_cases h4 : 0 ≤ h.Last ∧ h.Last ≤ 1073741823
    case neg => rw [decide_eq_false h4, dec_false fun k => h4 k.last]
    rw [decide_eq_true h4, dec_true ⟨⟨h1, h2⟩, h3, h4, fun o ho => dec_iff.1 (List.all_eq_true.1 h5 o ho)⟩]
theorem R03_Small_ex (h : GHeap) (hl : h.Objs.length ≤ big) : ∃ b, F_R03_Small h = some b := by
  unfold big at hl
  unfold F_R03_Small
  obtain ⟨r, e, _⟩ := iter_post (S := fun p : Int × Int => s0_R03_Small h.Objs h.Cap h.Last p.fst p.snd) (fun p => h.Objs.length - p.2.toNat) (fun p => ∃ k : Nat, p.2 = k ∧ k ≤ h.Objs.length) (fun _ => True) (fun p hp => by
    obtain ⟨n, i⟩ := p
    obtain ⟨k, hk, hle⟩ := hp
    simp only at hk
    subst hk
    simp only [s0_R03_Small]
    by_cases h1 : (k : Int) < h.Objs.length
    · rw [if_pos h1]
      by_cases h2 : n < 5000
      · rw [if_pos h2, if_pos (by omega), if_pos (by omega), w64_id (n := (k : Int) + 1) (by omega) (by omega)]
        exact .inl ⟨_, rfl, ⟨k + 1, rfl, by omega⟩, by simp; omega⟩
      · rw [if_neg h2]; exact .inr ⟨_, rfl, trivial⟩
    · rw [if_neg h1]; exact .inr ⟨_, rfl, trivial⟩) ((0 : Int), (0 : Int)) ⟨0, rfl, Nat.zero_le _⟩
  rw [e, ob_some]
  split <;> exact ⟨_, rfl⟩
end Go.Pv

/- Classes: the document's functions in plain words. -/
namespace Go.Pv
open Go.Pv.Bs
theorem atI_cast {α : Type} [Enc α] (l : List α) (i : Nat) : atI l (i : Int) = atN l i := rfl
theorem R09_pairs_eq (h : GHeap) (v : Int) : F_R09_pairs h v = some (prP h v) := by
  unfold F_R09_pairs
  rw [R03_Ref_eq, ob_some]
  unfold refI prP objP atP GHeap.n
  cases e : at? v with
  | none => simp
  | some i =>
    by_cases hi : i < h.Objs.length
    · simp only [if_pos hi]
      by_cases h0 : i = 0
      · subst h0; simp
      · rw [if_neg (by omega), if_pos (by omega), if_pos (by omega), atI_cast]
        simp only [if_neg (show ¬ (i : Int) = 0 by omega)]
        by_cases hk : (atN h.Objs i).Kind = 0
        · rw [if_pos hk, if_pos (by omega), if_pos hk]
        · rw [if_neg hk, if_neg hk]
    · simp [hi]
theorem R09_May_eq (h : GHeap) (hs : Slim h) (hb : BitsR h) (c : Int) : F_R09_May h c = some (dec (OkHeap h) && clsP h c) := by
  unfold F_R09_May
  rw [R03_Ref_eq, ob_some, R03_May_eq h hs hb, ob_some]
  cases dec (OkHeap h) with
  | false => simp
  | true =>
    rw [if_pos rfl, Bool.true_and]
    unfold clsP
    have ho : objP h c = match at? c with | some i => if i < h.Objs.length then some (atN h.Objs i) else none | none => none := rfl
    rw [ho]
    unfold refI GHeap.n
    cases e : at? c with
    | none => simp
    | some i =>
      by_cases hi : i < h.Objs.length
      · simp only [if_pos hi]
        rw [if_pos (by omega), if_pos (by omega), atI_cast]
        generalize atN h.Objs i = o
        by_cases hk : o.Kind = 0
        · rw [if_pos hk, if_pos (by omega), if_pos hk]
          by_cases hl : (o.Slots.length : Int) < 3
          · rw [if_pos hl, if_pos hl]
          · rw [if_neg hl, if_neg hl, if_pos (by omega), if_pos (by omega), R09_pairs_eq, ob_some, if_pos (by omega), R01_N_eq, ob_some, if_pos (by omega), R03_Ref_eq, ob_some]
            have hr : (0 ≤ refI h.n (atI o.Slots 0)) ↔ ∃ p, objP h (atI o.Slots 0) = some p := by
              unfold refI objP GHeap.n
              cases at? (atI o.Slots 0) with
              | none => simp
              | some j => by_cases hj : j < h.Objs.length <;> simp [hj]
            cases hp : objP h (atI o.Slots 0) with
            | none => rw [if_neg (by rw [hr, hp]; simp)]
            | some p =>
              rw [if_pos (by rw [hr, hp]; exact ⟨p, rfl⟩)]
              dsimp only
              cases (prP h (atI o.Slots 1)).2 <;> cases (nP (atI o.Slots 2)).2 <;> by_cases h3 : 0 ≤ (nP (atI o.Slots 2)).1 <;> simp [h3]
        · rw [if_neg hk, if_neg hk]
      · simp [hi]
end Go.Pv

/- LookHides: the law. -/
namespace Go.Pv
open Go.Pv.Bs
theorem hides_in (c s v a n : Int) (l : List Int) (o : List GObj) (p q e f : Int) (g : List Int) (t : ByteArray) (y z : Int) (hl : l.length ≤ big) (k : Nat) (hk2 : 2 * k ≤ l.length + 1) :
    iterO (fun x => s1_L09_LookHides c s v a n l o p q e f g t y z x) ((2 * k : Nat) : Int) = match scan (l.drop (2 * k)) s with
      | some x => some (.inl (decide (c = a) && (x == v)))
      | none => some (.inr ()) := by
  unfold big at hl
  generalize hm : l.length - 2 * k = m
  induction m using Nat.strongRecOn generalizing k with
  | ind m ih =>
    by_cases h : 2 * k + 1 < l.length
    · rw [scan_step l s k h]
      have e1 : w64 (((2 * k : Nat) : Int) + 1) = ((2 * k + 1 : Nat) : Int) := by rw [w64_id (by omega) (by omega)]; omega
      have e2 : w64 (((2 * k : Nat) : Int) + 2) = ((2 * (k + 1) : Nat) : Int) := by rw [w64_id (by omega) (by omega)]; omega
      have e3 : atI l ((2 * k : Nat) : Int) = l[2 * k] := atI_nat l _ (by omega)
      have e4 : atI l ((2 * k + 1 : Nat) : Int) = l[2 * k + 1] := atI_nat l _ h
      by_cases hk : l[2 * k] = s
      · rw [if_pos hk]
        by_cases hc : c = a
        · refine iterO_stop ?_
          simp only [s1_L09_LookHides, e1, e3, e4]
          rw [if_pos (by omega), if_pos (by omega), if_pos hk, if_pos hc, if_pos (by omega)]
          simp [hc]
        · refine iterO_stop ?_
          simp only [s1_L09_LookHides, e1, e3, e4]
          rw [if_pos (by omega), if_pos (by omega), if_pos hk, if_neg hc]
          simp [hc]
      · rw [if_neg hk, ← ih (l.length - 2 * (k + 1)) (by omega) (k + 1) (by omega) rfl]
        refine iterO_step ?_
        simp only [s1_L09_LookHides, e1, e2, e3]
        rw [if_pos (by omega), if_pos (by omega), if_neg hk]
    · rw [scan_stop l s k h]
      refine iterO_stop ?_
      simp only [s1_L09_LookHides]
      rw [w64_id (by omega) (by omega), if_neg (by omega)]
/-- A class's dictionary. -/
theorem dict_row {h : GHeap} {d : Int} (e : (prP h d).2 = true) : ∃ j : Nat, refI h.n d = (j : Int) ∧ j < h.Objs.length ∧ (d = 0 ↔ j = 0) ∧ (prP h d).1 = if d = 0 then [] else (atN h.Objs j).Slots := by
  unfold prP at e ⊢
  split at e
  · cases e
  · rename_i o ho
    obtain ⟨j, h1, h2, rfl⟩ := objP_some.1 ho
    have h3 := atv_some.1 h1
    have ha : (atP d).1 = (j : Int) := by unfold atP; rw [h1]
    rw [ha] at e ⊢
    refine ⟨j, ?_, h2, by omega, ?_⟩
    · unfold refI GHeap.n; rw [h1]; simp [h2]
    · by_cases hj : j = 0
      · subst hj
        rw [if_pos (show ((0 : Nat) : Int) = 0 from rfl), if_pos (by omega)]
      · rw [if_neg (by omega)] at e
        rw [if_neg (by omega), if_neg (show ¬ d = 0 by omega)]
        split at e
        · rename_i hk; rw [if_pos hk]
        · cases e
theorem class_ref {h : GHeap} {c : Int} (e : clsP h c = true) : ∃ i : Nat, refI h.n c = (i : Int) ∧ i < h.Objs.length ∧ c = 2 * (i : Int) ∧ slotP h 0 c = atI (atN h.Objs i).Slots 0 ∧ slotP h 1 c = atI (atN h.Objs i).Slots 1 ∧ 3 ≤ (atN h.Objs i).Slots.length ∧
    (prP h (slotP h 1 c)).2 = true ∧ (atN h.Objs i).Kind = 0 ∧ (objP h (slotP h 0 c)).isSome = true ∧ at? c = some i := by
  obtain ⟨i, h1, h2, h3, h4, h5, h6, h7, h8⟩ := clsP_ref e
  have ho : objP h c = some (atN h.Objs i) := objP_some.2 ⟨i, h1, h2, rfl⟩
  have hs0 : slotP h 0 c = atI (atN h.Objs i).Slots 0 := by unfold slotP; rw [ho]
  have hs1 : slotP h 1 c = atI (atN h.Objs i).Slots 1 := by unfold slotP; rw [ho]
  exact ⟨i, by unfold refI GHeap.n; rw [h1]; simp [h2], h2, h3, hs0, hs1, h6, by rw [hs1]; exact h8, h5, by rw [hs0]; exact h7, h1⟩
theorem slot_len {h : GHeap} (hs : Slim h) (j : Nat) (hj : j < h.Objs.length) : (atN h.Objs j).Slots.length ≤ big := by
  have := hs.2 (atN h.Objs j) (by rw [atN, List.getD_eq_getElem?_getD, List.getElem?_eq_getElem hj]; exact List.getElem_mem hj)
  omega
theorem hides_loop (h : GHeap) (hs : Slim h) (hb : BitsR h) (ok : OkHeap h) (s v a : Int) (hv : scan (prP h (slotP h 1 a)).1 s = some v) (m : Nat) (c : Int) (n : Int) (hn : n + m = 64) (h0 : 0 ≤ n)
    (e : upR (clsP h) (slotP h 0) topP (goesF h s) m c = some (a, true)) : iterO (fun p : Int × Int => s0_L09_LookHides s v a h.Objs h.Cap h.Last p.fst p.snd) (c, n) = some (.inl true) := by
  induction m generalizing c n with
  | zero => cases e
  | succ m ih =>
    obtain ⟨hc, hcase⟩ := hides_step e
    obtain ⟨i, h1, h2, h3, h4, h5, h6, h7, _⟩ := class_ref hc
    obtain ⟨j, j1, j2, j3, j4⟩ := dict_row h7
    have hin : ∀ l : List Int, l.length ≤ big → iterO (fun x => s1_L09_LookHides c s v a n l h.Objs h.Cap h.Last (atN h.Objs i).Class (atN h.Objs i).Kind (atN h.Objs i).Slots (atN h.Objs i).Text (atN h.Objs i).Bits (atN h.Objs i).Hash x) (0 : Int) = match scan l s with
      | some x => some (.inl (decide (c = a) && (x == v)))
      | none => some (.inr ()) := fun l hl => hides_in c s v a n l _ _ _ _ _ _ _ _ _ hl 0 (by omega)
    have hrow := slot_len hs j j2
    have hS : ∀ r : Int ⊕ Bool ⊕ Unit, True := fun _ => trivial
    rcases hcase with ⟨hca, w, hw⟩ | ⟨hca, hw, he⟩
    · subst hca
      have hwv : w = v := by rw [hw] at hv; cases hv; rfl
      subst hwv
      refine iterO_stop ?_
      simp only [s0_L09_LookHides]
      rw [if_pos (by omega), R09_May_eq h hs hb, dec_true ok, hc, ob_some]
      rw [if_neg (by simp), R03_Ref_eq, ob_some, h1]
      rw [if_pos (by omega), atI_cast, if_pos (by omega), R03_Ref_eq, ob_some, ← h5, j1, if_pos (by omega), if_pos (by omega), atI_cast]
      rw [j4] at hw
      by_cases hd : slotP h 1 c = 0
      · rw [if_pos hd] at hw ⊢
        rw [hin [] (by simp), hw, ob_some]
        simp
      · rw [if_neg hd] at hw ⊢
        rw [hin _ hrow, hw, ob_some]
        simp
    · rw [← ih (slotP h 0 c) (n + 1) (by omega) (by omega) he]
      refine iterO_step ?_
      simp only [s0_L09_LookHides]
      rw [if_pos (by omega), R09_May_eq h hs hb, dec_true ok, hc, ob_some]
      rw [if_neg (by simp), R03_Ref_eq, ob_some, h1]
      rw [if_pos (by omega), atI_cast, if_pos (by omega), R03_Ref_eq, ob_some, ← h5, j1, if_pos (by omega), if_pos (by omega), atI_cast, ← h4]
      rw [j4] at hw
      have hw1 : w64 (n + 1) = n + 1 := w64_id (by omega) (by omega)
      by_cases hd : slotP h 1 c = 0
      · rw [if_pos hd] at hw ⊢
        rw [hin [] (by simp), hw, ob_some, hw1]
        simp only [sm_inr]
        rw [if_neg hca, if_pos (by omega)]
      · rw [if_neg hd] at hw ⊢
        rw [hin _ hrow, hw, ob_some, hw1]
        simp only [sm_inr]
        rw [if_neg hca, if_pos (by omega)]
theorem look_Find_eq (h : GHeap) (hs : Slim h) (c s : Int) : F_look_Find h c s = some (findP h c s) := by unfold F_look_Find; rw [if_pos hs]
theorem look_Under_eq (h : GHeap) (hs : Slim h) (c d : Int) : F_look_Under h c d = some (underP h c d) := by unfold F_look_Under; rw [if_pos hs]
theorem lookHides (h : GHeap) (c s : Int) (hs : Slim h) (hb : BitsR h) : F_L09_LookHides h c s = some true := by
  unfold F_L09_LookHides
  obtain ⟨b, hb1⟩ := R03_Small_ex h hs.1
  rw [hb1, ob_some]
  cases b with
  | false => rfl
  | true =>
    rw [if_pos rfl, R03_May_eq h hs hb, ob_some]
    by_cases ok : OkHeap h
    case neg => rw [dec_false ok]; rfl
    have okB : okHeapB h = true := by rw [okHeapB_eq, dec_true ok]
    rw [dec_true ok, if_pos rfl]
    by_cases hl : (40 : Int) < (h.Objs.length : Int)
    · rw [if_pos hl]
    · rw [if_neg hl, look_Find_eq h hs, ob_some]
      by_cases he : (findP h c s).2.2 = 0
      · rw [if_pos he, look_Under_eq h hs, ob_some]
        obtain ⟨v, a, hva⟩ : ∃ v a, findP h c s = (v, a, 0) := ⟨_, _, Prod.ext rfl (Prod.ext rfl he)⟩
        obtain ⟨hu, hv⟩ := hides_found okB hva
        rw [hva]
        dsimp only
        rw [hides_under okB hva, if_neg (by simp), hides_loop h hs hb ok s v a hv 64 c 0 (by omega) (by omega) hu, ob_some]
        rfl
      · rw [if_neg he]
        rcases hides_not okB he with e | e
        · rw [e]; rfl
        · rw [e]; rfl
end Go.Pv

/- LookUnder: the law. -/
namespace Go.Pv
open Go.Pv.Bs
theorem lookUnder (h : GHeap) (x : Int × Int × Int) (s : Int) (hs : Slim h) (hb : BitsR h) : F_L09_LookUnder h x s = some true := by
  obtain ⟨a, b, c⟩ := x
  unfold F_L09_LookUnder
  obtain ⟨t, hb1⟩ := R03_Small_ex h hs.1
  rw [hb1, ob_some]
  cases t with
  | false => rfl
  | true =>
    rw [if_pos rfl, R03_May_eq h hs hb, ob_some]
    by_cases ok : OkHeap h
    case neg => rw [dec_false ok]; rfl
    have okB : okHeapB h = true := by rw [okHeapB_eq, dec_true ok]
    rw [dec_true ok, if_pos rfl]
    by_cases hl : (30 : Int) < (h.Objs.length : Int)
    · rw [if_pos hl]
    · rw [if_neg hl]
      have hl' : h.Objs.length ≤ 30 := by omega
      simp only [look_Find_eq h hs, look_Under_eq h hs, R09_May_eq h hs hb, dec_true ok, ob_some, Bool.true_and]
      rw [under_self okB, if_pos rfl]
      have key : (underP h a b = true → (findP h b s).2.2 = 0 → (findP h a s).2.2 = 0) := fun h1 h2 => find_under okB hl' h1 h2
      have fin : (if underP h a b = true then if (findP h b s).2.2 = 0 then some ((findP h a s).2.2 == (0 : Int)) else some true else some true) = some true := by
        by_cases h1 : underP h a b = true
        · rw [if_pos h1]
          by_cases h2 : (findP h b s).2.2 = 0
          · rw [if_pos h2, key h1 h2]; rfl
          · rw [if_neg h2]
        · rw [if_neg h1]
      by_cases h1 : underP h a b = true
      · by_cases h2 : underP h b c = true
        · have h3 := under_trans okB hl' h1 h2
          rw [h3]
          simp only [h1, h2, if_true] at fin ⊢
          split
          · exact fin
          · exact fin
        · rw [if_pos h1, if_neg h2]
          exact fin
      · rw [if_neg h1]
        exact fin
end Go.Pv

/- Heaps: from the laws' arguments to plain data. -/
namespace Go.Pv
open Go Go.Proofs
abbrev iT : Ty := .int .i64
abbrev objT : Ty := .pair iT (.pair iT (.pair (.sl iT) (.pair .str (.pair iT (.pair iT .unit)))))
abbrev heapT : Ty := .pair (.sl objT) (.pair iT (.pair iT .unit))
def toObj (x : objT.den) : GObj := ⟨x.1, x.2.1, x.2.2.1, x.2.2.2.1, x.2.2.2.2.1, x.2.2.2.2.2.1⟩
def toObjs (l : (Ty.sl objT).den) : List GObj := List.map toObj l
def toHeap (x : heapT.den) : GHeap := ⟨toObjs x.1, x.2.1, x.2.2.1⟩
theorem map_enc {α β : Type} [Enc β] (e : α → List T) (f : α → β) (h : ∀ x, e x = Enc.enc (f x)) (l : List α) : List.map e l = els (List.map f l) := by
  unfold els
  rw [List.map_map]
  exact List.map_congr_left fun x _ => h x
theorem objT_enc (x : objT.den) : objT.enc x = Enc.enc (toObj x) := rfl
theorem objs_enc (l : (Ty.sl objT).den) : List.map (α := objT.den) objT.enc l = els (toObjs l) := map_enc objT.enc toObj objT_enc l
theorem ones {α : Type} (f : α → Nat) (hf : ∀ x, f x = 1) (l : List α) : (l.map f).sum = l.length := by
  induction l with
  | nil => rfl
  | cons a l ih => simp only [List.map_cons, List.sum_cons, List.length_cons, ih, hf]; omega
theorem sum_mem {α : Type} (f : α → Nat) : ∀ (l : List α) (x : α), x ∈ l → f x ≤ (l.map f).sum
  | a :: l, x, h => by
    rw [List.map_cons, List.sum_cons]
    rcases List.mem_cons.1 h with rfl | h
    · omega
    · have := sum_mem f l x h; omega
theorem sum_len {α : Type} (f : α → Nat) (hf : ∀ x, 1 ≤ f x) (l : List α) : l.length ≤ (l.map f).sum := by
  induction l with
  | nil => exact Nat.le_refl _
  | cons a l ih => have := hf a; simp only [List.map_cons, List.sum_cons, List.length_cons]; omega
theorem obj_bulk (x : objT.den) : (toObj x).Slots.length + (toObj x).Text.size + 1 ≤ objT.bulk x := by
  obtain ⟨c, kd, sl, tx, b, h, u⟩ := x
  have hs := ones (Ty.bulk iT) (fun _ => rfl) sl
  show List.length (α := iT.den) sl + ByteArray.size tx + 1 ≤ 1 + (1 + ((List.map (α := iT.den) (Ty.bulk iT) sl).sum + 1 + (ByteArray.size tx + 1 + (1 + (1 + 0)))))
  rw [hs]; omega
theorem int_wf {n : Int} (h : (Lit.int .i64 n).wf = true) : inR n := by
  simp only [Lit.wf, IntKind.min, IntKind.max, IntKind.signed, IntKind.bits, Bool.and_eq_true, decide_eq_true_eq, if_true] at h
  unfold inR
  constructor <;> omega
theorem objs_small (l : (Ty.sl objT).den) (hw : (Ty.sl objT).wf l) (hk : (Ty.sl objT).bulk l ≤ 1048576) (c la : Int) : Slim ⟨toObjs l, c, la⟩ ∧ BitsR ⟨toObjs l, c, la⟩ := by
  have h1 : (List.map (α := objT.den) objT.bulk l).sum + 1 ≤ 1048576 := hk
  have h2 := sum_len (α := objT.den) objT.bulk (fun x => by have := obj_bulk x; omega) l
  refine ⟨⟨?_, fun o ho => ?_⟩, fun o ho => ?_⟩
  · refine Nat.le_trans (Nat.le_of_eq (List.length_map (α := objT.den) toObj)) ?_
    unfold big; omega
  · obtain ⟨x, hx, rfl⟩ := List.mem_map.1 ho
    have h3 := sum_mem (α := objT.den) objT.bulk l x hx
    have h4 := obj_bulk x
    unfold big; omega
  · obtain ⟨x, hx, rfl⟩ := List.mem_map.1 ho
    have := hw.2 x hx
    obtain ⟨c, kd, sl, tx, b, h, u⟩ := x
    exact int_wf this.2.2.2.2.1
def hpD (h : GHeap) : D := .agg [.t (.sl 6 (els h.Objs)), I h.Cap, I h.Last]
theorem argD_heap (x : heapT.den) : argD heapT x = hpD (toHeap x) := by
  obtain ⟨l, c, la, u⟩ := x
  exact congrArg (fun e => D.agg [.t (.sl 6 e), I c, I la]) (objs_enc l)
theorem heap_slim (x : heapT.den) (hw : heapT.wf x) (hk : heapT.bulk x ≤ 1048576) : Slim (toHeap x) ∧ BitsR (toHeap x) := by
  obtain ⟨l, c, la, u⟩ := x
  have h1 : (Ty.sl objT).bulk l + (1 + (1 + 0)) ≤ 1048576 := hk
  exact objs_small l hw.1 (by omega) c la
theorem ints_len (l : (Ty.sl iT).den) (hk : (Ty.sl iT).bulk l ≤ 1048576) : List.length (α := Int) l ≤ 1048576 := by
  have h1 : (List.map (α := iT.den) (Ty.bulk iT) l).sum + 1 ≤ 1048576 := hk
  have h2 := ones (α := iT.den) (Ty.bulk iT) (fun _ => rfl) l
  have h3 : List.length (α := iT.den) l ≤ 1048576 := by omega
  exact h3
theorem argD_ints (l : (Ty.sl iT).den) : argD (.sl iT) l = .t (.sl 1 (els (α := Int) l)) := rfl
end Go.Pv

/- LookHides, LookUnder: the laws, of data. -/
namespace Go.Pv
open Go Go.Proofs
abbrev hidesT : Ty := .pair heapT (.pair iT (.pair iT .unit))
abbrev threeT : Ty := .pair iT (.pair iT (.pair iT .unit))
abbrev underT : Ty := .pair heapT (.pair threeT (.pair iT .unit))
theorem law_lookHides (x : hidesT.den) (hx : hidesT.wf x) (hk : hidesT.bulk x ≤ 1048576) : cO Try.prog lore 3 (argDs hidesT x) [] = some (.val (Bo true), []) := by
  obtain ⟨h, c, s, u⟩ := x
  have h3 : heapT.bulk h + (1 + (1 + 0)) ≤ 1048576 := hk
  obtain ⟨a1, a2⟩ := heap_slim h hx.1 (by omega)
  have e := f_L09_LookHides (toHeap h).Objs (toHeap h).Cap (toHeap h).Last c s
  have l := lookHides (toHeap h) c s a1 a2
  rw [show ({ Objs := (toHeap h).Objs, Cap := (toHeap h).Cap, Last := (toHeap h).Last : GHeap }) = toHeap h from rfl, l, ob_some] at e
  show cO Try.prog lore 3 [argD heapT h, I c, I s] [] = _
  rw [argD_heap]
  exact e
theorem law_lookUnder (x : underT.den) (hx : underT.wf x) (hk : underT.bulk x ≤ 1048576) : cO Try.prog lore 4 (argDs underT x) [] = some (.val (Bo true), []) := by
  obtain ⟨h, ⟨a, b, c, u⟩, s, u'⟩ := x
  have h3 : heapT.bulk h + ((1 + (1 + (1 + 0))) + (1 + 0)) ≤ 1048576 := hk
  obtain ⟨a1, a2⟩ := heap_slim h hx.1 (by omega)
  have e := f_L09_LookUnder (toHeap h).Objs (toHeap h).Cap (toHeap h).Last a b c s
  have l := lookUnder (toHeap h) (a, b, c) s a1 a2
  rw [show ({ Objs := (toHeap h).Objs, Cap := (toHeap h).Cap, Last := (toHeap h).Last : GHeap }) = toHeap h from rfl, l, ob_some] at e
  show cO Try.prog lore 4 [argD heapT h, .agg [I a, I b, I c], I s] [] = _
  rw [argD_heap]
  exact e
end Go.Pv
