/- A part of the road: the interpreter of plain data and the proof that it is right. -/
import Derived.Test.YtidpjpbemhbmbaaT
import Derived.Test.YtidpjpbemhbmbaaR
import Derived.Test.YtidpjpbemhbmbaaK
import Derived.Test.YtidpjpbemhbmbaaG
/- Tapes, in plain words. -/
namespace Go.Pv
theorem R03_Ints_eq (a b : List Int) (h : a.length ≤ 1099511627776) : F_R03_Ints a b = some (decide (a = b)) := by
  unfold F_R03_Ints
  by_cases hl : (a.length : Int) = b.length
  · rw [if_pos hl, iter_same (a := a) (b := b) (by omega)]
    · intro k h1 h2
      simp only [s0_R03_Ints, atI_nat _ k h1, atI_nat _ k h2]
      rw [if_pos (by omega), if_pos (by omega), if_pos (by omega), w64_id (by omega) (by omega)]
      rfl
    · simp [s0_R03_Ints]
  · have : a ≠ b := fun e => hl (by rw [e])
    rw [if_neg hl]
    simp [this]
def okIn (n : Int) : Bool := decide (-1073741824 ≤ n ∧ n ≤ 1073741823)
def okTape (t : GTape) : Bool := decide (t.Log.length + t.Rest.length ≤ 1000) && (t.Log ++ t.Rest).all okIn
def len2 (t : GTape) : Nat := t.Log.length + t.Rest.length
theorem R16_All_eq (t : GTape) (h : len2 t ≤ 1099511627776) : F_R16_All t = some (t.Log ++ t.Rest) := by
  unfold len2 at h
  unfold F_R16_All most
  rw [if_pos (by omega), if_pos (by omega)]
theorem R01_Int_eq (n : Int) : ∃ x, F_R01_Int n = some (x, okIn n) := by
  unfold F_R01_Int okIn
  by_cases h1 : -1073741824 ≤ n
  · by_cases h2 : 1073741823 < n
    · have : ¬ n ≤ 1073741823 := by omega
      exact ⟨0, by rw [if_pos h1, if_pos h2]; simp [this]⟩
    · have : n ≤ 1073741823 := by omega
      exact ⟨w64 (w64 (2 * n) + 1), by rw [if_pos h1, if_neg h2]; simp [h1, this]⟩
  · exact ⟨0, by rw [if_neg h1]; simp [h1]⟩
/-- A loop that looks for the first one that is not so. -/
theorem iter_all {α β : Type} [Enc α] (l : List α) (p : α → Bool) {S : Int → Option (Int ⊕ β ⊕ Unit)} (R : Nat → β)
    (hS : ∀ (k : Nat) (h : k < l.length), S (k : Int) = if p l[k] = true then some (.inl ((k + 1 : Nat) : Int)) else some (.inr (.inl (R k)))) (he : S (l.length : Int) = some (.inr (.inr ()))) :
    ∃ r, iterO S 0 = some r ∧ sm r (fun b => l.all p = false ∧ ∃ k, ∃ h : k < l.length, b = R k ∧ p l[k] = false ∧ ∀ j (hj : j < k), p (l[j]'(by omega)) = true) fun _ => l.all p = true := by
  refine iter_post (S := S) (fun i => l.length - i.toNat) (fun i => ∃ k : Nat, i = k ∧ k ≤ l.length ∧ ∀ j (hj : j < k) (h : j < l.length), p l[j] = true) _ (fun i hi => ?_) 0 ⟨0, rfl, Nat.zero_le _, fun j hj => by omega⟩
  obtain ⟨k, rfl, hk, ht⟩ := hi
  rcases Nat.lt_or_ge k l.length with h | h
  · rw [hS k h]
    by_cases e : p l[k] = true
    · refine .inl ⟨_, if_pos e, ⟨k + 1, rfl, h, fun j hj hjl => ?_⟩, by simp; omega⟩
      by_cases ej : j = k
      · subst ej; exact e
      · exact ht j (by omega) hjl
    · refine .inr ⟨_, if_neg e, ?_, k, h, rfl, by simpa using e, fun j hj => ht j hj (by omega)⟩
      rw [List.all_eq_false]
      exact ⟨_, List.getElem_mem h, by simpa using e⟩
  · have : k = l.length := by omega
    subst this
    refine .inr ⟨_, he, ?_⟩
    show l.all p = true
    rw [List.all_eq_true]
    intro x hx
    obtain ⟨j, hj, rfl⟩ := List.getElem_of_mem hx
    exact ht j hj hj
theorem R16_Check_eq (t : GTape) (h : len2 t ≤ 1099511627776) : F_R16_Check t = some (if okTape t = true then 0 else 160) := by
  have hl : (t.Log ++ t.Rest).length = len2 t := by simp [len2]
  unfold F_R16_Check
  rw [R16_All_eq t h, ob_some]
  obtain ⟨r, e, hr⟩ := iter_all (t.Log ++ t.Rest) okIn (S := fun p => s0_R16_Check (t.Log ++ t.Rest) p) (fun _ => (160 : Int)) (fun k hk => by
    obtain ⟨x, hx⟩ := R01_Int_eq (t.Log ++ t.Rest)[k]
    simp only [s0_R16_Check, atI_nat _ k hk, hx, ob_some]
    rw [if_pos (by omega), if_pos (by omega), w64_id (by omega) (by omega)]
    cases okIn (t.Log ++ t.Rest)[k] <;> simp) (by simp [s0_R16_Check])
  rw [e, ob_some]
  unfold okTape
  cases r with
  | inl b =>
    obtain ⟨h1, k, _, rfl, _⟩ := hr
    simp [h1]
  | inr u =>
    have h1 : (t.Log ++ t.Rest).all okIn = true := hr
    simp only [sm_inr, h1, Bool.and_true, decide_eq_true_eq, hl]
    unfold len2
    by_cases h2 : t.Log.length + t.Rest.length ≤ 1000
    · rw [if_pos h2, if_neg (by omega)]
    · rw [if_neg h2, if_pos (by omega)]
theorem value_Int_eq (n : Int) : ∃ x, F_value_Int n = some (x, okIn n) := by
  unfold F_value_Int F_value_small okIn
  by_cases h1 : -1073741824 ≤ n
  · rw [if_pos h1, ob_some]
    by_cases h2 : n ≤ 1073741823
    · exact ⟨bOr IntKind.i64 (iShl IntKind.i64 n 1) 1, by simp [h1, h2]⟩
    · exact ⟨0, by simp [h2]⟩
  · exact ⟨0, by simp [h1]⟩
theorem tape_wrong_eq (n : Int) : F_tape_wrong n = some (!okIn n) := by
  obtain ⟨x, hx⟩ := value_Int_eq n
  unfold F_tape_wrong
  rw [hx, ob_some]
theorem contains_eq (s : List Int) (h : s.length ≤ 1099511627776) : F_slices_ContainsFunc_62_u0 s = some (!s.all okIn) := by
  unfold F_slices_ContainsFunc_62_u0 F_slices_IndexFunc_65_u0
  obtain ⟨r, e, hr⟩ := iter_all s okIn (S := fun p => s0_slices_IndexFunc_65_u0 s (s.length : Int) p) (fun k => (k : Int)) (fun k hk => by
    simp only [s0_slices_IndexFunc_65_u0, atI_nat _ k hk, tape_wrong_eq, ob_some]
    rw [if_pos (by omega), if_pos (by omega), w64_id (by omega) (by omega)]
    cases okIn s[k] <;> simp) (by simp [s0_slices_IndexFunc_65_u0])
  rw [e, ob_some]
  cases r with
  | inl b =>
    obtain ⟨h1, k, _, rfl, _⟩ := hr
    simp [h1]
  | inr u =>
    have h1 : s.all okIn = true := hr
    simp [h1]
theorem tape_may_eq (t : GTape) (h : len2 t ≤ 1099511627776) : F_tape_may t = some (okTape t) := by
  unfold len2 at h
  unfold F_tape_may okTape
  rw [w64_id (by omega) (by omega), contains_eq t.Log (by omega), contains_eq t.Rest (by omega), List.all_append]
  by_cases h1 : t.Log.length + t.Rest.length ≤ 1000
  · rw [if_pos (by omega), ob_some]
    cases t.Log.all okIn <;> simp [h1]
  · rw [if_neg (by omega)]
    simp [h1]
theorem tape_Check_eq (t : GTape) (h : len2 t ≤ 1099511627776) : F_tape_Check t = some (if okTape t = true then 0 else 160) := by
  unfold F_tape_Check
  rw [tape_may_eq t h, ob_some]
  cases okTape t <;> simp
def noTape : GTape := ⟨[], []⟩
def placedB (t : GTape) (used : Int) : Bool := okTape t && decide (0 ≤ used ∧ used ≤ t.Log.length)
theorem tape_placed_eq (t : GTape) (used : Int) (h : len2 t ≤ 1099511627776) : F_tape_placed t used = some (placedB t used) := by
  unfold F_tape_placed placedB
  rw [tape_may_eq t h, ob_some]
  cases okTape t
  · simp
  · by_cases h1 : 0 ≤ used
    · simp [h1]
    · simp [h1]
/-- What is drawn. -/
def drawS (t : GTape) (used : Int) : Int × GTape × Int :=
  if placedB t used = false ∨ used = 1000 then (0, noTape, 160)
  else if used < t.Log.length then (atI t.Log used, t, 0)
  else match t.Rest with
    | [] => (0, ⟨t.Log ++ [0], []⟩, 0)
    | x :: r => (x, ⟨t.Log ++ [x], r⟩, 0)
theorem tape_Draw_eq (t : GTape) (used : Int) (h : len2 t ≤ 1099511627776) : F_tape_Draw t used = some (drawS t used) := by
  have hm := h
  unfold len2 at hm
  unfold F_tape_Draw drawS
  rw [tape_placed_eq t used h, ob_some]
  cases hp : placedB t used with
  | false => rw [if_neg (by simp), if_pos (.inl rfl)]; rfl
  | true =>
    rw [if_pos rfl]
    by_cases h1 : used = 1000
    · rw [if_pos h1, if_pos (.inr h1)]; rfl
    · rw [if_neg h1, if_neg (show ¬ (true = false ∨ used = 1000) by simp [h1])]
      unfold placedB at hp
      simp only [Bool.and_eq_true, decide_eq_true_eq] at hp
      by_cases h2 : used < t.Log.length
      · rw [if_pos h2, if_pos h2, if_pos ⟨hp.2.1, h2⟩]
      · rw [if_neg h2, if_neg h2]
        unfold most
        cases hr : t.Rest with
        | nil =>
          rw [hr] at hm
          simp only [List.length_nil] at hm ⊢
          rw [if_neg (by omega), if_pos (by omega), if_pos (by omega), if_pos (by omega)]
        | cons x r =>
          rw [hr] at hm
          simp only [List.length_cons] at hm ⊢
          rw [if_pos (by omega), if_pos (by omega), if_pos (by omega), if_pos (by omega), if_pos (by omega), if_pos (by omega)]
          rfl
theorem R16_Draw_eq (t : GTape) (used : Int) (h : len2 t ≤ 1099511627776) : F_R16_Draw t used = some (drawS t used) := by
  have hm := h
  unfold len2 at hm
  unfold F_R16_Draw drawS placedB
  rw [R16_Check_eq t h, ob_some]
  cases hp : okTape t with
  | false => simp [noTape]
  | true =>
    rw [if_pos rfl, if_pos rfl]
    by_cases h0 : 0 ≤ used
    case neg => simp [h0, noTape]
    by_cases h3 : used ≤ t.Log.length
    case neg => simp [h0, h3, noTape]
    rw [if_pos h0, if_pos h3]
    by_cases h1 : used = 1000
    · rw [if_pos h1, if_pos (.inr h1)]; rfl
    · rw [if_neg h1, if_neg (show ¬ ((true && decide (0 ≤ used ∧ used ≤ (t.Log.length : Int))) = false ∨ used = 1000) by simp [h0, h1, h3])]
      by_cases h2 : used < t.Log.length
      · rw [if_pos h2, if_pos h2, if_pos ⟨h0, h2⟩]
      · rw [if_neg h2, if_neg h2]
        unfold most
        cases hr : t.Rest with
        | nil =>
          rw [hr] at hm
          simp only [List.length_nil] at hm ⊢
          rw [if_pos trivial, if_pos (by omega), if_pos (by omega)]
        | cons x r =>
          rw [hr] at hm
          simp only [List.length_cons] at hm ⊢
          rw [if_neg (by simp), if_pos (by omega), if_pos (by omega), if_pos (by omega), if_pos (by omega), if_pos (by omega), if_pos (by omega)]
          rfl
def divS (t : GTape) (used : Int) : GTape × Int := if placedB t used = true then (⟨t.Log.take used.toNat, t.Rest⟩, 0) else (noTape, 160)
theorem tape_Diverge_eq (t : GTape) (used : Int) (h : len2 t ≤ 1099511627776) : F_tape_Diverge t used = some (divS t used) := by
  have hm := h
  unfold len2 at hm
  unfold F_tape_Diverge divS
  rw [tape_placed_eq t used h, ob_some]
  cases hp : placedB t used with
  | false => rfl
  | true =>
    unfold placedB at hp
    simp only [Bool.and_eq_true, decide_eq_true_eq] at hp
    unfold most
    rw [if_neg (by simp), if_pos hp.2, if_pos (by omega), if_pos (by omega), if_pos rfl]
theorem R16_Diverge_eq (t : GTape) (used : Int) (h : len2 t ≤ 1099511627776) : F_R16_Diverge t used = some (divS t used) := by
  have hm := h
  unfold len2 at hm
  unfold F_R16_Diverge divS placedB
  rw [R16_Check_eq t h, ob_some]
  cases hp : okTape t with
  | false => simp [noTape]
  | true =>
    rw [if_pos rfl, if_pos rfl]
    by_cases h0 : 0 ≤ used
    case neg => simp [h0, noTape]
    by_cases h3 : used ≤ t.Log.length
    case neg => simp [h0, h3, noTape]
    unfold most
    rw [if_pos h0, if_neg (by omega), if_pos ⟨h0, h3⟩, if_pos (by omega)]
    simp [h0, h3]
theorem tape_ext (a b : GTape) : a = b ↔ a.Log = b.Log ∧ a.Rest = b.Rest := by cases a; cases b; simp
theorem R16_Same_eq (a b : GTape) (h : len2 a ≤ 1099511627776) : F_R16_Same a b = some (decide (a = b)) := by
  unfold len2 at h
  unfold F_R16_Same
  rw [R03_Ints_eq a.Log b.Log (by omega), ob_some]
  by_cases h1 : a.Log = b.Log
  · rw [decide_eq_true h1, if_pos rfl, R03_Ints_eq a.Rest b.Rest (by omega), ob_some]
    simp [tape_ext, h1]
  · rw [decide_eq_false h1]
    simp [tape_ext, h1]
/-! ### draws one by one -/
/-- The tape behind so many draws. -/
def tapeAt (t : GTape) (i : Nat) : GTape := ⟨t.Log ++ (t.Rest.take (i - t.Log.length) ++ List.replicate (i - t.Log.length - t.Rest.length) 0), t.Rest.drop (i - t.Log.length)⟩
theorem tapeAt_zero (t : GTape) : tapeAt t 0 = t := by simp [tapeAt]
theorem tapeAt_log (t : GTape) (i : Nat) : (tapeAt t i).Log.length = max i t.Log.length := by
  simp only [tapeAt, List.length_append, List.length_take, List.length_replicate]; omega
theorem tapeAt_rest (t : GTape) (i : Nat) : (tapeAt t i).Rest.length = t.Rest.length - (i - t.Log.length) := by simp [tapeAt]
theorem okTape_iff (t : GTape) : okTape t = true ↔ t.Log.length + t.Rest.length ≤ 1000 ∧ (∀ n ∈ t.Log, okIn n = true) ∧ ∀ n ∈ t.Rest, okIn n = true := by
  unfold okTape
  simp only [Bool.and_eq_true, decide_eq_true_eq, List.all_append, List.all_eq_true]
theorem tapeAt_ok {t : GTape} (h : okTape t = true) (hl : len2 t ≤ 100) {i : Nat} (hi : i ≤ 50) : okTape (tapeAt t i) = true ∧ len2 (tapeAt t i) ≤ 200 := by
  obtain ⟨h1, h2, h3⟩ := (okTape_iff t).1 h
  have a := tapeAt_log t i
  have b := tapeAt_rest t i
  unfold len2 at hl ⊢
  refine ⟨(okTape_iff _).2 ⟨by omega, fun n hn => ?_, fun n hn => ?_⟩, by omega⟩
  · simp only [tapeAt, List.mem_append] at hn
    rcases hn with hn | hn | hn
    · exact h2 n hn
    · exact h3 n (List.mem_of_mem_take hn)
    · rw [List.eq_of_mem_replicate hn]; rfl
  · exact h3 n (List.mem_of_mem_drop hn)
/-- What is drawn as the i'th. -/
def nth (t : GTape) (i : Nat) : Int := (t.Log ++ t.Rest).getD i 0
theorem draw_at {t : GTape} (h : okTape t = true) (hl : len2 t ≤ 100) {i : Nat} (hi : i < 50) : drawS (tapeAt t i) i = (nth t i, tapeAt t (i + 1), 0) := by
  have hk := (tapeAt_ok h hl (i := i) (by omega)).1
  have a := tapeAt_log t i
  have hp : placedB (tapeAt t i) i = true := by
    unfold placedB
    rw [hk]
    simp only [Bool.true_and, decide_eq_true_eq]
    omega
  unfold drawS
  rw [if_neg (by rw [hp]; simp; omega)]
  rcases Nat.lt_or_ge i t.Log.length with h1 | h1
  · rw [if_pos (by omega)]
    have e0 : i - t.Log.length = 0 := by omega
    have e1 : i + 1 - t.Log.length = 0 := by omega
    have e2 : tapeAt t i = t := by simp [tapeAt, e0]
    have e3 : tapeAt t (i + 1) = t := by simp [tapeAt, e1]
    rw [e2, e3]
    have : nth t i = t.Log[i] := by simp [nth, List.getElem?_append, h1]
    rw [this, atI_nat _ i h1]
  · rw [if_neg (by omega)]
    rcases Nat.lt_or_ge (i - t.Log.length) t.Rest.length with h2 | h2
    · have e1 : (tapeAt t i).Rest = t.Rest[i - t.Log.length] :: t.Rest.drop (i + 1 - t.Log.length) := by
        show t.Rest.drop (i - t.Log.length) = _
        rw [List.drop_eq_getElem_cons h2]
        congr 2; omega
      rw [e1]
      simp only
      have e2 : nth t i = t.Rest[i - t.Log.length] := by
        simp only [nth, List.getD_eq_getElem?_getD, List.getElem?_append]
        rw [if_neg (by omega), List.getElem?_eq_getElem h2]; rfl
      rw [e2]
      have e3 : (tapeAt t i).Log ++ [t.Rest[i - t.Log.length]] = (tapeAt t (i + 1)).Log := by
        have x1 : i - t.Log.length - t.Rest.length = 0 := by omega
        have x2 : i - t.Log.length + 1 - t.Rest.length = 0 := by omega
        have x3 : i + 1 - t.Log.length = (i - t.Log.length) + 1 := by omega
        simp only [tapeAt, x1, x3, x2, List.replicate_zero, List.append_nil, List.append_assoc]
        rw [List.take_succ_eq_append_getElem h2]
      rw [e3]
      rfl
    · have e1 : (tapeAt t i).Rest = [] := List.drop_eq_nil_of_le h2
      rw [e1]
      simp only
      have e2 : nth t i = 0 := by
        simp only [nth, List.getD_eq_getElem?_getD]
        rw [List.getElem?_eq_none (by simp; omega)]; rfl
      rw [e2]
      have x3 : i + 1 - t.Log.length = (i - t.Log.length) + 1 := by omega
      have e3 : (tapeAt t i).Log ++ [0] = (tapeAt t (i + 1)).Log := by
        have x1 : i + 1 - t.Log.length - t.Rest.length = (i - t.Log.length - t.Rest.length) + 1 := by omega
        simp only [tapeAt, x1, List.append_assoc]
        rw [List.take_of_length_le h2, List.take_of_length_le (by omega), List.replicate_succ']
      have e4 : (tapeAt t (i + 1)).Rest = [] := List.drop_eq_nil_of_le (by omega)
      rw [e3, ← e4]
theorem nth_log {t : GTape} {i n : Nat} (hi : i < n) : atI (tapeAt t n).Log i = nth t i := by
  have hl : i < (tapeAt t n).Log.length := by rw [tapeAt_log]; omega
  rw [atI_nat _ i hl]
  have e : (tapeAt t n).Log[i]? = some (nth t i) := by
    simp only [tapeAt, nth, List.getD_eq_getElem?_getD, List.getElem?_append]
    by_cases h1 : i < t.Log.length
    · rw [if_pos h1, if_pos h1, List.getElem?_eq_getElem h1]; rfl
    · rw [if_neg h1, if_neg h1, List.length_take]
      by_cases h2 : i - t.Log.length < min (n - t.Log.length) t.Rest.length
      · rw [if_pos h2, List.getElem?_take, if_pos (by omega), List.getElem?_eq_getElem (by omega)]; rfl
      · rw [if_neg h2, List.getElem?_eq_none (l := t.Rest) (by omega), List.getElem?_replicate, if_pos (by omega)]; rfl
  rw [List.getElem?_eq_getElem hl] at e
  exact Option.some.inj e
theorem draw_again {t : GTape} (h : okTape t = true) (hl : len2 t ≤ 100) {i n : Nat} (hi : i < n) (hn : n ≤ 50) : drawS (tapeAt t n) i = (nth t i, tapeAt t n, 0) := by
  have hk := (tapeAt_ok h hl (i := n) hn).1
  have a := tapeAt_log t n
  have hp : placedB (tapeAt t n) i = true := by
    unfold placedB
    rw [hk]
    simp only [Bool.true_and, decide_eq_true_eq]
    omega
  unfold drawS
  rw [if_neg (by rw [hp]; simp; omega), if_pos (by omega), nth_log hi]
theorem tapeAgain (t : GTape) (n : Int) (h : len2 t ≤ 1048576) : F_L16_TapeAgain t n = some true := by
  unfold F_L16_TapeAgain
  rw [R16_Check_eq t (by omega), ob_some]
  have hm := h
  unfold len2 at hm
  cases hk : okTape t with
  | false => simp
  | true =>
    rw [if_pos rfl, if_pos rfl, w64_id (by omega) (by omega)]
    by_cases h1 : t.Log.length + t.Rest.length ≤ 100
    case neg => rw [if_neg (by omega)]
    rw [if_pos (by omega)]
    by_cases h0 : 0 ≤ n
    case neg => rw [if_neg h0]
    rw [if_pos h0]
    by_cases h50 : 50 < n
    · rw [if_pos h50]
    rw [if_neg h50, R16_All_eq t (by omega), ob_some]
    obtain ⟨N, rfl⟩ : ∃ N : Nat, n = N := ⟨n.toNat, by omega⟩
    have hl : len2 t ≤ 100 := h1
    have first := iter_acc (S := fun p : Int × List Int × List Int => s0_L16_TapeAgain (N : Int) (t.Log ++ t.Rest) t.Log t.Rest p.fst p.snd.fst p.snd.snd) (fun k => ((k : Int), (tapeAt t k).Log, (tapeAt t k).Rest)) N
      (b := .inr ((tapeAt t N).Log, (tapeAt t N).Rest)) (fun k hkN => by
        have hd := tape_Draw_eq (tapeAt t k) (k : Int) (by have := (tapeAt_ok hk hl (i := k) (by omega)).2; omega)
        rw [draw_at hk hl (by omega)] at hd
        simp only [s0_L16_TapeAgain, hd, ob_some]
        rw [if_pos (by omega), w64_id (by omega) (by omega)]
        have hlen : (t.Log ++ t.Rest).length = t.Log.length + t.Rest.length := List.length_append
        by_cases hka : (k : Int) < ((t.Log ++ t.Rest).length : Int)
        · rw [if_pos hka, if_pos ⟨by omega, hka⟩, if_pos trivial, if_pos (by
            rw [atI_nat _ k (by omega)]
            unfold nth
            rw [List.getD_eq_getElem?_getD, List.getElem?_eq_getElem (by omega)]; rfl)]
          rfl
        · rw [if_neg hka, if_pos trivial, if_pos (by
            simp only [nth, List.getD_eq_getElem?_getD]
            rw [List.getElem?_eq_none (by omega)]; rfl)]
          rfl) (by simp [s0_L16_TapeAgain])
    simp only [tapeAt_zero] at first
    have first' : iterO (fun p : Int × List Int × List Int => s0_L16_TapeAgain (N : Int) (t.Log ++ t.Rest) t.Log t.Rest p.fst p.snd.fst p.snd.snd) ((0 : Int), t.Log, t.Rest) = some (.inr ((tapeAt t N).Log, (tapeAt t N).Rest)) := first
    rw [first', ob_some]
    simp only [sm_inr]
    have second := iter_acc (S := fun p : Int => s1_L16_TapeAgain (N : Int) (t.Log ++ t.Rest) t.Log t.Rest (tapeAt t N).Log (tapeAt t N).Rest p) (fun k => (k : Int)) N (b := .inr ()) (fun k hkN => by
        have hd := tape_Draw_eq (tapeAt t N) (k : Int) (by have := (tapeAt_ok hk hl (i := N) (by omega)).2; omega)
        rw [draw_again hk hl hkN (by omega)] at hd
        have hs := R16_Same_eq (tapeAt t N) (tapeAt t N) (by have := (tapeAt_ok hk hl (i := N) (by omega)).2; omega)
        simp only [s1_L16_TapeAgain, hd, ob_some, hs]
        rw [if_pos (by omega), w64_id (by omega) (by omega), if_pos trivial]
        have hlen : (t.Log ++ t.Rest).length = t.Log.length + t.Rest.length := List.length_append
        by_cases hka : (k : Int) < ((t.Log ++ t.Rest).length : Int)
        · rw [if_pos hka, if_pos ⟨by omega, hka⟩, if_pos (by
            rw [atI_nat _ k (by omega)]
            unfold nth
            rw [List.getD_eq_getElem?_getD, List.getElem?_eq_getElem (by omega)]; rfl)]
          simp
        · rw [if_neg hka]
          simp) (by simp [s1_L16_TapeAgain])
    have second' : iterO (fun p : Int => s1_L16_TapeAgain (N : Int) (t.Log ++ t.Rest) t.Log t.Rest (tapeAt t N).Log (tapeAt t N).Rest p) (0 : Int) = some (.inr ()) := second
    rw [second', ob_some]
    simp only [sm_inr]
    have a := tapeAt_log t N
    have b := tapeAt_rest t N
    rw [if_pos (by omega), w64_id (n := (N : Int) - t.Log.length) (by omega) (by omega), w64_id (by omega) (by omega)]
    simp only [Option.some.injEq, beq_iff_eq]
    omega
end Go.Pv

/- Tapes, in plain words: the laws. -/
namespace Go.Pv
theorem iterO_step {A B : Type} {S : A → Option (A ⊕ B)} {a a' : A} (h : S a = some (.inl a')) : iterO S a = iterO S a' := by rw [iterO_eq, h]
theorem iterO_stop {A B : Type} {S : A → Option (A ⊕ B)} {a : A} {b : B} (h : S a = some (.inr b)) : iterO S a = some b := by rw [iterO_eq, h]
theorem w64_1 : w64 (0 + 1) = 1 := w64_id (by omega) (by omega)
theorem w64_2 : w64 (1 + 1) = 2 := w64_id (by omega) (by omega)
theorem concat_eq (a b : List Int) (h : a.length + b.length ≤ 1099511627776) : F_slices_Concat_60 [a, b] = some (a ++ b) := by
  have hm : ∀ n : Nat, n ≤ 1099511627776 → n * 8 ≤ most := fun n hn => by unfold most; omega
  have e00 : s0_slices_Concat_60 [a, b] [a, b] 2 0 0 = some (.inl ((a.length : Int), 1)) := by
    simp only [s0_slices_Concat_60]
    rw [if_pos (by omega), if_pos (by simp), show atI [a, b] 0 = a from rfl, w64_id (n := 0 + (a.length : Int)) (by omega) (by omega), if_neg (by omega), w64_1, Int.zero_add]
  have e01 : s0_slices_Concat_60 [a, b] [a, b] 2 (a.length : Int) 1 = some (.inl (((a.length + b.length : Nat) : Int), 2)) := by
    simp only [s0_slices_Concat_60]
    rw [if_pos (by omega), if_pos (by simp), show atI [a, b] 1 = b from rfl, w64_id (n := (a.length : Int) + (b.length : Int)) (by omega) (by omega), if_neg (by omega), w64_2, Int.natCast_add]
  have e02 : s0_slices_Concat_60 [a, b] [a, b] 2 ((a.length + b.length : Nat) : Int) 2 = some (.inr ((a.length + b.length : Nat) : Int)) := by
    simp only [s0_slices_Concat_60]
    rw [if_neg (by omega)]
  have e10 : s1_slices_Concat_60 [a, b] 2 [] 0 = some (.inl (a, 1)) := by
    simp only [s1_slices_Concat_60]
    rw [if_pos (by omega), if_pos (by simp), show atI [a, b] 0 = a from rfl, if_pos (hm _ (by simp; omega)), w64_1, List.nil_append]
  have e11 : s1_slices_Concat_60 [a, b] 2 a 1 = some (.inl (a ++ b, 2)) := by
    simp only [s1_slices_Concat_60]
    rw [if_pos (by omega), if_pos (by simp), show atI [a, b] 1 = b from rfl, if_pos (hm _ h), w64_2]
  have e12 : s1_slices_Concat_60 [a, b] 2 (a ++ b) 2 = some (.inr (a ++ b)) := by
    simp only [s1_slices_Concat_60]
    rw [if_neg (by omega)]
  have first : iterO (fun p : Int × Int => s0_slices_Concat_60 [a, b] [a, b] (([a, b] : List (List Int)).length : Int) p.fst p.snd) ((0 : Int), (0 : Int)) = some ((a.length + b.length : Nat) : Int) :=
    (iterO_step (a' := ((a.length : Int), (1 : Int))) e00).trans ((iterO_step (a' := (((a.length + b.length : Nat) : Int), (2 : Int))) e01).trans (iterO_stop e02))
  have second : iterO (fun p : List Int × Int => s1_slices_Concat_60 [a, b] (([a, b] : List (List Int)).length : Int) p.fst p.snd) ([], (0 : Int)) = some (a ++ b) :=
    (iterO_step (a' := (a, (1 : Int))) e10).trans ((iterO_step (a' := (a ++ b, (2 : Int))) e11).trans (iterO_stop e12))
  unfold F_slices_Concat_60
  rw [first, ob_some, if_pos ⟨by omega, hm _ (by omega)⟩, second, ob_some]
theorem tape_All_eq (t : GTape) (h : len2 t ≤ 1099511627776) : F_tape_All t = some (t.Log ++ t.Rest) := by
  unfold F_tape_All
  rw [concat_eq t.Log t.Rest h, ob_some]
theorem drawS_len (t : GTape) (used : Int) : len2 (drawS t used).2.1 ≤ len2 t + 1 := by
  unfold drawS
  split
  · simp [len2, noTape]
  · split
    · simp [len2]
    · split <;> rename_i h <;> simp [len2, h] <;> omega
theorem divS_len (t : GTape) (used : Int) : len2 (divS t used).1 ≤ len2 t := by
  unfold divS
  split
  · simp only [len2, List.length_take]; omega
  · simp [len2, noTape]
theorem tapeTells (t : GTape) (used : Int) (h : len2 t ≤ 1048576) : F_L16_TapeTells t used = some true := by
  unfold F_L16_TapeTells
  have hm := h
  unfold len2 at hm
  have h1 := drawS_len t used
  have h2 := divS_len t used
  split
  · rfl
  · rw [tape_Draw_eq t used (by omega), ob_some, R16_Draw_eq t used (by omega), ob_some, tape_Diverge_eq t used (by omega), ob_some, R16_Diverge_eq t used (by omega), ob_some]
    rw [if_pos rfl, R16_Same_eq _ _ (by omega), ob_some]
    simp only [decide_true, if_true]
    rw [R16_Same_eq _ _ (by omega), ob_some]
    simp only [decide_true, if_true]
    rw [tape_Check_eq t (by omega), ob_some, R16_Check_eq t (by omega), ob_some, if_pos rfl, tape_All_eq t (by omega), ob_some, R16_All_eq t (by omega), ob_some, R03_Ints_eq _ _ (by rw [List.length_append]; omega), ob_some]
    simp
theorem tapeDiverges (t : GTape) (used : Int) (h : len2 t ≤ 1048576) : F_L16_TapeDiverges t used = some true := by
  unfold F_L16_TapeDiverges
  rw [R16_Check_eq t (by omega), ob_some]
  have hm := h
  unfold len2 at hm
  cases hk : okTape t with
  | false => simp
  | true =>
    rw [if_pos rfl, if_pos rfl, w64_id (by omega) (by omega)]
    by_cases h1 : t.Log.length + t.Rest.length ≤ 100
    case neg => rw [if_neg (by omega)]
    rw [if_pos (by omega)]
    by_cases h0 : 0 ≤ used
    case neg => rw [if_neg h0]
    rw [if_pos h0]
    by_cases h2 : (t.Log.length : Int) < used
    · rw [if_pos h2]
    rw [if_neg h2, tape_Diverge_eq t used (by omega), ob_some]
    have hp : placedB t used = true := by
      unfold placedB
      rw [hk]
      simp only [Bool.true_and, decide_eq_true_eq]; omega
    unfold divS
    rw [if_pos hp]
    simp only
    obtain ⟨U, rfl⟩ : ∃ U : Nat, used = U := ⟨used.toNat, by omega⟩
    simp only [Int.toNat_natCast]
    rw [if_pos trivial, if_pos (by omega), R03_Ints_eq _ _ (by simp only [List.length_take]; omega), ob_some]
    simp only [decide_true, if_true]
    rw [R03_Ints_eq _ _ (by omega), ob_some]
    simp only [decide_true]
    rw [if_neg (by simp)]
    have hl : (t.Log.take U).length = U := by rw [List.length_take]; omega
    have hok : okTape ⟨t.Log.take U, t.Rest⟩ = true := by
      obtain ⟨a, b, c⟩ := (okTape_iff t).1 hk
      exact (okTape_iff _).2 ⟨by simp only [hl]; omega, fun n hn => b n (List.mem_of_mem_take hn), c⟩
    have hp2 : placedB ⟨t.Log.take U, t.Rest⟩ U = true := by
      unfold placedB
      rw [hok]
      simp only [Bool.true_and, decide_eq_true_eq, hl]; omega
    have hdraw : drawS ⟨t.Log.take U, t.Rest⟩ U = match t.Rest with
        | [] => (0, ⟨t.Log.take U ++ [0], []⟩, 0)
        | x :: r => (x, ⟨t.Log.take U ++ [x], r⟩, 0) := by
      unfold drawS
      rw [if_neg (show ¬ (placedB ⟨t.Log.take U, t.Rest⟩ U = false ∨ (U : Int) = 1000) by rw [hp2]; simp; omega), if_neg (show ¬ ((U : Int) < ((t.Log.take U).length : Int)) by omega)]
      first
        | done
        | (cases t.Rest <;> rfl)
    rw [tape_Draw_eq _ _ (by unfold len2; simp only [hl]; omega), ob_some, hdraw, w64_id (by omega) (by omega)]
    cases hr : t.Rest with
    | nil =>
      simp only [if_true]
      rw [if_pos (by simp [hl])]
    | cons x r =>
      rw [hr] at hm
      simp only [List.length_cons] at hm ⊢
      rw [if_pos trivial, if_pos (by simp [hl]), if_neg (by simp), if_pos (by omega), if_pos (by omega), if_pos (by rfl), if_pos (by omega)]
      rw [List.tail_cons, R03_Ints_eq _ _ (by omega), ob_some]
      simp
theorem tapeWhole (t : GTape) (n : Int) (h : len2 t ≤ 1048576) : F_L16_TapeWhole t n = some true := by
  unfold F_L16_TapeWhole
  rw [R16_Check_eq t (by omega), ob_some]
  have hm := h
  unfold len2 at hm
  cases hk : okTape t with
  | false => simp
  | true =>
    rw [if_pos rfl, if_pos rfl, w64_id (by omega) (by omega)]
    by_cases h1 : t.Log.length + t.Rest.length ≤ 100
    case neg => rw [if_neg (by omega)]
    rw [if_pos (by omega)]
    by_cases h0 : 0 ≤ n
    case neg => rw [if_neg h0]
    rw [if_pos h0]
    by_cases h50 : 50 < n
    · rw [if_pos h50]
    have hlen : (t.Log ++ t.Rest).length = t.Log.length + t.Rest.length := List.length_append
    rw [if_neg h50, tape_All_eq t (by omega), ob_some, if_pos (by rw [hlen]; omega)]
    obtain ⟨N, rfl⟩ : ∃ N : Nat, n = N := ⟨n.toNat, by omega⟩
    have hl : len2 t ≤ 100 := h1
    have first := iter_acc (S := fun p : Int × List Int × List Int => s0_L16_TapeWhole (N : Int) (t.Log ++ t.Rest) p.fst p.snd.fst p.snd.snd) (fun k => ((k : Int), (tapeAt t k).Log, (tapeAt t k).Rest)) N
      (b := .inr ((tapeAt t N).Log, (tapeAt t N).Rest)) (fun k hkN => by
        have hd := tape_Draw_eq (tapeAt t k) (k : Int) (by have := (tapeAt_ok hk hl (i := k) (by omega)).2; omega)
        rw [draw_at hk hl (by omega)] at hd
        simp only [s0_L16_TapeWhole, hd, ob_some]
        rw [if_pos (by omega), w64_id (by omega) (by omega), if_pos trivial]
        rfl) (by simp [s0_L16_TapeWhole])
    simp only [tapeAt_zero] at first
    have first' : iterO (fun p : Int × List Int × List Int => s0_L16_TapeWhole (N : Int) (t.Log ++ t.Rest) p.fst p.snd.fst p.snd.snd) ((0 : Int), t.Log, t.Rest) = some (.inr ((tapeAt t N).Log, (tapeAt t N).Rest)) := first
    rw [first', ob_some]
    simp only [sm_inr]
    have hokN := tapeAt_ok hk hl (i := N) (by omega)
    have a := tapeAt_log t N
    have b := tapeAt_rest t N
    have hall := tape_All_eq (tapeAt t N) (by omega)
    have e0 : ({ Log := (tapeAt t N).Log, Rest := (tapeAt t N).Rest } : GTape) = tapeAt t N := rfl
    rw [e0, hall, ob_some]
    have hlen2 : ((tapeAt t N).Log ++ (tapeAt t N).Rest).length = max (t.Log.length + t.Rest.length) N := by
      rw [List.length_append, a, b]; omega
    have hget : ∀ i, i < max (t.Log.length + t.Rest.length) N → ((tapeAt t N).Log ++ (tapeAt t N).Rest).getD i 0 = nth t i := by
      intro i hi
      simp only [List.getD_eq_getElem?_getD, nth, tapeAt, List.getElem?_append, List.length_append, List.length_take, List.length_replicate, List.getElem?_take, List.getElem?_drop, List.getElem?_replicate]
      by_cases c1 : i < t.Log.length
      · rw [if_pos (by omega), if_pos c1, if_pos c1]
      · rw [if_neg c1, if_neg c1]
        by_cases c2 : i < t.Log.length + (min (N - t.Log.length) t.Rest.length + (N - t.Log.length - t.Rest.length))
        · rw [if_pos c2]
          by_cases c3 : i - t.Log.length < min (N - t.Log.length) t.Rest.length
          · rw [if_pos c3, if_pos (by omega)]
          · rw [if_neg c3, if_pos (by omega), List.getElem?_eq_none (l := t.Rest) (by omega)]; rfl
        · rw [if_neg c2]
          congr 2
          omega
    rw [if_pos (by rw [hlen2, hlen]; omega), if_pos (by rw [hlen2, hlen]; omega)]
    have htake : ((tapeAt t N).Log ++ (tapeAt t N).Rest).take (t.Log ++ t.Rest).length = t.Log ++ t.Rest := by
      refine List.ext_getElem (by rw [List.length_take, hlen2, hlen]; omega) fun i h3 h4 => ?_
      rw [List.getElem_take]
      have h5 : i < ((tapeAt t N).Log ++ (tapeAt t N).Rest).length := by rw [hlen2]; omega
      have := hget i (by omega)
      rw [List.getD_eq_getElem?_getD, List.getElem?_eq_getElem h5, nth, List.getD_eq_getElem?_getD, List.getElem?_eq_getElem h4] at this
      exact this
    rw [htake, R03_Ints_eq _ _ (by omega), ob_some]
    simp only [decide_true, if_true]
    have hch := tape_Check_eq (tapeAt t N) (by omega)
    rw [e0, hch, ob_some, if_pos hokN.1, if_pos rfl]
    have second := iter_acc (S := fun p : Int => s1_L16_TapeWhole ((tapeAt t N).Log ++ (tapeAt t N).Rest) p) (fun k => (((t.Log ++ t.Rest).length + k : Nat) : Int)) (((tapeAt t N).Log ++ (tapeAt t N).Rest).length - (t.Log ++ t.Rest).length) (b := .inr ()) (fun k hk2 => by
        have hkl : (t.Log ++ t.Rest).length + k < ((tapeAt t N).Log ++ (tapeAt t N).Rest).length := by omega
        simp only [s1_L16_TapeWhole, atI_nat _ _ hkl]
        rw [if_pos (by omega), if_pos (by omega), w64_id (by omega) (by omega), if_pos]
        · congr 2
        · have := hget ((t.Log ++ t.Rest).length + k) (by omega)
          rw [List.getD_eq_getElem?_getD, List.getElem?_eq_getElem hkl, nth, List.getD_eq_getElem?_getD, List.getElem?_eq_none (by omega)] at this
          exact this) (by
        have : (((t.Log ++ t.Rest).length + (((tapeAt t N).Log ++ (tapeAt t N).Rest).length - (t.Log ++ t.Rest).length) : Nat) : Int) = (((tapeAt t N).Log ++ (tapeAt t N).Rest).length : Int) := by omega
        simp only [s1_L16_TapeWhole, this]
        rw [if_neg (by omega)])
    have second' : iterO (fun p : Int => s1_L16_TapeWhole ((tapeAt t N).Log ++ (tapeAt t N).Rest) p) ((t.Log ++ t.Rest).length : Int) = some (.inr ()) := second
    rw [second', ob_some]
    rfl
end Go.Pv

/- What is told of the library's functions is right. -/
namespace Go.Pv
open Go Go.Proofs
def bare (h : Hint) : Hint := { h with res := [], par := [], row := [] }
@[simp] theorem bare_var (h : Hint) : (bare h).var = h.var := rfl
@[simp] theorem bare_own (h : Hint) : (bare h).own = h.own := rfl
@[simp] theorem bare_keep (h : Hint) : (bare h).keep = h.keep := rfl
@[simp] theorem bare_out (h : Hint) : (bare h).out = h.out := rfl
@[simp] theorem bare_row (h : Hint) : (bare h).row = [] := rfl
@[simp] theorem bare_shr (h : Hint) : (bare h).shr = h.shr := rfl
@[simp] theorem bare_res (h : Hint) : (bare h).res = [] := rfl
@[simp] theorem bare_par (h : Hint) : (bare h).par = [] := rfl
def lor0 : Lore := ⟨fun f => bare (hints f), fun _ => none⟩
@[simp] theorem lor0_53 : lor0.hint 53 = bare h53 := rfl
@[simp] theorem lor0_54 : lor0.hint 54 = bare h54 := rfl
@[simp] theorem lor0_57 : lor0.hint 57 = bare h57 := rfl
set_option maxRecDepth 100000
theorem clones53 : Clones Try.prog (cO Try.prog lor0) 53 35 1 24 := by
  refine ⟨by omega, fun c frs h => ?_, fun a c frs h => ?_, fun x l frs h hb ha => ?_⟩ <;> rw [cO_eq (R := lor0) rfl Try.func53 rfl] <;> show wrapThen _ (endThen _ _ _ (eO Try.prog (bare h53) _ _ _)) = _
  · simp [-D.outer, -List.all_eq_true, Try.f53, h]
  · simp [-D.outer, -List.all_eq_true, Try.f53, h]
  · simp [-D.outer, -List.all_eq_true, Try.f53, h]
    simp only [List.all_cons, Bool.and_eq_true, beq_iff_eq] at ha
    exact ⟨ha, by simpa [els_nil] using hb⟩
theorem clones54 : Clones Try.prog (cO Try.prog lor0) 54 71 10 104 := by
  refine ⟨by omega, fun c frs h => ?_, fun a c frs h => ?_, fun x l frs h hb ha => ?_⟩ <;> rw [cO_eq (R := lor0) rfl Try.func54 rfl] <;> show wrapThen _ (endThen _ _ _ (eO Try.prog (bare h54) _ _ _)) = _
  · simp [-D.outer, -List.all_eq_true, Try.f54, h]
  · simp [-D.outer, -List.all_eq_true, Try.f54, h]
  · simp [-D.outer, -List.all_eq_true, Try.f54, h]
    simp only [List.all_cons, Bool.and_eq_true, beq_iff_eq] at ha
    exact ⟨ha, by simpa [els_nil] using hb⟩
theorem clones57 : Clones Try.prog (cO Try.prog lor0) 57 3 1 8 := by
  refine ⟨by omega, fun c frs h => ?_, fun a c frs h => ?_, fun x l frs h hb ha => ?_⟩ <;> rw [cO_eq (R := lor0) rfl Try.func57 rfl] <;> show wrapThen _ (endThen _ _ _ (eO Try.prog (bare h57) _ _ _)) = _
  · simp [-D.outer, -List.all_eq_true, Try.f57, h]
  · simp [-D.outer, -List.all_eq_true, Try.f57, h]
  · simp [-D.outer, -List.all_eq_true, Try.f57, h]
    simp only [List.all_cons, Bool.and_eq_true, beq_iff_eq] at ha
    exact ⟨ha, by simpa [els_nil] using hb⟩
theorem mixed0 : Try.prog.follows .mixedOrders = true := by kernel_rfl
theorem told : ToldOk Try.prog lore.told := by
  intro f s h
  have g0 : Pv.Good Try.prog (cO Try.prog lor0) := cO_good mixed0 (by intro f s h; cases h)
  unfold lore at h
  simp only at h
  split at h
  · cases h; exact clone_told g0 clones53
  · cases h; exact clone_told g0 clones54
  · cases h; exact clone_told g0 clones57
  · cases h; exact grow_told (by omega) grow_zero (fun w n h0 hb => (grow_made w n h0 hb).mono fun r w' ⟨cs, cap, h1, h2, h3, h4⟩ => ⟨cs, cap, h1, h2, by omega, h4⟩)
  · cases h
end Go.Pv

/- Tapes: from the laws' arguments to plain data. -/
namespace Go.Pv
open Go Go.Proofs
abbrev iT : Ty := .int .i64
abbrev tapeT : Ty := .pair (.sl iT) (.pair (.sl iT) .unit)
theorem ints_enc (l : (Ty.sl iT).den) : List.map (α := iT.den) iT.enc l = els (α := Int) l := rfl
theorem argD_tape (a b : (Ty.sl iT).den) (u : Unit) : argD tapeT (a, b, u) = .agg [.t (.sl 1 (els (α := Int) a)), .t (.sl 1 (els (α := Int) b))] := rfl
theorem ones {α : Type} (f : α → Nat) (hf : ∀ x, f x = 1) (l : List α) : (l.map f).sum = l.length := by
  induction l with
  | nil => rfl
  | cons a l ih => simp only [List.map_cons, List.sum_cons, List.length_cons, ih, hf]; omega
theorem ints_bulk (l : List Int) : (List.map (α := iT.den) (Ty.bulk iT) l).sum = l.length := ones (α := iT.den) (Ty.bulk iT) (fun _ => rfl) l
theorem tape_bulk (a b : List Int) (u : Unit) (n : Int) (v : Unit) (h : Ty.bulk (.pair tapeT (.pair iT .unit)) ((a, b, u), n, v) ≤ 1048576) : len2 ⟨a, b⟩ ≤ 1048576 := by
  have h1 := ints_bulk a
  have h2 := ints_bulk b
  have h3 : ((List.map (α := iT.den) (Ty.bulk iT) a).sum + 1 + ((List.map (α := iT.den) (Ty.bulk iT) b).sum + 1 + 0)) + (1 + 0) ≤ 1048576 := h
  unfold len2
  simp only
  omega
abbrev lawT : Ty := .pair tapeT (.pair iT .unit)
theorem law_tapeTells (x : lawT.den) (_hx : lawT.wf x) (hk : lawT.bulk x ≤ 1048576) : cO Try.prog lore 11 (argDs lawT x) [] = some (.val (Bo true), []) := by
  obtain ⟨⟨a, b, u⟩, n, v⟩ := x
  exact (f_L16_TapeTells a b n).trans (by rw [tapeTells ⟨a, b⟩ n (tape_bulk a b u n v hk)]; rfl)
theorem law_tapeAgain (x : lawT.den) (_hx : lawT.wf x) (hk : lawT.bulk x ≤ 1048576) : cO Try.prog lore 12 (argDs lawT x) [] = some (.val (Bo true), []) := by
  obtain ⟨⟨a, b, u⟩, n, v⟩ := x
  exact (f_L16_TapeAgain a b n).trans (by rw [tapeAgain ⟨a, b⟩ n (tape_bulk a b u n v hk)]; rfl)
theorem law_tapeDiverges (x : lawT.den) (_hx : lawT.wf x) (hk : lawT.bulk x ≤ 1048576) : cO Try.prog lore 13 (argDs lawT x) [] = some (.val (Bo true), []) := by
  obtain ⟨⟨a, b, u⟩, n, v⟩ := x
  exact (f_L16_TapeDiverges a b n).trans (by rw [tapeDiverges ⟨a, b⟩ n (tape_bulk a b u n v hk)]; rfl)
theorem law_tapeWhole (x : lawT.den) (_hx : lawT.wf x) (hk : lawT.bulk x ≤ 1048576) : cO Try.prog lore 14 (argDs lawT x) [] = some (.val (Bo true), []) := by
  obtain ⟨⟨a, b, u⟩, n, v⟩ := x
  exact (f_L16_TapeWhole a b n).trans (by rw [tapeWhole ⟨a, b⟩ n (tape_bulk a b u n v hk)]; rfl)
end Go.Pv
