/- A part of the road: the interpreter of plain data and the proof that it is right. -/
import Derived.Test.YtnleijomgjhplaaN
import Derived.Test.YtnleijomgjhplaaS
import Derived.Test.YtnleijomgjhplaaR
import Derived.Test.YtnleijomgjhplaaL
import Derived.Test.YtnleijomgjhplaaT
import Derived.Test.YtnleijomgjhplaaK
import Derived.Test.YtnleijomgjhplaaH
import Derived.Test.YtnleijomgjhplaaG
set_option linter.unusedVariables false
set_option linter.unusedSimpArgs false
/- Values, heaps and what is reached: the program's functions in plain words. -/
namespace Go.Pv
/-- A loop that looks for the first one that is not so. -/
theorem iter_all {α β : Type} [Enc α] (l : List α) (p : α → Bool) {S : Int → Option (Int ⊕ β ⊕ Unit)} (R : Nat → β)
    (hS : ∀ (k : Nat) (h : k < l.length), S (k : Int) = if p l[k] = true then some (.inl ((k + 1 : Nat) : Int)) else some (.inr (.inl (R k)))) (he : S (l.length : Int) = some (.inr (.inr ()))) :
    ∃ r, iterO S 0 = some r ∧ sm r (fun b => l.all p = false ∧ ∃ k, ∃ h : k < l.length, b = R k ∧ p l[k] = false ∧ ∀ j (hj : j < k), p (l[j]'(by omega)) = true) fun _ => l.all p = true := by
  refine iter_post (S := S) (fun i => l.length - i.toNat) (fun i => ∃ k : Nat, i = k ∧ k ≤ l.length ∧ ∀ j (hj : j < k) (h : j < l.length), p l[j] = true) _ (fun i hi => ?_) 0 ⟨0, rfl, Nat.zero_le _, fun j hj => by omega⟩
  obtain ⟨k, rfl, hk, ht⟩ := hi
  rcases Nat.lt_or_ge k l.length with h | h
  · rw [hS k h]
    by_cases e : p l[k] = true
    · refine .inl ⟨_, if_pos e, ⟨k + 1, rfl, h, fun j hj hjl => ?_⟩, by simp; omega⟩
      by_cases ej : j = k
      · subst ej; exact e
      · exact ht j (by omega) hjl
    · refine .inr ⟨_, if_neg e, ?_, k, h, rfl, by simpa using e, fun j hj => ht j hj (by omega)⟩
      rw [List.all_eq_false]
      exact ⟨_, List.getElem_mem h, by simpa using e⟩
  · have : k = l.length := by omega
    subst this
    refine .inr ⟨_, he, ?_⟩
    show l.all p = true
    rw [List.all_eq_true]
    intro x hx
    obtain ⟨j, hj, rfl⟩ := List.getElem_of_mem hx
    exact ht j hj hj
/-- Small enough for any machine. -/
def big : Nat := 1099511627776
theorem value_At_eq (v : Int) : F_value_At v = some (atP v) := by
  unfold F_value_At F_value_object atP at?
  rw [bAnd_one, iShr_one]
  by_cases h : v % 2 = 0
  · rw [if_pos h]
    by_cases h1 : 0 ≤ v / 2
    · rw [if_pos h1, ob_some]
      by_cases h2 : v / 2 < 1048576
      · rw [if_pos (by simpa using h2), if_pos (by omega)]
        simp only [Option.some.injEq, Prod.mk.injEq, and_true]; omega
      · rw [if_neg (by simpa using h2), if_neg (by omega)]
    · rw [if_neg h1, ob_some, if_neg (by simp), if_neg (by omega)]
  · rw [if_neg h, if_neg (by omega)]
theorem value_N_eq (v : Int) : F_value_N v = some (nP v) := by
  unfold F_value_N F_value_small nP n?
  rw [bAnd_one, iShr_one]
  by_cases h : v % 2 = 1
  · rw [if_pos h]
    by_cases h1 : -1073741824 ≤ v / 2
    · rw [if_pos h1, ob_some]
      by_cases h2 : v / 2 ≤ 1073741823
      · rw [if_pos (by simpa using h2), if_pos (by omega)]
      · rw [if_neg (by simpa using h2), if_neg (by omega)]
    · rw [if_neg h1, ob_some, if_neg (by simp), if_neg (by omega)]
  · rw [if_neg h, if_neg (by omega)]
theorem nP_snd (v : Int) : (nP v).2 = (n? v).isSome := by unfold nP; cases n? v <;> rfl
theorem heap_ref_eq (n : Nat) (v : Int) : F_heap_objects_ref (n : Int) v = some (refI n v) := by
  unfold F_heap_objects_ref refI
  rw [value_At_eq, ob_some]
  unfold atP
  cases at? v with
  | none => simp
  | some i =>
    by_cases h : i < n
    · simp [h]
    · simp [h]
theorem hasB_ref (n : Nat) (v : Int) : hasB n v = ((n? v).isSome || decide (0 ≤ refI n v)) := by
  unfold hasB refI
  cases at? v with
  | none => simp
  | some i => by_cases h : i < n <;> simp [h]
theorem ref_atP (n : Nat) (v : Int) : decide (0 ≤ refI n v) = ((atP v).2 && decide ((atP v).1 < (n : Int))) := by
  unfold refI atP
  cases at? v with
  | none => simp
  | some i => by_cases h : i < n <;> simp [h]
theorem heap_has_eq (n : Nat) (v : Int) : F_heap_objects_has (n : Int) v = some (hasB n v) := by
  unfold F_heap_objects_has
  rw [value_N_eq, ob_some, nP_snd, heap_ref_eq, ob_some, hasB_ref]
  cases (n? v).isSome <;> simp
theorem contains154_eq (s : List Int) (n : Nat) (a b c d : Int) (l : List Int) (t : ByteArray) (h : s.length ≤ big) : F_slices_ContainsFunc_154_u0 s (n : Int) a b l t c d = some (!s.all (hasB n)) := by
  unfold F_slices_ContainsFunc_154_u0 F_slices_IndexFunc_164_u0
  unfold big at h
  obtain ⟨r, e, hr⟩ := iter_all s (hasB n) (S := fun p => s0_slices_IndexFunc_164_u0 s (s.length : Int) (n : Int) a b l t c d p) (fun k => (k : Int)) (fun k hk => by
    simp only [s0_slices_IndexFunc_164_u0, F_heap_objects_may_1_u0, atI_nat _ k hk, heap_has_eq, ob_some]
    rw [if_pos (by omega), if_pos (by omega), w64_id (by omega) (by omega)]
    cases hasB n s[k] <;> simp) (by simp [s0_slices_IndexFunc_164_u0])
  rw [e, ob_some]
  cases r with
  | inl b =>
    obtain ⟨h1, k, _, rfl, _⟩ := hr
    simp [h1]
  | inr u =>
    have h1 : s.all (hasB n) = true := hr
    simp [h1]
theorem heap_in_eq (n m : Int) : F_heap_in n m = some (decide (0 ≤ n ∧ n ≤ m)) := by
  unfold F_heap_in
  by_cases h : 0 ≤ n
  · simp [h]
  · simp [h]
theorem dec_decide {p : Prop} [Decidable p] : dec p = decide p := by
  by_cases h : p
  · rw [dec_true h, decide_eq_true h]
  · rw [dec_false h, decide_eq_false h]
theorem heap_may_obj_eq (n : Nat) (o : GObj) (h : o.Slots.length ≤ big) : F_heap_objects_may (n : Int) o = some (dec (OkObj n o)) := by
  unfold F_heap_objects_may
  rw [heap_ref_eq, ob_some]
  by_cases h1 : 0 ≤ refI n o.Class
  case neg => rw [if_neg h1, dec_false fun k => h1 k.cls]
  rw [if_pos h1, heap_in_eq, ob_some]
  by_cases h2 : 0 ≤ o.Kind ∧ o.Kind ≤ 2
  case neg => rw [decide_eq_false h2, if_neg (by simp), dec_false fun k => h2 k.kind]
  rw [decide_eq_true h2, if_pos rfl, heap_in_eq, ob_some]
  by_cases h3 : 0 ≤ o.Hash ∧ o.Hash ≤ 1073741823
  case neg => rw [decide_eq_false h3, if_pos rfl, dec_false fun k => h3 k.hash]
  rw [decide_eq_true h3, if_neg (by simp)]
  simp only [contains154_eq o.Slots n _ _ _ _ _ _ h, ob_some, Bool.not_not]
  by_cases h4 : (o.Slots.length : Int) ≤ 64
  case neg => rw [dec_false fun k => h4 (by have := k.nslots; omega)]; simp [h4]
  by_cases h5 : (o.Text.size : Int) ≤ 64
  case neg => rw [dec_false fun k => h5 (by have := k.ntext; omega)]; simp [h5]
  by_cases h6 : canonF o.Bits = o.Bits
  case neg => rw [dec_false fun k => h6 k.canon]; simp [h6]
  cases h7 : o.Slots.all (hasB n) with
  | false =>
    rw [dec_false fun k => by
      rw [List.all_eq_true.2 k.slots] at h7; cases h7]
    simp
  | true =>
    have hiff : OkObj n o ↔ ((o.Kind ≠ 0 → o.Slots = []) ∧ (o.Kind ≠ 1 → o.Text = ByteArray.empty) ∧ (o.Kind ≠ 2 → o.Bits = 0)) :=
      ⟨fun k => ⟨k.ptr, k.text, k.bits⟩, fun k => ⟨h1, h2, h3, k.1, k.2.1, k.2.2, by omega, by omega, h6, List.all_eq_true.1 h7⟩⟩
    rw [dec_congr hiff, dec_decide]
    have e0 : ({ data := #[] } : ByteArray) = ByteArray.empty := rfl
    rw [e0]
    simp only [h4, h5, h6, if_true]
    by_cases k0 : o.Kind = 0
    · simp [k0]
      by_cases b1 : o.Text = ByteArray.empty <;> by_cases b2 : o.Bits = 0 <;> simp [b1, b2]
    · by_cases k1 : o.Kind = 1
      · simp [k1]
        by_cases b1 : o.Slots = [] <;> by_cases b2 : o.Bits = 0 <;> simp [b1, b2]
      · have k2 : o.Kind = 2 := by omega
        simp [k2]
        by_cases b1 : o.Slots = [] <;> by_cases b2 : o.Text = ByteArray.empty <;> simp [b1, b2]
/-- A heap small enough for any machine. -/
def Slim (h : GHeap) : Prop := h.Objs.length ≤ big ∧ ∀ o ∈ h.Objs, o.Slots.length + o.Text.size ≤ big
theorem heap_May_eq (h : GHeap) (hs : Slim h) : F_heap_May h = some (dec (OkHeap h)) := by
  obtain ⟨hl, hso⟩ := hs
  unfold big at hl
  unfold F_heap_May
  by_cases h1 : 1 ≤ h.Cap
  case neg => rw [if_neg h1, dec_false fun k => h1 k.cap.1]
  by_cases h2 : h.Cap ≤ 256
  case neg => rw [if_pos h1, if_neg h2, dec_false fun k => h2 k.cap.2]
  by_cases h3 : (h.Objs.length : Int) ≤ h.Cap
  case neg => rw [if_pos h1, if_pos h2, if_neg h3, dec_false fun k => h3 k.len]
  rw [if_pos h1, if_pos h2, if_pos h3, heap_in_eq, ob_some]
  by_cases h4 : 0 ≤ h.Last ∧ h.Last ≤ 1073741823
  case neg => rw [decide_eq_false h4, if_pos rfl, dec_false fun k => h4 k.last]
  rw [decide_eq_true h4, if_neg (by simp)]
  unfold F_slices_ContainsFunc_139_u0 F_slices_IndexFunc_151_u0
  obtain ⟨r, e, hr⟩ := iter_all h.Objs (fun o => dec (OkObj h.Objs.length o)) (S := fun p => s0_slices_IndexFunc_151_u0 h.Objs (h.Objs.length : Int) h.Objs h.Cap h.Last (h.Objs.length : Int) p) (fun k => (k : Int)) (fun k hk => by
    have ho := heap_may_obj_eq h.Objs.length h.Objs[k] (by have := hso _ (List.getElem_mem hk); omega)
    simp only [s0_slices_IndexFunc_151_u0, F_heap_May_1_u0, atI_nat _ k hk]
    rw [if_pos (by omega), if_pos (by omega), w64_id (by omega) (by omega)]
    rw [show ({ Class := h.Objs[k].Class, Kind := h.Objs[k].Kind, Slots := h.Objs[k].Slots, Text := h.Objs[k].Text, Bits := h.Objs[k].Bits, Hash := h.Objs[k].Hash } : GObj) = h.Objs[k] from rfl, ho, ob_some, ob_some]
    cases dec (OkObj h.Objs.length h.Objs[k]) <;> simp) (by simp [s0_slices_IndexFunc_151_u0])
  rw [e, ob_some]
  cases r with
  | inl b =>
    obtain ⟨h5, k, hk, rfl, hf, _⟩ := hr
    rw [dec_false fun ok => by
      rw [dec_true (ok.objs _ (List.getElem_mem hk))] at hf; cases hf]
    simp
  | inr u =>
    have h5 : h.Objs.all (fun o => dec (OkObj h.Objs.length o)) = true := hr
    rw [dec_true ⟨⟨h1, h2⟩, h3, h4, fun o ho => dec_iff.1 (List.all_eq_true.1 h5 o ho)⟩]
    simp
/-! ### what is reached -/
end Go.Pv

/- Values, heaps and states: the document's functions in plain words. -/
namespace Go.Pv
theorem bAnd_low (v : Int) : bAnd .i64 v 9223372036854775807 = v % 9223372036854775808 := by
  have h : (BitVec.ofInt IntKind.i64.bits v &&& BitVec.ofInt IntKind.i64.bits 9223372036854775807).toNat = (v % 9223372036854775808).toNat := by
    show (BitVec.ofInt 64 v &&& BitVec.ofInt 64 9223372036854775807).toNat = _
    rw [BitVec.toNat_and, BitVec.toNat_ofInt, BitVec.toNat_ofInt]
    show (v % ((2 ^ 64 : Nat) : Int)).toNat &&& (2 ^ 63 - 1) = _
    rw [Nat.and_two_pow_sub_one_eq_mod]
    omega
  unfold bAnd
  rw [h, wrap_w64, w64_id (by omega) (by omega)]
  omega
theorem iShr_52 (v : Int) : iShr .i64 v 52 = v / 4503599627370496 := by
  show v.fdiv (2 ^ (min (52 : Int).toNat 64)) = v / 4503599627370496
  rw [show (2 : Int) ^ (min (52 : Int).toNat 64) = 4503599627370496 from rfl, Int.fdiv_eq_ediv_of_nonneg _ (by omega)]
def inR (b : Int) : Prop := -9223372036854775808 ≤ b ∧ b ≤ 9223372036854775807
theorem R02_Canon_eq (a : Int) (h : inR a) : F_R02_Canon a = some (canonF a) := by
  unfold F_R02_Canon F_R02_Kind F_R02_plain F_R02_most F_R02_NaN canonF nanB
  simp only [ob_some, bAnd_low, iShr_52]
  rw [Int.tmod_eq_emod_of_nonneg (by omega), w64_id h.1 h.2]
  by_cases h1 : a % 9223372036854775808 / 4503599627370496 = 2047
  · rw [if_pos h1]
    by_cases h2 : a % 9223372036854775808 % 4503599627370496 = 0
    · have h3 : a % 4503599627370496 = 0 := by omega
      rw [if_pos h2, ob_some]
      simp [h3]
    · have h3 : ¬ a % 4503599627370496 = 0 := by omega
      rw [if_neg h2, ob_some]
      simp [h1, h3]
  · rw [if_neg h1]
    by_cases h4 : 0 < a % 9223372036854775808 / 4503599627370496
    · rw [if_pos h4, ob_some]; simp [h1]
    · rw [if_neg h4]
      by_cases h5 : 0 < a % 9223372036854775808 % 4503599627370496
      · rw [if_pos h5, ob_some]; simp [h1]
      · rw [if_neg h5, ob_some]; simp [h1]
theorem R01_At_eq (v : Int) : F_R01_At v = some (atP v) := by
  unfold F_R01_At atP at?
  by_cases h : v % 2 = 0
  · rw [if_pos ((tmod_two v).2 h)]
    by_cases h1 : 0 ≤ v
    · rw [if_pos h1]
      by_cases h2 : 2097150 < v
      · rw [if_pos h2, if_neg (by omega)]
      · rw [if_neg h2, if_pos (by omega), Int.tdiv_eq_ediv_of_nonneg h1, w64_id (by omega) (by omega)]
        simp only [Option.some.injEq, Prod.mk.injEq, and_true]; omega
    · rw [if_neg h1, if_neg (by omega)]
  · rw [if_neg (fun k => h ((tmod_two v).1 k)), if_neg (by omega)]
theorem tdiv_odd {v : Int} (h : v % 2 = 1) : (v - 1).tdiv 2 = v / 2 := by
  have e : v - 1 = 2 * (v / 2) := by omega
  rw [e, Int.mul_tdiv_cancel_left _ (by omega)]
theorem R01_N_eq (v : Int) : F_R01_N v = some (nP v) := by
  unfold F_R01_N nP n?
  by_cases h : v % 2 = 0
  · rw [if_pos ((tmod_two v).2 h), if_neg (by omega)]
  · rw [if_neg (fun k => h ((tmod_two v).1 k))]
    by_cases h1 : -2147483647 ≤ v
    · rw [if_pos h1]
      by_cases h2 : 2147483647 < v
      · rw [if_pos h2, if_neg (by omega)]
      · have h3 : v % 2 = 1 := by omega
        rw [if_neg h2, if_pos (by omega), w64_id (n := v - 1) (by omega) (by omega), tdiv_odd h3, w64_id (by omega) (by omega)]
    · rw [if_neg h1, if_neg (by omega)]
theorem R03_Ref_eq (h : GHeap) (v : Int) : F_R03_Ref h v = some (refI h.n v) := by
  unfold F_R03_Ref refI
  rw [R01_At_eq, ob_some]
  unfold atP GHeap.n
  cases at? v with
  | none => simp
  | some i =>
    by_cases hi : i < h.Objs.length
    · have : ¬ ((h.Objs.length : Int) ≤ (i : Int)) := by omega
      simp [hi, this]
    · have : (h.Objs.length : Int) ≤ (i : Int) := by omega
      simp [hi, this]
theorem R03_Has_eq (h : GHeap) (v : Int) : F_R03_Has h v = some (hasB h.n v) := by
  unfold F_R03_Has
  rw [R01_N_eq, ob_some, nP_snd, R03_Ref_eq, ob_some, hasB_ref]
  cases (n? v).isSome <;> simp
theorem R03_hash_eq (n : Int) : F_R03_hash n = some (decide (0 ≤ n ∧ n ≤ 1073741823)) := by
  unfold F_R03_hash
  by_cases h : 0 ≤ n
  · have : (n < 1073741824) ↔ (n ≤ 1073741823) := by omega
    simp [h, this]
  · simp [h]
theorem R03_obj_eq (h : GHeap) (o : GObj) (hl : o.Slots.length ≤ big) (hb : inR o.Bits) : F_R03_obj h o = some (dec (OkObj h.n o)) := by
  unfold F_R03_obj
  unfold big at hl
  obtain ⟨r, e, hr⟩ := iter_all o.Slots (hasB h.n) (S := fun p => s0_R03_obj h.Objs h.Cap h.Last o.Class o.Kind o.Slots o.Text o.Bits o.Hash p) (fun _ => false) (fun k hk => by
    simp only [s0_R03_obj, atI_nat _ k hk]
    rw [if_pos (by omega), if_pos (by omega), w64_id (by omega) (by omega)]
    rw [R03_Has_eq h, ob_some]
    cases hasB h.n o.Slots[k] <;> simp) (by simp [s0_R03_obj])
  rw [e, ob_some]
  cases r with
  | inl b =>
    obtain ⟨h7, k, _, rfl, _⟩ := hr
    rw [sm_inl, dec_false fun k => by
      rw [List.all_eq_true.2 k.slots] at h7; cases h7]
  | inr u =>
    have h7 : o.Slots.all (hasB h.n) = true := hr
    rw [sm_inr]
    simp only [R03_Ref_eq, R03_hash_eq, R02_Canon_eq _ hb, ob_some]
    by_cases h1 : 0 ≤ refI h.n o.Class
    case neg => rw [dec_false fun k => h1 k.cls]; simp [h1]
    by_cases h2 : 0 ≤ o.Kind
    case neg => rw [dec_false fun k => h2 k.kind.1]; simp [h2]
    by_cases h2' : o.Kind ≤ 2
    case neg => rw [dec_false fun k => h2' k.kind.2]; simp [h2']
    by_cases h3 : 0 ≤ o.Hash ∧ o.Hash ≤ 1073741823
    case neg => rw [dec_false fun k => h3 k.hash, decide_eq_false h3]; simp
    by_cases h4 : (o.Slots.length : Int) ≤ 64
    case neg => rw [dec_false fun k => h4 (by have := k.nslots; omega)]; simp [h4]
    by_cases h5 : (o.Text.size : Int) ≤ 64
    case neg => rw [dec_false fun k => h5 (by have := k.ntext; omega)]; simp [h5]
    by_cases h6 : canonF o.Bits = o.Bits
    case neg =>
      rw [dec_false fun k => h6 k.canon]
      have : (canonF o.Bits == o.Bits) = false := by simpa using h6
      simp [this]
    have hiff : OkObj h.n o ↔ ((o.Kind ≠ 0 → o.Slots = []) ∧ (o.Kind ≠ 1 → o.Text = ByteArray.empty) ∧ (o.Kind ≠ 2 → o.Bits = 0)) :=
      ⟨fun k => ⟨k.ptr, k.text, k.bits⟩, fun k => ⟨h1, ⟨h2, h2'⟩, h3, k.1, k.2.1, k.2.2, by omega, by omega, h6, List.all_eq_true.1 h7⟩⟩
    rw [dec_congr hiff, dec_decide, decide_eq_true h3]
    have e0 : ({ data := #[] } : ByteArray) = ByteArray.empty := rfl
    have e1 : (canonF o.Bits == o.Bits) = true := by simpa using h6
    rw [e0, e1]
    simp only [h1, h2, h2', h4, h5, if_true]
    by_cases k0 : o.Kind = 0
    · simp [k0]
      by_cases b1 : o.Text = ByteArray.empty <;> by_cases b2 : o.Bits = 0 <;> simp [b1, b2]
    · by_cases k1 : o.Kind = 1
      · simp [k1]
        by_cases b1 : o.Slots = [] <;> by_cases b2 : o.Bits = 0 <;> simp [b1, b2]
      · have k2 : o.Kind = 2 := by omega
        simp [k2]
        by_cases b1 : o.Slots = [] <;> by_cases b2 : o.Text = ByteArray.empty <;> simp [b1, b2]
/-- All bits are a machine's. -/
def BitsR (h : GHeap) : Prop := ∀ o ∈ h.Objs, inR o.Bits
theorem R03_May_eq (h : GHeap) (hs : Slim h) (hb : BitsR h) : F_R03_May h = some (dec (OkHeap h)) := by
  obtain ⟨hl, hso⟩ := hs
  unfold big at hl
  unfold F_R03_May
  obtain ⟨r, e, hr⟩ := iter_all h.Objs (fun o => dec (OkObj h.n o)) (S := fun p => s0_R03_May h.Objs h.Cap h.Last p) (fun _ => false) (fun k hk => by
    have ho := R03_obj_eq h h.Objs[k] (by have := hso _ (List.getElem_mem hk); omega) (hb _ (List.getElem_mem hk))
    simp only [s0_R03_May, atI_nat _ k hk]
    rw [if_pos (by omega), if_pos (by omega), w64_id (by omega) (by omega)]
    rw [ho, ob_some]
    cases dec (OkObj h.n h.Objs[k]) <;> simp) (by simp [s0_R03_May])
  rw [e, ob_some]
  cases r with
  | inl b =>
    obtain ⟨h5, k, hk, rfl, hf, _⟩ := hr
    rw [sm_inl, dec_false fun ok => by
      rw [show OkObj h.n h.Objs[k] = OkObj h.Objs.length h.Objs[k] from rfl, dec_true (ok.objs _ (List.getElem_mem hk))] at hf; cases hf]
  | inr u =>
    have h5 : h.Objs.all (fun o => dec (OkObj h.n o)) = true := hr
    rw [sm_inr]
    by_cases h1 : 1 ≤ h.Cap
    case neg => rw [if_neg h1, dec_false fun k => h1 k.cap.1]
    by_cases h2 : h.Cap ≤ 256
    case neg => rw [if_pos h1, if_neg h2, dec_false fun k => h2 k.cap.2]
    by_cases h3 : (h.Objs.length : Int) ≤ h.Cap
    case neg => rw [if_pos h1, if_pos h2, if_neg h3, dec_false fun k => h3 k.len]
    rw [if_pos h1, if_pos h2, if_pos h3, R03_hash_eq, ob_some]
    by_cases h4 : 0 ≤ h.Last ∧ h.Last ≤ 1073741823
    case neg => rw [decide_eq_false h4, dec_false fun k => h4 k.last]
    rw [decide_eq_true h4, dec_true ⟨⟨h1, h2⟩, h3, h4, fun o ho => dec_iff.1 (List.all_eq_true.1 h5 o ho)⟩]
noncomputable def stateE (s : GState) : Int := if dec (OkState s) = true then 0 else 150
theorem R15_Check_eq (s : GState) (hs : Slim s.Heap) (hb : BitsR s.Heap) : F_R15_Check s = some (stateE s) := by
  unfold F_R15_Check stateE
  rw [R03_May_eq s.Heap hs hb, ob_some]
  by_cases h0 : OkHeap s.Heap
  case neg => rw [dec_false h0, dec_false fun k => h0 k.heap]; simp
  rw [dec_true h0, if_pos rfl]
  by_cases h1 : (12 : Int) ≤ s.Heap.Objs.length
  case neg => rw [if_neg h1, dec_false fun k => h1 (by have := k.many; omega)]; simp
  rw [if_pos h1, R03_Ref_eq, ob_some]
  by_cases h2 : 0 ≤ refI s.Heap.n s.Proc
  case neg => rw [if_neg h2, dec_false fun k => h2 k.proc]; simp
  rw [if_pos h2, R03_Ref_eq, ob_some]
  by_cases h3 : 0 ≤ refI s.Heap.n s.Ready
  case neg => rw [if_neg h3, dec_false fun k => h3 k.ready]; simp
  rw [if_pos h3]
  by_cases h4 : 0 ≤ s.Halt
  case neg => rw [if_neg h4, dec_false fun k => h4 k.halt.1]; simp
  rw [if_pos h4]
  by_cases h5 : s.Halt ≤ 255
  case neg => rw [if_neg h5, dec_false fun k => h5 k.halt.2]; simp
  rw [if_pos h5]
  by_cases h6 : 0 ≤ s.Steps
  case neg => rw [if_neg h6, dec_false fun k => h6 k.steps.1]; simp
  rw [if_pos h6]
  by_cases h7 : s.Steps ≤ 1099511627776
  case neg => rw [if_neg h7, dec_false fun k => h7 k.steps.2]; simp
  rw [if_pos h7]
  by_cases h8 : 0 ≤ s.Used
  case neg => rw [if_neg h8, dec_false fun k => h8 k.used.1]; simp
  rw [if_pos h8]
  by_cases h9 : 1000 < s.Used
  case pos => rw [if_pos h9, dec_false fun k => by have := k.used.2; omega]; simp
  rw [if_neg h9, dec_true ⟨h0, by omega, h2, h3, ⟨h4, h5⟩, ⟨h6, h7⟩, ⟨h8, by omega⟩⟩]
  simp
end Go.Pv

/- States and checkpoints: the functions in plain words. -/
namespace Go.Pv
theorem iter_allI {β : Type} (n : Nat) (q : Nat → Bool) {S : Int → Option (Int ⊕ β ⊕ Unit)} (R : Nat → β)
    (hS : ∀ (k : Nat), k < n → S (k : Int) = if q k = true then some (.inl ((k + 1 : Nat) : Int)) else some (.inr (.inl (R k)))) (he : S (n : Int) = some (.inr (.inr ()))) :
    ∃ r, iterO S 0 = some r ∧ sm r (fun b => ∃ k, k < n ∧ b = R k ∧ q k = false ∧ ∀ j, j < k → q j = true) fun _ => ∀ k, k < n → q k = true := by
  refine iter_post (S := S) (fun i => n - i.toNat) (fun i => ∃ k : Nat, i = k ∧ k ≤ n ∧ ∀ j, j < k → q j = true) _ (fun i hi => ?_) 0 ⟨0, rfl, Nat.zero_le _, fun j hj => by omega⟩
  obtain ⟨k, rfl, hk, ht⟩ := hi
  rcases Nat.lt_or_ge k n with h | h
  · rw [hS k h]
    by_cases e : q k = true
    · refine .inl ⟨_, if_pos e, ⟨k + 1, rfl, h, fun j hj => ?_⟩, by simp; omega⟩
      by_cases ej : j = k
      · subst ej; exact e
      · exact ht j (by omega)
    · exact .inr ⟨_, if_neg e, k, h, rfl, by simpa using e, ht⟩
  · have : k = n := by omega
    subst this
    exact .inr ⟨_, he, ht⟩
def SlimS (s : GState) : Prop := Slim s.Heap ∧ BitsR s.Heap
def SlimP (p : GPoints) : Prop := p.L.length ≤ big ∧ ∀ s ∈ p.L, SlimS s
theorem shape_there_eq (s : GState) (v : Int) : F_shape_there s v = some (decide (0 ≤ refI s.Heap.n v)) := by
  unfold F_shape_there
  rw [value_At_eq, ob_some, ref_atP]
  unfold GHeap.n
  cases (atP v).2 <;> simp
theorem shape_in_eq (n m : Int) : F_shape_in n m = some (decide (0 ≤ n ∧ n ≤ m)) := by
  unfold F_shape_in
  by_cases h : 0 ≤ n <;> simp [h]
theorem shape_may_eq (s : GState) (hs : Slim s.Heap) : F_shape_may s = some (dec (OkState s)) := by
  unfold F_shape_may
  rw [heap_May_eq s.Heap hs, ob_some]
  by_cases h0 : OkHeap s.Heap
  case neg => rw [dec_false h0, dec_false fun k => h0 k.heap]; simp
  rw [dec_true h0, if_pos rfl]
  by_cases h1 : (12 : Int) ≤ s.Heap.Objs.length
  case neg => rw [if_neg h1, dec_false fun k => h1 (by have := k.many; omega)]
  rw [if_pos h1, shape_there_eq, ob_some]
  by_cases h2 : 0 ≤ refI s.Heap.n s.Proc
  case neg => rw [decide_eq_false h2, dec_false fun k => h2 k.proc]; simp
  rw [decide_eq_true h2, if_pos rfl, shape_there_eq, ob_some]
  by_cases h3 : 0 ≤ refI s.Heap.n s.Ready
  case neg => rw [decide_eq_false h3, dec_false fun k => h3 k.ready]; simp
  rw [decide_eq_true h3, if_pos rfl, shape_in_eq, ob_some]
  by_cases h4 : 0 ≤ s.Halt ∧ s.Halt ≤ 255
  case neg => rw [decide_eq_false h4, dec_false fun k => h4 k.halt]; simp
  rw [decide_eq_true h4, if_pos rfl, shape_in_eq, ob_some]
  by_cases h5 : 0 ≤ s.Steps ∧ s.Steps ≤ 1099511627776
  case neg => rw [decide_eq_false h5, dec_false fun k => h5 k.steps]; simp
  rw [decide_eq_true h5, if_pos rfl, shape_in_eq, ob_some]
  by_cases h6 : 0 ≤ s.Used ∧ s.Used ≤ 1000
  case neg => rw [decide_eq_false h6, dec_false fun k => h6 k.used]
  rw [decide_eq_true h6, dec_true ⟨h0, by omega, h2, h3, h4, h5, h6⟩]
theorem shape_Check_eq (s : GState) (hs : Slim s.Heap) : F_shape_Check s = some (stateE s) := by
  unfold F_shape_Check stateE
  rw [shape_may_eq s hs, ob_some]
  cases dec (OkState s) <;> simp
theorem stateE_zero {s : GState} : stateE s = 0 ↔ OkState s := by
  unfold stateE
  cases h : dec (OkState s) with
  | true => simp [dec_iff.1 h]
  | false =>
    have : ¬ OkState s := fun k => by rw [dec_true k] at h; cases h
    simp [this]
/-- What the i'th of some states must be. -/
noncomputable def goodAt (L : List GState) (k : Nat) : Bool := dec (OkState (atN L k) ∧ (0 < k → (atN L (k - 1)).Steps < (atN L k).Steps))
theorem good_all {L : List GState} : (∀ k, k < L.length → goodAt L k = true) ↔ (∀ s ∈ L, OkState s) ∧ Rising L := by
  constructor
  · intro h
    refine ⟨fun s hs => ?_, (rising_iff L).2 fun i hi => ?_⟩
    · obtain ⟨i, hi, rfl⟩ := List.getElem_of_mem hs
      have := (dec_iff.1 (h i hi)).1
      rwa [atN_get L i hi] at this
    · have := (dec_iff.1 (h (i + 1) hi)).2 (by omega)
      rw [atN_get L (i + 1) hi, Nat.add_sub_cancel, atN_get L i (by omega)] at this
      exact this
  · rintro ⟨h1, h2⟩ k hk
    refine dec_true ⟨by rw [atN_get L k hk]; exact h1 _ (List.getElem_mem hk), fun h0 => ?_⟩
    rw [atN_get L k hk, atN_get L (k - 1) (by omega)]
    have := (rising_iff L).1 h2 (k - 1) (by omega)
    have e : k - 1 + 1 = k := by omega
    simpa only [e] using this
theorem points_may_eq (p : GPoints) (hp : SlimP p) : F_points_may p = some (dec (OkPoints p)) := by
  obtain ⟨hl, hs⟩ := hp
  unfold big at hl
  unfold F_points_may
  by_cases h1 : 1 ≤ p.Every
  case neg => rw [if_neg h1, dec_false fun k => h1 k.every.1]
  by_cases h2 : p.Every ≤ 1000
  case neg => rw [if_pos h1, if_neg h2, dec_false fun k => h2 k.every.2]
  by_cases h3 : 1 ≤ p.Most
  case neg => rw [if_pos h1, if_pos h2, if_neg h3, dec_false fun k => h3 k.most.1]
  by_cases h4 : p.Most ≤ 50
  case neg => rw [if_pos h1, if_pos h2, if_pos h3, if_neg h4, dec_false fun k => h4 k.most.2]
  rw [if_pos h1, if_pos h2, if_pos h3, if_pos h4]
  by_cases h5 : p.Most < p.L.length
  case pos => rw [if_pos h5, dec_false fun k => by have := k.len; omega]
  rw [if_neg h5]
  obtain ⟨r, e, hr⟩ := iter_allI p.L.length (goodAt p.L) (S := fun p_3 => s0_points_may p.L (p.L.length : Int) p.Every p.Most p.L p_3) (fun _ => false) (fun k hk => by
    have hc := shape_Check_eq p.L[k] (hs _ (List.getElem_mem hk)).1
    simp only [s0_points_may, atI_nat _ k hk]
    rw [if_pos (by omega), if_pos (by omega)]
    rw [hc, ob_some]
    unfold goodAt
    rw [atN_get p.L k hk]
    by_cases ho : OkState p.L[k]
    · rw [if_pos (stateE_zero.2 ho)]
      by_cases h0 : 0 < k
      · rw [if_pos (by omega), w64_id (n := (k : Int) - 1) (by omega) (by omega), if_pos (by omega)]
        have e1 : (k : Int) - 1 = ((k - 1 : Nat) : Int) := by omega
        rw [e1, atI_nat _ (k - 1) (by omega), atN_get p.L (k - 1) (by omega)]
        by_cases hlt : p.L[k].Steps ≤ p.L[k - 1].Steps
        · rw [if_pos hlt, dec_false fun g => by have := g.2 h0; omega]; simp
        · rw [if_neg hlt, dec_true ⟨ho, fun _ => by omega⟩, w64_id (by omega) (by omega)]; simp
      · rw [if_neg (by omega), dec_true ⟨ho, fun g => absurd g h0⟩, w64_id (by omega) (by omega)]; simp
    · rw [if_neg (fun g => ho (stateE_zero.1 g)), dec_false fun g => ho g.1]; simp) (by simp [s0_points_may])
  rw [e, ob_some]
  cases r with
  | inl b =>
    obtain ⟨k, hk, rfl, hf, _⟩ := hr
    rw [sm_inl, dec_false fun ok => by
      rw [good_all.2 ⟨ok.ok, ok.rising⟩ k hk] at hf; cases hf]
  | inr u =>
    have h6 := good_all.1 hr
    rw [sm_inr, dec_true ⟨⟨h1, h2⟩, ⟨h3, h4⟩, by omega, h6.1, h6.2⟩]
noncomputable def pointsE (p : GPoints) : Int := if dec (OkPoints p) = true then 0 else 220
theorem points_Check_eq (p : GPoints) (hp : SlimP p) : F_points_Check p = some (pointsE p) := by
  unfold F_points_Check pointsE
  rw [points_may_eq p hp, ob_some]
  cases dec (OkPoints p) <;> simp
theorem R22_Check_eq (p : GPoints) (hp : SlimP p) : F_R22_Check p = some (pointsE p) := by
  obtain ⟨hl, hs⟩ := hp
  unfold big at hl
  unfold F_R22_Check pointsE
  obtain ⟨r, e, hr⟩ := iter_allI p.L.length (goodAt p.L) (S := fun p_3 => s0_R22_Check p.Every p.Most p.L p_3) (fun _ => (220 : Int)) (fun k hk => by
    have hc := R15_Check_eq p.L[k] (hs _ (List.getElem_mem hk)).1 (hs _ (List.getElem_mem hk)).2
    simp only [s0_R22_Check, atI_nat _ k hk]
    rw [if_pos (by omega), if_pos (by omega)]
    rw [hc, ob_some]
    unfold goodAt
    rw [atN_get p.L k hk]
    by_cases ho : OkState p.L[k]
    · rw [if_pos (stateE_zero.2 ho)]
      by_cases h0 : 0 < k
      · rw [if_pos (by omega), w64_id (n := (k : Int) - 1) (by omega) (by omega), if_pos (by omega), if_pos (by omega)]
        have e1 : (k : Int) - 1 = ((k - 1 : Nat) : Int) := by omega
        rw [e1, atI_nat _ (k - 1) (by omega), atN_get p.L (k - 1) (by omega)]
        by_cases hlt : p.L[k].Steps ≤ p.L[k - 1].Steps
        · rw [if_pos hlt, dec_false fun g => by have := g.2 h0; omega]; simp
        · rw [if_neg hlt, dec_true ⟨ho, fun _ => by omega⟩, w64_id (by omega) (by omega)]; simp
      · rw [if_neg (by omega), dec_true ⟨ho, fun g => absurd g h0⟩, w64_id (by omega) (by omega)]; simp
    · rw [if_neg (fun g => ho (stateE_zero.1 g)), dec_false fun g => ho g.1]; simp) (by simp [s0_R22_Check])
  rw [e, ob_some]
  cases r with
  | inl b =>
    obtain ⟨k, hk, rfl, hf, _⟩ := hr
    rw [sm_inl, dec_false fun ok => by
      rw [good_all.2 ⟨ok.ok, ok.rising⟩ k hk] at hf; cases hf]
    simp
  | inr u =>
    have h6 := good_all.1 hr
    rw [sm_inr]
    by_cases h1 : 1 ≤ p.Every
    case neg => rw [if_neg h1, dec_false fun k => h1 k.every.1]; simp
    by_cases h2 : p.Every ≤ 1000
    case neg => rw [if_pos h1, if_neg h2, dec_false fun k => h2 k.every.2]; simp
    by_cases h3 : 1 ≤ p.Most
    case neg => rw [if_pos h1, if_pos h2, if_neg h3, dec_false fun k => h3 k.most.1]; simp
    by_cases h4 : p.Most ≤ 50
    case neg => rw [if_pos h1, if_pos h2, if_pos h3, if_neg h4, dec_false fun k => h4 k.most.2]; simp
    rw [if_pos h1, if_pos h2, if_pos h3, if_pos h4]
    by_cases h5 : p.Most < p.L.length
    case pos => rw [if_pos h5, dec_false fun k => by have := k.len; omega]; simp
    rw [if_neg h5, dec_true ⟨⟨h1, h2⟩, ⟨h3, h4⟩, by omega, h6.1, h6.2⟩]
    simp
theorem pointsE_zero {p : GPoints} : pointsE p = 0 ↔ OkPoints p := by
  unfold pointsE
  cases h : dec (OkPoints p) with
  | true => simp [dec_iff.1 h]
  | false =>
    have : ¬ OkPoints p := fun k => by rw [dec_true k] at h; cases h
    simp [this]
theorem lastI {p : GPoints} (h : 0 < p.L.length) (hl : p.L.length ≤ big) : atI p.L (w64 ((p.L.length : Int) - 1)) = lastS p.L := by
  unfold big at hl
  rw [w64_id (by omega) (by omega)]
  have e : (p.L.length : Int) - 1 = ((p.L.length - 1 : Nat) : Int) := by omega
  rw [e]; rfl
theorem dropped (p : GPoints) (s : GState) (o : OkPoints p) : List.drop (max (w64 ((p.L.length : Int) + 1 - p.Most)) 0).toNat (List.take (p.L.length + 1) (p.L ++ [s])) = (p.L ++ [s]).drop (p.L.length + 1 - p.Most.toNat) := by
  have h1 := o.most
  have h2 := o.len
  rw [w64_id (by omega) (by omega), List.take_of_length_le (by simp)]
  congr 1
  omega
theorem note_tail (p : GPoints) (s : GState) (o : OkPoints p) (h : p.Most < (p.L.length : Int) + 1) : (List.take (p.L.length + 1) (p.L ++ [s])).tail = (p.L ++ [s]).drop (p.L.length + 1 - p.Most.toNat) := by
  have h1 := o.most
  have h2 := o.len
  rw [List.take_of_length_le (by simp), ← List.drop_one]
  congr 1
  omega
theorem note_whole (p : GPoints) (s : GState) (o : OkPoints p) (h : ¬ p.Most < (p.L.length : Int) + 1) : p.L ++ [s] = (p.L ++ [s]).drop (p.L.length + 1 - p.Most.toNat) := by
  have h1 := o.most
  have h2 := o.len
  have : p.L.length + 1 - p.Most.toNat = 0 := by omega
  rw [this]; rfl
theorem points_Note_eq (p : GPoints) (s : GState) (hp : SlimP p) (hs : SlimS s) : F_points_Note p s = some (noteS p s) := by
  unfold F_points_Note noteS
  rw [points_may_eq p hp, ob_some]
  by_cases o : OkPoints p
  case neg => rw [dec_false o, if_neg (by simp), if_neg (show ¬ (OkPoints p ∧ OkState s) from fun h => o h.1)]; rfl
  rw [dec_true o, if_pos rfl, shape_Check_eq s hs.1, ob_some]
  by_cases os : OkState s
  case neg => rw [if_neg (fun h => os (stateE_zero.1 h)), if_neg (show ¬ (OkPoints p ∧ OkState s) from fun h => os h.2)]; rfl
  rw [if_pos (stateE_zero.2 os), if_pos (show OkPoints p ∧ OkState s from ⟨o, os⟩)]
  have h1 := o.most
  have h2 := o.len
  have h3 := o.every
  have fin : (if p.L.length * 80 ≤ most then if (p.L.length + 1) * 80 ≤ most then if 0 ≤ max (w64 ((p.L.length : Int) + 1 - p.Most)) 0 ∧ max (w64 ((p.L.length : Int) + 1 - p.Most)) 0 ≤ (p.L.length : Int) + 1 then
      some (({ Every := p.Every, Most := p.Most, L := List.drop (max (w64 ((p.L.length : Int) + 1 - p.Most)) 0).toNat (List.take (p.L.length + 1) (p.L ++ [s])) } : GPoints), (0 : Int)) else none else none else none) =
      some (⟨p.Every, p.Most, (p.L ++ [s]).drop (p.L.length + 1 - p.Most.toNat)⟩, 0) := by
    rw [if_pos (by unfold most; omega), if_pos (by unfold most; omega), if_pos (by rw [w64_id (by omega) (by omega)]; omega), dropped p s o]
  by_cases hL : p.L = []
  · have h0 : ¬ 0 < p.L.length := by rw [hL]; simp
    rw [if_neg h0, if_neg (show ¬ (p.L ≠ [] ∧ (s.Steps % p.Every ≠ 0 ∨ s.Steps ≤ (lastS p.L).Steps)) from fun h => h.1 hL)]
    exact fin
  · have h0 : 0 < p.L.length := List.length_pos_iff.2 hL
    rw [if_pos h0, if_neg (by omega), Int.tmod_eq_emod_of_nonneg os.steps.1]
    by_cases hm : s.Steps % p.Every = 0
    · rw [if_pos hm, if_pos (by rw [w64_id (by omega) (by omega)]; omega), lastI h0 (by unfold big; omega)]
      by_cases hle : s.Steps ≤ (lastS p.L).Steps
      · rw [if_pos hle, if_pos (show p.L ≠ [] ∧ (s.Steps % p.Every ≠ 0 ∨ s.Steps ≤ (lastS p.L).Steps) from ⟨hL, .inr hle⟩)]
      · rw [if_neg hle, if_neg (show ¬ (p.L ≠ [] ∧ (s.Steps % p.Every ≠ 0 ∨ s.Steps ≤ (lastS p.L).Steps)) from fun h => h.2.elim (fun h => h hm) hle)]
        exact fin
    · rw [if_neg hm, if_pos (show p.L ≠ [] ∧ (s.Steps % p.Every ≠ 0 ∨ s.Steps ≤ (lastS p.L).Steps) from ⟨hL, .inl hm⟩)]
theorem R22_Note_eq (p : GPoints) (s : GState) (hp : SlimP p) (hs : SlimS s) : F_R22_Note p s = some (noteS p s) := by
  unfold F_R22_Note noteS
  rw [R22_Check_eq p hp, ob_some]
  by_cases o : OkPoints p
  case neg => rw [if_neg (fun h => o (pointsE_zero.1 h)), if_neg (show ¬ (OkPoints p ∧ OkState s) from fun h => o h.1)]; rfl
  rw [if_pos (pointsE_zero.2 o), R15_Check_eq s hs.1 hs.2, ob_some]
  by_cases os : OkState s
  case neg => rw [if_neg (fun h => os (stateE_zero.1 h)), if_neg (show ¬ (OkPoints p ∧ OkState s) from fun h => os h.2)]; rfl
  rw [if_pos (stateE_zero.2 os), if_pos (show OkPoints p ∧ OkState s from ⟨o, os⟩)]
  have h1 := o.most
  have h2 := o.len
  have h3 := o.every
  have fin : (if p.L.length * 80 ≤ most then if (p.L.length + 1) * 80 ≤ most then if p.Most < (p.L.length : Int) + 1 then if (1 : Int) ≤ (p.L.length : Int) + 1 then
      some (({ Every := p.Every, Most := p.Most, L := (List.take (p.L.length + 1) (p.L ++ [s])).tail } : GPoints), (0 : Int)) else none else some ({ Every := p.Every, Most := p.Most, L := p.L ++ [s] }, 0) else none else none) =
      some (⟨p.Every, p.Most, (p.L ++ [s]).drop (p.L.length + 1 - p.Most.toNat)⟩, 0) := by
    rw [if_pos (by unfold most; omega), if_pos (by unfold most; omega)]
    by_cases hm : p.Most < (p.L.length : Int) + 1
    · rw [if_pos hm, if_pos (by omega), note_tail p s o hm]
    · rw [if_neg hm, ← note_whole p s o hm]
  by_cases hL : p.L = []
  · have h0 : ¬ 0 < p.L.length := by rw [hL]; simp
    rw [if_neg h0, if_neg (show ¬ (p.L ≠ [] ∧ (s.Steps % p.Every ≠ 0 ∨ s.Steps ≤ (lastS p.L).Steps)) from fun h => h.1 hL)]
    exact fin
  · have h0 : 0 < p.L.length := List.length_pos_iff.2 hL
    rw [if_pos h0, if_neg (by omega), Int.tmod_eq_emod_of_nonneg os.steps.1]
    by_cases hm : s.Steps % p.Every = 0
    · rw [if_pos hm, if_pos (by rw [w64_id (by omega) (by omega)]; omega), lastI h0 (by unfold big; omega)]
      by_cases hle : s.Steps ≤ (lastS p.L).Steps
      · rw [if_pos hle, if_pos (show p.L ≠ [] ∧ (s.Steps % p.Every ≠ 0 ∨ s.Steps ≤ (lastS p.L).Steps) from ⟨hL, .inr hle⟩)]
      · rw [if_neg hle, if_neg (show ¬ (p.L ≠ [] ∧ (s.Steps % p.Every ≠ 0 ∨ s.Steps ≤ (lastS p.L).Steps)) from fun h => h.2.elim (fun h => h hm) hle)]
        exact fin
    · rw [if_neg hm, if_pos (show p.L ≠ [] ∧ (s.Steps % p.Every ≠ 0 ∨ s.Steps ≤ (lastS p.L).Steps) from ⟨hL, .inl hm⟩)]
theorem upTo_eq (p : GPoints) (x : Int) (hr : Rising p.L) (hl : p.L.length ≤ big) : F_points_upTo p x = some (upN p.L x : Int) := by
  unfold big at hl
  unfold F_points_upTo F_slices_IndexFunc_136_u0
  obtain ⟨r, e, h⟩ := iter_allI p.L.length (fun k => decide ((atN p.L k).Steps ≤ x)) (S := fun q => s0_slices_IndexFunc_136_u0 p.L (p.L.length : Int) p.Every p.Most p.L x q) (fun k => (k : Int)) (fun k hk => by
    simp only [s0_slices_IndexFunc_136_u0, F_points_upTo_1_u0, atI_nat _ k hk, ob_some, atN_get p.L k hk]
    rw [if_pos (by omega), if_pos (by omega), w64_id (by omega) (by omega)]
    by_cases hx : p.L[k].Steps ≤ x
    · have : ¬ x < p.L[k].Steps := by omega
      simp [hx, this]
    · have : x < p.L[k].Steps := by omega
      simp [hx, this]) (by simp [s0_slices_IndexFunc_136_u0])
  rw [e, ob_some]
  have eq : ∀ m : Nat, m ≤ p.L.length → (∀ j, j < m → (atN p.L j).Steps ≤ x) → (m < p.L.length → ¬ (atN p.L m).Steps ≤ x) → upN p.L x = m := fun m hm h1 h2 => by
    rcases Nat.lt_trichotomy (upN p.L x) m with h | h | h
    · have hj := h1 _ h
      rw [atN_get p.L _ (by omega)] at hj
      have := (upN_get hr (upN p.L x) (by omega)).2 hj
      omega
    · exact h
    · have hle := upN_le p.L x
      have := (upN_get hr m (by omega)).1 h
      have h3 := h2 (by omega)
      rw [atN_get p.L m (by omega)] at h3
      exact absurd this h3
  cases r with
  | inl b =>
    obtain ⟨k, hk, rfl, hf, hall⟩ := h
    rw [sm_inl, ob_some, if_neg (by omega), eq k (by omega) (fun j hj => by simpa using hall j hj) (fun _ => by simpa using hf)]
  | inr u =>
    have hall : ∀ k, k < p.L.length → decide ((atN p.L k).Steps ≤ x) = true := h
    rw [sm_inr, ob_some, if_pos (by omega), eq p.L.length (Nat.le_refl _) (fun j hj => by simpa using hall j hj) (fun h => by omega)]
theorem points_Best_eq (p : GPoints) (x : Int) (hp : SlimP p) : F_points_Best p x = some (bestS p x) := by
  have hl := hp.1
  unfold F_points_Best bestS
  rw [points_may_eq p hp, ob_some]
  by_cases o : OkPoints p
  case neg => rw [dec_false o, if_pos rfl, if_neg o]; rfl
  have hu := upN_le p.L x
  unfold big at hl
  rw [dec_true o, if_neg (by simp), if_pos o, upTo_eq p x o.rising hp.1, ob_some]
  by_cases h0 : upN p.L x = 0
  · rw [if_pos (by omega), if_pos h0]; rfl
  · rw [if_neg (by omega), if_neg h0, w64_id (by omega) (by omega), if_pos (by omega)]
    have e : (upN p.L x : Int) - 1 = ((upN p.L x - 1 : Nat) : Int) := by omega
    rw [e]; rfl
theorem points_Cut_eq (p : GPoints) (x : Int) (hp : SlimP p) : F_points_Cut p x = some (cutS p x) := by
  have hl := hp.1
  unfold F_points_Cut cutS
  rw [points_may_eq p hp, ob_some]
  by_cases o : OkPoints p
  case neg => rw [dec_false o, if_pos rfl, if_neg o]; rfl
  have hu := upN_le p.L x
  unfold big at hl
  rw [dec_true o, if_neg (by simp), if_pos o, upTo_eq p x o.rising hp.1, ob_some, if_pos (by omega), if_pos (by unfold most; omega)]
  simp
theorem R22_Best_eq (p : GPoints) (x : Int) (hp : SlimP p) : F_R22_Best p x = some (bestS p x) := by
  have hl := hp.1
  unfold F_R22_Best bestS
  rw [R22_Check_eq p hp, ob_some]
  by_cases o : OkPoints p
  case neg => rw [if_neg (fun h => o (pointsE_zero.1 h)), if_neg o]; rfl
  have hu := upN_le p.L x
  unfold big at hl
  rw [if_pos (pointsE_zero.2 o), if_pos o, w64_id (by omega) (by omega)]
  obtain ⟨r, e, h⟩ := iter_post (S := fun q => s0_R22_Best x p.Every p.Most p.L [] 0 0 0 0 0 0 0 q) (fun i => (i + 1).toNat) (fun i => ∃ k : Nat, i = (k : Int) - 1 ∧ k ≤ p.L.length ∧ upN p.L x ≤ k)
    (fun r => sm r (fun a => upN p.L x ≠ 0 ∧ a = ((0 : Int), (atN p.L (upN p.L x - 1)).Heap.Objs, (atN p.L (upN p.L x - 1)).Heap.Cap, (atN p.L (upN p.L x - 1)).Heap.Last, (atN p.L (upN p.L x - 1)).Proc, (atN p.L (upN p.L x - 1)).Ready, (atN p.L (upN p.L x - 1)).Halt, (atN p.L (upN p.L x - 1)).Steps, (atN p.L (upN p.L x - 1)).Used)) fun _ => upN p.L x = 0) (fun i hi => by
      obtain ⟨k, rfl, hk, hle⟩ := hi
      by_cases hk0 : k = 0
      · subst hk0
        exact .inr ⟨.inr (), by simp [s0_R22_Best], by rw [sm_inr]; omega⟩
      · have e1 : (k : Int) - 1 = ((k - 1 : Nat) : Int) := by omega
        have hk1 : k - 1 < p.L.length := by omega
        rw [e1]
        by_cases hs : p.L[k - 1].Steps ≤ x
        · have hlt := (upN_get o.rising (k - 1) hk1).2 hs
          have he : upN p.L x - 1 = k - 1 := by omega
          refine .inr ⟨_, by
            simp only [s0_R22_Best, atI_nat _ (k - 1) hk1]
            rw [if_pos (by omega), if_pos (by omega), if_pos hs, if_pos (by omega)], ?_⟩
          rw [sm_inl, he, atN_get p.L (k - 1) hk1]
          exact ⟨by omega, rfl⟩
        · have hlt : ¬ k - 1 < upN p.L x := fun h => hs ((upN_get o.rising (k - 1) hk1).1 h)
          refine .inl ⟨(k - 1 : Nat) - 1, by
            simp only [s0_R22_Best, atI_nat _ (k - 1) hk1]
            rw [if_pos (by omega), if_pos (by omega), if_neg hs, w64_id (by omega) (by omega)], ⟨k - 1, rfl, by omega, by omega⟩, by omega⟩) ((p.L.length : Int) - 1) ⟨p.L.length, rfl, Nat.le_refl _, hu⟩
  rw [e, ob_some]
  cases r with
  | inl a =>
    obtain ⟨h0, rfl⟩ := h
    rw [sm_inl, if_neg h0]
  | inr u =>
    have h0 : upN p.L x = 0 := h
    rw [sm_inr, if_pos h0]; rfl
theorem R22_Cut_eq (p : GPoints) (x : Int) (hp : SlimP p) : F_R22_Cut p x = some (cutS p x) := by
  have hl := hp.1
  unfold F_R22_Cut cutS
  rw [R22_Check_eq p hp, ob_some]
  by_cases o : OkPoints p
  case neg => rw [if_neg (fun h => o (pointsE_zero.1 h)), if_neg o]; rfl
  unfold big at hl
  rw [if_pos (pointsE_zero.2 o), if_pos o, ← upN_filter o.rising]
  have := iter_acc (S := fun q : List GState × Int => s0_R22_Cut x p.Every p.Most p.L 0 0 [] q.fst q.snd) (fun k => ((p.L.take k).filter (fun s => decide (s.Steps ≤ x)), (k : Int))) p.L.length (b := p.L.filter (fun s => decide (s.Steps ≤ x))) (fun k hk => by
    have hlen : ((p.L.take k).filter (fun s => decide (s.Steps ≤ x))).length ≤ k := Nat.le_trans (List.length_filter_le _ _) (by rw [List.length_take]; omega)
    simp only [s0_R22_Cut, atI_nat _ k hk]
    rw [if_pos (by omega), if_pos (by omega), w64_id (by omega) (by omega), List.take_succ_eq_append_getElem hk, List.filter_append]
    by_cases hs : p.L[k].Steps ≤ x
    · rw [if_pos hs, if_pos (by omega), if_pos (by unfold most; omega)]
      simp [hs]
    · rw [if_neg hs]
      simp [hs]) (by simp [s0_R22_Cut])
  have this' : iterO (fun q : List GState × Int => s0_R22_Cut x p.Every p.Most p.L 0 0 [] q.fst q.snd) ([], (0 : Int)) = some (p.L.filter (fun s => decide (s.Steps ≤ x))) := by simpa using this
  rw [this', ob_some]
end Go.Pv

/- States and checkpoints: what is the same; few and small ones. -/
namespace Go.Pv
theorem obj_ext (a b : GObj) : a = b ↔ a.Class = b.Class ∧ a.Kind = b.Kind ∧ a.Text = b.Text ∧ a.Bits = b.Bits ∧ a.Hash = b.Hash ∧ a.Slots = b.Slots := by
  cases a; cases b
  simp only [GObj.mk.injEq]
  constructor
  · rintro ⟨h1, h2, h3, h4, h5, h6⟩; exact ⟨h1, h2, h4, h5, h6, h3⟩
  · rintro ⟨h1, h2, h4, h5, h6, h3⟩; exact ⟨h1, h2, h3, h4, h5, h6⟩
theorem R03_One_eq (a b : GObj) (h : a.Slots.length ≤ big) : F_R03_One a b = some (decide (a = b)) := by
  unfold big at h
  unfold F_R03_One
  by_cases e1 : a.Class = b.Class
  case neg => simp [e1, obj_ext]
  by_cases e2 : a.Kind = b.Kind
  case neg => simp [e2, obj_ext]
  by_cases e3 : a.Text = b.Text
  case neg => simp [e3, obj_ext]
  by_cases e4 : a.Bits = b.Bits
  case neg => simp [e4, obj_ext]
  by_cases e5 : a.Hash = b.Hash
  case neg => simp [e5, obj_ext]
  by_cases e6 : (a.Slots.length : Int) = b.Slots.length
  case neg =>
    have : a.Slots ≠ b.Slots := fun e => e6 (by rw [e])
    simp [e6, obj_ext, this]
  simp only [if_pos e1, if_pos e2, if_pos e3, if_pos e4, if_pos e5, if_pos e6]
  rw [iter_same (a := a.Slots) (b := b.Slots) (by omega)]
  · simp [obj_ext, e1, e2, e3, e4, e5]
  · intro k h1 h2
    simp only [s0_R03_One, atI_nat _ k h1, atI_nat _ k h2]
    rw [if_pos (by omega), if_pos (by omega), if_pos (by omega)]
    rw [w64_id (by omega) (by omega)]; rfl
  · simp [s0_R03_One]
theorem heap_ext (a b : GHeap) : a = b ↔ a.Cap = b.Cap ∧ a.Last = b.Last ∧ a.Objs = b.Objs := by
  cases a; cases b
  simp only [GHeap.mk.injEq]
  constructor
  · rintro ⟨h1, h2, h3⟩; exact ⟨h2, h3, h1⟩
  · rintro ⟨h2, h3, h1⟩; exact ⟨h1, h2, h3⟩
theorem R03_Same_eq (a b : GHeap) (h : Slim a) : F_R03_Same a b = some (decide (a = b)) := by
  obtain ⟨hl, hs⟩ := h
  unfold big at hl
  unfold F_R03_Same
  by_cases e1 : a.Cap = b.Cap
  case neg => simp [e1, heap_ext]
  by_cases e2 : a.Last = b.Last
  case neg => simp [e2, heap_ext]
  by_cases e3 : (a.Objs.length : Int) = b.Objs.length
  case neg =>
    have : a.Objs ≠ b.Objs := fun e => e3 (by rw [e])
    simp [e3, heap_ext, this]
  rw [if_pos e1, if_pos e2, if_pos e3, iter_same (a := a.Objs) (b := b.Objs) (by omega)]
  · simp [heap_ext, e1, e2]
  · intro k h1 h2
    have ho := R03_One_eq a.Objs[k] b.Objs[k] (by have := hs _ (List.getElem_mem h1); omega)
    simp only [s0_R03_Same, atI_nat _ k h1, atI_nat _ k h2]
    rw [if_pos (by omega), if_pos (by omega), if_pos (by omega), w64_id (by omega) (by omega), ho, ob_some]
    by_cases e : a.Objs[k] = b.Objs[k] <;> simp [e]
  · simp [s0_R03_Same]
theorem state_ext (a b : GState) : a = b ↔ a.Heap = b.Heap ∧ a.Proc = b.Proc ∧ a.Ready = b.Ready ∧ a.Halt = b.Halt ∧ a.Steps = b.Steps ∧ a.Used = b.Used := by
  cases a; cases b; simp
theorem R15_One_eq (a b : GState) (h : Slim a.Heap) : F_R15_One a b = some (decide (a = b)) := by
  unfold F_R15_One
  rw [R03_Same_eq a.Heap b.Heap h, ob_some]
  by_cases e0 : a.Heap = b.Heap
  case neg => simp [e0, state_ext]
  by_cases e1 : a.Proc = b.Proc
  case neg => simp [e1, state_ext]
  by_cases e2 : a.Ready = b.Ready
  case neg => simp [e2, state_ext]
  by_cases e3 : a.Halt = b.Halt
  case neg => simp [e3, state_ext]
  by_cases e4 : a.Steps = b.Steps
  case neg => simp [e4, state_ext]
  by_cases e5 : a.Used = b.Used <;> simp [e0, e1, e2, e3, e4, e5, state_ext]
theorem points_ext (a b : GPoints) : a = b ↔ a.Every = b.Every ∧ a.Most = b.Most ∧ a.L = b.L := by
  cases a; cases b; simp
theorem R22_Same_eq (a b : GPoints) (h : SlimP a) : F_R22_Same a b = some (decide (a = b)) := by
  obtain ⟨hl, hs⟩ := h
  unfold big at hl
  unfold F_R22_Same
  by_cases e1 : a.Every = b.Every
  case neg => simp [e1, points_ext]
  by_cases e2 : a.Most = b.Most
  case neg => simp [e2, points_ext]
  by_cases e3 : (a.L.length : Int) = b.L.length
  case neg =>
    have : a.L ≠ b.L := fun e => e3 (by rw [e])
    simp [e3, points_ext, this]
  rw [if_pos e1, if_pos e2, if_pos e3, iter_same (a := a.L) (b := b.L) (by omega)]
  · simp [points_ext, e1, e2]
  · intro k h1 h2
    have ho := R15_One_eq a.L[k] b.L[k] (hs _ (List.getElem_mem h1)).1
    simp only [s0_R22_Same, atI_nat _ k h1, atI_nat _ k h2]
    rw [if_pos (by omega), if_pos (by omega), if_pos (by omega), w64_id (by omega) (by omega), ho, ob_some]
    by_cases e : a.L[k] = b.L[k] <;> simp [e]
  · simp [s0_R22_Same]
theorem R03_Small_ex (h : GHeap) (hl : h.Objs.length ≤ big) : ∃ b, F_R03_Small h = some b := by
  unfold big at hl
  unfold F_R03_Small
  obtain ⟨r, e, _⟩ := iter_post (S := fun p : Int × Int => s0_R03_Small h.Objs h.Cap h.Last p.fst p.snd) (fun p => h.Objs.length - p.2.toNat) (fun p => ∃ k : Nat, p.2 = k ∧ k ≤ h.Objs.length) (fun _ => True) (fun p hp => by
    obtain ⟨n, i⟩ := p
    obtain ⟨k, hk, hle⟩ := hp
    simp only at hk
    subst hk
    simp only [s0_R03_Small]
    by_cases h1 : (k : Int) < h.Objs.length
    · rw [if_pos h1]
      by_cases h2 : n < 5000
      · rw [if_pos h2, if_pos (by omega), if_pos (by omega), w64_id (n := (k : Int) + 1) (by omega) (by omega)]
        exact .inl ⟨_, rfl, ⟨k + 1, rfl, by omega⟩, by simp; omega⟩
      · rw [if_neg h2]; exact .inr ⟨_, rfl, trivial⟩
    · rw [if_neg h1]; exact .inr ⟨_, rfl, trivial⟩) ((0 : Int), (0 : Int)) ⟨0, rfl, Nat.zero_le _⟩
  rw [e, ob_some]
  split <;> exact ⟨_, rfl⟩
theorem R22_Small_ex (p : GPoints) (h : SlimP p) : ∃ b, F_R22_Small p = some b := by
  obtain ⟨hl, hs⟩ := h
  unfold big at hl
  unfold F_R22_Small
  obtain ⟨r, e, _⟩ := iter_post (S := fun q : Int => s0_R22_Small p.Every p.Most p.L q) (fun q => p.L.length - q.toNat) (fun q => ∃ k : Nat, q = k ∧ k ≤ p.L.length) (fun _ => True) (fun q hq => by
    obtain ⟨k, rfl, hle⟩ := hq
    by_cases h1 : k < p.L.length
    · obtain ⟨b, hb⟩ := R03_Small_ex p.L[k].Heap (hs _ (List.getElem_mem h1)).1.1
      simp only [s0_R22_Small, atI_nat _ k h1]
      rw [if_pos (by omega), if_pos (by omega), hb, ob_some]
      cases b with
      | false => exact .inr ⟨_, if_neg (by simp), trivial⟩
      | true =>
        rw [if_pos rfl, if_pos (by omega), w64_id (by omega) (by omega)]
        split
        · exact .inr ⟨_, rfl, trivial⟩
        · exact .inl ⟨_, rfl, ⟨k + 1, rfl, by omega⟩, by simp; omega⟩
    · simp only [s0_R22_Small]
      rw [if_neg (by omega)]
      exact .inr ⟨_, rfl, trivial⟩) (0 : Int) ⟨0, rfl, Nat.zero_le _⟩
  rw [e, ob_some]
  cases r with
  | inl b => exact ⟨_, rfl⟩
  | inr u => exact ⟨_, rfl⟩
/-! ### what is noted, found and cut stays small -/
theorem zero_slimP : SlimP GPoints.zero := ⟨by simp [GPoints.zero], by simp [GPoints.zero]⟩
theorem zero_slimS : SlimS GState.zero := ⟨⟨by simp [GState.zero], by simp [GState.zero]⟩, by simp [BitsR, GState.zero]⟩
theorem noteS_slim {p : GPoints} {s : GState} (hp : SlimP p) (hs : SlimS s) : SlimP (noteS p s).1 := by
  unfold noteS
  split
  · rename_i o
    split
    · exact hp
    · have h1 := o.1.len
      have h2 := o.1.most
      refine ⟨by simp only [List.length_drop, List.length_append, List.length_cons, List.length_nil]; unfold big; omega, fun t ht => ?_⟩
      rcases List.mem_append.1 (List.mem_of_mem_drop ht) with ht | ht
      · exact hp.2 t ht
      · simp only [List.mem_singleton] at ht; subst ht; exact hs
  · exact zero_slimP
theorem cutS_slim {p : GPoints} (hp : SlimP p) (x : Int) : SlimP (cutS p x).1 := by
  unfold cutS
  split
  · exact ⟨by have := hp.1; simp only [List.length_take]; omega, fun t ht => hp.2 t (List.mem_of_mem_take ht)⟩
  · exact zero_slimP
theorem bestS_slim {p : GPoints} (hp : SlimP p) (x : Int) : SlimS (bestS p x).1 := by
  unfold bestS
  split
  · split
    · exact zero_slimS
    · rename_i h
      have := upN_le p.L x
      exact hp.2 _ (atN_mem (by omega))
  · exact zero_slimS
end Go.Pv

/- Checkpoints of states noted one by one; the fixed calls. -/
namespace Go.Pv
def obj0 : GObj := ⟨0, 0, [], ByteArray.empty, 0, 0⟩
/-- A state of twelve objects, behind so many steps. -/
def stAt (n : Int) : GState := ⟨⟨List.replicate 12 obj0, 20, 0⟩, 0, 0, 0, n, 0⟩
theorem obj0_ok : OkObj 12 obj0 := by
  refine ⟨by decide, by decide, by decide, fun _ => rfl, fun _ => rfl, fun _ => rfl, by decide, by decide, ?_, fun v hv => by cases hv⟩
  show canonF 0 = 0
  unfold canonF nanB
  rw [w64_id (by omega) (by omega)]
  decide
theorem stAt_ok {n : Int} (h : 0 ≤ n ∧ n ≤ 1099511627776) : OkState (stAt n) := by
  refine ⟨⟨by simp [stAt], by simp [stAt], by simp [stAt], fun o ho => ?_⟩, by simp [stAt], by simp only [stAt, GHeap.n, List.length_replicate]; decide, by simp only [stAt, GHeap.n, List.length_replicate]; decide, by simp [stAt], h, by simp [stAt]⟩
  have : o = obj0 := List.eq_of_mem_replicate ho
  subst this
  have e : (stAt n).Heap.Objs.length = 12 := by simp [stAt]
  rw [e]; exact obj0_ok
theorem stAt_slim (n : Int) : SlimS (stAt n) := by
  refine ⟨⟨by simp [stAt, big], fun o ho => ?_⟩, fun o ho => ?_⟩
  · have : o = obj0 := List.eq_of_mem_replicate ho
    subst this
    decide
  · have : o = obj0 := List.eq_of_mem_replicate ho
    subst this
    exact ⟨by decide, by decide⟩
theorem L22_at_eq (n : Int) : F_L22_at n = some (stAt n) := by
  unfold F_L22_at
  have := iter_acc (S := fun p : Int × List GObj => s0_L22_at [] 0 0 0 0 0 0 0 20 0 0 0 0 n 0 p.fst p.snd) (fun k => ((k : Int), List.replicate k obj0)) 12 (b := List.replicate 12 obj0) (fun k hk => by
    simp only [s0_L22_at]
    rw [if_pos (by omega), if_pos (by rw [List.length_replicate]; unfold most; omega), w64_id (by omega) (by omega), List.replicate_succ']
    rfl) (by simp [s0_L22_at])
  have this' : iterO (fun p : Int × List GObj => s0_L22_at [] 0 0 0 0 0 0 0 20 0 0 0 0 n 0 p.fst p.snd) ((0 : Int), []) = some (List.replicate 12 obj0) := this
  rw [this', ob_some]
  rfl
/-- The steps that are kept: the first one, and each one by so many. -/
def kept (every : Int) : List Int → List Int
  | [] => []
  | x :: r => x :: r.filter fun y => decide (y % every = 0)
def lastN {α : Type} (m : Nat) (K : List α) : List α := K.drop (K.length - m)
theorem lastN_len {α : Type} (m : Nat) (K : List α) : (lastN m K).length = min m K.length := by
  unfold lastN; rw [List.length_drop]; omega
theorem lastN_snoc {α : Type} {m : Nat} (hm : 1 ≤ m) (K : List α) (x : α) : (lastN m K ++ [x]).drop ((lastN m K).length + 1 - m) = lastN m (K ++ [x]) := by
  have hl : (K ++ [x]).length = K.length + 1 := by simp
  rw [lastN_len]
  unfold lastN
  rw [hl]
  rcases Nat.lt_or_ge K.length m with h | h
  · have e1 : K.length - m = 0 := by omega
    have e2 : min m K.length + 1 - m = 0 := by omega
    have e3 : K.length + 1 - m = 0 := by omega
    rw [e1, e2, e3]; rfl
  · have e2 : min m K.length + 1 - m = 1 := by omega
    have e3 : K.length + 1 - m = K.length - m + 1 := by omega
    have e4 : (K ++ [x]).drop (K.length - m) = K.drop (K.length - m) ++ [x] := List.drop_append_of_le_length (by omega)
    rw [e2, e3, ← List.drop_drop, e4]
theorem kept_snoc (every : Int) (l : List Int) (x : Int) (h : l ≠ []) : kept every (l ++ [x]) = if x % every = 0 then kept every l ++ [x] else kept every l := by
  cases l with
  | nil => exact absurd rfl h
  | cons a r =>
    simp only [List.cons_append, kept, List.filter_append]
    by_cases hx : x % every = 0
    · simp [hx]
    · simp [hx]
theorem kept_mem {every x : Int} {l : List Int} (h : x ∈ kept every l) : x ∈ l := by
  cases l with
  | nil => exact h
  | cons a r =>
    rcases List.mem_cons.1 h with rfl | h
    · exact List.mem_cons_self ..
    · exact List.mem_cons_of_mem _ ((List.mem_filter.1 h).1)
def notedP (every : Int) (most : Nat) (l : List Int) : GPoints := ⟨every, most, (lastN most (kept every l)).map stAt⟩
theorem notedP_slim (every : Int) (most : Nat) (l : List Int) (hm : most ≤ 50) : SlimP (notedP every most l) := by
  refine ⟨by simp only [notedP, List.length_map, lastN_len]; unfold big; omega, fun s hs => ?_⟩
  obtain ⟨n, _, rfl⟩ := List.mem_map.1 hs
  exact stAt_slim n
/-- Another one is noted. -/
theorem noted_step {every : Int} {most : Nat} (_he : 1 ≤ every ∧ every ≤ 1000) (hm : 1 ≤ most ∧ most ≤ 50) {l : List Int} {x : Int} (hx : 0 ≤ x ∧ x ≤ 1000000) (hl : ∀ y ∈ l, y < x) (o : OkPoints (notedP every most l)) :
    noteS (notedP every most l) (stAt x) = (notedP every most (l ++ [x]), 0) ∧ OkPoints (notedP every most (l ++ [x])) := by
  have os : OkState (stAt x) := stAt_ok ⟨hx.1, by omega⟩
  have key : noteS (notedP every most l) (stAt x) = (notedP every most (l ++ [x]), 0) := by
    unfold noteS
    rw [if_pos ⟨o, os⟩]
    cases l with
    | nil =>
      have hnil : (notedP every most []).L = [] := by simp [notedP, lastN, kept]
      rw [if_neg (fun h => h.1 hnil)]
      have e : ((notedP every most []).L ++ [stAt x]).drop ((notedP every most []).L.length + 1 - (notedP every most []).Most.toNat) = [stAt x] := by
        rw [hnil]
        show ([] ++ [stAt x]).drop (0 + 1 - ((most : Int)).toNat) = _
        have : 0 + 1 - ((most : Int)).toNat = 0 := by omega
        rw [this]; rfl
      rw [e]
      have e2 : lastN most (kept every ([] ++ [x])) = [x] := by
        show lastN most [x] = [x]
        unfold lastN
        have : [x].length - most = 0 := by simp; omega
        rw [this]; rfl
      simp only [notedP, e2]
      rfl
    | cons a r =>
      have hne : (notedP every most (a :: r)).L ≠ [] := by
        intro e
        have := congrArg List.length e
        simp only [notedP, List.length_map, lastN_len, kept, List.length_cons, List.length_nil] at this
        omega
      have hlast : ¬ (stAt x).Steps ≤ (lastS (notedP every most (a :: r)).L).Steps := by
        rw [lastS_get hne]
        have hmem := List.getLast_mem hne
        obtain ⟨y, hy, e⟩ := List.mem_map.1 hmem
        have hy2 : y ∈ a :: r := kept_mem (List.mem_of_mem_drop hy)
        rw [← e]
        have := hl y hy2
        show ¬ x ≤ y
        omega
      have hs := kept_snoc every (a :: r) x (by simp)
      by_cases h0 : x % every = 0
      · have hN : ¬ ((notedP every most (a :: r)).L ≠ [] ∧ ((stAt x).Steps % (notedP every most (a :: r)).Every ≠ 0 ∨ (stAt x).Steps ≤ (lastS (notedP every most (a :: r)).L).Steps)) := fun h => h.2.elim (fun h => h h0) hlast
        rw [if_neg hN]
        rw [if_pos h0] at hs
        have := lastN_snoc hm.1 (kept every (a :: r)) x
        simp only [notedP, hs, ← this, List.map_drop, List.map_append, List.length_map, List.map_cons, List.map_nil, Int.toNat_natCast]
      · rw [if_pos ⟨hne, .inl h0⟩]
        rw [if_neg h0] at hs
        simp only [notedP, hs]
  refine ⟨key, ?_⟩
  have := (noteS_ok o os).1
  rw [key] at this
  exact this
theorem noted_nil {every : Int} {most : Nat} (he : 1 ≤ every ∧ every ≤ 1000) (hm : 1 ≤ most ∧ most ≤ 50) : OkPoints (notedP every most []) :=
  ⟨he, by simp only [notedP]; omega, by simp [notedP, lastN, kept], by simp [notedP, lastN, kept], by simp [notedP, lastN, kept, Rising]⟩
/-- Steps that rise, noted one by one. -/
theorem noted_ok {every : Int} {most : Nat} (he : 1 ≤ every ∧ every ≤ 1000) (hm : 1 ≤ most ∧ most ≤ 50) (l : List Int) (h0 : ∀ y ∈ l, 0 ≤ y ∧ y ≤ 1000000) (hr : l.Pairwise (· < ·)) : ∀ k, k ≤ l.length → OkPoints (notedP every most (l.take k)) := by
  intro k
  induction k with
  | zero => exact fun _ => noted_nil he hm
  | succ k ih =>
    intro hk
    rw [List.take_succ_eq_append_getElem hk]
    refine (noted_step he hm (h0 _ (List.getElem_mem hk)) (fun y hy => ?_) (ih (by omega))).2
    obtain ⟨j, hj, rfl⟩ := List.getElem_of_mem hy
    rw [List.length_take] at hj
    rw [List.getElem_take]
    exact List.pairwise_iff_getElem.1 hr j k (by omega) hk (by omega)
theorem noted_next {every : Int} {most : Nat} (he : 1 ≤ every ∧ every ≤ 1000) (hm : 1 ≤ most ∧ most ≤ 50) (l : List Int) (h0 : ∀ y ∈ l, 0 ≤ y ∧ y ≤ 1000000) (hr : l.Pairwise (· < ·)) (k : Nat) (hk : k < l.length) :
    noteS (notedP every most (l.take k)) (stAt l[k]) = (notedP every most (l.take (k + 1)), 0) := by
  rw [List.take_succ_eq_append_getElem hk]
  refine (noted_step he hm (h0 _ (List.getElem_mem hk)) (fun y hy => ?_) (noted_ok he hm l h0 hr k (by omega))).1
  obtain ⟨j, hj, rfl⟩ := List.getElem_of_mem hy
  rw [List.length_take] at hj
  rw [List.getElem_take]
  exact List.pairwise_iff_getElem.1 hr j k (by omega) hk (by omega)
def ten : List Int := [0, 1, 2, 3, 4, 5, 6, 7, 8, 9, 10]
theorem ten_get (k : Nat) (h : k < ten.length) : ten[k] = (k : Int) := by
  have h' : k < 11 := h
  match k, h' with
  | 0, _ | 1, _ | 2, _ | 3, _ | 4, _ | 5, _ | 6, _ | 7, _ | 8, _ | 9, _ | 10, _ => rfl
theorem points_fixed : F_L22_fixed = some true := by
  unfold F_L22_fixed
  have h0 : ∀ y ∈ ten, 0 ≤ y ∧ y ≤ 1000000 := by decide
  have hr : ten.Pairwise (· < ·) := by decide
  have he : (1 : Int) ≤ 5 ∧ (5 : Int) ≤ 1000 := by decide
  have hm : 1 ≤ 2 ∧ 2 ≤ 50 := by decide
  have first := iter_acc (S := fun p : Int × Int × Int × List GState => s0_L22_fixed p.fst p.snd.fst p.snd.snd.fst p.snd.snd.snd) (fun k => ((k : Int), (5 : Int), (2 : Int), (notedP 5 2 (ten.take k)).L)) 11
    (b := .inr ((5 : Int), (2 : Int), (notedP 5 2 ten).L)) (fun k hk => by
      have hk' : k < ten.length := hk
      have hn := points_Note_eq (notedP 5 2 (ten.take k)) (stAt (k : Int)) (notedP_slim _ _ _ (by omega)) (stAt_slim _)
      have hs := noted_next he hm ten h0 hr k hk'
      rw [ten_get k hk'] at hs
      rw [hs] at hn
      simp only [s0_L22_fixed]
      rw [if_pos (by omega), L22_at_eq, ob_some]
      have hn' : F_points_Note { Every := 5, Most := 2, L := (notedP 5 2 (ten.take k)).L } (stAt (k : Int)) = some (notedP 5 2 (ten.take (k + 1)), 0) := hn
      rw [hn', ob_some, if_pos rfl, w64_id (by omega) (by omega)]
      rfl) (by
      simp only [s0_L22_fixed]
      rw [if_neg (by omega)]
      rfl)
  have e0 : (notedP 5 2 (ten.take 0)).L = [] := rfl
  rw [e0] at first
  have first' : iterO (fun p : Int × Int × Int × List GState => s0_L22_fixed p.fst p.snd.fst p.snd.snd.fst p.snd.snd.snd) ((0 : Int), (5 : Int), (2 : Int), []) = some (.inr ((5 : Int), (2 : Int), (notedP 5 2 ten).L)) := first
  rw [first', ob_some]
  simp only [sm_inr]
  have eL : (notedP 5 2 ten).L = [stAt 5, stAt 10] := rfl
  have ok := noted_ok he hm ten h0 hr 11 (Nat.le_refl _)
  have eT : ten.take 11 = ten := rfl
  rw [eT] at ok
  have eP : ({ Every := 5, Most := 2, L := (notedP 5 2 ten).L } : GPoints) = notedP 5 2 ten := rfl
  have sl := notedP_slim 5 2 ten (by omega)
  have u9 : upN (notedP 5 2 ten).L 9 = 1 := rfl
  have u4 : upN (notedP 5 2 ten).L 4 = 0 := rfl
  have hb9 : bestS (notedP 5 2 ten) 9 = (stAt 5, 0) := by
    unfold bestS
    rw [if_pos ok, if_neg (by rw [u9]; decide), u9]; rfl
  have hb4 : bestS (notedP 5 2 ten) 4 = (GState.zero, 201) := by
    unfold bestS
    rw [if_pos ok, if_pos u4]
  have hc9 : cutS (notedP 5 2 ten) 9 = (⟨5, 2, [stAt 5]⟩, 0) := by
    unfold cutS
    rw [if_pos ok, u9]; rfl
  have hbad : ∀ q : GPoints, q.Every = 0 → ¬ OkPoints q := fun q h k => by have := k.every; omega
  have hn0 : noteS ⟨0, 0, nl GState⟩ (stAt 0) = (GPoints.zero, 220) := by
    unfold noteS
    rw [if_neg (fun h => hbad _ rfl h.1)]
  have hk : pointsE (notedP 5 2 ten) = 0 := pointsE_zero.2 ok
  have hk1 : pointsE ⟨1, 1, (notedP 5 2 ten).L⟩ = 220 := by
    unfold pointsE
    rw [dec_false fun k => by have := k.len; rw [eL] at this; simp at this]
    rfl
  have sl0 : SlimP ⟨0, 0, nl GState⟩ := ⟨by simp, by simp⟩
  have sl1 : SlimP ⟨1, 1, (notedP 5 2 ten).L⟩ := ⟨sl.1, sl.2⟩
  rw [eP, points_Best_eq _ _ sl, ob_some, points_Best_eq _ _ sl, ob_some, points_Cut_eq _ _ sl, ob_some, L22_at_eq, ob_some, points_Note_eq _ _ sl0 (stAt_slim 0), ob_some, hb9, hb4, hc9, hn0,
    points_Check_eq _ sl, ob_some, hk, points_Check_eq _ sl1, ob_some, hk1]
  rw [eL]
  rfl
end Go.Pv

/- Checkpoints: the laws in plain words. -/
namespace Go.Pv
theorem pointsFirst (s : GState) (x : Int × Int) (steps : Int) (hs : SlimS s) : F_L22_PointsFirst s x steps = some true := by
  unfold F_L22_PointsFirst
  obtain ⟨b, hb⟩ := R03_Small_ex s.Heap hs.1.1
  rw [points_fixed, ob_some, if_pos rfl, hb, ob_some]
  cases b with
  | false => rw [if_neg (by simp)]; rfl
  | true =>
    rw [if_pos rfl]
    by_cases h1 : (s.Heap.Objs.length : Int) ≤ 90
    case neg => rw [if_neg h1]; rfl
    rw [if_pos h1]
    by_cases h2 : 1 ≤ x.1
    case neg => rw [if_neg h2]; rfl
    rw [if_pos h2]
    by_cases h3 : x.1 ≤ 1000
    case neg => rw [if_neg h3]; rfl
    rw [if_pos h3]
    by_cases h4 : 1 ≤ x.2
    case neg => rw [if_neg h4]; rfl
    rw [if_pos h4]
    by_cases h5 : 50 < x.2
    case pos => rw [if_pos h5]; rfl
    rw [if_neg h5]
    have sl0 : SlimP ⟨x.1, x.2, nl GState⟩ := ⟨by simp, by simp⟩
    have ok0 : OkPoints ⟨x.1, x.2, nl GState⟩ := ⟨⟨h2, h3⟩, ⟨h4, by simp only; omega⟩, by simp only [List.length_nil]; omega, by simp, by simp [Rising]⟩
    rw [points_Note_eq _ _ sl0 hs, ob_some, R15_Check_eq s hs.1 hs.2, ob_some]
    by_cases os : OkState s
    · have hn : noteS ⟨x.1, x.2, nl GState⟩ s = (⟨x.1, x.2, [s]⟩, 0) := by
        unfold noteS
        rw [if_pos ⟨ok0, os⟩, if_neg (fun h => h.1 rfl)]
        have e : ([] ++ [s]).drop (0 + 1 - x.2.toNat) = [s] := by
          have : 0 + 1 - x.2.toNat = 0 := by omega
          rw [this]; rfl
        simp only [List.length_nil, e]
      have ok1 : OkPoints ⟨x.1, x.2, [s]⟩ := by
        have := (noteS_ok ok0 os).1
        rwa [hn] at this
      have sl1 : SlimP ⟨x.1, x.2, [s]⟩ := ⟨by simp [big], fun t ht => by simp only [List.mem_singleton] at ht; subst ht; exact hs⟩
      have e1 : atI [s] (0 : Int) = s := rfl
      rw [hn, if_pos (stateE_zero.2 os)]
      simp only [if_true, List.length_cons, List.length_nil, e1]
      rw [if_pos (by decide), if_pos (by decide), R15_One_eq s s hs.1, ob_some, if_neg (by simp), points_Best_eq _ _ sl1, ob_some]
      by_cases h6 : s.Steps ≤ steps
      · have hb1 : bestS ⟨x.1, x.2, [s]⟩ steps = (s, 0) := by
          have : upN [s] steps = 1 := by simp [upN, h6]
          unfold bestS
          rw [if_pos ok1]
          simp only [this]
          rfl
        rw [hb1, if_pos h6, if_pos rfl, R15_One_eq s s hs.1, ob_some, if_neg (by simp)]
      · have hb1 : bestS ⟨x.1, x.2, [s]⟩ steps = (GState.zero, 201) := by
          have : upN [s] steps = 0 := by simp [upN, h6]
          unfold bestS
          rw [if_pos ok1]
          simp only [this, if_true]
        rw [hb1, if_neg h6, if_pos (by omega)]
        rfl
    · have hn : noteS ⟨x.1, x.2, nl GState⟩ s = (GPoints.zero, 220) := by
        unfold noteS
        rw [if_neg (fun h => os h.2)]
      rw [hn, if_neg (fun h => os (stateE_zero.1 h)), if_pos rfl]
      rfl
end Go.Pv

/- Checkpoints: more laws in plain words. -/
namespace Go.Pv
theorem pointsTell (p : GPoints) (s : GState) (steps : Int) (hp : SlimP p) (hs : SlimS s) : F_L22_PointsTell p s steps = some true := by
  unfold F_L22_PointsTell
  obtain ⟨b, hb⟩ := R22_Small_ex p hp
  rw [hb, ob_some]
  cases b with
  | false => rw [if_neg (by simp), points_fixed]; rfl
  | true =>
    rw [if_pos rfl]
    obtain ⟨b, hb⟩ := R03_Small_ex s.Heap hs.1.1
    rw [hb, ob_some]
    cases b with
    | false => rw [if_neg (by simp), points_fixed]; rfl
    | true =>
      rw [if_pos rfl]
      by_cases h1 : 90 < (s.Heap.Objs.length : Int)
      case pos => rw [if_pos h1, points_fixed]; rfl
      rw [if_neg h1, points_Note_eq p s hp hs, ob_some, R22_Note_eq p s hp hs, ob_some, points_Best_eq p _ hp, ob_some, R22_Best_eq p _ hp, ob_some, points_Cut_eq p _ hp, ob_some, R22_Cut_eq p _ hp, ob_some,
        points_fixed, ob_some, if_pos rfl, points_Check_eq p hp, ob_some, R22_Check_eq p hp, ob_some, if_pos rfl,
        R22_Same_eq _ _ (noteS_slim hp hs), ob_some, R15_One_eq _ _ (bestS_slim hp steps).1, ob_some, R22_Same_eq _ _ (cutS_slim hp steps), ob_some]
      simp
theorem pointsBest (p : GPoints) (steps : Int) (hp : SlimP p) : F_L22_PointsBest p steps = some true := by
  unfold F_L22_PointsBest
  obtain ⟨b, hb⟩ := R22_Small_ex p hp
  rw [points_fixed, ob_some, if_pos rfl, hb, ob_some]
  cases b with
  | false => rw [if_neg (by simp)]; rfl
  | true =>
    rw [if_pos rfl, R22_Check_eq p hp, ob_some]
    by_cases ok : OkPoints p
    case neg => rw [if_neg (fun h => ok (pointsE_zero.1 h))]; rfl
    rw [if_pos (pointsE_zero.2 ok), points_Best_eq p _ hp, ob_some, points_Cut_eq p _ hp, ob_some]
    have hl : p.L.length ≤ big := hp.1
    unfold big at hl
    have hu := upN_le p.L steps
    have loop := iter_acc (S := fun p_3 : Int × Int => s0_L22_PointsBest steps (bestS p steps).snd (cutS p steps).snd p.Every p.Most p.L (bestS p steps).fst.Heap.Objs (bestS p steps).fst.Heap.Cap (bestS p steps).fst.Heap.Last (bestS p steps).fst.Proc (bestS p steps).fst.Ready (bestS p steps).fst.Halt (bestS p steps).fst.Steps (bestS p steps).fst.Used (cutS p steps).fst.Every (cutS p steps).fst.Most (cutS p steps).fst.L p_3.fst p_3.snd)
      (fun k => ((upN (p.L.take k) steps : Int), (k : Int))) p.L.length (b := (upN p.L steps : Int)) (fun k hk => by
        have h1 : upN (p.L.take (k + 1)) steps = upN (p.L.take k) steps + if p.L[k].Steps ≤ steps then 1 else 0 := by
          unfold upN
          rw [List.take_succ_eq_append_getElem hk, List.countP_append, List.countP_singleton]
          simp
        have h2 := upN_le (p.L.take k) steps
        rw [List.length_take] at h2
        simp only [s0_L22_PointsBest, atI_nat _ k hk]
        rw [if_pos (by omega), if_pos (by omega)]
        rw [h1]
        by_cases hx : p.L[k].Steps ≤ steps
        · rw [if_pos hx, if_pos hx, w64_id (by omega) (by omega), w64_id (by omega) (by omega)]; rfl
        · rw [if_neg hx, if_neg hx, w64_id (by omega) (by omega)]; rfl) (by
        simp only [s0_L22_PointsBest]
        rw [if_neg (by omega), List.take_length])
    have loop' := loop
    simp only [List.take_zero] at loop'
    have e0 : (upN ([] : List GState) steps : Int) = 0 := rfl
    rw [e0] at loop'
    rw [show ((0 : Nat) : Int) = 0 from rfl] at loop'
    rw [loop', ob_some]
    have hc : cutS p steps = (⟨p.Every, p.Most, p.L.take (upN p.L steps)⟩, 0) := by unfold cutS; rw [if_pos ok]
    rw [hc]
    simp only [if_true, List.length_take]
    rw [if_pos (by omega)]
    by_cases h0 : upN p.L steps = 0
    · have hb : bestS p steps = (GState.zero, 201) := by unfold bestS; rw [if_pos ok, if_pos h0]
      rw [hb, h0]
      rfl
    · have hb : bestS p steps = (atN p.L (upN p.L steps - 1), 0) := by unfold bestS; rw [if_pos ok, if_neg h0]
      have hi : (upN p.L steps : Int) - 1 = ((upN p.L steps - 1 : Nat) : Int) := by omega
      have hlt : upN p.L steps - 1 < p.L.length := by omega
      rw [hb, w64_id (n := (upN p.L steps : Int) - 1) (by omega) (by omega), hi, atI_nat _ _ hlt, atI_nat (p.L.take (upN p.L steps)) _ (by rw [List.length_take]; omega), List.getElem_take, atN_get _ _ hlt]
      have hsl : Slim p.L[upN p.L steps - 1].Heap := (hp.2 _ (List.getElem_mem hlt)).1
      simp only
      rw [R15_One_eq _ _ hsl, ob_some]
      rw [if_pos (by simp; omega), if_neg (by omega), if_pos (by omega), if_pos (by omega), if_pos (by simp), if_pos (by omega)]
      simp
end Go.Pv

/- Checkpoints: those that are kept. -/
namespace Go.Pv
theorem kept_len (every : Int) (l : List Int) : (kept every l).length ≤ l.length := by
  cases l with
  | nil => exact Nat.le_refl _
  | cons a r => exact Nat.succ_le_succ (List.length_filter_le _ _)
theorem kept_ne {every : Int} {l : List Int} (h : l ≠ []) : 1 ≤ (kept every l).length := by
  cases l with
  | nil => exact absurd rfl h
  | cons a r => exact Nat.succ_le_succ (Nat.zero_le _)
/-- What is known behind so many of the steps. -/
structure KeepI (every : Int) (most : Nat) (l : List Int) (k : Nat) (first : Int) : Prop where
  le : k ≤ l.length
  rng : ∀ y ∈ l.take k, 0 ≤ y ∧ y ≤ 1000000
  up : (l.take k).Pairwise (· < ·)
  low : ∀ y ∈ lastN most (kept every (l.take k)), first ≤ y
  zero : k = 0 → first = 0
theorem keep_ok {every : Int} {most : Nat} {l : List Int} {k : Nat} {first : Int} (he : 1 ≤ every ∧ every ≤ 1000) (hm : 1 ≤ most ∧ most ≤ 50) (h : KeepI every most l k first) : OkPoints (notedP every most (l.take k)) := by
  have := noted_ok he hm (l.take k) h.rng h.up (l.take k).length (Nat.le_refl _)
  rwa [List.take_length] at this
theorem keep_head {every : Int} {most : Nat} {l : List Int} (hm : 1 ≤ most) (h : l ≠ []) : 0 < (notedP every most l).L.length := by
  simp only [notedP, List.length_map, lastN_len]
  have := kept_ne (every := every) h
  omega
/-- One more of them. -/
theorem keep_next {every : Int} {most : Nat} {l : List Int} {k : Nat} {first : Int} (he : 1 ≤ every ∧ every ≤ 1000) (hm : 1 ≤ most ∧ most ≤ 50) (h : KeepI every most l k first) (hk : k < l.length)
    (hx : 0 ≤ l[k] ∧ l[k] ≤ 1000000) (hu : ∀ j, (hj : j < l.length) → j + 1 = k → l[j] < l[k]) :
    noteS (notedP every most (l.take k)) (stAt l[k]) = (notedP every most (l.take (k + 1)), 0) ∧
    first ≤ (atN (notedP every most (l.take (k + 1))).L 0).Steps ∧ KeepI every most l (k + 1) (atN (notedP every most (l.take (k + 1))).L 0).Steps := by
  have hlt : ∀ y ∈ l.take k, y < l[k] := by
    intro y hy
    obtain ⟨j, hj, rfl⟩ := List.getElem_of_mem hy
    rw [List.length_take] at hj
    rw [List.getElem_take]
    have hlast := hu (k - 1) (by omega) (by omega)
    rcases Nat.lt_or_ge j (k - 1) with h1 | h1
    · have := List.pairwise_iff_getElem.1 h.up j (k - 1) (by rw [List.length_take]; omega) (by rw [List.length_take]; omega) h1
      rw [List.getElem_take, List.getElem_take] at this
      omega
    · have e : j = k - 1 := by omega
      subst e
      exact hlast
  have e := List.take_succ_eq_append_getElem hk
  have ok := keep_ok he hm h
  have step := noted_step he hm hx hlt ok
  rw [← e] at step
  have hne : l.take (k + 1) ≠ [] := by
    intro h0
    have := congrArg List.length h0
    rw [List.length_take, List.length_nil] at this
    omega
  have hh := keep_head (every := every) hm.1 hne
  have hmem : ∀ y ∈ lastN most (kept every (l.take (k + 1))), first ≤ y := by
    intro y hy
    have hge : first ≤ l[k] := by
      rcases Nat.eq_zero_or_pos k with h0 | h0
      · rw [h.zero h0]; exact hx.1
      · have hn : l.take k ≠ [] := by
          intro h1
          have := congrArg List.length h1
          rw [List.length_take, List.length_nil] at this
          omega
        have hl : 0 < (lastN most (kept every (l.take k))).length := by
          rw [lastN_len]
          have := kept_ne (every := every) hn
          omega
        have h1 := h.low _ (List.getElem_mem hl)
        have h2 := hlt _ (kept_mem (List.mem_of_mem_drop (List.getElem_mem hl)))
        omega
    rcases Nat.eq_zero_or_pos k with h0 | h0
    · have : y ∈ l.take (k + 1) := kept_mem (List.mem_of_mem_drop hy)
      have ek : l.take k = [] := by rw [h0]; rfl
      rw [e, ek] at this
      simp only [List.nil_append, List.mem_singleton] at this
      subst this
      exact hge
    · have hn : l.take k ≠ [] := by
        intro h1
        have := congrArg List.length h1
        rw [List.length_take, List.length_nil] at this
        omega
      rw [e, kept_snoc every _ _ hn] at hy
      split at hy
      · rw [← lastN_snoc hm.1] at hy
        have := List.mem_of_mem_drop hy
        rcases List.mem_append.1 this with h1 | h1
        · exact h.low y h1
        · simp only [List.mem_singleton] at h1; subst h1; exact hge
      · exact h.low y hy
  have hd : 0 < (lastN most (kept every (l.take (k + 1)))).length := by
    simpa only [notedP, List.length_map] using hh
  have e0 : (atN (notedP every most (l.take (k + 1))).L 0).Steps = (lastN most (kept every (l.take (k + 1))))[0] := by
    rw [atN_get _ 0 hh]
    simp only [notedP, List.getElem_map]
    rfl
  have rise := step.2.rising
  refine ⟨step.1, by rw [e0]; exact hmem _ (List.getElem_mem hd), hk, fun y hy => ?_, ?_, fun y hy => ?_, fun h0 => by omega⟩
  · rw [e] at hy
    rcases List.mem_append.1 hy with h1 | h1
    · exact h.rng y h1
    · simp only [List.mem_singleton] at h1; subst h1; exact hx
  · rw [e]
    exact List.pairwise_append.2 ⟨h.up, List.pairwise_singleton _ _, fun a ha b hb => by
      simp only [List.mem_singleton] at hb
      subst hb
      exact hlt a ha⟩
  · rw [e0]
    obtain ⟨i, hi, rfl⟩ := List.getElem_of_mem hy
    rcases Nat.eq_zero_or_pos i with h0 | h0
    · subst h0; exact Int.le_refl _
    · have hi' : i < (notedP every most (l.take (k + 1))).L.length := by simpa only [notedP, List.length_map] using hi
      have := List.pairwise_iff_getElem.1 rise 0 i hh hi' h0
      simp only [notedP, List.getElem_map] at this
      exact Int.le_of_lt this
set_option maxHeartbeats 1000000
theorem pointsKeep (every most : Int) (l : List Int) : F_L22_PointsKeep every most l = some true := by
  unfold F_L22_PointsKeep
  rw [points_fixed, ob_some, if_pos rfl]
  by_cases h1 : 1 ≤ every
  case neg => rw [if_neg h1]; rfl
  rw [if_pos h1]
  by_cases h2 : every ≤ 1000
  case neg => rw [if_neg h2]; rfl
  rw [if_pos h2]
  by_cases h3 : 1 ≤ most
  case neg => rw [if_neg h3]; rfl
  rw [if_pos h3]
  by_cases h4 : most ≤ 50
  case neg => rw [if_neg h4]; rfl
  rw [if_pos h4]
  by_cases h5 : 30 < (l.length : Int)
  case pos => rw [if_pos h5]; rfl
  rw [if_neg h5]
  obtain ⟨m, rfl⟩ : ∃ m : Nat, most = m := ⟨most.toNat, by omega⟩
  have he : 1 ≤ every ∧ every ≤ 1000 := ⟨h1, h2⟩
  have hm : 1 ≤ m ∧ m ≤ 50 := by omega
  obtain ⟨r, e, hr⟩ := iter_post (S := fun p : List Int × Int × Int × Int × Int × List GState => s0_L22_PointsKeep every m l p.fst p.snd.fst p.snd.snd.fst p.snd.snd.snd.fst p.snd.snd.snd.snd.fst p.snd.snd.snd.snd.snd)
    (fun p => l.length - p.2.2.1.toNat)
    (fun p => ∃ k first, p = (kept every (l.take k), first, (k : Int), every, (m : Int), (notedP every m (l.take k)).L) ∧ KeepI every m l k first)
    (fun r => match r with | .inl b => b.1 = true | .inr q => q = (kept every l, every, (m : Int), (notedP every m l).L)) (fun p hp => by
      obtain ⟨k, first, rfl, h⟩ := hp
      have hle := h.le
      have eP : ({ Every := every, Most := (m : Int), L := (notedP every m (l.take k)).L } : GPoints) = notedP every m (l.take k) := rfl
      simp only [s0_L22_PointsKeep]
      by_cases hk : k < l.length
      case neg =>
        refine .inr ⟨_, by rw [if_neg (show ¬ (k : Int) < l.length by omega)], ?_⟩
        have : k = l.length := by omega
        subst this
        simp only [List.take_length]
      simp only [atI_nat l k hk]
      have hb : (0 : Int) ≤ (k : Int) ∧ (k : Int) < (l.length : Int) := by omega
      simp only [if_pos hb, if_pos hb.2]
      by_cases hx0 : 0 ≤ l[k]
      case neg => exact .inr ⟨_, by rw [if_neg hx0], rfl⟩
      by_cases hx1 : l[k] ≤ 1000000
      case neg => exact .inr ⟨_, by rw [if_pos hx0, if_neg hx1], rfl⟩
      simp only [if_pos hx0, if_pos hx1]
      -- what follows where the steps rise
      have go : (∀ j, (hj : j < l.length) → j + 1 = k → l[j] < l[k]) → F_L22_at l[k] = some (stAt l[k]) ∧ F_points_Note (notedP every m (l.take k)) (stAt l[k]) = some (notedP every m (l.take (k + 1)), 0) ∧
          (notedP every m (l.take (k + 1))).L ≠ [] ∧ ((notedP every m (l.take (k + 1))).L.length : Int) ≤ m ∧ 0 < (notedP every m (l.take (k + 1))).L.length ∧
          first ≤ (atI (notedP every m (l.take (k + 1))).L 0).Steps ∧ KeepI every m l (k + 1) (atI (notedP every m (l.take (k + 1))).L 0).Steps := by
        intro hu
        obtain ⟨a, b, c⟩ := keep_next he hm h hk ⟨hx0, hx1⟩ hu
        have hne : l.take (k + 1) ≠ [] := by
          intro h0
          have := congrArg List.length h0
          rw [List.length_take, List.length_nil] at this
          omega
        have hh := keep_head (every := every) hm.1 hne
        refine ⟨L22_at_eq _, by rw [points_Note_eq _ _ (notedP_slim _ _ _ hm.2) (stAt_slim _), a], List.length_pos_iff.1 hh, ?_, hh, b, c⟩
        simp only [notedP, List.length_map, lastN_len]; omega
      have hroom : ((kept every (l.take k)).length + 1) * 8 ≤ Pv.most := by
        have := kept_len every (l.take k)
        rw [List.length_take] at this
        unfold Pv.most
        omega
      by_cases hk0 : (0 : Int) < k
      · simp only [if_pos hk0]
        have hi : (k : Int) - 1 = ((k - 1 : Nat) : Int) := by omega
        have hb1 : (0 : Int) ≤ ((k - 1 : Nat) : Int) ∧ ((k - 1 : Nat) : Int) < (l.length : Int) := by omega
        rw [w64_id (n := (k : Int) - 1) (by omega) (by omega), hi, if_pos hb1, atI_nat l (k - 1) (by omega)]
        by_cases hle1 : l[k] ≤ l[k - 1]
        · exact .inr ⟨_, by rw [if_pos hle1], rfl⟩
        rw [if_neg hle1]
        obtain ⟨g1, g2, g3, g4, g5, g6, g7⟩ := go (fun j hj e => by
          have : j = k - 1 := by omega
          subst this
          omega)
        have hn0 : l.take k ≠ [] := by
          intro h0
          have := congrArg List.length h0
          rw [List.length_take, List.length_nil] at this
          omega
        have hs := kept_snoc every (l.take k) l[k] hn0
        rw [← List.take_succ_eq_append_getElem hk] at hs
        rw [g1, ob_some]
        rw [show ({ Every := every, Most := (m : Int), L := (notedP every m (l.take k)).L } : GPoints) = notedP every m (l.take k) from rfl]
        rw [show F_points_Note (notedP every m (l.take k)) { Heap := { Objs := (stAt l[k]).Heap.Objs, Cap := (stAt l[k]).Heap.Cap, Last := (stAt l[k]).Heap.Last }, Proc := (stAt l[k]).Proc, Ready := (stAt l[k]).Ready, Halt := (stAt l[k]).Halt, Steps := (stAt l[k]).Steps, Used := (stAt l[k]).Used } = _ from g2, ob_some]
        simp only [if_true]
        rw [if_neg g3, if_pos g4, if_pos g5, if_neg (by omega), if_pos g5, if_neg (show ¬ (k : Int) = 0 by omega), if_neg (show ¬ every = 0 by omega), Int.tmod_eq_emod_of_nonneg hx0, w64_id (n := (k : Int) + 1) (by omega) (by omega)]
        by_cases h0 : l[k] % every = 0
        · rw [if_pos h0, if_pos hroom]
          rw [if_pos h0] at hs
          exact .inl ⟨_, rfl, ⟨k + 1, _, by rw [hs]; rfl, g7⟩, by simp only; omega⟩
        · rw [if_neg h0]
          rw [if_neg h0] at hs
          exact .inl ⟨_, rfl, ⟨k + 1, _, by rw [hs]; rfl, g7⟩, by simp only; omega⟩
      · simp only [if_neg hk0]
        have hk1 : k = 0 := by omega
        subst hk1
        obtain ⟨g1, g2, g3, g4, g5, g6, g7⟩ := go (fun j hj e => by omega)
        rw [g1, ob_some]
        rw [show F_points_Note { Every := every, Most := (m : Int), L := (notedP every m (l.take 0)).L } { Heap := { Objs := (stAt l[0]).Heap.Objs, Cap := (stAt l[0]).Heap.Cap, Last := (stAt l[0]).Heap.Last }, Proc := (stAt l[0]).Proc, Ready := (stAt l[0]).Ready, Halt := (stAt l[0]).Halt, Steps := (stAt l[0]).Steps, Used := (stAt l[0]).Used } = _ from g2, ob_some]
        simp only [if_true]
        rw [if_neg g3, if_pos g4, if_pos g5, if_neg (by omega), if_pos g5, if_pos (show ((0 : Nat) : Int) = 0 from rfl), if_pos hroom, w64_id (n := ((0 : Nat) : Int) + 1) (by omega) (by omega)]
        have hs : kept every (l.take (0 + 1)) = kept every (l.take 0) ++ [l[0]] := by
          cases l with
          | nil => exact absurd hk (by simp)
          | cons a r => rfl
        exact .inl ⟨_, rfl, ⟨0 + 1, _, by rw [hs]; rfl, g7⟩, by simp only; omega⟩) ([], 0, 0, every, (m : Int), []) ⟨0, 0, by simp [kept, notedP, lastN], by omega, by simp, by simp, by simp [lastN, kept], fun _ => rfl⟩
  rw [e, ob_some]
  cases r with
  | inl b =>
    simp only [sm_inl]
    have hr' : b.1 = true := hr
    rw [hr']
  | inr q =>
    have hr' : q = (kept every l, every, (m : Int), (notedP every m l).L) := hr
    subst hr'
    have hl : (notedP every m l).L.length = min m (kept every l).length := by simp only [notedP, List.length_map, lastN_len]
    have hkl := kept_len every l
    simp only [sm_inr]
    rw [if_pos (by rw [hl]; omega)]
    obtain ⟨r, e, hr⟩ := iter_allI (notedP every m l).L.length (fun _ => true) (S := fun p => s1_L22_PointsKeep (kept every l) ((notedP every m l).L.length : Int) every (m : Int) (notedP every m l).L p) (fun _ => true) (fun k hk => by
      simp only [s1_L22_PointsKeep, atI_nat _ k hk]
      have hw : w64 (w64 (((kept every l).length : Int) - ((notedP every m l).L.length : Int)) + (k : Int)) = (((kept every l).length - m + k : Nat) : Int) := by
        rw [w64_id (n := ((kept every l).length : Int) - _) (by omega) (by omega), w64_id (by omega) (by omega)]
        omega
      have hi : (kept every l).length - m + k < (kept every l).length := by omega
      have hg : (notedP every m l).L[k] = stAt ((kept every l)[(kept every l).length - m + k]) := by
        simp only [notedP, List.getElem_map, lastN, List.getElem_drop]
      rw [hw, atI_nat _ _ hi, hg, if_pos (by omega), if_pos (by omega), if_pos (by omega), if_pos (by omega)]
      rw [if_pos (show (stAt (kept every l)[(kept every l).length - m + k]).Steps = (kept every l)[(kept every l).length - m + k] from rfl), if_pos (by omega), if_pos (by omega)]
      rw [show F_L22_at (stAt (kept every l)[(kept every l).length - m + k]).Steps = _ from L22_at_eq _, ob_some]
      rw [R15_One_eq _ _ (stAt_slim _).1, ob_some, w64_id (by omega) (by omega)]
      simp
      rfl) (by simp [s1_L22_PointsKeep])
    rw [e, ob_some]
    cases r with
    | inl b =>
      obtain ⟨k, hk, rfl, hf, _⟩ := hr
      cases hf
    | inr u => rw [sm_inr]
end Go.Pv

namespace Go.Pv
open Go Go.Proofs
set_option maxRecDepth 100000
set_option maxHeartbeats 0
set_option linter.unusedSimpArgs false
theorem again2 (p_0 p_1 : Int) (p_2 : List GState) (s_0 : List GObj) (s_1 s_2 s_3 s_4 s_5 s_6 s_7 x_0 x_1 : Int)  (g1 : F_L22_fixed = some true) (g2 : F_R22_Small ({ Every := p_0, Most := p_1, L := p_2 : GPoints }) = some false) :
    cO Try.prog lore 6 [D.agg [D.t (T.sc (Value.int IntKind.i64 p_0)), D.t (T.sc (Value.int IntKind.i64 p_1)), D.t (T.sl (8 : Nat) (els p_2))], D.agg [D.t (T.sl (6 : Nat) (els s_0)), D.t (T.sc (Value.int IntKind.i64 s_1)), D.t (T.sc (Value.int IntKind.i64 s_2)), D.t (T.sc (Value.int IntKind.i64 s_3)), D.t (T.sc (Value.int IntKind.i64 s_4)), D.t (T.sc (Value.int IntKind.i64 s_5)), D.t (T.sc (Value.int IntKind.i64 s_6)), D.t (T.sc (Value.int IntKind.i64 s_7))], D.agg [D.t (T.sc (Value.int IntKind.i64 x_0)), D.t (T.sc (Value.int IntKind.i64 x_1))]] [] = some (.val (Bo true), []) := by
  rw [cO_eq (R := lore) rfl Try.func6 rfl]
  show wrapThen h6.res (endThen Try.prog h6.shr _ (eO Try.prog h6 (cO Try.prog lore) _ _)) = _
  simp (decide := true) (maxSteps := 10000000) [Try.f6, g1, g2]
theorem again3 (p_0 p_1 : Int) (p_2 : List GState) (s_0 : List GObj) (s_1 s_2 s_3 s_4 s_5 s_6 s_7 x_0 x_1 : Int)  (g1 : F_L22_fixed = some true) (g2 : F_R22_Small ({ Every := p_0, Most := p_1, L := p_2 : GPoints }) = some true) (g3 : F_R22_Check ({ Every := p_0, Most := p_1, L := p_2 : GPoints }) = some 220) :
    cO Try.prog lore 6 [D.agg [D.t (T.sc (Value.int IntKind.i64 p_0)), D.t (T.sc (Value.int IntKind.i64 p_1)), D.t (T.sl (8 : Nat) (els p_2))], D.agg [D.t (T.sl (6 : Nat) (els s_0)), D.t (T.sc (Value.int IntKind.i64 s_1)), D.t (T.sc (Value.int IntKind.i64 s_2)), D.t (T.sc (Value.int IntKind.i64 s_3)), D.t (T.sc (Value.int IntKind.i64 s_4)), D.t (T.sc (Value.int IntKind.i64 s_5)), D.t (T.sc (Value.int IntKind.i64 s_6)), D.t (T.sc (Value.int IntKind.i64 s_7))], D.agg [D.t (T.sc (Value.int IntKind.i64 x_0)), D.t (T.sc (Value.int IntKind.i64 x_1))]] [] = some (.val (Bo true), []) := by
  rw [cO_eq (R := lore) rfl Try.func6 rfl]
  show wrapThen h6.res (endThen Try.prog h6.shr _ (eO Try.prog h6 (cO Try.prog lore) _ _)) = _
  simp (decide := true) (maxSteps := 10000000) [Try.f6, g1, g2, g3]
theorem again4 (p_0 p_1 : Int) (p_2 : List GState) (s_0 : List GObj) (s_1 s_2 s_3 s_4 s_5 s_6 s_7 x_0 x_1 : Int)  (g1 : F_L22_fixed = some true) (g2 : F_R22_Small ({ Every := p_0, Most := p_1, L := p_2 : GPoints }) = some true) (g3 : F_R22_Check ({ Every := p_0, Most := p_1, L := p_2 : GPoints }) = some 0) (g4 : F_R03_Small ({ Objs := s_0, Cap := s_1, Last := s_2 : GHeap }) = some false) :
    cO Try.prog lore 6 [D.agg [D.t (T.sc (Value.int IntKind.i64 p_0)), D.t (T.sc (Value.int IntKind.i64 p_1)), D.t (T.sl (8 : Nat) (els p_2))], D.agg [D.t (T.sl (6 : Nat) (els s_0)), D.t (T.sc (Value.int IntKind.i64 s_1)), D.t (T.sc (Value.int IntKind.i64 s_2)), D.t (T.sc (Value.int IntKind.i64 s_3)), D.t (T.sc (Value.int IntKind.i64 s_4)), D.t (T.sc (Value.int IntKind.i64 s_5)), D.t (T.sc (Value.int IntKind.i64 s_6)), D.t (T.sc (Value.int IntKind.i64 s_7))], D.agg [D.t (T.sc (Value.int IntKind.i64 x_0)), D.t (T.sc (Value.int IntKind.i64 x_1))]] [] = some (.val (Bo true), []) := by
  rw [cO_eq (R := lore) rfl Try.func6 rfl]
  show wrapThen h6.res (endThen Try.prog h6.shr _ (eO Try.prog h6 (cO Try.prog lore) _ _)) = _
  simp (decide := true) (maxSteps := 10000000) [Try.f6, g1, g2, g3, g4]
theorem again5 (p_0 p_1 : Int) (p_2 : List GState) (s_0 : List GObj) (s_1 s_2 s_3 s_4 s_5 s_6 s_7 x_0 x_1 : Int)  (g1 : F_L22_fixed = some true) (g2 : F_R22_Small ({ Every := p_0, Most := p_1, L := p_2 : GPoints }) = some true) (g3 : F_R22_Check ({ Every := p_0, Most := p_1, L := p_2 : GPoints }) = some 0) (g4 : F_R03_Small ({ Objs := s_0, Cap := s_1, Last := s_2 : GHeap }) = some true) (g5 : ¬ (s_0.length : Int) ≤ 90) :
    cO Try.prog lore 6 [D.agg [D.t (T.sc (Value.int IntKind.i64 p_0)), D.t (T.sc (Value.int IntKind.i64 p_1)), D.t (T.sl (8 : Nat) (els p_2))], D.agg [D.t (T.sl (6 : Nat) (els s_0)), D.t (T.sc (Value.int IntKind.i64 s_1)), D.t (T.sc (Value.int IntKind.i64 s_2)), D.t (T.sc (Value.int IntKind.i64 s_3)), D.t (T.sc (Value.int IntKind.i64 s_4)), D.t (T.sc (Value.int IntKind.i64 s_5)), D.t (T.sc (Value.int IntKind.i64 s_6)), D.t (T.sc (Value.int IntKind.i64 s_7))], D.agg [D.t (T.sc (Value.int IntKind.i64 x_0)), D.t (T.sc (Value.int IntKind.i64 x_1))]] [] = some (.val (Bo true), []) := by
  rw [cO_eq (R := lore) rfl Try.func6 rfl]
  show wrapThen h6.res (endThen Try.prog h6.shr _ (eO Try.prog h6 (cO Try.prog lore) _ _)) = _
  simp (decide := true) (maxSteps := 10000000) [Try.f6, g1, g2, g3, g4, g5]
theorem again6 (p_0 p_1 : Int) (p_2 : List GState) (s_0 : List GObj) (s_1 s_2 s_3 s_4 s_5 s_6 s_7 x_0 x_1 : Int) (z : Int) (g1 : F_L22_fixed = some true) (g2 : F_R22_Small ({ Every := p_0, Most := p_1, L := p_2 : GPoints }) = some true) (g3 : F_R22_Check ({ Every := p_0, Most := p_1, L := p_2 : GPoints }) = some 0) (g4 : F_R03_Small ({ Objs := s_0, Cap := s_1, Last := s_2 : GHeap }) = some true) (g5 : (s_0.length : Int) ≤ 90) (g6 : F_R15_Check ({ Heap := { Objs := s_0, Cap := s_1, Last := s_2 : GHeap }, Proc := s_3, Ready := s_4, Halt := s_5, Steps := s_6, Used := s_7 : GState }) = some z) (gz : z ≠ 0) :
    cO Try.prog lore 6 [D.agg [D.t (T.sc (Value.int IntKind.i64 p_0)), D.t (T.sc (Value.int IntKind.i64 p_1)), D.t (T.sl (8 : Nat) (els p_2))], D.agg [D.t (T.sl (6 : Nat) (els s_0)), D.t (T.sc (Value.int IntKind.i64 s_1)), D.t (T.sc (Value.int IntKind.i64 s_2)), D.t (T.sc (Value.int IntKind.i64 s_3)), D.t (T.sc (Value.int IntKind.i64 s_4)), D.t (T.sc (Value.int IntKind.i64 s_5)), D.t (T.sc (Value.int IntKind.i64 s_6)), D.t (T.sc (Value.int IntKind.i64 s_7))], D.agg [D.t (T.sc (Value.int IntKind.i64 x_0)), D.t (T.sc (Value.int IntKind.i64 x_1))]] [] = some (.val (Bo true), []) := by
  rw [cO_eq (R := lore) rfl Try.func6 rfl]
  show wrapThen h6.res (endThen Try.prog h6.shr _ (eO Try.prog h6 (cO Try.prog lore) _ _)) = _
  simp (decide := true) (maxSteps := 10000000) [Try.f6, g1, g2, g3, g4, g5, g6, gz]
theorem again7 (p_0 p_1 : Int) (p_2 : List GState) (s_0 : List GObj) (s_1 s_2 s_3 s_4 s_5 s_6 s_7 x_0 x_1 : Int) (a0 a1 : Int) (a2 : List GState) (c0 c1' : Int) (c2' : List GState) (d0 d1 : Int) (d2 : List GState) (m0 m1 : Int) (g1 : F_L22_fixed = some true) (g2 : F_R22_Small ({ Every := p_0, Most := p_1, L := p_2 : GPoints }) = some true) (g3 : F_R22_Check ({ Every := p_0, Most := p_1, L := p_2 : GPoints }) = some 0) (g4 : F_R03_Small ({ Objs := s_0, Cap := s_1, Last := s_2 : GHeap }) = some true) (g5 : (s_0.length : Int) ≤ 90) (g6 : F_R15_Check ({ Heap := { Objs := s_0, Cap := s_1, Last := s_2 : GHeap }, Proc := s_3, Ready := s_4, Halt := s_5, Steps := s_6, Used := s_7 : GState }) = some 0) (n1 : F_points_Note ({ Every := p_0, Most := p_1, L := p_2 : GPoints }) ({ Heap := { Objs := s_0, Cap := s_1, Last := s_2 : GHeap }, Proc := s_3, Ready := s_4, Halt := s_5, Steps := s_6, Used := s_7 : GState }) = some (({ Every := a0, Most := a1, L := a2 : GPoints }), 0)) (n2 : F_points_Note ({ Every := a0, Most := a1, L := a2 : GPoints }) ({ Heap := { Objs := s_0, Cap := s_1, Last := s_2 : GHeap }, Proc := s_3, Ready := s_4, Halt := s_5, Steps := s_6, Used := s_7 : GState }) = some (({ Every := a0, Most := a1, L := a2 : GPoints }), 0)) (c1 : F_points_Cut ({ Every := p_0, Most := p_1, L := p_2 : GPoints }) x_0 = some (({ Every := c0, Most := c1', L := c2' : GPoints }), 0)) (c2 : F_points_Cut ({ Every := c0, Most := c1', L := c2' : GPoints }) x_1 = some (({ Every := d0, Most := d1, L := d2 : GPoints }), 0)) (c3 : F_points_Cut ({ Every := p_0, Most := p_1, L := p_2 : GPoints }) (min x_0 x_1) = some (({ Every := d0, Most := d1, L := d2 : GPoints }), 0)) (c4 : F_points_Cut ({ Every := p_0, Most := p_1, L := p_2 : GPoints }) 1099511627776 = some (({ Every := p_0, Most := p_1, L := p_2 : GPoints }), 0)) (c5 : F_points_Cut ({ Every := p_0, Most := p_1, L := p_2 : GPoints }) (-1) = some (({ Every := m0, Most := m1, L := [] : GPoints }), 0)) (e1 : F_R22_Same ({ Every := a0, Most := a1, L := a2 : GPoints }) ({ Every := a0, Most := a1, L := a2 : GPoints }) = some true) (e2 : F_R22_Same ({ Every := d0, Most := d1, L := d2 : GPoints }) ({ Every := d0, Most := d1, L := d2 : GPoints }) = some true) (e3 : F_R22_Same ({ Every := p_0, Most := p_1, L := p_2 : GPoints }) ({ Every := p_0, Most := p_1, L := p_2 : GPoints }) = some true) :
    cO Try.prog lore 6 [D.agg [D.t (T.sc (Value.int IntKind.i64 p_0)), D.t (T.sc (Value.int IntKind.i64 p_1)), D.t (T.sl (8 : Nat) (els p_2))], D.agg [D.t (T.sl (6 : Nat) (els s_0)), D.t (T.sc (Value.int IntKind.i64 s_1)), D.t (T.sc (Value.int IntKind.i64 s_2)), D.t (T.sc (Value.int IntKind.i64 s_3)), D.t (T.sc (Value.int IntKind.i64 s_4)), D.t (T.sc (Value.int IntKind.i64 s_5)), D.t (T.sc (Value.int IntKind.i64 s_6)), D.t (T.sc (Value.int IntKind.i64 s_7))], D.agg [D.t (T.sc (Value.int IntKind.i64 x_0)), D.t (T.sc (Value.int IntKind.i64 x_1))]] [] = some (.val (Bo true), []) := by
  rw [cO_eq (R := lore) rfl Try.func6 rfl]
  show wrapThen h6.res (endThen Try.prog h6.shr _ (eO Try.prog h6 (cO Try.prog lore) _ _)) = _
  simp (decide := true) (maxSteps := 10000000) [Try.f6, g1, g2, g3, g4, g5, g6, n1, n2, c1, c2, c3, c4, c5, e1, e2, e3]
end Go.Pv

/- Checkpoints: noted and cut again. -/
namespace Go.Pv
open Go Go.Proofs
theorem cut_all {p : GPoints} (o : OkPoints p) : cutS p 1099511627776 = (p, 0) := by
  have h : upN p.L 1099511627776 = p.L.length := List.countP_eq_length.2 fun s hs => by
    have := (o.ok s hs).steps
    simpa using this.2
  unfold cutS
  rw [if_pos o, h, List.take_length]
theorem cut_none {p : GPoints} (o : OkPoints p) : cutS p (-1) = (⟨p.Every, p.Most, []⟩, 0) := by
  have h : upN p.L (-1) = 0 := List.countP_eq_zero.2 fun s hs => by
    have := (o.ok s hs).steps
    simp
    omega
  unfold cutS
  rw [if_pos o, h, List.take_zero]
theorem cut_eq {p : GPoints} (o : OkPoints p) (x : Int) : cutS p x = (⟨p.Every, p.Most, p.L.take (upN p.L x)⟩, 0) := by
  unfold cutS
  rw [if_pos o]
theorem cut_twice {p : GPoints} (o : OkPoints p) (x y : Int) : (p.L.take (upN p.L x)).take (upN (p.L.take (upN p.L x)) y) = p.L.take (upN p.L (min x y)) := by
  have h := upN_le (p.L.take (upN p.L x)) y
  rw [List.length_take] at h
  rw [List.take_take, ← upN_min o.rising]
  congr 1
  omega
theorem pointsAgain (p : GPoints) (s : GState) (x y : Int) (hp : SlimP p) (hs : SlimS s) : cO Try.prog lore 6 [D.agg [I p.Every, I p.Most, D.t (T.sl 8 (els p.L))], D.agg [D.t (T.sl 6 (els s.Heap.Objs)), I s.Heap.Cap, I s.Heap.Last, I s.Proc, I s.Ready, I s.Halt, I s.Steps, I s.Used], D.agg [I x, I y]] [] = some (.val (Bo true), []) := by
  obtain ⟨b, hb⟩ := R22_Small_ex p hp
  cases b with
  | false => exact again2 _ _ _ _ _ _ _ _ _ _ _ _ _ points_fixed hb
  | true =>
    by_cases o : OkPoints p
    case neg =>
      refine again3 _ _ _ _ _ _ _ _ _ _ _ _ _ points_fixed hb ?_
      refine (R22_Check_eq p hp).trans ?_
      unfold pointsE
      rw [dec_false o]; rfl
    have hc : F_R22_Check p = some 0 := by rw [R22_Check_eq p hp, pointsE_zero.2 o]
    obtain ⟨b, hb2⟩ := R03_Small_ex s.Heap hs.1.1
    cases b with
    | false => exact again4 _ _ _ _ _ _ _ _ _ _ _ _ _ points_fixed hb hc hb2
    | true =>
      by_cases h5 : (s.Heap.Objs.length : Int) ≤ 90
      case neg => exact again5 _ _ _ _ _ _ _ _ _ _ _ _ _ points_fixed hb hc hb2 h5
      by_cases os : OkState s
      case neg => exact again6 _ _ _ _ _ _ _ _ _ _ _ _ _ (stateE s) points_fixed hb hc hb2 h5 (R15_Check_eq s hs.1 hs.2) (fun h => os (stateE_zero.1 h))
      have hE : F_R15_Check s = some 0 := by rw [R15_Check_eq s hs.1 hs.2, stateE_zero.2 os]
      have hn := (noteS_ok o os).2
      have sa := noteS_slim hp hs
      have n1 : F_points_Note p s = some ((noteS p s).1, 0) := by rw [points_Note_eq p s hp hs, ← hn]
      have n2 : F_points_Note (noteS p s).1 s = some ((noteS p s).1, 0) := by rw [points_Note_eq _ s sa hs, noteS_again o os]
      have oc := o.cut (upN p.L x)
      have sc : SlimP ⟨p.Every, p.Most, p.L.take (upN p.L x)⟩ := by have := cutS_slim hp x; rwa [cut_eq o] at this
      have c1 := points_Cut_eq p x hp
      rw [cut_eq o] at c1
      have c2 := points_Cut_eq _ y sc
      rw [cut_eq oc] at c2
      simp only [cut_twice o] at c2
      have c3 := points_Cut_eq p (min x y) hp
      rw [cut_eq o] at c3
      have c4 := points_Cut_eq p 1099511627776 hp
      rw [cut_all o] at c4
      have c5 := points_Cut_eq p (-1) hp
      rw [cut_none o] at c5
      have sd : SlimP ⟨p.Every, p.Most, p.L.take (upN p.L (min x y))⟩ := by have := cutS_slim hp (min x y); rwa [cut_eq o] at this
      have same : ∀ q, SlimP q → F_R22_Same q q = some true := fun q hq => by rw [R22_Same_eq q q hq]; simp
      exact again7 _ _ _ _ _ _ _ _ _ _ _ _ _ (noteS p s).1.Every (noteS p s).1.Most (noteS p s).1.L _ _ _ _ _ _ _ _ points_fixed hb hc hb2 h5 hE n1 n2 c1 c2 c3 c4 c5 (same _ sa) (same _ sd) (same _ hp)
end Go.Pv

/- What is told of the library's functions is right. -/
namespace Go.Pv
open Go Go.Proofs
def bare (h : Hint) : Hint := { h with res := [], par := [], row := [] }
@[simp] theorem bare_var (h : Hint) : (bare h).var = h.var := rfl
@[simp] theorem bare_own (h : Hint) : (bare h).own = h.own := rfl
@[simp] theorem bare_keep (h : Hint) : (bare h).keep = h.keep := rfl
@[simp] theorem bare_out (h : Hint) : (bare h).out = h.out := rfl
@[simp] theorem bare_row (h : Hint) : (bare h).row = [] := rfl
@[simp] theorem bare_shr (h : Hint) : (bare h).shr = h.shr := rfl
@[simp] theorem bare_res (h : Hint) : (bare h).res = [] := rfl
@[simp] theorem bare_par (h : Hint) : (bare h).par = [] := rfl
def lor0 : Lore := ⟨fun f => bare (hints f), fun _ => none⟩
@[simp] theorem lor0_94 : lor0.hint 94 = bare h94 := rfl
@[simp] theorem lor0_123 : lor0.hint 123 = bare h123 := rfl
@[simp] theorem lor0_146 : lor0.hint 146 = bare h146 := rfl
set_option maxRecDepth 100000
theorem clones94 : Clones Try.prog (cO Try.prog lor0) 94 30 8 80 := by
  refine ⟨by omega, fun c frs h => ?_, fun a c frs h => ?_, fun x l frs h hb ha => ?_⟩ <;> rw [cO_eq (R := lor0) rfl Try.func94 rfl] <;> show wrapThen _ (endThen _ _ _ (eO Try.prog (bare h94) _ _ _)) = _
  · simp [-D.outer, -List.all_eq_true, Try.f94, h]
  · simp [-D.outer, -List.all_eq_true, Try.f94, h]
  · simp [-D.outer, -List.all_eq_true, Try.f94, h]
    simp only [List.all_cons, Bool.and_eq_true, beq_iff_eq] at ha
    exact ⟨ha, by simpa [els_nil] using hb⟩
theorem clones123 : Clones Try.prog (cO Try.prog lor0) 123 58 6 72 := by
  refine ⟨by omega, fun c frs h => ?_, fun a c frs h => ?_, fun x l frs h hb ha => ?_⟩ <;> rw [cO_eq (R := lor0) rfl Try.func123 rfl] <;> show wrapThen _ (endThen _ _ _ (eO Try.prog (bare h123) _ _ _)) = _
  · simp [-D.outer, -List.all_eq_true, Try.f123, h]
  · simp [-D.outer, -List.all_eq_true, Try.f123, h]
  · simp [-D.outer, -List.all_eq_true, Try.f123, h]
    simp only [List.all_cons, Bool.and_eq_true, beq_iff_eq] at ha
    exact ⟨ha, by simpa [els_nil] using hb⟩
theorem clones146 : Clones Try.prog (cO Try.prog lor0) 146 3 1 8 := by
  refine ⟨by omega, fun c frs h => ?_, fun a c frs h => ?_, fun x l frs h hb ha => ?_⟩ <;> rw [cO_eq (R := lor0) rfl Try.func146 rfl] <;> show wrapThen _ (endThen _ _ _ (eO Try.prog (bare h146) _ _ _)) = _
  · simp [-D.outer, -List.all_eq_true, Try.f146, h]
  · simp [-D.outer, -List.all_eq_true, Try.f146, h]
  · simp [-D.outer, -List.all_eq_true, Try.f146, h]
    simp only [List.all_cons, Bool.and_eq_true, beq_iff_eq] at ha
    exact ⟨ha, by simpa [els_nil] using hb⟩
theorem w64_wrap (n : Int) : w64 n = RowKit.wrap64 n := by
  unfold w64 RowKit.wrap64
  simp [IntKind.wrap, IntKind.bits, IntKind.signed]
  omega
theorem canon_told : ∀ ds d, canonS ds = some d → ∀ B G frs w (vs : Array Value), FrS B G frs w → vs.size = ds.length →
    (∀ (i : Nat) u d, vs[i]? = some u → ds[i]? = some d → d.hasOwn = false ∧ VD B frs.length G vr0 w (.pn frs.length i []) u d) →
    d.outOk = true ∧ Calls Try.prog 153 vs w fun out w' => ∃ v G', out = .returned v ∧ FrS B G' frs w' ∧ Step frs.length G w G' w' ∧ VD B frs.length G' vr0 w' (.pn frs.length 0 []) v d := by
  intro ds d hs B G frs w vs F hlen hargs
  unfold canonS at hs
  split at hs
  · rename_i b
    cases hs
    obtain ⟨u, hv⟩ : ∃ u, vs = #[u] := by
      match vs, hlen with
      | ⟨[u]⟩, _ => exact ⟨u, rfl⟩
    subst hv
    have e1 := (hargs 0 u _ rfl rfl).2.sc
    subst e1
    refine ⟨rfl, (canon_any b w).mono fun r w' ⟨h1, h2⟩ => ?_⟩
    subst h1 h2
    refine ⟨_, G, rfl, F, .refl _ _ _, ?_⟩
    have e : (if nanW (IntKind.u64.wrap b).toNat = true then (9221120237041090561 : Int) else RowKit.wrap64 (IntKind.u64.wrap b).toNat) = canonF b := by
      rw [canon_val]
      unfold canonF nanB
      simp only [decide_eq_true_eq, w64_wrap]
    rw [e]
    exact VD.scal rfl
  · cases hs
theorem mixed0 : Try.prog.follows .mixedOrders = true := by kernel_rfl
theorem allTold : ToldOk Try.prog lore.told := by
  intro f s h
  have g0 : Pv.Good Try.prog (cO Try.prog lor0) := cO_good mixed0 (by intro f s h; cases h)
  unfold lore at h
  simp only at h
  split at h
  · cases h; exact clone_told g0 clones94
  · cases h; exact clone_told g0 clones123
  · cases h; exact clone_told g0 clones146
  · cases h; exact canon_told
  · cases h
end Go.Pv

/- States and checkpoints: from the laws' arguments to plain data. -/
namespace Go.Pv
open Go Go.Proofs
abbrev iT : Ty := .int .i64
abbrev objT : Ty := .pair iT (.pair iT (.pair (.sl iT) (.pair .str (.pair iT (.pair iT .unit)))))
abbrev heapT : Ty := .pair (.sl objT) (.pair iT (.pair iT .unit))
abbrev stateT : Ty := .pair heapT (.pair iT (.pair iT (.pair iT (.pair iT (.pair iT .unit)))))
abbrev pointsT : Ty := .pair iT (.pair iT (.pair (.sl stateT) .unit))
abbrev twoT : Ty := .pair iT (.pair iT .unit)
def toObj (x : objT.den) : GObj := ⟨x.1, x.2.1, x.2.2.1, x.2.2.2.1, x.2.2.2.2.1, x.2.2.2.2.2.1⟩
def toObjs (l : (Ty.sl objT).den) : List GObj := List.map toObj l
def toHeap (x : heapT.den) : GHeap := ⟨toObjs x.1, x.2.1, x.2.2.1⟩
def toState (x : stateT.den) : GState := ⟨toHeap x.1, x.2.1, x.2.2.1, x.2.2.2.1, x.2.2.2.2.1, x.2.2.2.2.2.1⟩
def toStates (l : (Ty.sl stateT).den) : List GState := List.map toState l
def toPoints (x : pointsT.den) : GPoints := ⟨x.1, x.2.1, toStates x.2.2.1⟩
theorem map_enc {α β : Type} [Enc β] (e : α → List T) (f : α → β) (h : ∀ x, e x = Enc.enc (f x)) (l : List α) : List.map e l = els (List.map f l) := by
  unfold els
  rw [List.map_map]
  exact List.map_congr_left fun x _ => h x
theorem objT_enc (x : objT.den) : objT.enc x = Enc.enc (toObj x) := rfl
theorem objs_enc (l : (Ty.sl objT).den) : List.map (α := objT.den) objT.enc l = els (toObjs l) := map_enc objT.enc toObj objT_enc l
theorem stateT_enc (x : stateT.den) : stateT.enc x = Enc.enc (toState x) := by
  obtain ⟨⟨l, c, la, u⟩, p, r, h, s, us, u2⟩ := x
  exact congrArg (fun e => (T.sl 6 e :: [T.sc (.int .i64 c), T.sc (.int .i64 la), T.sc (.int .i64 p), T.sc (.int .i64 r), T.sc (.int .i64 h), T.sc (.int .i64 s), T.sc (.int .i64 us)])) (objs_enc l)
theorem states_enc (l : (Ty.sl stateT).den) : List.map (α := stateT.den) stateT.enc l = els (toStates l) := map_enc stateT.enc toState stateT_enc l
def stD (s : GState) : D := .agg [.t (.sl 6 (els s.Heap.Objs)), I s.Heap.Cap, I s.Heap.Last, I s.Proc, I s.Ready, I s.Halt, I s.Steps, I s.Used]
def ptD (p : GPoints) : D := .agg [I p.Every, I p.Most, .t (.sl 8 (els p.L))]
theorem argD_state (x : stateT.den) : argD stateT x = stD (toState x) := by
  obtain ⟨⟨l, c, la, u⟩, p, r, h, s, us, u2⟩ := x
  exact congrArg (fun e => D.agg [.t (.sl 6 e), I c, I la, I p, I r, I h, I s, I us]) (objs_enc l)
theorem argD_points (x : pointsT.den) : argD pointsT x = ptD (toPoints x) := by
  obtain ⟨e, m, l, u⟩ := x
  exact congrArg (fun x => D.agg [I e, I m, .t (.sl 8 x)]) (states_enc l)
theorem ones {α : Type} (f : α → Nat) (hf : ∀ x, f x = 1) (l : List α) : (l.map f).sum = l.length := by
  induction l with
  | nil => rfl
  | cons a l ih => simp only [List.map_cons, List.sum_cons, List.length_cons, ih, hf]; omega
theorem sum_mem {α : Type} (f : α → Nat) : ∀ (l : List α) (x : α), x ∈ l → f x ≤ (l.map f).sum
  | a :: l, x, h => by
    rw [List.map_cons, List.sum_cons]
    rcases List.mem_cons.1 h with rfl | h
    · omega
    · have := sum_mem f l x h; omega
theorem sum_len {α : Type} (f : α → Nat) (hf : ∀ x, 1 ≤ f x) (l : List α) : l.length ≤ (l.map f).sum := by
  induction l with
  | nil => exact Nat.le_refl _
  | cons a l ih => have := hf a; simp only [List.map_cons, List.sum_cons, List.length_cons]; omega
theorem obj_bulk (x : objT.den) : (toObj x).Slots.length + (toObj x).Text.size + 1 ≤ objT.bulk x := by
  obtain ⟨c, kd, sl, tx, b, h, u⟩ := x
  have hs := ones (Ty.bulk iT) (fun _ => rfl) sl
  show List.length (α := iT.den) sl + ByteArray.size tx + 1 ≤ 1 + (1 + ((List.map (α := iT.den) (Ty.bulk iT) sl).sum + 1 + (ByteArray.size tx + 1 + (1 + (1 + 0)))))
  rw [hs]; omega
theorem int_wf {n : Int} (h : (Lit.int .i64 n).wf = true) : inR n := by
  simp only [Lit.wf, IntKind.min, IntKind.max, IntKind.signed, IntKind.bits, Bool.and_eq_true, decide_eq_true_eq, if_true] at h
  unfold inR
  constructor <;> omega
theorem objs_small (l : (Ty.sl objT).den) (hw : (Ty.sl objT).wf l) (hk : (Ty.sl objT).bulk l ≤ 1048576) (c la : Int) : Slim ⟨toObjs l, c, la⟩ ∧ BitsR ⟨toObjs l, c, la⟩ := by
  have h1 : (List.map (α := objT.den) objT.bulk l).sum + 1 ≤ 1048576 := hk
  have h2 := sum_len (α := objT.den) objT.bulk (fun x => by have := obj_bulk x; omega) l
  refine ⟨⟨?_, fun o ho => ?_⟩, fun o ho => ?_⟩
  · refine Nat.le_trans (Nat.le_of_eq (List.length_map (α := objT.den) toObj)) ?_
    unfold big; omega
  · obtain ⟨x, hx, rfl⟩ := List.mem_map.1 ho
    have h3 := sum_mem (α := objT.den) objT.bulk l x hx
    have h4 := obj_bulk x
    unfold big; omega
  · obtain ⟨x, hx, rfl⟩ := List.mem_map.1 ho
    have := hw.2 x hx
    obtain ⟨c, kd, sl, tx, b, h, u⟩ := x
    exact int_wf this.2.2.2.2.1
theorem state_slim (x : stateT.den) (hw : stateT.wf x) (hk : stateT.bulk x ≤ 1048576) : SlimS (toState x) := by
  obtain ⟨⟨l, c, la, u⟩, p, r, h, s, us, u2⟩ := x
  have h1 : ((Ty.sl objT).bulk l + (1 + (1 + 0))) + (1 + (1 + (1 + (1 + (1 + 0))))) ≤ 1048576 := hk
  exact objs_small l hw.1.1 (by omega) c la
theorem points_slim (x : pointsT.den) (hw : pointsT.wf x) (hk : pointsT.bulk x ≤ 1048576) : SlimP (toPoints x) := by
  obtain ⟨e, m, l, u⟩ := x
  have h1 : 1 + (1 + ((List.map (α := stateT.den) stateT.bulk l).sum + 1 + 0)) ≤ 1048576 := hk
  have h2 := sum_len (α := stateT.den) stateT.bulk (fun x => by
    obtain ⟨⟨l, c, la, u⟩, p, r, h, s, us, u2⟩ := x
    show 1 ≤ ((Ty.sl objT).bulk l + (1 + (1 + 0))) + (1 + (1 + (1 + (1 + (1 + 0)))))
    omega) l
  refine ⟨?_, fun t ht => ?_⟩
  · refine Nat.le_trans (Nat.le_of_eq (List.length_map (α := stateT.den) toState)) ?_
    show List.length (α := stateT.den) l ≤ big
    unfold big; omega
  · obtain ⟨y, hy, rfl⟩ := List.mem_map.1 ht
    exact state_slim y (hw.2.2.1.2 y hy) (by have := sum_mem (α := stateT.den) stateT.bulk l y hy; omega)
end Go.Pv

/- Checkpoints: the laws. -/
namespace Go.Pv
open Go Go.Proofs
abbrev tellT : Ty := .pair pointsT (.pair stateT (.pair iT .unit))
abbrev bestT : Ty := .pair pointsT (.pair iT .unit)
abbrev firstT : Ty := .pair stateT (.pair twoT (.pair iT .unit))
theorem law_pointsTell (x : tellT.den) (hx : tellT.wf x) (hk : tellT.bulk x ≤ 1048576) : cO Try.prog lore 3 (argDs tellT x) [] = some (.val (Bo true), []) := by
  obtain ⟨pp, ss, n, v⟩ := x
  have h3 : pointsT.bulk pp + (stateT.bulk ss + (1 + 0)) ≤ 1048576 := hk
  have hp := points_slim pp hx.1 (by omega)
  have hs := state_slim ss hx.2.1 (by omega)
  show cO Try.prog lore 3 [argD pointsT pp, argD stateT ss, I n] [] = _
  rw [argD_points pp, argD_state ss]
  exact (f_L22_PointsTell (toPoints pp).Every (toPoints pp).Most (toPoints pp).L (toState ss).Heap.Objs (toState ss).Heap.Cap (toState ss).Heap.Last (toState ss).Proc (toState ss).Ready (toState ss).Halt (toState ss).Steps (toState ss).Used n).trans
    ((congrArg (fun o => ob o fun r : Bool => some (Res.val (D.t (T.sc (Value.bool r))), ([] : Frames))) (pointsTell (toPoints pp) (toState ss) n hp hs)).trans rfl)
theorem law_pointsBest (x : bestT.den) (hx : bestT.wf x) (hk : bestT.bulk x ≤ 1048576) : cO Try.prog lore 5 (argDs bestT x) [] = some (.val (Bo true), []) := by
  obtain ⟨pp, n, v⟩ := x
  have h3 : pointsT.bulk pp + (1 + 0) ≤ 1048576 := hk
  have hp := points_slim pp hx.1 (by omega)
  show cO Try.prog lore 5 [argD pointsT pp, I n] [] = _
  rw [argD_points pp]
  exact (f_L22_PointsBest (toPoints pp).Every (toPoints pp).Most (toPoints pp).L n).trans
    ((congrArg (fun o => ob o fun r : Bool => some (Res.val (D.t (T.sc (Value.bool r))), ([] : Frames))) (pointsBest (toPoints pp) n hp)).trans rfl)
theorem law_pointsFirst (x : firstT.den) (hx : firstT.wf x) (hk : firstT.bulk x ≤ 1048576) : cO Try.prog lore 7 (argDs firstT x) [] = some (.val (Bo true), []) := by
  obtain ⟨ss, ⟨a, b, u⟩, n, v⟩ := x
  have h3 : stateT.bulk ss + ((1 + (1 + 0)) + (1 + 0)) ≤ 1048576 := hk
  have hs := state_slim ss hx.1 (by omega)
  show cO Try.prog lore 7 [argD stateT ss, .agg [I a, I b], I n] [] = _
  rw [argD_state ss]
  exact (f_L22_PointsFirst (toState ss).Heap.Objs (toState ss).Heap.Cap (toState ss).Heap.Last (toState ss).Proc (toState ss).Ready (toState ss).Halt (toState ss).Steps (toState ss).Used a b n).trans
    ((congrArg (fun o => ob o fun r : Bool => some (Res.val (D.t (T.sc (Value.bool r))), ([] : Frames))) (pointsFirst (toState ss) (a, b) n hs)).trans rfl)
abbrev keepT : Ty := .pair iT (.pair iT (.pair (.sl iT) .unit))
theorem law_pointsKeep (x : keepT.den) (_hx : keepT.wf x) (_hk : keepT.bulk x ≤ 1048576) : cO Try.prog lore 4 (argDs keepT x) [] = some (.val (Bo true), []) := by
  obtain ⟨e, m, l, v⟩ := x
  exact (f_L22_PointsKeep e m l).trans
    ((congrArg (fun o => ob o fun r : Bool => some (Res.val (D.t (T.sc (Value.bool r))), ([] : Frames))) (pointsKeep e m l)).trans rfl)
abbrev againT : Ty := .pair pointsT (.pair stateT (.pair twoT .unit))
theorem law_pointsAgain (x : againT.den) (hx : againT.wf x) (hk : againT.bulk x ≤ 1048576) : cO Try.prog lore 6 (argDs againT x) [] = some (.val (Bo true), []) := by
  obtain ⟨pp, ss, ⟨a, b, u⟩, v⟩ := x
  have h3 : pointsT.bulk pp + (stateT.bulk ss + ((1 + (1 + 0)) + 0)) ≤ 1048576 := hk
  have hp := points_slim pp hx.1 (by omega)
  have hs := state_slim ss hx.2.1 (by omega)
  show cO Try.prog lore 6 [argD pointsT pp, argD stateT ss, .agg [I a, I b]] [] = _
  rw [argD_points pp, argD_state ss]
  exact pointsAgain (toPoints pp) (toState ss) a b hp hs
end Go.Pv
