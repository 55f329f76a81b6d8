/- A part of the road: the interpreter of plain data and the proof that it is right. -/
import Derived.Test.YtcomdnpeoicpkaaNY
import Derived.Test.YtcomdnpeoicpkaaOY
import Derived.Test.YtcomdnpeoicpkaaSY
import Derived.Test.YtcomdnpeoicpkaaAY
import Derived.Test.YtcomdnpeoicpkaaG
set_option linter.unusedVariables false
set_option linter.unusedSimpArgs false
/- Walks up through classes: the laws in plain words. -/
namespace Go.Pv
section
variable (cls : Int → Bool) (sup : Int → Int) (top : Int → Bool)
/-- The class so many steps above. -/
def pth : Nat → Int → Option Int
  | 0, c => some c
  | k + 1, c => if cls c = true ∧ top (sup c) = false then pth k (sup c) else none
variable {cls sup top}
/-- What is found is on the way, and nothing ahead of it is. -/
theorem upR_some {goes : Int → Bool → Bool} {n : Nat} {c i : Int} (h : upR cls sup top goes n c = some (i, true)) :
    ∃ k, k < n ∧ pth cls sup top k c = some i ∧ cls i = true ∧ goes i true = false ∧ ∀ j, j < k → ∀ x, pth cls sup top j c = some x → goes x true = true := by
  induction n generalizing c with
  | zero => cases h
  | succ n ih =>
    unfold upR at h
    by_cases hc : cls c = true
    · rw [if_pos hc] at h
      by_cases hg : goes c true = true
      · rw [if_pos hg] at h
        by_cases ht : top (sup c) = true
        · rw [if_pos ht] at h; cases h
        · rw [if_neg ht] at h
          obtain ⟨k, h1, h2, h3, h4, h5⟩ := ih h
          refine ⟨k + 1, by omega, ?_, h3, h4, fun j hj x hx => ?_⟩
          · unfold pth; rw [if_pos ⟨hc, by simpa using ht⟩]; exact h2
          · cases j with
            | zero => cases hx; exact hg
            | succ j => unfold pth at hx; rw [if_pos ⟨hc, by simpa using ht⟩] at hx; exact h5 j (by omega) x hx
      · rw [if_neg hg] at h
        cases h
        exact ⟨0, by omega, rfl, hc, by simpa using hg, fun j hj => by omega⟩
    · rw [if_neg hc] at h
      split at h <;> cases h
end
/-! ### classes of heaps -/
def idxP (c : Int) : Nat := (at? c).getD 0
theorem objP_some {h : GHeap} {c : Int} {o : GObj} : objP h c = some o ↔ ∃ i, at? c = some i ∧ i < h.Objs.length ∧ o = atN h.Objs i := by
  unfold objP
  cases e : at? c with
  | none => simp
  | some i =>
    by_cases hi : i < h.Objs.length
    · simp [hi, eq_comm]
    · simp [hi]
theorem clsP_ref {h : GHeap} {c : Int} (e : clsP h c = true) : ∃ i, at? c = some i ∧ i < h.Objs.length ∧ c = 2 * (i : Int) ∧ i ≤ 1048575 ∧ (atN h.Objs i).Kind = 0 ∧ 3 ≤ (atN h.Objs i).Slots.length ∧
    (objP h (atI (atN h.Objs i).Slots 0)).isSome = true ∧ (prP h (atI (atN h.Objs i).Slots 1)).2 = true := by
  unfold clsP at e
  split at e
  · cases e
  · rename_i o ho
    obtain ⟨i, h1, h2, rfl⟩ := objP_some.1 ho
    have h3 := atv_some.1 h1
    split at e
    · rename_i hk
      split at e
      · cases e
      · split at e
        · cases e
        · rename_i p hp
          simp only [Bool.and_eq_true] at e
          exact ⟨i, h1, h2, h3.1, h3.2, hk, by omega, by rw [hp]; rfl, e.1⟩
    · cases e
/-! ### LookUnder -/
/-- What goes on behind a class: its dictionary has not the selector. -/
def goesF (h : GHeap) (s : Int) (i : Int) (is : Bool) : Bool := is && (scan (prP h (slotP h 1 i)).1 s).isNone
theorem upR_true {cls : Int → Bool} {sup : Int → Int} {top : Int → Bool} {goes : Int → Bool → Bool} {n : Nat} {c i : Int} (h : upR cls sup top goes n c = some (i, true)) : cls i = true ∧ goes i true = false := by
  obtain ⟨_, _, _, h3, h4, _⟩ := upR_some h
  exact ⟨h3, h4⟩
theorem findP_eq {h : GHeap} (ok : okHeapB h = true) (c s : Int) : findP h c s = findR (upR (clsP h) (slotP h 0) topP (goesF h s) 64 c) (fun i => (prP h (slotP h 1 i)).1) s := by
  unfold findP
  rw [if_pos ok]
  rfl
/-! ### LookHides -/
end Go.Pv

/- Heaps: the document's functions in plain words (layers 3 and 9). -/
namespace Go.Pv
open Go.Pv.Bs
theorem bAnd_low (v : Int) : bAnd .i64 v 9223372036854775807 = v % 9223372036854775808 := by
  have h : (BitVec.ofInt IntKind.i64.bits v &&& BitVec.ofInt IntKind.i64.bits 9223372036854775807).toNat = (v % 9223372036854775808).toNat := by
    show (BitVec.ofInt 64 v &&& BitVec.ofInt 64 9223372036854775807).toNat = _
    rw [BitVec.toNat_and, BitVec.toNat_ofInt, BitVec.toNat_ofInt]
    show (v % ((2 ^ 64 : Nat) : Int)).toNat &&& (2 ^ 63 - 1) = _
    rw [Nat.and_two_pow_sub_one_eq_mod]
    omega
  unfold bAnd
  rw [h, wrap_w64, w64_id (by omega) (by omega)]
  omega
theorem iShr_52 (v : Int) : iShr .i64 v 52 = v / 4503599627370496 := by
  show v.fdiv (2 ^ (min (52 : Int).toNat 64)) = v / 4503599627370496
  rw [show (2 : Int) ^ (min (52 : Int).toNat 64) = 4503599627370496 from rfl, Int.fdiv_eq_ediv_of_nonneg _ (by omega)]
def inR (b : Int) : Prop := -9223372036854775808 ≤ b ∧ b ≤ 9223372036854775807
theorem R02_Canon_eq (a : Int) (h : inR a) : F_R02_Canon a = some (canonF a) := by
  unfold F_R02_Canon F_R02_Kind F_R02_plain F_R02_most F_R02_NaN canonF nanB
  simp only [ob_some, bAnd_low, iShr_52]
  rw [Int.tmod_eq_emod_of_nonneg (by omega), w64_id h.1 h.2]
  by_cases h1 : a % 9223372036854775808 / 4503599627370496 = 2047
  · rw [if_pos h1]
    by_cases h2 : a % 9223372036854775808 % 4503599627370496 = 0
    · have h3 : a % 4503599627370496 = 0 := by omega
      rw [if_pos h2, ob_some]
      simp [h3]
    · have h3 : ¬ a % 4503599627370496 = 0 := by omega
      rw [if_neg h2, ob_some]
      simp [h1, h3]
  · rw [if_neg h1]
    by_cases h4 : 0 < a % 9223372036854775808 / 4503599627370496
    · rw [if_pos h4, ob_some]; simp [h1]
    · rw [if_neg h4]
      by_cases h5 : 0 < a % 9223372036854775808 % 4503599627370496
      · rw [if_pos h5, ob_some]; simp [h1]
      · rw [if_neg h5, ob_some]; simp [h1]
theorem R01_At_eq (v : Int) : F_R01_At v = some (atP v) := by
  unfold F_R01_At atP at?
  by_cases h : v % 2 = 0
  · rw [if_pos ((tmod_two v).2 h)]
    by_cases h1 : 0 ≤ v
    · rw [if_pos h1]
      by_cases h2 : 2097150 < v
      · rw [if_pos h2, if_neg (by omega)]
      · rw [if_neg h2, if_pos (by omega), Int.tdiv_eq_ediv_of_nonneg h1, w64_id (by omega) (by omega)]
        simp only [Option.some.injEq, Prod.mk.injEq, and_true]; omega
    · rw [if_neg h1, if_neg (by omega)]
  · rw [if_neg (fun k => h ((tmod_two v).1 k)), if_neg (by omega)]
theorem tdiv_odd {v : Int} (h : v % 2 = 1) : (v - 1).tdiv 2 = v / 2 := by
  have e : v - 1 = 2 * (v / 2) := by omega
  rw [e, Int.mul_tdiv_cancel_left _ (by omega)]
theorem R01_N_eq (v : Int) : F_R01_N v = some (nP v) := by
  unfold F_R01_N nP n?
  by_cases h : v % 2 = 0
  · rw [if_pos ((tmod_two v).2 h), if_neg (by omega)]
  · rw [if_neg (fun k => h ((tmod_two v).1 k))]
    by_cases h1 : -2147483647 ≤ v
    · rw [if_pos h1]
      by_cases h2 : 2147483647 < v
      · rw [if_pos h2, if_neg (by omega)]
      · have h3 : v % 2 = 1 := by omega
        rw [if_neg h2, if_pos (by omega), w64_id (n := v - 1) (by omega) (by omega), tdiv_odd h3, w64_id (by omega) (by omega)]
    · rw [if_neg h1, if_neg (by omega)]
theorem R03_Ref_eq (h : GHeap) (v : Int) : F_R03_Ref h v = some (refI h.n v) := by
  unfold F_R03_Ref refI
  rw [R01_At_eq, ob_some]
  unfold atP GHeap.n
  cases at? v with
  | none => simp
  | some i =>
    by_cases hi : i < h.Objs.length
    · have : ¬ ((h.Objs.length : Int) ≤ (i : Int)) := by omega
      simp [hi, this]
    · have : (h.Objs.length : Int) ≤ (i : Int) := by omega
      simp [hi, this]
theorem R03_Has_eq (h : GHeap) (v : Int) : F_R03_Has h v = some (hasB h.n v) := by
  unfold F_R03_Has
  rw [R01_N_eq, ob_some, nP_snd, R03_Ref_eq, ob_some, hasB_ref]
  cases (n? v).isSome <;> simp
theorem R03_hash_eq (n : Int) : F_R03_hash n = some (decide (0 ≤ n ∧ n ≤ 1073741823)) := by
  unfold F_R03_hash
  by_cases h : 0 ≤ n
  · have : (n < 1073741824) ↔ (n ≤ 1073741823) := by omega
    simp [h, this]
  · simp [h]
theorem R03_obj_eq (h : GHeap) (o : GObj) (hl : o.Slots.length ≤ big) (hb : inR o.Bits) : F_R03_obj h o = some (dec (OkObj h.n o)) := by
  unfold F_R03_obj
  unfold big at hl
  obtain ⟨r, e, hr⟩ := iter_all o.Slots (hasB h.n) (S := fun p => s0_R03_obj h.Objs h.Cap h.Last o.Class o.Kind o.Slots o.Text o.Bits o.Hash p) (fun _ => false) (fun k hk => by
    simp only [s0_R03_obj, atI_nat _ k hk]
    rw [if_pos (by omega), if_pos (by omega), w64_id (by omega) (by omega)]
    rw [R03_Has_eq h, ob_some]
    cases hasB h.n o.Slots[k] <;> simp) (by simp [s0_R03_obj])
  rw [e, ob_some]
  cases r with
  | inl b =>
    obtain ⟨h7, k, _, rfl, _⟩ := hr
    rw [sm_inl, dec_false fun k => by
      rw [List.all_eq_true.2 k.slots] at h7; cases h7]
  | inr u =>
    have h7 : o.Slots.all (hasB h.n) = true := hr
    rw [sm_inr]
    simp only [R03_Ref_eq, R03_hash_eq, R02_Canon_eq _ hb, ob_some]
    by_cases h1 : 0 ≤ refI h.n o.Class
    case neg => rw [dec_false fun k => h1 k.cls]; simp [h1]
    by_cases h2 : 0 ≤ o.Kind
    case neg => rw [dec_false fun k => h2 k.kind.1]; simp [h2]
    by_cases h2' : o.Kind ≤ 2
    case neg => rw [dec_false fun k => h2' k.kind.2]; simp [h2']
    by_cases h3 : 0 ≤ o.Hash ∧ o.Hash ≤ 1073741823
    case neg => rw [dec_false fun k => h3 k.hash, decide_eq_false h3]; simp
    by_cases h4 : (o.Slots.length : Int) ≤ 64
    case neg => rw [dec_false fun k => h4 (by have := k.nslots; omega)]; simp [h4]
    by_cases h5 : (o.Text.size : Int) ≤ 64
    case neg => rw [dec_false fun k => h5 (by have := k.ntext; omega)]; simp [h5]
    by_cases h6 : canonF o.Bits = o.Bits
    case neg =>
      rw [dec_false fun k => h6 k.canon]
      have : (canonF o.Bits == o.Bits) = false := by simpa using h6
      simp [this]
    have hiff : OkObj h.n o ↔ ((o.Kind ≠ 0 → o.Slots = []) ∧ (o.Kind ≠ 1 → o.Text = ByteArray.empty) ∧ (o.Kind ≠ 2 → o.Bits = 0)) :=
      ⟨fun k => ⟨k.ptr, k.text, k.bits⟩, fun k => ⟨h1, ⟨h2, h2'⟩, h3, k.1, k.2.1, k.2.2, by omega, by omega, h6, List.all_eq_true.1 h7⟩⟩
    rw [dec_congr hiff, dec_decide, decide_eq_true h3]
    have e0 : ({ data := #[] } : ByteArray) = ByteArray.empty := rfl
    have e1 : (canonF o.Bits == o.Bits) = true := by simpa using h6
    rw [e0, e1]
    simp only [h1, h2, h2', h4, h5, if_true]
    by_cases k0 : o.Kind = 0
    · simp [k0]
      by_cases b1 : o.Text = ByteArray.empty <;> by_cases b2 : o.Bits = 0 <;> simp [b1, b2]
    · by_cases k1 : o.Kind = 1
      · simp [k1]
        by_cases b1 : o.Slots = [] <;> by_cases b2 : o.Bits = 0 <;> simp [b1, b2]
      · have k2 : o.Kind = 2 := by omega
        simp [k2]
        by_cases b1 : o.Slots = [] <;> by_cases b2 : o.Text = ByteArray.empty <;> simp [b1, b2]
/-- All bits are a machine's. -/
def BitsR (h : GHeap) : Prop := ∀ o ∈ h.Objs, inR o.Bits
theorem R03_May_eq (h : GHeap) (hs : Slim h) (hb : BitsR h) : F_R03_May h = some (dec (OkHeap h)) := by
  obtain ⟨hl, hso⟩ := hs
  unfold big at hl
  unfold F_R03_May
  obtain ⟨r, e, hr⟩ := iter_all h.Objs (fun o => dec (OkObj h.n o)) (S := fun p => s0_R03_May h.Objs h.Cap h.Last p) (fun _ => false) (fun k hk => by
    have ho := R03_obj_eq h h.Objs[k] (by have := hso _ (List.getElem_mem hk); omega) (hb _ (List.getElem_mem hk))
    simp only [s0_R03_May, atI_nat _ k hk]
    rw [if_pos (by omega), if_pos (by omega), w64_id (by omega) (by omega)]
    rw [ho, ob_some]
    cases dec (OkObj h.n h.Objs[k]) <;> simp) (by simp [s0_R03_May])
  rw [e, ob_some]
  cases r with
  | inl b =>
    obtain ⟨h5, k, hk, rfl, hf, _⟩ := hr
    rw [sm_inl, dec_false fun ok => by
      rw [show OkObj h.n h.Objs[k] = OkObj h.Objs.length h.Objs[k] from rfl, dec_true (ok.objs _ (List.getElem_mem hk))] at hf; cases hf]
  | inr u =>
    have h5 : h.Objs.all (fun o => dec (OkObj h.n o)) = true := hr
    rw [sm_inr]
    by_cases h1 : 1 ≤ h.Cap
    case neg => rw [if_neg h1, dec_false fun k => h1 k.cap.1]
    by_cases h2 : h.Cap ≤ 256
    case neg => rw [if_pos h1, if_neg h2, dec_false fun k => h2 k.cap.2]
    by_cases h3 : (h.Objs.length : Int) ≤ h.Cap
    case neg => rw [if_pos h1, if_pos h2, if_neg h3, dec_false fun k => h3 k.len]
    rw [if_pos h1, if_pos h2, if_pos h3, R03_hash_eq, ob_some]
    by_cases h4 : 0 ≤ h.Last ∧ h.Last ≤ 1073741823
    case neg => rw [decide_eq_false h4, dec_false fun k => h4 k.last]
    rw [decide_eq_true h4, dec_true ⟨⟨h1, h2⟩, h3, h4, fun o ho => dec_iff.1 (List.all_eq_true.1 h5 o ho)⟩]
theorem R03_Small_ex (h : GHeap) (hl : h.Objs.length ≤ big) : ∃ b, F_R03_Small h = some b := by
  unfold big at hl
  unfold F_R03_Small
  obtain ⟨r, e, _⟩ := iter_post (S := fun p : Int × Int => s0_R03_Small h.Objs h.Cap h.Last p.fst p.snd) (fun p => h.Objs.length - p.2.toNat) (fun p => ∃ k : Nat, p.2 = k ∧ k ≤ h.Objs.length) (fun _ => True) (fun p hp => by
    obtain ⟨n, i⟩ := p
    obtain ⟨k, hk, hle⟩ := hp
    simp only at hk
    subst hk
    simp only [s0_R03_Small]
    by_cases h1 : (k : Int) < h.Objs.length
    · rw [if_pos h1]
      by_cases h2 : n < 5000
      · rw [if_pos h2, if_pos (by omega), if_pos (by omega), w64_id (n := (k : Int) + 1) (by omega) (by omega)]
        exact .inl ⟨_, rfl, ⟨k + 1, rfl, by omega⟩, by simp; omega⟩
      · rw [if_neg h2]; exact .inr ⟨_, rfl, trivial⟩
    · rw [if_neg h1]; exact .inr ⟨_, rfl, trivial⟩) ((0 : Int), (0 : Int)) ⟨0, rfl, Nat.zero_le _⟩
  rw [e, ob_some]
  split <;> exact ⟨_, rfl⟩
theorem R03_Copy_eq (h : GHeap) (hs : h.Objs.length ≤ 1048576) (hsl : ∀ o ∈ h.Objs, o.Slots.length ≤ 1048576) : F_R03_Copy h = some h := by
  unfold F_R03_Copy
  have loop := iter_acc (S := fun p : Int × List GObj => s0_R03_Copy h.Objs h.Cap h.Last [] 0 0 h.Cap h.Last p.fst p.snd) (fun k => ((k : Int), h.Objs.take k)) h.Objs.length (b := h.Objs) (fun k hk => by
    have hlo : (h.Objs.take k).length = k := by rw [List.length_take]; omega
    have h1 := hsl _ (List.getElem_mem hk)
    simp only [s0_R03_Copy, atI_nat _ k hk]
    rw [if_pos (by omega), if_pos (by omega), if_pos (by unfold most; omega), if_pos (by rw [hlo]; unfold most; omega), w64_id (by omega) (by omega), List.take_succ_eq_append_getElem hk]
    rfl) (by
    simp only [s0_R03_Copy]
    rw [if_neg (by omega), List.take_length])
  have loop' : iterO (fun p : Int × List GObj => s0_R03_Copy h.Objs h.Cap h.Last [] 0 0 h.Cap h.Last p.fst p.snd) ((0 : Int), []) = some h.Objs := by simpa using loop
  rw [loop', ob_some]
end Go.Pv

/- Classes: the document's functions in plain words. -/
namespace Go.Pv
open Go.Pv.Bs
theorem atI_cast {α : Type} [Enc α] (l : List α) (i : Nat) : atI l (i : Int) = atN l i := rfl
theorem R09_pairs_eq (h : GHeap) (v : Int) : F_R09_pairs h v = some (prP h v) := by
  unfold F_R09_pairs
  rw [R03_Ref_eq, ob_some]
  unfold refI prP objP atP GHeap.n
  cases e : at? v with
  | none => simp
  | some i =>
    by_cases hi : i < h.Objs.length
    · simp only [if_pos hi]
      by_cases h0 : i = 0
      · subst h0; simp
      · rw [if_neg (by omega), if_pos (by omega), if_pos (by omega), atI_cast]
        simp only [if_neg (show ¬ (i : Int) = 0 by omega)]
        by_cases hk : (atN h.Objs i).Kind = 0
        · rw [if_pos hk, if_pos (by omega), if_pos hk]
        · rw [if_neg hk, if_neg hk]
    · simp [hi]
theorem R09_May_eq (h : GHeap) (hs : Slim h) (hb : BitsR h) (c : Int) : F_R09_May h c = some (dec (OkHeap h) && clsP h c) := by
  unfold F_R09_May
  rw [R03_Ref_eq, ob_some, R03_May_eq h hs hb, ob_some]
  cases dec (OkHeap h) with
  | false => simp
  | true =>
    rw [if_pos rfl, Bool.true_and]
    unfold clsP
    have ho : objP h c = match at? c with | some i => if i < h.Objs.length then some (atN h.Objs i) else none | none => none := rfl
    rw [ho]
    unfold refI GHeap.n
    cases e : at? c with
    | none => simp
    | some i =>
      by_cases hi : i < h.Objs.length
      · simp only [if_pos hi]
        rw [if_pos (by omega), if_pos (by omega), atI_cast]
        generalize atN h.Objs i = o
        by_cases hk : o.Kind = 0
        · rw [if_pos hk, if_pos (by omega), if_pos hk]
          by_cases hl : (o.Slots.length : Int) < 3
          · rw [if_pos hl, if_pos hl]
          · rw [if_neg hl, if_neg hl, if_pos (by omega), if_pos (by omega), R09_pairs_eq, ob_some, if_pos (by omega), R01_N_eq, ob_some, if_pos (by omega), R03_Ref_eq, ob_some]
            have hr : (0 ≤ refI h.n (atI o.Slots 0)) ↔ ∃ p, objP h (atI o.Slots 0) = some p := by
              unfold refI objP GHeap.n
              cases at? (atI o.Slots 0) with
              | none => simp
              | some j => by_cases hj : j < h.Objs.length <;> simp [hj]
            cases hp : objP h (atI o.Slots 0) with
            | none => rw [if_neg (by rw [hr, hp]; simp)]
            | some p =>
              rw [if_pos (by rw [hr, hp]; exact ⟨p, rfl⟩)]
              dsimp only
              cases (prP h (atI o.Slots 1)).2 <;> cases (nP (atI o.Slots 2)).2 <;> by_cases h3 : 0 ≤ (nP (atI o.Slots 2)).1 <;> simp [h3]
        · rw [if_neg hk, if_neg hk]
      · simp [hi]
end Go.Pv

/- LookHides: the law. -/
namespace Go.Pv
open Go.Pv.Bs
/-- A class's dictionary. -/
theorem dict_row {h : GHeap} {d : Int} (e : (prP h d).2 = true) : ∃ j : Nat, refI h.n d = (j : Int) ∧ j < h.Objs.length ∧ (d = 0 ↔ j = 0) ∧ (prP h d).1 = if d = 0 then [] else (atN h.Objs j).Slots := by
  unfold prP at e ⊢
  split at e
  · cases e
  · rename_i o ho
    obtain ⟨j, h1, h2, rfl⟩ := objP_some.1 ho
    have h3 := atv_some.1 h1
    have ha : (atP d).1 = (j : Int) := by unfold atP; rw [h1]
    rw [ha] at e ⊢
    refine ⟨j, ?_, h2, by omega, ?_⟩
    · unfold refI GHeap.n; rw [h1]; simp [h2]
    · by_cases hj : j = 0
      · subst hj
        rw [if_pos (show ((0 : Nat) : Int) = 0 from rfl), if_pos (by omega)]
      · rw [if_neg (by omega)] at e
        rw [if_neg (by omega), if_neg (show ¬ d = 0 by omega)]
        split at e
        · rename_i hk; rw [if_pos hk]
        · cases e
theorem class_ref {h : GHeap} {c : Int} (e : clsP h c = true) : ∃ i : Nat, refI h.n c = (i : Int) ∧ i < h.Objs.length ∧ c = 2 * (i : Int) ∧ slotP h 0 c = atI (atN h.Objs i).Slots 0 ∧ slotP h 1 c = atI (atN h.Objs i).Slots 1 ∧ 3 ≤ (atN h.Objs i).Slots.length ∧
    (prP h (slotP h 1 c)).2 = true ∧ (atN h.Objs i).Kind = 0 ∧ (objP h (slotP h 0 c)).isSome = true ∧ at? c = some i := by
  obtain ⟨i, h1, h2, h3, h4, h5, h6, h7, h8⟩ := clsP_ref e
  have ho : objP h c = some (atN h.Objs i) := objP_some.2 ⟨i, h1, h2, rfl⟩
  have hs0 : slotP h 0 c = atI (atN h.Objs i).Slots 0 := by unfold slotP; rw [ho]
  have hs1 : slotP h 1 c = atI (atN h.Objs i).Slots 1 := by unfold slotP; rw [ho]
  exact ⟨i, by unfold refI GHeap.n; rw [h1]; simp [h2], h2, h3, hs0, hs1, h6, by rw [hs1]; exact h8, h5, by rw [hs0]; exact h7, h1⟩
theorem look_Find_eq (h : GHeap) (hs : Slim h) (c s : Int) : F_look_Find h c s = some (findP h c s) := by unfold F_look_Find; rw [if_pos hs]
end Go.Pv

/- A pair that is laid first into a dictionary: in plain words. -/
namespace Go.Pv
section
variable {cls : Int → Bool} {sup sup' : Int → Int} {top : Int → Bool} {goes goes' : Int → Bool → Bool} (P : Int → Prop)
theorem upR_same (h1 : ∀ c, P c → cls c = true → sup' c = sup c ∧ goes' c true = goes c true) (h2 : ∀ c, cls c = true → top (sup c) = false → P (sup c)) (h3 : ∀ c, goes' c false = goes c false) :
    ∀ n c, P c → upR cls sup' top goes' n c = upR cls sup top goes n c
  | 0, _, _ => rfl
  | n + 1, c, hc => by
    unfold upR
    by_cases hk : cls c = true
    · obtain ⟨e1, e2⟩ := h1 c hc hk
      rw [if_pos hk, if_pos hk, e1, e2]
      by_cases ht : top (sup c) = true
      · rw [if_pos ht, if_pos ht]
      · rw [if_neg ht, if_neg ht, upR_same h1 h2 h3 n (sup c) (h2 c hk (by simpa using ht))]
    · rw [if_neg hk, if_neg hk, h3]
theorem upR_inv (h2 : ∀ c, cls c = true → top (sup c) = false → P (sup c)) : ∀ n c, P c → ∀ i, upR cls sup top goes n c = some (i, true) → P i
  | 0, _, _, _, e => by cases e
  | n + 1, c, hc, i, e => by
    unfold upR at e
    by_cases hk : cls c = true
    · rw [if_pos hk] at e
      by_cases hg : goes c true = true
      · rw [if_pos hg] at e
        by_cases ht : top (sup c) = true
        · rw [if_pos ht] at e; cases e
        · rw [if_neg ht] at e
          exact upR_inv h2 n (sup c) (h2 c hk (by simpa using ht)) i e
      · rw [if_neg hg] at e; cases e; exact hc
    · rw [if_neg hk] at e
      split at e <;> cases e
end
/-- An object with two slots more ahead. -/
def GObj.ahead (o : GObj) (a b : Int) : GObj := ⟨o.Class, o.Kind, a :: b :: o.Slots, o.Text, o.Bits, o.Hash⟩
/-- A heap in which an object has two slots more ahead. -/
def GHeap.lays (h : GHeap) (j : Nat) (a b : Int) : GHeap := ⟨h.Objs.set j ((atN h.Objs j).ahead a b), h.Cap, h.Last⟩
variable {h : GHeap} {j : Nat} {a b : Int}
theorem objP_lays (v : Int) (hj : j < h.Objs.length) : objP (h.lays j a b) v = if at? v = some j then some ((atN h.Objs j).ahead a b) else objP h v := by
  unfold objP GHeap.lays
  cases e : at? v with
  | none => simp
  | some i =>
    dsimp only
    rw [List.length_set]
    by_cases hij : i = j
    · subst hij
      rw [if_pos hj, if_pos rfl]
      congr 1
      simp [atN, List.getD_eq_getElem?_getD, hj]
    · have : atN (h.Objs.set j ((atN h.Objs j).ahead a b)) i = atN h.Objs i := by
        simp [atN, List.getD_eq_getElem?_getD, Ne.symm hij]
      rw [this, if_neg (show ¬ some i = some j from fun e => hij (Option.some.inj e))]
theorem objP_lays_some (v : Int) (hj : j < h.Objs.length) : (objP (h.lays j a b) v).isSome = (objP h v).isSome := by
  rw [objP_lays v hj]
  by_cases e : at? v = some j
  · rw [if_pos e, show objP h v = some (atN h.Objs j) from objP_some.2 ⟨j, e, hj, rfl⟩]; rfl
  · rw [if_neg e]
theorem prP_lays_snd (v : Int) (hj : j < h.Objs.length) : (prP (h.lays j a b) v).2 = (prP h v).2 := by
  unfold prP
  rw [objP_lays v hj]
  by_cases e : at? v = some j
  · rw [if_pos e, show objP h v = some (atN h.Objs j) from objP_some.2 ⟨j, e, hj, rfl⟩]
    dsimp only
    show (if (atP v).1 = 0 then _ else if (atN h.Objs j).Kind = 0 then _ else _ : List Int × Bool).2 = _
    split
    · rfl
    · split <;> rfl
  · rw [if_neg e]
theorem prP_lays_fst (v : Int) (hj : j < h.Objs.length) (e : at? v ≠ some j) : (prP (h.lays j a b) v).1 = (prP h v).1 := by
  unfold prP
  rw [objP_lays v hj, if_neg e]
theorem prP_lays_at (v : Int) (hj : j < h.Objs.length) (e : at? v = some j) (h0 : j ≠ 0) (hk : (atN h.Objs j).Kind = 0) : (prP (h.lays j a b) v).1 = a :: b :: (prP h v).1 := by
  unfold prP
  have ha : (atP v).1 = (j : Int) := by unfold atP; rw [e]
  rw [objP_lays v hj, if_pos e, show objP h v = some (atN h.Objs j) from objP_some.2 ⟨j, e, hj, rfl⟩, ha]
  dsimp only
  have hk' : ((atN h.Objs j).ahead a b).Kind = 0 := hk
  rw [if_neg (show ¬ (j : Int) = 0 by omega), if_neg (show ¬ (j : Int) = 0 by omega), if_pos hk, if_pos hk']
  rfl
theorem clsP_lays (c : Int) (hj : j < h.Objs.length) (e : at? c ≠ some j) : clsP (h.lays j a b) c = clsP h c := by
  unfold clsP
  rw [objP_lays c hj, if_neg e]
  cases objP h c with
  | none => rfl
  | some o =>
    dsimp only
    split
    · split
      · rfl
      · have h1 := objP_lays_some (h := h) (a := a) (b := b) (atI o.Slots 0) hj
        rw [prP_lays_snd _ hj]
        cases e1 : objP h (atI o.Slots 0) with
        | none => rw [e1] at h1; cases e2 : objP (h.lays j a b) (atI o.Slots 0) with
          | none => rfl
          | some p => rw [e2] at h1; cases h1
        | some q => rw [e1] at h1; cases e2 : objP (h.lays j a b) (atI o.Slots 0) with
          | none => rw [e2] at h1; cases h1
          | some p => rfl
    · rfl
theorem slotP_lays (k c : Int) (hj : j < h.Objs.length) (e : at? c ≠ some j) : slotP (h.lays j a b) k c = slotP h k c := by
  unfold slotP
  rw [objP_lays c hj, if_neg e]
theorem lays_ok (ok : OkHeap h) (hj : j < h.Objs.length) (hk : (atN h.Objs j).Kind = 0) (hl : (atN h.Objs j).Slots.length ≤ 60) (ha : hasB h.n a = true) (hb : hasB h.n b = true) : OkHeap (h.lays j a b) := by
  have hn : (h.Objs.set j ((atN h.Objs j).ahead a b)).length = h.Objs.length := List.length_set ..
  refine ⟨ok.cap, by show ((h.Objs.set j _).length : Int) ≤ h.Cap; rw [hn]; exact ok.len, ok.last, fun o ho => ?_⟩
  show OkObj (h.Objs.set j _).length o
  rw [hn]
  have oj := ok.objs _ (atN_mem hj)
  rcases List.mem_or_eq_of_mem_set (show o ∈ h.Objs.set j _ from ho) with hm | rfl
  · exact ok.objs o hm
  · exact ⟨oj.cls, oj.kind, oj.hash, fun k => absurd hk k, oj.text, oj.bits, by show (a :: b :: (atN h.Objs j).Slots).length ≤ 64; simp only [List.length_cons]; omega, oj.ntext, oj.canon, fun v hv => by
      rcases List.mem_cons.1 (show v ∈ a :: b :: (atN h.Objs j).Slots from hv) with rfl | hv
      · exact ha
      · rcases List.mem_cons.1 hv with rfl | hv
        · exact hb
        · exact oj.slots v hv⟩
theorem top_zero {v : Int} (e : topP v = false) : v ≠ 0 := by
  rintro rfl
  simp [topP, atP, at?] at e
/-- What stands behind the law's guards. -/
structure Lays (h : GHeap) (c d : Int) (j : Nat) (a b : Int) : Prop where
  ok : okHeapB h = true
  okg : okHeapB (h.lays j a b) = true
  hj : j < h.Objs.length
  at_ : at? d = some j
  j0 : j ≠ 0
  kind : (atN h.Objs j).Kind = 0
  cc : clsP h c = true
  cd : slotP h 1 c = d
  ne : c ≠ d
  no : clsP h d = false
  nog : clsP (h.lays j a b) d = false
  other : ∀ k : Nat, 1 ≤ k → k < h.Objs.length → clsP h (2 * (k : Int)) = true → 2 * (k : Int) ≠ c → slotP h 1 (2 * (k : Int)) ≠ d
variable {c d : Int}
theorem Lays.at_iff (L : Lays h c d j a b) (v : Int) : at? v = some j ↔ v = d := by
  have := (atv_some.1 L.at_)
  rw [atv_some]
  constructor
  · intro e; omega
  · rintro rfl; exact this
theorem Lays.cls (L : Lays h c d j a b) : clsP (h.lays j a b) = clsP h := by
  funext v
  by_cases e : v = d
  · subst e; rw [L.no, L.nog]
  · exact clsP_lays v L.hj fun e' => e ((L.at_iff v).1 e')
theorem Lays.nd (L : Lays h c d j a b) {v : Int} (hv : clsP h v = true) : at? v ≠ some j := fun e => by
  rw [(L.at_iff v).1 e, L.no] at hv; cases hv
/-- The pairs of the classes on the way. -/
theorem Lays.row (L : Lays h c d j a b) {v : Int} (hv : clsP h v = true) (hP : v = c ∨ v ≠ 0) : (prP (h.lays j a b) (slotP (h.lays j a b) 1 v)).1 = if v = c then a :: b :: (prP h (slotP h 1 v)).1 else (prP h (slotP h 1 v)).1 := by
  rw [slotP_lays _ _ L.hj (L.nd hv)]
  by_cases e : v = c
  · subst e
    rw [if_pos rfl, L.cd, prP_lays_at d L.hj L.at_ L.j0 L.kind]
  · rw [if_neg e]
    refine prP_lays_fst _ L.hj fun e' => ?_
    obtain ⟨i, h1, h2, h3, _⟩ := clsP_ref hv
    subst h3
    exact L.other i (by rcases hP with h | h <;> omega) h2 hv e ((L.at_iff _).1 e')
theorem Lays.first (L : Lays h c d j a b) : findP (h.lays j a b) c a = (b, c, 0) := by
  have hg : goesF (h.lays j a b) a c true = false := by
    unfold goesF
    rw [L.row L.cc (.inl rfl), if_pos rfl]
    simp [scan]
  rw [findP_eq L.okg]
  unfold upR
  rw [L.cls, if_pos L.cc, hg, if_neg (by simp)]
  unfold findR
  dsimp only
  rw [L.row L.cc (.inl rfl), if_pos rfl]
  simp [scan]
theorem Lays.rest (L : Lays h c d j a b) {s : Int} (hs : s ≠ a) : findP (h.lays j a b) c s = findP h c s := by
  have hscan : ∀ v, clsP h v = true → (v = c ∨ v ≠ 0) → scan (prP (h.lays j a b) (slotP (h.lays j a b) 1 v)).1 s = scan (prP h (slotP h 1 v)).1 s := fun v hv hP => by
    rw [L.row hv hP]
    by_cases e : v = c
    · rw [if_pos e]
      show (if a = s then some b else scan _ s) = _
      rw [if_neg (Ne.symm hs)]
    · rw [if_neg e]
  have h2 : ∀ v, clsP h v = true → topP (slotP h 0 v) = false → (slotP h 0 v = c ∨ slotP h 0 v ≠ 0) := fun v _ ht => .inr (top_zero ht)
  have hu := upR_same (cls := clsP h) (sup := slotP h 0) (sup' := slotP (h.lays j a b) 0) (top := topP) (goes := goesF h s) (goes' := goesF (h.lays j a b) s) (fun v => v = c ∨ v ≠ 0) (fun v hP hv => ⟨slotP_lays _ _ L.hj (L.nd hv), by unfold goesF; rw [hscan v hv hP]⟩) h2 (fun v => rfl) 64 c (.inl rfl)
  rw [findP_eq L.okg, findP_eq L.ok, L.cls, hu]
  cases e : upR (clsP h) (slotP h 0) topP (goesF h s) 64 c with
  | none => rfl
  | some r =>
    obtain ⟨i, t⟩ := r
    cases t with
    | false => rfl
    | true =>
      unfold findR
      dsimp only
      rw [hscan i (upR_true e).1 (upR_inv (fun v => v = c ∨ v ≠ 0) h2 64 c (Or.inl rfl) i e)]
/-- A dictionary is an object. -/
theorem dict_at {h : GHeap} {d : Int} (e : (prP h d).2 = true) : ∃ j : Nat, refI h.n d = (j : Int) ∧ at? d = some j := by
  unfold prP at e
  split at e
  · cases e
  · rename_i o ho
    obtain ⟨j, h1, h2, rfl⟩ := objP_some.1 ho
    exact ⟨j, by unfold refI GHeap.n; rw [h1]; simp [h2], h1⟩
theorem dict_kind {h : GHeap} {d : Int} {j : Nat} (e : (prP h d).2 = true) (hd : at? d = some j) (h0 : j ≠ 0) : (atN h.Objs j).Kind = 0 := by
  unfold prP at e
  split at e
  · cases e
  · rename_i o ho
    obtain ⟨i, h1, h2, rfl⟩ := objP_some.1 ho
    have hij : i = j := by rw [h1] at hd; exact Option.some.inj hd
    subst hij
    have ha : (atP d).1 = (i : Int) := by unfold atP; rw [h1]
    rw [ha, if_neg (by omega)] at e
    split at e
    · assumption
    · cases e
end Go.Pv

/- LookLays: the law. -/
namespace Go.Pv
open Go Go.Proofs Go.Pv.Bs
theorem lays_loop (h : GHeap) (hs : Slim h) (hb : BitsR h) (ok : OkHeap h) (c d a b e : Int) (hcd : c ≠ d) :
    ∃ r, iterO (fun p => s0_L09_LookLays c d h.Objs h.Cap h.Last a b e p) (1 : Int) = some r ∧ sm r (fun t => t = true) fun _ => ∀ k : Nat, 1 ≤ k → k < h.Objs.length → clsP h (2 * (k : Int)) = true → (2 * (k : Int) ≠ c → slotP h 1 (2 * (k : Int)) ≠ d) ∧ 2 * (k : Int) ≠ d := by
  have hlen : h.Objs.length ≤ 256 := by have := ok.len; have := ok.cap.2; omega
  refine iter_post (S := fun p => s0_L09_LookLays c d h.Objs h.Cap h.Last a b e p) (fun i => h.Objs.length + 1 - i.toNat) (fun i => ∃ m : Nat, i = m ∧ 1 ≤ m ∧ ∀ k : Nat, 1 ≤ k → k < m → clsP h (2 * (k : Int)) = true → (2 * (k : Int) ≠ c → slotP h 1 (2 * (k : Int)) ≠ d) ∧ 2 * (k : Int) ≠ d) _ (fun i hi => ?_) 1 ⟨1, rfl, Nat.le_refl _, fun k h1 h2 => by omega⟩
  obtain ⟨m, rfl, hm, hall⟩ := hi
  simp only [s0_L09_LookLays]
  by_cases hl : (m : Int) < (h.Objs.length : Int)
  · have e1 : w64 ((2 : Int) * (m : Int)) = 2 * (m : Int) := w64_id (by omega) (by omega)
    have e2 : w64 ((m : Int) + 1) = ((m + 1 : Nat) : Int) := by rw [w64_id (by omega) (by omega)]; omega
    rw [if_pos hl, if_pos (by omega), e1, e2, R09_May_eq h hs hb, dec_true ok, ob_some, Bool.true_and, atI_cast]
    have next : (clsP h (2 * (m : Int)) = true → (2 * (m : Int) ≠ c → slotP h 1 (2 * (m : Int)) ≠ d) ∧ 2 * (m : Int) ≠ d) →
        (∃ m' : Nat, ((m + 1 : Nat) : Int) = m' ∧ 1 ≤ m' ∧ ∀ k : Nat, 1 ≤ k → k < m' → clsP h (2 * (k : Int)) = true → (2 * (k : Int) ≠ c → slotP h 1 (2 * (k : Int)) ≠ d) ∧ 2 * (k : Int) ≠ d) := fun hh => by
      refine ⟨m + 1, rfl, by omega, fun k h1 h2 => ?_⟩
      by_cases ek : k = m
      · subst ek; exact hh
      · exact hall k h1 (by omega)
    by_cases hc : clsP h (2 * (m : Int)) = true
    · obtain ⟨i, _, h2, h3, _, h5, h6, _⟩ := class_ref hc
      have him : i = m := by omega
      subst him
      rw [if_pos hc, ← h5]
      by_cases h7 : 2 * (i : Int) = c
      · rw [if_pos h7, if_neg (by rw [h7]; exact hcd)]
        exact .inl ⟨_, rfl, next fun _ => ⟨fun k => absurd h7 k, by rw [h7]; exact hcd⟩, by simp; omega⟩
      · rw [if_neg h7, if_pos (by omega)]
        by_cases h8 : slotP h 1 (2 * (i : Int)) = d
        · rw [if_pos h8]; exact .inr ⟨_, rfl, rfl⟩
        · rw [if_neg h8]
          by_cases h9 : 2 * (i : Int) = d
          · rw [if_pos h9]; exact .inr ⟨_, rfl, rfl⟩
          · rw [if_neg h9]
            exact .inl ⟨_, rfl, next fun _ => ⟨fun _ => h8, h9⟩, by simp; omega⟩
    · rw [if_neg hc]
      exact .inl ⟨_, rfl, next fun k => absurd k hc, by simp; omega⟩
  · rw [if_neg hl]
    exact .inr ⟨_, rfl, fun k h1 h2 => hall k h1 (by omega)⟩
def LaysTrue (h : GHeap) (c a b s : Int) : Prop := cO Try.prog lore 5 [D.agg [D.t (T.sl 6 (els h.Objs)), I h.Cap, I h.Last], I c, D.agg [I a, I b, I s]] [] = some (.val (Bo true), [])
theorem lookLays (h : GHeap) (c a b s : Int) (hs : Slim h) (hb : BitsR h) : LaysTrue h c a b s := by
  obtain ⟨t, hb1⟩ := R03_Small_ex h hs.1
  cases t with
  | false => exact lays0 _ _ _ _ _ _ _ hb1
  | true =>
  by_cases hl : (h.Objs.length : Int) ≤ 40
  case neg => exact lays1 _ _ _ _ _ _ _ hb1 hl
  have fm := R09_May_eq h hs hb c
  by_cases ok : OkHeap h
  case neg => rw [dec_false ok] at fm; exact lays2 _ _ _ _ _ _ _ hb1 hl fm
  have okB : okHeapB h = true := by rw [okHeapB_eq, dec_true ok]
  rw [dec_true ok, Bool.true_and] at fm
  by_cases hc : clsP h c = true
  case neg => exact lays2 _ _ _ _ _ _ _ hb1 hl (fm.trans (by simpa using hc))
  rw [hc] at fm
  have fa := R03_Has_eq h a
  by_cases ha : hasB h.n a = true
  case neg => exact lays3 _ _ _ _ _ _ _ hb1 hl fm (fa.trans (by simpa using ha))
  rw [ha] at fa
  have fb := R03_Has_eq h b
  by_cases hbb : hasB h.n b = true
  case neg => exact lays4 _ _ _ _ _ _ _ hb1 hl fm fa (fb.trans (by simpa using hbb))
  rw [hbb] at fb
  obtain ⟨i, i1, i2, i3, i4, i5, i6, i7, _⟩ := class_ref hc
  have fi : F_R03_Ref h c = some (i : Int) := by rw [R03_Ref_eq, i1]
  have l1 : (1 : Int) < ((atI h.Objs (i : Int)).Slots.length : Int) := by rw [atI_cast]; omega
  have i5' : slotP h 1 c = atI (atI h.Objs (i : Int)).Slots 1 := i5
  by_cases hd0 : slotP h 1 c = 0
  case pos => exact lays5 _ _ _ _ _ _ _ _ hb1 hl fm fa fb fi (by omega) (by omega) l1 (i5'.symm.trans hd0)
  by_cases hdc : slotP h 1 c = c
  case pos => exact lays6 _ _ _ _ _ _ _ _ hb1 hl fm fa fb fi (by omega) (by omega) l1 (by rw [← i5']; exact hd0) (i5'.symm.trans hdc)
  obtain ⟨j, j1, j2, j3, j4⟩ := dict_row i7
  have fj : F_R03_Ref h (atI (atI h.Objs (i : Int)).Slots 1) = some (j : Int) := by rw [R03_Ref_eq, ← i5', j1]
  have n0 : ¬ atI (atI h.Objs (i : Int)).Slots 1 = 0 := by rw [← i5']; exact hd0
  have nc : ¬ atI (atI h.Objs (i : Int)).Slots 1 = c := by rw [← i5']; exact hdc
  by_cases h60 : (60 : Int) < ((atN h.Objs j).Slots.length : Int)
  case pos => exact lays7 _ _ _ _ _ _ _ _ _ hb1 hl fm fa fb fi (by omega) (by omega) l1 n0 nc fj (by omega) (by omega) h60
  obtain ⟨r, hr, hpost⟩ := lays_loop h hs hb ok c (slotP h 1 c) a b s (fun e => hdc e.symm)
  rw [i5'] at hr
  cases r with
  | inl t => exact lays8 _ _ _ _ _ _ _ _ _ hb1 hl fm fa fb fi (by omega) (by omega) l1 n0 nc fj (by omega) (by omega) h60 (by rw [hr, show t = true from hpost])
  | inr u =>
  have hpost' : ∀ k : Nat, 1 ≤ k → k < h.Objs.length → clsP h (2 * (k : Int)) = true → (2 * (k : Int) ≠ c → slotP h 1 (2 * (k : Int)) ≠ slotP h 1 c) ∧ 2 * (k : Int) ≠ slotP h 1 c := hpost
  have hsl : ∀ o ∈ h.Objs, o.Slots.length ≤ 1048576 := fun q hq => by
    have := (ok.objs q hq).nslots
    omega
  have hat : at? (slotP h 1 c) = some j := by
    obtain ⟨j', e1, e2⟩ := dict_at i7
    rw [e1] at j1
    rw [e2]
    congr 1; omega
  have hj0 : j ≠ 0 := fun e => hd0 (j3.2 e)
  have hd2 : slotP h 1 c = 2 * (j : Int) := (atv_some.1 hat).1
  have hkind : (atN h.Objs j).Kind = 0 := dict_kind i7 hat hj0
  have hno : clsP h (slotP h 1 c) = false := by
    cases e : clsP h (slotP h 1 c) with
    | false => rfl
    | true => exact absurd hd2.symm (hpost' j (by omega) j2 (by rw [← hd2]; exact e)).2
  have g1 : List.take h.Objs.length (h.Objs.set ((j : Int)).toNat ((atN h.Objs j).ahead a b)) = h.Objs.set j ((atN h.Objs j).ahead a b) := List.take_of_length_le (by simp)
  have okg := lays_ok ok j2 hkind (by omega) ha hbb
  have okgB : okHeapB (h.lays j a b) = true := by rw [okHeapB_eq, dec_true okg]
  have gs : Slim (h.lays j a b) := by
    refine ⟨?_, fun q hq => ?_⟩
    · show (h.Objs.set j _).length ≤ big
      rw [List.length_set]; exact hs.1
    · have := okg.objs q hq
      have h1 := this.nslots
      have h2 := this.ntext
      unfold big; omega
  have gb : BitsR (h.lays j a b) := fun q hq => by
    rcases List.mem_or_eq_of_mem_set (show q ∈ h.Objs.set j _ from hq) with hm | rfl
    · exact hb q hm
    · exact hb (atN h.Objs j) (atN_mem j2)
  have e8 : (2 + (atI h.Objs (j : Int)).Slots.length) * 8 ≤ most := by rw [atI_cast]; unfold most; omega
  have cp : F_R03_Copy h = some h := R03_Copy_eq h (by omega) hsl
  have fg := R09_May_eq (h.lays j a b) gs gb (slotP h 1 c)
  rw [dec_true okg, Bool.true_and] at fg
  by_cases hnog : clsP (h.lays j a b) (slotP h 1 c) = true
  case pos =>
    rw [hnog, i5'] at fg
    exact lays9 _ _ _ _ _ _ _ _ _ _ hb1 hl fm fa fb fi (by omega) (by omega) l1 n0 nc fj (by omega) (by omega) h60 hr cp (by omega) e8 g1 fg
  have L : Lays h c (slotP h 1 c) j a b := ⟨okB, okgB, j2, hat, hj0, hkind, hc, rfl, fun e => hdc e.symm, hno, by simpa using hnog, fun k h1 h2 h3 h4 => (hpost' k h1 h2 h3).1 h4⟩
  rw [show clsP (h.lays j a b) (slotP h 1 c) = false by simpa using hnog, i5'] at fg
  have ff : F_look_Find (h.lays j a b) c a = some (b, c, 0) := by rw [look_Find_eq _ gs, L.first]
  by_cases hsa : s = a
  case pos =>
    subst hsa
    exact laysA _ _ _ _ _ _ _ _ _ _ hb1 hl fm fa fb fi (by omega) (by omega) l1 n0 nc fj (by omega) (by omega) h60 hr cp (by omega) e8 g1 fg ff (look_Find_eq h hs c s)
  have f1 := look_Find_eq h hs c s
  have f2 : F_look_Find (h.lays j a b) c s = some (findP h c s) := by rw [look_Find_eq _ gs, L.rest hsa]
  have fc : F_R09_May (h.lays j a b) c = some true := by rw [R09_May_eq _ gs gb, dec_true okg, L.cls, hc]; rfl
  exact laysB _ _ _ _ _ _ _ _ _ _ _ hb1 hl fm fa fb fi (by omega) (by omega) l1 n0 nc fj (by omega) (by omega) h60 hr cp (by omega) e8 g1 fg ff f1 f2 hsa fc
end Go.Pv

/- Heaps: from the laws' arguments to plain data. -/
namespace Go.Pv
open Go Go.Proofs
abbrev iT : Ty := .int .i64
abbrev objT : Ty := .pair iT (.pair iT (.pair (.sl iT) (.pair .str (.pair iT (.pair iT .unit)))))
abbrev heapT : Ty := .pair (.sl objT) (.pair iT (.pair iT .unit))
def toObj (x : objT.den) : GObj := ⟨x.1, x.2.1, x.2.2.1, x.2.2.2.1, x.2.2.2.2.1, x.2.2.2.2.2.1⟩
def toObjs (l : (Ty.sl objT).den) : List GObj := List.map toObj l
def toHeap (x : heapT.den) : GHeap := ⟨toObjs x.1, x.2.1, x.2.2.1⟩
theorem map_enc {α β : Type} [Enc β] (e : α → List T) (f : α → β) (h : ∀ x, e x = Enc.enc (f x)) (l : List α) : List.map e l = els (List.map f l) := by
  unfold els
  rw [List.map_map]
  exact List.map_congr_left fun x _ => h x
theorem objT_enc (x : objT.den) : objT.enc x = Enc.enc (toObj x) := rfl
theorem objs_enc (l : (Ty.sl objT).den) : List.map (α := objT.den) objT.enc l = els (toObjs l) := map_enc objT.enc toObj objT_enc l
theorem ones {α : Type} (f : α → Nat) (hf : ∀ x, f x = 1) (l : List α) : (l.map f).sum = l.length := by
  induction l with
  | nil => rfl
  | cons a l ih => simp only [List.map_cons, List.sum_cons, List.length_cons, ih, hf]; omega
theorem sum_mem {α : Type} (f : α → Nat) : ∀ (l : List α) (x : α), x ∈ l → f x ≤ (l.map f).sum
  | a :: l, x, h => by
    rw [List.map_cons, List.sum_cons]
    rcases List.mem_cons.1 h with rfl | h
    · omega
    · have := sum_mem f l x h; omega
theorem sum_len {α : Type} (f : α → Nat) (hf : ∀ x, 1 ≤ f x) (l : List α) : l.length ≤ (l.map f).sum := by
  induction l with
  | nil => exact Nat.le_refl _
  | cons a l ih => have := hf a; simp only [List.map_cons, List.sum_cons, List.length_cons]; omega
theorem obj_bulk (x : objT.den) : (toObj x).Slots.length + (toObj x).Text.size + 1 ≤ objT.bulk x := by
  obtain ⟨c, kd, sl, tx, b, h, u⟩ := x
  have hs := ones (Ty.bulk iT) (fun _ => rfl) sl
  show List.length (α := iT.den) sl + ByteArray.size tx + 1 ≤ 1 + (1 + ((List.map (α := iT.den) (Ty.bulk iT) sl).sum + 1 + (ByteArray.size tx + 1 + (1 + (1 + 0)))))
  rw [hs]; omega
theorem int_wf {n : Int} (h : (Lit.int .i64 n).wf = true) : inR n := by
  simp only [Lit.wf, IntKind.min, IntKind.max, IntKind.signed, IntKind.bits, Bool.and_eq_true, decide_eq_true_eq, if_true] at h
  unfold inR
  constructor <;> omega
theorem objs_small (l : (Ty.sl objT).den) (hw : (Ty.sl objT).wf l) (hk : (Ty.sl objT).bulk l ≤ 1048576) (c la : Int) : Slim ⟨toObjs l, c, la⟩ ∧ BitsR ⟨toObjs l, c, la⟩ := by
  have h1 : (List.map (α := objT.den) objT.bulk l).sum + 1 ≤ 1048576 := hk
  have h2 := sum_len (α := objT.den) objT.bulk (fun x => by have := obj_bulk x; omega) l
  refine ⟨⟨?_, fun o ho => ?_⟩, fun o ho => ?_⟩
  · refine Nat.le_trans (Nat.le_of_eq (List.length_map (α := objT.den) toObj)) ?_
    unfold big; omega
  · obtain ⟨x, hx, rfl⟩ := List.mem_map.1 ho
    have h3 := sum_mem (α := objT.den) objT.bulk l x hx
    have h4 := obj_bulk x
    unfold big; omega
  · obtain ⟨x, hx, rfl⟩ := List.mem_map.1 ho
    have := hw.2 x hx
    obtain ⟨c, kd, sl, tx, b, h, u⟩ := x
    exact int_wf this.2.2.2.2.1
def hpD (h : GHeap) : D := .agg [.t (.sl 6 (els h.Objs)), I h.Cap, I h.Last]
theorem argD_heap (x : heapT.den) : argD heapT x = hpD (toHeap x) := by
  obtain ⟨l, c, la, u⟩ := x
  exact congrArg (fun e => D.agg [.t (.sl 6 e), I c, I la]) (objs_enc l)
theorem heap_slim (x : heapT.den) (hw : heapT.wf x) (hk : heapT.bulk x ≤ 1048576) : Slim (toHeap x) ∧ BitsR (toHeap x) := by
  obtain ⟨l, c, la, u⟩ := x
  have h1 : (Ty.sl objT).bulk l + (1 + (1 + 0)) ≤ 1048576 := hk
  exact objs_small l hw.1 (by omega) c la
theorem ints_len (l : (Ty.sl iT).den) (hk : (Ty.sl iT).bulk l ≤ 1048576) : List.length (α := Int) l ≤ 1048576 := by
  have h1 : (List.map (α := iT.den) (Ty.bulk iT) l).sum + 1 ≤ 1048576 := hk
  have h2 := ones (α := iT.den) (Ty.bulk iT) (fun _ => rfl) l
  have h3 : List.length (α := iT.den) l ≤ 1048576 := by omega
  exact h3
theorem argD_ints (l : (Ty.sl iT).den) : argD (.sl iT) l = .t (.sl 1 (els (α := Int) l)) := rfl
end Go.Pv

/- LookLays: the law, of data. -/
namespace Go.Pv
open Go Go.Proofs
abbrev threeT : Ty := .pair iT (.pair iT (.pair iT .unit))
abbrev laysT : Ty := .pair heapT (.pair iT (.pair threeT .unit))
theorem law_lookLays (x : laysT.den) (hx : laysT.wf x) (hk : laysT.bulk x ≤ 1048576) : cO Try.prog lore 5 (argDs laysT x) [] = some (.val (Bo true), []) := by
  obtain ⟨h, c, ⟨a, b, s, u⟩, u'⟩ := x
  have h3 : heapT.bulk h + (1 + ((1 + (1 + (1 + 0))) + 0)) ≤ 1048576 := hk
  obtain ⟨a1, a2⟩ := heap_slim h hx.1 (by omega)
  have l := lookLays (toHeap h) c a b s a1 a2
  show cO Try.prog lore 5 [argD heapT h, I c, .agg [I a, I b, I s]] [] = _
  rw [argD_heap]
  exact l
end Go.Pv
