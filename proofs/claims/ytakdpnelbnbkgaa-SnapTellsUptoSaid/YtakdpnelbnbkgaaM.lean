/- A part of the road: the interpreter of plain data and the proof that it is right. -/
import Derived.Test.YtakdpnelbnbkgaaO
import Derived.Test.YtakdpnelbnbkgaaR
import Derived.Test.YtakdpnelbnbkgaaN
import Derived.Test.YtakdpnelbnbkgaaS
import Derived.KernelRfl
import Derived.Test.YtakdpnelbnbkgaaG
set_option linter.unusedVariables false
set_option linter.unusedSimpArgs false
/- Heaps: the document's functions in plain words (layers 3 and 9). -/
namespace Go.Pv
open Go.Pv.Bs
theorem bAnd_low (v : Int) : bAnd .i64 v 9223372036854775807 = v % 9223372036854775808 := by
  have h : (BitVec.ofInt IntKind.i64.bits v &&& BitVec.ofInt IntKind.i64.bits 9223372036854775807).toNat = (v % 9223372036854775808).toNat := by
    show (BitVec.ofInt 64 v &&& BitVec.ofInt 64 9223372036854775807).toNat = _
    rw [BitVec.toNat_and, BitVec.toNat_ofInt, BitVec.toNat_ofInt]
    show (v % ((2 ^ 64 : Nat) : Int)).toNat &&& (2 ^ 63 - 1) = _
    rw [Nat.and_two_pow_sub_one_eq_mod]
    omega
  unfold bAnd
  rw [h, wrap_w64, w64_id (by omega) (by omega)]
  omega
theorem iShr_52 (v : Int) : iShr .i64 v 52 = v / 4503599627370496 := by
  show v.fdiv (2 ^ (min (52 : Int).toNat 64)) = v / 4503599627370496
  rw [show (2 : Int) ^ (min (52 : Int).toNat 64) = 4503599627370496 from rfl, Int.fdiv_eq_ediv_of_nonneg _ (by omega)]
def inR (b : Int) : Prop := -9223372036854775808 ≤ b ∧ b ≤ 9223372036854775807
theorem R02_Canon_eq (a : Int) (h : inR a) : F_R02_Canon a = some (canonF a) := by
  unfold F_R02_Canon F_R02_Kind F_R02_plain F_R02_most F_R02_NaN canonF nanB
  simp only [ob_some, bAnd_low, iShr_52]
  rw [Int.tmod_eq_emod_of_nonneg (by omega), w64_id h.1 h.2]
  by_cases h1 : a % 9223372036854775808 / 4503599627370496 = 2047
  · rw [if_pos h1]
    by_cases h2 : a % 9223372036854775808 % 4503599627370496 = 0
    · have h3 : a % 4503599627370496 = 0 := by omega
      rw [if_pos h2, ob_some]
      simp [h3]
    · have h3 : ¬ a % 4503599627370496 = 0 := by omega
      rw [if_neg h2, ob_some]
      simp [h1, h3]
  · rw [if_neg h1]
    by_cases h4 : 0 < a % 9223372036854775808 / 4503599627370496
    · rw [if_pos h4, ob_some]; simp [h1]
    · rw [if_neg h4]
      by_cases h5 : 0 < a % 9223372036854775808 % 4503599627370496
      · rw [if_pos h5, ob_some]; simp [h1]
      · rw [if_neg h5, ob_some]; simp [h1]
theorem R01_At_eq (v : Int) : F_R01_At v = some (atP v) := by
  unfold F_R01_At atP at?
  by_cases h : v % 2 = 0
  · rw [if_pos ((tmod_two v).2 h)]
    by_cases h1 : 0 ≤ v
    · rw [if_pos h1]
      by_cases h2 : 2097150 < v
      · rw [if_pos h2, if_neg (by omega)]
      · rw [if_neg h2, if_pos (by omega), Int.tdiv_eq_ediv_of_nonneg h1, w64_id (by omega) (by omega)]
        simp only [Option.some.injEq, Prod.mk.injEq, and_true]; omega
    · rw [if_neg h1, if_neg (by omega)]
  · rw [if_neg (fun k => h ((tmod_two v).1 k)), if_neg (by omega)]
theorem tdiv_odd {v : Int} (h : v % 2 = 1) : (v - 1).tdiv 2 = v / 2 := by
  have e : v - 1 = 2 * (v / 2) := by omega
  rw [e, Int.mul_tdiv_cancel_left _ (by omega)]
theorem R01_N_eq (v : Int) : F_R01_N v = some (nP v) := by
  unfold F_R01_N nP n?
  by_cases h : v % 2 = 0
  · rw [if_pos ((tmod_two v).2 h), if_neg (by omega)]
  · rw [if_neg (fun k => h ((tmod_two v).1 k))]
    by_cases h1 : -2147483647 ≤ v
    · rw [if_pos h1]
      by_cases h2 : 2147483647 < v
      · rw [if_pos h2, if_neg (by omega)]
      · have h3 : v % 2 = 1 := by omega
        rw [if_neg h2, if_pos (by omega), w64_id (n := v - 1) (by omega) (by omega), tdiv_odd h3, w64_id (by omega) (by omega)]
    · rw [if_neg h1, if_neg (by omega)]
theorem R03_Ref_eq (h : GHeap) (v : Int) : F_R03_Ref h v = some (refI h.n v) := by
  unfold F_R03_Ref refI
  rw [R01_At_eq, ob_some]
  unfold atP GHeap.n
  cases at? v with
  | none => simp
  | some i =>
    by_cases hi : i < h.Objs.length
    · have : ¬ ((h.Objs.length : Int) ≤ (i : Int)) := by omega
      simp [hi, this]
    · have : (h.Objs.length : Int) ≤ (i : Int) := by omega
      simp [hi, this]
theorem R03_Has_eq (h : GHeap) (v : Int) : F_R03_Has h v = some (hasB h.n v) := by
  unfold F_R03_Has
  rw [R01_N_eq, ob_some, nP_snd, R03_Ref_eq, ob_some, hasB_ref]
  cases (n? v).isSome <;> simp
theorem R03_hash_eq (n : Int) : F_R03_hash n = some (decide (0 ≤ n ∧ n ≤ 1073741823)) := by
  unfold F_R03_hash
  by_cases h : 0 ≤ n
  · have : (n < 1073741824) ↔ (n ≤ 1073741823) := by omega
    simp [h, this]
  · simp [h]
theorem R03_obj_eq (h : GHeap) (o : GObj) (hl : o.Slots.length ≤ big) (hb : inR o.Bits) : F_R03_obj h o = some (dec (OkObj h.n o)) := by
  unfold F_R03_obj
  unfold big at hl
  obtain ⟨r, e, hr⟩ := iter_all o.Slots (hasB h.n) (S := fun p => s0_R03_obj h.Objs h.Cap h.Last o.Class o.Kind o.Slots o.Text o.Bits o.Hash p) (fun _ => false) (fun k hk => by
    simp only [s0_R03_obj, atI_nat _ k hk]
    rw [if_pos (by omega), if_pos (by omega), w64_id (by omega) (by omega)]
    rw [R03_Has_eq h, ob_some]
    cases hasB h.n o.Slots[k] <;> simp) (by simp [s0_R03_obj])
  rw [e, ob_some]
  cases r with
  | inl b =>
    obtain ⟨h7, k, _, rfl, _⟩ := hr
    rw [sm_inl, dec_false fun k => by
      rw [List.all_eq_true.2 k.slots] at h7; cases h7]
  | inr u =>
    have h7 : o.Slots.all (hasB h.n) = true := hr
    rw [sm_inr]
    simp only [R03_Ref_eq, R03_hash_eq, R02_Canon_eq _ hb, ob_some]
    by_cases h1 : 0 ≤ refI h.n o.Class
    case neg => rw [dec_false fun k => h1 k.cls]; simp [h1]
    by_cases h2 : 0 ≤ o.Kind
    case neg => rw [dec_false fun k => h2 k.kind.1]; simp [h2]
    by_cases h2' : o.Kind ≤ 2
    case neg => rw [dec_false fun k => h2' k.kind.2]; simp [h2']
    by_cases h3 : 0 ≤ o.Hash ∧ o.Hash ≤ 1073741823
    case neg => rw [dec_false fun k => h3 k.hash, decide_eq_false h3]; simp
    by_cases h4 : (o.Slots.length : Int) ≤ 64
    case neg => rw [dec_false fun k => h4 (by have := k.nslots; omega)]; simp [h4]
    by_cases h5 : (o.Text.size : Int) ≤ 64
    case neg => rw [dec_false fun k => h5 (by have := k.ntext; omega)]; simp [h5]
    by_cases h6 : canonF o.Bits = o.Bits
    case neg =>
      rw [dec_false fun k => h6 k.canon]
      have : (canonF o.Bits == o.Bits) = false := by simpa using h6
      simp [this]
    have hiff : OkObj h.n o ↔ ((o.Kind ≠ 0 → o.Slots = []) ∧ (o.Kind ≠ 1 → o.Text = ByteArray.empty) ∧ (o.Kind ≠ 2 → o.Bits = 0)) :=
      ⟨fun k => ⟨k.ptr, k.text, k.bits⟩, fun k => ⟨h1, ⟨h2, h2'⟩, h3, k.1, k.2.1, k.2.2, by omega, by omega, h6, List.all_eq_true.1 h7⟩⟩
    rw [dec_congr hiff, dec_decide, decide_eq_true h3]
    have e0 : ({ data := #[] } : ByteArray) = ByteArray.empty := rfl
    have e1 : (canonF o.Bits == o.Bits) = true := by simpa using h6
    rw [e0, e1]
    simp only [h1, h2, h2', h4, h5, if_true]
    by_cases k0 : o.Kind = 0
    · simp [k0]
      by_cases b1 : o.Text = ByteArray.empty <;> by_cases b2 : o.Bits = 0 <;> simp [b1, b2]
    · by_cases k1 : o.Kind = 1
      · simp [k1]
        by_cases b1 : o.Slots = [] <;> by_cases b2 : o.Bits = 0 <;> simp [b1, b2]
      · have k2 : o.Kind = 2 := by omega
        simp [k2]
        by_cases b1 : o.Slots = [] <;> by_cases b2 : o.Text = ByteArray.empty <;> simp [b1, b2]
/-- All bits are a machine's. -/
def BitsR (h : GHeap) : Prop := ∀ o ∈ h.Objs, inR o.Bits
theorem R03_May_eq (h : GHeap) (hs : Slim h) (hb : BitsR h) : F_R03_May h = some (dec (OkHeap h)) := by
  obtain ⟨hl, hso⟩ := hs
  unfold big at hl
  unfold F_R03_May
  obtain ⟨r, e, hr⟩ := iter_all h.Objs (fun o => dec (OkObj h.n o)) (S := fun p => s0_R03_May h.Objs h.Cap h.Last p) (fun _ => false) (fun k hk => by
    have ho := R03_obj_eq h h.Objs[k] (by have := hso _ (List.getElem_mem hk); omega) (hb _ (List.getElem_mem hk))
    simp only [s0_R03_May, atI_nat _ k hk]
    rw [if_pos (by omega), if_pos (by omega), w64_id (by omega) (by omega)]
    rw [ho, ob_some]
    cases dec (OkObj h.n h.Objs[k]) <;> simp) (by simp [s0_R03_May])
  rw [e, ob_some]
  cases r with
  | inl b =>
    obtain ⟨h5, k, hk, rfl, hf, _⟩ := hr
    rw [sm_inl, dec_false fun ok => by
      rw [show OkObj h.n h.Objs[k] = OkObj h.Objs.length h.Objs[k] from rfl, dec_true (ok.objs _ (List.getElem_mem hk))] at hf; cases hf]
  | inr u =>
    have h5 : h.Objs.all (fun o => dec (OkObj h.n o)) = true := hr
    rw [sm_inr]
    by_cases h1 : 1 ≤ h.Cap
    case neg => rw [if_neg h1, dec_false fun k => h1 k.cap.1]
    by_cases h2 : h.Cap ≤ 256
    case neg => rw [if_pos h1, if_neg h2, dec_false fun k => h2 k.cap.2]
    by_cases h3 : (h.Objs.length : Int) ≤ h.Cap
    case neg => rw [if_pos h1, if_pos h2, if_neg h3, dec_false fun k => h3 k.len]
    rw [if_pos h1, if_pos h2, if_pos h3, R03_hash_eq, ob_some]
    by_cases h4 : 0 ≤ h.Last ∧ h.Last ≤ 1073741823
    case neg => rw [decide_eq_false h4, dec_false fun k => h4 k.last]
    rw [decide_eq_true h4, dec_true ⟨⟨h1, h2⟩, h3, h4, fun o ho => dec_iff.1 (List.all_eq_true.1 h5 o ho)⟩]
theorem R03_Small_ex (h : GHeap) (hl : h.Objs.length ≤ big) : ∃ b, F_R03_Small h = some b := by
  unfold big at hl
  unfold F_R03_Small
  obtain ⟨r, e, _⟩ := iter_post (S := fun p : Int × Int => s0_R03_Small h.Objs h.Cap h.Last p.fst p.snd) (fun p => h.Objs.length - p.2.toNat) (fun p => ∃ k : Nat, p.2 = k ∧ k ≤ h.Objs.length) (fun _ => True) (fun p hp => by
    obtain ⟨n, i⟩ := p
    obtain ⟨k, hk, hle⟩ := hp
    simp only at hk
    subst hk
    simp only [s0_R03_Small]
    by_cases h1 : (k : Int) < h.Objs.length
    · rw [if_pos h1]
      by_cases h2 : n < 5000
      · rw [if_pos h2, if_pos (by omega), if_pos (by omega), w64_id (n := (k : Int) + 1) (by omega) (by omega)]
        exact .inl ⟨_, rfl, ⟨k + 1, rfl, by omega⟩, by simp; omega⟩
      · rw [if_neg h2]; exact .inr ⟨_, rfl, trivial⟩
    · rw [if_neg h1]; exact .inr ⟨_, rfl, trivial⟩) ((0 : Int), (0 : Int)) ⟨0, rfl, Nat.zero_le _⟩
  rw [e, ob_some]
  split <;> exact ⟨_, rfl⟩
end Go.Pv

/- Heaps as bytes, and back: in plain words. -/
namespace Go.Pv
open Go
theorem ofL_size (l : List UInt8) : (bytesOfL l).size = l.length := by show l.toArray.size = _; simp
theorem ofL_list (l : List UInt8) : (bytesOfL l).data.toList = l := rfl
theorem ofL_inj {a b : List UInt8} (h : bytesOfL a = bytesOfL b) : a = b := by
  have := congrArg (fun s : ByteArray => s.data.toList) h
  exact this
theorem ofL_nbs (l : List UInt8) : nbs (bytesOfL l) = l.map (·.toNat) := rfl
theorem ext_list (s : ByteArray) (i j : Nat) : (s.extract i j).data.toList = (s.data.toList.take j).drop i := by
  rw [ByteArray.data_extract, Array.toList_extract, List.extract_eq_take_drop, List.take_drop]
  by_cases h : i ≤ j
  · rw [show i + (j - i) = j by omega]
  · have e1 : i + (j - i) = i := by omega
    rw [e1, List.drop_eq_nil_of_le (by simp; omega), List.drop_eq_nil_of_le (by simp; omega)]
theorem ba_of {s : ByteArray} {l : List UInt8} (h : s.data.toList = l) : s = bytesOfL l := by
  apply ByteArray.ext; apply Array.ext'; exact h
theorem take_app (a b : List UInt8) (n : Int) (h : (a.length : Int) = n) : takeB n (bytesOfL (a ++ b)) = some (bytesOfL a, bytesOfL b) := by
  unfold takeB
  rw [if_pos ⟨by omega, by rw [ofL_size, List.length_append]; omega⟩]
  have hn : n.toNat = a.length := by omega
  rw [hn]
  refine congrArg some (Prod.ext (ba_of ?_) (ba_of ?_))
  · rw [ext_list, ofL_list, List.take_left]; rfl
  · rw [ext_list, ofL_list, ofL_size, List.take_length, List.drop_left]
theorem leB_len (k : Nat) : ∀ n : Int, (leB k n).length = k := by
  induction k with
  | zero => intro n; rfl
  | succ k ih => intro n; simp [leB, ih]
theorem emod_mul' (n m : Int) (hm : 0 < m) : n % (256 * m) = n % 256 + 256 * (n / 256 % m) := by
  have e1 := Int.mul_ediv_add_emod n 256
  have e2 := Int.mul_ediv_add_emod (n / 256) m
  have h1 := Int.emod_nonneg n (show (256 : Int) ≠ 0 by omega)
  have h2 := Int.emod_lt_of_pos n (show (0 : Int) < 256 by omega)
  have h3 := Int.emod_nonneg (n / 256) (show m ≠ 0 by omega)
  have h4 := Int.emod_lt_of_pos (n / 256) hm
  generalize n % 256 = a at *
  generalize n / 256 % m = b at *
  have e : n = (a + 256 * b) + 256 * m * (n / 256 / m) := by
    rw [Int.mul_assoc]; omega
  rw [e, Int.add_mul_emod_self_left, Int.emod_eq_of_lt (by omega) (by omega)]
theorem leB_val (k : Nat) : ∀ n : Int, (valN ((leB k n).map (·.toNat)) : Int) = n % 256 ^ k := by
  induction k with
  | zero => intro n; simp [leB, valN]
  | succ k ih =>
    intro n
    rw [leB, List.map_cons, valN]
    have hb : ((UInt8.ofNat (n % 256).toNat).toNat : Int) = n % 256 := by
      rw [UInt8.toNat_ofNat', Nat.mod_eq_of_lt (by omega)]; omega
    rw [Int.natCast_add, Int.natCast_mul, hb, ih]
    have e : (256 : Int) ^ (k + 1) = 256 * 256 ^ k := by rw [Int.pow_succ, Int.mul_comm]
    rw [e, emod_mul' n _ (Int.pow_pos (by omega))]
    rfl
theorem num_le (n : Int) (l : List UInt8) (h1 : -2147483648 ≤ n) (h2 : n ≤ 2147483647) : numB (bytesOfL (leB 4 n ++ l)) = some (n, bytesOfL l) := by
  unfold numB
  rw [take_app _ _ 4 (by rw [leB_len]; rfl)]
  have e := leB_val 4 n
  dsimp only
  rw [ofL_nbs, e]
  congr 2
  simp only [IntKind.wrap, IntKind.signed, IntKind.bits]
  simp
  omega
theorem bits_le (n : Int) (l : List UInt8) (h1 : -9223372036854775808 ≤ n) (h2 : n ≤ 9223372036854775807) : bitsB (bytesOfL (leB 8 n ++ l)) = some (n, bytesOfL l) := by
  unfold bitsB
  rw [take_app _ _ 8 (by rw [leB_len]; rfl)]
  have e := leB_val 8 n
  dsimp only
  rw [ofL_nbs, e]
  congr 2
  simp only [IntKind.wrap, IntKind.signed, IntKind.bits]
  simp
  omega
theorem cnt_le (size : Nat) (hs : 0 < size) (n : Nat) (hn : n ≤ 2147483647) (l : List UInt8) (h : n * size ≤ l.length) : cntB size (bytesOfL (leB 4 n ++ l)) = some (n, bytesOfL l) := by
  unfold cntB
  rw [num_le n l (by omega) (by omega)]
  dsimp only
  rw [ofL_size]
  have := (Nat.le_div_iff_mul_le hs).2 h
  rw [if_pos ⟨by omega, by omega⟩]
  rfl
theorem many_le {α : Type} (f : ByteArray → Option (α × ByteArray)) (g : α → List UInt8) (tl : List UInt8) : ∀ (xs : List α), (∀ x ∈ xs, ∀ l, f (bytesOfL (g x ++ l)) = some (x, bytesOfL l)) → manyB f xs.length (bytesOfL (xs.flatMap g ++ tl)) = some (xs, bytesOfL tl)
  | [], _ => rfl
  | x :: xs, h => by
    rw [List.length_cons, manyB, List.flatMap_cons, List.append_assoc, h x (List.mem_cons_self ..)]
    dsimp only
    rw [many_le f g tl xs fun y hy => h y (List.mem_cons_of_mem _ hy)]
theorem lstB_len (xs : List Int) : (lstB xs).length = 4 + 4 * xs.length := by
  unfold lstB
  rw [List.length_append, leB_len, List.length_flatMap]
  have : ∀ ys : List Int, (ys.map fun a => (leB 4 a).length).sum = 4 * ys.length := fun ys => by
    induction ys with
    | nil => rfl
    | cons a r ih => rw [List.map_cons, List.sum_cons, ih, leB_len, List.length_cons]; omega
  rw [this]
def in32 (n : Int) : Prop := -2147483648 ≤ n ∧ n ≤ 2147483647
theorem list_le (xs : List Int) (tl : List UInt8) (h : ∀ x ∈ xs, in32 x) (hl : xs.length ≤ 2147483647) : listB (bytesOfL (lstB xs ++ tl)) = some (xs, bytesOfL tl) := by
  unfold listB
  have hlen : (xs.flatMap (leB 4)).length = 4 * xs.length := by
    have := lstB_len xs
    unfold lstB at this
    rw [List.length_append, leB_len] at this; omega
  unfold lstB
  rw [List.append_assoc, cnt_le 4 (by omega) xs.length hl _ (by rw [List.length_append, hlen]; omega)]
  dsimp only
  exact many_le numB (leB 4) tl xs fun x hx l => num_le x l (h x hx).1 (h x hx).2
theorem hasB_in {n : Nat} {v : Int} (h : hasB n v = true) : in32 v := by
  rw [hasB_iff] at h
  unfold in32
  rcases h with h | ⟨i, h, _⟩
  · unfold n? at h
    split at h
    · omega
    · cases h
  · rw [atv_some] at h; omega
theorem ref_in {n : Nat} {v : Int} (h : 0 ≤ refI n v) : in32 v := by
  unfold refI at h
  split at h
  · rename_i i hi
    rw [atv_some] at hi
    unfold in32; omega
  · omega
end Go.Pv

/- A heap, with roots, that may be is read from its bytes as it was. -/
namespace Go.Pv
open Go
theorem obj_le {n : Nat} {o : GObj} (hok : OkObj n o) (hb : inR o.Bits) (tl : List UInt8) : objR (bytesOfL (objB o ++ tl)) = some (o, bytesOfL tl) := by
  have k1 := ref_in hok.cls
  have k2 := hok.kind
  have k3 := hok.hash
  obtain ⟨c, k, sl, tx, b, hs⟩ := o
  dsimp only at *
  unfold objR objB
  simp only [List.append_assoc]
  rw [num_le c _ k1.1 k1.2]
  dsimp only
  rw [num_le k _ (by omega) (by omega)]
  dsimp only
  rw [num_le hs _ (by omega) (by omega)]
  dsimp only
  by_cases e0 : k = 0
  · subst e0
    have t0 := hok.text (by show (0 : Int) ≠ 1; omega)
    have b0 := hok.bits (by show (0 : Int) ≠ 2; omega)
    dsimp only at t0 b0
    subst t0 b0
    rw [if_pos rfl, if_pos rfl, list_le sl tl (fun x hx => hasB_in (hok.slots x hx)) (by have := hok.nslots; dsimp only at this; omega)]
  · have s0 := hok.ptr e0
    dsimp only at s0
    subst s0
    rw [if_neg e0, if_neg e0]
    by_cases e1 : k = 1
    · subst e1
      have b0 := hok.bits (by show (1 : Int) ≠ 2; omega)
      dsimp only at b0
      subst b0
      have ht := hok.ntext
      dsimp only at ht
      rw [if_pos rfl, if_pos rfl, List.append_assoc, num_le (tx.size : Int) _ (by omega) (by omega)]
      dsimp only
      rw [take_app tx.data.toList tl tx.size (by rw [Array.length_toList]; rfl)]
      have : bytesOfL tx.data.toList = tx := rfl
      rw [this]
    · have t0 := hok.text e1
      dsimp only at t0
      subst t0
      have e2 : k = 2 := by omega
      subst e2
      rw [if_neg e1, if_neg e1, if_pos rfl, if_pos rfl, bits_le b tl hb.1 hb.2]
theorem mayP_iff {h : GHeap} {r : List Int} : mayP h r = true ↔ OkHeap h ∧ r.length ≤ 64 ∧ ∀ v ∈ r, hasB h.Objs.length v = true := by
  unfold mayP
  rw [okHeapB_eq]
  simp only [Bool.and_eq_true, dec_iff, decide_eq_true_eq, List.all_eq_true]
theorem objB_len {n : Nat} {o : GObj} (h : OkObj n o) : (objB o).length = 16 + 4 * o.Slots.length + o.Text.size + if o.Kind = 2 then 4 else 0 := by
  have k2 := h.kind
  have ht : o.Text.data.toList.length = o.Text.size := by rw [Array.length_toList]; rfl
  unfold objB
  simp only [List.length_append, leB_len]
  by_cases e0 : o.Kind = 0
  · have t0 := h.text (by omega)
    rw [if_pos e0, lstB_len, t0, if_neg (by omega)]
    show _ = 16 + 4 * o.Slots.length + 0 + 0
    omega
  · have s0 := h.ptr e0
    rw [if_neg e0, s0]
    by_cases e1 : o.Kind = 1
    · rw [if_pos e1, List.length_append, leB_len, ht, if_neg (by omega)]
      show _ = 16 + 4 * 0 + _ + 0
      omega
    · have t0 := h.text e1
      rw [if_neg e1, if_pos (by omega), leB_len, t0, if_pos (by omega)]
      rfl
theorem flat_len {α : Type} (f : α → List UInt8) (k : Nat) : ∀ l : List α, (∀ x ∈ l, k ≤ (f x).length) → k * l.length ≤ (l.flatMap f).length
  | [], _ => by simp
  | a :: l, h => by
    have h1 := h a (List.mem_cons_self ..)
    have h2 := flat_len f k l fun x hx => h x (List.mem_cons_of_mem _ hx)
    rw [List.flatMap_cons, List.length_append, List.length_cons, Nat.mul_succ]; omega
theorem body_le {h : GHeap} {r : List Int} (hm : mayP h r = true) (hb : BitsR h) : readP (bytesOfL (bodyB h r)) = some (h, r) := by
  obtain ⟨ok, hr, hv⟩ := mayP_iff.1 hm
  have k1 := ok.cap; have k2 := ok.len; have k3 := ok.last
  have hn : h.Objs.length ≤ 256 := by omega
  obtain ⟨os, cap, last⟩ := h
  dsimp only at *
  unfold readP bodyB
  dsimp only
  rw [take_app [65, 78, 49] _ 3 rfl]
  dsimp only
  rw [if_pos (ofL_list _), num_le cap _ (by omega) (by omega)]
  dsimp only
  rw [num_le last _ (by omega) (by omega)]
  dsimp only
  have hl := flat_len objB 12 os fun o ho => by rw [objB_len (ok.objs o ho)]; omega
  rw [cnt_le 12 (by omega) os.length (by omega) _ (by rw [List.length_append]; omega)]
  dsimp only
  rw [many_le objR objB (lstB r) os fun o ho l => obj_le (ok.objs o ho) (hb o ho) l]
  dsimp only
  have e := list_le r [] (fun v hv' => hasB_in (hv v hv')) (by omega)
  rw [List.append_nil] at e
  rw [e]
  rfl
end Go.Pv

/- Decoding: the printed functions in plain words. -/
namespace Go.Pv
open Go
theorem R07_bit_eq (a b : Int) : F_R07_bit a b = some (bitI a b) := by
  unfold F_R07_bit bitI
  split <;> rfl
theorem R07_inner (s : ByteArray) (i : Int) : ∀ (k : Nat) (x c : Int), k ≤ 8 → iterO (fun p : Int × Int × Int => s1_R07_More s i p.fst p.snd.fst p.snd.snd) (x, c, ((8 - k : Nat) : Int)) = some (itR k x c)
  | 0, x, c, _ => by
    rw [iterO_eq]
    simp [s1_R07_More, itR]
  | k + 1, x, c, hk => by
    have e : w64 (((8 - (k + 1) : Nat) : Int) + 1) = ((8 - k : Nat) : Int) := by rw [w64_id] <;> omega
    have h1 : ((8 - (k + 1) : Nat) : Int) < 8 := by omega
    rw [Bs.iterO_step (a' := (bitI x (c.tmod 2), w64 (c.tdiv 2), ((8 - k : Nat) : Int))) (by simp only [s1_R07_More, R07_bit_eq, ob_some, if_pos h1, e])]
    rw [R07_inner s i k _ _ (by omega), itR]
theorem R07_outer (s : ByteArray) (hs : s.size ≤ big) (k : Nat) : ∀ (x : Int) (i : Nat), i + k = s.size → iterO (fun p : Int × Int => s0_R07_More s p.fst p.snd) (x, (i : Int)) = some (((bts s).drop i).foldl (itR 8) x) := by
  unfold big at hs
  induction k with
  | zero =>
    intro x i hi
    have : i = s.size := by omega
    subst this
    rw [iterO_eq, List.drop_eq_nil_of_le (by rw [bts_len]; exact Nat.le_refl _)]
    simp [s0_R07_More]
  | succ k ih =>
    intro x i hi
    have hlt : i < s.size := by omega
    rw [bts_at s i hlt, List.foldl_cons]
    have h1 : (i : Int) < (s.size : Int) := by omega
    have h2 : (0 : Int) ≤ (i : Int) ∧ (i : Int) < (s.size : Int) := ⟨by omega, h1⟩
    have e : w64 ((i : Int) + 1) = ((i + 1 : Nat) : Int) := by rw [w64_id] <;> omega
    have hw : w64 ((s.data[(i : Int).toNat]?.getD (0 : UInt8)).toNat : Int) = ((s.data[i]?.getD (0 : UInt8)).toNat : Int) := by
      have := (s.data[i]?.getD (0 : UInt8)).toNat_lt
      rw [Int.toNat_natCast, w64_id] <;> omega
    have hin := R07_inner s (i : Int) 8 x ((s.data[i]?.getD (0 : UInt8)).toNat : Int) (by omega)
    rw [show ((8 - 8 : Nat) : Int) = 0 from rfl] at hin
    rw [Bs.iterO_step (a' := (itR 8 x ((s.data[i]?.getD (0 : UInt8)).toNat : Int), ((i + 1 : Nat) : Int))) (by
      simp only [s0_R07_More, if_pos h1, if_pos h2, hw, e]
      rw [hin, ob_some])]
    exact ih _ (i + 1) (by omega)
theorem R07_Of_eq (s : ByteArray) (hs : s.size ≤ big) : F_R07_Of s = some ((sumV 0#32 s).toNat : Int) := by
  unfold F_R07_Of F_R07_More F_R07_May
  have h : iterO (fun p : Int × Int => s0_R07_More s p.fst p.snd) (w64 (4294967295 - 0), (0 : Int)) = _ := R07_outer s hs s.size (w64 (4294967295 - 0)) 0 (by omega)
  rw [if_pos (by omega), ob_some, if_neg (by decide), h, ob_some, ob_some, List.drop_zero, ← moreR_V 0#32 s]
  unfold moreR
  rw [if_pos (okSum_toNat 0#32)]
  rfl
theorem bytesI_le' (v : V) : bytesI (v.toNat : Int) = bytesOfL (leB 4 (v.toNat : Int)) := by
  apply ByteArray.ext
  apply Array.ext'
  rw [bytesI_V]
  have hv := v.isLt
  show _ = leB 4 (v.toNat : Int)
  simp only [leB, Int.ediv_ediv_of_nonneg (show (0 : Int) ≤ 256 by omega)]
  simp only [List.cons.injEq, and_true]
  refine ⟨?_, ?_, ?_, ?_⟩ <;> congr 1 <;> omega
theorem crc_Bytes_eq (v : V) : F_crc_Bytes (v.toNat : Int) = some (bytesOfL (leB 4 (v.toNat : Int))) := by
  unfold F_crc_Bytes F_crc_may
  have := v.isLt
  rw [if_pos (by omega), ob_some, if_neg (by simp; omega), ← bytesI_le']
  rfl
theorem R07_Bytes_eq (v : V) : F_R07_Bytes (v.toNat : Int) = some (bytesOfL (leB 4 (v.toNat : Int))) := by
  unfold F_R07_Bytes F_R07_May
  have := v.isLt
  rw [if_pos (by omega), ob_some, if_neg (by simp; omega), ← bytesI_le', bytes_eq _ (okSum_toNat v)]
  rfl
theorem crc_Of_eq (s : ByteArray) (hs : s.size ≤ big) : F_crc_Of s = some ((sumV 0#32 s).toNat : Int) := by
  unfold F_crc_Of; rw [if_pos hs]
theorem Encode_eq (h : GHeap) (r : List Int) (hs : Slim h) (hr : r.length ≤ big) : F_snap_Encode h r = some (encP h r) := by
  unfold F_snap_Encode; rw [if_pos ⟨hs, hr⟩]
/-- What four bytes behind a text should be. -/
def sumT (s : ByteArray) : ByteArray := bytesOfL (leB 4 ((sumV 0#32 s).toNat : Int))
abbrev noH : GHeap := ⟨[], 0, 0⟩
def decP (s : ByteArray) : GHeap × List Int × Int :=
  if s.size < 23 then (noH, [], 80)
  else if sumT (s.extract 0 (s.size - 4)) = s.extract (s.size - 4) s.size then
    match readP (s.extract 0 (s.size - 4)) with
    | some (h, r) => if encP h r = s then (h, r, 0) else (noH, [], 82)
    | none => (noH, [], 82)
  else (noH, [], 81)
theorem takeB_data {n : Int} {s t r : ByteArray} (h : takeB n s = some (t, r)) : (t.size : Int) = n ∧ r.size + t.size = s.size := by
  unfold takeB at h
  split at h
  · rename_i h1
    cases h
    rw [ByteArray.size_extract, ByteArray.size_extract]; omega
  · cases h
theorem numB_sz {s r : ByteArray} {n : Int} (h : numB s = some (n, r)) : r.size + 4 = s.size := by
  unfold numB at h
  split at h
  · rename_i t r' ht'
    cases h
    have := takeB_data ht'; omega
  · cases h
theorem cntB_sz {size : Nat} {s r : ByteArray} {n : Nat} (h : cntB size s = some (n, r)) : r.size + 4 = s.size := by
  unfold cntB at h
  split at h
  · rename_i m r' h'
    split at h
    · cases h; exact numB_sz h'
    · cases h
  · cases h
theorem manyB_all {α : Type} {f : ByteArray → Option (α × ByteArray)} {Q : α → Prop} {k b : Nat} (hf : ∀ s x r, f s = some (x, r) → s.size ≤ b → Q x ∧ r.size + k ≤ s.size) : ∀ (n : Nat) (s r : ByteArray) (l : List α), manyB f n s = some (l, r) → s.size ≤ b → l.length = n ∧ (∀ x ∈ l, Q x) ∧ r.size + k * n ≤ s.size
  | 0, s, r, l, h, hb => by cases h; exact ⟨rfl, fun x hx => (by cases hx), by omega⟩
  | n + 1, s, r, l, h, hb => by
    rw [manyB] at h
    split at h
    · cases h
    · rename_i x r1 h1
      obtain ⟨q1, q2⟩ := hf _ _ _ h1 hb
      split at h
      · cases h
      · rename_i l' r2 h2
        cases h
        obtain ⟨p1, p2, p3⟩ := manyB_all hf n _ _ _ h2 (by omega)
        refine ⟨by rw [List.length_cons, p1], fun y hy => ?_, by rw [Nat.mul_succ]; omega⟩
        rcases List.mem_cons.1 hy with rfl | hy
        · exact q1
        · exact p2 y hy
theorem listB_sz {s r : ByteArray} {l : List Int} (h : listB s = some (l, r)) : r.size + 4 * l.length + 4 ≤ s.size := by
  unfold listB at h
  split at h
  · rename_i n r1 h1
    have h2 := cntB_sz h1
    obtain ⟨p1, _, p3⟩ := manyB_all (Q := fun _ => True) (k := 4) (b := r1.size) (fun s x r e _ => ⟨trivial, by have := numB_sz e; omega⟩) _ _ _ _ h (Nat.le_refl _)
    omega
  · cases h
theorem wrap64_in (n : Int) : inR (IntKind.i64.wrap n) := by
  unfold inR; simp [IntKind.wrap, IntKind.signed, IntKind.bits]; omega
theorem objR_sz {s r : ByteArray} {o : GObj} (h : objR s = some (o, r)) : (o.Slots.length + o.Text.size ≤ s.size ∧ inR o.Bits) ∧ r.size + 12 ≤ s.size := by
  have z0 : inR 0 := by unfold inR; omega
  have ze : (ByteArray.empty).size = 0 := rfl
  unfold objR at h
  split at h
  · cases h
  · rename_i c s1 h1
    split at h
    · cases h
    · rename_i k s2 h2
      split at h
      · cases h
      · rename_i hh s3 h3
        have e1 := numB_sz h1; have e2 := numB_sz h2; have e3 := numB_sz h3
        split at h
        · split at h
          · cases h
          · rename_i l r' h4; cases h; have := listB_sz h4; dsimp only; rw [ze]; exact ⟨⟨by omega, z0⟩, by omega⟩
        · split at h
          · split at h
            · cases h
            · rename_i n s4 h4
              have := numB_sz h4
              split at h
              · cases h
              · rename_i t r' h5; cases h; have := (takeB_data h5).2; exact ⟨⟨by show 0 + t.size ≤ _; omega, z0⟩, by omega⟩
          · split at h
            · split at h
              · cases h
              · rename_i b r' h4
                cases h
                unfold bitsB at h4
                split at h4
                · rename_i t r'' h5; cases h4; have := (takeB_data h5).2; exact ⟨⟨by show 0 + ByteArray.empty.size ≤ _; rw [ze]; omega, wrap64_in _⟩, by omega⟩
                · cases h4
            · cases h; exact ⟨⟨by show 0 + ByteArray.empty.size ≤ _; rw [ze]; omega, z0⟩, by omega⟩
theorem readP_ok {s : ByteArray} {h : GHeap} {r : List Int} (hs : s.size ≤ big) (e : readP s = some (h, r)) : Slim h ∧ BitsR h ∧ r.length ≤ big := by
  unfold readP at e
  split at e
  · cases e
  · rename_i m s0 h0
    split at e
    · split at e
      · cases e
      · rename_i c s1 h1
        split at e
        · cases e
        · rename_i l s2 h2
          split at e
          · cases e
          · rename_i n s3 h3
            split at e
            · cases e
            · rename_i os s4 h4
              split at e
              · cases e
              · rename_i r' s5 h5
                split at e
                · cases e
                  have e0 := takeB_data h0; have e1 := numB_sz h1; have e2 := numB_sz h2; have e3 := cntB_sz h3; have e5 := listB_sz h5
                  obtain ⟨p1, p2, p3⟩ := manyB_all (Q := fun o : GObj => o.Slots.length + o.Text.size ≤ big ∧ inR o.Bits) (k := 12) (b := s3.size) (fun s x r e hb => by
                    have := objR_sz e
                    exact ⟨⟨by omega, this.1.2⟩, this.2⟩) _ _ _ _ h4 (Nat.le_refl _)
                  exact ⟨⟨by show os.length ≤ big; omega, fun o ho => (p2 o ho).1⟩, fun o ho => (p2 o ho).2, by omega⟩
                · cases e
    · cases e
theorem snap_Decode_eq (s : ByteArray) (hs : s.size ≤ big) : F_snap_Decode s = some (decP s) := by
  unfold F_snap_Decode decP
  by_cases h : s.size < 23
  · rw [if_pos (by omega), if_pos h]
  rw [if_neg (by omega), if_neg h]
  have hb := hs
  unfold big at hb
  have e4 : w64 ((s.size : Int) - 4) = ((s.size - 4 : Nat) : Int) := by rw [w64_id] <;> omega
  rw [e4, if_pos ⟨by omega, by omega⟩, if_pos ⟨by omega, by omega⟩, Int.toNat_natCast]
  have hsz : (s.extract 0 (s.size - 4)).size ≤ big := by rw [ByteArray.size_extract]; omega
  rw [crc_Of_eq _ hsz, ob_some, crc_Bytes_eq, ob_some, show bytesOfL (leB 4 ((sumV 0#32 (s.extract 0 (s.size - 4))).toNat : Int)) = sumT (s.extract 0 (s.size - 4)) from rfl]
  by_cases h2 : sumT (s.extract 0 (s.size - 4)) = s.extract (s.size - 4) s.size
  · rw [if_pos h2, if_pos h2]
    unfold F_snap_read
    rw [if_pos hsz, ob_some]
    unfold readR
    cases hr : readP (s.extract 0 (s.size - 4)) with
    | none => rfl
    | some p =>
      obtain ⟨h, r⟩ := p
      obtain ⟨k1, _, k3⟩ := readP_ok hsz hr
      dsimp only
      rw [if_pos rfl, Encode_eq h r k1 k3, ob_some]
      split <;> rfl
  · rw [if_neg h2, if_neg h2]
end Go.Pv

/- Snap's laws: what all of them want. -/
namespace Go.Pv
open Go Go.Pv.Bs
theorem bodyB_len (h : GHeap) (r : List Int) : 19 ≤ (bodyB h r).length := by
  unfold bodyB
  simp only [List.length_append, leB_len, lstB_len, List.length_cons, List.length_nil]
  omega
theorem encP_may {h : GHeap} {r : List Int} (hm : mayP h r = true) : encP h r = bytesOfL (bodyB h r ++ sumB (bodyB h r)) := by unfold encP; rw [if_pos hm]
theorem encP_not {h : GHeap} {r : List Int} (hm : ¬ mayP h r = true) : encP h r = .empty := by unfold encP; rw [if_neg hm]
theorem sumB_len (l : List UInt8) : (sumB l).length = 4 := leB_len _ _
theorem cut4 (a b : List UInt8) (hb : b.length = 4) : (bytesOfL (a ++ b)).extract 0 ((bytesOfL (a ++ b)).size - 4) = bytesOfL a ∧ (bytesOfL (a ++ b)).extract ((bytesOfL (a ++ b)).size - 4) (bytesOfL (a ++ b)).size = bytesOfL b := by
  have e : (bytesOfL (a ++ b)).size - 4 = a.length := by rw [ofL_size, List.length_append]; omega
  rw [e]
  refine ⟨ba_of ?_, ba_of ?_⟩
  · rw [ext_list, ofL_list, List.take_left]; rfl
  · rw [ext_list, ofL_list, ofL_size, List.take_length, List.drop_left]
theorem dec_enc {h : GHeap} {r : List Int} (hm : mayP h r = true) (hb : BitsR h) : decP (encP h r) = (h, r, 0) := by
  have hs := encP_may hm
  have h1 := bodyB_len h r
  have hsz : ¬ (encP h r).size < 23 := by rw [hs, ofL_size, List.length_append, sumB_len]; omega
  obtain ⟨c1, c2⟩ := cut4 (bodyB h r) (sumB (bodyB h r)) (sumB_len _)
  rw [← hs] at c1 c2
  unfold decP
  have hT : sumT (bytesOfL (bodyB h r)) = bytesOfL (sumB (bodyB h r)) := rfl
  rw [if_neg hsz, c1, c2, if_pos hT, body_le hm hb]
  dsimp only
  rw [if_pos rfl]
/-- What decoding says that all is well is what is written of it. -/
theorem dec_ok {s : ByteArray} {h : GHeap} {r : List Int} (e : decP s = (h, r, 0)) : encP h r = s ∧ mayP h r = true := by
  unfold decP at e
  split at e
  · cases e
  · rename_i hsz
    split at e
    · split at e
      · rename_i h' r' hr
        split at e
        · rename_i he
          cases e
          refine ⟨he, ?_⟩
          by_cases hm : mayP h r = true
          · exact hm
          · rw [encP_not hm] at he
            rw [← he] at hsz
            exact absurd (by decide : ByteArray.empty.size < 23) hsz
        · cases e
      · cases e
    · cases e
theorem dec_cases (s : ByteArray) : (∃ h r, decP s = (h, r, 0)) ∨ ∃ k, decP s = (noH, [], k) ∧ k ≠ 0 := by
  unfold decP
  split
  · exact .inr ⟨_, rfl, by omega⟩
  · split
    · split
      · split
        · exact .inl ⟨_, _, rfl⟩
        · exact .inr ⟨_, rfl, by omega⟩
      · exact .inr ⟨_, rfl, by omega⟩
    · exact .inr ⟨_, rfl, by omega⟩
theorem dec_slim {s : ByteArray} {h : GHeap} {r : List Int} (hs : s.size ≤ big) (e : decP s = (h, r, 0)) : BitsR h := by
  unfold decP at e
  split at e
  · cases e
  · split at e
    · split at e
      · rename_i h' r' hr
        split at e
        · cases e
          exact (readP_ok (by rw [ByteArray.size_extract]; omega) hr).2.1
        · cases e
      · cases e
    · cases e
theorem may_slim {h : GHeap} {r : List Int} (hm : mayP h r = true) : Slim h ∧ r.length ≤ big := by
  obtain ⟨ok, hr, _⟩ := mayP_iff.1 hm
  have k1 := ok.cap; have k2 := ok.len
  refine ⟨⟨by unfold big; omega, fun o ho => ?_⟩, by unfold big; omega⟩
  have := (ok.objs o ho).nslots; have := (ok.objs o ho).ntext
  unfold big; omega
theorem R08_May_eq (h : GHeap) (r : List Int) (hs : Slim h) (hb : BitsR h) (hr : r.length ≤ big) : F_R08_May h r = some (mayP h r) := by
  unfold F_R08_May
  unfold big at hr
  obtain ⟨x, e, hx⟩ := iter_all r (hasB h.Objs.length) (S := fun p => s0_R08_May r h.Objs h.Cap h.Last p) (fun _ => false) (fun k hk => by
    simp only [s0_R08_May, atI_nat _ k hk]
    rw [if_pos (by omega), if_pos (by omega), w64_id (by omega) (by omega), R03_Has_eq, ob_some]
    show (if hasB h.Objs.length r[k] = false then _ else _) = _
    cases hasB h.Objs.length r[k] <;> simp) (by simp [s0_R08_May])
  rw [e, ob_some]
  unfold mayP
  cases x with
  | inl b =>
    obtain ⟨h5, k, hk, rfl, _, _⟩ := hx
    rw [sm_inl, h5]; simp
  | inr u =>
    have h5 : r.all (hasB h.Objs.length) = true := hx
    rw [sm_inr, R03_May_eq h hs hb, ob_some, h5, okHeapB_eq]
    cases dec (OkHeap h) with
    | false => simp
    | true => simp; omega
/-! ### the fixed calls -/
def h0P : GHeap := ⟨[⟨0, 0, [], .empty, 0, 1⟩], 3, 0⟩
def a0P : ByteArray := ⟨#[65, 78, 49, 3, 0, 0, 0, 0, 0, 0, 0, 1, 0, 0, 0, 0, 0, 0, 0, 0, 0, 0, 0, 1, 0, 0, 0, 0, 0, 0, 0, 0, 0, 0, 0, 200, 235, 9, 196]⟩
theorem a0P_eq : encP h0P [] = a0P := by kernel_rfl
theorem h0P_may : mayP h0P [] = true := by kernel_rfl
theorem h0P_bits : BitsR h0P := by
  intro o ho
  have : o = ⟨0, 0, [], .empty, 0, 1⟩ := by simpa [h0P] using ho
  subst this
  unfold inR; dsimp only; omega
theorem a0P_1 : (decP (a0P.extract 0 22)).2.2 = 80 := by kernel_rfl
theorem a0P_2 : (decP (a0P ++ ⟨#[0]⟩)).2.2 = 81 := by kernel_rfl
def t0P : ByteArray := ⟨#[65, 78, 49]⟩ ++ a0P.extract 3 35 ++ ⟨#[0]⟩
theorem a0P_3 : (decP (t0P ++ sumT t0P)).2.2 = 82 := by kernel_rfl
theorem a0P_4 : encP h0P [2] = ⟨#[]⟩ := by kernel_rfl
theorem a0P_5 : encP noH [] = ⟨#[]⟩ := by kernel_rfl
theorem a0P_6 : a0P.extract 0 7 = ⟨#[65, 78, 49, 3, 0, 0, 0]⟩ := by kernel_rfl
theorem sumT_eq (s : ByteArray) : bytesOfL (leB 4 ((sumV 0#32 s).toNat : Int)) = sumT s := rfl
theorem obj_ext (a b : GObj) : a = b ↔ a.Class = b.Class ∧ a.Kind = b.Kind ∧ a.Text = b.Text ∧ a.Bits = b.Bits ∧ a.Hash = b.Hash ∧ a.Slots = b.Slots := by
  cases a; cases b
  simp only [GObj.mk.injEq]
  constructor
  · rintro ⟨h1, h2, h3, h4, h5, h6⟩; exact ⟨h1, h2, h4, h5, h6, h3⟩
  · rintro ⟨h1, h2, h4, h5, h6, h3⟩; exact ⟨h1, h2, h3, h4, h5, h6⟩
theorem R03_One_eq (a b : GObj) (h : a.Slots.length ≤ big) : F_R03_One a b = some (decide (a = b)) := by
  unfold big at h
  unfold F_R03_One
  by_cases e1 : a.Class = b.Class
  case neg => simp [e1, obj_ext]
  by_cases e2 : a.Kind = b.Kind
  case neg => simp [e2, obj_ext]
  by_cases e3 : a.Text = b.Text
  case neg => simp [e3, obj_ext]
  by_cases e4 : a.Bits = b.Bits
  case neg => simp [e4, obj_ext]
  by_cases e5 : a.Hash = b.Hash
  case neg => simp [e5, obj_ext]
  by_cases e6 : (a.Slots.length : Int) = b.Slots.length
  case neg =>
    have : a.Slots ≠ b.Slots := fun e => e6 (by rw [e])
    simp [e6, obj_ext, this]
  simp only [if_pos e1, if_pos e2, if_pos e3, if_pos e4, if_pos e5, if_pos e6]
  rw [iter_same (a := a.Slots) (b := b.Slots) (by omega)]
  · simp [obj_ext, e1, e2, e3, e4, e5]
  · intro k h1 h2
    simp only [s0_R03_One, atI_nat _ k h1, atI_nat _ k h2]
    rw [if_pos (by omega), if_pos (by omega), if_pos (by omega)]
    rw [w64_id (by omega) (by omega)]; rfl
  · simp [s0_R03_One]
theorem heap_ext (a b : GHeap) : a = b ↔ a.Cap = b.Cap ∧ a.Last = b.Last ∧ a.Objs = b.Objs := by
  cases a; cases b
  simp only [GHeap.mk.injEq]
  constructor
  · rintro ⟨h1, h2, h3⟩; exact ⟨h2, h3, h1⟩
  · rintro ⟨h2, h3, h1⟩; exact ⟨h1, h2, h3⟩
theorem R03_Same_eq (a b : GHeap) (h : Slim a) : F_R03_Same a b = some (decide (a = b)) := by
  obtain ⟨hl, hs⟩ := h
  unfold big at hl
  unfold F_R03_Same
  by_cases e1 : a.Cap = b.Cap
  case neg => simp [e1, heap_ext]
  by_cases e2 : a.Last = b.Last
  case neg => simp [e2, heap_ext]
  by_cases e3 : (a.Objs.length : Int) = b.Objs.length
  case neg =>
    have : a.Objs ≠ b.Objs := fun e => e3 (by rw [e])
    simp [e3, heap_ext, this]
  rw [if_pos e1, if_pos e2, if_pos e3, iter_same (a := a.Objs) (b := b.Objs) (by omega)]
  · simp [heap_ext, e1, e2]
  · intro k h1 h2
    have ho := R03_One_eq a.Objs[k] b.Objs[k] (by have := hs _ (List.getElem_mem h1); omega)
    simp only [s0_R03_Same, atI_nat _ k h1, atI_nat _ k h2]
    rw [if_pos (by omega), if_pos (by omega), if_pos (by omega), w64_id (by omega) (by omega), ho, ob_some]
    by_cases e : a.Objs[k] = b.Objs[k] <;> simp [e]
  · simp [s0_R03_Same]
theorem R03_Ints_eq (a b : List Int) (h : a.length ≤ big) : F_R03_Ints a b = some (decide (a = b)) := by
  unfold big at h
  unfold F_R03_Ints
  by_cases hl : (a.length : Int) = b.length
  · rw [if_pos hl, iter_same (a := a) (b := b) (by omega)]
    · intro k h1 h2
      simp only [s0_R03_Ints, atI_nat _ k h1, atI_nat _ k h2]
      rw [if_pos (by omega), if_pos (by omega), if_pos (by omega), w64_id (by omega) (by omega)]
      rfl
    · simp [s0_R03_Ints]
  · have : a ≠ b := fun e => hl (by rw [e])
    rw [if_neg hl]
    simp [this]
theorem fixed_eq : F_L08_fixed = some true := by
  have s0 : Slim h0P := (may_slim h0P_may).1
  have d0 := dec_enc h0P_may h0P_bits
  rw [a0P_eq] at d0
  unfold F_L08_fixed
  rw [show ({ Objs := [{ Class := (0 : Int), Kind := (0 : Int), Slots := [], Text := { data := #[] : ByteArray }, Bits := (0 : Int), Hash := (1 : Int) : GObj }], Cap := (3 : Int), Last := (0 : Int) : GHeap }) = h0P from rfl,
    Encode_eq h0P [] s0 (Nat.zero_le _), a0P_eq, ob_some, snap_Decode_eq a0P (by decide), d0, ob_some]
  dsimp only
  rw [if_pos (by decide), if_pos rfl, R03_Same_eq h0P h0P s0, ob_some, if_pos (by simp), if_pos rfl, if_pos (by decide), if_pos a0P_6, if_pos (by decide), snap_Decode_eq _ (by decide), ob_some, if_neg (by decide), snap_Decode_eq _ (by decide), ob_some, if_pos (by decide), if_neg (by decide), if_neg (by decide)]
  rw [show ({ data := #[(65 : UInt8), (78 : UInt8), (49 : UInt8)] : ByteArray } ++ a0P.extract (3 : Nat) (35 : Nat) ++ { data := #[(0 : UInt8)] : ByteArray }) = t0P from rfl, R07_Of_eq t0P (by decide), ob_some, R07_Bytes_eq, ob_some, sumT_eq, if_neg (by decide), snap_Decode_eq _ (by decide), ob_some, if_pos a0P_1, if_pos a0P_2, if_pos a0P_3, Encode_eq h0P [2] s0 (by decide), ob_some, if_pos a0P_4, Encode_eq noH [] ⟨by decide, fun o ho => by cases ho⟩ (by decide), ob_some, a0P_5]
  rfl
end Go.Pv

/- Heaps: from the laws' arguments to plain data. -/
namespace Go.Pv
open Go Go.Proofs
abbrev iT : Ty := .int .i64
abbrev objT : Ty := .pair iT (.pair iT (.pair (.sl iT) (.pair .str (.pair iT (.pair iT .unit)))))
abbrev heapT : Ty := .pair (.sl objT) (.pair iT (.pair iT .unit))
def toObj (x : objT.den) : GObj := ⟨x.1, x.2.1, x.2.2.1, x.2.2.2.1, x.2.2.2.2.1, x.2.2.2.2.2.1⟩
def toObjs (l : (Ty.sl objT).den) : List GObj := List.map toObj l
def toHeap (x : heapT.den) : GHeap := ⟨toObjs x.1, x.2.1, x.2.2.1⟩
theorem map_enc {α β : Type} [Enc β] (e : α → List T) (f : α → β) (h : ∀ x, e x = Enc.enc (f x)) (l : List α) : List.map e l = els (List.map f l) := by
  unfold els
  rw [List.map_map]
  exact List.map_congr_left fun x _ => h x
theorem objT_enc (x : objT.den) : objT.enc x = Enc.enc (toObj x) := rfl
theorem objs_enc (l : (Ty.sl objT).den) : List.map (α := objT.den) objT.enc l = els (toObjs l) := map_enc objT.enc toObj objT_enc l
theorem ones {α : Type} (f : α → Nat) (hf : ∀ x, f x = 1) (l : List α) : (l.map f).sum = l.length := by
  induction l with
  | nil => rfl
  | cons a l ih => simp only [List.map_cons, List.sum_cons, List.length_cons, ih, hf]; omega
theorem sum_mem {α : Type} (f : α → Nat) : ∀ (l : List α) (x : α), x ∈ l → f x ≤ (l.map f).sum
  | a :: l, x, h => by
    rw [List.map_cons, List.sum_cons]
    rcases List.mem_cons.1 h with rfl | h
    · omega
    · have := sum_mem f l x h; omega
theorem sum_len {α : Type} (f : α → Nat) (hf : ∀ x, 1 ≤ f x) (l : List α) : l.length ≤ (l.map f).sum := by
  induction l with
  | nil => exact Nat.le_refl _
  | cons a l ih => have := hf a; simp only [List.map_cons, List.sum_cons, List.length_cons]; omega
theorem obj_bulk (x : objT.den) : (toObj x).Slots.length + (toObj x).Text.size + 1 ≤ objT.bulk x := by
  obtain ⟨c, kd, sl, tx, b, h, u⟩ := x
  have hs := ones (Ty.bulk iT) (fun _ => rfl) sl
  show List.length (α := iT.den) sl + ByteArray.size tx + 1 ≤ 1 + (1 + ((List.map (α := iT.den) (Ty.bulk iT) sl).sum + 1 + (ByteArray.size tx + 1 + (1 + (1 + 0)))))
  rw [hs]; omega
theorem int_wf {n : Int} (h : (Lit.int .i64 n).wf = true) : inR n := by
  simp only [Lit.wf, IntKind.min, IntKind.max, IntKind.signed, IntKind.bits, Bool.and_eq_true, decide_eq_true_eq, if_true] at h
  unfold inR
  constructor <;> omega
theorem objs_small (l : (Ty.sl objT).den) (hw : (Ty.sl objT).wf l) (hk : (Ty.sl objT).bulk l ≤ 1048576) (c la : Int) : Slim ⟨toObjs l, c, la⟩ ∧ BitsR ⟨toObjs l, c, la⟩ := by
  have h1 : (List.map (α := objT.den) objT.bulk l).sum + 1 ≤ 1048576 := hk
  have h2 := sum_len (α := objT.den) objT.bulk (fun x => by have := obj_bulk x; omega) l
  refine ⟨⟨?_, fun o ho => ?_⟩, fun o ho => ?_⟩
  · refine Nat.le_trans (Nat.le_of_eq (List.length_map (α := objT.den) toObj)) ?_
    unfold big; omega
  · obtain ⟨x, hx, rfl⟩ := List.mem_map.1 ho
    have h3 := sum_mem (α := objT.den) objT.bulk l x hx
    have h4 := obj_bulk x
    unfold big; omega
  · obtain ⟨x, hx, rfl⟩ := List.mem_map.1 ho
    have := hw.2 x hx
    obtain ⟨c, kd, sl, tx, b, h, u⟩ := x
    exact int_wf this.2.2.2.2.1
def hpD (h : GHeap) : D := .agg [.t (.sl 6 (els h.Objs)), I h.Cap, I h.Last]
theorem argD_heap (x : heapT.den) : argD heapT x = hpD (toHeap x) := by
  obtain ⟨l, c, la, u⟩ := x
  exact congrArg (fun e => D.agg [.t (.sl 6 e), I c, I la]) (objs_enc l)
theorem heap_slim (x : heapT.den) (hw : heapT.wf x) (hk : heapT.bulk x ≤ 1048576) : Slim (toHeap x) ∧ BitsR (toHeap x) := by
  obtain ⟨l, c, la, u⟩ := x
  have h1 : (Ty.sl objT).bulk l + (1 + (1 + 0)) ≤ 1048576 := hk
  exact objs_small l hw.1 (by omega) c la
theorem ints_len (l : (Ty.sl iT).den) (hk : (Ty.sl iT).bulk l ≤ 1048576) : List.length (α := Int) l ≤ 1048576 := by
  have h1 : (List.map (α := iT.den) (Ty.bulk iT) l).sum + 1 ≤ 1048576 := hk
  have h2 := ones (α := iT.den) (Ty.bulk iT) (fun _ => rfl) l
  have h3 : List.length (α := iT.den) l ≤ 1048576 := by omega
  exact h3
theorem argD_ints (l : (Ty.sl iT).den) : argD (.sl iT) l = .t (.sl 1 (els (α := Int) l)) := rfl
end Go.Pv
