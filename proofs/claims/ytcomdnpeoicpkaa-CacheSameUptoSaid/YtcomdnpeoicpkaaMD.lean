/- A part of the road: the interpreter of plain data and the proof that it is right. -/
import Derived.Test.YtcomdnpeoicpkaaOD
import Derived.Test.YtcomdnpeoicpkaaSD
import Derived.Test.YtcomdnpeoicpkaaND
import Derived.Test.YtcomdnpeoicpkaaLD
import Derived.Test.YtcomdnpeoicpkaaG
import Derived.Test.YtcomdnpeoicpkaaPD
set_option linter.unusedVariables false
set_option linter.unusedSimpArgs false
/- Heaps: the document's functions in plain words (layers 3 and 9). -/
namespace Go.Pv
open Go.Pv.Bs
theorem bAnd_low (v : Int) : bAnd .i64 v 9223372036854775807 = v % 9223372036854775808 := by
  have h : (BitVec.ofInt IntKind.i64.bits v &&& BitVec.ofInt IntKind.i64.bits 9223372036854775807).toNat = (v % 9223372036854775808).toNat := by
    show (BitVec.ofInt 64 v &&& BitVec.ofInt 64 9223372036854775807).toNat = _
    rw [BitVec.toNat_and, BitVec.toNat_ofInt, BitVec.toNat_ofInt]
    show (v % ((2 ^ 64 : Nat) : Int)).toNat &&& (2 ^ 63 - 1) = _
    rw [Nat.and_two_pow_sub_one_eq_mod]
    omega
  unfold bAnd
  rw [h, wrap_w64, w64_id (by omega) (by omega)]
  omega
theorem iShr_52 (v : Int) : iShr .i64 v 52 = v / 4503599627370496 := by
  show v.fdiv (2 ^ (min (52 : Int).toNat 64)) = v / 4503599627370496
  rw [show (2 : Int) ^ (min (52 : Int).toNat 64) = 4503599627370496 from rfl, Int.fdiv_eq_ediv_of_nonneg _ (by omega)]
def inR (b : Int) : Prop := -9223372036854775808 ≤ b ∧ b ≤ 9223372036854775807
theorem R02_Canon_eq (a : Int) (h : inR a) : F_R02_Canon a = some (canonF a) := by
  unfold F_R02_Canon F_R02_Kind F_R02_plain F_R02_most F_R02_NaN canonF nanB
  simp only [ob_some, bAnd_low, iShr_52]
  rw [Int.tmod_eq_emod_of_nonneg (by omega), w64_id h.1 h.2]
  by_cases h1 : a % 9223372036854775808 / 4503599627370496 = 2047
  · rw [if_pos h1]
    by_cases h2 : a % 9223372036854775808 % 4503599627370496 = 0
    · have h3 : a % 4503599627370496 = 0 := by omega
      rw [if_pos h2, ob_some]
      simp [h3]
    · have h3 : ¬ a % 4503599627370496 = 0 := by omega
      rw [if_neg h2, ob_some]
      simp [h1, h3]
  · rw [if_neg h1]
    by_cases h4 : 0 < a % 9223372036854775808 / 4503599627370496
    · rw [if_pos h4, ob_some]; simp [h1]
    · rw [if_neg h4]
      by_cases h5 : 0 < a % 9223372036854775808 % 4503599627370496
      · rw [if_pos h5, ob_some]; simp [h1]
      · rw [if_neg h5, ob_some]; simp [h1]
theorem R01_At_eq (v : Int) : F_R01_At v = some (atP v) := by
  unfold F_R01_At atP at?
  by_cases h : v % 2 = 0
  · rw [if_pos ((tmod_two v).2 h)]
    by_cases h1 : 0 ≤ v
    · rw [if_pos h1]
      by_cases h2 : 2097150 < v
      · rw [if_pos h2, if_neg (by omega)]
      · rw [if_neg h2, if_pos (by omega), Int.tdiv_eq_ediv_of_nonneg h1, w64_id (by omega) (by omega)]
        simp only [Option.some.injEq, Prod.mk.injEq, and_true]; omega
    · rw [if_neg h1, if_neg (by omega)]
  · rw [if_neg (fun k => h ((tmod_two v).1 k)), if_neg (by omega)]
theorem tdiv_odd {v : Int} (h : v % 2 = 1) : (v - 1).tdiv 2 = v / 2 := by
  have e : v - 1 = 2 * (v / 2) := by omega
  rw [e, Int.mul_tdiv_cancel_left _ (by omega)]
theorem R01_N_eq (v : Int) : F_R01_N v = some (nP v) := by
  unfold F_R01_N nP n?
  by_cases h : v % 2 = 0
  · rw [if_pos ((tmod_two v).2 h), if_neg (by omega)]
  · rw [if_neg (fun k => h ((tmod_two v).1 k))]
    by_cases h1 : -2147483647 ≤ v
    · rw [if_pos h1]
      by_cases h2 : 2147483647 < v
      · rw [if_pos h2, if_neg (by omega)]
      · have h3 : v % 2 = 1 := by omega
        rw [if_neg h2, if_pos (by omega), w64_id (n := v - 1) (by omega) (by omega), tdiv_odd h3, w64_id (by omega) (by omega)]
    · rw [if_neg h1, if_neg (by omega)]
theorem R03_Ref_eq (h : GHeap) (v : Int) : F_R03_Ref h v = some (refI h.n v) := by
  unfold F_R03_Ref refI
  rw [R01_At_eq, ob_some]
  unfold atP GHeap.n
  cases at? v with
  | none => simp
  | some i =>
    by_cases hi : i < h.Objs.length
    · have : ¬ ((h.Objs.length : Int) ≤ (i : Int)) := by omega
      simp [hi, this]
    · have : (h.Objs.length : Int) ≤ (i : Int) := by omega
      simp [hi, this]
theorem R03_Has_eq (h : GHeap) (v : Int) : F_R03_Has h v = some (hasB h.n v) := by
  unfold F_R03_Has
  rw [R01_N_eq, ob_some, nP_snd, R03_Ref_eq, ob_some, hasB_ref]
  cases (n? v).isSome <;> simp
theorem R03_hash_eq (n : Int) : F_R03_hash n = some (decide (0 ≤ n ∧ n ≤ 1073741823)) := by
  unfold F_R03_hash
  by_cases h : 0 ≤ n
  · have : (n < 1073741824) ↔ (n ≤ 1073741823) := by omega
    simp [h, this]
  · simp [h]
theorem R03_obj_eq (h : GHeap) (o : GObj) (hl : o.Slots.length ≤ big) (hb : inR o.Bits) : F_R03_obj h o = some (dec (OkObj h.n o)) := by
  unfold F_R03_obj
  unfold big at hl
  obtain ⟨r, e, hr⟩ := iter_all o.Slots (hasB h.n) (S := fun p => s0_R03_obj h.Objs h.Cap h.Last o.Class o.Kind o.Slots o.Text o.Bits o.Hash p) (fun _ => false) (fun k hk => by
    simp only [s0_R03_obj, atI_nat _ k hk]
    rw [if_pos (by omega), if_pos (by omega), w64_id (by omega) (by omega)]
    rw [R03_Has_eq h, ob_some]
    cases hasB h.n o.Slots[k] <;> simp) (by simp [s0_R03_obj])
  rw [e, ob_some]
  cases r with
  | inl b =>
    obtain ⟨h7, k, _, rfl, _⟩ := hr
    rw [sm_inl, dec_false fun k => by
      rw [List.all_eq_true.2 k.slots] at h7; cases h7]
  | inr u =>
    have h7 : o.Slots.all (hasB h.n) = true := hr
    rw [sm_inr]
    simp only [R03_Ref_eq, R03_hash_eq, R02_Canon_eq _ hb, ob_some]
    by_cases h1 : 0 ≤ refI h.n o.Class
    case neg => rw [dec_false fun k => h1 k.cls]; simp [h1]
    by_cases h2 : 0 ≤ o.Kind
    case neg => rw [dec_false fun k => h2 k.kind.1]; simp [h2]
    by_cases h2' : o.Kind ≤ 2
    case neg => rw [dec_false fun k => h2' k.kind.2]; simp [h2']
    by_cases h3 : 0 ≤ o.Hash ∧ o.Hash ≤ 1073741823
    case neg => rw [dec_false fun k => h3 k.hash, decide_eq_false h3]; simp
    by_cases h4 : (o.Slots.length : Int) ≤ 64
    case neg => rw [dec_false fun k => h4 (by have := k.nslots; omega)]; simp [h4]
    by_cases h5 : (o.Text.size : Int) ≤ 64
    case neg => rw [dec_false fun k => h5 (by have := k.ntext; omega)]; simp [h5]
    by_cases h6 : canonF o.Bits = o.Bits
    case neg =>
      rw [dec_false fun k => h6 k.canon]
      have : (canonF o.Bits == o.Bits) = false := by simpa using h6
      simp [this]
    have hiff : OkObj h.n o ↔ ((o.Kind ≠ 0 → o.Slots = []) ∧ (o.Kind ≠ 1 → o.Text = ByteArray.empty) ∧ (o.Kind ≠ 2 → o.Bits = 0)) :=
      ⟨fun k => ⟨k.ptr, k.text, k.bits⟩, fun k => ⟨h1, ⟨h2, h2'⟩, h3, k.1, k.2.1, k.2.2, by omega, by omega, h6, List.all_eq_true.1 h7⟩⟩
    rw [dec_congr hiff, dec_decide, decide_eq_true h3]
    have e0 : ({ data := #[] } : ByteArray) = ByteArray.empty := rfl
    have e1 : (canonF o.Bits == o.Bits) = true := by simpa using h6
    rw [e0, e1]
    simp only [h1, h2, h2', h4, h5, if_true]
    by_cases k0 : o.Kind = 0
    · simp [k0]
      by_cases b1 : o.Text = ByteArray.empty <;> by_cases b2 : o.Bits = 0 <;> simp [b1, b2]
    · by_cases k1 : o.Kind = 1
      · simp [k1]
        by_cases b1 : o.Slots = [] <;> by_cases b2 : o.Bits = 0 <;> simp [b1, b2]
      · have k2 : o.Kind = 2 := by omega
        simp [k2]
        by_cases b1 : o.Slots = [] <;> by_cases b2 : o.Text = ByteArray.empty <;> simp [b1, b2]
/-- All bits are a machine's. -/
def BitsR (h : GHeap) : Prop := ∀ o ∈ h.Objs, inR o.Bits
theorem R03_May_eq (h : GHeap) (hs : Slim h) (hb : BitsR h) : F_R03_May h = some (dec (OkHeap h)) := by
  obtain ⟨hl, hso⟩ := hs
  unfold big at hl
  unfold F_R03_May
  obtain ⟨r, e, hr⟩ := iter_all h.Objs (fun o => dec (OkObj h.n o)) (S := fun p => s0_R03_May h.Objs h.Cap h.Last p) (fun _ => false) (fun k hk => by
    have ho := R03_obj_eq h h.Objs[k] (by have := hso _ (List.getElem_mem hk); omega) (hb _ (List.getElem_mem hk))
    simp only [s0_R03_May, atI_nat _ k hk]
    rw [if_pos (by omega), if_pos (by omega), w64_id (by omega) (by omega)]
    rw [ho, ob_some]
    cases dec (OkObj h.n h.Objs[k]) <;> simp) (by simp [s0_R03_May])
  rw [e, ob_some]
  cases r with
  | inl b =>
    obtain ⟨h5, k, hk, rfl, hf, _⟩ := hr
    rw [sm_inl, dec_false fun ok => by
      rw [show OkObj h.n h.Objs[k] = OkObj h.Objs.length h.Objs[k] from rfl, dec_true (ok.objs _ (List.getElem_mem hk))] at hf; cases hf]
  | inr u =>
    have h5 : h.Objs.all (fun o => dec (OkObj h.n o)) = true := hr
    rw [sm_inr]
    by_cases h1 : 1 ≤ h.Cap
    case neg => rw [if_neg h1, dec_false fun k => h1 k.cap.1]
    by_cases h2 : h.Cap ≤ 256
    case neg => rw [if_pos h1, if_neg h2, dec_false fun k => h2 k.cap.2]
    by_cases h3 : (h.Objs.length : Int) ≤ h.Cap
    case neg => rw [if_pos h1, if_pos h2, if_neg h3, dec_false fun k => h3 k.len]
    rw [if_pos h1, if_pos h2, if_pos h3, R03_hash_eq, ob_some]
    by_cases h4 : 0 ≤ h.Last ∧ h.Last ≤ 1073741823
    case neg => rw [decide_eq_false h4, dec_false fun k => h4 k.last]
    rw [decide_eq_true h4, dec_true ⟨⟨h1, h2⟩, h3, h4, fun o ho => dec_iff.1 (List.all_eq_true.1 h5 o ho)⟩]
theorem R03_Small_ex (h : GHeap) (hl : h.Objs.length ≤ big) : ∃ b, F_R03_Small h = some b := by
  unfold big at hl
  unfold F_R03_Small
  obtain ⟨r, e, _⟩ := iter_post (S := fun p : Int × Int => s0_R03_Small h.Objs h.Cap h.Last p.fst p.snd) (fun p => h.Objs.length - p.2.toNat) (fun p => ∃ k : Nat, p.2 = k ∧ k ≤ h.Objs.length) (fun _ => True) (fun p hp => by
    obtain ⟨n, i⟩ := p
    obtain ⟨k, hk, hle⟩ := hp
    simp only at hk
    subst hk
    simp only [s0_R03_Small]
    by_cases h1 : (k : Int) < h.Objs.length
    · rw [if_pos h1]
      by_cases h2 : n < 5000
      · rw [if_pos h2, if_pos (by omega), if_pos (by omega), w64_id (n := (k : Int) + 1) (by omega) (by omega)]
        exact .inl ⟨_, rfl, ⟨k + 1, rfl, by omega⟩, by simp; omega⟩
      · rw [if_neg h2]; exact .inr ⟨_, rfl, trivial⟩
    · rw [if_neg h1]; exact .inr ⟨_, rfl, trivial⟩) ((0 : Int), (0 : Int)) ⟨0, rfl, Nat.zero_le _⟩
  rw [e, ob_some]
  split <;> exact ⟨_, rfl⟩
end Go.Pv

/- Caches in plain words. -/
namespace Go.Pv
open Go
/-- A cache has what is asked. -/
def FullC (l : List GEn) (k s : Int) : Prop := (atN l (placeN l.length k s)).full_ = true ∧ (atN l (placeN l.length k s)).key.cls = k ∧ (atN l (placeN l.length k s)).key.sel = s
theorem tmod_in (a : Int) (n : Nat) (hn : 0 < n) : -(n : Int) < a.tmod n ∧ a.tmod n < n := by
  have h1 := Int.tmod_lt_of_pos a (show (0 : Int) < n by omega)
  refine ⟨?_, h1⟩
  have h2 := Int.tmod_lt_of_pos (-a) (show (0 : Int) < n by omega)
  rw [Int.neg_tmod] at h2
  omega
theorem placeN_in (n : Nat) (k s : Int) (hn : 0 < n) : placeN n k s < n := by
  have := tmod_in (RowKit.wrap64 (RowKit.wrap64 (31 * k) + s)) n hn
  unfold placeN
  split <;> omega
theorem cFind_hit {c : GCa} {h : GHeap} {k s : Int} (hf : FullC c.entries k s) : cFind c h k s = (((atN c.entries (placeN c.entries.length k s)).method, (atN c.entries (placeN c.entries.length k s)).at_, 0), ⟨c.entries, RowKit.wrap64 (c.hits + 1), c.misses⟩) := if_pos hf
theorem cFind_miss {c : GCa} {h : GHeap} {k s : Int} (hf : ¬ FullC c.entries k s) : cFind c h k s = (findP h k s, ⟨if (findP h k s).2.2 = 0 then c.entries.set (placeN c.entries.length k s) ⟨⟨k, s⟩, (findP h k s).1, (findP h k s).2.1, true⟩ else c.entries, c.hits, RowKit.wrap64 (c.misses + 1)⟩) := if_neg hf
theorem cFind_len (c : GCa) (h : GHeap) (k s : Int) : (cFind c h k s).2.entries.length = c.entries.length := by
  by_cases hf : FullC c.entries k s
  · rw [cFind_hit hf]
  · rw [cFind_miss hf]
    dsimp only
    split
    · exact List.length_set ..
    · rfl
/-- What a cache has is what is found. -/
def ValidC (l : List GEn) (h : GHeap) : Prop := ∀ e ∈ l, e.full_ = true → findP h e.key.cls e.key.sel = (e.method, e.at_, 0)
theorem valid_zero (n : Nat) (h : GHeap) : ValidC (List.replicate n zeroE) h := by
  intro e he hf
  rw [List.eq_of_mem_replicate he] at hf
  cases hf
theorem cFind_valid {c : GCa} {h : GHeap} {k s : Int} (hl : 0 < c.entries.length) (hv : ValidC c.entries h) : (cFind c h k s).1 = findP h k s ∧ ValidC (cFind c h k s).2.entries h := by
  by_cases hf : FullC c.entries k s
  · rw [cFind_hit hf]
    have hm : atN c.entries (placeN c.entries.length k s) ∈ c.entries := by
      rw [atN, List.getD_eq_getElem?_getD, List.getElem?_eq_getElem (placeN_in _ _ _ hl)]; exact List.getElem_mem _
    refine ⟨?_, hv⟩
    have := hv _ hm hf.1
    rw [hf.2.1, hf.2.2] at this
    exact this.symm
  · rw [cFind_miss hf]
    refine ⟨rfl, ?_⟩
    dsimp only
    split
    · rename_i he
      intro e hm hfe
      rcases List.mem_or_eq_of_mem_set hm with hm | rfl
      · exact hv e hm hfe
      · show findP h k s = _
        rw [← he]
    · exact hv
end Go.Pv

/- CacheSame: the law. -/
namespace Go.Pv
open Go Go.Pv.Bs
theorem find_evs {c : GCa} {h : GHeap} (hs : Slim h) (hl : 0 < c.entries.length ∧ c.entries.length ≤ 64) (k s : Int) : F_cache_Find c h k s = some (cFind c h k s) := if_pos ⟨hs, hl⟩
theorem flush_evs {c : GCa} (hl : 0 < c.entries.length ∧ c.entries.length ≤ 64) : F_cache_Flush c = some (cFlush c) := if_pos hl
theorem R09_Find_ev {h : GHeap} (hs : Slim h) (hb : BitsOk h) (k s : Int) : F_R09_Find h k s = some (findP h k s) := if_pos ⟨hs, hb⟩
abbrev SameS : Type := Int × List GEn × Int × Int × List GObj × Int × Int × List GObj × Int × Int
noncomputable def sameF (h : GHeap) (x : G_anamnesislaw10_Asks) (p : SameS) := s0_L10_CacheSame h.Objs h.Cap h.Last x.Size x.L p.fst p.snd.fst p.snd.snd.fst p.snd.snd.snd.fst p.snd.snd.snd.snd.fst p.snd.snd.snd.snd.snd.fst p.snd.snd.snd.snd.snd.snd.fst p.snd.snd.snd.snd.snd.snd.snd.fst p.snd.snd.snd.snd.snd.snd.snd.snd.fst p.snd.snd.snd.snd.snd.snd.snd.snd.snd
theorem same_loop (h g : GHeap) (hs : Slim h) (hb : BitsOk h) (gs : Slim g) (gb : BitsOk g) (x : G_anamnesislaw10_Asks) (hx : x.L.length ≤ 30) (n : Nat) (hn : 0 < n ∧ n ≤ 64) :
    ∃ r, iterO (sameF h x) ((0 : Int), List.replicate n zeroE, (0 : Int), (0 : Int), h.Objs, h.Cap, h.Last, g.Objs, g.Cap, g.Last) = some r ∧ sm r (fun t => t.1 = true) fun _ => True := by
  refine iter_post (S := sameF h x) (fun p => x.L.length - p.1.toNat)
    (fun p => ∃ (k : Nat) (h1 g1 : GHeap), p.1 = k ∧ k ≤ x.L.length ∧ p.2.1.length = n ∧ p.2.2.2.2 = (h1.Objs, h1.Cap, h1.Last, g1.Objs, g1.Cap, g1.Last) ∧ (Slim h1 ∧ BitsOk h1) ∧ (Slim g1 ∧ BitsOk g1) ∧ ValidC p.2.1 h1) _ (fun p hp => ?_) _ ⟨0, h, g, rfl, Nat.zero_le _, List.length_replicate .., rfl, ⟨hs, hb⟩, ⟨gs, gb⟩, valid_zero _ _⟩
  obtain ⟨i, l, a, b, z⟩ := p
  obtain ⟨k, h1, g1, hk, hk1, hk2, hz, ⟨s1, b1⟩, ⟨s2, b2⟩, hv⟩ := hp
  dsimp only at hk hk2 hz hv
  subst hk hz
  simp only [sameF, s0_L10_CacheSame]
  by_cases hlt : (k : Int) < (x.L.length : Int)
  · have e9 : w64 ((k : Int) + 1) = ((k + 1 : Nat) : Int) := by rw [w64_id (by omega) (by omega)]; omega
    rw [if_pos hlt, if_pos (by omega), e9]
    by_cases hf : (atI x.L (k : Int)).Flush = true
    · rw [if_pos hf, flush_evs (c := ⟨l, a, b⟩) (by dsimp only; omega), ob_some]
      exact .inl ⟨_, rfl, ⟨k + 1, g1, h1, rfl, by omega, by unfold cFlush; rw [List.length_replicate]; exact hk2, rfl, ⟨s2, b2⟩, ⟨s1, b1⟩, valid_zero _ _⟩, by dsimp only; omega⟩
    · rw [if_neg hf]
      rw [show ({ Objs := h1.Objs, Cap := h1.Cap, Last := h1.Last } : GHeap) = h1 from rfl]
      generalize (atI x.L (k : Int)).Class = K
      generalize (atI x.L (k : Int)).Sel = S
      rw [find_evs s1 (c := ⟨l, a, b⟩) (by dsimp only; omega), ob_some, R09_Find_ev s1 b1, ob_some]
      have l1 := cFind_len ⟨l, a, b⟩ h1 K S
      have v1 := cFind_valid (c := ⟨l, a, b⟩) (h := h1) (k := K) (s := S) (by dsimp only; omega) hv
      generalize (cFind ⟨l, a, b⟩ h1 K S) = r1 at l1 v1 ⊢
      obtain ⟨q1, ⟨l1', a1, b1'⟩⟩ := r1
      dsimp only at l1 v1 ⊢
      obtain ⟨rfl, v1⟩ := v1
      rw [if_pos rfl, if_pos rfl, if_pos rfl]
      exact .inl ⟨_, rfl, ⟨k + 1, h1, g1, rfl, by omega, by dsimp only; omega, rfl, ⟨s1, b1⟩, ⟨s2, b2⟩, v1⟩, by dsimp only; omega⟩
  · rw [if_neg hlt]
    exact .inr ⟨_, rfl, trivial⟩
theorem cacheSame (h g : GHeap) (x : G_anamnesislaw10_Asks) (hs : Slim h) (hb : BitsOk h) (gs : Slim g) (gb : BitsOk g) : F_L10_CacheSame h g x = some true := by
  unfold F_L10_CacheSame
  obtain ⟨t, hb1⟩ := R03_Small_ex h hs.1
  rw [hb1, ob_some]
  cases t with
  | false => rfl
  | true =>
  rw [if_pos rfl]
  obtain ⟨t, hb2⟩ := R03_Small_ex g gs.1
  rw [hb2, ob_some]
  cases t with
  | false => rfl
  | true =>
  rw [if_pos rfl]
  by_cases h1 : (h.Objs.length : Int) ≤ 40
  case neg => rw [if_neg h1]
  rw [if_pos h1]
  by_cases h1' : (g.Objs.length : Int) ≤ 40
  case neg => rw [if_neg h1']
  rw [if_pos h1']
  by_cases h2 : (x.L.length : Int) ≤ 30
  case neg => rw [if_neg h2]
  rw [if_pos h2]
  by_cases h3 : (1 : Int) ≤ x.Size
  case neg => rw [if_neg h3]
  rw [if_pos h3]
  by_cases h4 : (64 : Int) < x.Size
  case pos => rw [if_pos h4]
  rw [if_neg h4, if_pos ⟨h3, by omega⟩]
  obtain ⟨r, hr, hp⟩ := same_loop h g hs hb gs gb x (by omega) x.Size.toNat ⟨by omega, by omega⟩
  rw [show iterO (fun p : SameS => s0_L10_CacheSame h.Objs h.Cap h.Last x.Size x.L p.fst p.snd.fst p.snd.snd.fst p.snd.snd.snd.fst p.snd.snd.snd.snd.fst p.snd.snd.snd.snd.snd.fst p.snd.snd.snd.snd.snd.snd.fst p.snd.snd.snd.snd.snd.snd.snd.fst p.snd.snd.snd.snd.snd.snd.snd.snd.fst p.snd.snd.snd.snd.snd.snd.snd.snd.snd) ((0 : Int), List.replicate x.Size.toNat zeroE, (0 : Int), (0 : Int), h.Objs, h.Cap, h.Last, g.Objs, g.Cap, g.Last) = some r from hr, ob_some]
  cases r with
  | inl t =>
    rw [sm_inl]
    have : t.1 = true := hp
    rw [this]
  | inr u => rfl
end Go.Pv

/- Heaps: from the laws' arguments to plain data. -/
namespace Go.Pv
open Go Go.Proofs
abbrev iT : Ty := .int .i64
abbrev objT : Ty := .pair iT (.pair iT (.pair (.sl iT) (.pair .str (.pair iT (.pair iT .unit)))))
abbrev heapT : Ty := .pair (.sl objT) (.pair iT (.pair iT .unit))
def toObj (x : objT.den) : GObj := ⟨x.1, x.2.1, x.2.2.1, x.2.2.2.1, x.2.2.2.2.1, x.2.2.2.2.2.1⟩
def toObjs (l : (Ty.sl objT).den) : List GObj := List.map toObj l
def toHeap (x : heapT.den) : GHeap := ⟨toObjs x.1, x.2.1, x.2.2.1⟩
theorem map_enc {α β : Type} [Enc β] (e : α → List T) (f : α → β) (h : ∀ x, e x = Enc.enc (f x)) (l : List α) : List.map e l = els (List.map f l) := by
  unfold els
  rw [List.map_map]
  exact List.map_congr_left fun x _ => h x
theorem objT_enc (x : objT.den) : objT.enc x = Enc.enc (toObj x) := rfl
theorem objs_enc (l : (Ty.sl objT).den) : List.map (α := objT.den) objT.enc l = els (toObjs l) := map_enc objT.enc toObj objT_enc l
theorem ones {α : Type} (f : α → Nat) (hf : ∀ x, f x = 1) (l : List α) : (l.map f).sum = l.length := by
  induction l with
  | nil => rfl
  | cons a l ih => simp only [List.map_cons, List.sum_cons, List.length_cons, ih, hf]; omega
theorem sum_mem {α : Type} (f : α → Nat) : ∀ (l : List α) (x : α), x ∈ l → f x ≤ (l.map f).sum
  | a :: l, x, h => by
    rw [List.map_cons, List.sum_cons]
    rcases List.mem_cons.1 h with rfl | h
    · omega
    · have := sum_mem f l x h; omega
theorem sum_len {α : Type} (f : α → Nat) (hf : ∀ x, 1 ≤ f x) (l : List α) : l.length ≤ (l.map f).sum := by
  induction l with
  | nil => exact Nat.le_refl _
  | cons a l ih => have := hf a; simp only [List.map_cons, List.sum_cons, List.length_cons]; omega
theorem obj_bulk (x : objT.den) : (toObj x).Slots.length + (toObj x).Text.size + 1 ≤ objT.bulk x := by
  obtain ⟨c, kd, sl, tx, b, h, u⟩ := x
  have hs := ones (Ty.bulk iT) (fun _ => rfl) sl
  show List.length (α := iT.den) sl + ByteArray.size tx + 1 ≤ 1 + (1 + ((List.map (α := iT.den) (Ty.bulk iT) sl).sum + 1 + (ByteArray.size tx + 1 + (1 + (1 + 0)))))
  rw [hs]; omega
theorem int_wf {n : Int} (h : (Lit.int .i64 n).wf = true) : inR n := by
  simp only [Lit.wf, IntKind.min, IntKind.max, IntKind.signed, IntKind.bits, Bool.and_eq_true, decide_eq_true_eq, if_true] at h
  unfold inR
  constructor <;> omega
theorem objs_small (l : (Ty.sl objT).den) (hw : (Ty.sl objT).wf l) (hk : (Ty.sl objT).bulk l ≤ 1048576) (c la : Int) : Slim ⟨toObjs l, c, la⟩ ∧ BitsR ⟨toObjs l, c, la⟩ := by
  have h1 : (List.map (α := objT.den) objT.bulk l).sum + 1 ≤ 1048576 := hk
  have h2 := sum_len (α := objT.den) objT.bulk (fun x => by have := obj_bulk x; omega) l
  refine ⟨⟨?_, fun o ho => ?_⟩, fun o ho => ?_⟩
  · refine Nat.le_trans (Nat.le_of_eq (List.length_map (α := objT.den) toObj)) ?_
    unfold big; omega
  · obtain ⟨x, hx, rfl⟩ := List.mem_map.1 ho
    have h3 := sum_mem (α := objT.den) objT.bulk l x hx
    have h4 := obj_bulk x
    unfold big; omega
  · obtain ⟨x, hx, rfl⟩ := List.mem_map.1 ho
    have := hw.2 x hx
    obtain ⟨c, kd, sl, tx, b, h, u⟩ := x
    exact int_wf this.2.2.2.2.1
def hpD (h : GHeap) : D := .agg [.t (.sl 6 (els h.Objs)), I h.Cap, I h.Last]
theorem argD_heap (x : heapT.den) : argD heapT x = hpD (toHeap x) := by
  obtain ⟨l, c, la, u⟩ := x
  exact congrArg (fun e => D.agg [.t (.sl 6 e), I c, I la]) (objs_enc l)
theorem heap_slim (x : heapT.den) (hw : heapT.wf x) (hk : heapT.bulk x ≤ 1048576) : Slim (toHeap x) ∧ BitsR (toHeap x) := by
  obtain ⟨l, c, la, u⟩ := x
  have h1 : (Ty.sl objT).bulk l + (1 + (1 + 0)) ≤ 1048576 := hk
  exact objs_small l hw.1 (by omega) c la
theorem ints_len (l : (Ty.sl iT).den) (hk : (Ty.sl iT).bulk l ≤ 1048576) : List.length (α := Int) l ≤ 1048576 := by
  have h1 : (List.map (α := iT.den) (Ty.bulk iT) l).sum + 1 ≤ 1048576 := hk
  have h2 := ones (α := iT.den) (Ty.bulk iT) (fun _ => rfl) l
  have h3 : List.length (α := iT.den) l ≤ 1048576 := by omega
  exact h3
theorem argD_ints (l : (Ty.sl iT).den) : argD (.sl iT) l = .t (.sl 1 (els (α := Int) l)) := rfl
end Go.Pv

/- CacheSame, of data. -/
namespace Go.Pv
open Go Go.Proofs
abbrev askT : Ty := .pair iT (.pair iT (.pair .bool (.pair .bool .unit)))
abbrev asksT : Ty := .pair iT (.pair (.sl askT) .unit)
abbrev cacheST : Ty := .pair heapT (.pair heapT (.pair asksT .unit))
def toAsk (x : askT.den) : G_anamnesislaw10_Ask := ⟨x.1, x.2.1, x.2.2.1, x.2.2.2.1⟩
def toAsks (x : asksT.den) : G_anamnesislaw10_Asks := ⟨x.1, List.map (α := askT.den) toAsk x.2.1⟩
theorem askT_enc (x : askT.den) : askT.enc x = Enc.enc (toAsk x) := rfl
theorem argD_asks (x : asksT.den) : argD asksT x = .agg [I (toAsks x).Size, .t (.sl 4 (els (toAsks x).L))] := by
  obtain ⟨n, l, u⟩ := x
  exact congrArg (fun e => D.agg [I n, .t (.sl 4 e)]) (map_enc askT.enc toAsk askT_enc l)
theorem law_cacheSame (x : cacheST.den) (hx : cacheST.wf x) (hk : cacheST.bulk x ≤ 1048576) : cO Try.prog lore 7 (argDs cacheST x) [] = some (.val (Bo true), []) := by
  obtain ⟨h, g, a, u⟩ := x
  have h3 : heapT.bulk h + (heapT.bulk g + (asksT.bulk a + 0)) ≤ 1048576 := hk
  obtain ⟨a1, a2⟩ := heap_slim h hx.1 (by omega)
  obtain ⟨b1, b2⟩ := heap_slim g hx.2.1 (by omega)
  have e := f_L10_CacheSame (toHeap h).Objs (toHeap h).Cap (toHeap h).Last (toHeap g).Objs (toHeap g).Cap (toHeap g).Last (toAsks a).Size (toAsks a).L
  rw [show ({ Objs := (toHeap h).Objs, Cap := (toHeap h).Cap, Last := (toHeap h).Last : GHeap }) = toHeap h from rfl, show ({ Objs := (toHeap g).Objs, Cap := (toHeap g).Cap, Last := (toHeap g).Last : GHeap }) = toHeap g from rfl, show ({ Size := (toAsks a).Size, L := (toAsks a).L : G_anamnesislaw10_Asks }) = toAsks a from rfl, cacheSame _ _ _ a1 a2 b1 b2, ob_some] at e
  show cO Try.prog lore 7 [argD heapT h, argD heapT g, argD asksT a] [] = _
  rw [argD_heap, argD_heap, argD_asks]
  exact e
end Go.Pv
