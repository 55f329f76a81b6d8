/- A part of the road: the interpreter of plain data and the proof that it is right. -/
import Derived.Test.YtcomdnpeoicpkaaOD
import Derived.Test.YtcomdnpeoicpkaaG
import Derived.Test.YtcomdnpeoicpkaaPE
set_option linter.unusedVariables false
set_option linter.unusedSimpArgs false
/- Heaps: the document's functions in plain words (layers 3 and 9). -/
namespace Go.Pv
open Go.Pv.Bs
theorem bAnd_low (v : Int) : bAnd .i64 v 9223372036854775807 = v % 9223372036854775808 := by
  have h : (BitVec.ofInt IntKind.i64.bits v &&& BitVec.ofInt IntKind.i64.bits 9223372036854775807).toNat = (v % 9223372036854775808).toNat := by
    show (BitVec.ofInt 64 v &&& BitVec.ofInt 64 9223372036854775807).toNat = _
    rw [BitVec.toNat_and, BitVec.toNat_ofInt, BitVec.toNat_ofInt]
    show (v % ((2 ^ 64 : Nat) : Int)).toNat &&& (2 ^ 63 - 1) = _
    rw [Nat.and_two_pow_sub_one_eq_mod]
    omega
  unfold bAnd
  rw [h, wrap_w64, w64_id (by omega) (by omega)]
  omega
theorem iShr_52 (v : Int) : iShr .i64 v 52 = v / 4503599627370496 := by
  show v.fdiv (2 ^ (min (52 : Int).toNat 64)) = v / 4503599627370496
  rw [show (2 : Int) ^ (min (52 : Int).toNat 64) = 4503599627370496 from rfl, Int.fdiv_eq_ediv_of_nonneg _ (by omega)]
def inR (b : Int) : Prop := -9223372036854775808 ≤ b ∧ b ≤ 9223372036854775807
theorem R02_Canon_eq (a : Int) (h : inR a) : F_R02_Canon a = some (canonF a) := by
  unfold F_R02_Canon F_R02_Kind F_R02_plain F_R02_most F_R02_NaN canonF nanB
  simp only [ob_some, bAnd_low, iShr_52]
  rw [Int.tmod_eq_emod_of_nonneg (by omega), w64_id h.1 h.2]
  by_cases h1 : a % 9223372036854775808 / 4503599627370496 = 2047
  · rw [if_pos h1]
    by_cases h2 : a % 9223372036854775808 % 4503599627370496 = 0
    · have h3 : a % 4503599627370496 = 0 := by omega
      rw [if_pos h2, ob_some]
      simp [h3]
    · have h3 : ¬ a % 4503599627370496 = 0 := by omega
      rw [if_neg h2, ob_some]
      simp [h1, h3]
  · rw [if_neg h1]
    by_cases h4 : 0 < a % 9223372036854775808 / 4503599627370496
    · rw [if_pos h4, ob_some]; simp [h1]
    · rw [if_neg h4]
      by_cases h5 : 0 < a % 9223372036854775808 % 4503599627370496
      · rw [if_pos h5, ob_some]; simp [h1]
      · rw [if_neg h5, ob_some]; simp [h1]
theorem R01_At_eq (v : Int) : F_R01_At v = some (atP v) := by
  unfold F_R01_At atP at?
  by_cases h : v % 2 = 0
  · rw [if_pos ((tmod_two v).2 h)]
    by_cases h1 : 0 ≤ v
    · rw [if_pos h1]
      by_cases h2 : 2097150 < v
      · rw [if_pos h2, if_neg (by omega)]
      · rw [if_neg h2, if_pos (by omega), Int.tdiv_eq_ediv_of_nonneg h1, w64_id (by omega) (by omega)]
        simp only [Option.some.injEq, Prod.mk.injEq, and_true]; omega
    · rw [if_neg h1, if_neg (by omega)]
  · rw [if_neg (fun k => h ((tmod_two v).1 k)), if_neg (by omega)]
theorem tdiv_odd {v : Int} (h : v % 2 = 1) : (v - 1).tdiv 2 = v / 2 := by
  have e : v - 1 = 2 * (v / 2) := by omega
  rw [e, Int.mul_tdiv_cancel_left _ (by omega)]
theorem R01_N_eq (v : Int) : F_R01_N v = some (nP v) := by
  unfold F_R01_N nP n?
  by_cases h : v % 2 = 0
  · rw [if_pos ((tmod_two v).2 h), if_neg (by omega)]
  · rw [if_neg (fun k => h ((tmod_two v).1 k))]
    by_cases h1 : -2147483647 ≤ v
    · rw [if_pos h1]
      by_cases h2 : 2147483647 < v
      · rw [if_pos h2, if_neg (by omega)]
      · have h3 : v % 2 = 1 := by omega
        rw [if_neg h2, if_pos (by omega), w64_id (n := v - 1) (by omega) (by omega), tdiv_odd h3, w64_id (by omega) (by omega)]
    · rw [if_neg h1, if_neg (by omega)]
theorem R03_Ref_eq (h : GHeap) (v : Int) : F_R03_Ref h v = some (refI h.n v) := by
  unfold F_R03_Ref refI
  rw [R01_At_eq, ob_some]
  unfold atP GHeap.n
  cases at? v with
  | none => simp
  | some i =>
    by_cases hi : i < h.Objs.length
    · have : ¬ ((h.Objs.length : Int) ≤ (i : Int)) := by omega
      simp [hi, this]
    · have : (h.Objs.length : Int) ≤ (i : Int) := by omega
      simp [hi, this]
theorem R03_Has_eq (h : GHeap) (v : Int) : F_R03_Has h v = some (hasB h.n v) := by
  unfold F_R03_Has
  rw [R01_N_eq, ob_some, nP_snd, R03_Ref_eq, ob_some, hasB_ref]
  cases (n? v).isSome <;> simp
theorem R03_hash_eq (n : Int) : F_R03_hash n = some (decide (0 ≤ n ∧ n ≤ 1073741823)) := by
  unfold F_R03_hash
  by_cases h : 0 ≤ n
  · have : (n < 1073741824) ↔ (n ≤ 1073741823) := by omega
    simp [h, this]
  · simp [h]
theorem R03_obj_eq (h : GHeap) (o : GObj) (hl : o.Slots.length ≤ big) (hb : inR o.Bits) : F_R03_obj h o = some (dec (OkObj h.n o)) := by
  unfold F_R03_obj
  unfold big at hl
  obtain ⟨r, e, hr⟩ := iter_all o.Slots (hasB h.n) (S := fun p => s0_R03_obj h.Objs h.Cap h.Last o.Class o.Kind o.Slots o.Text o.Bits o.Hash p) (fun _ => false) (fun k hk => by
    simp only [s0_R03_obj, atI_nat _ k hk]
    rw [if_pos (by omega), if_pos (by omega), w64_id (by omega) (by omega)]
    rw [R03_Has_eq h, ob_some]
    cases hasB h.n o.Slots[k] <;> simp) (by simp [s0_R03_obj])
  rw [e, ob_some]
  cases r with
  | inl b =>
    obtain ⟨h7, k, _, rfl, _⟩ := hr
    rw [sm_inl, dec_false fun k => by
      rw [List.all_eq_true.2 k.slots] at h7; cases h7]
  | inr u =>
    have h7 : o.Slots.all (hasB h.n) = true := hr
    rw [sm_inr]
    simp only [R03_Ref_eq, R03_hash_eq, R02_Canon_eq _ hb, ob_some]
    by_cases h1 : 0 ≤ refI h.n o.Class
    case neg => rw [dec_false fun k => h1 k.cls]; simp [h1]
    by_cases h2 : 0 ≤ o.Kind
    case neg => rw [dec_false fun k => h2 k.kind.1]; simp [h2]
    by_cases h2' : o.Kind ≤ 2
    case neg => rw [dec_false fun k => h2' k.kind.2]; simp [h2']
    by_cases h3 : 0 ≤ o.Hash ∧ o.Hash ≤ 1073741823
    case neg => rw [dec_false fun k => h3 k.hash, decide_eq_false h3]; simp
    by_cases h4 : (o.Slots.length : Int) ≤ 64
    case neg => rw [dec_false fun k => h4 (by have := k.nslots; omega)]; simp [h4]
    by_cases h5 : (o.Text.size : Int) ≤ 64
    case neg => rw [dec_false fun k => h5 (by have := k.ntext; omega)]; simp [h5]
    by_cases h6 : canonF o.Bits = o.Bits
    case neg =>
      rw [dec_false fun k => h6 k.canon]
      have : (canonF o.Bits == o.Bits) = false := by simpa using h6
      simp [this]
    have hiff : OkObj h.n o ↔ ((o.Kind ≠ 0 → o.Slots = []) ∧ (o.Kind ≠ 1 → o.Text = ByteArray.empty) ∧ (o.Kind ≠ 2 → o.Bits = 0)) :=
      ⟨fun k => ⟨k.ptr, k.text, k.bits⟩, fun k => ⟨h1, ⟨h2, h2'⟩, h3, k.1, k.2.1, k.2.2, by omega, by omega, h6, List.all_eq_true.1 h7⟩⟩
    rw [dec_congr hiff, dec_decide, decide_eq_true h3]
    have e0 : ({ data := #[] } : ByteArray) = ByteArray.empty := rfl
    have e1 : (canonF o.Bits == o.Bits) = true := by simpa using h6
    rw [e0, e1]
    simp only [h1, h2, h2', h4, h5, if_true]
    by_cases k0 : o.Kind = 0
    · simp [k0]
      by_cases b1 : o.Text = ByteArray.empty <;> by_cases b2 : o.Bits = 0 <;> simp [b1, b2]
    · by_cases k1 : o.Kind = 1
      · simp [k1]
        by_cases b1 : o.Slots = [] <;> by_cases b2 : o.Bits = 0 <;> simp [b1, b2]
      · have k2 : o.Kind = 2 := by omega
        simp [k2]
        by_cases b1 : o.Slots = [] <;> by_cases b2 : o.Text = ByteArray.empty <;> simp [b1, b2]
/-- All bits are a machine's. -/
def BitsR (h : GHeap) : Prop := ∀ o ∈ h.Objs, inR o.Bits
theorem R03_May_eq (h : GHeap) (hs : Slim h) (hb : BitsR h) : F_R03_May h = some (dec (OkHeap h)) := by
  obtain ⟨hl, hso⟩ := hs
  unfold big at hl
  unfold F_R03_May
  obtain ⟨r, e, hr⟩ := iter_all h.Objs (fun o => dec (OkObj h.n o)) (S := fun p => s0_R03_May h.Objs h.Cap h.Last p) (fun _ => false) (fun k hk => by
    have ho := R03_obj_eq h h.Objs[k] (by have := hso _ (List.getElem_mem hk); omega) (hb _ (List.getElem_mem hk))
    simp only [s0_R03_May, atI_nat _ k hk]
    rw [if_pos (by omega), if_pos (by omega), w64_id (by omega) (by omega)]
    rw [ho, ob_some]
    cases dec (OkObj h.n h.Objs[k]) <;> simp) (by simp [s0_R03_May])
  rw [e, ob_some]
  cases r with
  | inl b =>
    obtain ⟨h5, k, hk, rfl, hf, _⟩ := hr
    rw [sm_inl, dec_false fun ok => by
      rw [show OkObj h.n h.Objs[k] = OkObj h.Objs.length h.Objs[k] from rfl, dec_true (ok.objs _ (List.getElem_mem hk))] at hf; cases hf]
  | inr u =>
    have h5 : h.Objs.all (fun o => dec (OkObj h.n o)) = true := hr
    rw [sm_inr]
    by_cases h1 : 1 ≤ h.Cap
    case neg => rw [if_neg h1, dec_false fun k => h1 k.cap.1]
    by_cases h2 : h.Cap ≤ 256
    case neg => rw [if_pos h1, if_neg h2, dec_false fun k => h2 k.cap.2]
    by_cases h3 : (h.Objs.length : Int) ≤ h.Cap
    case neg => rw [if_pos h1, if_pos h2, if_neg h3, dec_false fun k => h3 k.len]
    rw [if_pos h1, if_pos h2, if_pos h3, R03_hash_eq, ob_some]
    by_cases h4 : 0 ≤ h.Last ∧ h.Last ≤ 1073741823
    case neg => rw [decide_eq_false h4, dec_false fun k => h4 k.last]
    rw [decide_eq_true h4, dec_true ⟨⟨h1, h2⟩, h3, h4, fun o ho => dec_iff.1 (List.all_eq_true.1 h5 o ho)⟩]
theorem R03_Small_ex (h : GHeap) (hl : h.Objs.length ≤ big) : ∃ b, F_R03_Small h = some b := by
  unfold big at hl
  unfold F_R03_Small
  obtain ⟨r, e, _⟩ := iter_post (S := fun p : Int × Int => s0_R03_Small h.Objs h.Cap h.Last p.fst p.snd) (fun p => h.Objs.length - p.2.toNat) (fun p => ∃ k : Nat, p.2 = k ∧ k ≤ h.Objs.length) (fun _ => True) (fun p hp => by
    obtain ⟨n, i⟩ := p
    obtain ⟨k, hk, hle⟩ := hp
    simp only at hk
    subst hk
    simp only [s0_R03_Small]
    by_cases h1 : (k : Int) < h.Objs.length
    · rw [if_pos h1]
      by_cases h2 : n < 5000
      · rw [if_pos h2, if_pos (by omega), if_pos (by omega), w64_id (n := (k : Int) + 1) (by omega) (by omega)]
        exact .inl ⟨_, rfl, ⟨k + 1, rfl, by omega⟩, by simp; omega⟩
      · rw [if_neg h2]; exact .inr ⟨_, rfl, trivial⟩
    · rw [if_neg h1]; exact .inr ⟨_, rfl, trivial⟩) ((0 : Int), (0 : Int)) ⟨0, rfl, Nat.zero_le _⟩
  rw [e, ob_some]
  split <;> exact ⟨_, rfl⟩
end Go.Pv

/- Heaps: from the laws' arguments to plain data. -/
namespace Go.Pv
open Go Go.Proofs
abbrev iT : Ty := .int .i64
abbrev objT : Ty := .pair iT (.pair iT (.pair (.sl iT) (.pair .str (.pair iT (.pair iT .unit)))))
abbrev heapT : Ty := .pair (.sl objT) (.pair iT (.pair iT .unit))
def toObj (x : objT.den) : GObj := ⟨x.1, x.2.1, x.2.2.1, x.2.2.2.1, x.2.2.2.2.1, x.2.2.2.2.2.1⟩
def toObjs (l : (Ty.sl objT).den) : List GObj := List.map toObj l
def toHeap (x : heapT.den) : GHeap := ⟨toObjs x.1, x.2.1, x.2.2.1⟩
theorem map_enc {α β : Type} [Enc β] (e : α → List T) (f : α → β) (h : ∀ x, e x = Enc.enc (f x)) (l : List α) : List.map e l = els (List.map f l) := by
  unfold els
  rw [List.map_map]
  exact List.map_congr_left fun x _ => h x
theorem objT_enc (x : objT.den) : objT.enc x = Enc.enc (toObj x) := rfl
theorem objs_enc (l : (Ty.sl objT).den) : List.map (α := objT.den) objT.enc l = els (toObjs l) := map_enc objT.enc toObj objT_enc l
theorem ones {α : Type} (f : α → Nat) (hf : ∀ x, f x = 1) (l : List α) : (l.map f).sum = l.length := by
  induction l with
  | nil => rfl
  | cons a l ih => simp only [List.map_cons, List.sum_cons, List.length_cons, ih, hf]; omega
theorem sum_mem {α : Type} (f : α → Nat) : ∀ (l : List α) (x : α), x ∈ l → f x ≤ (l.map f).sum
  | a :: l, x, h => by
    rw [List.map_cons, List.sum_cons]
    rcases List.mem_cons.1 h with rfl | h
    · omega
    · have := sum_mem f l x h; omega
theorem sum_len {α : Type} (f : α → Nat) (hf : ∀ x, 1 ≤ f x) (l : List α) : l.length ≤ (l.map f).sum := by
  induction l with
  | nil => exact Nat.le_refl _
  | cons a l ih => have := hf a; simp only [List.map_cons, List.sum_cons, List.length_cons]; omega
theorem obj_bulk (x : objT.den) : (toObj x).Slots.length + (toObj x).Text.size + 1 ≤ objT.bulk x := by
  obtain ⟨c, kd, sl, tx, b, h, u⟩ := x
  have hs := ones (Ty.bulk iT) (fun _ => rfl) sl
  show List.length (α := iT.den) sl + ByteArray.size tx + 1 ≤ 1 + (1 + ((List.map (α := iT.den) (Ty.bulk iT) sl).sum + 1 + (ByteArray.size tx + 1 + (1 + (1 + 0)))))
  rw [hs]; omega
theorem int_wf {n : Int} (h : (Lit.int .i64 n).wf = true) : inR n := by
  simp only [Lit.wf, IntKind.min, IntKind.max, IntKind.signed, IntKind.bits, Bool.and_eq_true, decide_eq_true_eq, if_true] at h
  unfold inR
  constructor <;> omega
theorem objs_small (l : (Ty.sl objT).den) (hw : (Ty.sl objT).wf l) (hk : (Ty.sl objT).bulk l ≤ 1048576) (c la : Int) : Slim ⟨toObjs l, c, la⟩ ∧ BitsR ⟨toObjs l, c, la⟩ := by
  have h1 : (List.map (α := objT.den) objT.bulk l).sum + 1 ≤ 1048576 := hk
  have h2 := sum_len (α := objT.den) objT.bulk (fun x => by have := obj_bulk x; omega) l
  refine ⟨⟨?_, fun o ho => ?_⟩, fun o ho => ?_⟩
  · refine Nat.le_trans (Nat.le_of_eq (List.length_map (α := objT.den) toObj)) ?_
    unfold big; omega
  · obtain ⟨x, hx, rfl⟩ := List.mem_map.1 ho
    have h3 := sum_mem (α := objT.den) objT.bulk l x hx
    have h4 := obj_bulk x
    unfold big; omega
  · obtain ⟨x, hx, rfl⟩ := List.mem_map.1 ho
    have := hw.2 x hx
    obtain ⟨c, kd, sl, tx, b, h, u⟩ := x
    exact int_wf this.2.2.2.2.1
def hpD (h : GHeap) : D := .agg [.t (.sl 6 (els h.Objs)), I h.Cap, I h.Last]
theorem argD_heap (x : heapT.den) : argD heapT x = hpD (toHeap x) := by
  obtain ⟨l, c, la, u⟩ := x
  exact congrArg (fun e => D.agg [.t (.sl 6 e), I c, I la]) (objs_enc l)
theorem heap_slim (x : heapT.den) (hw : heapT.wf x) (hk : heapT.bulk x ≤ 1048576) : Slim (toHeap x) ∧ BitsR (toHeap x) := by
  obtain ⟨l, c, la, u⟩ := x
  have h1 : (Ty.sl objT).bulk l + (1 + (1 + 0)) ≤ 1048576 := hk
  exact objs_small l hw.1 (by omega) c la
theorem ints_len (l : (Ty.sl iT).den) (hk : (Ty.sl iT).bulk l ≤ 1048576) : List.length (α := Int) l ≤ 1048576 := by
  have h1 : (List.map (α := iT.den) (Ty.bulk iT) l).sum + 1 ≤ 1048576 := hk
  have h2 := ones (α := iT.den) (Ty.bulk iT) (fun _ => rfl) l
  have h3 : List.length (α := iT.den) l ≤ 1048576 := by omega
  exact h3
theorem argD_ints (l : (Ty.sl iT).den) : argD (.sl iT) l = .t (.sl 1 (els (α := Int) l)) := rfl
end Go.Pv

/- CacheTells, told of data. -/
namespace Go.Pv
open Go Go.Proofs
theorem tells_walk (u ug av : Value) (h g : GHeap) (x : GAsks) (w : World) (H : HB w u h) (G : HB w ug g) (A : RA w av (.sl 4 (els x.L))) (hs : Slim h) (hb : BitsOk h) (gs : Slim g) (gb : BitsOk g) :
    Calls Try.prog 6 #[hv3 u h, hv3 ug g, .agg #[.int .i64 x.Size, av]] w (TellsPost w) := by
  obtain ⟨b1, e1⟩ := Bs.R03_Small_ex h hs.1
  obtain ⟨b2, e2⟩ := Bs.R03_Small_ex g gs.1
  cases b1 with
  | false => exact tells_no u ug av h g x w H G A hs gs (.inl e1)
  | true =>
    cases b2 with
    | false => exact tells_no u ug av h g x w H G A hs gs (.inr ⟨e1, e2⟩)
    | true =>
      by_cases hno : (h.Objs.length : Int) ≤ 40 ∧ (g.Objs.length : Int) ≤ 40 ∧ (x.L.length : Int) ≤ 30 ∧ 1 ≤ x.Size ∧ x.Size ≤ 64
      · exact tells_main u ug av h g x w H G A hs hb gs gb e1 e2 hno.1 hno.2.1 hno.2.2.1 hno.2.2.2.1 hno.2.2.2.2
      · exact tells_much u ug av h g x w H G A hs gs e1 e2 hno
abbrev asksD (x : GAsks) : D := .agg [I x.Size, .t (.sl 4 (els x.L))]
open Classical in
noncomputable def tellsS (ds : List D) : Option D :=
  if ∃ (h g : GHeap) (x : GAsks), ds = [hpD h, hpD g, asksD x] ∧ Slim h ∧ BitsOk h ∧ Slim g ∧ BitsOk g then some (Bo true) else none
theorem args3c {B fr : Nat} {G : Gh} {w : World} {vs : Array Value} {a b c : D} (hlen : vs.size = 3)
    (hargs : ∀ (i : Nat) u d, vs[i]? = some u → [a, b, c][i]? = some d → d.hasOwn = false ∧ VD B fr G vr0 w (.pn fr i []) u d) : ∃ u v x, vs = #[u, v, x] ∧ VD B fr G vr0 w (.pn fr 0 []) u a ∧ VD B fr G vr0 w (.pn fr 1 []) v b ∧ VD B fr G vr0 w (.pn fr 2 []) x c := by
  obtain ⟨vs⟩ := vs
  match vs, hlen with
  | [x, y, z], _ => exact ⟨x, y, z, rfl, (hargs 0 x _ rfl rfl).2, (hargs 1 y _ rfl rfl).2, (hargs 2 z _ rfl rfl).2⟩
theorem asks_data {B fr : Nat} {G : Gh} {vr : Pl → Nat} {w : World} {p : Ap} {u : Value} {x : GAsks} (hv : VD B fr G vr w p u (asksD x)) : ∃ av, u = .agg #[.int .i64 x.Size, av] ∧ RA w av (.sl 4 (els x.L)) := by
  cases hv with
  | agg _ us _ hs h1 hh =>
    obtain ⟨us⟩ := us
    match us, hs with
    | [a, b], _ =>
      have h0 := (hh 0 a _ rfl rfl).sc
      have h2 := VD.data (hh 1 b _ rfl rfl)
      subst h0
      exact ⟨b, rfl, h2⟩
theorem tells_told : ∀ ds d, tellsS ds = some d → ∀ B G frs w (vs : Array Value), FrS B G frs w → vs.size = ds.length →
    (∀ (i : Nat) u d, vs[i]? = some u → ds[i]? = some d → d.hasOwn = false ∧ VD B frs.length G vr0 w (.pn frs.length i []) u d) →
    d.outOk = true ∧ Calls Try.prog 6 vs w fun out w' => ∃ v G', out = .returned v ∧ FrS B G' frs w' ∧ Step frs.length G w G' w' ∧ VD B frs.length G' vr0 w' (.pn frs.length 0 []) v d := by
  intro ds d hs B G frs w vs F hlen hargs
  unfold tellsS at hs
  split at hs
  · rename_i hx
    cases hs
    obtain ⟨h, g, x, rfl, a1, a2, a3, a4⟩ := hx
    obtain ⟨u, v, z, rfl, hu, hv, hz⟩ := args3c hlen hargs
    obtain ⟨u0, rfl, H⟩ := HA.of hu
    obtain ⟨v0, rfl, G0⟩ := HA.of hv
    obtain ⟨z0, rfl, A⟩ := asks_data hz
    obtain ⟨u1, e1, H⟩ := H
    obtain ⟨v1, e2, G0⟩ := G0
    cases e1
    cases e2
    refine ⟨rfl, (tells_walk u0 v0 z0 h g x w H G0 A a1 a2 a3 a4).mono ?_⟩
    rintro e w' ⟨rfl, hbw⟩
    obtain ⟨F', S'⟩ := frs_below F hbw
    exact ⟨_, G, rfl, F', S', VD.scal rfl⟩
  · cases hs
noncomputable def loreT : Lore := ⟨fun _ => {}, fun
  | 6 => some (plainT tellsS)
  | _ => none⟩
theorem toldT : ToldOk Try.prog loreT.told := by
  intro f s h
  unfold loreT at h
  simp only at h
  split at h
  · cases h; exact plain_ok tells_told
  · cases h
theorem tells_D (h g : GHeap) (x : GAsks) (a1 : Slim h) (a2 : BitsOk h) (a3 : Slim g) (a4 : BitsOk g) : cO Try.prog loreT 6 [hpD h, hpD g, asksD x] [] = some (.val (Bo true), []) := by
  rw [cO_told (s := tellsS) rfl]
  have e : tellsS [hpD h, hpD g, asksD x] = some (Bo true) := by
    unfold tellsS
    rw [if_pos ⟨h, g, x, rfl, a1, a2, a3, a4⟩]
  show wrapThen _ ((tellsS [hpD h, hpD g, asksD x]).map _) = _
  rw [e]
  rfl
abbrev askT : Ty := .pair iT (.pair iT (.pair .bool (.pair .bool .unit)))
abbrev asksT : Ty := .pair iT (.pair (.sl askT) .unit)
abbrev cacheST : Ty := .pair heapT (.pair heapT (.pair asksT .unit))
def toAsk (x : askT.den) : G_anamnesislaw10_Ask := ⟨x.1, x.2.1, x.2.2.1, x.2.2.2.1⟩
def toAsks (x : asksT.den) : G_anamnesislaw10_Asks := ⟨x.1, List.map (α := askT.den) toAsk x.2.1⟩
theorem askT_enc (x : askT.den) : askT.enc x = Enc.enc (toAsk x) := rfl
theorem argD_asks (x : asksT.den) : argD asksT x = .agg [I (toAsks x).Size, .t (.sl 4 (els (toAsks x).L))] := by
  obtain ⟨n, l, u⟩ := x
  exact congrArg (fun e => D.agg [I n, .t (.sl 4 e)]) (map_enc askT.enc toAsk askT_enc l)
theorem law_cacheTells (x : cacheST.den) (hx : cacheST.wf x) (hk : cacheST.bulk x ≤ 1048576) : cO Try.prog loreT 6 (argDs cacheST x) [] = some (.val (Bo true), []) := by
  obtain ⟨h, g, a, u⟩ := x
  have h3 : heapT.bulk h + (heapT.bulk g + (asksT.bulk a + 0)) ≤ 1048576 := hk
  obtain ⟨a1, a2⟩ := heap_slim h hx.1 (by omega)
  obtain ⟨b1, b2⟩ := heap_slim g hx.2.1 (by omega)
  show cO Try.prog loreT 6 [argD heapT h, argD heapT g, argD asksT a] [] = _
  rw [argD_heap, argD_heap, argD_asks]
  exact tells_D (toHeap h) (toHeap g) (toAsks a) a1 a2 b1 b2
end Go.Pv
