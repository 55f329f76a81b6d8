/- A part of the road: the interpreter of plain data and the proof that it is right. -/
import Derived.Test.YtakdpnelbnbkgaaN
import Derived.Test.YtakdpnelbnbkgaaQ
import Derived.Test.YtakdpnelbnbkgaaG
import Derived.Test.YtakdpnelbnbkgaaH
import Derived.Below
import Derived.Test.YtakdpnelbnbkgaaW
import Derived.Test.YtakdpnelbnbkgaaT
set_option linter.unusedVariables false
set_option linter.unusedSimpArgs false
/- Values, heaps and what is reached: the program's functions in plain words. -/
namespace Go.Pv.Bs
/-- A loop that looks for the first one that is not so. -/
theorem iter_all {α β : Type} [Enc α] (l : List α) (p : α → Bool) {S : Int → Option (Int ⊕ β ⊕ Unit)} (R : Nat → β)
    (hS : ∀ (k : Nat) (h : k < l.length), S (k : Int) = if p l[k] = true then some (.inl ((k + 1 : Nat) : Int)) else some (.inr (.inl (R k)))) (he : S (l.length : Int) = some (.inr (.inr ()))) :
    ∃ r, iterO S 0 = some r ∧ sm r (fun b => l.all p = false ∧ ∃ k, ∃ h : k < l.length, b = R k ∧ p l[k] = false ∧ ∀ j (hj : j < k), p (l[j]'(by omega)) = true) fun _ => l.all p = true := by
  refine iter_post (S := S) (fun i => l.length - i.toNat) (fun i => ∃ k : Nat, i = k ∧ k ≤ l.length ∧ ∀ j (hj : j < k) (h : j < l.length), p l[j] = true) _ (fun i hi => ?_) 0 ⟨0, rfl, Nat.zero_le _, fun j hj => by omega⟩
  obtain ⟨k, rfl, hk, ht⟩ := hi
  rcases Nat.lt_or_ge k l.length with h | h
  · rw [hS k h]
    by_cases e : p l[k] = true
    · refine .inl ⟨_, if_pos e, ⟨k + 1, rfl, h, fun j hj hjl => ?_⟩, by simp; omega⟩
      by_cases ej : j = k
      · subst ej; exact e
      · exact ht j (by omega) hjl
    · refine .inr ⟨_, if_neg e, ?_, k, h, rfl, by simpa using e, fun j hj => ht j hj (by omega)⟩
      rw [List.all_eq_false]
      exact ⟨_, List.getElem_mem h, by simpa using e⟩
  · have : k = l.length := by omega
    subst this
    refine .inr ⟨_, he, ?_⟩
    show l.all p = true
    rw [List.all_eq_true]
    intro x hx
    obtain ⟨j, hj, rfl⟩ := List.getElem_of_mem hx
    exact ht j hj hj
theorem iterO_step {A B : Type} {S : A → Option (A ⊕ B)} {a a' : A} (h : S a = some (.inl a')) : iterO S a = iterO S a' := by rw [iterO_eq, h]
theorem iterO_stop {A B : Type} {S : A → Option (A ⊕ B)} {a : A} {b : B} (h : S a = some (.inr b)) : iterO S a = some b := by rw [iterO_eq, h]
theorem value_At_eq (v : Int) : F_value_At v = some (atP v) := by
  unfold F_value_At F_value_object atP at?
  rw [bAnd_one, iShr_one]
  by_cases h : v % 2 = 0
  · rw [if_pos h]
    by_cases h1 : 0 ≤ v / 2
    · rw [if_pos h1, ob_some]
      by_cases h2 : v / 2 < 1048576
      · rw [if_pos (by simpa using h2), if_pos (by omega)]
        simp only [Option.some.injEq, Prod.mk.injEq, and_true]; omega
      · rw [if_neg (by simpa using h2), if_neg (by omega)]
    · rw [if_neg h1, ob_some, if_neg (by simp), if_neg (by omega)]
  · rw [if_neg h, if_neg (by omega)]
theorem value_N_eq (v : Int) : F_value_N v = some (nP v) := by
  unfold F_value_N F_value_small nP n?
  rw [bAnd_one, iShr_one]
  by_cases h : v % 2 = 1
  · rw [if_pos h]
    by_cases h1 : -1073741824 ≤ v / 2
    · rw [if_pos h1, ob_some]
      by_cases h2 : v / 2 ≤ 1073741823
      · rw [if_pos (by simpa using h2), if_pos (by omega)]
      · rw [if_neg (by simpa using h2), if_neg (by omega)]
    · rw [if_neg h1, ob_some, if_neg (by simp), if_neg (by omega)]
  · rw [if_neg h, if_neg (by omega)]
theorem atP_snd (v : Int) : (atP v).2 = (at? v).isSome := by unfold atP; cases at? v <;> rfl
theorem nP_snd (v : Int) : (nP v).2 = (n? v).isSome := by unfold nP; cases n? v <;> rfl
theorem heap_ref_eq (n : Nat) (v : Int) : F_heap_objects_ref (n : Int) v = some (refI n v) := by
  unfold F_heap_objects_ref refI
  rw [value_At_eq, ob_some]
  unfold atP
  cases at? v with
  | none => simp
  | some i =>
    by_cases h : i < n
    · simp [h]
    · simp [h]
theorem hasB_ref (n : Nat) (v : Int) : hasB n v = ((n? v).isSome || decide (0 ≤ refI n v)) := by
  unfold hasB refI
  cases at? v with
  | none => simp
  | some i => by_cases h : i < n <;> simp [h]
theorem heap_has_eq (n : Nat) (v : Int) : F_heap_objects_has (n : Int) v = some (hasB n v) := by
  unfold F_heap_objects_has
  rw [value_N_eq, ob_some, nP_snd, heap_ref_eq, ob_some, hasB_ref]
  cases (n? v).isSome <;> simp
theorem contains154_eq (s : List Int) (n : Nat) (a b c d : Int) (l : List Int) (t : ByteArray) (h : s.length ≤ big) : F_slices_ContainsFunc_75_u0 s (n : Int) a b l t c d = some (!s.all (hasB n)) := by
  unfold F_slices_ContainsFunc_75_u0 F_slices_IndexFunc_82_u0
  unfold big at h
  obtain ⟨r, e, hr⟩ := iter_all s (hasB n) (S := fun p => s0_slices_IndexFunc_82_u0 s (s.length : Int) (n : Int) a b l t c d p) (fun k => (k : Int)) (fun k hk => by
    simp only [s0_slices_IndexFunc_82_u0, F_heap_objects_may_1_u0, atI_nat _ k hk, heap_has_eq, ob_some]
    rw [if_pos (by omega), if_pos (by omega), w64_id (by omega) (by omega)]
    cases hasB n s[k] <;> simp) (by simp [s0_slices_IndexFunc_82_u0])
  rw [e, ob_some]
  cases r with
  | inl b =>
    obtain ⟨h1, k, _, rfl, _⟩ := hr
    simp [h1]
  | inr u =>
    have h1 : s.all (hasB n) = true := hr
    simp [h1]
theorem heap_in_eq (n m : Int) : F_heap_in n m = some (decide (0 ≤ n ∧ n ≤ m)) := by
  unfold F_heap_in
  by_cases h : 0 ≤ n
  · simp [h]
  · simp [h]
theorem dec_decide {p : Prop} [Decidable p] : dec p = decide p := by
  by_cases h : p
  · rw [dec_true h, decide_eq_true h]
  · rw [dec_false h, decide_eq_false h]
theorem heap_may_obj_eq (n : Nat) (o : GObj) (h : o.Slots.length ≤ big) : F_heap_objects_may (n : Int) o = some (dec (OkObj n o)) := by
  unfold F_heap_objects_may
  rw [heap_ref_eq, ob_some]
  by_cases h1 : 0 ≤ refI n o.Class
  case neg => rw [if_neg h1, dec_false fun k => h1 k.cls]
  rw [if_pos h1, heap_in_eq, ob_some]
  by_cases h2 : 0 ≤ o.Kind ∧ o.Kind ≤ 2
  case neg => rw [decide_eq_false h2, if_neg (by simp), dec_false fun k => h2 k.kind]
  rw [decide_eq_true h2, if_pos rfl, heap_in_eq, ob_some]
  by_cases h3 : 0 ≤ o.Hash ∧ o.Hash ≤ 1073741823
  case neg => rw [decide_eq_false h3, if_pos rfl, dec_false fun k => h3 k.hash]
  rw [decide_eq_true h3, if_neg (by simp)]
  simp only [contains154_eq o.Slots n _ _ _ _ _ _ h, ob_some, Bool.not_not]
  by_cases h4 : (o.Slots.length : Int) ≤ 64
  case neg => rw [dec_false fun k => h4 (by have := k.nslots; omega)]; simp [h4]
  by_cases h5 : (o.Text.size : Int) ≤ 64
  case neg => rw [dec_false fun k => h5 (by have := k.ntext; omega)]; simp [h5]
  by_cases h6 : canonF o.Bits = o.Bits
  case neg => rw [dec_false fun k => h6 k.canon]; simp [h6]
  cases h7 : o.Slots.all (hasB n) with
  | false =>
    rw [dec_false fun k => by
      rw [List.all_eq_true.2 k.slots] at h7; cases h7]
    simp
  | true =>
    have hiff : OkObj n o ↔ ((o.Kind ≠ 0 → o.Slots = []) ∧ (o.Kind ≠ 1 → o.Text = ByteArray.empty) ∧ (o.Kind ≠ 2 → o.Bits = 0)) :=
      ⟨fun k => ⟨k.ptr, k.text, k.bits⟩, fun k => ⟨h1, h2, h3, k.1, k.2.1, k.2.2, by omega, by omega, h6, List.all_eq_true.1 h7⟩⟩
    rw [dec_congr hiff, dec_decide]
    have e0 : ({ data := #[] } : ByteArray) = ByteArray.empty := rfl
    rw [e0]
    simp only [h4, h5, h6, if_true]
    by_cases k0 : o.Kind = 0
    · simp [k0]
      by_cases b1 : o.Text = ByteArray.empty <;> by_cases b2 : o.Bits = 0 <;> simp [b1, b2]
    · by_cases k1 : o.Kind = 1
      · simp [k1]
        by_cases b1 : o.Slots = [] <;> by_cases b2 : o.Bits = 0 <;> simp [b1, b2]
      · have k2 : o.Kind = 2 := by omega
        simp [k2]
        by_cases b1 : o.Slots = [] <;> by_cases b2 : o.Text = ByteArray.empty <;> simp [b1, b2]
theorem heap_May_eq (h : GHeap) (hs : Slim h) : F_heap_May h = some (dec (OkHeap h)) := by
  obtain ⟨hl, hso⟩ := hs
  unfold big at hl
  unfold F_heap_May
  by_cases h1 : 1 ≤ h.Cap
  case neg => rw [if_neg h1, dec_false fun k => h1 k.cap.1]
  by_cases h2 : h.Cap ≤ 256
  case neg => rw [if_pos h1, if_neg h2, dec_false fun k => h2 k.cap.2]
  by_cases h3 : (h.Objs.length : Int) ≤ h.Cap
  case neg => rw [if_pos h1, if_pos h2, if_neg h3, dec_false fun k => h3 k.len]
  rw [if_pos h1, if_pos h2, if_pos h3, heap_in_eq, ob_some]
  by_cases h4 : 0 ≤ h.Last ∧ h.Last ≤ 1073741823
  case neg => rw [decide_eq_false h4, if_pos rfl, dec_false fun k => h4 k.last]
  rw [decide_eq_true h4, if_neg (by simp)]
  unfold F_slices_ContainsFunc_63_u0 F_slices_IndexFunc_72_u0
  obtain ⟨r, e, hr⟩ := iter_all h.Objs (fun o => dec (OkObj h.Objs.length o)) (S := fun p => s0_slices_IndexFunc_72_u0 h.Objs (h.Objs.length : Int) h.Objs h.Cap h.Last (h.Objs.length : Int) p) (fun k => (k : Int)) (fun k hk => by
    have ho := heap_may_obj_eq h.Objs.length h.Objs[k] (by have := hso _ (List.getElem_mem hk); omega)
    simp only [s0_slices_IndexFunc_72_u0, F_heap_May_1_u0, atI_nat _ k hk]
    rw [if_pos (by omega), if_pos (by omega), w64_id (by omega) (by omega)]
    rw [show ({ Class := h.Objs[k].Class, Kind := h.Objs[k].Kind, Slots := h.Objs[k].Slots, Text := h.Objs[k].Text, Bits := h.Objs[k].Bits, Hash := h.Objs[k].Hash } : GObj) = h.Objs[k] from rfl, ho, ob_some, ob_some]
    cases dec (OkObj h.Objs.length h.Objs[k]) <;> simp) (by simp [s0_slices_IndexFunc_72_u0])
  rw [e, ob_some]
  cases r with
  | inl b =>
    obtain ⟨h5, k, hk, rfl, hf, _⟩ := hr
    rw [dec_false fun ok => by
      rw [dec_true (ok.objs _ (List.getElem_mem hk))] at hf; cases hf]
    simp
  | inr u =>
    have h5 : h.Objs.all (fun o => dec (OkObj h.Objs.length o)) = true := hr
    rw [dec_true ⟨⟨h1, h2⟩, h3, h4, fun o ho => dec_iff.1 (List.all_eq_true.1 h5 o ho)⟩]
    simp
theorem value_May_eq (v : Int) : F_value_May v = some ((n? v).isSome || (at? v).isSome) := by
  unfold F_value_May
  rw [value_N_eq, ob_some, value_At_eq, ob_some, nP_snd, atP_snd]
  cases (n? v).isSome <;> simp
theorem n_at (v : Int) : (n? v).isSome = true → at? v = none := by
  unfold n? at?
  intro h
  split at h
  · rw [if_neg]; omega
  · cases h
theorem snap_may_eq (h : GHeap) (r : List Int) (hs : Slim h) : F_snap_may h r = some (mayP h r) := by
  unfold F_snap_may mayP
  rw [heap_May_eq h hs, ob_some, okHeapB_eq]
  by_cases h0 : OkHeap h
  case neg => rw [dec_false h0]; simp
  rw [dec_true h0, if_pos rfl]
  by_cases h1 : 64 < r.length
  · rw [if_pos (by omega)]
    simp [show ¬ r.length ≤ 64 by omega]
  rw [if_neg (by omega)]
  obtain ⟨x, e, hx⟩ := iter_all r (hasB h.Objs.length) (S := fun p => s0_snap_may r (r.length : Int) h.Objs h.Cap h.Last p) (fun _ => false) (fun k hk => by
    simp only [s0_snap_may, atI_nat _ k hk, value_At_eq, value_May_eq, ob_some]
    rw [if_pos (by omega), if_pos (by omega), w64_id (by omega) (by omega)]
    generalize r[k] = v
    unfold hasB atP
    cases hn : (n? v).isSome with
    | true =>
      rw [n_at v hn]; simp
    | false =>
      cases at? v with
      | none => simp
      | some i =>
        by_cases hi : i < h.Objs.length
        · simp [hi]
        · simp [hi]) (by simp [s0_snap_may])
  rw [e, ob_some]
  cases x with
  | inl b =>
    obtain ⟨h5, k, hk, rfl, _, _⟩ := hx
    simp [h5]
  | inr u =>
    have h5 : r.all (hasB h.Objs.length) = true := hx
    rw [h5]
    simp; omega
end Go.Pv.Bs

/- What a function of data answers, at any world. -/
namespace Go.Pv
open Go Go.RowKit
set_option linter.unusedSimpArgs false
set_option linter.unusedVariables false
/-- All is shared. -/
def gAll : Gh := ⟨fun _ => none, fun _ _ => .bool false, fun _ _ => 0, fun _ _ => False⟩
theorem frs_all (w : World) : FrS w.heap.size gAll [] w where
  len := rfl
  tms := fun t d h => by simp at h
  bxs := fun s c h => by simp at h
  bxn := ⟨fun _ _ h => h, fun _ _ _ _ _ h => h⟩
  frs := fun f b h => by simp at h
  frl := rfl
  alf := fun _ _ _ h => h
  alt := fun _ _ h => h.elim
  old := fun _ _ h => by cases h
  base := Nat.le_refl _
  dfs := rfl
theorem call_data {P : Program} {C : Callee} (hC : Good P C) {f : FuncId} {ds : List D} {r : D} (h : C f ds [] = some (.val r, [])) {w : World} {vs : Array Value} (hs : vs.size = ds.length)
    (ha : ∀ (i : Nat) u d, vs[i]? = some u → ds[i]? = some d → d.hasOwn = false ∧ VD w.heap.size 0 gAll vr0 w (.pn 0 i []) u d) :
    Calls P f vs w fun out w' => ∃ v G', out = .returned v ∧ Below w.heap.size w w' ∧ VD w.heap.size 0 G' vr0 w' (.pn 0 0 []) v r := by
  obtain ⟨d, e, ho, hc⟩ := hC f ds [] _ [] h w.heap.size gAll w vs (frs_all w) hs ha
  cases e
  refine hc.mono ?_
  rintro out w' ⟨v, G', e, _, _, hst, hv⟩
  exact ⟨v, G', e, ⟨hst.os, hst.tape, hst.output, hst.size, fun k hk => (hst.sh k hk rfl).2⟩, hv⟩
/-- Data, wherever it lies. -/
abbrev RA := RT fun _ => True
theorem RA.below {w w' : World} {v : Value} {x : T} (h : RA w v x) (hb : Below w.heap.size w w') : RA w' v x := h.mono fun b _ hl => ⟨trivial, hb.block b hl⟩
theorem VD.data {B fr : Nat} {G : Gh} {vr : Pl → Nat} {w : World} {p : Ap} {v : Value} {x : T} (h : VD B fr G vr w p v (.t x)) : RA w v x := by
  cases h with
  | t _ _ _ h => exact h.mono fun _ _ _ => ⟨trivial, rfl⟩
theorem RA.vd {B fr : Nat} {vr : Pl → Nat} {w : World} {p : Ap} {v : Value} {x : T} (h : RA w v x) : VD B fr gAll vr w p v (.t x) := .t _ _ _ (h.mono fun _ _ _ => ⟨rfl, rfl⟩)
/-- What lay stays: what was told of a caller's frames holds on. -/
theorem frs_below {B : Nat} {G : Gh} {frs : Frames} {w w' : World} (h : FrS B G frs w) (hb : Below w.heap.size w w') : FrS B G frs w' ∧ Step frs.length G w G w' := by
  have K : Keep frs.length G (St.verAt { tm := [], bx := [], fr := frs }) w G (St.verAt { tm := [], bx := [], fr := frs }) w' (fun _ => True) (fun _ _ => True) := ⟨hb.size, fun _ _ h => h, fun g _ hl => hb.block g hl, fun g p hg _ => ⟨hg, hb.block g (h.old g _ hg).1⟩, fun _ => Nat.le_refl _, fun _ _ => rfl, fun _ _ _ _ => rfl,
    fun f s ha => ⟨ha, rfl⟩, fun f s ha _ => ⟨rfl, hb.block _ (h.old _ _ (h.alt f s ha)).1⟩⟩
  refine ⟨h.upd K (fun _ _ _ => trivial) rfl (fun t d e => by simp at e) (fun s c e => by simp at e) h.bxn (fun f b e s c hc _ => .inl ⟨⟨b, e, hc⟩, trivial, fun _ _ _ _ => trivial⟩) h.frl h.alf h.alt (fun g τ e => ⟨Nat.lt_of_lt_of_le (h.old g τ e).1 hb.size, (h.old g τ e).2⟩) rfl, ?_⟩
  exact ⟨hb.os, hb.tape, hb.output, hb.size, fun g hl e => ⟨e, hb.block g hl⟩, fun g e => ⟨e, hb.block g (h.old g _ e).1⟩, fun g p f e _ _ => ⟨e, hb.block g (h.old g _ e).1⟩, fun f s _ e => ⟨e, rfl⟩⟩
end Go.Pv

/- Sums: the algebra of them. -/
namespace Go.Pv
open Go
theorem u8_wrap (n : Int) : IntKind.u8.wrap n = n % 256 := by simp [IntKind.wrap, IntKind.signed, IntKind.bits]
theorem u32_wrap (n : Int) : IntKind.u32.wrap n = n % 4294967296 := by simp [IntKind.wrap, IntKind.signed, IntKind.bits]
/-- One step of a sum, as the loop has it. -/
def stI (x : Int) : Int := if bAnd .u32 x 1 = 1 then bXor .u32 (iShr .u32 x 1) 3988292384 else iShr .u32 x 1
def itI : Nat → Int → Int
  | 0, x => x
  | k + 1, x => itI k (stI x)
/-- What a byte makes of a sum. -/
def stepB (x b : Int) : Int := bXor .u32 (iShr .u32 x 8) (itI 8 (IntKind.u32.wrap (bXor .u8 (IntKind.u8.wrap x) b).toNat))
def bitI (a b : Int) : Int := if a.tmod 2 = b then w64 (a.tdiv 2) else bXor .i64 (w64 (a.tdiv 2)) 3988292384
def itR : Nat → Int → Int → Int
  | 0, x, _ => x
  | k + 1, x, c => itR k (bitI x (c.tmod 2)) (w64 (c.tdiv 2))

theorem stepV_xor (a b : V) : stepV (a ^^^ b) = stepV a ^^^ stepV b := by
  unfold stepV
  simp only [BitVec.getLsbD_xor, BitVec.ushiftRight_xor_distrib]
  cases a.getLsbD 0 <;> cases b.getLsbD 0 <;> simp
  · rw [BitVec.xor_assoc]
  · rw [BitVec.xor_assoc, BitVec.xor_comm (b >>> 1), ← BitVec.xor_assoc]
  · rw [BitVec.xor_assoc (a >>> 1), BitVec.xor_comm (b >>> 1), ← BitVec.xor_assoc 3988292384#32, BitVec.xor_self, BitVec.zero_xor]
theorem stepN_xor (k : Nat) : ∀ a b : V, stepN k (a ^^^ b) = stepN k a ^^^ stepN k b := by
  induction k with
  | zero => intro a b; rfl
  | succ k ih => intro a b; simp only [stepN, stepV_xor, ih]
theorem stepN_succ (k : Nat) : ∀ a : V, stepN (k + 1) a = stepV (stepN k a) := by
  induction k with
  | zero => intro a; rfl
  | succ k ih => intro a; rw [stepN, ih]; rfl
theorem stepN_add (j k : Nat) : ∀ a : V, stepN (j + k) a = stepN k (stepN j a) := by
  induction j with
  | zero => intro a; rw [Nat.zero_add]; rfl
  | succ j ih => intro a; rw [show j + 1 + k = (j + k) + 1 by omega, stepN, ih]; rfl
/-- Where the lowest bits are not set they are shifted out. -/
theorem stepN_low (k : Nat) (a : V) (h : ∀ i, i < k → a.getLsbD i = false) : stepN k a = a >>> k := by
  induction k with
  | zero => simp [stepN]
  | succ k ih =>
    rw [stepN_succ, ih fun i hi => h i (by omega)]
    have : (a >>> k).getLsbD 0 = false := by simp [h k (by omega)]
    unfold stepV
    rw [this]
    simp only [Bool.false_eq_true, if_false, BitVec.shiftRight_add]

/-! ### numbers as they are kept -/
theorem toInt_ofInt (v : V) : BitVec.ofInt 32 (v.toNat : Int) = v := by simp
theorem bXor32 (a b : V) : bXor .u32 a.toNat b.toNat = (a ^^^ b).toNat := by
  show IntKind.u32.wrap ((BitVec.ofInt 32 (a.toNat : Int) ^^^ BitVec.ofInt 32 (b.toNat : Int) : V).toNat : Int) = _
  rw [toInt_ofInt, toInt_ofInt, u32_wrap]
  have := (a ^^^ b).isLt
  omega
theorem bAnd32 (a b : V) : bAnd .u32 a.toNat b.toNat = (a &&& b).toNat := by
  show IntKind.u32.wrap ((BitVec.ofInt 32 (a.toNat : Int) &&& BitVec.ofInt 32 (b.toNat : Int) : V).toNat : Int) = _
  rw [toInt_ofInt, toInt_ofInt, u32_wrap]
  have := (a &&& b).isLt
  omega
theorem iShr32 (a : V) (n : Nat) (h : n ≤ 32) : iShr .u32 a.toNat n = (a >>> n).toNat := by
  unfold iShr
  have : min ((n : Int)).toNat (IntKind.bits .u32) = n := by show min n 32 = n; omega
  rw [this, BitVec.toNat_ushiftRight, Nat.shiftRight_eq_div_pow]
  rw [Int.fdiv_eq_ediv_of_nonneg _ (by exact Int.le_of_lt (Int.pow_pos (by decide)))]
  norm_cast
theorem stI_V (a : V) : stI a.toNat = (stepV a).toNat := by
  have h1 : bAnd .u32 a.toNat 1 = (a &&& 1#32).toNat := bAnd32 a 1#32
  have h2 : iShr .u32 a.toNat 1 = (a >>> 1).toNat := iShr32 a 1 (by omega)
  have h3 : bXor .u32 ((a >>> 1).toNat : Int) 3988292384 = ((a >>> 1) ^^^ 3988292384#32).toNat := bXor32 (a >>> 1) 3988292384#32
  have h4 : a.getLsbD 0 = decide (a.toNat % 2 = 1) := by simp [BitVec.getLsbD, Nat.testBit_zero]
  have h5 : (a &&& 1#32).toNat = a.toNat % 2 := by rw [BitVec.toNat_and]; exact Nat.and_one_is_mod _
  unfold stI stepV
  rw [h1, h2, h3, h4, h5]
  by_cases h : a.toNat % 2 = 1
  · rw [if_pos (by omega), if_pos (by simpa using h)]
  · rw [if_neg (by omega), if_neg (by simpa using h)]
theorem itI_V (k : Nat) : ∀ a : V, itI k a.toNat = (stepN k a).toNat := by
  induction k with
  | zero => intro a; rfl
  | succ k ih => intro a; rw [itI, stI_V, ih]; rfl

/-! ### a byte -/
theorem split8 (y : V) : y = (y &&& 0xffffff00#32) ^^^ (y &&& 0xff#32) := by
  have h : ∀ i, i < 32 → (0xffffff00#32 : V).getLsbD i = !(0xff#32 : V).getLsbD i := by decide
  apply BitVec.eq_of_getLsbD_eq
  intro i hi
  rw [BitVec.getLsbD_xor, BitVec.getLsbD_and, BitVec.getLsbD_and, h i hi]
  cases y.getLsbD i <;> cases (0xff#32 : V).getLsbD i <;> rfl
theorem byteV_tab (x : V) (b : Nat) (hb : b < 256) : byteV x b = (x >>> 8) ^^^ stepN 8 ((x ^^^ BitVec.ofNat 32 b) &&& 0xff#32) := by
  unfold byteV
  generalize hy : x ^^^ BitVec.ofNat 32 b = y
  have h1 : (y &&& 0xffffff00#32) >>> 8 = x >>> 8 := by
    have hm : ∀ i, i < 24 → (0xffffff00#32 : V).getLsbD (8 + i) = true := by decide
    have hbz : (BitVec.ofNat 32 b) >>> 8 = 0#32 := by
      apply BitVec.eq_of_toNat_eq
      rw [BitVec.toNat_ushiftRight, Nat.shiftRight_eq_div_pow]
      simp
      omega
    have h2 : y >>> 8 = x >>> 8 := by rw [← hy, BitVec.ushiftRight_xor_distrib, hbz, BitVec.xor_zero]
    rw [← h2]
    apply BitVec.eq_of_getLsbD_eq
    intro i hi
    rw [BitVec.getLsbD_ushiftRight, BitVec.getLsbD_ushiftRight, BitVec.getLsbD_and]
    by_cases h : i < 24
    · rw [hm i h, Bool.and_true]
    · have : y.getLsbD (8 + i) = false := BitVec.getLsbD_of_ge _ _ (by omega)
      rw [this]; rfl
  conv => lhs; rw [split8 y]
  rw [stepN_xor, stepN_low 8 (y &&& 0xffffff00#32), h1]
  intro i hi
  have hm : ∀ i, i < 8 → (0xffffff00#32 : V).getLsbD i = false := by decide
  rw [BitVec.getLsbD_and, hm i hi, Bool.and_false]
theorem stepB_V (x : V) (b : Nat) (hb : b < 256) : stepB x.toNat b = (byteV x b).toNat := by
  have h1 : iShr .u32 x.toNat 8 = (x >>> 8).toNat := iShr32 x 8 (by omega)
  have h2 : bXor .u8 (IntKind.u8.wrap x.toNat) b = (((x ^^^ BitVec.ofNat 32 b) &&& 0xff#32).toNat : Int) := by
    show IntKind.u8.wrap ((BitVec.ofInt 8 (IntKind.u8.wrap x.toNat) ^^^ BitVec.ofInt 8 (b : Int) : BitVec 8).toNat : Int) = _
    rw [u8_wrap, u8_wrap]
    have e1 : BitVec.ofInt 8 ((x.toNat : Int) % 256) = BitVec.ofNat 8 x.toNat := by
      apply BitVec.eq_of_toNat_eq
      rw [BitVec.toNat_ofInt, BitVec.toNat_ofNat]
      omega
    have e2 : BitVec.ofInt 8 (b : Int) = BitVec.ofNat 8 b := by simp
    rw [e1, e2]
    have e3 : (BitVec.ofNat 8 x.toNat ^^^ BitVec.ofNat 8 b).toNat = ((x ^^^ BitVec.ofNat 32 b) &&& 0xff#32).toNat := by
      rw [BitVec.toNat_xor, BitVec.toNat_and, BitVec.toNat_xor, BitVec.toNat_ofNat, BitVec.toNat_ofNat, BitVec.toNat_ofNat, Nat.mod_eq_of_lt hb, Nat.mod_eq_of_lt (a := b) (b := 2 ^ 32) (by omega)]
      show _ = (x.toNat ^^^ b) &&& 255
      rw [show (255 : Nat) = 2 ^ 8 - 1 from rfl, Nat.and_two_pow_sub_one_eq_mod, Nat.xor_mod_two_pow, Nat.mod_eq_of_lt (a := b) (b := 2 ^ 8) hb]
    rw [e3]
    have : ((x ^^^ BitVec.ofNat 32 b) &&& 0xff#32).toNat ≤ 255 := by
      rw [BitVec.toNat_and]; exact Nat.and_le_right
    omega
  have h3 : ∀ z : V, IntKind.u32.wrap ((z.toNat : Int).toNat : Int) = z.toNat := by
    intro z
    rw [u32_wrap]
    have := z.isLt
    omega
  unfold stepB
  rw [h1, h2, h3, itI_V, bXor32, byteV_tab x b hb]
/-! ### bit by bit -/
theorem bitI_V (x : V) (b : Nat) (hb : b < 2) : bitI x.toNat b = (stepV (x ^^^ BitVec.ofNat 32 b)).toNat := by
  have hx := x.isLt
  have h1 : ((x.toNat : Int).tmod 2) = ((x.toNat % 2 : Nat) : Int) := by rw [Int.tmod_eq_emod_of_nonneg (by omega)]; norm_cast
  have h2 : w64 ((x.toNat : Int).tdiv 2) = ((x >>> 1).toNat : Int) := by
    rw [Int.tdiv_eq_ediv_of_nonneg (by omega), BitVec.toNat_ushiftRight, Nat.shiftRight_eq_div_pow]
    rw [w64_id] <;> omega
  have h3 : bXor .i64 ((x >>> 1).toNat : Int) 3988292384 = (((x >>> 1) ^^^ 3988292384#32).toNat : Int) := by
    show IntKind.i64.wrap ((BitVec.ofInt 64 ((x >>> 1).toNat : Int) ^^^ BitVec.ofInt 64 3988292384 : BitVec 64).toNat : Int) = _
    have e1 : BitVec.ofInt 64 ((x >>> 1).toNat : Int) = BitVec.ofNat 64 (x >>> 1).toNat := BitVec.ofInt_natCast 64 _
    rw [e1, BitVec.toNat_xor, BitVec.toNat_xor, BitVec.toNat_ofNat, Nat.mod_eq_of_lt (by have := (x >>> 1).isLt; omega)]
    have hlt : ((x >>> 1) ^^^ 3988292384#32).toNat < 4294967296 := ((x >>> 1) ^^^ 3988292384#32).isLt
    rw [BitVec.toNat_xor] at hlt
    have e2 : (BitVec.ofInt 64 3988292384).toNat = (3988292384#32 : V).toNat := by decide
    rw [e2]
    exact w64_id (by omega) (by omega)
  have h4 : (x ^^^ BitVec.ofNat 32 b).getLsbD 0 = decide (x.toNat % 2 ≠ b) := by
    rw [BitVec.getLsbD_xor]
    simp only [BitVec.getLsbD, Nat.testBit_zero, BitVec.toNat_ofNat]
    rcases (show b = 0 ∨ b = 1 by omega) with rfl | rfl <;> rcases Nat.mod_two_eq_zero_or_one x.toNat with h | h <;> simp [h]
  have h5 : (x ^^^ BitVec.ofNat 32 b) >>> 1 = x >>> 1 := by
    have : (BitVec.ofNat 32 b) >>> 1 = 0#32 := by
      rcases (show b = 0 ∨ b = 1 by omega) with rfl | rfl <;> decide
    rw [BitVec.ushiftRight_xor_distrib, this, BitVec.xor_zero]
  unfold bitI stepV
  rw [h1, h2, h3, h4, h5]
  by_cases h : x.toNat % 2 = b
  · rw [if_pos (by omega), if_neg (by simpa using h)]
  · rw [if_neg (by omega), if_pos (by simpa using h)]
theorem itR_V (k : Nat) : ∀ (x : V) (b : Nat), b < 2 ^ k → k ≤ 31 → itR k x.toNat b = (stepN k (x ^^^ BitVec.ofNat 32 b)).toNat := by
  induction k with
  | zero =>
    intro x b hb _
    have : b = 0 := by omega
    subst this
    simp [itR, stepN]
  | succ k ih =>
    intro x b hb hk
    have hp : 2 ^ (k + 1) ≤ 2 ^ 31 := Nat.pow_le_pow_right (by omega) hk
    rw [itR]
    have h1 : ((b : Int).tmod 2) = ((b % 2 : Nat) : Int) := by rw [Int.tmod_eq_emod_of_nonneg (by omega)]; norm_cast
    have h2 : w64 ((b : Int).tdiv 2) = ((b / 2 : Nat) : Int) := by
      rw [Int.tdiv_eq_ediv_of_nonneg (by omega)]
      rw [w64_id] <;> omega
    rw [h1, h2, bitI_V x (b % 2) (by omega), ih _ (b / 2) (by rw [Nat.pow_succ] at hb; omega) (by omega)]
    have h3 : BitVec.ofNat 32 b = BitVec.ofNat 32 (b % 2) ^^^ BitVec.ofNat 32 (2 * (b / 2)) := by
      apply BitVec.eq_of_toNat_eq
      have a1 : b % 2 ^ 32 = b := Nat.mod_eq_of_lt (by omega)
      have a2 : b % 2 % 2 ^ 32 = b % 2 := Nat.mod_eq_of_lt (by omega)
      have a3 : 2 * (b / 2) % 2 ^ 32 = 2 * (b / 2) := Nat.mod_eq_of_lt (by omega)
      rw [BitVec.toNat_xor, BitVec.toNat_ofNat, BitVec.toNat_ofNat, BitVec.toNat_ofNat, a1, a2, a3]
      apply Nat.eq_of_testBit_eq
      intro i
      rw [Nat.testBit_xor]
      cases i with
      | zero => simp [Nat.testBit_zero]
      | succ i =>
        have e : (b % 2) / 2 = 0 := by omega
        simp [Nat.testBit_succ, e]
    have h4 : stepV (BitVec.ofNat 32 (2 * (b / 2))) = BitVec.ofNat 32 (b / 2) := by
      unfold stepV
      have e : (BitVec.ofNat 32 (2 * (b / 2))).getLsbD 0 = false := by
        simp only [BitVec.getLsbD, Nat.testBit_zero, BitVec.toNat_ofNat]
        simp
      rw [e]
      apply BitVec.eq_of_toNat_eq
      simp only [Bool.false_eq_true, if_false]
      rw [BitVec.toNat_ushiftRight, Nat.shiftRight_eq_div_pow, BitVec.toNat_ofNat, BitVec.toNat_ofNat]
      omega
    rw [stepN, h3, ← BitVec.xor_assoc, stepV_xor (x ^^^ BitVec.ofNat 32 (b % 2)), h4]
theorem itR8_V (x : V) (b : Nat) (hb : b < 256) : itR 8 x.toNat b = (byteV x b).toNat := itR_V 8 x b hb (by omega)
theorem fold_V {f : Int → Int → Int} (hf : ∀ (x : V) (b : Nat), b < 256 → f x.toNat b = (byteV x b).toNat) : ∀ (l : List Nat) (x : V), (∀ b ∈ l, b < 256) → (l.map fun b : Nat => (b : Int)).foldl f x.toNat = ((l.foldl byteV x).toNat : Int) := by
  intro l
  induction l with
  | nil => intro x _; rfl
  | cons b l ih =>
    intro x h
    rw [List.map_cons, List.foldl_cons, hf x b (h b List.mem_cons_self), ih _ fun b' hb' => h b' (List.mem_cons_of_mem _ hb')]
    rfl
def okSum (n : Int) : Bool := decide (0 ≤ n) && decide (n ≤ 4294967295)
def bytesI (a : Int) : ByteArray := ⟨#[UInt8.ofNat (IntKind.u8.wrap a).toNat, UInt8.ofNat (IntKind.u8.wrap (iShr IntKind.i64 a 8)).toNat, UInt8.ofNat (IntKind.u8.wrap (iShr IntKind.i64 a 16)).toNat, UInt8.ofNat (IntKind.u8.wrap (iShr IntKind.i64 a 24)).toNat]⟩
def bytesR (a : Int) : ByteArray := ⟨#[UInt8.ofNat (IntKind.u8.wrap (a.tmod 256)).toNat, UInt8.ofNat (IntKind.u8.wrap ((w64 (a.tdiv 256)).tmod 256)).toNat, UInt8.ofNat (IntKind.u8.wrap ((w64 (a.tdiv 65536)).tmod 256)).toNat, UInt8.ofNat (IntKind.u8.wrap (w64 (a.tdiv 16777216))).toNat]⟩
def bts (s : ByteArray) : List Int := (nbs s).map fun b : Nat => (b : Int)
theorem bXor8_ge (a b : Int) : (0 ≤ bXor .u8 a b) = True := by simp only [bXor, u8_wrap, eq_iff_iff, iff_true]; omega
theorem bXor8_lt (a b : Int) : (bXor .u8 a b < 256) = True := by simp only [bXor, u8_wrap, eq_iff_iff, iff_true]; omega
theorem bXor8_nat (a b : Int) : ((bXor .u8 a b).toNat + 1 ≤ 256) = True := by simp only [bXor, u8_wrap, eq_iff_iff, iff_true]; omega
theorem bts_at (s : ByteArray) (i : Nat) (h : i < s.size) : (bts s).drop i = ((s.data[i]?.getD 0).toNat : Int) :: (bts s).drop (i + 1) := by
  have hl : i < (bts s).length := by simpa [bts, nbs] using h
  rw [List.drop_eq_getElem_cons hl]
  have : s.data[i]? = some (s.data[i]'h) := Array.getElem?_eq_getElem h
  simp [bts, nbs, this]
theorem bts_len (s : ByteArray) : (bts s).length = s.size := by simp [bts, nbs]
theorem u32_max : (if IntKind.u32.signed = true then -1 else IntKind.u32.max) = 4294967295 := by rfl
def moreI (a : Int) (s : ByteArray) : Int := if okSum a then w64 (bXor .u32 4294967295 ((bts s).foldl stepB (bXor .u32 4294967295 (IntKind.u32.wrap a)))) else 0
def moreR (a : Int) (s : ByteArray) : Int := if okSum a then w64 (4294967295 - (bts s).foldl (itR 8) (w64 (4294967295 - a))) else 0
theorem okSum_V {a : Int} (h : okSum a = true) : ∃ v : V, a = v.toNat := by
  simp [okSum] at h
  refine ⟨BitVec.ofInt 32 a, ?_⟩
  rw [BitVec.toNat_ofInt]
  omega
theorem not_V (v : V) : bXor .u32 4294967295 v.toNat = ((~~~ v).toNat : Int) := by
  have := bXor32 4294967295#32 v
  rw [show ((4294967295#32 : V).toNat : Int) = 4294967295 by decide] at this
  rw [this]
  congr 2
theorem sub_V (v : V) : (4294967295 : Int) - v.toNat = ((~~~ v).toNat : Int) := by
  rw [BitVec.toNat_not]
  have := v.isLt
  omega
theorem moreI_V (v : V) (s : ByteArray) : moreI v.toNat s = ((sumV v s).toNat : Int) := by
  have hok : okSum (v.toNat : Int) = true := by have := v.isLt; simp [okSum]; omega
  have hw : IntKind.u32.wrap (v.toNat : Int) = v.toNat := by rw [u32_wrap]; have := v.isLt; omega
  unfold moreI sumV
  rw [if_pos hok, hw, not_V, bts, fold_V stepB_V _ _ (nbs_lt s), not_V]
  have := (~~~ ((nbs s).foldl byteV (~~~ v))).isLt
  rw [w64_id] <;> omega
theorem moreR_V (v : V) (s : ByteArray) : moreR v.toNat s = ((sumV v s).toNat : Int) := by
  have hok : okSum (v.toNat : Int) = true := by have := v.isLt; simp [okSum]; omega
  have hw : ∀ z : V, w64 (z.toNat : Int) = z.toNat := by intro z; have := z.isLt; rw [w64_id] <;> omega
  unfold moreR sumV
  rw [if_pos hok, sub_V, hw, bts, fold_V itR8_V _ _ (nbs_lt s), sub_V, hw]
theorem bytes_eq (a : Int) (h : okSum a = true) : bytesI a = bytesR a := by
  obtain ⟨v, rfl⟩ := okSum_V h
  have hv := v.isLt
  have h1 : ∀ n : Nat, n ≤ 24 → iShr .i64 (v.toNat : Int) n = (v.toNat : Int) / 2 ^ n := by
    intro n hn
    unfold iShr
    have : min ((n : Int)).toNat (IntKind.bits .i64) = n := by show min n 64 = n; omega
    rw [this, Int.fdiv_eq_ediv_of_nonneg _ (by exact Int.le_of_lt (Int.pow_pos (by decide)))]
  have e8 := h1 8 (by omega)
  have e16 := h1 16 (by omega)
  have e24 := h1 24 (by omega)
  have t : ∀ d : Int, 0 < d → (v.toNat : Int).tdiv d = (v.toNat : Int) / d := fun d _ => Int.tdiv_eq_ediv_of_nonneg (by omega)
  have m : ∀ z : Int, 0 ≤ z → z.tmod 256 = z % 256 := fun z hz => Int.tmod_eq_emod_of_nonneg hz
  unfold bytesI bytesR
  rw [show (8 : Int) = ((8 : Nat) : Int) from rfl, show (16 : Int) = ((16 : Nat) : Int) from rfl, show (24 : Int) = ((24 : Nat) : Int) from rfl, e8, e16, e24,
    t 256 (by omega), t 65536 (by omega), t 16777216 (by omega), w64_id (by omega) (by omega), w64_id (by omega) (by omega), w64_id (by omega) (by omega), m _ (by omega), m _ (by omega), m _ (by omega)]
  simp only [u8_wrap, Int.emod_emod]
  rfl
theorem bytesI_V (v : V) : (bytesI v.toNat).data.toList = [UInt8.ofNat (v.toNat % 256), UInt8.ofNat (v.toNat / 256 % 256), UInt8.ofNat (v.toNat / 65536 % 256), UInt8.ofNat (v.toNat / 16777216 % 256)] := by
  have h1 : ∀ n : Nat, n ≤ 24 → iShr .i64 (v.toNat : Int) n = (v.toNat : Int) / 2 ^ n := by
    intro n hn
    unfold iShr
    have : min ((n : Int)).toNat (IntKind.bits .i64) = n := by show min n 64 = n; omega
    rw [this, Int.fdiv_eq_ediv_of_nonneg _ (by exact Int.le_of_lt (Int.pow_pos (by decide)))]
  have e8 : iShr .i64 (v.toNat : Int) 8 = (v.toNat : Int) / 256 := h1 8 (by omega)
  have e16 : iShr .i64 (v.toNat : Int) 16 = (v.toNat : Int) / 65536 := h1 16 (by omega)
  have e24 : iShr .i64 (v.toNat : Int) 24 = (v.toNat : Int) / 16777216 := h1 24 (by omega)
  unfold bytesI
  rw [e8, e16, e24, u8_wrap, u8_wrap, u8_wrap, u8_wrap]
  have a1 : ((v.toNat : Int) % 256).toNat = v.toNat % 256 := by omega
  have a2 : ((v.toNat : Int) / 256 % 256).toNat = v.toNat / 256 % 256 := by omega
  have a3 : ((v.toNat : Int) / 65536 % 256).toNat = v.toNat / 65536 % 256 := by omega
  have a4 : ((v.toNat : Int) / 16777216 % 256).toNat = v.toNat / 16777216 % 256 := by omega
  rw [a1, a2, a3, a4]
theorem okSum_toNat (v : V) : okSum (v.toNat : Int) = true := by have := v.isLt; simp [okSum]; omega
theorem stepV_zero {x : V} (h : stepV x = 0#32) : x = 0#32 := by
  unfold stepV at h
  cases hb : x.getLsbD 0 with
  | true =>
    rw [hb, if_pos rfl] at h
    have := congrArg (fun z : V => z.getLsbD 31) h
    simp only [BitVec.getLsbD_xor, BitVec.getLsbD_ushiftRight] at this
    have h1 : x.getLsbD (1 + 31) = false := BitVec.getLsbD_of_ge _ _ (by omega)
    rw [h1] at this
    exact absurd this (by decide)
  | false =>
    rw [hb] at h
    simp only [Bool.false_eq_true, if_false] at h
    apply BitVec.eq_of_getLsbD_eq
    intro i hi
    cases i with
    | zero => rw [hb]; simp
    | succ i =>
      have := congrArg (fun z : V => z.getLsbD i) h
      simp only [BitVec.getLsbD_ushiftRight] at this
      rw [show i + 1 = 1 + i by omega, this]
      simp
theorem stepN_zero (k : Nat) : ∀ x : V, stepN k x = 0#32 → x = 0#32 := by
  induction k with
  | zero => exact fun _ h => h
  | succ k ih => exact fun x h => stepV_zero (ih _ h)
theorem xor_zero_iff {a b : V} (h : a ^^^ b = 0#32) : a = b := by
  have : (a ^^^ b) ^^^ b = 0#32 ^^^ b := by rw [h]
  rwa [BitVec.xor_assoc, BitVec.xor_self, BitVec.xor_zero, BitVec.zero_xor] at this
theorem byteV_inj {x y : V} {b : Nat} (h : byteV x b = byteV y b) : x = y := by
  unfold byteV at h
  have : stepN 8 ((x ^^^ BitVec.ofNat 32 b) ^^^ (y ^^^ BitVec.ofNat 32 b)) = 0#32 := by rw [stepN_xor, h, BitVec.xor_self]
  have := xor_zero_iff (stepN_zero 8 _ this)
  have h2 : (x ^^^ BitVec.ofNat 32 b) ^^^ BitVec.ofNat 32 b = (y ^^^ BitVec.ofNat 32 b) ^^^ BitVec.ofNat 32 b := by rw [this]
  rwa [BitVec.xor_assoc, BitVec.xor_self, BitVec.xor_zero, BitVec.xor_assoc, BitVec.xor_self, BitVec.xor_zero] at h2
theorem not_inj {x y : V} (h : ~~~ x = ~~~ y) : x = y := by
  have := congrArg (fun z : V => ~~~ z) h
  simpa using this
theorem fold_inj (l : List Nat) : ∀ {x y : V}, l.foldl byteV x = l.foldl byteV y → x = y := by
  induction l with
  | nil => exact fun h => h
  | cons b l ih => exact fun h => byteV_inj (ih h)
theorem sumV_inj {x y : V} {s : ByteArray} (h : sumV x s = sumV y s) : x = y := by
  unfold sumV at h
  exact not_inj (fold_inj _ (not_inj h))
theorem toNat_iff {x y : V} : ((x.toNat : Int) = (y.toNat : Int)) ↔ x = y := by
  constructor
  · intro h; exact BitVec.eq_of_toNat_eq (by omega)
  · intro h; rw [h]
theorem bytesI_inj {x y : V} (h : (bytesI x.toNat).data.toList = (bytesI y.toNat).data.toList) : x = y := by
  rw [bytesI_V, bytesI_V] at h
  simp only [List.cons.injEq, and_true] at h
  obtain ⟨h1, h2, h3, h4⟩ := h
  have e : ∀ a b : Nat, a < 256 → b < 256 → UInt8.ofNat a = UInt8.ofNat b → a = b := by
    intro a b ha hb h
    have := congrArg UInt8.toNat h
    simpa [Nat.mod_eq_of_lt ha, Nat.mod_eq_of_lt hb] using this
  have k1 := e _ _ (by omega) (by omega) h1
  have k2 := e _ _ (by omega) (by omega) h2
  have k3 := e _ _ (by omega) (by omega) h3
  have k4 := e _ _ (by omega) (by omega) h4
  have hx := x.isLt
  have hy := y.isLt
  apply BitVec.eq_of_toNat_eq
  omega
theorem ba_size (a : Array UInt8) : (⟨a⟩ : ByteArray).size = a.size := rfl
end Go.Pv

/- crc's functions, by the base lore. -/
namespace Go.Pv.Bs
open Go Go.Proofs Go.Pv
set_option maxRecDepth 100000
set_option maxHeartbeats 4000000
set_option linter.unusedSimpArgs false
set_option linter.unusedVariables false
noncomputable abbrev cB : Callee := cO Try.prog loreB
theorem f_crc_may (n : Int) : cO Try.prog loreB 42 [I n] [] = some (.val (Bo (okSum n)), []) := by
  rw [cO_eq (R := loreB) rfl Try.func42 rfl]
  show wrapThen h42.res (endThen Try.prog h42.shr _ (eO Try.prog h42 (cO Try.prog loreB) _ _)) = _
  simp [Try.f42, okSum]
  split <;> simp_all <;> omega
theorem f_crc_Bytes (a : Int) : cO Try.prog loreB 20 [I a] [] = some (.val (.t (.sc (.string (if okSum a then bytesI a else ⟨#[]⟩)))), []) := by
  rw [cO_eq (R := loreB) rfl Try.func20 rfl]
  show wrapThen h20.res (endThen Try.prog h20.shr _ (eO Try.prog h20 (cO Try.prog loreB) _ _)) = _
  simp [Try.f20, f_crc_may, bytesI]
  cases okSum a <;> rfl
def zb : List T := List.replicate 256 (.sc (.int .u32 0))
abbrev tU (n : Int) : T := .sc (.int .u32 n)
abbrev S60i (l : List T) (i : Nat) (a : Nat × Int) : St := mkS 25 [(0, .lp 0 0), (1, .lp 1 0), (2, I i), (3, .t (tU a.2)), (4, I i), (9, I a.1)] [(0, dts zb), (1, dts l)]
abbrev E60i (l : List T) (i : Nat) (a : Nat × Int) : Out × St := (.exit 2, mkS 25 [(0, .lp 0 0), (1, .lp 1 0), (2, I i), (3, .t (tU (itI (8 - a.1) a.2))), (4, I i)] [(0, dts zb), (1, dts l)])
theorem l60i (C : Callee) (i : Nat) (l : List T) (k : Nat) (x : Int) (hk : k ≤ 8) (c : Code) (hc : c = loopN Try.f60 1) (σ : St) (hσ : norm (h60.at c) σ = S60i l i (k, x)) :
    eO Try.prog h60 C (.loop c) σ = some (E60i l i (k, x)) := by
  subst hc
  refine loop_stepB (A := Nat × Int) (S60i l i) (E60i l i) (fun a => 8 - a.1) (fun a => a.1 ≤ 8) ?_ (fun _ => by simp) (k, x) hk σ hσ
  rintro ⟨k, x⟩ hk
  by_cases h : k < 8
  · have h1 : ((k : Int) < 8) = True := by simp; omega
    have h2 : w64 ((k : Int) + 1) = ((k + 1 : Nat) : Int) := by rw [w64_id] <;> omega
    have h3 : itI (7 - k) (stI x) = itI (8 - k) x := by
      rw [show 8 - k = 7 - k + 1 by omega]; rfl
    simp only at hk
    refine .inl ⟨(k + 1, stI x), ?_, by show k + 1 ≤ 8; omega, by show 8 - (k + 1) < 8 - k; omega, ?_⟩
    · by_cases hb : bAnd .u32 x 1 = 1
      · simp [Try.f60, h1, h2, hb, stI]
      · simp [Try.f60, h1, h2, hb, stI]
    · show (Out.exit 2, _) = _
      simp only [show 8 - (k + 1) = 7 - k by omega, h3]
  · have : k = 8 := by simp only at hk; omega
    subst this
    right
    simp [Try.f60, itI]
def tE (i : Nat) : T := tU (itI 8 (IntKind.u32.wrap i))
def tbl (i : Nat) : List T := (List.range i).map tE ++ List.replicate (256 - i) (tU 0)
theorem tbl_len (i : Nat) (h : i ≤ 256) : (tbl i).length = 256 := by simp [tbl]; omega
theorem tbl_set (i : Nat) (h : i < 256) : (tbl i).take i ++ tE i :: (tbl i).drop (i + 1) = tbl (i + 1) := by
  unfold tbl
  rw [List.take_append_of_le_length (by simp), List.take_of_length_le (by simp), List.drop_append]
  rw [List.drop_eq_nil_of_le (by simp)]
  simp [List.range_succ]
  rw [show 256 - i - 1 = 255 - i by omega]
abbrev S60o (i : Nat) : St := mkS 25 [(0, .lp 0 0), (1, .lp 1 0), (4, I i)] [(0, dts zb), (1, dts (tbl i))]
abbrev E60o (_ : Nat) : Out × St := (.exit 0, mkS 25 [(0, .lp 0 0), (1, .lp 1 0)] [(0, dts zb), (1, dts (tbl 256))])
theorem l60o (C : Callee) (c : Code) (hc : c = loopN Try.f60 0) (σ : St) (hσ : norm (h60.at c) σ = S60o 0) :
    eO Try.prog h60 C (.loop c) σ = some (E60o 0) := by
  subst hc
  refine loop_stepB (A := Nat) S60o E60o (fun a => 256 - a) (fun a => a ≤ 256) ?_ (fun _ => by simp) 0 (by omega) σ hσ
  intro i hi
  by_cases h : i < 256
  · have h1 : ((i : Int) < 256) = True := by simp; omega
    have h2 : w64 ((i : Int) + 1) = ((i + 1 : Nat) : Int) := by rw [w64_id] <;> omega
    refine .inl ⟨i + 1, ?_, by omega, by omega, rfl⟩
    simp [Try.f60, h1]
    rw [l60i C i (tbl i) 0 (IntKind.u32.wrap i) (by omega) _ (by simp [Try.f60]) _ (by simp)]
    simp [h1, h2, tbl_len i hi]
    exact ⟨by omega, by rw [← tbl_set i h]; rfl⟩
  · have : i = 256 := by omega
    subst this
    right
    simp [Try.f60]
theorem zb_len : zb.length = 256 := by simp only [zb, List.length_replicate]
theorem zeroOf88 : Go.Pv.zeroOf Try.prog 88 = List.replicate 256 (.int .u32 0) := by kernel_rfl
theorem zero88 : (Go.Pv.zeroOf Try.prog 88).map (fun v => D.t (T.sc v)) = dts zb := by rw [zeroOf88, List.map_replicate]; exact dts_rep _ _
theorem f_crc_table : cO Try.prog loreB 60 [] [] = some (.val (.agg (dts (tbl 256))), []) := by
  rw [cO_eq (R := loreB) rfl Try.func60 rfl]
  show wrapThen h60.res (endThen Try.prog h60.shr _ (eO Try.prog h60 (cO Try.prog loreB) _ _)) = _
  simp [Try.f60, zero88]
  rw [l60o _ _ (by simp [Try.f60]) _ (by simp; rfl)]
  have e : List.take 256 (tbl 256) = tbl 256 := List.take_of_length_le (by rw [tbl_len 256 (Nat.le_refl _)]; exact Nat.le_refl _)
  have e2 : List.drop 256 zb = [] := List.drop_eq_nil_of_le (by rw [zb_len]; exact Nat.le_refl _)
  simp [tbl_len, zb_len, e, e2]
theorem tb1 (o : Nat) (h : o + 1 ≤ 256) : (List.drop o (tbl 256)).take 1 = [tE o] := by
  have hl : o < (tbl 256).length := by rw [tbl_len 256 (Nat.le_refl _)]; omega
  rw [List.drop_eq_getElem_cons hl, List.take_succ_cons, List.take_zero]
  simp [tbl]
abbrev S43 (s : ByteArray) (a : Nat × Int) : St := mkS 35 [(1, .t (.sc (.string s))), (5, .lp 5 0), (6, .t (tU a.2)), (16, I s.size), (17, I a.1)] [(5, dts (tbl 256))]
abbrev E43 (s : ByteArray) (a : Nat × Int) : Out × St := (.exit 0, mkS 35 [(6, .t (tU (((bts s).drop a.1).foldl stepB a.2)))] [])
theorem l43 (C : Callee) (s : ByteArray) (hs : (s.size : Int) ≤ 9223372036854775807) (x : Int) (c : Code) (hc : c = loopN Try.f43 0) (σ : St) (hσ : norm (h43.at c) σ = S43 s (0, x)) :
    eO Try.prog h43 C (.loop c) σ = some (E43 s (0, x)) := by
  subst hc
  refine loop_stepB (A := Nat × Int) (S43 s) (E43 s) (fun a => s.size - a.1) (fun a => a.1 ≤ s.size) ?_ (fun _ => by simp) (0, x) (by simp) σ hσ
  rintro ⟨i, x⟩ hi
  simp only at hi
  by_cases h : i < s.size
  · have h1 : ((i : Int) < s.size) = True := by simp; omega
    have h2 : w64 ((i : Int) + 1) = ((i + 1 : Nat) : Int) := by rw [w64_id] <;> omega
    refine .inl ⟨(i + 1, stepB x (s.data[i]?.getD 0).toNat), ?_, by show i + 1 ≤ s.size; omega, by show s.size - (i + 1) < s.size - i; omega, ?_⟩
    · simp [Try.f43, h1, h2, bXor8_ge, bXor8_lt, bXor8_nat, tbl_len, tb1, h, tE]
      simp [stepB]
    · show (Out.exit 0, _) = _
      dsimp only [E43]
      rw [bts_at s i h, List.foldl_cons]
  · have : i = s.size := by omega
    subst this
    have e : (bts s).drop s.size = [] := List.drop_eq_nil_of_le (by rw [bts_len]; exact Nat.le_refl _)
    right
    simp [Try.f43, e]
theorem f_crc_More (a : Int) (s : ByteArray) (hs : (s.size : Int) ≤ 9223372036854775807) : cO Try.prog loreB 43 [I a, .t (.sc (.string s))] [] = some (.val (I (moreI a s)), []) := by
  rw [cO_eq (R := loreB) rfl Try.func43 rfl]
  show wrapThen h43.res (endThen Try.prog h43.shr _ (eO Try.prog h43 (cO Try.prog loreB) _ _)) = _
  simp [Try.f43, f_crc_may, f_crc_table, zero88, tbl_len, zb_len, u32_max]
  cases ho : okSum a with
  | false => simp [moreI, ho]
  | true =>
    have e : List.drop 256 zb = [] := List.drop_eq_nil_of_le (by rw [zb_len]; exact Nat.le_refl _)
    rw [if_neg (by simp), l43 _ s hs _ _ (by simp [Try.f43]) _ (by simp [e]; rfl)]
    simp [moreI, ho, u32_max]
theorem f_crc_Of (s : ByteArray) (hs : (s.size : Int) ≤ 9223372036854775807) : cO Try.prog loreB 21 [.t (.sc (.string s))] [] = some (.val (I ((sumV 0#32 s).toNat : Int)), []) := by
  rw [← moreI_V 0#32 s]
  rw [cO_eq (R := loreB) rfl Try.func21 rfl]
  show wrapThen h21.res (endThen Try.prog h21.shr _ (eO Try.prog h21 (cO Try.prog loreB) _ _)) = _
  simp [Try.f21, f_crc_More, hs]
end Go.Pv.Bs
