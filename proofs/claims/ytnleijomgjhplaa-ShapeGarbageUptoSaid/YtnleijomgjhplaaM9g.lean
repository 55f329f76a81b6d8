/- A part of the road: the interpreter of plain data and the proof that it is right. -/
import Derived.Test.YtnleijomgjhplaaN9g
import Derived.Test.YtnleijomgjhplaaR9g
import Derived.Test.YtnleijomgjhplaaB9g
set_option linter.unusedVariables false
set_option linter.unusedSimpArgs false
/- Values, heaps and what is reached: the program's functions in plain words. -/
namespace Go.Pv
theorem iter_all {α β : Type} [Enc α] (l : List α) (p : α → Bool) {S : Int → Option (Int ⊕ β ⊕ Unit)} (R : Nat → β)
    (hS : ∀ (k : Nat) (h : k < l.length), S (k : Int) = if p l[k] = true then some (.inl ((k + 1 : Nat) : Int)) else some (.inr (.inl (R k)))) (he : S (l.length : Int) = some (.inr (.inr ()))) :
    ∃ r, iterO S 0 = some r ∧ sm r (fun b => l.all p = false ∧ ∃ k, ∃ h : k < l.length, b = R k ∧ p l[k] = false ∧ ∀ j (hj : j < k), p (l[j]'(by omega)) = true) fun _ => l.all p = true := by
  refine iter_post (S := S) (fun i => l.length - i.toNat) (fun i => ∃ k : Nat, i = k ∧ k ≤ l.length ∧ ∀ j (hj : j < k) (h : j < l.length), p l[j] = true) _ (fun i hi => ?_) 0 ⟨0, rfl, Nat.zero_le _, fun j hj => by omega⟩
  obtain ⟨k, rfl, hk, ht⟩ := hi
  rcases Nat.lt_or_ge k l.length with h | h
  · rw [hS k h]
    by_cases e : p l[k] = true
    · refine .inl ⟨_, if_pos e, ⟨k + 1, rfl, h, fun j hj hjl => ?_⟩, by simp; omega⟩
      by_cases ej : j = k
      · subst ej; exact e
      · exact ht j (by omega) hjl
    · refine .inr ⟨_, if_neg e, ?_, k, h, rfl, by simpa using e, fun j hj => ht j hj (by omega)⟩
      rw [List.all_eq_false]
      exact ⟨_, List.getElem_mem h, by simpa using e⟩
  · have : k = l.length := by omega
    subst this
    refine .inr ⟨_, he, ?_⟩
    show l.all p = true
    rw [List.all_eq_true]
    intro x hx
    obtain ⟨j, hj, rfl⟩ := List.getElem_of_mem hx
    exact ht j hj hj
def big : Nat := 1099511627776
theorem value_At_eq (v : Int) : F_value_At v = some (atP v) := by
  unfold F_value_At F_value_object atP at?
  rw [bAnd_one, iShr_one]
  by_cases h : v % 2 = 0
  · rw [if_pos h]
    by_cases h1 : 0 ≤ v / 2
    · rw [if_pos h1, ob_some]
      by_cases h2 : v / 2 < 1048576
      · rw [if_pos (by simpa using h2), if_pos (by omega)]
        simp only [Option.some.injEq, Prod.mk.injEq, and_true]; omega
      · rw [if_neg (by simpa using h2), if_neg (by omega)]
    · rw [if_neg h1, ob_some, if_neg (by simp), if_neg (by omega)]
  · rw [if_neg h, if_neg (by omega)]
theorem value_N_eq (v : Int) : F_value_N v = some (nP v) := by
  unfold F_value_N F_value_small nP n?
  rw [bAnd_one, iShr_one]
  by_cases h : v % 2 = 1
  · rw [if_pos h]
    by_cases h1 : -1073741824 ≤ v / 2
    · rw [if_pos h1, ob_some]
      by_cases h2 : v / 2 ≤ 1073741823
      · rw [if_pos (by simpa using h2), if_pos (by omega)]
      · rw [if_neg (by simpa using h2), if_neg (by omega)]
    · rw [if_neg h1, ob_some, if_neg (by simp), if_neg (by omega)]
  · rw [if_neg h, if_neg (by omega)]
theorem atP_snd (v : Int) : (atP v).2 = (at? v).isSome := by unfold atP; cases at? v <;> rfl
theorem nP_snd (v : Int) : (nP v).2 = (n? v).isSome := by unfold nP; cases n? v <;> rfl
theorem value_May_eq (v : Int) : F_value_May v = some ((n? v).isSome || (at? v).isSome) := by
  unfold F_value_May
  rw [value_N_eq, ob_some, value_At_eq, ob_some, nP_snd, atP_snd]
  cases (n? v).isSome <;> simp
theorem value_Ref_eq (i : Int) : F_value_Ref i = some (if 0 ≤ i ∧ i < 1048576 then (2 * i, true) else (0, false)) := by
  unfold F_value_Ref F_value_object
  by_cases h1 : 0 ≤ i
  · rw [if_pos h1, ob_some]
    by_cases h2 : i < 1048576
    · rw [if_neg (by simpa using h2), iShl_one, w64_id (by omega) (by omega), if_pos ⟨h1, h2⟩]
    · rw [if_pos (by simpa using h2), if_neg (fun h => h2 h.2)]
  · rw [if_neg h1, ob_some, if_pos rfl, if_neg (fun h => h1 h.1)]
theorem heap_ref_eq (n : Nat) (v : Int) : F_heap_objects_ref (n : Int) v = some (refI n v) := by
  unfold F_heap_objects_ref refI
  rw [value_At_eq, ob_some]
  unfold atP
  cases at? v with
  | none => simp
  | some i =>
    by_cases h : i < n
    · simp [h]
    · simp [h]
theorem hasB_ref (n : Nat) (v : Int) : hasB n v = ((n? v).isSome || decide (0 ≤ refI n v)) := by
  unfold hasB refI
  cases at? v with
  | none => simp
  | some i => by_cases h : i < n <;> simp [h]
theorem ref_atP (n : Nat) (v : Int) : decide (0 ≤ refI n v) = ((atP v).2 && decide ((atP v).1 < (n : Int))) := by
  unfold refI atP
  cases at? v with
  | none => simp
  | some i => by_cases h : i < n <;> simp [h]
theorem heap_has_eq (n : Nat) (v : Int) : F_heap_objects_has (n : Int) v = some (hasB n v) := by
  unfold F_heap_objects_has
  rw [value_N_eq, ob_some, nP_snd, heap_ref_eq, ob_some, hasB_ref]
  cases (n? v).isSome <;> simp
theorem contains154_eq (s : List Int) (n : Nat) (a b c d : Int) (l : List Int) (t : ByteArray) (h : s.length ≤ big) : F_slices_ContainsFunc_154_u0 s (n : Int) a b l t c d = some (!s.all (hasB n)) := by
  unfold F_slices_ContainsFunc_154_u0 F_slices_IndexFunc_164_u0
  unfold big at h
  obtain ⟨r, e, hr⟩ := iter_all s (hasB n) (S := fun p => s0_slices_IndexFunc_164_u0 s (s.length : Int) (n : Int) a b l t c d p) (fun k => (k : Int)) (fun k hk => by
    simp only [s0_slices_IndexFunc_164_u0, F_heap_objects_may_1_u0, atI_nat _ k hk, heap_has_eq, ob_some]
    rw [if_pos (by omega), if_pos (by omega), w64_id (by omega) (by omega)]
    cases hasB n s[k] <;> simp) (by simp [s0_slices_IndexFunc_164_u0])
  rw [e, ob_some]
  cases r with
  | inl b =>
    obtain ⟨h1, k, _, rfl, _⟩ := hr
    simp [h1]
  | inr u =>
    have h1 : s.all (hasB n) = true := hr
    simp [h1]
theorem heap_in_eq (n m : Int) : F_heap_in n m = some (decide (0 ≤ n ∧ n ≤ m)) := by
  unfold F_heap_in
  by_cases h : 0 ≤ n
  · simp [h]
  · simp [h]
theorem dec_decide {p : Prop} [Decidable p] : dec p = decide p := by
  by_cases h : p
  · rw [dec_true h, decide_eq_true h]
  · rw [dec_false h, decide_eq_false h]
theorem heap_may_obj_eq (n : Nat) (o : GObj) (h : o.Slots.length ≤ big) : F_heap_objects_may (n : Int) o = some (dec (OkObj n o)) := by
  unfold F_heap_objects_may
  rw [heap_ref_eq, ob_some]
  by_cases h1 : 0 ≤ refI n o.Class
  case neg => rw [if_neg h1, dec_false fun k => h1 k.cls]
  rw [if_pos h1, heap_in_eq, ob_some]
  by_cases h2 : 0 ≤ o.Kind ∧ o.Kind ≤ 2
  case neg => rw [decide_eq_false h2, if_neg (by simp), dec_false fun k => h2 k.kind]
  rw [decide_eq_true h2, if_pos rfl, heap_in_eq, ob_some]
  by_cases h3 : 0 ≤ o.Hash ∧ o.Hash ≤ 1073741823
  case neg => rw [decide_eq_false h3, if_pos rfl, dec_false fun k => h3 k.hash]
  rw [decide_eq_true h3, if_neg (by simp)]
  simp only [contains154_eq o.Slots n _ _ _ _ _ _ h, ob_some, Bool.not_not]
  by_cases h4 : (o.Slots.length : Int) ≤ 64
  case neg => rw [dec_false fun k => h4 (by have := k.nslots; omega)]; simp [h4]
  by_cases h5 : (o.Text.size : Int) ≤ 64
  case neg => rw [dec_false fun k => h5 (by have := k.ntext; omega)]; simp [h5]
  by_cases h6 : canonF o.Bits = o.Bits
  case neg => rw [dec_false fun k => h6 k.canon]; simp [h6]
  cases h7 : o.Slots.all (hasB n) with
  | false =>
    rw [dec_false fun k => by
      rw [List.all_eq_true.2 k.slots] at h7; cases h7]
    simp
  | true =>
    have hiff : OkObj n o ↔ ((o.Kind ≠ 0 → o.Slots = []) ∧ (o.Kind ≠ 1 → o.Text = ByteArray.empty) ∧ (o.Kind ≠ 2 → o.Bits = 0)) :=
      ⟨fun k => ⟨k.ptr, k.text, k.bits⟩, fun k => ⟨h1, h2, h3, k.1, k.2.1, k.2.2, by omega, by omega, h6, List.all_eq_true.1 h7⟩⟩
    rw [dec_congr hiff, dec_decide]
    have e0 : ({ data := #[] } : ByteArray) = ByteArray.empty := rfl
    rw [e0]
    simp only [h4, h5, h6, if_true]
    by_cases k0 : o.Kind = 0
    · simp [k0]
      by_cases b1 : o.Text = ByteArray.empty <;> by_cases b2 : o.Bits = 0 <;> simp [b1, b2]
    · by_cases k1 : o.Kind = 1
      · simp [k1]
        by_cases b1 : o.Slots = [] <;> by_cases b2 : o.Bits = 0 <;> simp [b1, b2]
      · have k2 : o.Kind = 2 := by omega
        simp [k2]
        by_cases b1 : o.Slots = [] <;> by_cases b2 : o.Text = ByteArray.empty <;> simp [b1, b2]
def Slim (h : GHeap) : Prop := h.Objs.length ≤ big ∧ ∀ o ∈ h.Objs, o.Slots.length + o.Text.size ≤ big
theorem heap_May_eq (h : GHeap) (hs : Slim h) : F_heap_May h = some (dec (OkHeap h)) := by
  obtain ⟨hl, hso⟩ := hs
  unfold big at hl
  unfold F_heap_May
  by_cases h1 : 1 ≤ h.Cap
  case neg => rw [if_neg h1, dec_false fun k => h1 k.cap.1]
  by_cases h2 : h.Cap ≤ 256
  case neg => rw [if_pos h1, if_neg h2, dec_false fun k => h2 k.cap.2]
  by_cases h3 : (h.Objs.length : Int) ≤ h.Cap
  case neg => rw [if_pos h1, if_pos h2, if_neg h3, dec_false fun k => h3 k.len]
  rw [if_pos h1, if_pos h2, if_pos h3, heap_in_eq, ob_some]
  by_cases h4 : 0 ≤ h.Last ∧ h.Last ≤ 1073741823
  case neg => rw [decide_eq_false h4, if_pos rfl, dec_false fun k => h4 k.last]
  rw [decide_eq_true h4, if_neg (by simp)]
  unfold F_slices_ContainsFunc_139_u0 F_slices_IndexFunc_151_u0
  obtain ⟨r, e, hr⟩ := iter_all h.Objs (fun o => dec (OkObj h.Objs.length o)) (S := fun p => s0_slices_IndexFunc_151_u0 h.Objs (h.Objs.length : Int) h.Objs h.Cap h.Last (h.Objs.length : Int) p) (fun k => (k : Int)) (fun k hk => by
    have ho := heap_may_obj_eq h.Objs.length h.Objs[k] (by have := hso _ (List.getElem_mem hk); omega)
    simp only [s0_slices_IndexFunc_151_u0, F_heap_May_1_u0, atI_nat _ k hk]
    rw [if_pos (by omega), if_pos (by omega), w64_id (by omega) (by omega)]
    rw [show ({ Class := h.Objs[k].Class, Kind := h.Objs[k].Kind, Slots := h.Objs[k].Slots, Text := h.Objs[k].Text, Bits := h.Objs[k].Bits, Hash := h.Objs[k].Hash } : GObj) = h.Objs[k] from rfl, ho, ob_some, ob_some]
    cases dec (OkObj h.Objs.length h.Objs[k]) <;> simp) (by simp [s0_slices_IndexFunc_151_u0])
  rw [e, ob_some]
  cases r with
  | inl b =>
    obtain ⟨h5, k, hk, rfl, hf, _⟩ := hr
    rw [dec_false fun ok => by
      rw [dec_true (ok.objs _ (List.getElem_mem hk))] at hf; cases hf]
    simp
  | inr u =>
    have h5 : h.Objs.all (fun o => dec (OkObj h.Objs.length o)) = true := hr
    rw [dec_true ⟨⟨h1, h2⟩, h3, h4, fun o ho => dec_iff.1 (List.all_eq_true.1 h5 o ho)⟩]
    simp
theorem push_eq (v : Int) (O : List GObj) (M : List Bool) (S : List Int) (hM : M.length = O.length) (hS : S.length ≤ big) :
    F_mark_marker_push_u0 v O M S = some (hasB O.length v, push1 O.length (M, S) v) := by
  have hmost : (S.length + 1) * 8 ≤ most := by unfold most; unfold big at hS; omega
  unfold F_mark_marker_push_u0 push1 hasB
  rw [value_At_eq, ob_some]
  unfold atP
  cases h : at? v with
  | none =>
    simp only [if_true]
    rw [value_May_eq, ob_some, h]
    simp
  | some i =>
    have hn : (n? v).isSome = false := by rw [n_at h]; rfl
    simp only [hn, Bool.false_or]
    rw [if_neg (by simp)]
    by_cases hi : i < O.length
    · rw [if_neg (by omega), if_pos (by omega), if_pos (by simp; omega), if_pos hi, decide_eq_true hi]
      have hi' : i < M.length := by omega
      rw [atI_nat _ i hi', isM_get hi']
      cases hm : M[i] with
      | false =>
        rw [if_pos rfl, if_pos (by omega), if_pos (by simp; omega), if_pos hmost, if_neg (by simp)]
        simp
      | true => simp
    · rw [if_pos (by omega), if_neg hi, decide_eq_false hi]
theorem push_eq1 (v a b c d : Int) (l : List Int) (t : ByteArray) (O : List GObj) (M : List Bool) (S : List Int) : F_mark_marker_push_u1 v a b l t c d O M S = F_mark_marker_push_u0 v O M S := rfl
end Go.Pv

/- What is reached: the program's marking, in plain words. -/
namespace Go.Pv
noncomputable def liveI (h : GHeap) (rs : List Int) : List Int := (liveH h rs).map Int.ofNat
def rootsB (h : GHeap) (rs : List Int) : Bool := rs.all (hasB h.n)
theorem rootsB_iff {h : GHeap} {rs : List Int} : rootsB h rs = true ↔ Roots h rs := List.all_eq_true
noncomputable def liveS (h : GHeap) (rs : List Int) : List Int × Int :=
  if dec (OkHeap h) = true then if rootsB h rs = true then (liveI h rs, 0) else ([], 31) else ([], 1)
theorem foldl_take {α β : Type} (f : β → α → β) (l : List α) (b : β) (k : Nat) (h : k < l.length) : (l.take (k + 1)).foldl f b = f ((l.take k).foldl f b) l[k] := by
  rw [List.take_succ_eq_append_getElem h, List.foldl_append]; rfl
theorem falses_le (M : List Bool) : falses M ≤ M.length := List.count_le_length
theorem vals_obj (h : GHeap) (i : Nat) (hi : i < h.Objs.length) : h.vals i = h.Objs[i].Class :: h.Objs[i].Slots := by
  unfold GHeap.vals
  rw [atN_get _ i hi]; rfl
theorem live_roots (O : List GObj) (rs : List Int) (hO : O.length ≤ 1048576) (hr : rs.length ≤ big) :
    ∃ r, iterO (fun p : Int × List Bool × List Int => s0_mark_Live rs (rs.length : Int) O p.fst p.snd.fst p.snd.snd) ((0 : Int), List.replicate O.length false, []) = some r ∧
      sm r (fun a => rs.all (hasB O.length) = false ∧ a.1 = [] ∧ a.2.1 = 31) fun a => rs.all (hasB O.length) = true ∧ a = rs.foldl (push1 O.length) (List.replicate O.length false, []) := by
  unfold big at hr
  refine iter_post (S := fun p : Int × List Bool × List Int => s0_mark_Live rs (rs.length : Int) O p.fst p.snd.fst p.snd.snd) (fun p => rs.length - p.1.toNat)
    (fun p => ∃ k : Nat, p.1 = k ∧ k ≤ rs.length ∧ (∀ j (_ : j < k) (h : j < rs.length), hasB O.length rs[j] = true) ∧ p.2 = (rs.take k).foldl (push1 O.length) (List.replicate O.length false, [])) _ (fun p hp => ?_) _
    ⟨0, rfl, Nat.zero_le _, fun j hj => by omega, by simp⟩
  obtain ⟨i, p2⟩ := p
  obtain ⟨k, hi, hk, hall, he⟩ := hp
  simp only at hi he
  subst hi
  rcases Nat.lt_or_ge k rs.length with h | h
  · have P := pushedL (n := O.length) (rs.take k) (M := List.replicate O.length false) (S := []) (by simp)
    rw [← he] at P
    have hM : p2.1.length = O.length := by rw [P.len]; simp
    have hS : p2.2.length ≤ big := by
      have h1 := P.size
      have h2 : falses (List.replicate O.length false) ≤ O.length := Nat.le_trans (falses_le _) (by simp)
      simp only [List.length_nil] at h1
      unfold big
      omega
    have hp := push_eq rs[k] O p2.1 p2.2 hM hS
    simp only [s0_mark_Live, atI_nat _ k h, hp, ob_some]
    rw [if_pos (by omega), if_pos (by omega), w64_id (by omega) (by omega)]
    cases hb : hasB O.length rs[k] with
    | true =>
      refine .inl ⟨_, by rw [if_neg (by simp)], ⟨k + 1, rfl, h, fun j hj hjl => ?_, ?_⟩, by simp; omega⟩
      · by_cases e : j = k
        · subst e; exact hb
        · exact hall j (by omega) hjl
      · rw [foldl_take _ _ _ k h, ← he]
    | false =>
      refine .inr ⟨.inl ([], 31, (push1 O.length p2 rs[k]).1, (push1 O.length p2 rs[k]).2), by rw [if_pos rfl], ?_, rfl, rfl⟩
      rw [List.all_eq_false]
      exact ⟨_, List.getElem_mem h, by rw [hb]; simp⟩
  · have e : k = rs.length := by omega
    subst e
    refine .inr ⟨.inr p2, by simp [s0_mark_Live], ?_, ?_⟩
    · rw [List.all_eq_true]
      intro x hx
      obtain ⟨j, hj, rfl⟩ := List.getElem_of_mem hx
      exact hall j hj hj
    · rw [he, List.take_length]
theorem live_slots (O : List GObj) (vs : List Int) (M : List Bool) (S : List Int) (hM : M.length = O.length) (hv : vs.length ≤ big) (hS : falses M + S.length ≤ big) :
    iterO (fun p : Int × List Bool × List Int => s2_mark_Live vs (vs.length : Int) O p.fst p.snd.fst p.snd.snd) ((0 : Int), M, S) = some (vs.foldl (push1 O.length) (M, S)) := by
  unfold big at hv
  have := iter_acc (S := fun p : Int × List Bool × List Int => s2_mark_Live vs (vs.length : Int) O p.fst p.snd.fst p.snd.snd) (fun k => ((k : Int), (vs.take k).foldl (push1 O.length) (M, S))) vs.length (b := vs.foldl (push1 O.length) (M, S)) (fun k hk => by
    have P := pushedL (n := O.length) (vs.take k) (M := M) (S := S) hM
    have hp := push_eq vs[k] O ((vs.take k).foldl (push1 O.length) (M, S)).1 ((vs.take k).foldl (push1 O.length) (M, S)).2 (P.len.trans hM) (by have := P.size; omega)
    simp only [s2_mark_Live, atI_nat _ k hk, hp, ob_some]
    rw [if_pos (by omega), if_pos (by omega), w64_id (by omega) (by omega), foldl_take _ _ _ k hk]
    rfl) (by simp [s2_mark_Live])
  simpa using this
theorem take_pred {S : List Int} (h : S ≠ []) : ∃ T : List Int, ∃ x : Int, S = T ++ [x] ∧ T.length = S.length - 1 ∧ S.take (S.length - 1) = T := by
  rcases List.eq_nil_or_concat S with e | ⟨T, x, e⟩
  · exact absurd e h
  · rw [List.concat_eq_append] at e
    subst e
    exact ⟨T, x, rfl, by simp, by simp⟩
theorem live_loop (h : GHeap) (rs : List Int) (o : OkHeap h) (M : List Bool) (S : List Int) (d : Dfs h.n h.vals rs M S) (hb : falses M + S.length ≤ h.n) :
    ∃ M', iterO (fun p : List Bool × List Int => s1_mark_Live h.Objs p.fst p.snd) (M, S) = some (M', []) ∧ Dfs h.n h.vals rs M' [] := by
  have hn := o.small
  have key := iter_post (S := fun p : List Bool × List Int => s1_mark_Live h.Objs p.fst p.snd) (fun p => 2 * falses p.1 + p.2.length) (fun p => Dfs h.n h.vals rs p.1 p.2 ∧ falses p.1 + p.2.length ≤ h.n)
    (fun b => b.2 = [] ∧ Dfs h.n h.vals rs b.1 []) (fun p hp => by
    obtain ⟨M, S⟩ := p
    obtain ⟨d, hb⟩ := hp
    simp only at d hb ⊢
    by_cases hS : S = []
    · subst hS
      exact .inr ⟨(M, []), by simp [s1_mark_Live], rfl, d⟩
    · obtain ⟨T, x, rfl, hT, htake⟩ := take_pred hS
      obtain ⟨i, rfl, hmi⟩ := d.st x (by simp)
      have hi : i < h.Objs.length := by
        have := isM_lt hmi
        rw [d.len] at this; exact this
      have hlen : (T ++ [(i : Int)]).length = T.length + 1 := by simp
      have hw : w64 (((T ++ [(i : Int)]).length : Int) - 1) = (T.length : Int) := by rw [hlen, w64_id (by omega) (by omega)]; omega
      have hat : atI (T ++ [(i : Int)]) (T.length : Int) = (i : Int) := by rw [atI_nat _ T.length (by simp)]; simp
      have hobj : atI h.Objs (i : Int) = h.Objs[i] := atI_nat _ i hi
      have hbT : falses M + T.length ≤ big := by unfold big; omega
      have hp1 := push_eq h.Objs[i].Class h.Objs M T d.len (by unfold big; omega)
      have P1 := pushed1 (S := T) d.len h.Objs[i].Class
      have hsl := live_slots h.Objs h.Objs[i].Slots (push1 h.Objs.length (M, T) h.Objs[i].Class).1 (push1 h.Objs.length (M, T) h.Objs[i].Class).2 (P1.len.trans d.len)
        (by have := (o.objs _ (List.getElem_mem hi)).nslots; unfold big; omega) (by
          have := P1.size
          have e : GHeap.n h = h.Objs.length := rfl
          rw [e] at this
          omega)
      have hstep : s1_mark_Live h.Objs M (T ++ [(i : Int)]) = some (.inl ((h.vals i).foldl (push1 h.n) (M, T))) := by
        simp only [s1_mark_Live, hw, hat, hobj, push_eq1]
        rw [if_pos (by omega), if_pos (by omega), if_pos (by simp), if_pos (by omega), if_pos (by omega), if_pos (by omega)]
        have ht2 : List.take ((T.length : Int)).toNat (T ++ [(i : Int)]) = T := by simp
        rw [ht2, hp1, ob_some]
        simp only
        rw [hsl, ob_some, vals_obj h i hi]
        rfl
      have PL := pushedL (n := h.n) (h.vals i) (M := M) (S := T) d.len
      obtain ⟨d', hlt⟩ := d.pop PL
      exact .inl ⟨_, hstep, ⟨d', by have := PL.size; omega⟩, hlt⟩) (M, S) ⟨d, hb⟩
  obtain ⟨⟨M', S'⟩, h1, h2, h3⟩ := key
  simp only at h2 h3
  subst h2
  exact ⟨M', h1, h3⟩
theorem idx_loop (M : List Bool) (hl : M.length ≤ 1048576) : iterO (fun p : List Int × Int => s3_mark_Live M (M.length : Int) p.fst p.snd) ([], (0 : Int)) = some (idxs M) := by
  have := iter_acc (S := fun p : List Int × Int => s3_mark_Live M (M.length : Int) p.fst p.snd) (fun k => (((List.range k).filter (isM M)).map Int.ofNat, (k : Int))) M.length (b := idxs M) (fun k hk => by
    have hlen : (((List.range k).filter (isM M)).map Int.ofNat).length ≤ k := by
      rw [List.length_map]
      exact Nat.le_trans (List.length_filter_le _ _) (by simp)
    simp only [s3_mark_Live, atI_nat _ k hk]
    rw [if_pos (by omega), if_pos (by omega), w64_id (by omega) (by omega), List.range_succ, List.filter_append, List.map_append]
    cases hm : M[k] with
    | true =>
      rw [if_pos rfl, if_pos (by unfold most; omega)]
      simp [isM_get hk, hm]
    | false =>
      rw [if_neg (by simp)]
      simp [isM_get hk, hm]) (by simp [s3_mark_Live, idxs])
  simpa using this
theorem mark_Live_eq (h : GHeap) (rs : List Int) (hs : Slim h) (hr : rs.length ≤ big) : F_mark_Live h rs = some (liveS h rs) := by
  unfold F_mark_Live liveS
  rw [heap_May_eq h hs, ob_some]
  cases ho : dec (OkHeap h) with
  | false => simp
  | true =>
    have o := dec_iff.1 ho
    have hn := o.small
    have e : GHeap.n h = h.Objs.length := rfl
    rw [if_neg (by simp), if_pos (by unfold most; omega), if_pos rfl]
    obtain ⟨r, h1, h2⟩ := live_roots h.Objs rs (by omega) hr
    rw [h1, ob_some]
    cases r with
    | inl a =>
      obtain ⟨h3, h4, h5⟩ := h2
      have : rootsB h rs = false := h3
      rw [this]
      simp [h4, h5]
    | inr a =>
      obtain ⟨h3, h4⟩ := h2
      have hro : rootsB h rs = true := h3
      rw [hro, if_pos rfl]
      simp only [sm_inr]
      have P := pushedL (n := h.n) rs (M := List.replicate h.n false) (S := []) (by simp)
      have ha : a = rs.foldl (push1 h.n) (List.replicate h.n false, []) := h4
      rw [← ha] at P
      have d := Dfs.start (vals := h.vals) P
      obtain ⟨M', h6, d'⟩ := live_loop h rs o a.1 a.2 d (by
        have h7 := P.size
        have h8 : falses (List.replicate h.n false) ≤ h.n := Nat.le_trans (falses_le _) (by simp)
        simp only [List.length_nil] at h7
        omega)
      rw [h6, ob_some]
      simp only
      rw [idx_loop M' (by rw [d'.len]; omega), ob_some]
      have hM : M' = marks h.n h.vals rs := marks_of d'.len d'.done
      rw [hM]; rfl
end Go.Pv

/- Values, heaps and states: the document's functions in plain words. -/
namespace Go.Pv
theorem bAnd_low (v : Int) : bAnd .i64 v 9223372036854775807 = v % 9223372036854775808 := by
  have h : (BitVec.ofInt IntKind.i64.bits v &&& BitVec.ofInt IntKind.i64.bits 9223372036854775807).toNat = (v % 9223372036854775808).toNat := by
    show (BitVec.ofInt 64 v &&& BitVec.ofInt 64 9223372036854775807).toNat = _
    rw [BitVec.toNat_and, BitVec.toNat_ofInt, BitVec.toNat_ofInt]
    show (v % ((2 ^ 64 : Nat) : Int)).toNat &&& (2 ^ 63 - 1) = _
    rw [Nat.and_two_pow_sub_one_eq_mod]
    omega
  unfold bAnd
  rw [h, wrap_w64, w64_id (by omega) (by omega)]
  omega
theorem iShr_52 (v : Int) : iShr .i64 v 52 = v / 4503599627370496 := by
  show v.fdiv (2 ^ (min (52 : Int).toNat 64)) = v / 4503599627370496
  rw [show (2 : Int) ^ (min (52 : Int).toNat 64) = 4503599627370496 from rfl, Int.fdiv_eq_ediv_of_nonneg _ (by omega)]
def inR (b : Int) : Prop := -9223372036854775808 ≤ b ∧ b ≤ 9223372036854775807
theorem R02_Canon_eq (a : Int) (h : inR a) : F_R02_Canon a = some (canonF a) := by
  unfold F_R02_Canon F_R02_Kind F_R02_plain F_R02_most F_R02_NaN canonF nanB
  simp only [ob_some, bAnd_low, iShr_52]
  rw [Int.tmod_eq_emod_of_nonneg (by omega), w64_id h.1 h.2]
  by_cases h1 : a % 9223372036854775808 / 4503599627370496 = 2047
  · rw [if_pos h1]
    by_cases h2 : a % 9223372036854775808 % 4503599627370496 = 0
    · have h3 : a % 4503599627370496 = 0 := by omega
      rw [if_pos h2, ob_some]
      simp [h3]
    · have h3 : ¬ a % 4503599627370496 = 0 := by omega
      rw [if_neg h2, ob_some]
      simp [h1, h3]
  · rw [if_neg h1]
    by_cases h4 : 0 < a % 9223372036854775808 / 4503599627370496
    · rw [if_pos h4, ob_some]; simp [h1]
    · rw [if_neg h4]
      by_cases h5 : 0 < a % 9223372036854775808 % 4503599627370496
      · rw [if_pos h5, ob_some]; simp [h1]
      · rw [if_neg h5, ob_some]; simp [h1]
theorem R01_At_eq (v : Int) : F_R01_At v = some (atP v) := by
  unfold F_R01_At atP at?
  by_cases h : v % 2 = 0
  · rw [if_pos ((tmod_two v).2 h)]
    by_cases h1 : 0 ≤ v
    · rw [if_pos h1]
      by_cases h2 : 2097150 < v
      · rw [if_pos h2, if_neg (by omega)]
      · rw [if_neg h2, if_pos (by omega), Int.tdiv_eq_ediv_of_nonneg h1, w64_id (by omega) (by omega)]
        simp only [Option.some.injEq, Prod.mk.injEq, and_true]; omega
    · rw [if_neg h1, if_neg (by omega)]
  · rw [if_neg (fun k => h ((tmod_two v).1 k)), if_neg (by omega)]
theorem tdiv_odd {v : Int} (h : v % 2 = 1) : (v - 1).tdiv 2 = v / 2 := by
  have e : v - 1 = 2 * (v / 2) := by omega
  rw [e, Int.mul_tdiv_cancel_left _ (by omega)]
theorem R01_N_eq (v : Int) : F_R01_N v = some (nP v) := by
  unfold F_R01_N nP n?
  by_cases h : v % 2 = 0
  · rw [if_pos ((tmod_two v).2 h), if_neg (by omega)]
  · rw [if_neg (fun k => h ((tmod_two v).1 k))]
    by_cases h1 : -2147483647 ≤ v
    · rw [if_pos h1]
      by_cases h2 : 2147483647 < v
      · rw [if_pos h2, if_neg (by omega)]
      · have h3 : v % 2 = 1 := by omega
        rw [if_neg h2, if_pos (by omega), w64_id (n := v - 1) (by omega) (by omega), tdiv_odd h3, w64_id (by omega) (by omega)]
    · rw [if_neg h1, if_neg (by omega)]
theorem R03_Ref_eq (h : GHeap) (v : Int) : F_R03_Ref h v = some (refI h.n v) := by
  unfold F_R03_Ref refI
  rw [R01_At_eq, ob_some]
  unfold atP GHeap.n
  cases at? v with
  | none => simp
  | some i =>
    by_cases hi : i < h.Objs.length
    · have : ¬ ((h.Objs.length : Int) ≤ (i : Int)) := by omega
      simp [hi, this]
    · have : (h.Objs.length : Int) ≤ (i : Int) := by omega
      simp [hi, this]
theorem R03_Has_eq (h : GHeap) (v : Int) : F_R03_Has h v = some (hasB h.n v) := by
  unfold F_R03_Has
  rw [R01_N_eq, ob_some, nP_snd, R03_Ref_eq, ob_some, hasB_ref]
  cases (n? v).isSome <;> simp
theorem R03_hash_eq (n : Int) : F_R03_hash n = some (decide (0 ≤ n ∧ n ≤ 1073741823)) := by
  unfold F_R03_hash
  by_cases h : 0 ≤ n
  · have : (n < 1073741824) ↔ (n ≤ 1073741823) := by omega
    simp [h, this]
  · simp [h]
theorem R03_obj_eq (h : GHeap) (o : GObj) (hl : o.Slots.length ≤ big) (hb : inR o.Bits) : F_R03_obj h o = some (dec (OkObj h.n o)) := by
  unfold F_R03_obj
  unfold big at hl
  obtain ⟨r, e, hr⟩ := iter_all o.Slots (hasB h.n) (S := fun p => s0_R03_obj h.Objs h.Cap h.Last o.Class o.Kind o.Slots o.Text o.Bits o.Hash p) (fun _ => false) (fun k hk => by
    simp only [s0_R03_obj, atI_nat _ k hk]
    rw [if_pos (by omega), if_pos (by omega), w64_id (by omega) (by omega)]
    rw [R03_Has_eq h, ob_some]
    cases hasB h.n o.Slots[k] <;> simp) (by simp [s0_R03_obj])
  rw [e, ob_some]
  cases r with
  | inl b =>
    obtain ⟨h7, k, _, rfl, _⟩ := hr
    rw [sm_inl, dec_false fun k => by
      rw [List.all_eq_true.2 k.slots] at h7; cases h7]
  | inr u =>
    have h7 : o.Slots.all (hasB h.n) = true := hr
    rw [sm_inr]
    simp only [R03_Ref_eq, R03_hash_eq, R02_Canon_eq _ hb, ob_some]
    by_cases h1 : 0 ≤ refI h.n o.Class
    case neg => rw [dec_false fun k => h1 k.cls]; simp [h1]
    by_cases h2 : 0 ≤ o.Kind
    case neg => rw [dec_false fun k => h2 k.kind.1]; simp [h2]
    by_cases h2' : o.Kind ≤ 2
    case neg => rw [dec_false fun k => h2' k.kind.2]; simp [h2']
    by_cases h3 : 0 ≤ o.Hash ∧ o.Hash ≤ 1073741823
    case neg => rw [dec_false fun k => h3 k.hash, decide_eq_false h3]; simp
    by_cases h4 : (o.Slots.length : Int) ≤ 64
    case neg => rw [dec_false fun k => h4 (by have := k.nslots; omega)]; simp [h4]
    by_cases h5 : (o.Text.size : Int) ≤ 64
    case neg => rw [dec_false fun k => h5 (by have := k.ntext; omega)]; simp [h5]
    by_cases h6 : canonF o.Bits = o.Bits
    case neg =>
      rw [dec_false fun k => h6 k.canon]
      have : (canonF o.Bits == o.Bits) = false := by simpa using h6
      simp [this]
    have hiff : OkObj h.n o ↔ ((o.Kind ≠ 0 → o.Slots = []) ∧ (o.Kind ≠ 1 → o.Text = ByteArray.empty) ∧ (o.Kind ≠ 2 → o.Bits = 0)) :=
      ⟨fun k => ⟨k.ptr, k.text, k.bits⟩, fun k => ⟨h1, ⟨h2, h2'⟩, h3, k.1, k.2.1, k.2.2, by omega, by omega, h6, List.all_eq_true.1 h7⟩⟩
    rw [dec_congr hiff, dec_decide, decide_eq_true h3]
    have e0 : ({ data := #[] } : ByteArray) = ByteArray.empty := rfl
    have e1 : (canonF o.Bits == o.Bits) = true := by simpa using h6
    rw [e0, e1]
    simp only [h1, h2, h2', h4, h5, if_true]
    by_cases k0 : o.Kind = 0
    · simp [k0]
      by_cases b1 : o.Text = ByteArray.empty <;> by_cases b2 : o.Bits = 0 <;> simp [b1, b2]
    · by_cases k1 : o.Kind = 1
      · simp [k1]
        by_cases b1 : o.Slots = [] <;> by_cases b2 : o.Bits = 0 <;> simp [b1, b2]
      · have k2 : o.Kind = 2 := by omega
        simp [k2]
        by_cases b1 : o.Slots = [] <;> by_cases b2 : o.Text = ByteArray.empty <;> simp [b1, b2]
def BitsR (h : GHeap) : Prop := ∀ o ∈ h.Objs, inR o.Bits
theorem R03_May_eq (h : GHeap) (hs : Slim h) (hb : BitsR h) : F_R03_May h = some (dec (OkHeap h)) := by
  obtain ⟨hl, hso⟩ := hs
  unfold big at hl
  unfold F_R03_May
  obtain ⟨r, e, hr⟩ := iter_all h.Objs (fun o => dec (OkObj h.n o)) (S := fun p => s0_R03_May h.Objs h.Cap h.Last p) (fun _ => false) (fun k hk => by
    have ho := R03_obj_eq h h.Objs[k] (by have := hso _ (List.getElem_mem hk); omega) (hb _ (List.getElem_mem hk))
    simp only [s0_R03_May, atI_nat _ k hk]
    rw [if_pos (by omega), if_pos (by omega), w64_id (by omega) (by omega)]
    rw [ho, ob_some]
    cases dec (OkObj h.n h.Objs[k]) <;> simp) (by simp [s0_R03_May])
  rw [e, ob_some]
  cases r with
  | inl b =>
    obtain ⟨h5, k, hk, rfl, hf, _⟩ := hr
    rw [sm_inl, dec_false fun ok => by
      rw [show OkObj h.n h.Objs[k] = OkObj h.Objs.length h.Objs[k] from rfl, dec_true (ok.objs _ (List.getElem_mem hk))] at hf; cases hf]
  | inr u =>
    have h5 : h.Objs.all (fun o => dec (OkObj h.n o)) = true := hr
    rw [sm_inr]
    by_cases h1 : 1 ≤ h.Cap
    case neg => rw [if_neg h1, dec_false fun k => h1 k.cap.1]
    by_cases h2 : h.Cap ≤ 256
    case neg => rw [if_pos h1, if_neg h2, dec_false fun k => h2 k.cap.2]
    by_cases h3 : (h.Objs.length : Int) ≤ h.Cap
    case neg => rw [if_pos h1, if_pos h2, if_neg h3, dec_false fun k => h3 k.len]
    rw [if_pos h1, if_pos h2, if_pos h3, R03_hash_eq, ob_some]
    by_cases h4 : 0 ≤ h.Last ∧ h.Last ≤ 1073741823
    case neg => rw [decide_eq_false h4, dec_false fun k => h4 k.last]
    rw [decide_eq_true h4, dec_true ⟨⟨h1, h2⟩, h3, h4, fun o ho => dec_iff.1 (List.all_eq_true.1 h5 o ho)⟩]
noncomputable def stateE (s : GState) : Int := if dec (OkState s) = true then 0 else 150
theorem R15_Check_eq (s : GState) (hs : Slim s.Heap) (hb : BitsR s.Heap) : F_R15_Check s = some (stateE s) := by
  unfold F_R15_Check stateE
  rw [R03_May_eq s.Heap hs hb, ob_some]
  by_cases h0 : OkHeap s.Heap
  case neg => rw [dec_false h0, dec_false fun k => h0 k.heap]; simp
  rw [dec_true h0, if_pos rfl]
  by_cases h1 : (12 : Int) ≤ s.Heap.Objs.length
  case neg => rw [if_neg h1, dec_false fun k => h1 (by have := k.many; omega)]; simp
  rw [if_pos h1, R03_Ref_eq, ob_some]
  by_cases h2 : 0 ≤ refI s.Heap.n s.Proc
  case neg => rw [if_neg h2, dec_false fun k => h2 k.proc]; simp
  rw [if_pos h2, R03_Ref_eq, ob_some]
  by_cases h3 : 0 ≤ refI s.Heap.n s.Ready
  case neg => rw [if_neg h3, dec_false fun k => h3 k.ready]; simp
  rw [if_pos h3]
  by_cases h4 : 0 ≤ s.Halt
  case neg => rw [if_neg h4, dec_false fun k => h4 k.halt.1]; simp
  rw [if_pos h4]
  by_cases h5 : s.Halt ≤ 255
  case neg => rw [if_neg h5, dec_false fun k => h5 k.halt.2]; simp
  rw [if_pos h5]
  by_cases h6 : 0 ≤ s.Steps
  case neg => rw [if_neg h6, dec_false fun k => h6 k.steps.1]; simp
  rw [if_pos h6]
  by_cases h7 : s.Steps ≤ 1099511627776
  case neg => rw [if_neg h7, dec_false fun k => h7 k.steps.2]; simp
  rw [if_pos h7]
  by_cases h8 : 0 ≤ s.Used
  case neg => rw [if_neg h8, dec_false fun k => h8 k.used.1]; simp
  rw [if_pos h8]
  by_cases h9 : 1000 < s.Used
  case pos => rw [if_pos h9, dec_false fun k => by have := k.used.2; omega]; simp
  rw [if_neg h9, dec_true ⟨h0, by omega, h2, h3, ⟨h4, h5⟩, ⟨h6, h7⟩, ⟨h8, by omega⟩⟩]
  simp
end Go.Pv

/- Lists that rise are searched; what is in them. -/
namespace Go.Pv
theorem iter_allI {β : Type} (n : Nat) (q : Nat → Bool) {S : Int → Option (Int ⊕ β ⊕ Unit)} (R : Nat → β)
    (hS : ∀ (k : Nat), k < n → S (k : Int) = if q k = true then some (.inl ((k + 1 : Nat) : Int)) else some (.inr (.inl (R k)))) (he : S (n : Int) = some (.inr (.inr ()))) :
    ∃ r, iterO S 0 = some r ∧ sm r (fun b => ∃ k, k < n ∧ b = R k ∧ q k = false ∧ ∀ j, j < k → q j = true) fun _ => ∀ k, k < n → q k = true := by
  refine iter_post (S := S) (fun i => n - i.toNat) (fun i => ∃ k : Nat, i = k ∧ k ≤ n ∧ ∀ j, j < k → q j = true) _ (fun i hi => ?_) 0 ⟨0, rfl, Nat.zero_le _, fun j hj => by omega⟩
  obtain ⟨k, rfl, hk, ht⟩ := hi
  rcases Nat.lt_or_ge k n with h | h
  · rw [hS k h]
    by_cases e : q k = true
    · refine .inl ⟨_, if_pos e, ⟨k + 1, rfl, h, fun j hj => ?_⟩, by simp; omega⟩
      by_cases ej : j = k
      · subst ej; exact e
      · exact ht j (by omega)
    · exact .inr ⟨_, if_neg e, k, h, rfl, by simpa using e, ht⟩
  · have : k = n := by omega
    subst this
    exact .inr ⟨_, he, ht⟩
end Go.Pv

/- What is reached: the document's way, round by round. -/
namespace Go.Pv
def set1 (n : Nat) (M : List Bool) (v : Int) : List Bool := if 0 ≤ refI n v then M.set (refI n v).toNat true else M
theorem set1_len (n : Nat) (M : List Bool) (v : Int) : (set1 n M v).length = M.length := by
  unfold set1; split <;> simp
theorem set1_is {n : Nat} {M : List Bool} (hM : M.length = n) (v : Int) (j : Nat) : isM (set1 n M v) j = true ↔ isM M j = true ∨ (at? v = some j ∧ j < n) := by
  unfold set1
  by_cases h : 0 ≤ refI n v
  · rw [if_pos h]
    obtain ⟨i, h1, h2⟩ := refI_nonneg.1 h
    rw [refI_of h1 h2, Int.toNat_natCast, isM_set (by omega)]
    simp only [Bool.or_eq_true, decide_eq_true_eq]
    constructor
    · rintro (rfl | h3)
      · exact .inr ⟨h1, h2⟩
      · exact .inl h3
    · rintro (h3 | ⟨h3, _⟩)
      · exact .inr h3
      · rw [h1] at h3; exact .inl (Option.some.inj h3)
  · rw [if_neg h]
    refine ⟨.inl, fun h3 => h3.elim id fun ⟨h3, h4⟩ => absurd (refI_nonneg.2 ⟨j, h3, h4⟩) h⟩
theorem sets_len (n : Nat) (vs : List Int) : ∀ M : List Bool, (vs.foldl (set1 n) M).length = M.length := by
  induction vs with
  | nil => intro M; rfl
  | cons v vs ih => intro M; rw [List.foldl_cons, ih, set1_len]
theorem sets_is {n : Nat} (vs : List Int) (j : Nat) : ∀ {M : List Bool}, M.length = n → (isM (vs.foldl (set1 n) M) j = true ↔ isM M j = true ∨ ∃ v ∈ vs, at? v = some j ∧ j < n) := by
  induction vs with
  | nil => intro M _; simp
  | cons v vs ih =>
    intro M hM
    rw [List.foldl_cons, ih (by rw [set1_len, hM]), set1_is hM]
    constructor
    · rintro ((h | h) | ⟨w, hw, h⟩)
      · exact .inl h
      · exact .inr ⟨v, List.mem_cons_self .., h⟩
      · exact .inr ⟨w, List.mem_cons_of_mem _ hw, h⟩
    · rintro (h | ⟨w, hw, h⟩)
      · exact .inl (.inl h)
      · rcases List.mem_cons.1 hw with rfl | hw
        · exact .inl (.inr h)
        · exact .inr ⟨w, hw, h⟩
def near1 (h : GHeap) (M out : List Bool) (i : Nat) : List Bool := if isM M i = true then (h.vals i).foldl (set1 h.n) out else out
def nearS (h : GHeap) (M : List Bool) : List Bool := (List.range h.n).foldl (near1 h M) M
theorem near1_len (h : GHeap) (M out : List Bool) (i : Nat) : (near1 h M out i).length = out.length := by
  unfold near1; split
  · exact sets_len ..
  · rfl
theorem nears_len (h : GHeap) (M : List Bool) (l : List Nat) : ∀ out : List Bool, (l.foldl (near1 h M) out).length = out.length := by
  induction l with
  | nil => intro _; rfl
  | cons i l ih => intro out; rw [List.foldl_cons, ih, near1_len]
theorem nears_is {h : GHeap} {M : List Bool} (l : List Nat) (j : Nat) : ∀ {out : List Bool}, out.length = h.n → (isM (l.foldl (near1 h M) out) j = true ↔ isM out j = true ∨ ∃ i ∈ l, isM M i = true ∧ ∃ v ∈ h.vals i, at? v = some j ∧ j < h.n) := by
  induction l with
  | nil => intro out _; simp
  | cons i l ih =>
    intro out ho
    rw [List.foldl_cons, ih (by rw [near1_len, ho])]
    have h1 : isM (near1 h M out i) j = true ↔ isM out j = true ∨ (isM M i = true ∧ ∃ v ∈ h.vals i, at? v = some j ∧ j < h.n) := by
      unfold near1
      by_cases hm : isM M i = true
      · rw [if_pos hm, sets_is _ _ ho]; simp [hm]
      · rw [if_neg hm]; simp [hm]
    rw [h1]
    constructor
    · rintro ((h | h) | ⟨k, hk, h⟩)
      · exact .inl h
      · exact .inr ⟨i, List.mem_cons_self .., h⟩
      · exact .inr ⟨k, List.mem_cons_of_mem _ hk, h⟩
    · rintro (h | ⟨k, hk, h⟩)
      · exact .inl (.inl h)
      · rcases List.mem_cons.1 hk with rfl | hk
        · exact .inl (.inr h)
        · exact .inr ⟨k, hk, h⟩
theorem nearS_len (h : GHeap) (M : List Bool) : (nearS h M).length = M.length := nears_len ..
theorem nearS_is {h : GHeap} {M : List Bool} (hM : M.length = h.n) (j : Nat) : isM (nearS h M) j = true ↔ isM M j = true ∨ ∃ i, isM M i = true ∧ ∃ v ∈ h.vals i, at? v = some j ∧ j < h.n := by
  unfold nearS
  rw [nears_is _ _ hM]
  constructor
  · rintro (h | ⟨i, _, h⟩)
    · exact .inl h
    · exact .inr ⟨i, h⟩
  · rintro (h1 | ⟨i, hi, h1⟩)
    · exact .inl h1
    · exact .inr ⟨i, List.mem_range.2 (by have := isM_lt hi; omega), hi, h1⟩
def roundN (h : GHeap) (M : List Bool) : Nat → List Bool
  | 0 => M
  | k + 1 => nearS h (roundN h M k)
theorem roundN_len (h : GHeap) (M : List Bool) : ∀ k, (roundN h M k).length = M.length
  | 0 => rfl
  | k + 1 => by rw [roundN, nearS_len, roundN_len h M k]
end Go.Pv

/- What is reached, numbered as it is met: the program's walker. -/
namespace Go.Pv
def qs (l : List Nat) : List Int := l.map Int.ofNat
def mkv : Nat → List Nat → List (Int × Int)
  | _, [] => []
  | k, i :: l => ((i : Int), (k : Int)) :: mkv (k + 1) l
theorem mkv_look (i : Nat) : ∀ (l : List Nat) (k : Nat), (mkv k l).lookup (i : Int) = if i ∈ l then some ((k + l.idxOf i : Nat) : Int) else none
  | [], k => by simp [mkv]
  | j :: l, k => by
    unfold mkv
    rw [List.lookup_cons]
    by_cases e : i = j
    · subst e
      simp
    · have hb : ((i : Int) == (j : Int)) = false := by rw [beq_eq_false_iff_ne]; omega
      rw [hb, mkv_look i l (k + 1)]
      have hj : ¬ j = i := fun h => e h.symm
      by_cases hm : i ∈ l
      · have hj' : (j == i) = false := by simpa using hj
        rw [if_pos hm, if_pos (List.mem_cons_of_mem _ hm), List.idxOf_cons, hj', cond_false]
        exact congrArg some (by omega)
      · rw [if_neg hm, if_neg (by simp [e, hm])]
theorem mkv_get (l : List Nat) (i : Nat) : kvGet (i : Int) (mkv 0 l) = if i ∈ l then ((l.idxOf i : Int), true) else (0, false) := by
  unfold kvGet
  rw [mkv_look]
  by_cases h : i ∈ l
  · rw [if_pos h, if_pos h]; simp
  · rw [if_neg h, if_neg h]
theorem mkv_put (i : Nat) (v : Int) : ∀ (l : List Nat) (k : Nat), i ∉ l → v = ((k + l.length : Nat) : Int) → kvPut (i : Int) v (mkv k l) = mkv k (l ++ [i])
  | [], k, _, hv => by simp [mkv, kvPut, hv]
  | j :: l, k, h, hv => by
    have h1 : ¬ (j : Int) = (i : Int) := fun e => h (by have : j = i := by omega
                                                        subst this; exact List.mem_cons_self ..)
    rw [List.cons_append]
    unfold mkv
    rw [kvPut, if_neg h1, mkv_put i v l (k + 1) (fun hm => h (List.mem_cons_of_mem _ hm)) (by rw [hv, List.length_cons]; omega)]
theorem qs_len (l : List Nat) : (qs l).length = l.length := by simp [qs]
theorem qs_snoc (l : List Nat) (i : Nat) : qs (l ++ [i]) = qs l ++ [(i : Int)] := by simp [qs]
theorem meet_eq (v : Int) (l : List Nat) (hl : l.length ≤ 1000) (a : List GObj) (b c : Int) (d : List GObj) (e f : Int) :
    F_canon_walker_meet_u0 v a b c d e f (mkv 0 l) (qs l) = some (num (meet l v) v, mkv 0 (meet l v), qs (meet l v)) := by
  unfold F_canon_walker_meet_u0
  rw [value_At_eq, ob_some]
  cases h : at? v with
  | none =>
    have ha : atP v = (0, false) := by unfold atP; rw [h]
    rw [ha, if_pos rfl, meet_no h, num_no h]
  | some i =>
    have ha : atP v = ((i : Int), true) := by unfold atP; rw [h]
    rw [ha, if_neg (by simp), mkv_get, meet_at h, num_at h]
    by_cases hm : i ∈ l
    · have h1 := List.idxOf_lt_length_of_mem hm
      rw [if_pos hm, if_pos hm, if_neg (by simp)]
      simp only
      rw [value_Ref_eq, if_pos (by omega), ob_some]
    · have hi : (l ++ [i]).idxOf i = l.length := by simp [List.idxOf_append, hm]
      rw [if_neg hm, if_neg hm, if_pos rfl, qs_len, if_pos (by unfold most; omega), value_Ref_eq, if_pos (by omega), ob_some, mkv_put i _ l 0 hm (by omega), hi, qs_snoc]
theorem meet_eq1 (v : Int) (l : List Nat) (hl : l.length ≤ 1000) (a : List GObj) (b c : Int) (d : List GObj) (e f : Int) (g : List GObj) (o p q r : Int) (s : List Int) (t : ByteArray) (u w : Int) :
    F_canon_walker_meet_u1 v a b c d e f g o p q r s t u w (mkv 0 l) (qs l) = some (num (meet l v) v, mkv 0 (meet l v), qs (meet l v)) := meet_eq v l hl a b c d e f
theorem num_pre {l e : List Nat} {v : Int} (h : ∀ i, at? v = some i → i ∈ l) : num (l ++ e) v = num l v := by
  cases hv : at? v with
  | none => rw [num_no hv, num_no hv]
  | some i => rw [num_at hv, num_at hv, idxOf_app (h i hv)]
theorem num_meets {l : List Nat} {vs : List Int} {v : Int} (h : ∀ i, at? v = some i → i ∈ l) : num (meets l vs) v = num l v := by
  obtain ⟨e, he⟩ := meets_pre vs l
  rw [he, num_pre h]
theorem num_here {l : List Nat} {vs : List Int} {v : Int} (hv : v ∈ vs) : ∀ i, at? v = some i → i ∈ meets l vs := fun i h => (mem_meets vs).2 (.inr ⟨v, hv, h⟩)
theorem all_eq (vs : List Int) (l : List Nat) (n : Nat) (hn : n ≤ 256) (hd : l.Nodup) (hl : ∀ i ∈ l, i < n) (hv : ∀ v ∈ vs, hasB n v = true) (hvl : vs.length ≤ 1048576) (a : List GObj) (b c : Int) (d : List GObj) (e f : Int) :
    F_canon_walker_all_u0 vs a b c d e f (mkv 0 l) (qs l) = some (vs.map (num (meets l vs)), mkv 0 (meets l vs), qs (meets l vs)) := by
  unfold F_canon_walker_all_u0
  rw [if_pos (by unfold most; omega)]
  have loop := iter_acc (S := fun p : List Int × Int × List (Int × Int) × List Int => s0_canon_walker_all_u0 vs (vs.length : Int) a b c d e f p.fst p.snd.fst p.snd.snd.fst p.snd.snd.snd)
    (fun k => ((vs.take k).map (num (meets l (vs.take k))) ++ List.replicate (vs.length - k) 0, (k : Int), mkv 0 (meets l (vs.take k)), qs (meets l (vs.take k)))) vs.length
    (b := (vs.map (num (meets l vs)), mkv 0 (meets l vs), qs (meets l vs))) (fun k hk => by
      have hmd : (meets l (vs.take k)).Nodup := nodup_meets _ hd
      have hml : ∀ i ∈ meets l (vs.take k), i < n := fun i hi => by
        rcases (mem_meets _).1 hi with h | ⟨v, h1, h2⟩
        · exact hl i h
        · exact hasB_at (hv v (List.mem_of_mem_take h1)) h2
      have hlen := nodup_len n _ hmd hml
      have et : meets l (vs.take (k + 1)) = meet (meets l (vs.take k)) vs[k] := by
        rw [List.take_succ_eq_append_getElem hk, meets_app]; rfl
      have hmap : (vs.take k).map (num (meets l (vs.take (k + 1)))) = (vs.take k).map (num (meets l (vs.take k))) := List.map_congr_left fun v hv => by
        obtain ⟨x, hx⟩ := meet_pre (meets l (vs.take k)) vs[k]
        rw [et, hx, num_pre (num_here hv)]
      have hlo : ((vs.take k).map (num (meets l (vs.take k)))).length = k := by rw [List.length_map, List.length_take]; omega
      simp only [s0_canon_walker_all_u0, atI_nat _ k hk]
      rw [if_pos (by omega), if_pos (by omega), meet_eq _ _ (by omega), ob_some, if_pos (by rw [List.length_append, hlo, List.length_replicate]; omega), if_pos (by rw [List.length_append, hlo, List.length_replicate]; omega), w64_id (by omega) (by omega)]
      have hset : ((vs.take k).map (num (meets l (vs.take k))) ++ List.replicate (vs.length - k) 0).set ((k : Int)).toNat (num (meet (meets l (vs.take k)) vs[k]) vs[k]) = (vs.take (k + 1)).map (num (meets l (vs.take (k + 1)))) ++ List.replicate (vs.length - (k + 1)) 0 := by
        have er : vs.length - k = vs.length - (k + 1) + 1 := by omega
        rw [List.take_succ_eq_append_getElem hk, List.map_append]
        rw [← List.take_succ_eq_append_getElem hk, hmap, et, Int.toNat_natCast, List.set_append_right _ _ (by omega), hlo, Nat.sub_self, er, List.replicate_succ]
        simp
      rw [hset, et]
      rfl) (by
      simp only [s0_canon_walker_all_u0]
      rw [if_neg (by omega), List.take_length]
      simp)
  have loop' : iterO (fun p : List Int × Int × List (Int × Int) × List Int => s0_canon_walker_all_u0 vs (vs.length : Int) a b c d e f p.fst p.snd.fst p.snd.snd.fst p.snd.snd.snd) (List.replicate vs.length 0, (0 : Int), mkv 0 l, qs l) = some (vs.map (num (meets l vs)), mkv 0 (meets l vs), qs (meets l vs)) := by
    have := loop
    simpa [meets] using this
  rw [loop', ob_some]
end Go.Pv

/- What is reached, numbered as it is met: canon.Of. -/
namespace Go.Pv
theorem all_eq1 (vs : List Int) (l : List Nat) (n : Nat) (hn : n ≤ 256) (hd : l.Nodup) (hl : ∀ i ∈ l, i < n) (hv : ∀ v ∈ vs, hasB n v = true) (hvl : vs.length ≤ 1048576) (a : List GObj) (b c : Int) (d : List GObj) (e f : Int) (g : List GObj) (o p q r : Int) (s : List Int) (t : ByteArray) (u w : Int) :
    F_canon_walker_all_u1 vs a b c d e f g o p q r s t u w (mkv 0 l) (qs l) = some (vs.map (num (meets l vs)), mkv 0 (meets l vs), qs (meets l vs)) := all_eq vs l n hn hd hl hv hvl a b c d e f
theorem hasB_may (n : Nat) (v : Int) : hasB n v = (((n? v).isSome || (at? v).isSome) && (match at? v with | some i => decide (i < n) | none => true)) := by
  unfold hasB
  cases h : at? v with
  | none => simp
  | some i => rw [n_at h]; simp
theorem of_roots (h : GHeap) (rs : List Int) (hr : rs.length ≤ big) :
    ∃ r, iterO (fun p => s0_canon_Of rs rs (rs.length : Int) h.Objs h.Cap h.Last [] 0 0 p) (0 : Int) = some r ∧ sm r (fun b => rootsB h rs = false ∧ b = ([], 31, [], 0, 0)) fun _ => rootsB h rs = true := by
  unfold big at hr
  obtain ⟨r, e, hh⟩ := iter_allI rs.length (fun k => hasB h.n (rs.getD k 0)) (S := fun p => s0_canon_Of rs rs (rs.length : Int) h.Objs h.Cap h.Last [] 0 0 p) (fun _ => (([], 31, [], 0, 0) : List Int × Int × List GObj × Int × Int)) (fun k hk => by
    have hg : rs.getD k 0 = rs[k] := by simp [List.getD_eq_getElem?_getD, hk]
    simp only [s0_canon_Of, atI_nat _ k hk]
    rw [if_pos (by omega), if_pos (by omega), value_At_eq, ob_some, value_May_eq, ob_some, hg, hasB_may, w64_id (by omega) (by omega)]
    unfold atP
    cases h1 : at? rs[k] with
    | none =>
      cases h2 : (n? rs[k]).isSome <;> simp
    | some i =>
      have hn : (h.Objs.length : Int) ≤ (i : Int) ↔ ¬ i < h.n := by unfold GHeap.n; omega
      by_cases h3 : i < h.n
      · simp [hn, h3]
      · simp [hn, h3]) (by simp [s0_canon_Of])
  refine ⟨r, e, ?_⟩
  have hget : ∀ k, (hk : k < rs.length) → rs.getD k 0 = rs[k] := fun k hk => by simp [List.getD_eq_getElem?_getD, hk]
  cases r with
  | inl b =>
    obtain ⟨k, hk, rfl, hf, _⟩ := hh
    rw [sm_inl]
    refine ⟨?_, rfl⟩
    unfold rootsB
    rw [List.all_eq_false]
    rw [hget k hk] at hf
    exact ⟨_, List.getElem_mem hk, by rw [hf]; simp⟩
  | inr u =>
    rw [sm_inr]
    refine rootsB_iff.2 fun v hv => ?_
    obtain ⟨k, hk, rfl⟩ := List.getElem_of_mem hv
    have := hh k hk
    rwa [hget k hk] at this
noncomputable def ofS (h : GHeap) (rs : List Int) : GHeap × List Int × Int :=
  if dec (OkHeap h) = true then if rootsB h rs = true then (h.by (orderH h rs), rs.map (num (orderH h rs)), 0) else (⟨[], 0, 0⟩, [], 31) else (⟨[], 0, 0⟩, [], 1)
theorem by_pre {l e : List Nat} {o : GObj} (h : ∀ v ∈ o.vals, ∀ i, at? v = some i → i ∈ l) : o.by (l ++ e) = o.by l := by
  unfold GObj.by
  have h1 : num (l ++ e) o.Class = num l o.Class := num_pre (h _ (List.mem_cons_self ..))
  have h2 : o.Slots.map (num (l ++ e)) = o.Slots.map (num l) := List.map_congr_left fun v hv => num_pre (h v (List.mem_cons_of_mem _ hv))
  rw [h1, h2]
theorem of_loop (h : GHeap) (o : OkHeap h) (to : List Int) (l : List Nat) (hd : l.Nodup) (hl : ∀ i ∈ l, i < h.n) :
    iterO (fun p : Int × List GObj × List (Int × Int) × List Int => s1_canon_Of to h.Objs h.Cap h.Last [] 0 0 h.Cap h.Last p.fst p.snd.fst p.snd.snd.fst p.snd.snd.snd) ((0 : Int), [], mkv 0 l, qs l) =
      some (h.by (bfs h.vals 256 0 l)).Objs := by
  have hn := o.small
  have en : GHeap.n h = h.Objs.length := rfl
  have hlen := nodup_len h.n l hd hl
  obtain ⟨r, e, hr⟩ := iter_post (S := fun p : Int × List GObj × List (Int × Int) × List Int => s1_canon_Of to h.Objs h.Cap h.Last [] 0 0 h.Cap h.Last p.fst p.snd.fst p.snd.snd.fst p.snd.snd.snd)
    (fun p => h.n - p.1.toNat)
    (fun p => ∃ (k : Nat) (m : List Nat), p = ((k : Int), ((m.take k).map fun i => (atN h.Objs i).by m), mkv 0 m, qs m) ∧ k ≤ m.length ∧ m.Nodup ∧ (∀ i ∈ m, i < h.n) ∧ (∀ i ∈ m.take k, ∀ v ∈ h.vals i, ∀ j, at? v = some j → j ∈ m) ∧ bfs h.vals 256 0 l = bfs h.vals (256 - k) k m)
    (fun r => r = (h.by (bfs h.vals 256 0 l)).Objs) (fun p hp => by
      obtain ⟨k, m, rfl, hk, hmd, hml, hcl, hb⟩ := hp
      have hmlen := nodup_len h.n m hmd hml
      simp only [s1_canon_Of, qs_len]
      by_cases hlt : k < m.length
      case neg =>
        have ek : k = m.length := by omega
        refine .inr ⟨_, by rw [if_neg (by omega)], ?_⟩
        rw [hb, bfs_end _ _ _ _ (by omega), ek, List.take_length]
        rfl
      have hi : m[k] < h.Objs.length := hml _ (List.getElem_mem hlt)
      have hq : atI (qs m) (k : Int) = ((m[k] : Nat) : Int) := by
        rw [atI_nat _ k (by rw [qs_len]; exact hlt)]
        simp [qs]
      have ho := o.objs _ (List.getElem_mem hi)
      have hobj : atI h.Objs ((m[k] : Nat) : Int) = h.Objs[m[k]] := atI_nat _ _ hi
      have hobjN : atN h.Objs m[k] = h.Objs[m[k]] := atN_get _ _ hi
      have hvals : h.vals m[k] = h.Objs[m[k]].Class :: h.Objs[m[k]].Slots := vals_obj h _ hi
      have hcv : hasB h.n h.Objs[m[k]].Class = true := ho.vals _ (List.mem_cons_self ..)
      have hm1d := nodup_meet hmd h.Objs[m[k]].Class
      have hm1l : ∀ i ∈ meet m h.Objs[m[k]].Class, i < h.n := fun i hi => by
        rcases mem_meet.1 hi with h1 | h1
        · exact hml i h1
        · exact hasB_at hcv h1
      have hall := all_eq1 h.Objs[m[k]].Slots (meet m h.Objs[m[k]].Class) h.n hn hm1d hm1l ho.slots (by have := ho.nslots; omega)
      have hM : meets (meet m h.Objs[m[k]].Class) h.Objs[m[k]].Slots = meets m (h.vals m[k]) := by rw [hvals, meets_cons]
      obtain ⟨x, hx⟩ := meets_pre (h.vals m[k]) m
      have hMd : (meets m (h.vals m[k])).Nodup := nodup_meets _ hmd
      have hMl : ∀ i ∈ meets m (h.vals m[k]), i < h.n := fun i hi => by
        rcases (mem_meets _).1 hi with h1 | ⟨v, h1, h2⟩
        · exact hml i h1
        · rw [hvals] at h1
          exact hasB_at (ho.vals v h1) h2
      have hnum : num (meet m h.Objs[m[k]].Class) h.Objs[m[k]].Class = num (meets m (h.vals m[k])) h.Objs[m[k]].Class := by
        rw [← hM, num_meets fun i h1 => mem_meet.2 (.inr h1)]
      simp only [hq, hobj]
      rw [if_pos (by omega), if_pos (by omega), if_pos (by omega), if_pos (by omega), meet_eq1 _ _ (by omega), ob_some]
      simp only
      rw [hall, ob_some]
      simp only
      rw [if_pos (by rw [List.length_map, List.length_take]; unfold most; omega), w64_id (by omega) (by omega), hM, hnum]
      refine .inl ⟨_, rfl, ⟨k + 1, meets m (h.vals m[k]), ?_, ?_, hMd, hMl, ?_, ?_⟩, by simp only; omega⟩
      · have htake : (meets m (h.vals m[k])).take (k + 1) = m.take k ++ [m[k]] := by
          rw [hx, List.take_append_of_le_length (by omega), List.take_succ_eq_append_getElem hlt]
        rw [htake, List.map_append]
        have h1 : ((m.take k).map fun i => (atN h.Objs i).by (meets m (h.vals m[k]))) = (m.take k).map fun i => (atN h.Objs i).by m := List.map_congr_left fun i hi => by
          rw [hx]; exact by_pre (hcl i hi)
        rw [h1]
        simp only [List.map_cons, List.map_nil, hobjN, GObj.by]
        rfl
      · rw [hx, List.length_append]; omega
      · intro i hi v hv j hj
        rw [hx, List.take_append_of_le_length (by omega), List.take_succ_eq_append_getElem hlt] at hi
        rcases List.mem_append.1 hi with h1 | h1
        · exact (mem_meets _).2 (.inl (hcl i h1 v hv j hj))
        · simp only [List.mem_singleton] at h1
          subst h1
          exact (mem_meets _).2 (.inr ⟨v, hv, hj⟩)
      · rw [hb]
        have : 256 - k = 256 - (k + 1) + 1 := by omega
        rw [this, bfs_step _ _ _ _ hlt]) ((0 : Int), [], mkv 0 l, qs l) ⟨0, l, by simp, Nat.zero_le _, hd, hl, by simp, by rw [Nat.sub_zero]⟩
  rw [e, hr]
theorem canon_Of_eq (h : GHeap) (rs : List Int) (hs : Slim h) (hr : rs.length ≤ 1048576) : F_canon_Of h rs = some (ofS h rs) := by
  unfold F_canon_Of ofS
  rw [heap_May_eq h hs, ob_some]
  cases ho : dec (OkHeap h) with
  | false => rw [if_pos rfl, if_neg (by simp)]
  | true =>
    have o := dec_iff.1 ho
    have hn := o.small
    rw [if_neg (by simp), if_pos rfl]
    obtain ⟨r, e, hh⟩ := of_roots h rs (by unfold big; omega)
    rw [e, ob_some]
    cases r with
    | inl b =>
      obtain ⟨h1, rfl⟩ := hh
      rw [sm_inl, h1, if_neg (by simp)]
    | inr u =>
      have hro : rootsB h rs = true := hh
      have hrr := rootsB_iff.1 hro
      rw [sm_inr, hro, if_pos rfl]
      have h0 := all_eq rs [] h.n hn (by simp) (by simp) hrr hr h.Objs h.Cap h.Last [] 0 0
      have h0' : F_canon_walker_all_u0 rs h.Objs h.Cap h.Last [] 0 0 [] [] = some (rs.map (num (meets [] rs)), mkv 0 (meets [] rs), qs (meets [] rs)) := h0
      have hmd : (meets ([] : List Nat) rs).Nodup := nodup_meets _ (by simp)
      have hml : ∀ i ∈ meets ([] : List Nat) rs, i < h.n := fun i hi => by
        rcases (mem_meets _).1 hi with h1 | ⟨v, h1, h2⟩
        · cases h1
        · exact hasB_at (hrr v h1) h2
      rw [h0', ob_some, of_loop h o _ _ hmd hml, ob_some]
      have hb : bfs h.vals 256 0 (meets [] rs) = orderH h rs := rfl
      rw [hb]
      have hnum : rs.map (num (meets [] rs)) = rs.map (num (orderH h rs)) := List.map_congr_left fun v hv => by
        obtain ⟨e, he⟩ := (bfs_met o.fits 256 0 (meets [] rs) (by omega) (Nat.zero_le _) hmd hml).pre
        rw [← hb, he, num_pre (num_here hv)]
      rw [hnum]
      rfl
end Go.Pv

/- What is reached, numbered as it is met: the document's way. -/
namespace Go.Pv
end Go.Pv

/- What is reached, numbered as it is met: both ways answer alike; sameness but for numbers. -/
namespace Go.Pv
end Go.Pv

namespace Go.Pv
open Go Go.Proofs
set_option maxRecDepth 100000
set_option maxHeartbeats 0
set_option linter.unusedSimpArgs false
def ck0 : GHeap := { Objs := [{ Class := 0, Kind := 0, Slots := [], Text := { data := #[] }, Bits := 0, Hash := 1 }, { Class := 0, Kind := 0, Slots := [], Text := { data := #[] }, Bits := 0, Hash := 0 }, { Class := 0, Kind := 0, Slots := [4, 5, 0], Text := { data := #[] }, Bits := 0, Hash := 9 }], Cap := 3, Last := 7 }
def cw0 : GHeap := { Objs := [{ Class := 2, Kind := 0, Slots := [0, 5, 2], Text := { data := #[] }, Bits := 0, Hash := 9 }, { Class := 2, Kind := 0, Slots := [], Text := { data := #[] }, Bits := 0, Hash := 1 }], Cap := 3, Last := 7 }
def cg0 : GHeap := { Objs := [{ Class := 2, Kind := 0, Slots := [0, 5, 2], Text := { data := #[] }, Bits := 0, Hash := 9 }, { Class := 2, Kind := 0, Slots := [], Text := { data := #[] }, Bits := 0, Hash := 1 }], Cap := 9, Last := 0 }
end Go.Pv

/- Sameness but for numbers; the fixed calls; the law. -/
namespace Go.Pv
open Go Go.Proofs
theorem obj_ext (a b : GObj) : a = b ↔ a.Class = b.Class ∧ a.Kind = b.Kind ∧ a.Text = b.Text ∧ a.Bits = b.Bits ∧ a.Hash = b.Hash ∧ a.Slots = b.Slots := by
  cases a; cases b
  simp only [GObj.mk.injEq]
  constructor
  · rintro ⟨h1, h2, h3, h4, h5, h6⟩; exact ⟨h1, h2, h4, h5, h6, h3⟩
  · rintro ⟨h1, h2, h4, h5, h6, h3⟩; exact ⟨h1, h2, h3, h4, h5, h6⟩
theorem R03_One_eq (a b : GObj) (h : a.Slots.length ≤ big) : F_R03_One a b = some (decide (a = b)) := by
  unfold big at h
  unfold F_R03_One
  by_cases e1 : a.Class = b.Class
  case neg => simp [e1, obj_ext]
  by_cases e2 : a.Kind = b.Kind
  case neg => simp [e2, obj_ext]
  by_cases e3 : a.Text = b.Text
  case neg => simp [e3, obj_ext]
  by_cases e4 : a.Bits = b.Bits
  case neg => simp [e4, obj_ext]
  by_cases e5 : a.Hash = b.Hash
  case neg => simp [e5, obj_ext]
  by_cases e6 : (a.Slots.length : Int) = b.Slots.length
  case neg =>
    have : a.Slots ≠ b.Slots := fun e => e6 (by rw [e])
    simp [e6, obj_ext, this]
  simp only [if_pos e1, if_pos e2, if_pos e3, if_pos e4, if_pos e5, if_pos e6]
  rw [iter_same (a := a.Slots) (b := b.Slots) (by omega)]
  · simp [obj_ext, e1, e2, e3, e4, e5]
  · intro k h1 h2
    simp only [s0_R03_One, atI_nat _ k h1, atI_nat _ k h2]
    rw [if_pos (by omega), if_pos (by omega), if_pos (by omega)]
    rw [w64_id (by omega) (by omega)]; rfl
  · simp [s0_R03_One]
theorem heap_ext (a b : GHeap) : a = b ↔ a.Cap = b.Cap ∧ a.Last = b.Last ∧ a.Objs = b.Objs := by
  cases a; cases b
  simp only [GHeap.mk.injEq]
  constructor
  · rintro ⟨h1, h2, h3⟩; exact ⟨h2, h3, h1⟩
  · rintro ⟨h2, h3, h1⟩; exact ⟨h1, h2, h3⟩
theorem R03_Same_eq (a b : GHeap) (h : Slim a) : F_R03_Same a b = some (decide (a = b)) := by
  obtain ⟨hl, hs⟩ := h
  unfold big at hl
  unfold F_R03_Same
  by_cases e1 : a.Cap = b.Cap
  case neg => simp [e1, heap_ext]
  by_cases e2 : a.Last = b.Last
  case neg => simp [e2, heap_ext]
  by_cases e3 : (a.Objs.length : Int) = b.Objs.length
  case neg =>
    have : a.Objs ≠ b.Objs := fun e => e3 (by rw [e])
    simp [e3, heap_ext, this]
  rw [if_pos e1, if_pos e2, if_pos e3, iter_same (a := a.Objs) (b := b.Objs) (by omega)]
  · simp [heap_ext, e1, e2]
  · intro k h1 h2
    have ho := R03_One_eq a.Objs[k] b.Objs[k] (by have := hs _ (List.getElem_mem h1); omega)
    simp only [s0_R03_Same, atI_nat _ k h1, atI_nat _ k h2]
    rw [if_pos (by omega), if_pos (by omega), if_pos (by omega), w64_id (by omega) (by omega), ho, ob_some]
    by_cases e : a.Objs[k] = b.Objs[k] <;> simp [e]
  · simp [s0_R03_Same]
theorem R03_Small_ex (h : GHeap) (hl : h.Objs.length ≤ big) : ∃ b, F_R03_Small h = some b := by
  unfold big at hl
  unfold F_R03_Small
  obtain ⟨r, e, _⟩ := iter_post (S := fun p : Int × Int => s0_R03_Small h.Objs h.Cap h.Last p.fst p.snd) (fun p => h.Objs.length - p.2.toNat) (fun p => ∃ k : Nat, p.2 = k ∧ k ≤ h.Objs.length) (fun _ => True) (fun p hp => by
    obtain ⟨n, i⟩ := p
    obtain ⟨k, hk, hle⟩ := hp
    simp only at hk
    subst hk
    simp only [s0_R03_Small]
    by_cases h1 : (k : Int) < h.Objs.length
    · rw [if_pos h1]
      by_cases h2 : n < 5000
      · rw [if_pos h2, if_pos (by omega), if_pos (by omega), w64_id (n := (k : Int) + 1) (by omega) (by omega)]
        exact .inl ⟨_, rfl, ⟨k + 1, rfl, by omega⟩, by simp; omega⟩
      · rw [if_neg h2]; exact .inr ⟨_, rfl, trivial⟩
    · rw [if_neg h1]; exact .inr ⟨_, rfl, trivial⟩) ((0 : Int), (0 : Int)) ⟨0, rfl, Nat.zero_le _⟩
  rw [e, ob_some]
  split <;> exact ⟨_, rfl⟩
theorem Equal_eq (a b : List Int) (hl : a.length ≤ big) : F_slices_Equal_110 a b = some (decide (a = b)) := by
  unfold big at hl
  unfold F_slices_Equal_110
  by_cases h : a.length = b.length
  case neg =>
    rw [if_neg (by omega)]
    have : a ≠ b := fun e => h (by rw [e])
    simp [this]
  rw [if_pos (by omega)]
  obtain ⟨r, e, hr⟩ := iter_allI a.length (fun k => decide (atN a k = atN b k)) (S := fun p => s0_slices_Equal_110 a b (a.length : Int) p) (fun _ => false) (fun k hk => by
    simp only [s0_slices_Equal_110, atI_nat _ k hk, atI_nat b k (h ▸ hk)]
    rw [if_pos (by omega), if_pos (by omega), if_pos (by omega), w64_id (by omega) (by omega), atN_get a k hk, atN_get b k (h ▸ hk)]
    by_cases e : a[k] = b[k]'(h ▸ hk)
    · rw [if_pos e]; simp [e]
    · rw [if_neg e]; simp [e]) (by simp [s0_slices_Equal_110])
  rw [e, ob_some]
  cases r with
  | inl v =>
    obtain ⟨k, hk, rfl, hf, _⟩ := hr
    rw [sm_inl]
    have : a ≠ b := fun e => by subst e; simp at hf
    simp [this]
  | inr u =>
    rw [sm_inr]
    have : a = b := List.ext_getElem h fun k h1 h2 => by
      have h3 : ∀ k, k < a.length → decide (atN a k = atN b k) = true := hr
      have := h3 k h1
      rw [atN_get a k h1, atN_get b k h2] at this
      simpa using this
    simp [this]
theorem one_eq (o u : GObj) (h : o.Slots.length ≤ big) : F_canon_Same_1 o u = some (decide (o = u)) := by
  unfold F_canon_Same_1
  have hx : o = u ↔ o.Class = u.Class ∧ o.Kind = u.Kind ∧ o.Text = u.Text ∧ o.Bits = u.Bits ∧ o.Hash = u.Hash ∧ o.Slots = u.Slots := by
    cases o; cases u
    simp only [GObj.mk.injEq]
    constructor
    · rintro ⟨a, b, c, d, e, f⟩; exact ⟨a, b, d, e, f, c⟩
    · rintro ⟨a, b, c, d, e, f⟩; exact ⟨a, b, f, c, d, e⟩
  by_cases h1 : o.Class = u.Class
  case neg => rw [if_neg h1]; simp [hx, h1]
  by_cases h2 : o.Kind = u.Kind
  case neg => rw [if_pos h1, if_neg h2]; simp [hx, h2]
  by_cases h3 : o.Text = u.Text
  case neg => rw [if_pos h1, if_pos h2, if_neg h3]; simp [hx, h3]
  by_cases h4 : o.Bits = u.Bits
  case neg => rw [if_pos h1, if_pos h2, if_pos h3, if_neg h4]; simp [hx, h4]
  by_cases h5 : o.Hash = u.Hash
  case neg => rw [if_pos h1, if_pos h2, if_pos h3, if_pos h4, if_neg h5]; simp [hx, h5]
  rw [if_pos h1, if_pos h2, if_pos h3, if_pos h4, if_pos h5, Equal_eq _ _ h, ob_some]
  simp [hx, h1, h2, h3, h4, h5]
theorem EqualFunc_eq (a b : List GObj) (hl : a.length ≤ big) (hs : ∀ o ∈ a, o.Slots.length ≤ big) : F_slices_EqualFunc_111_u0 a b = some (decide (a = b)) := by
  unfold big at hl
  unfold F_slices_EqualFunc_111_u0
  by_cases h : a.length = b.length
  case neg =>
    rw [if_neg (by omega)]
    have : a ≠ b := fun e => h (by rw [e])
    simp [this]
  rw [if_pos (by omega)]
  obtain ⟨r, e, hr⟩ := iter_allI a.length (fun k => decide (atN a k = atN b k)) (S := fun p => s0_slices_EqualFunc_111_u0 b a (a.length : Int) p) (fun _ => false) (fun k hk => by
    simp only [s0_slices_EqualFunc_111_u0, atI_nat _ k hk, atI_nat b k (h ▸ hk)]
    have e1 := one_eq a[k] (b[k]'(h ▸ hk)) (hs _ (List.getElem_mem hk))
    rw [if_pos (by omega), if_pos (by omega), if_pos (by omega), w64_id (by omega) (by omega), atN_get a k hk, atN_get b k (h ▸ hk)]
    rw [e1, ob_some]
    by_cases e : a[k] = b[k]'(h ▸ hk)
    · simp [e]
    · simp [e]) (by simp [s0_slices_EqualFunc_111_u0])
  rw [e, ob_some]
  cases r with
  | inl v =>
    obtain ⟨k, hk, rfl, hf, _⟩ := hr
    rw [sm_inl]
    have : a ≠ b := fun e => by subst e; simp at hf
    simp [this]
  | inr u =>
    rw [sm_inr]
    have : a = b := List.ext_getElem h fun k h1 h2 => by
      have h3 : ∀ k, k < a.length → decide (atN a k = atN b k) = true := hr
      have := h3 k h1
      rw [atN_get a k h1, atN_get b k h2] at this
      simpa using this
    simp [this]
theorem c00 : canonF 0 = 0 := by
  unfold canonF nanB
  rw [w64_id (by omega) (by omega)]
  decide
theorem ofS_ok {h : GHeap} {rs : List Int} {l : List Nat} (o : OkHeap h) (hr : rootsB h rs = true) (hl : orderH h rs = l) : ofS h rs = (h.by l, rs.map (num l), 0) := by
  unfold ofS
  rw [dec_true o, if_pos rfl, if_pos hr, hl]
end Go.Pv

/- Sameness but for numbers is mutual, goes on, and asks for each root once. -/
namespace Go.Pv
open Go Go.Proofs
theorem ofS_slim (h : GHeap) (l : List Int) (hs : Slim h) (hl : l.length ≤ 1048576) : Slim (ofS h l).1 ∧ (ofS h l).2.1.length ≤ big := by
  unfold ofS
  by_cases ho : OkHeap h
  · rw [dec_true ho, if_pos rfl]
    by_cases hro : rootsB h l = true
    · rw [if_pos hro]
      have ord := order_ok ho.small ho.fits (rootsB_iff.1 hro)
      have hlen := nodup_len h.n _ ord.nodup ord.lt
      have hn := ho.small
      refine ⟨⟨?_, fun o' hm => ?_⟩, ?_⟩
      · show (List.map _ (orderH h l)).length ≤ big
        rw [List.length_map]
        have : (orderH h l).length ≤ h.n := hlen
        unfold big; omega
      · obtain ⟨i, hi, rfl⟩ := List.mem_map.1 hm
        have hin : i < h.Objs.length := ord.lt i hi
        rw [atN_get _ _ hin]
        have := hs.2 _ (List.getElem_mem hin)
        simpa [GObj.by] using this
      · show (List.map _ l).length ≤ big
        rw [List.length_map]; unfold big; omega
    · rw [if_neg hro]
      exact ⟨⟨by simp [big], fun o ho => by cases ho⟩, by simp [big]⟩
  · rw [dec_false ho, if_neg (by simp)]
    exact ⟨⟨by simp [big], fun o ho => by cases ho⟩, by simp [big]⟩
def SameC (x : GHeap) (p : List Int) (y : GHeap) (q : List Int) : Prop := (ofS x p).2.2 = 0 ∧ (ofS y q).2.2 = 0 ∧ (ofS x p).2.1 = (ofS y q).2.1 ∧ (ofS x p).1.Objs = (ofS y q).1.Objs
open Classical in
noncomputable def sameC (x : GHeap) (p : List Int) (y : GHeap) (q : List Int) : Bool := decide (SameC x p y q)
theorem canon_Same_eq (x : GHeap) (p : List Int) (y : GHeap) (q : List Int) (hx : Slim x) (hy : Slim y) (hp : p.length ≤ 1048576) (hq : q.length ≤ 1048576) : F_canon_Same x p y q = some (sameC x p y q) := by
  unfold F_canon_Same sameC SameC
  obtain ⟨s1, s2⟩ := ofS_slim x p hx hp
  rw [canon_Of_eq x p hx hp, ob_some, canon_Of_eq y q hy hq, ob_some]
  by_cases h1 : (ofS x p).2.2 = 0
  case neg => rw [if_neg h1]; simp [h1]
  by_cases h2 : (ofS y q).2.2 = 0
  case neg => rw [if_pos h1, if_neg h2]; simp [h2]
  rw [if_pos h1, if_pos h2, Equal_eq _ _ s2, ob_some]
  by_cases h3 : (ofS x p).2.1 = (ofS y q).2.1
  case neg => rw [decide_eq_false h3, if_neg (by simp)]; simp [h3]
  rw [decide_eq_true h3, if_pos rfl, EqualFunc_eq _ _ s1.1 (fun o ho => by have := s1.2 o ho; omega), ob_some]
  simp [h1, h2, h3]
theorem sameC_iff {x : GHeap} {p : List Int} {y : GHeap} {q : List Int} : sameC x p y q = true ↔ SameC x p y q := by unfold sameC; simp
theorem sameC_same {h g : GHeap} {rs qs : List Int} (o : OkHeap h) (r : rootsB h rs = true) (o' : OkHeap g) (r' : rootsB g qs = true) : sameC h rs g qs = true ↔ SameH h rs g qs := by
  rw [sameC_iff, same_told o (rootsB_iff.1 r) o' (rootsB_iff.1 r')]
  unfold SameC
  rw [ofS_ok o r rfl, ofS_ok o' r' rfl]
  constructor
  · rintro ⟨_, _, h3, h4⟩; exact ⟨h4, h3⟩
  · rintro ⟨h3, h4⟩; exact ⟨rfl, rfl, h4, h3⟩
def rootedD (h : GHeap) (r : List Int) : D := D.agg [D.t (T.sl 6 (els h.Objs)), I h.Cap, I h.Last, D.t (T.sl 1 (els r))]
theorem byO_slim {h : GHeap} (hs : Slim h) (o : OkHeap h) {l : List Nat} (hl : ∀ x ∈ l, x < h.n) (hd : l.Nodup) : Slim (h.by l) := by
  have hlen := nodup_len h.n l hd hl
  have hn := o.small
  refine ⟨?_, fun o' hm => ?_⟩
  · show (List.map _ l).length ≤ big
    rw [List.length_map]; unfold big; omega
  · obtain ⟨i, hi, rfl⟩ := List.mem_map.1 hm
    have hin : i < h.Objs.length := hl i hi
    rw [atN_get _ _ hin]
    have := hs.2 _ (List.getElem_mem hin)
    simpa [GObj.by] using this
end Go.Pv

namespace Go.Pv
open Go Go.Proofs
set_option maxRecDepth 100000
set_option maxHeartbeats 0
set_option linter.unusedSimpArgs false
def mk0 : GHeap := { Objs := [{ Class := 0, Kind := 0, Slots := [], Text := { data := #[] }, Bits := 0, Hash := 0 }, { Class := 2, Kind := 0, Slots := [7], Text := { data := #[] }, Bits := 0, Hash := 0 }, { Class := 0, Kind := 0, Slots := [2], Text := { data := #[] }, Bits := 0, Hash := 0 }], Cap := 3, Last := 0 }
end Go.Pv

/- What is reached: asked for, and the fixed calls. -/
namespace Go.Pv
open Go Go.Proofs
theorem marks_round (h : GHeap) (rs : List Int) : marks h.n h.vals rs = roundN h (rs.foldl (set1 h.n) (List.replicate h.n false)) h.n := by
  have hl0 : (rs.foldl (set1 h.n) (List.replicate h.n false)).length = h.n := by rw [sets_len]; simp
  refine (marks_of (by rw [roundN_len, hl0]) fun i => ?_).symm
  refine rounds (fun k => roundN h (rs.foldl (set1 h.n) (List.replicate h.n false)) k) (fun k => by rw [roundN_len, hl0]) (fun i => ?_) (fun k _ j => ?_) i
  · show isM (rs.foldl (set1 h.n) (List.replicate h.n false)) i = true ↔ _
    rw [sets_is _ _ (by simp)]
    have : isM (List.replicate h.n false) i = false := by
      simp [isM, List.getD_eq_getElem?_getD, List.getElem?_replicate]
      split <;> rfl
    simp [this]
  · exact nearS_is (by rw [roundN_len, hl0]) j
theorem liveI_round (h : GHeap) (rs : List Int) : liveI h rs = idxs (roundN h (rs.foldl (set1 h.n) (List.replicate h.n false)) h.n) := by
  rw [← marks_round]; rfl
noncomputable def hasS (h : GHeap) (rs : List Int) (v : Int) : Bool := (atP v).2 && decide ((atP v).1 ∈ (liveS h rs).1)
end Go.Pv

/- Values by a table, both ways. -/
namespace Go.Pv
theorem getD_get {l : List Int} {i : Nat} (h : i < l.length) (d : Int) : l.getD i d = l[i] := by
  rw [List.getD_eq_getElem?_getD, List.getElem?_eq_getElem h, Option.getD_some]
theorem move_Value_eq (t : List Int) (v : Int) : F_move_Value t v = some (valP t v) := by
  unfold F_move_Value valP
  rw [value_At_eq, ob_some]
  unfold atP
  cases e : at? v with
  | none =>
    simp only [if_true]
    rw [value_N_eq, ob_some, nP_snd]
    cases (n? v).isSome <;> simp
  | some i =>
    simp only
    rw [if_neg (by simp)]
    by_cases h : i < t.length
    · rw [if_neg (by omega), if_pos (by omega), if_pos h, atI_nat _ i h, value_Ref_eq, ob_some, getD_get h]
      rfl
    · rw [if_pos (by omega), if_neg h]
theorem move_moved_eq (t l : List Int) (hl : l.length ≤ 1048576) : F_move_moved t l = some (l.map fun v => (valP t v).1) := by
  unfold F_move_moved
  rw [if_pos (by unfold most; omega)]
  have loop := iter_acc (S := fun p : List Int × Int => s0_move_moved t l (l.length : Int) p.fst p.snd) (fun k => ((l.take k).map (fun v => (valP t v).1) ++ List.replicate (l.length - k) 0, (k : Int))) l.length (b := l.map fun v => (valP t v).1) (fun k hk => by
    have hlo : ((l.take k).map fun v => (valP t v).1).length = k := by rw [List.length_map, List.length_take]; omega
    have hlen : ((l.take k).map (fun v => (valP t v).1) ++ List.replicate (l.length - k) 0).length = l.length := by rw [List.length_append, hlo, List.length_replicate]; omega
    simp only [s0_move_moved, atI_nat _ k hk]
    rw [if_pos (by omega), if_pos (by omega), move_Value_eq, ob_some, if_pos (by rw [hlen]; omega), if_pos (by rw [hlen]; omega), w64_id (by omega) (by omega)]
    have er : l.length - k = l.length - (k + 1) + 1 := by omega
    have hset : ((l.take k).map (fun v => (valP t v).1) ++ List.replicate (l.length - k) 0).set ((k : Int)).toNat (valP t l[k]).1 = (l.take (k + 1)).map (fun v => (valP t v).1) ++ List.replicate (l.length - (k + 1)) 0 := by
      rw [List.take_succ_eq_append_getElem hk, List.map_append, Int.toNat_natCast, List.set_append_right _ _ (by omega), hlo, Nat.sub_self, er, List.replicate_succ]
      simp
    rw [hset]
    rfl) (by
    simp only [s0_move_moved]
    rw [if_neg (by omega), List.take_length, Nat.sub_self]
    simp)
  have loop' : iterO (fun p : List Int × Int => s0_move_moved t l (l.length : Int) p.fst p.snd) (List.replicate l.length 0, (0 : Int)) = some (l.map fun v => (valP t v).1) := by simpa using loop
  rw [loop', ob_some]
end Go.Pv

/- slices.Repeat of one number. -/
namespace Go.Pv
theorem wrapU (a : Int) (h1 : 0 ≤ a) (h2 : a < 18446744073709551616) : IntKind.u64.wrap a = a := by
  simp [IntKind.wrap, IntKind.bits, IntKind.signed]
  omega
theorem bAndU (a : Nat) (h : a < 4294967296) : bAnd IntKind.u64 (a : Int) 4294967295 = a := by
  have e : (BitVec.ofInt IntKind.u64.bits (a : Int) &&& BitVec.ofInt IntKind.u64.bits 4294967295).toNat = a := by
    show (BitVec.ofInt 64 (a : Int) &&& BitVec.ofInt 64 4294967295).toNat = _
    rw [BitVec.toNat_and, BitVec.toNat_ofInt, BitVec.toNat_ofInt]
    have e1 : ((a : Int) % ((2 ^ 64 : Nat) : Int)).toNat = a := by omega
    have e2 : ((4294967295 : Int) % ((2 ^ 64 : Nat) : Int)).toNat = 2 ^ 32 - 1 := by decide
    rw [e1, e2, Nat.and_two_pow_sub_one_eq_mod, Nat.mod_eq_of_lt (by omega)]
  unfold bAnd
  rw [e]
  exact wrapU _ (by omega) (by omega)
theorem iShrU (a : Nat) (h : a < 4294967296) : iShr IntKind.u64 (a : Int) 32 = 0 := by
  show (a : Int).fdiv (2 ^ (min (32 : Int).toNat 64)) = 0
  rw [show (2 : Int) ^ (min (32 : Int).toNat 64) = 4294967296 from by decide, Int.fdiv_eq_ediv_of_nonneg _ (by omega)]
  omega
theorem Mul_eq (n : Nat) (h : n < 4294967296) : F_math_bits_Mul 1 (n : Int) = some (0, (n : Int)) := by
  unfold F_math_bits_Mul F_math_bits_Mul64
  have a1 : bAnd IntKind.u64 1 4294967295 = 1 := bAndU 1 (by omega)
  have a2 : iShr IntKind.u64 1 32 = 0 := iShrU 1 (by omega)
  have a3 := bAndU n h
  have a4 := iShrU n h
  have w0 : IntKind.u64.wrap 0 = 0 := wrapU 0 (by omega) (by omega)
  have wn : IntKind.u64.wrap (n : Int) = n := wrapU n (by omega) (by omega)
  have b0 : bAnd IntKind.u64 0 4294967295 = 0 := bAndU 0 (by omega)
  have s0 : iShr IntKind.u64 0 32 = 0 := iShrU 0 (by omega)
  rw [ob_some]
  simp only [a1, a2, a3, a4, Int.zero_mul, Int.mul_zero, Int.one_mul, w0, wn, Int.zero_add, Int.add_zero, b0, s0]
theorem rep_step (n m : Nat) (h1 : 1 ≤ m) (h2 : m < n) :
    s0_slices_Repeat_127 (List.replicate m (-1) ++ List.replicate (n - m) 0) (m : Int) = some (.inl (List.replicate (m + min m (n - m)) (-1) ++ List.replicate (n - (m + min m (n - m))) 0, ((m + min m (n - m) : Nat) : Int))) ∨ 1048576 < n := by
  rcases Nat.lt_or_ge 1048576 n with hb | hb
  · exact .inr hb
  left
  have hl : (List.replicate m (-1 : Int) ++ List.replicate (n - m) 0).length = n := by simp; omega
  unfold s0_slices_Repeat_127
  rw [hl, if_pos (by omega), if_pos (by omega), if_pos (by omega), if_pos (by omega), if_pos (by omega)]
  have e1 : (m : Int).toNat = m := by omega
  have e2 : ((n : Int) - (m : Int)).toNat = n - m := by omega
  have e3 : min m (min n (n - m)) = min m (n - m) := by omega
  rw [e1, e2, e3, w64_id (by omega) (by omega)]
  have t1 : List.take m (List.replicate m (-1 : Int) ++ List.replicate (n - m) 0) = List.replicate m (-1) := by
    rw [List.take_append_of_le_length (by simp)]; simp
  have t2 : List.take (n - m) (List.replicate m (-1 : Int)) = List.replicate (min m (n - m)) (-1) := by
    rw [List.take_replicate, Nat.min_comm]
  have t3 : List.drop (m + min m (n - m)) (List.replicate m (-1 : Int) ++ List.replicate (n - m) 0) = List.replicate (n - (m + min m (n - m))) 0 := by
    rw [List.drop_append, List.length_replicate, List.drop_eq_nil_of_le (by simp), List.nil_append, List.drop_replicate]
    congr 1
    omega
  rw [t1, t2, t3, ← List.append_assoc, List.replicate_append_replicate]
  rfl
theorem Repeat_eq (n : Nat) (hn : n ≤ 1048576) : F_slices_Repeat_127 [-1] (n : Int) = some (List.replicate n (-1)) := by
  unfold F_slices_Repeat_127
  have e1 : IntKind.u64.wrap (([-1] : List Int).length : Int) = 1 := wrapU 1 (by omega) (by omega)
  have e2 : IntKind.u64.wrap (n : Int) = n := wrapU n (by omega) (by omega)
  have e3 : w64 (n : Int) = n := w64_id (by omega) (by omega)
  rw [if_neg (by omega), e1, e2, Mul_eq n (by omega), ob_some, if_pos (by omega), if_neg (by simp only; omega)]
  simp only [e3]
  rw [if_pos (by unfold most; omega), if_pos (by omega)]
  have e4 : (n : Int).toNat = n := by omega
  rw [e4]
  obtain ⟨r, h1, h2⟩ := iter_post (S := fun p : List Int × Int => s0_slices_Repeat_127 p.fst p.snd) (fun p => n - p.2.toNat)
    (fun p => ∃ m : Nat, p = (List.replicate m (-1) ++ List.replicate (n - m) 0, (m : Int)) ∧ m ≤ n ∧ (1 ≤ m ∨ n = 0)) (fun r => r = List.replicate n (-1)) (fun p hp => by
      obtain ⟨m, rfl, hm, h1⟩ := hp
      by_cases hlt : m < n
      · refine .inl ⟨_, (rep_step n m (by omega) hlt).resolve_right (by omega), ⟨m + min m (n - m), rfl, by omega, .inl (by omega)⟩, ?_⟩
        simp only; omega
      · have : m = n := by omega
        subst this
        refine .inr ⟨_, ?_, rfl⟩
        simp [s0_slices_Repeat_127]) (List.take n [-1] ++ List.replicate (n - min ([-1] : List Int).length n) 0, (↑(min ([-1] : List Int).length n) : Int)) (by
      refine ⟨min 1 n, ?_, by omega, by omega⟩
      cases n with
      | zero => simp
      | succ k =>
        have : min 1 (k + 1) = 1 := by omega
        simp [this])
  rw [h1, ob_some, h2]
end Go.Pv

/- Compaction: the program's functions in plain words. -/
namespace Go.Pv
noncomputable def tableS (h : GHeap) (rs : List Int) : List Int × Int :=
  if dec (OkHeap h) = true then if rootsB h rs = true then (tab h.n (liveH h rs), 0) else ([], 31) else ([], 1)
noncomputable def compS (h : GHeap) (rs : List Int) : GHeap × List Int × Int :=
  if dec (OkHeap h) = true then if rootsB h rs = true then (h.by (liveH h rs), rs.map (num (liveH h rs)), 0) else (⟨[], 0, 0⟩, [], 31) else (⟨[], 0, 0⟩, [], 1)
theorem get_notin {l : List Nat} (hd : l.Nodup) {k : Nat} (hk : k < l.length) : l[k] ∉ l.take k := by
  have h := hd.sublist (List.take_sublist (k + 1) l)
  rw [List.take_succ_eq_append_getElem hk] at h
  intro hm
  exact (List.nodup_append.1 h).2.2 _ hm _ (List.mem_singleton.2 rfl) rfl
theorem table_loop (n : Nat) (l : List Nat) (hn : n ≤ 256) (hd : l.Nodup) (hl : ∀ x ∈ l, x < n) :
    iterO (fun p : List Int × Int => s0_move_Table (l.map Int.ofNat) ((l.map Int.ofNat).length : Int) p.fst p.snd) (List.replicate n (-1), (0 : Int)) = some (tab n l) := by
  have hlen := nodup_len n l hd hl
  have loop := iter_acc (S := fun p : List Int × Int => s0_move_Table (l.map Int.ofNat) ((l.map Int.ofNat).length : Int) p.fst p.snd) (fun k => (tab n (l.take k), (k : Int))) l.length (b := tab n l) (fun k hk => by
    have hq : atI (l.map Int.ofNat) (k : Int) = ((l[k] : Nat) : Int) := by
      rw [atI_nat _ k (by rw [List.length_map]; exact hk), List.getElem_map]
      rfl
    have hlt := hl _ (List.getElem_mem hk)
    have ht : (l.take k).length = k := by rw [List.length_take]; omega
    have e := tab_snoc (n := n) (get_notin hd hk)
    rw [ht] at e
    simp only [s0_move_Table, hq, List.length_map]
    rw [if_pos (by omega), if_pos (by omega), if_pos (by rw [tab_len]; omega), if_pos (by rw [tab_len]; omega), w64_id (by omega) (by omega), Int.toNat_natCast, List.take_succ_eq_append_getElem hk, e]
    rfl) (by
    simp only [s0_move_Table, List.length_map]
    rw [if_neg (by omega), List.take_length])
  have loop' := loop
  simp only [List.take_zero, tab_nil] at loop'
  exact loop'
theorem move_Table_eq (h : GHeap) (rs : List Int) (hs : Slim h) (hr : rs.length ≤ big) : F_move_Table h rs = some (tableS h rs) := by
  unfold F_move_Table tableS
  rw [mark_Live_eq h rs hs hr, ob_some]
  unfold liveS
  cases ho : dec (OkHeap h) with
  | false => simp
  | true =>
    have o := dec_iff.1 ho
    cases hro : rootsB h rs with
    | false => simp
    | true =>
      have hn := o.small
      have en : GHeap.n h = h.Objs.length := rfl
      simp only [if_true]
      rw [Repeat_eq h.Objs.length (by omega), ob_some]
      have := table_loop h.n (liveH h rs) hn (live_sorted.imp fun h => Nat.ne_of_lt h) live_lt
      unfold liveI
      rw [show iterO (fun p : List Int × Int => s0_move_Table ((liveH h rs).map Int.ofNat) (((liveH h rs).map Int.ofNat).length : Int) p.fst p.snd) (List.replicate h.Objs.length (-1), (0 : Int)) = _ from this, ob_some]
theorem comp_loop (h : GHeap) (o : OkHeap h) (rs : List Int) (l : List Nat) (sh : Shut h.n h.vals rs l) (hf : (List.range h.n).filter (fun i => decide (i ∈ l)) = l) (rs' : List Int) :
    iterO (fun p : Int × List GObj => s0_move_Compact rs' (tab h.n l) h.Objs (h.Objs.length : Int) [] 0 0 h.Cap h.Last p.fst p.snd) ((0 : Int), []) = some (h.by l).Objs := by
  have hn := o.small
  have en : GHeap.n h = h.Objs.length := rfl
  have hll := sh.len
  have loop := iter_acc (S := fun p : Int × List GObj => s0_move_Compact rs' (tab h.n l) h.Objs (h.Objs.length : Int) [] 0 0 h.Cap h.Last p.fst p.snd) (fun k => ((k : Int), ((List.range k).filter fun i => decide (i ∈ l)).map fun i => (atN h.Objs i).by l)) h.Objs.length (b := (h.by l).Objs) (fun k hk => by
    have hlen : (((List.range k).filter fun i => decide (i ∈ l)).map fun i => (atN h.Objs i).by l).length ≤ k := by
      rw [List.length_map]
      exact Nat.le_trans (List.length_filter_le _ _) (by simp)
    have ht : atI (tab h.n l) (k : Int) = newNo l k := by
      rw [atI_nat _ k (by rw [tab_len]; exact hk)]
      simp [tab]
    have ho := o.objs _ (List.getElem_mem hk)
    have hobjN : atN h.Objs k = h.Objs[k] := atN_get _ _ hk
    simp only [s0_move_Compact, atI_nat _ k hk, ht]
    rw [if_pos (by omega), if_pos (by omega), if_pos (by rw [tab_len]; omega), w64_id (by omega) (by omega), List.range_succ, List.filter_append, List.map_append]
    unfold newNo
    by_cases hm : k ∈ l
    · have hvals : h.vals k = h.Objs[k].Class :: h.Objs[k].Slots := vals_obj h k hk
      have hcl := sh.closed k hm
      rw [hvals] at hcl
      have hc : valP (tab h.n l) h.Objs[k].Class = (num l h.Objs[k].Class, true) := valP_tab (by omega) (ho.vals _ (List.mem_cons_self ..)) (hcl _ (List.mem_cons_self ..))
      have hsl : h.Objs[k].Slots.map (fun v => (valP (tab h.n l) v).1) = h.Objs[k].Slots.map (num l) := vals_tab (by omega) ho.slots fun v hv => hcl v (List.mem_cons_of_mem _ hv)
      rw [if_pos hm, if_neg (by omega), move_Value_eq, ob_some, move_moved_eq _ _ (by have := ho.nslots; omega), ob_some, hc, hsl, if_pos (by unfold most; omega)]
      simp only [List.filter_cons, hm, decide_true, if_true, List.filter_nil, List.map_cons, List.map_nil, hobjN, GObj.by]
      rfl
    · rw [if_neg hm, if_pos rfl]
      simp only [List.filter_cons, hm, decide_false, Bool.false_eq_true, if_false, List.filter_nil, List.map_nil, List.append_nil]
      rfl) (by
    simp only [s0_move_Compact]
    rw [if_neg (by omega), ← en, hf]
    rfl)
  simpa using loop
theorem move_Compact_eq (h : GHeap) (rs : List Int) (hs : Slim h) (hr : rs.length ≤ 1048576) : F_move_Compact h rs = some (compS h rs) := by
  unfold F_move_Compact compS
  rw [move_Table_eq h rs hs (by unfold big; omega), ob_some]
  unfold tableS
  cases ho : dec (OkHeap h) with
  | false => simp
  | true =>
    have o := dec_iff.1 ho
    cases hro : rootsB h rs with
    | false => simp
    | true =>
      have hrr := rootsB_iff.1 hro
      have sh := liveShut o hrr
      have hn := o.small
      have hll := sh.len
      simp only [if_true]
      rw [comp_loop h o rs (liveH h rs) sh live_filter rs, ob_some, move_moved_eq _ _ hr, ob_some, vals_tab (by omega) hrr sh.roots]
      rfl
end Go.Pv

/- Compaction: the fixed calls. -/
namespace Go.Pv
open Go Go.Proofs
theorem liveI_inj {h : GHeap} {rs : List Int} {l : List Nat} (e : liveI h rs = l.map Int.ofNat) : liveH h rs = l := by
  unfold liveI at e
  refine List.ext_getElem (by simpa using congrArg List.length e) fun i h1 h2 => ?_
  have := congrArg (fun l => l[i]?) e
  simp only [List.getElem?_map, List.getElem?_eq_getElem h1, List.getElem?_eq_getElem h2, Option.map_some, Option.some.injEq] at this
  have h3 : (((liveH h rs)[i] : Nat) : Int) = ((l[i] : Nat) : Int) := this
  omega
end Go.Pv
