/- A part of the road: the interpreter of plain data and the proof that it is right. -/
import Derived.Test.YtnleijomgjhplaaM7
import Derived.Test.YtnleijomgjhplaaR7
import Derived.Test.YtnleijomgjhplaaN7
set_option linter.unusedVariables false
set_option linter.unusedSimpArgs false
/- Objects that change places: the document's functions in plain words. -/
namespace Go.Pv
theorem idx_leI : ∀ (m : List Int) (i : Int) (k : Nat) (hk : k < m.length), m[k] = i → m.idxOf i ≤ k
  | [], _, _, hk, _ => by simp at hk
  | j :: l, i, 0, _, h => by
    have h' : j = i := h
    subst h'
    simp
  | j :: l, i, k + 1, hk, h => by
    rw [List.idxOf_cons]
    by_cases e : j = i
    · subst e; simp
    · have e' : (j == i) = false := by simpa using e
      rw [e', cond_false]
      have := idx_leI l i k (by simpa using hk) h
      omega
theorem place_eqI (m : List Int) (i : Int) (hm : m.length ≤ 1048576) : F_R06_place m i = some (if i ∈ m then (m.idxOf i : Int) else -1) := by
  unfold F_R06_place
  obtain ⟨r, e, hr⟩ := iter_allI m.length (fun k => decide (atN m k ≠ i)) (S := fun p => s0_R06_place m i p) (fun k => (k : Int)) (fun k hk => by
    simp only [s0_R06_place, atI_nat _ k hk]
    rw [if_pos (by omega), if_pos (by omega), atN_get m k hk, w64_id (by omega) (by omega)]
    by_cases h : m[k] = i
    · rw [if_pos h]; simp [h]
    · rw [if_neg h]; simp [h]) (by simp [s0_R06_place])
  rw [e, ob_some]
  cases r with
  | inl b =>
    obtain ⟨k, hk, rfl, hf, ht⟩ := hr
    rw [sm_inl]
    rw [atN_get m k hk] at hf
    have hki : m[k] = i := by simpa using hf
    have hmem : i ∈ m := hki ▸ List.getElem_mem hk
    have hx : m.idxOf i = k := by
      have h1 := List.idxOf_lt_length_of_mem hmem
      have h2 : m[m.idxOf i] = i := List.getElem_idxOf h1
      rcases Nat.lt_trichotomy (m.idxOf i) k with h3 | h3 | h3
      · have := ht _ h3
        rw [atN_get m _ h1] at this
        simp [h2] at this
      · exact h3
      · have := idx_leI m i k hk hki
        omega
    rw [if_pos hmem, hx]
  | inr u =>
    rw [sm_inr]
    have : i ∉ m := fun hm => by
      obtain ⟨k, hk, rfl⟩ := List.getElem_of_mem hm
      have h2 : ∀ k, k < m.length → decide (atN m k ≠ _) = true := hr
      have := h2 k hk
      rw [atN_get m k hk] at this
      simp at this
    rw [if_neg this]
def permB (to : List Int) (n : Nat) : Bool := ((List.range n).all fun k => decide (((k : Nat) : Int) ∈ to)) && decide (to.length = n)
theorem permB_iff {to : List Int} {n : Nat} : permB to n = true ↔ (∀ k, k < n → ((k : Nat) : Int) ∈ to) ∧ to.length = n := by
  unfold permB
  rw [Bool.and_eq_true, List.all_eq_true, decide_eq_true_eq]
  constructor
  · rintro ⟨h1, h2⟩
    exact ⟨fun k hk => by simpa using h1 k (List.mem_range.2 hk), h2⟩
  · rintro ⟨h1, h2⟩
    exact ⟨fun k hk => by simpa using h1 k (List.mem_range.1 hk), h2⟩
theorem Perm_eq (to : List Int) (n : Nat) (hl : to.length ≤ 1048576) (hn : n ≤ 1048576) : F_R06_Perm to (n : Int) = some (permB to n) := by
  unfold F_R06_Perm
  obtain ⟨r, e, hr⟩ := iter_allI n (fun k => decide (((k : Nat) : Int) ∈ to)) (S := fun p => s0_R06_Perm to (n : Int) p) (fun _ => false) (fun k hk => by
    simp only [s0_R06_Perm]
    rw [if_pos (by omega), place_eqI to _ hl, ob_some, w64_id (by omega) (by omega)]
    by_cases h : ((k : Nat) : Int) ∈ to
    · rw [if_pos h, if_neg (by omega)]; simp [h]
    · rw [if_neg h, if_pos (by omega)]; simp [h]) (by simp [s0_R06_Perm])
  rw [e, ob_some]
  cases r with
  | inl b =>
    obtain ⟨k, hk, rfl, hf, _⟩ := hr
    rw [sm_inl]
    have : permB to n = false := by
      cases hp : permB to n with
      | false => rfl
      | true =>
        have := (permB_iff.1 hp).1 k hk
        simp [this] at hf
    rw [this]
  | inr u =>
    rw [sm_inr]
    have h2 : ∀ k, k < n → decide (((k : Nat) : Int) ∈ to) = true := hr
    congr 1
    rw [Bool.eq_iff_iff, permB_iff]
    constructor
    · intro h
      have h3 : (to.length : Int) = n := by simpa using h
      exact ⟨fun k hk => by simpa using h2 k hk, by omega⟩
    · rintro ⟨_, h3⟩
      simp [h3]
theorem Values_eq (h : GHeap) (hn : h.n ≤ 256) (to : List Int) (L : List Nat) (t : Turned to h.n L) (hto : to.length = h.n) (vs : List Int) (hv : ∀ v ∈ vs, hasB h.n v = true) (hvl : vs.length ≤ 1048576) : F_R06_Values h to vs = some (vs.map (num L)) := by
  unfold F_R06_Values
  have hL := t.len
  have loop := iter_acc (S := fun p : List Int × Int => s0_R06_Values to vs h.Objs h.Cap h.Last p.fst p.snd) (fun k => ((vs.take k).map (num L), (k : Int))) vs.length (b := vs.map (num L)) (fun k hk => by
    have hlo : ((vs.take k).map (num L)).length = k := by rw [List.length_map, List.length_take]; omega
    simp only [s0_R06_Values, atI_nat _ k hk]
    rw [if_pos (by omega), if_pos (by omega), R03_Ref_eq, ob_some, w64_id (n := (k : Int) + 1) (by omega) (by omega), List.take_succ_eq_append_getElem hk, List.map_append]
    rcases ref_cases (hv _ (List.getElem_mem hk)) with ⟨h1, h2⟩ | ⟨i, h1, h2, h3⟩
    · have h2' : refI (GHeap.n { Objs := h.Objs, Cap := h.Cap, Last := h.Last }) vs[k] = -1 := h2
      rw [h2', if_pos (by omega), if_pos (by omega), if_pos (by rw [hlo]; unfold most; omega)]
      simp [num_no h1]
    · have h3' : refI (GHeap.n { Objs := h.Objs, Cap := h.Cap, Last := h.Last }) vs[k] = (i : Int) := h3
      have hlt := List.idxOf_lt_length_of_mem ((t.mem i).2 h2)
      have hti : atI to (i : Int) = (L.idxOf i : Int) := by
        rw [← t.to i h2, atI_nat _ i (by omega), List.getD_eq_getElem?_getD, List.getElem?_eq_getElem (by omega), Option.getD_some]
      rw [h3', if_neg (by omega), if_pos (by omega), hti, if_pos (by rw [hlo]; unfold most; omega), w64_id (by omega) (by omega)]
      simp [num_at h1]) (by
    simp only [s0_R06_Values]
    rw [if_neg (by omega), List.take_length])
  have loop' : iterO (fun p : List Int × Int => s0_R06_Values to vs h.Objs h.Cap h.Last p.fst p.snd) ([], (0 : Int)) = some (vs.map (num L)) := by
    simpa using loop
  rw [loop', ob_some]
def zObj : GObj := { Class := 0, Kind := 0, Slots := [], Text := { data := #[] }, Bits := 0, Hash := 0 }
/-- The objects that have been laid. -/
def partS (h : GHeap) (L : List Nat) (k : Nat) : List GObj := L.map fun i => if i < k then (atN h.Objs i).by L else zObj
theorem part_step (h : GHeap) {L : List Nat} (hd : L.Nodup) {k : Nat} (hk : k ∈ L) : (partS h L k).set (L.idxOf k) ((atN h.Objs k).by L) = partS h L (k + 1) := by
  refine List.ext_getElem (by simp [partS]) fun j h1 h2 => ?_
  have hj : j < L.length := by simpa [partS] using h2
  rw [List.getElem_set]
  have e : ∀ m, (partS h L m)[j]'(by simpa [partS] using hj) = if L[j] < m then (atN h.Objs L[j]).by L else zObj := fun m => by simp [partS]
  rw [e, e]
  obtain ⟨g1, g2⟩ := get_idxOf hk
  by_cases hjk : L.idxOf k = j
  · have : L[j] = k := by simp only [← hjk, g2]
    rw [if_pos hjk, this, if_pos (by omega)]
  · rw [if_neg hjk]
    have hne : L[j] ≠ k := fun h => hjk (by rw [← h]; exact idxOf_get hd hj)
    by_cases hlt : L[j] < k
    · rw [if_pos hlt, if_pos (by omega)]
    · rw [if_neg hlt, if_neg (by omega)]
theorem Renamed_eq (h : GHeap) (o : OkHeap h) (to : List Int) (L : List Nat) (t : Turned to h.n L) (hto : to.length = h.n) : F_R06_Renamed h to = some (h.by L) := by
  unfold F_R06_Renamed
  have hn := o.small
  have en : GHeap.n h = h.Objs.length := rfl
  have hL := t.len
  rw [if_pos (by unfold most; omega)]
  have loop := iter_acc (S := fun p : Int × List GObj => s0_R06_Renamed to h.Objs h.Cap h.Last [] 0 0 h.Cap h.Last p.fst p.snd) (fun k => ((k : Int), partS h L k)) h.Objs.length (b := (h.by L).Objs) (fun k hk => by
    have ho := o.objs _ (List.getElem_mem hk)
    have hobjN : atN h.Objs k = h.Objs[k] := atN_get _ _ hk
    have hkL : k ∈ L := (t.mem k).2 hk
    have hlt := List.idxOf_lt_length_of_mem hkL
    have hti : atI to (k : Int) = (L.idxOf k : Int) := by
      rw [← t.to k hk, atI_nat _ k (by omega), List.getD_eq_getElem?_getD, List.getElem?_eq_getElem (by omega), Option.getD_some]
    have hpl : (partS h L k).length = L.length := by simp [partS]
    have e1 := Values_eq h hn to L t hto [h.Objs[k].Class] (fun v hv => by rw [List.mem_singleton.1 hv]; exact ho.vals _ (List.mem_cons_self ..)) (by simp)
    have e2 := Values_eq h hn to L t hto h.Objs[k].Slots ho.slots (by have := ho.nslots; omega)
    have e1' : F_R06_Values { Objs := h.Objs, Cap := h.Cap, Last := h.Last } to [h.Objs[k].Class] = some [num L h.Objs[k].Class] := e1
    have e2' : F_R06_Values { Objs := h.Objs, Cap := h.Cap, Last := h.Last } to h.Objs[k].Slots = some (h.Objs[k].Slots.map (num L)) := e2
    simp only [s0_R06_Renamed, atI_nat _ k hk, hti]
    rw [if_pos (by omega), if_pos (by omega), if_pos (by omega), e1', ob_some, if_pos (by simp), e2', ob_some, if_pos (by omega), if_pos (by omega), if_pos (by omega), w64_id (by omega) (by omega), Int.toNat_natCast, ← part_step h t.nodup hkL, hobjN]
    rfl) (by
    simp only [s0_R06_Renamed]
    rw [if_neg (by omega)]
    have : partS h L h.Objs.length = (h.by L).Objs := List.map_congr_left fun i hi => by
      exact if_pos ((t.mem i).1 hi)
    rw [this])
  have e0 : partS h L 0 = List.replicate h.Objs.length zObj := by
    rw [← en, ← hL]
    unfold partS
    refine List.ext_getElem (by simp) fun i h1 h2 => ?_
    simp
  rw [e0] at loop
  have loop' : iterO (fun p : Int × List GObj => s0_R06_Renamed to h.Objs h.Cap h.Last [] 0 0 h.Cap h.Last p.fst p.snd) ((0 : Int), List.replicate h.Objs.length { Class := (0 : Int), Kind := (0 : Int), Slots := [], Text := { data := #[] : ByteArray }, Bits := (0 : Int), Hash := (0 : Int) : GObj }) = some (h.by L).Objs := loop
  rw [loop', ob_some]
  rfl
end Go.Pv

namespace Go.Pv
open Go Go.Proofs
set_option maxRecDepth 100000
set_option maxHeartbeats 0
set_option linter.unusedSimpArgs false
set_option linter.unusedVariables false
theorem renames0 (x_0 : List GObj) (x_1 x_2 : Int) (x_3 : List Int) (to : List Int) (g1 : F_R03_Small ({ Objs := x_0, Cap := x_1, Last := x_2 : GHeap }) = some false) :
    cO Try.prog lore 14 [D.agg [D.t (T.sl 6 (els x_0)), I x_1, I x_2, D.t (T.sl 1 (els x_3))], D.t (T.sl 1 (els to))] [] = some (.val (Bo true), []) := by
  rw [cO_eq (R := lore) rfl Try.func14 rfl]
  show wrapThen h14.res (endThen Try.prog h14.shr _ (eO Try.prog h14 (cO Try.prog lore) _ _)) = _
  simp (decide := true) (maxSteps := 10000000) [Try.f14, g1]
theorem renames1 (x_0 : List GObj) (x_1 x_2 : Int) (x_3 : List Int) (to : List Int) (g1 : F_R03_Small ({ Objs := x_0, Cap := x_1, Last := x_2 : GHeap }) = some true) (g2 : F_R03_May ({ Objs := x_0, Cap := x_1, Last := x_2 : GHeap }) = some false) :
    cO Try.prog lore 14 [D.agg [D.t (T.sl 6 (els x_0)), I x_1, I x_2, D.t (T.sl 1 (els x_3))], D.t (T.sl 1 (els to))] [] = some (.val (Bo true), []) := by
  rw [cO_eq (R := lore) rfl Try.func14 rfl]
  show wrapThen h14.res (endThen Try.prog h14.shr _ (eO Try.prog h14 (cO Try.prog lore) _ _)) = _
  simp (decide := true) (maxSteps := 10000000) [Try.f14, g1, g2]
theorem renames2 (x_0 : List GObj) (x_1 x_2 : Int) (x_3 : List Int) (to : List Int) (g1 : F_R03_Small ({ Objs := x_0, Cap := x_1, Last := x_2 : GHeap }) = some true) (g2 : F_R03_May ({ Objs := x_0, Cap := x_1, Last := x_2 : GHeap }) = some true) (g3 : ¬ (x_0.length : Int) ≤ 40) :
    cO Try.prog lore 14 [D.agg [D.t (T.sl 6 (els x_0)), I x_1, I x_2, D.t (T.sl 1 (els x_3))], D.t (T.sl 1 (els to))] [] = some (.val (Bo true), []) := by
  rw [cO_eq (R := lore) rfl Try.func14 rfl]
  show wrapThen h14.res (endThen Try.prog h14.shr _ (eO Try.prog h14 (cO Try.prog lore) _ _)) = _
  simp (decide := true) (maxSteps := 10000000) [Try.f14, g1, g2, g3]
theorem renames3 (x_0 : List GObj) (x_1 x_2 : Int) (x_3 : List Int) (to : List Int) (g1 : F_R03_Small ({ Objs := x_0, Cap := x_1, Last := x_2 : GHeap }) = some true) (g2 : F_R03_May ({ Objs := x_0, Cap := x_1, Last := x_2 : GHeap }) = some true) (g3 : (x_0.length : Int) ≤ 40) (g4 : ¬ (x_3.length : Int) ≤ 100) :
    cO Try.prog lore 14 [D.agg [D.t (T.sl 6 (els x_0)), I x_1, I x_2, D.t (T.sl 1 (els x_3))], D.t (T.sl 1 (els to))] [] = some (.val (Bo true), []) := by
  rw [cO_eq (R := lore) rfl Try.func14 rfl]
  show wrapThen h14.res (endThen Try.prog h14.shr _ (eO Try.prog h14 (cO Try.prog lore) _ _)) = _
  simp (decide := true) (maxSteps := 10000000) [Try.f14, g1, g2, g3, g4]
theorem renames4 (x_0 : List GObj) (x_1 x_2 : Int) (x_3 : List Int) (to : List Int) (g1 : F_R03_Small ({ Objs := x_0, Cap := x_1, Last := x_2 : GHeap }) = some true) (g2 : F_R03_May ({ Objs := x_0, Cap := x_1, Last := x_2 : GHeap }) = some true) (g3 : (x_0.length : Int) ≤ 40) (g4 : (x_3.length : Int) ≤ 100) (g5 : F_R06_Perm to (x_0.length : Int) = some false) :
    cO Try.prog lore 14 [D.agg [D.t (T.sl 6 (els x_0)), I x_1, I x_2, D.t (T.sl 1 (els x_3))], D.t (T.sl 1 (els to))] [] = some (.val (Bo true), []) := by
  rw [cO_eq (R := lore) rfl Try.func14 rfl]
  show wrapThen h14.res (endThen Try.prog h14.shr _ (eO Try.prog h14 (cO Try.prog lore) _ _)) = _
  simp (decide := true) (maxSteps := 10000000) [Try.f14, g1, g2, g3, g4, g5]
theorem renamesF (x_0 : List GObj) (x_1 x_2 : Int) (x_3 : List Int) (to : List Int) (l : List Int) (f : Int) (g1 : F_R03_Small ({ Objs := x_0, Cap := x_1, Last := x_2 : GHeap }) = some true) (g2 : F_R03_May ({ Objs := x_0, Cap := x_1, Last := x_2 : GHeap }) = some true) (g3 : (x_0.length : Int) ≤ 40) (g4 : (x_3.length : Int) ≤ 100) (g5 : F_R06_Perm to (x_0.length : Int) = some true) (g6 : F_R04_Live ({ Objs := x_0, Cap := x_1, Last := x_2 : GHeap }) x_3 = some (l, f)) (g7 : ¬ f = 0) (g8 : F_canon_Same ({ Objs := x_0, Cap := x_1, Last := x_2 : GHeap }) x_3 ({ Objs := x_0, Cap := x_1, Last := x_2 : GHeap }) x_3 = some false) :
    cO Try.prog lore 14 [D.agg [D.t (T.sl 6 (els x_0)), I x_1, I x_2, D.t (T.sl 1 (els x_3))], D.t (T.sl 1 (els to))] [] = some (.val (Bo true), []) := by
  rw [cO_eq (R := lore) rfl Try.func14 rfl]
  show wrapThen h14.res (endThen Try.prog h14.shr _ (eO Try.prog h14 (cO Try.prog lore) _ _)) = _
  simp (decide := true) (maxSteps := 10000000) [Try.f14, g1, g2, g3, g4, g5, g6, g7, g8]
theorem renamesM (x_0 : List GObj) (x_1 x_2 : Int) (x_3 : List Int) (to : List Int) (h_0 : List GObj) (h_1 h_2 : Int) (a_0 : List GObj) (a_1 a_2 : Int) (b_0 : List GObj) (b_1 b_2 : Int) (l r p q : List Int) (g1 : F_R03_Small ({ Objs := x_0, Cap := x_1, Last := x_2 : GHeap }) = some true) (g2 : F_R03_May ({ Objs := x_0, Cap := x_1, Last := x_2 : GHeap }) = some true) (g3 : (x_0.length : Int) ≤ 40) (g4 : (x_3.length : Int) ≤ 100) (g5 : F_R06_Perm to (x_0.length : Int) = some true) (g6 : F_R04_Live ({ Objs := x_0, Cap := x_1, Last := x_2 : GHeap }) x_3 = some (l, 0)) (g7 : F_R06_Renamed ({ Objs := x_0, Cap := x_1, Last := x_2 : GHeap }) to = some ({ Objs := h_0, Cap := h_1, Last := h_2 : GHeap })) (g8 : F_R06_Values ({ Objs := x_0, Cap := x_1, Last := x_2 : GHeap }) to x_3 = some r) (g9 : F_canon_Of ({ Objs := x_0, Cap := x_1, Last := x_2 : GHeap }) x_3 = some (({ Objs := a_0, Cap := a_1, Last := a_2 : GHeap }), p, 0)) (g10 : F_canon_Of ({ Objs := h_0, Cap := h_1, Last := h_2 : GHeap }) r = some (({ Objs := b_0, Cap := b_1, Last := b_2 : GHeap }), q, 0)) (g11 : F_R03_Same ({ Objs := a_0, Cap := a_1, Last := a_2 : GHeap }) ({ Objs := b_0, Cap := b_1, Last := b_2 : GHeap }) = some true) (g12 : F_R03_Ints p q = some true) (g13 : F_canon_Same ({ Objs := x_0, Cap := x_1, Last := x_2 : GHeap }) x_3 ({ Objs := h_0, Cap := h_1, Last := h_2 : GHeap }) r = some true) (g14 : F_canon_Same ({ Objs := h_0, Cap := h_1, Last := h_2 : GHeap }) r ({ Objs := x_0, Cap := x_1, Last := x_2 : GHeap }) x_3 = some true) :
    cO Try.prog lore 14 [D.agg [D.t (T.sl 6 (els x_0)), I x_1, I x_2, D.t (T.sl 1 (els x_3))], D.t (T.sl 1 (els to))] [] = some (.val (Bo true), []) := by
  rw [cO_eq (R := lore) rfl Try.func14 rfl]
  show wrapThen h14.res (endThen Try.prog h14.shr _ (eO Try.prog h14 (cO Try.prog lore) _ _)) = _
  simp (decide := true) (maxSteps := 10000000) [Try.f14, g1, g2, g3, g4, g5, g6, g7, g8, g9, g10, g11, g12, g13, g14]
end Go.Pv

/- Objects that have changed places. -/
namespace Go.Pv
open Go Go.Proofs
theorem canonRenames (x : GHeap) (p to : List Int) (hx : Slim x) (bx : BitsR x) (hp : p.length ≤ 1048576) (ht : to.length ≤ 1048576) : cO Try.prog lore 14 [rootedD x p, D.t (T.sl 1 (els to))] [] = some (.val (Bo true), []) := by
  obtain ⟨b, e1⟩ := R03_Small_ex x hx.1
  cases b with
  | false => exact renames0 _ _ _ _ _ e1
  | true =>
  have hm : F_R03_May x = some (dec (OkHeap x)) := R03_May_eq x hx bx
  cases ho : dec (OkHeap x) with
  | false => exact renames1 _ _ _ _ _ e1 (hm.trans (by rw [ho]))
  | true =>
  have hm' : F_R03_May x = some true := hm.trans (by rw [ho])
  have o := dec_iff.1 ho
  have hn := o.small
  by_cases h1 : (x.Objs.length : Int) ≤ 40
  case neg => exact renames2 _ _ _ _ _ e1 hm' h1
  by_cases h2 : (p.length : Int) ≤ 100
  case neg => exact renames3 _ _ _ _ _ e1 hm' h1 h2
  have fp : F_R06_Perm to (x.Objs.length : Int) = some (permB to x.n) := Perm_eq to x.n ht (by omega)
  cases hpm : permB to x.n with
  | false => exact renames4 _ _ _ _ _ e1 hm' h1 h2 (fp.trans (by rw [hpm]))
  | true =>
  have fp' := fp.trans (by rw [hpm])
  obtain ⟨t1, t2⟩ := permB_iff.1 hpm
  have T := back_turned t2 t1
  have fl : F_R04_Live x p = some (liveS x p) := R04_Live_eq x p hx bx (by unfold big; omega)
  cases hr : rootsB x p with
  | false =>
    have hl : liveS x p = ([], 31) := by unfold liveS; rw [ho, hr]; rfl
    rw [hl] at fl
    have fs : F_canon_Same x p x p = some false := by
      rw [canon_Same_eq x p x p hx hx hp hp, ofS_err (by rw [ofS_no o hr]; simp)]
    exact renamesF _ _ _ _ _ [] 31 e1 hm' h1 h2 fp' fl (by omega) fs
  | true =>
    have r := rootsB_iff.1 hr
    have hl : liveS x p = (liveI x p, 0) := by unfold liveS; rw [ho, hr]; rfl
    rw [hl] at fl
    have sh := T.shut o.fits r
    have ok := o.by sh
    have slh : Slim (x.by (back to x.n)) := byO_slim hx o (fun i hi => (T.mem i).1 hi) T.nodup
    have rh := by_roots o r sh
    have hrh : rootsB (x.by (back to x.n)) (p.map (num (back to x.n))) = true := rootsB_iff.2 rh
    have hlen : (p.map (num (back to x.n))).length ≤ 1048576 := by rw [List.length_map]; exact hp
    have g1 : F_R06_Renamed x to = some (x.by (back to x.n)) := Renamed_eq x o to _ T t2
    have g2 : F_R06_Values x to p = some (p.map (num (back to x.n))) := Values_eq x hn to _ T t2 p r hp
    have same : SameH x p (x.by (back to x.n)) (p.map (num (back to x.n))) := by_same o sh
    have told := (same_told o r ok rh).1 same
    have f1 : F_canon_Of x p = some (x.by (orderH x p), p.map (num (orderH x p)), 0) := by rw [canon_Of_eq x p hx hp, ofS_ok o hr rfl]
    have f2 : F_canon_Of (x.by (back to x.n)) (p.map (num (back to x.n))) = some ((x.by (back to x.n)).by (orderH (x.by (back to x.n)) (p.map (num (back to x.n)))), (p.map (num (back to x.n))).map (num (orderH (x.by (back to x.n)) (p.map (num (back to x.n))))), 0) := by
      rw [canon_Of_eq _ _ slh hlen, ofS_ok ok hrh rfl]
    have slx := byO_slim hx o (order_lt o r) (order_nodup o r)
    have eqh : x.by (orderH x p) = (x.by (back to x.n)).by (orderH (x.by (back to x.n)) (p.map (num (back to x.n)))) := by
      rw [heap_ext]
      exact ⟨rfl, rfl, told.1⟩
    have f3 : F_R03_Same (x.by (orderH x p)) ((x.by (back to x.n)).by (orderH (x.by (back to x.n)) (p.map (num (back to x.n))))) = some true := by
      rw [R03_Same_eq _ _ slx, decide_eq_true eqh]
    have f4 : F_R03_Ints (p.map (num (orderH x p))) ((p.map (num (back to x.n))).map (num (orderH (x.by (back to x.n)) (p.map (num (back to x.n)))))) = some true := by
      rw [R03_Ints_eq _ _ (by rw [List.length_map]; unfold big; omega), decide_eq_true told.2]
    have sc : sameC x p (x.by (back to x.n)) (p.map (num (back to x.n))) = true := (sameC_same o hr ok hrh).2 same
    have f5 : F_canon_Same x p (x.by (back to x.n)) (p.map (num (back to x.n))) = some true := by rw [canon_Same_eq x p _ _ hx slh hp hlen, sc]
    have f6 : F_canon_Same (x.by (back to x.n)) (p.map (num (back to x.n))) x p = some true := by rw [canon_Same_eq _ _ x p slh hx hlen hp, ← sameC_symm, sc]
    exact renamesM _ _ _ _ _ (x.by (back to x.n)).Objs (x.by (back to x.n)).Cap (x.by (back to x.n)).Last (x.by (orderH x p)).Objs (x.by (orderH x p)).Cap (x.by (orderH x p)).Last
      ((x.by (back to x.n)).by (orderH (x.by (back to x.n)) (p.map (num (back to x.n))))).Objs _ _ _ _ _ _ e1 hm' h1 h2 fp' fl g1 g2 f1 f2 f3 f4 f5 f6
end Go.Pv

/- The law, of data. -/
namespace Go.Pv
open Go Go.Proofs
theorem law_canonRenames (x : crenT.den) (hx : crenT.wf x) (hk : crenT.bulk x ≤ 1048576) : cO Try.prog lore 14 (argDs crenT x) [] = some (.val (Bo true), []) := by
  obtain ⟨a, l, u⟩ := x
  have h3 : rootedT.bulk a + ((Ty.sl iT).bulk l + 0) ≤ 1048576 := hk
  obtain ⟨a1, a2, a3⟩ := rooted_small a hx.1 (by omega)
  have hl := ints_len l (by omega)
  exact cg2 (rooted_D a) (argD_ints l) (canonRenames _ _ _ a1 a2 a3 hl)
end Go.Pv
