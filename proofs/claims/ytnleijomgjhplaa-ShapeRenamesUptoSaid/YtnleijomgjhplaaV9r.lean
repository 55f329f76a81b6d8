/- A part of the road: the interpreter of plain data and the proof that it is right. -/
import Derived.Test.YtnleijomgjhplaaM9r
import Derived.Test.YtnleijomgjhplaaB9r
import Derived.Test.YtnleijomgjhplaaN9r
import Derived.Test.YtnleijomgjhplaaU9r
import Derived.Test.YtnleijomgjhplaaQ9r
set_option linter.unusedVariables false
set_option linter.unusedSimpArgs false
/- Objects that change places: the document's functions in plain words. -/
namespace Go.Pv
theorem idx_leI : ∀ (m : List Int) (i : Int) (k : Nat) (hk : k < m.length), m[k] = i → m.idxOf i ≤ k
  | [], _, _, hk, _ => by simp at hk
  | j :: l, i, 0, _, h => by
    have h' : j = i := h
    subst h'
    simp
  | j :: l, i, k + 1, hk, h => by
    rw [List.idxOf_cons]
    by_cases e : j = i
    · subst e; simp
    · have e' : (j == i) = false := by simpa using e
      rw [e', cond_false]
      have := idx_leI l i k (by simpa using hk) h
      omega
theorem place_eqI (m : List Int) (i : Int) (hm : m.length ≤ 1048576) : F_R06_place m i = some (if i ∈ m then (m.idxOf i : Int) else -1) := by
  unfold F_R06_place
  obtain ⟨r, e, hr⟩ := iter_allI m.length (fun k => decide (atN m k ≠ i)) (S := fun p => s0_R06_place m i p) (fun k => (k : Int)) (fun k hk => by
    simp only [s0_R06_place, atI_nat _ k hk]
    rw [if_pos (by omega), if_pos (by omega), atN_get m k hk, w64_id (by omega) (by omega)]
    by_cases h : m[k] = i
    · rw [if_pos h]; simp [h]
    · rw [if_neg h]; simp [h]) (by simp [s0_R06_place])
  rw [e, ob_some]
  cases r with
  | inl b =>
    obtain ⟨k, hk, rfl, hf, ht⟩ := hr
    rw [sm_inl]
    rw [atN_get m k hk] at hf
    have hki : m[k] = i := by simpa using hf
    have hmem : i ∈ m := hki ▸ List.getElem_mem hk
    have hx : m.idxOf i = k := by
      have h1 := List.idxOf_lt_length_of_mem hmem
      have h2 : m[m.idxOf i] = i := List.getElem_idxOf h1
      rcases Nat.lt_trichotomy (m.idxOf i) k with h3 | h3 | h3
      · have := ht _ h3
        rw [atN_get m _ h1] at this
        simp [h2] at this
      · exact h3
      · have := idx_leI m i k hk hki
        omega
    rw [if_pos hmem, hx]
  | inr u =>
    rw [sm_inr]
    have : i ∉ m := fun hm => by
      obtain ⟨k, hk, rfl⟩ := List.getElem_of_mem hm
      have h2 : ∀ k, k < m.length → decide (atN m k ≠ _) = true := hr
      have := h2 k hk
      rw [atN_get m k hk] at this
      simp at this
    rw [if_neg this]
def permB (to : List Int) (n : Nat) : Bool := ((List.range n).all fun k => decide (((k : Nat) : Int) ∈ to)) && decide (to.length = n)
theorem permB_iff {to : List Int} {n : Nat} : permB to n = true ↔ (∀ k, k < n → ((k : Nat) : Int) ∈ to) ∧ to.length = n := by
  unfold permB
  rw [Bool.and_eq_true, List.all_eq_true, decide_eq_true_eq]
  constructor
  · rintro ⟨h1, h2⟩
    exact ⟨fun k hk => by simpa using h1 k (List.mem_range.2 hk), h2⟩
  · rintro ⟨h1, h2⟩
    exact ⟨fun k hk => by simpa using h1 k (List.mem_range.1 hk), h2⟩
theorem Perm_eq (to : List Int) (n : Nat) (hl : to.length ≤ 1048576) (hn : n ≤ 1048576) : F_R06_Perm to (n : Int) = some (permB to n) := by
  unfold F_R06_Perm
  obtain ⟨r, e, hr⟩ := iter_allI n (fun k => decide (((k : Nat) : Int) ∈ to)) (S := fun p => s0_R06_Perm to (n : Int) p) (fun _ => false) (fun k hk => by
    simp only [s0_R06_Perm]
    rw [if_pos (by omega), place_eqI to _ hl, ob_some, w64_id (by omega) (by omega)]
    by_cases h : ((k : Nat) : Int) ∈ to
    · rw [if_pos h, if_neg (by omega)]; simp [h]
    · rw [if_neg h, if_pos (by omega)]; simp [h]) (by simp [s0_R06_Perm])
  rw [e, ob_some]
  cases r with
  | inl b =>
    obtain ⟨k, hk, rfl, hf, _⟩ := hr
    rw [sm_inl]
    have : permB to n = false := by
      cases hp : permB to n with
      | false => rfl
      | true =>
        have := (permB_iff.1 hp).1 k hk
        simp [this] at hf
    rw [this]
  | inr u =>
    rw [sm_inr]
    have h2 : ∀ k, k < n → decide (((k : Nat) : Int) ∈ to) = true := hr
    congr 1
    rw [Bool.eq_iff_iff, permB_iff]
    constructor
    · intro h
      have h3 : (to.length : Int) = n := by simpa using h
      exact ⟨fun k hk => by simpa using h2 k hk, by omega⟩
    · rintro ⟨_, h3⟩
      simp [h3]
theorem Values_eq (h : GHeap) (hn : h.n ≤ 256) (to : List Int) (L : List Nat) (t : Turned to h.n L) (hto : to.length = h.n) (vs : List Int) (hv : ∀ v ∈ vs, hasB h.n v = true) (hvl : vs.length ≤ 1048576) : F_R06_Values h to vs = some (vs.map (num L)) := by
  unfold F_R06_Values
  have hL := t.len
  have loop := iter_acc (S := fun p : List Int × Int => s0_R06_Values to vs h.Objs h.Cap h.Last p.fst p.snd) (fun k => ((vs.take k).map (num L), (k : Int))) vs.length (b := vs.map (num L)) (fun k hk => by
    have hlo : ((vs.take k).map (num L)).length = k := by rw [List.length_map, List.length_take]; omega
    simp only [s0_R06_Values, atI_nat _ k hk]
    rw [if_pos (by omega), if_pos (by omega), R03_Ref_eq, ob_some, w64_id (n := (k : Int) + 1) (by omega) (by omega), List.take_succ_eq_append_getElem hk, List.map_append]
    rcases ref_cases (hv _ (List.getElem_mem hk)) with ⟨h1, h2⟩ | ⟨i, h1, h2, h3⟩
    · have h2' : refI (GHeap.n { Objs := h.Objs, Cap := h.Cap, Last := h.Last }) vs[k] = -1 := h2
      rw [h2', if_pos (by omega), if_pos (by omega), if_pos (by rw [hlo]; unfold most; omega)]
      simp [num_no h1]
    · have h3' : refI (GHeap.n { Objs := h.Objs, Cap := h.Cap, Last := h.Last }) vs[k] = (i : Int) := h3
      have hlt := List.idxOf_lt_length_of_mem ((t.mem i).2 h2)
      have hti : atI to (i : Int) = (L.idxOf i : Int) := by
        rw [← t.to i h2, atI_nat _ i (by omega), List.getD_eq_getElem?_getD, List.getElem?_eq_getElem (by omega), Option.getD_some]
      rw [h3', if_neg (by omega), if_pos (by omega), hti, if_pos (by rw [hlo]; unfold most; omega), w64_id (by omega) (by omega)]
      simp [num_at h1]) (by
    simp only [s0_R06_Values]
    rw [if_neg (by omega), List.take_length])
  have loop' : iterO (fun p : List Int × Int => s0_R06_Values to vs h.Objs h.Cap h.Last p.fst p.snd) ([], (0 : Int)) = some (vs.map (num L)) := by
    simpa using loop
  rw [loop', ob_some]
def zObj : GObj := { Class := 0, Kind := 0, Slots := [], Text := { data := #[] }, Bits := 0, Hash := 0 }
/-- The objects that have been laid. -/
def partS (h : GHeap) (L : List Nat) (k : Nat) : List GObj := L.map fun i => if i < k then (atN h.Objs i).by L else zObj
theorem part_step (h : GHeap) {L : List Nat} (hd : L.Nodup) {k : Nat} (hk : k ∈ L) : (partS h L k).set (L.idxOf k) ((atN h.Objs k).by L) = partS h L (k + 1) := by
  refine List.ext_getElem (by simp [partS]) fun j h1 h2 => ?_
  have hj : j < L.length := by simpa [partS] using h2
  rw [List.getElem_set]
  have e : ∀ m, (partS h L m)[j]'(by simpa [partS] using hj) = if L[j] < m then (atN h.Objs L[j]).by L else zObj := fun m => by simp [partS]
  rw [e, e]
  obtain ⟨g1, g2⟩ := get_idxOf hk
  by_cases hjk : L.idxOf k = j
  · have : L[j] = k := by simp only [← hjk, g2]
    rw [if_pos hjk, this, if_pos (by omega)]
  · rw [if_neg hjk]
    have hne : L[j] ≠ k := fun h => hjk (by rw [← h]; exact idxOf_get hd hj)
    by_cases hlt : L[j] < k
    · rw [if_pos hlt, if_pos (by omega)]
    · rw [if_neg hlt, if_neg (by omega)]
theorem Renamed_eq (h : GHeap) (o : OkHeap h) (to : List Int) (L : List Nat) (t : Turned to h.n L) (hto : to.length = h.n) : F_R06_Renamed h to = some (h.by L) := by
  unfold F_R06_Renamed
  have hn := o.small
  have en : GHeap.n h = h.Objs.length := rfl
  have hL := t.len
  rw [if_pos (by unfold most; omega)]
  have loop := iter_acc (S := fun p : Int × List GObj => s0_R06_Renamed to h.Objs h.Cap h.Last [] 0 0 h.Cap h.Last p.fst p.snd) (fun k => ((k : Int), partS h L k)) h.Objs.length (b := (h.by L).Objs) (fun k hk => by
    have ho := o.objs _ (List.getElem_mem hk)
    have hobjN : atN h.Objs k = h.Objs[k] := atN_get _ _ hk
    have hkL : k ∈ L := (t.mem k).2 hk
    have hlt := List.idxOf_lt_length_of_mem hkL
    have hti : atI to (k : Int) = (L.idxOf k : Int) := by
      rw [← t.to k hk, atI_nat _ k (by omega), List.getD_eq_getElem?_getD, List.getElem?_eq_getElem (by omega), Option.getD_some]
    have hpl : (partS h L k).length = L.length := by simp [partS]
    have e1 := Values_eq h hn to L t hto [h.Objs[k].Class] (fun v hv => by rw [List.mem_singleton.1 hv]; exact ho.vals _ (List.mem_cons_self ..)) (by simp)
    have e2 := Values_eq h hn to L t hto h.Objs[k].Slots ho.slots (by have := ho.nslots; omega)
    have e1' : F_R06_Values { Objs := h.Objs, Cap := h.Cap, Last := h.Last } to [h.Objs[k].Class] = some [num L h.Objs[k].Class] := e1
    have e2' : F_R06_Values { Objs := h.Objs, Cap := h.Cap, Last := h.Last } to h.Objs[k].Slots = some (h.Objs[k].Slots.map (num L)) := e2
    simp only [s0_R06_Renamed, atI_nat _ k hk, hti]
    rw [if_pos (by omega), if_pos (by omega), if_pos (by omega), e1', ob_some, if_pos (by simp), e2', ob_some, if_pos (by omega), if_pos (by omega), if_pos (by omega), w64_id (by omega) (by omega), Int.toNat_natCast, ← part_step h t.nodup hkL, hobjN]
    rfl) (by
    simp only [s0_R06_Renamed]
    rw [if_neg (by omega)]
    have : partS h L h.Objs.length = (h.by L).Objs := List.map_congr_left fun i hi => by
      exact if_pos ((t.mem i).1 hi)
    rw [this])
  have e0 : partS h L 0 = List.replicate h.Objs.length zObj := by
    rw [← en, ← hL]
    unfold partS
    refine List.ext_getElem (by simp) fun i h1 h2 => ?_
    simp
  rw [e0] at loop
  have loop' : iterO (fun p : Int × List GObj => s0_R06_Renamed to h.Objs h.Cap h.Last [] 0 0 h.Cap h.Last p.fst p.snd) ((0 : Int), List.replicate h.Objs.length { Class := (0 : Int), Kind := (0 : Int), Slots := [], Text := { data := #[] : ByteArray }, Bits := (0 : Int), Hash := (0 : Int) : GObj }) = some (h.by L).Objs := loop
  rw [loop', ob_some]
  rfl
end Go.Pv

/- States whose objects have changed places. -/
namespace Go.Pv
open Go Go.Proofs
theorem w64_ne (n : Int) (h1 : 0 ≤ n) (h2 : n ≤ 1099511627776) : w64 (n + 1) = n + 1 := w64_id (by omega) (by omega)
theorem half_at {v : Int} {n : Nat} (h : 0 ≤ refI n v) (hn : n ≤ 256) : ∃ i : Nat, i < n ∧ v = 2 * (i : Int) ∧ at? v = some i ∧ w64 (v.tdiv 2) = i := by
  obtain ⟨i, h1, h2⟩ := refI_nonneg.1 h
  obtain ⟨e, _⟩ := atv_some.1 h1
  refine ⟨i, h2, e, h1, ?_⟩
  have : v.tdiv 2 = (i : Int) := by
    rw [e, Int.mul_comm, Int.mul_tdiv_cancel _ (by omega)]
  rw [this, w64_id (by omega) (by omega)]
theorem shapeRenames (s : GState) (to : List Int) (hs : Slim s.Heap) (hb : BitsR s.Heap) (ht : to.length ≤ 1048576) : F_L15_ShapeRenames s to = some true := by
  unfold F_L15_ShapeRenames
  obtain ⟨b, hb1⟩ := R03_Small_ex s.Heap hs.1
  rw [hb1, ob_some]
  cases b with
  | false => rw [if_neg (by simp)]
  | true =>
  rw [if_pos rfl]
  by_cases h2 : (s.Heap.Objs.length : Int) ≤ 60
  case neg => rw [if_neg h2]
  rw [if_pos h2, R15_Check_eq s hs hb, ob_some]
  by_cases o : OkState s
  case neg => rw [if_neg fun e => o (stateE_zero.1 e)]
  have hn := o.heap.small
  have hm := o.many
  have en : GHeap.n s.Heap = s.Heap.Objs.length := rfl
  have fp : F_R06_Perm to (s.Heap.Objs.length : Int) = some (permB to s.Heap.n) := Perm_eq to s.Heap.n ht (by omega)
  rw [if_pos (stateE_zero.2 o), fp, ob_some]
  cases hpm : permB to s.Heap.n with
  | false => rw [if_pos rfl]
  | true =>
  rw [if_neg (by simp)]
  obtain ⟨t1, t2⟩ := permB_iff.1 hpm
  have T := back_turned t2 t1
  have hL := T.len
  obtain ⟨r, hr, hh⟩ := iter_allI 12 (fun k => decide (atN to k = (k : Int))) (S := fun p => s0_L15_ShapeRenames to s.Heap.Objs s.Heap.Cap s.Heap.Last s.Proc s.Ready s.Halt s.Steps s.Used p) (fun _ => true) (fun k hk => by
    have k1 : k < to.length := by omega
    simp only [s0_L15_ShapeRenames, atI_nat _ k k1]
    rw [if_pos (by omega), if_pos (by omega), atN_get _ k k1, w64_id (by omega) (by omega)]
    by_cases e : to[k] = (k : Int)
    · rw [if_pos e]; simp [e]
    · rw [if_neg e]; simp [e]) (by simp [s0_L15_ShapeRenames])
  rw [hr, ob_some]
  cases r with
  | inl b =>
    obtain ⟨k, _, rfl, _, _⟩ := hh
    rw [sm_inl]
  | inr u =>
    have hfix : ∀ k, k < 12 → (back to s.Heap.n).idxOf k = k := fun k hk => by
      have h3 : ∀ k, k < 12 → decide (atN to k = (k : Int)) = true := hh
      have h4 := h3 k hk
      rw [atN_get _ k (by omega)] at h4
      have h5 := T.to k (by omega)
      rw [List.getD_eq_getElem?_getD, List.getElem?_eq_getElem (by omega), Option.getD_some] at h5
      simp only [decide_eq_true_eq] at h4
      omega
    have sh := T.shut o.heap.fits o.roots
    have same1 : SameT s (s.by (back to s.Heap.n)) := SameT.by o sh hfix (by omega)
    have ok := same1.okb
    have slh : Slim (s.by (back to s.Heap.n)).Heap := byO_slim hs o.heap (fun i hi => (T.mem i).1 hi) T.nodup
    obtain ⟨i, i1, i2, i3, i4⟩ := half_at o.proc hn
    obtain ⟨k, k1, k2, k3, k4⟩ := half_at o.ready hn
    have gi : atI to (i : Int) = ((back to s.Heap.n).idxOf i : Int) := by
      rw [← T.to i i1, atI_nat _ i (by omega), List.getD_eq_getElem?_getD, List.getElem?_eq_getElem (by omega), Option.getD_some]
    have gk : atI to (k : Int) = ((back to s.Heap.n).idxOf k : Int) := by
      rw [← T.to k k1, atI_nat _ k (by omega), List.getD_eq_getElem?_getD, List.getElem?_eq_getElem (by omega), Option.getD_some]
    have li := List.idxOf_lt_length_of_mem ((T.mem i).2 i1)
    have lk := List.idxOf_lt_length_of_mem ((T.mem k).2 k1)
    have ren : F_R15_Renamed s to = some (s.by (back to s.Heap.n)) := by
      unfold F_R15_Renamed
      rw [Renamed_eq s.Heap o.heap to _ T t2, ob_some, i4, k4, if_pos (by omega), if_pos (by omega), gi, gk, w64_id (by omega) (by omega), w64_id (by omega) (by omega)]
      have e1 : num (back to s.Heap.n) s.Proc = 2 * ((back to s.Heap.n).idxOf i : Int) := num_at i3
      have e2 : num (back to s.Heap.n) s.Ready = 2 * ((back to s.Heap.n).idxOf k : Int) := num_at k3
      rw [← e1, ← e2]
      rfl
    have c1 : collS (s.by (back to s.Heap.n)) = (collT (s.by (back to s.Heap.n)), 0) := by unfold collS; rw [dec_true ok, if_pos rfl]
    have c2 : collS s = (collT s, 0) := by unfold collS; rw [dec_true o, if_pos rfl]
    have sl1 := coll_slim slh ok
    have sl2 := coll_slim hs o
    have s1 : sameTB (s.by (back to s.Heap.n)) s = true := sameTB_iff.2 same1.flip
    have s2 : sameTB (collT (s.by (back to s.Heap.n))) (collT s) = true := sameTB_iff.2 (((SameT.coll ok).flip.comp same1.flip).comp (SameT.coll o))
    have s3 : sameTB (s.by (back to s.Heap.n)) (collT (s.by (back to s.Heap.n))) = true := sameTB_iff.2 (SameT.coll ok)
    have s4 : sameTB s { Heap := s.Heap, Proc := s.Proc, Ready := s.Ready, Halt := s.Halt, Steps := w64 (s.Steps + 1), Used := s.Used } = false := sameTB_no fun h => by
      have e : s.Steps = w64 (s.Steps + 1) := h.steps
      rw [w64_ne _ o.steps.1 o.steps.2] at e
      omega
    have s5 : sameTB s { Heap := s.Heap, Proc := s.Proc, Ready := s.Ready, Halt := s.Halt, Steps := s.Steps, Used := w64 (s.Used + 1) } = false := sameTB_no fun h => by
      have e : s.Used = w64 (s.Used + 1) := h.used
      rw [w64_ne _ o.used.1 (by have := o.used.2; omega)] at e
      omega
    have f4 : F_shape_Same s { Heap := s.Heap, Proc := s.Proc, Ready := s.Ready, Halt := s.Halt, Steps := w64 (s.Steps + 1), Used := s.Used } = some false := (shape_Same_eq s { Heap := s.Heap, Proc := s.Proc, Ready := s.Ready, Halt := s.Halt, Steps := w64 (s.Steps + 1), Used := s.Used } hs hs).trans (congrArg some s4)
    have f5 : F_shape_Same s { Heap := s.Heap, Proc := s.Proc, Ready := s.Ready, Halt := s.Halt, Steps := s.Steps, Used := w64 (s.Used + 1) } = some false := (shape_Same_eq s { Heap := s.Heap, Proc := s.Proc, Ready := s.Ready, Halt := s.Halt, Steps := s.Steps, Used := w64 (s.Used + 1) } hs hs).trans (congrArg some s5)
    rw [sm_inr, ren, ob_some, shape_Collect_eq _ slh, ob_some, c1, shape_Collect_eq _ hs, ob_some, c2, shape_Same_eq _ _ slh hs, ob_some, if_pos s1]
    simp only [if_true]
    rw [shape_Same_eq _ _ sl1 sl2, ob_some, if_pos s2, shape_Same_eq _ _ slh sl1, ob_some, if_pos s3, f4, ob_some, if_pos rfl, f5, ob_some]
    rfl
end Go.Pv

/- The law, of data. -/
namespace Go.Pv
open Go Go.Proofs
theorem law_shapeRenames (x : shrT.den) (hx : shrT.wf x) (hk : shrT.bulk x ≤ 1048576) : cO Try.prog lore 29 (argDs shrT x) [] = some (.val (Bo true), []) := by
  obtain ⟨s, l, u⟩ := x
  have h3 : stateT.bulk s + ((Ty.sl iT).bulk l + 0) ≤ 1048576 := hk
  obtain ⟨a1, a2⟩ := state_small s hx.1 (by omega)
  have hl := ints_len l (by omega)
  refine cs2 (argD_state s) (argD_ints l) ?_
  exact (f_L15_ShapeRenames (toState s).Heap.Objs (toState s).Heap.Cap (toState s).Heap.Last (toState s).Proc (toState s).Ready (toState s).Halt (toState s).Steps (toState s).Used l).trans
    ((congrArg (fun o => ob o fun r : Bool => some (Res.val (D.t (T.sc (Value.bool r))), ([] : Frames))) (shapeRenames (toState s) l a1 a2 hl)).trans rfl)
end Go.Pv
