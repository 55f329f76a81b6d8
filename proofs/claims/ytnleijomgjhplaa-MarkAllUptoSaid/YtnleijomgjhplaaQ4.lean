/- A part of the road: the interpreter of plain data and the proof that it is right. -/
import Derived.Test.YtnleijomgjhplaaR4
import Derived.Test.YtnleijomgjhplaaM4
import Derived.Test.YtnleijomgjhplaaL4
import Derived.Test.YtnleijomgjhplaaT4
import Derived.Test.YtnleijomgjhplaaK
import Derived.Test.YtnleijomgjhplaaH4
import Derived.Test.YtnleijomgjhplaaG
set_option linter.unusedVariables false
set_option linter.unusedSimpArgs false
namespace Go.Pv
open Go Go.Proofs
set_option maxRecDepth 100000
set_option maxHeartbeats 0
set_option linter.unusedSimpArgs false
theorem tells8a (s_0 : List GObj) (s_1 s_2 : Int) (l : List Int) (v : Int) (g1 : F_R03_Small { Objs := s_0, Cap := s_1, Last := s_2 : GHeap } = some false) :
    cO Try.prog lore 8 [D.agg [D.t (T.sl 6 (els s_0)), I s_1, I s_2], D.t (T.sl 1 (els l)), I v] [] = some (.val (Bo true), []) := by
  rw [cO_eq (R := lore) rfl Try.func8 rfl]
  show wrapThen h8.res (endThen Try.prog h8.shr _ (eO Try.prog h8 (cO Try.prog lore) _ _)) = _
  simp (decide := true) (maxSteps := 10000000) [Try.f8, g1]
theorem tells8b (s_0 : List GObj) (s_1 s_2 : Int) (l : List Int) (v : Int) (g1 : F_R03_Small { Objs := s_0, Cap := s_1, Last := s_2 : GHeap } = some true) (g2 : ¬ (s_0.length : Int) ≤ 40) :
    cO Try.prog lore 8 [D.agg [D.t (T.sl 6 (els s_0)), I s_1, I s_2], D.t (T.sl 1 (els l)), I v] [] = some (.val (Bo true), []) := by
  rw [cO_eq (R := lore) rfl Try.func8 rfl]
  show wrapThen h8.res (endThen Try.prog h8.shr _ (eO Try.prog h8 (cO Try.prog lore) _ _)) = _
  simp (decide := true) (maxSteps := 10000000) [Try.f8, g1, g2]
theorem tells8c (s_0 : List GObj) (s_1 s_2 : Int) (l : List Int) (v : Int) (g1 : F_R03_Small { Objs := s_0, Cap := s_1, Last := s_2 : GHeap } = some true) (g2 : (s_0.length : Int) ≤ 40) (g3 : ¬ (l.length : Int) ≤ 100) :
    cO Try.prog lore 8 [D.agg [D.t (T.sl 6 (els s_0)), I s_1, I s_2], D.t (T.sl 1 (els l)), I v] [] = some (.val (Bo true), []) := by
  rw [cO_eq (R := lore) rfl Try.func8 rfl]
  show wrapThen h8.res (endThen Try.prog h8.shr _ (eO Try.prog h8 (cO Try.prog lore) _ _)) = _
  simp (decide := true) (maxSteps := 10000000) [Try.f8, g1, g2, g3]
theorem tells8d (s_0 : List GObj) (s_1 s_2 : Int) (l : List Int) (v : Int) (a : List Int) (e : Int) (b : Bool) (g1 : F_R03_Small { Objs := s_0, Cap := s_1, Last := s_2 : GHeap } = some true) (g2 : (s_0.length : Int) ≤ 40) (g3 : (l.length : Int) ≤ 100)
    (g4 : F_mark_Live { Objs := s_0, Cap := s_1, Last := s_2 : GHeap } l = some (a, e)) (g5 : F_R04_Live { Objs := s_0, Cap := s_1, Last := s_2 : GHeap } l = some (a, e)) (g6 : F_R03_Ints a a = some true)
    (g7 : F_mark_Has { Objs := s_0, Cap := s_1, Last := s_2 : GHeap } l v = some b) (g8 : F_R04_Has { Objs := s_0, Cap := s_1, Last := s_2 : GHeap } l v = some b) :
    cO Try.prog lore 8 [D.agg [D.t (T.sl 6 (els s_0)), I s_1, I s_2], D.t (T.sl 1 (els l)), I v] [] = some (.val (Bo true), []) := by
  rw [cO_eq (R := lore) rfl Try.func8 rfl]
  show wrapThen h8.res (endThen Try.prog h8.shr _ (eO Try.prog h8 (cO Try.prog lore) _ _)) = _
  simp (decide := true) (maxSteps := 10000000) [Try.f8, g1, g2, g3, g4, g5, g6, g7]
  try simp (decide := true) (maxSteps := 10000000) [g8]
end Go.Pv

/- Marking: the laws. -/
namespace Go.Pv
open Go Go.Proofs
theorem R03_Small_ex (h : GHeap) (hl : h.Objs.length ≤ big) : ∃ b, F_R03_Small h = some b := by
  unfold big at hl
  unfold F_R03_Small
  obtain ⟨r, e, _⟩ := iter_post (S := fun p : Int × Int => s0_R03_Small h.Objs h.Cap h.Last p.fst p.snd) (fun p => h.Objs.length - p.2.toNat) (fun p => ∃ k : Nat, p.2 = k ∧ k ≤ h.Objs.length) (fun _ => True) (fun p hp => by
    obtain ⟨n, i⟩ := p
    obtain ⟨k, hk, hle⟩ := hp
    simp only at hk
    subst hk
    simp only [s0_R03_Small]
    by_cases h1 : (k : Int) < h.Objs.length
    · rw [if_pos h1]
      by_cases h2 : n < 5000
      · rw [if_pos h2, if_pos (by omega), if_pos (by omega), w64_id (n := (k : Int) + 1) (by omega) (by omega)]
        exact .inl ⟨_, rfl, ⟨k + 1, rfl, by omega⟩, by simp; omega⟩
      · rw [if_neg h2]; exact .inr ⟨_, rfl, trivial⟩
    · rw [if_neg h1]; exact .inr ⟨_, rfl, trivial⟩) ((0 : Int), (0 : Int)) ⟨0, rfl, Nat.zero_le _⟩
  rw [e, ob_some]
  split <;> exact ⟨_, rfl⟩
theorem markTells (h : GHeap) (l : List Int) (v : Int) (hs : Slim h) (hb : BitsR h) (hl : l.length ≤ big) : cO Try.prog lore 8 [D.agg [D.t (T.sl 6 (els h.Objs)), I h.Cap, I h.Last], D.t (T.sl 1 (els l)), I v] [] = some (.val (Bo true), []) := by
  obtain ⟨b, hb1⟩ := R03_Small_ex h hs.1
  cases b with
  | false => exact tells8a _ _ _ _ _ hb1
  | true =>
    by_cases h2 : (h.Objs.length : Int) ≤ 40
    case neg => exact tells8b _ _ _ _ _ hb1 h2
    by_cases h3 : (l.length : Int) ≤ 100
    case neg => exact tells8c _ _ _ _ _ hb1 h2 h3
    exact tells8d _ _ _ _ _ (liveS h l).1 (liveS h l).2 (hasS h l v) hb1 h2 h3 (mark_Live_eq h l hs hl) (R04_Live_eq h l hs hb hl)
      (by rw [R03_Ints_eq _ _ (by have := liveS_len h l; unfold big; omega)]; simp) (mark_Has_eq h l v hs hl) (R04_Has_eq h l v hs hb hl)
end Go.Pv

/- Marking: all objects, none, and one from itself. -/
namespace Go.Pv
theorem liveI_all {h : GHeap} {rs : List Int} (ha : ∀ i, i < h.n → Rch h.n h.vals rs i) : (liveI h rs).length = h.n := by
  unfold liveI liveH
  rw [List.length_map, live_all ha, List.length_range]
theorem liveI_nil (h : GHeap) : liveI h [] = [] := by
  apply List.eq_nil_iff_forall_not_mem.2
  intro x hx
  obtain ⟨i, _, hi⟩ := mem_liveI.1 hx
  exact hi.least (Q := fun _ => False) (fun v i hv => by cases hv) fun i v j hq => hq.elim
theorem hasS_self {h : GHeap} (o : OkHeap h) (v : Int) : hasS h [v] v = decide (0 ≤ refI h.n v) := by
  unfold hasS atP
  cases e : at? v with
  | none => simp [refI_none e]
  | some i =>
    simp only [Bool.true_and]
    by_cases hi : i < h.n
    · have hro : rootsB h [v] = true := rootsB_iff.2 fun w hw => by
        simp only [List.mem_singleton] at hw
        subst hw
        exact hasB_iff.2 (.inr ⟨i, e, hi⟩)
      have hm : (i : Int) ∈ (liveS h [v]).1 := by
        unfold liveS
        rw [dec_true o, if_pos rfl, if_pos hro]
        exact mem_liveI.2 ⟨i, rfl, .root (List.mem_singleton.2 rfl) e hi⟩
      rw [decide_eq_true hm, decide_eq_true (by rw [refI_of e hi]; omega)]
    · have hm : (i : Int) ∉ (liveS h [v]).1 := fun hm => by
        unfold liveS at hm
        rw [dec_true o, if_pos rfl] at hm
        split at hm
        · obtain ⟨j, h1, h2⟩ := mem_liveI.1 hm
          have := h2.lt
          omega
        · cases hm
      have hr : ¬ 0 ≤ refI h.n v := fun hr => by
        obtain ⟨j, h1, h2⟩ := refI_nonneg.1 hr
        rw [e] at h1
        cases h1
        exact hi h2
      rw [decide_eq_false hm, decide_eq_false hr]
def allR (n : Nat) : List Int := (List.range n).map fun i : Nat => 2 * (i : Int)
theorem all_loop (v : Int) (h : GHeap) (hn : h.Objs.length ≤ 256) : iterO (fun p : List Int × Int => s0_L04_MarkAll v h.Objs h.Cap h.Last p.fst p.snd) ([], (0 : Int)) = some (allR h.Objs.length) := by
  have := iter_acc (S := fun p : List Int × Int => s0_L04_MarkAll v h.Objs h.Cap h.Last p.fst p.snd) (fun k => (allR k, (k : Int))) h.Objs.length (b := allR h.Objs.length) (fun k hk => by
    have hl : (allR k).length = k := by simp [allR]
    simp only [s0_L04_MarkAll]
    rw [if_pos (by omega), if_pos (by unfold most; omega), w64_id (by omega) (by omega), w64_id (by omega) (by omega)]
    have : allR (k + 1) = allR k ++ [2 * (k : Int)] := by simp [allR, List.range_succ]
    rw [this]
    rfl) (by simp [s0_L04_MarkAll])
  exact this
theorem markAll (h : GHeap) (v : Int) (hs : Slim h) (hb : BitsR h) : F_L04_MarkAll h v = some true := by
  unfold F_L04_MarkAll
  obtain ⟨b, hb1⟩ := R03_Small_ex h hs.1
  rw [hb1, ob_some]
  cases b with
  | false => rw [if_neg (by simp)]
  | true =>
    rw [if_pos rfl, R03_May_eq h hs hb, ob_some]
    cases ho : dec (OkHeap h) with
    | false => rw [if_neg (by simp)]
    | true =>
      have o := dec_iff.1 ho
      have hn := o.small
      have en : h.n = h.Objs.length := rfl
      rw [if_pos rfl]
      by_cases h40 : (40 : Int) < h.Objs.length
      case pos => rw [if_pos h40]
      have hal : (allR h.Objs.length).length ≤ big := by simp [allR]; unfold big; omega
      rw [if_neg h40, all_loop v h (by omega), ob_some, mark_Live_eq h (allR h.Objs.length) hs hal, ob_some, mark_Live_eq h _ hs (by simp [big]), ob_some]
      have hroots : rootsB h (allR h.n) = true := rootsB_iff.2 fun w hw => by
        obtain ⟨i, hi, rfl⟩ := List.mem_map.1 hw
        have hi' := List.mem_range.1 hi
        exact hasB_iff.2 (.inr ⟨i, at_two (by omega), hi'⟩)
      have hall : ∀ i, i < h.n → Rch h.n h.vals (allR h.n) i := fun i hi => .root (List.mem_map.2 ⟨i, List.mem_range.2 hi, rfl⟩) (at_two (by omega)) hi
      have e1 : liveS h (allR h.Objs.length) = (liveI h (allR h.n), 0) := by
        unfold liveS
        rw [ho, if_pos rfl, if_pos (show rootsB h (allR h.Objs.length) = true from hroots)]
        rfl
      have e2 : liveS h (nl Int) = ([], 0) := by
        unfold liveS
        rw [ho, if_pos rfl, if_pos (show rootsB h (nl Int) = true from rfl)]
        exact congrArg (fun l => (l, (0 : Int))) (liveI_nil h)
      rw [e1, e2]
      simp only [if_true]
      rw [if_pos (by rw [liveI_all hall]; rfl), mark_Has_eq h [v] v hs (by simp [big]), ob_some, R03_Ref_eq, ob_some, hasS_self o]
      simp
end Go.Pv

/- Marking: less roots, what is reached as roots, and two lists of them. -/
namespace Go.Pv
theorem liveS_ok {h : GHeap} {rs : List Int} (o : OkHeap h) (hr : rootsB h rs = true) : liveS h rs = (liveI h rs, 0) := by
  unfold liveS
  rw [dec_true o, if_pos rfl, if_pos hr]
theorem liveS_no {h : GHeap} {rs : List Int} (o : OkHeap h) (hr : rootsB h rs = false) : liveS h rs = ([], 31) := by
  unfold liveS
  rw [dec_true o, if_pos rfl, if_neg (by rw [hr]; simp)]
def refs2 (l : List Int) : List Int := l.map fun i => 2 * i
theorem refs_loop (x y z : List Int) (g : Int) (h : GHeap) (hx : x.length ≤ 256) (hr : ∀ i ∈ x, 0 ≤ i ∧ i ≤ 256) :
    iterO (fun p : List Int × Int => s0_L04_MarkLess x y z g h.Objs h.Cap h.Last p.fst p.snd) ([], (0 : Int)) = some (refs2 x) := by
  have := iter_acc (S := fun p : List Int × Int => s0_L04_MarkLess x y z g h.Objs h.Cap h.Last p.fst p.snd) (fun k => (refs2 (x.take k), (k : Int))) x.length (b := refs2 x) (fun k hk => by
    have hl : (refs2 (x.take k)).length ≤ 256 := by simp [refs2]; omega
    have := hr _ (List.getElem_mem hk)
    simp only [s0_L04_MarkLess, atI_nat _ k hk]
    rw [if_pos (by omega), if_pos (by omega), if_pos (by unfold most; omega), w64_id (by omega) (by omega), w64_id (by omega) (by omega)]
    have e : refs2 (x.take (k + 1)) = refs2 (x.take k) ++ [2 * x[k]] := by unfold refs2; rw [List.take_succ_eq_append_getElem hk, List.map_append]; rfl
    rw [e]
    rfl) (by simp [s0_L04_MarkLess])
  exact this
theorem liveI_again {h : GHeap} {rs : List Int} (hn : h.n ≤ 256) : rootsB h (refs2 (liveI h rs)) = true ∧ liveI h (refs2 (liveI h rs)) = liveI h rs := by
  have hm : ∀ v, v ∈ refs2 (liveI h rs) ↔ ∃ i : Nat, v = 2 * (i : Int) ∧ Rch h.n h.vals rs i := by
    intro v
    unfold refs2
    rw [List.mem_map]
    constructor
    · rintro ⟨x, hx, rfl⟩
      obtain ⟨i, rfl, hi⟩ := mem_liveI.1 hx
      exact ⟨i, rfl, hi⟩
    · rintro ⟨i, rfl, hi⟩
      exact ⟨i, mem_liveI.2 ⟨i, rfl, hi⟩, rfl⟩
  refine ⟨rootsB_iff.2 fun w hw => ?_, ?_⟩
  · obtain ⟨i, rfl, hi⟩ := (hm w).1 hw
    have := hi.lt
    exact hasB_iff.2 (.inr ⟨i, at_two (by omega), this⟩)
  · unfold liveI liveH
    congr 1
    refine live_congr fun i hi => ⟨fun hr => hr.mono fun v j hv hj _ => ?_, fun hr => ?_⟩
    · obtain ⟨k, rfl, hk⟩ := (hm v).1 hv
      rw [at_two (by have := hk.lt; omega)] at hj
      cases hj
      exact hk
    · exact .root ((hm _).2 ⟨i, rfl, hr⟩) (at_two (by omega)) hi
theorem markLess (h : GHeap) (a b : List Int) (hs : Slim h) (hb : BitsR h) (hla : a.length ≤ 1048576) (hlb : b.length ≤ 1048576) : F_L04_MarkLess h a b = some true := by
  unfold F_L04_MarkLess
  obtain ⟨c, hc1⟩ := R03_Small_ex h hs.1
  rw [hc1, ob_some]
  cases c with
  | false => rw [if_neg (by simp)]
  | true =>
    rw [if_pos rfl, R03_May_eq h hs hb, ob_some]
    cases ho : dec (OkHeap h) with
    | false => rw [if_neg (by simp)]
    | true =>
      have o := dec_iff.1 ho
      have hn := o.small
      have en : h.n = h.Objs.length := rfl
      rw [if_pos rfl]
      by_cases h40 : (h.Objs.length : Int) ≤ 40
      case neg => rw [if_neg h40]
      by_cases h50 : (a.length : Int) ≤ 50
      case neg => rw [if_pos h40, if_neg h50]
      by_cases h51 : (50 : Int) < b.length
      case pos => rw [if_pos h40, if_pos h50, if_pos h51]
      rw [if_pos h40, if_pos h50, if_neg h51, mark_Live_eq h a hs (by unfold big; omega), ob_some, mark_Live_eq h b hs (by unfold big; omega), ob_some, if_pos (by unfold most; omega), if_pos (by unfold most; omega),
        mark_Live_eq h (a ++ b) hs (by rw [List.length_append]; unfold big; omega), ob_some]
      have hab : rootsB h (a ++ b) = (rootsB h a && rootsB h b) := by unfold rootsB; rw [List.all_append]
      cases ha : rootsB h a with
      | false =>
        rw [liveS_no o ha, liveS_no o (rs := a ++ b) (by rw [hab, ha]; rfl)]
        simp
      | true =>
        cases hbb : rootsB h b with
        | false =>
          rw [liveS_ok o ha, liveS_no o hbb, liveS_no o (rs := a ++ b) (by rw [hab, ha, hbb]; rfl)]
          simp
        | true =>
          rw [liveS_ok o ha, liveS_ok o hbb, liveS_ok o (rs := a ++ b) (by rw [hab, ha, hbb]; rfl)]
          have l1 := liveI_len h a
          have l2 := liveI_len h b
          have l3 := liveI_len h (a ++ b)
          obtain ⟨r1, r2⟩ := liveI_again (h := h) (rs := a) hn
          simp only [if_true]
          rw [refs_loop _ _ _ _ h (by omega) (fun i hi => by
            obtain ⟨j, rfl, hj⟩ := mem_liveI.1 hi
            have := hj.lt
            omega), ob_some, mark_Live_eq h _ hs (by simp [refs2]; unfold big; omega), ob_some, liveS_ok o r1, r2]
          simp only [if_true]
          rw [R03_Ints_eq _ _ (by unfold big; omega), ob_some, if_neg (by simp)]
          obtain ⟨r, e, hr⟩ := iter_allI h.Objs.length (fun _ => true) (S := fun p => s1_L04_MarkLess (liveI h a) (liveI h b) (liveI h (a ++ b)) h.Objs h.Cap h.Last p) (fun _ => true) (fun k hk => by
            have hi : ((k : Int) ∈ liveI h (a ++ b)) ↔ (k : Int) ∈ liveI h a ∨ (k : Int) ∈ liveI h b := by
              have hm : ∀ rs, (k : Int) ∈ liveI h rs ↔ Rch h.n h.vals rs k := fun rs => mem_liveI.trans ⟨fun ⟨i, e, hi⟩ => by
                have : k = i := by omega
                subst this; exact hi, fun hi => ⟨k, rfl, hi⟩⟩
              rw [hm, hm, hm, Rch.app]
            simp only [s1_L04_MarkLess]
            rw [if_pos (by omega), R04_In_eq _ _ (by unfold big; omega), ob_some, R04_In_eq _ _ (by unfold big; omega), ob_some, R04_In_eq _ _ (by unfold big; omega), ob_some, w64_id (by omega) (by omega)]
            by_cases i1 : (k : Int) ∈ liveI h a
            · simp [hi, i1]
            · by_cases i2 : (k : Int) ∈ liveI h b <;> simp [hi, i1, i2]) (by simp [s1_L04_MarkLess])
          rw [e, ob_some]
          cases r with
          | inl v =>
            obtain ⟨k, hk, rfl, hf, _⟩ := hr
            cases hf
          | inr u => rw [sm_inr]
end Go.Pv

/- Marking: what is reached is closed. -/
namespace Go.Pv
theorem all_true {β : Type} (n : Nat) {S : Int → Option (Int ⊕ β ⊕ Unit)} (hS : ∀ (k : Nat), k < n → S (k : Int) = some (.inl ((k + 1 : Nat) : Int))) (he : S (n : Int) = some (.inr (.inr ()))) : iterO S 0 = some (.inr ()) := by
  have := iter_acc (S := S) (fun k => (k : Int)) n (b := .inr ()) (fun k hk => hS k hk) he
  exact this
theorem closed_in {h : GHeap} {rs : List Int} {v : Int} (hv : (∃ i, Rch h.n h.vals rs i ∧ v ∈ h.vals i) ∨ v ∈ rs) (hr : 0 ≤ refI h.n v) : refI h.n v ∈ liveI h rs := by
  obtain ⟨j, h1, h2⟩ := refI_nonneg.1 hr
  rw [refI_of h1 h2]
  refine mem_liveI.2 ⟨j, rfl, ?_⟩
  rcases hv with ⟨i, hi, hv⟩ | hv
  · exact .step hi hv h1 h2
  · exact .root hv h1 h2
theorem markCloses (h : GHeap) (rs : List Int) (hs : Slim h) (hb : BitsR h) (hlr : rs.length ≤ 1048576) : F_L04_MarkCloses h rs = some true := by
  unfold F_L04_MarkCloses
  obtain ⟨c, hc1⟩ := R03_Small_ex h hs.1
  rw [hc1, ob_some]
  cases c with
  | false => rw [if_neg (by simp)]
  | true =>
    rw [if_pos rfl, R03_May_eq h hs hb, ob_some]
    cases ho : dec (OkHeap h) with
    | false => rw [if_neg (by simp)]
    | true =>
      have o := dec_iff.1 ho
      have hn := o.small
      have en : h.n = h.Objs.length := rfl
      rw [if_pos rfl]
      by_cases h40 : (h.Objs.length : Int) ≤ 40
      case neg => rw [if_neg h40]
      by_cases h51 : (100 : Int) < rs.length
      case pos => rw [if_pos h40, if_pos h51]
      rw [if_pos h40, if_neg h51, mark_Live_eq h rs hs (by unfold big; omega), ob_some]
      cases ha : rootsB h rs with
      | false =>
        rw [liveS_no o ha]
        simp
      | true =>
        rw [liveS_ok o ha]
        have l1 := liveI_len h rs
        have hsort := List.pairwise_iff_getElem.1 (liveI_sorted h rs)
        have hbig : (liveI h rs).length ≤ big := by unfold big; omega
        simp only [if_true]
        rw [all_true (S := fun p => s0_L04_MarkCloses rs (liveI h rs) h.Objs h.Cap h.Last p) rs.length (fun k hk => by
          simp only [s0_L04_MarkCloses, atI_nat _ k hk]
          rw [if_pos (by omega), if_pos (by omega), R03_Ref_eq, ob_some, w64_id (by omega) (by omega)]
          by_cases hr : 0 ≤ refI h.n rs[k]
          · have hm := closed_in (.inr (List.getElem_mem hk)) hr
            have hm' : refI (GHeap.n { Objs := h.Objs, Cap := h.Cap, Last := h.Last }) rs[k] ∈ liveI h rs := hm
            rw [if_pos (show 0 ≤ refI (GHeap.n { Objs := h.Objs, Cap := h.Cap, Last := h.Last }) rs[k] from hr), if_pos (by omega), ob_some, R04_In_eq _ _ hbig, ob_some, decide_eq_true hm', if_neg (by simp)]
            rfl
          · rw [if_neg (show ¬ 0 ≤ refI (GHeap.n { Objs := h.Objs, Cap := h.Cap, Last := h.Last }) rs[k] from hr)]
            rfl) (by simp [s0_L04_MarkCloses]), ob_some]
        simp only [sm_inr]
        rw [all_true (S := fun p => s1_L04_MarkCloses (liveI h rs) h.Objs h.Cap h.Last p) (liveI h rs).length (fun k hk => by
          obtain ⟨i, hik, hi⟩ := mem_liveI.1 (List.getElem_mem hk)
          have hin : i < h.Objs.length := hi.lt
          have hvals := vals_obj h i hin
          have hcl := (o.objs _ (List.getElem_mem hin)).cls
          have hns := (o.objs _ (List.getElem_mem hin)).nslots
          have hm : refI (GHeap.n { Objs := h.Objs, Cap := h.Cap, Last := h.Last }) h.Objs[i].Class ∈ liveI h rs := closed_in (.inl ⟨i, hi, by rw [hvals]; exact List.mem_cons_self ..⟩) hcl
          have e0 : atI (liveI h rs) (k : Int) = (i : Int) := by rw [atI_nat _ k hk, hik]
          have e1 : atI h.Objs (i : Int) = h.Objs[i] := atI_nat _ i hin
          have inner := all_true (S := fun p => s2_L04_MarkCloses (liveI h rs) (k : Int) h.Objs h.Cap h.Last p) h.Objs[i].Slots.length (fun t ht => by
            simp only [s2_L04_MarkCloses, e0, e1, atI_nat _ t ht]
            rw [if_pos (by omega), if_pos (by omega), if_pos (by omega), if_pos (by omega), if_pos (by omega), if_pos (by omega), R03_Ref_eq, ob_some, w64_id (by omega) (by omega)]
            by_cases hr : 0 ≤ refI h.n h.Objs[i].Slots[t]
            · have hm' : refI (GHeap.n { Objs := h.Objs, Cap := h.Cap, Last := h.Last }) h.Objs[i].Slots[t] ∈ liveI h rs := closed_in (.inl ⟨i, hi, by rw [hvals]; exact List.mem_cons_of_mem _ (List.getElem_mem ht)⟩) hr
              rw [if_pos (show 0 ≤ refI (GHeap.n { Objs := h.Objs, Cap := h.Cap, Last := h.Last }) h.Objs[i].Slots[t] from hr), R04_In_eq _ _ hbig, ob_some, decide_eq_true hm', if_neg (by simp)]
              rfl
            · rw [if_neg (show ¬ 0 ≤ refI (GHeap.n { Objs := h.Objs, Cap := h.Cap, Last := h.Last }) h.Objs[i].Slots[t] from hr)]
              rfl) (by
            simp only [s2_L04_MarkCloses, e0, e1]
            rw [if_pos (by omega), if_pos (by omega), if_neg (by omega)])
          have tail : (if (0 : Int) ≤ (k : Int) ∧ (k : Int) < ((liveI h rs).length : Int) then if (0 : Int) ≤ (i : Int) ∧ (i : Int) < (h.Objs.length : Int) then ob (F_R03_Ref { Objs := h.Objs, Cap := h.Cap, Last := h.Last } h.Objs[i].Class) fun a => ob (F_R04_In (liveI h rs) a) fun a => if a = false then some (Sum.inr (Sum.inl false)) else
              ob (iterO (fun p => s2_L04_MarkCloses (liveI h rs) (k : Int) h.Objs h.Cap h.Last p) (0 : Int)) fun a => sm a (fun a => some (Sum.inr (Sum.inl a))) fun _ => some (Sum.inl (w64 ((k : Int) + 1))) else none else none) = (some (.inl ((k + 1 : Nat) : Int)) : Option (Int ⊕ Bool ⊕ Unit)) := by
            rw [if_pos (by omega), if_pos (by omega), R03_Ref_eq, ob_some, R04_In_eq _ _ hbig, ob_some, decide_eq_true hm, if_neg (by simp), inner, ob_some, sm_inr, w64_id (by omega) (by omega)]
            rfl
          simp only [s1_L04_MarkCloses, e0, e1]
          rw [if_pos (by omega), if_pos (by omega), if_pos (by omega), if_pos (by omega), if_pos (by omega)]
          by_cases h0 : (0 : Int) < k
          · have hp : (k : Int) - 1 = ((k - 1 : Nat) : Int) := by omega
            have hlt := hsort (k - 1) k (by omega) hk (by omega)
            rw [hik] at hlt
            rw [if_pos h0, if_pos (by omega), w64_id (n := (k : Int) - 1) (by omega) (by omega), hp, if_pos (by omega), atI_nat _ (k - 1) (by omega), if_pos hlt]
            exact tail
          · rw [if_neg h0]
            exact tail) (by simp [s1_L04_MarkCloses]), ob_some]
        simp only [sm_inr]
end Go.Pv

/- What is told of the library's functions is right. -/
namespace Go.Pv
open Go Go.Proofs
def bare (h : Hint) : Hint := { h with res := [], par := [], row := [] }
@[simp] theorem bare_var (h : Hint) : (bare h).var = h.var := rfl
@[simp] theorem bare_own (h : Hint) : (bare h).own = h.own := rfl
@[simp] theorem bare_keep (h : Hint) : (bare h).keep = h.keep := rfl
@[simp] theorem bare_out (h : Hint) : (bare h).out = h.out := rfl
@[simp] theorem bare_row (h : Hint) : (bare h).row = [] := rfl
@[simp] theorem bare_shr (h : Hint) : (bare h).shr = h.shr := rfl
@[simp] theorem bare_res (h : Hint) : (bare h).res = [] := rfl
@[simp] theorem bare_par (h : Hint) : (bare h).par = [] := rfl
def lor0 : Lore := ⟨fun f => bare (hints f), fun _ => none⟩
@[simp] theorem lor0_94 : lor0.hint 94 = bare h94 := rfl
@[simp] theorem lor0_123 : lor0.hint 123 = bare h123 := rfl
@[simp] theorem lor0_146 : lor0.hint 146 = bare h146 := rfl
set_option maxRecDepth 100000
theorem clones94 : Clones Try.prog (cO Try.prog lor0) 94 30 8 80 := by
  refine ⟨by omega, fun c frs h => ?_, fun a c frs h => ?_, fun x l frs h hb ha => ?_⟩ <;> rw [cO_eq (R := lor0) rfl Try.func94 rfl] <;> show wrapThen _ (endThen _ _ _ (eO Try.prog (bare h94) _ _ _)) = _
  · simp [-D.outer, -List.all_eq_true, Try.f94, h]
  · simp [-D.outer, -List.all_eq_true, Try.f94, h]
  · simp [-D.outer, -List.all_eq_true, Try.f94, h]
    simp only [List.all_cons, Bool.and_eq_true, beq_iff_eq] at ha
    exact ⟨ha, by simpa [els_nil] using hb⟩
theorem clones123 : Clones Try.prog (cO Try.prog lor0) 123 58 6 72 := by
  refine ⟨by omega, fun c frs h => ?_, fun a c frs h => ?_, fun x l frs h hb ha => ?_⟩ <;> rw [cO_eq (R := lor0) rfl Try.func123 rfl] <;> show wrapThen _ (endThen _ _ _ (eO Try.prog (bare h123) _ _ _)) = _
  · simp [-D.outer, -List.all_eq_true, Try.f123, h]
  · simp [-D.outer, -List.all_eq_true, Try.f123, h]
  · simp [-D.outer, -List.all_eq_true, Try.f123, h]
    simp only [List.all_cons, Bool.and_eq_true, beq_iff_eq] at ha
    exact ⟨ha, by simpa [els_nil] using hb⟩
theorem clones146 : Clones Try.prog (cO Try.prog lor0) 146 3 1 8 := by
  refine ⟨by omega, fun c frs h => ?_, fun a c frs h => ?_, fun x l frs h hb ha => ?_⟩ <;> rw [cO_eq (R := lor0) rfl Try.func146 rfl] <;> show wrapThen _ (endThen _ _ _ (eO Try.prog (bare h146) _ _ _)) = _
  · simp [-D.outer, -List.all_eq_true, Try.f146, h]
  · simp [-D.outer, -List.all_eq_true, Try.f146, h]
  · simp [-D.outer, -List.all_eq_true, Try.f146, h]
    simp only [List.all_cons, Bool.and_eq_true, beq_iff_eq] at ha
    exact ⟨ha, by simpa [els_nil] using hb⟩
theorem w64_wrap (n : Int) : w64 n = RowKit.wrap64 n := by
  unfold w64 RowKit.wrap64
  simp [IntKind.wrap, IntKind.bits, IntKind.signed]
  omega
theorem canon_told : ∀ ds d, canonS ds = some d → ∀ B G frs w (vs : Array Value), FrS B G frs w → vs.size = ds.length →
    (∀ (i : Nat) u d, vs[i]? = some u → ds[i]? = some d → d.hasOwn = false ∧ VD B frs.length G vr0 w (.pn frs.length i []) u d) →
    d.outOk = true ∧ Calls Try.prog 153 vs w fun out w' => ∃ v G', out = .returned v ∧ FrS B G' frs w' ∧ Step frs.length G w G' w' ∧ VD B frs.length G' vr0 w' (.pn frs.length 0 []) v d := by
  intro ds d hs B G frs w vs F hlen hargs
  unfold canonS at hs
  split at hs
  · rename_i b
    cases hs
    obtain ⟨u, hv⟩ : ∃ u, vs = #[u] := by
      match vs, hlen with
      | ⟨[u]⟩, _ => exact ⟨u, rfl⟩
    subst hv
    have e1 := (hargs 0 u _ rfl rfl).2.sc
    subst e1
    refine ⟨rfl, (canon_any b w).mono fun r w' ⟨h1, h2⟩ => ?_⟩
    subst h1 h2
    refine ⟨_, G, rfl, F, .refl _ _ _, ?_⟩
    have e : (if nanW (IntKind.u64.wrap b).toNat = true then (9221120237041090561 : Int) else RowKit.wrap64 (IntKind.u64.wrap b).toNat) = canonF b := by
      rw [canon_val]
      unfold canonF nanB
      simp only [decide_eq_true_eq, w64_wrap]
    rw [e]
    exact VD.scal rfl
  · cases hs
theorem mixed0 : Try.prog.follows .mixedOrders = true := by kernel_rfl
theorem allTold : ToldOk Try.prog lore.told := by
  intro f s h
  have g0 : Pv.Good Try.prog (cO Try.prog lor0) := cO_good mixed0 (by intro f s h; cases h)
  unfold lore at h
  simp only at h
  split at h
  · cases h; exact clone_told g0 clones94
  · cases h; exact clone_told g0 clones123
  · cases h; exact clone_told g0 clones146
  · cases h; exact canon_told
  · cases h
end Go.Pv

/- Heaps: from the laws' arguments to plain data. -/
namespace Go.Pv
open Go Go.Proofs
abbrev iT : Ty := .int .i64
abbrev objT : Ty := .pair iT (.pair iT (.pair (.sl iT) (.pair .str (.pair iT (.pair iT .unit)))))
abbrev heapT : Ty := .pair (.sl objT) (.pair iT (.pair iT .unit))
def toObj (x : objT.den) : GObj := ⟨x.1, x.2.1, x.2.2.1, x.2.2.2.1, x.2.2.2.2.1, x.2.2.2.2.2.1⟩
def toObjs (l : (Ty.sl objT).den) : List GObj := List.map toObj l
def toHeap (x : heapT.den) : GHeap := ⟨toObjs x.1, x.2.1, x.2.2.1⟩
theorem map_enc {α β : Type} [Enc β] (e : α → List T) (f : α → β) (h : ∀ x, e x = Enc.enc (f x)) (l : List α) : List.map e l = els (List.map f l) := by
  unfold els
  rw [List.map_map]
  exact List.map_congr_left fun x _ => h x
theorem objT_enc (x : objT.den) : objT.enc x = Enc.enc (toObj x) := rfl
theorem objs_enc (l : (Ty.sl objT).den) : List.map (α := objT.den) objT.enc l = els (toObjs l) := map_enc objT.enc toObj objT_enc l
theorem ones {α : Type} (f : α → Nat) (hf : ∀ x, f x = 1) (l : List α) : (l.map f).sum = l.length := by
  induction l with
  | nil => rfl
  | cons a l ih => simp only [List.map_cons, List.sum_cons, List.length_cons, ih, hf]; omega
theorem sum_mem {α : Type} (f : α → Nat) : ∀ (l : List α) (x : α), x ∈ l → f x ≤ (l.map f).sum
  | a :: l, x, h => by
    rw [List.map_cons, List.sum_cons]
    rcases List.mem_cons.1 h with rfl | h
    · omega
    · have := sum_mem f l x h; omega
theorem sum_len {α : Type} (f : α → Nat) (hf : ∀ x, 1 ≤ f x) (l : List α) : l.length ≤ (l.map f).sum := by
  induction l with
  | nil => exact Nat.le_refl _
  | cons a l ih => have := hf a; simp only [List.map_cons, List.sum_cons, List.length_cons]; omega
theorem obj_bulk (x : objT.den) : (toObj x).Slots.length + (toObj x).Text.size + 1 ≤ objT.bulk x := by
  obtain ⟨c, kd, sl, tx, b, h, u⟩ := x
  have hs := ones (Ty.bulk iT) (fun _ => rfl) sl
  show List.length (α := iT.den) sl + ByteArray.size tx + 1 ≤ 1 + (1 + ((List.map (α := iT.den) (Ty.bulk iT) sl).sum + 1 + (ByteArray.size tx + 1 + (1 + (1 + 0)))))
  rw [hs]; omega
theorem int_wf {n : Int} (h : (Lit.int .i64 n).wf = true) : inR n := by
  simp only [Lit.wf, IntKind.min, IntKind.max, IntKind.signed, IntKind.bits, Bool.and_eq_true, decide_eq_true_eq, if_true] at h
  unfold inR
  constructor <;> omega
theorem objs_small (l : (Ty.sl objT).den) (hw : (Ty.sl objT).wf l) (hk : (Ty.sl objT).bulk l ≤ 1048576) (c la : Int) : Slim ⟨toObjs l, c, la⟩ ∧ BitsR ⟨toObjs l, c, la⟩ := by
  have h1 : (List.map (α := objT.den) objT.bulk l).sum + 1 ≤ 1048576 := hk
  have h2 := sum_len (α := objT.den) objT.bulk (fun x => by have := obj_bulk x; omega) l
  refine ⟨⟨?_, fun o ho => ?_⟩, fun o ho => ?_⟩
  · refine Nat.le_trans (Nat.le_of_eq (List.length_map (α := objT.den) toObj)) ?_
    unfold big; omega
  · obtain ⟨x, hx, rfl⟩ := List.mem_map.1 ho
    have h3 := sum_mem (α := objT.den) objT.bulk l x hx
    have h4 := obj_bulk x
    unfold big; omega
  · obtain ⟨x, hx, rfl⟩ := List.mem_map.1 ho
    have := hw.2 x hx
    obtain ⟨c, kd, sl, tx, b, h, u⟩ := x
    exact int_wf this.2.2.2.2.1
def hpD (h : GHeap) : D := .agg [.t (.sl 6 (els h.Objs)), I h.Cap, I h.Last]
theorem argD_heap (x : heapT.den) : argD heapT x = hpD (toHeap x) := by
  obtain ⟨l, c, la, u⟩ := x
  exact congrArg (fun e => D.agg [.t (.sl 6 e), I c, I la]) (objs_enc l)
theorem heap_slim (x : heapT.den) (hw : heapT.wf x) (hk : heapT.bulk x ≤ 1048576) : Slim (toHeap x) ∧ BitsR (toHeap x) := by
  obtain ⟨l, c, la, u⟩ := x
  have h1 : (Ty.sl objT).bulk l + (1 + (1 + 0)) ≤ 1048576 := hk
  exact objs_small l hw.1 (by omega) c la
theorem ints_len (l : (Ty.sl iT).den) (hk : (Ty.sl iT).bulk l ≤ 1048576) : List.length (α := Int) l ≤ 1048576 := by
  have h1 : (List.map (α := iT.den) (Ty.bulk iT) l).sum + 1 ≤ 1048576 := hk
  have h2 := ones (α := iT.den) (Ty.bulk iT) (fun _ => rfl) l
  have h3 : List.length (α := iT.den) l ≤ 1048576 := by omega
  exact h3
theorem argD_ints (l : (Ty.sl iT).den) : argD (.sl iT) l = .t (.sl 1 (els (α := Int) l)) := rfl
end Go.Pv

/- Marking: the laws, of data. -/
namespace Go.Pv
open Go Go.Proofs
abbrev mtellT : Ty := .pair heapT (.pair (.sl iT) (.pair iT .unit))
abbrev mcloseT : Ty := .pair heapT (.pair (.sl iT) .unit)
abbrev mlessT : Ty := .pair heapT (.pair (.sl iT) (.pair (.sl iT) .unit))
abbrev mallT : Ty := .pair heapT (.pair iT .unit)
theorem law_markTells (x : mtellT.den) (hx : mtellT.wf x) (hk : mtellT.bulk x ≤ 1048576) : cO Try.prog lore 8 (argDs mtellT x) [] = some (.val (Bo true), []) := by
  obtain ⟨hh, l, n, v⟩ := x
  have h3 : heapT.bulk hh + ((Ty.sl iT).bulk l + (1 + 0)) ≤ 1048576 := hk
  obtain ⟨hs, hb⟩ := heap_slim hh hx.1 (by omega)
  have hl := ints_len l (by omega)
  show cO Try.prog lore 8 [argD heapT hh, argD (.sl iT) l, I n] [] = _
  rw [argD_heap hh, argD_ints l]
  exact markTells (toHeap hh) l n hs hb (Nat.le_trans hl (by unfold big; omega))
theorem law_markCloses (x : mcloseT.den) (hx : mcloseT.wf x) (hk : mcloseT.bulk x ≤ 1048576) : cO Try.prog lore 9 (argDs mcloseT x) [] = some (.val (Bo true), []) := by
  obtain ⟨hh, l, v⟩ := x
  have h3 : heapT.bulk hh + ((Ty.sl iT).bulk l + 0) ≤ 1048576 := hk
  obtain ⟨hs, hb⟩ := heap_slim hh hx.1 (by omega)
  have hl := ints_len l (by omega)
  show cO Try.prog lore 9 [argD heapT hh, argD (.sl iT) l] [] = _
  rw [argD_heap hh, argD_ints l]
  exact (f_L04_MarkCloses (toHeap hh).Objs (toHeap hh).Cap (toHeap hh).Last l).trans
    ((congrArg (fun o => ob o fun r : Bool => some (Res.val (D.t (T.sc (Value.bool r))), ([] : Frames))) (markCloses (toHeap hh) l hs hb hl)).trans rfl)
theorem law_markLess (x : mlessT.den) (hx : mlessT.wf x) (hk : mlessT.bulk x ≤ 1048576) : cO Try.prog lore 10 (argDs mlessT x) [] = some (.val (Bo true), []) := by
  obtain ⟨hh, l, m, v⟩ := x
  have h3 : heapT.bulk hh + ((Ty.sl iT).bulk l + ((Ty.sl iT).bulk m + 0)) ≤ 1048576 := hk
  obtain ⟨hs, hb⟩ := heap_slim hh hx.1 (by omega)
  have hl := ints_len l (by omega)
  have hm := ints_len m (by omega)
  show cO Try.prog lore 10 [argD heapT hh, argD (.sl iT) l, argD (.sl iT) m] [] = _
  rw [argD_heap hh, argD_ints l, argD_ints m]
  exact (f_L04_MarkLess (toHeap hh).Objs (toHeap hh).Cap (toHeap hh).Last l m).trans
    ((congrArg (fun o => ob o fun r : Bool => some (Res.val (D.t (T.sc (Value.bool r))), ([] : Frames))) (markLess (toHeap hh) l m hs hb hl hm)).trans rfl)
theorem law_markAll (x : mallT.den) (hx : mallT.wf x) (hk : mallT.bulk x ≤ 1048576) : cO Try.prog lore 11 (argDs mallT x) [] = some (.val (Bo true), []) := by
  obtain ⟨hh, n, v⟩ := x
  have h3 : heapT.bulk hh + (1 + 0) ≤ 1048576 := hk
  obtain ⟨hs, hb⟩ := heap_slim hh hx.1 (by omega)
  show cO Try.prog lore 11 [argD heapT hh, I n] [] = _
  rw [argD_heap hh]
  exact (f_L04_MarkAll (toHeap hh).Objs (toHeap hh).Cap (toHeap hh).Last n).trans
    ((congrArg (fun o => ob o fun r : Bool => some (Res.val (D.t (T.sc (Value.bool r))), ([] : Frames))) (markAll (toHeap hh) n hs hb)).trans rfl)
end Go.Pv
