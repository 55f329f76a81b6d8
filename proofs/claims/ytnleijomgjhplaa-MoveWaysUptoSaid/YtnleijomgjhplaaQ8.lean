/- A part of the road: the interpreter of plain data and the proof that it is right. -/
import Derived.Test.YtnleijomgjhplaaM8
import Derived.Test.YtnleijomgjhplaaV8
import Derived.Test.YtnleijomgjhplaaT8
import Derived.Test.YtnleijomgjhplaaK
import Derived.Test.YtnleijomgjhplaaH8
import Derived.Test.YtnleijomgjhplaaG
set_option linter.unusedVariables false
set_option linter.unusedSimpArgs false
namespace Go.Pv
open Go Go.Proofs
set_option maxRecDepth 100000
set_option maxHeartbeats 0
set_option linter.unusedSimpArgs false
set_option linter.unusedVariables false
theorem mtells0 (h_0 : List GObj) (h_1 h_2 : Int) (r : List Int) (x_0 : List Int) (x_1 : Int) (g1 : F_R03_Small ({ Objs := h_0, Cap := h_1, Last := h_2 : GHeap }) = some false) :
    cO Try.prog lore 21 [D.agg [D.t (T.sl 6 (els h_0)), I h_1, I h_2], D.t (T.sl 1 (els r)), D.agg [D.t (T.sl 1 (els x_0)), I x_1]] [] = some (.val (Bo true), []) := by
  rw [cO_eq (R := lore) rfl Try.func21 rfl]
  show wrapThen h21.res (endThen Try.prog h21.shr _ (eO Try.prog h21 (cO Try.prog lore) _ _)) = _
  simp (decide := true) (maxSteps := 10000000) [Try.f21, g1]
theorem mtells1 (h_0 : List GObj) (h_1 h_2 : Int) (r : List Int) (x_0 : List Int) (x_1 : Int) (g1 : F_R03_Small ({ Objs := h_0, Cap := h_1, Last := h_2 : GHeap }) = some true) (g2 : ¬ (h_0.length : Int) ≤ 40) :
    cO Try.prog lore 21 [D.agg [D.t (T.sl 6 (els h_0)), I h_1, I h_2], D.t (T.sl 1 (els r)), D.agg [D.t (T.sl 1 (els x_0)), I x_1]] [] = some (.val (Bo true), []) := by
  rw [cO_eq (R := lore) rfl Try.func21 rfl]
  show wrapThen h21.res (endThen Try.prog h21.shr _ (eO Try.prog h21 (cO Try.prog lore) _ _)) = _
  simp (decide := true) (maxSteps := 10000000) [Try.f21, g1, g2]
theorem mtells2 (h_0 : List GObj) (h_1 h_2 : Int) (r : List Int) (x_0 : List Int) (x_1 : Int) (g1 : F_R03_Small ({ Objs := h_0, Cap := h_1, Last := h_2 : GHeap }) = some true) (g2 : (h_0.length : Int) ≤ 40) (g3 : ¬ (r.length : Int) ≤ 100) :
    cO Try.prog lore 21 [D.agg [D.t (T.sl 6 (els h_0)), I h_1, I h_2], D.t (T.sl 1 (els r)), D.agg [D.t (T.sl 1 (els x_0)), I x_1]] [] = some (.val (Bo true), []) := by
  rw [cO_eq (R := lore) rfl Try.func21 rfl]
  show wrapThen h21.res (endThen Try.prog h21.shr _ (eO Try.prog h21 (cO Try.prog lore) _ _)) = _
  simp (decide := true) (maxSteps := 10000000) [Try.f21, g1, g2, g3]
theorem mtells3 (h_0 : List GObj) (h_1 h_2 : Int) (r : List Int) (x_0 : List Int) (x_1 : Int) (g1 : F_R03_Small ({ Objs := h_0, Cap := h_1, Last := h_2 : GHeap }) = some true) (g2 : (h_0.length : Int) ≤ 40) (g3 : (r.length : Int) ≤ 100) (g4 : ¬ (x_0.length : Int) ≤ 100) :
    cO Try.prog lore 21 [D.agg [D.t (T.sl 6 (els h_0)), I h_1, I h_2], D.t (T.sl 1 (els r)), D.agg [D.t (T.sl 1 (els x_0)), I x_1]] [] = some (.val (Bo true), []) := by
  rw [cO_eq (R := lore) rfl Try.func21 rfl]
  show wrapThen h21.res (endThen Try.prog h21.shr _ (eO Try.prog h21 (cO Try.prog lore) _ _)) = _
  simp (decide := true) (maxSteps := 10000000) [Try.f21, g1, g2, g3, g4]
theorem mtellsM (h_0 : List GObj) (h_1 h_2 : Int) (r : List Int) (x_0 : List Int) (x_1 : Int) (a_0 : List GObj) (a_1 a_2 : Int) (t p : List Int) (e g v : Int) (ok : Bool) (g1 : F_R03_Small ({ Objs := h_0, Cap := h_1, Last := h_2 : GHeap }) = some true) (g2 : (h_0.length : Int) ≤ 40) (g3 : (r.length : Int) ≤ 100) (g4 : (x_0.length : Int) ≤ 100) (g5 : F_move_Table ({ Objs := h_0, Cap := h_1, Last := h_2 : GHeap }) r = some (t, e)) (g6 : F_R05_Table ({ Objs := h_0, Cap := h_1, Last := h_2 : GHeap }) r = some (t, e)) (g7 : F_move_Compact ({ Objs := h_0, Cap := h_1, Last := h_2 : GHeap }) r = some (({ Objs := a_0, Cap := a_1, Last := a_2 : GHeap }), p, g)) (g8 : F_R05_Compact ({ Objs := h_0, Cap := h_1, Last := h_2 : GHeap }) r = some (({ Objs := a_0, Cap := a_1, Last := a_2 : GHeap }), p, g)) (g9 : F_move_Value x_0 x_1 = some (v, ok)) (g10 : F_R05_Value x_0 x_1 = some (v, ok)) (g11 : F_R03_Ints t t = some true) (g12 : F_R03_Same ({ Objs := a_0, Cap := a_1, Last := a_2 : GHeap }) ({ Objs := a_0, Cap := a_1, Last := a_2 : GHeap }) = some true) (g13 : F_R03_Ints p p = some true) :
    cO Try.prog lore 21 [D.agg [D.t (T.sl 6 (els h_0)), I h_1, I h_2], D.t (T.sl 1 (els r)), D.agg [D.t (T.sl 1 (els x_0)), I x_1]] [] = some (.val (Bo true), []) := by
  rw [cO_eq (R := lore) rfl Try.func21 rfl]
  show wrapThen h21.res (endThen Try.prog h21.shr _ (eO Try.prog h21 (cO Try.prog lore) _ _)) = _
  simp (decide := true) (maxSteps := 10000000) [Try.f21, g1, g2, g3, g4, g5, g6, g7, g8, g9, g10, g11, g12, g13]
end Go.Pv

namespace Go.Pv
open Go Go.Proofs
set_option maxRecDepth 100000
set_option maxHeartbeats 0
set_option linter.unusedSimpArgs false
set_option linter.unusedVariables false
theorem mwhole0 (h_0 : List GObj) (h_1 h_2 : Int) (r : List Int) (g1 : F_R03_Small ({ Objs := h_0, Cap := h_1, Last := h_2 : GHeap }) = some false) :
    cO Try.prog lore 22 [D.agg [D.t (T.sl 6 (els h_0)), I h_1, I h_2], D.t (T.sl 1 (els r))] [] = some (.val (Bo true), []) := by
  rw [cO_eq (R := lore) rfl Try.func22 rfl]
  show wrapThen h22.res (endThen Try.prog h22.shr _ (eO Try.prog h22 (cO Try.prog lore) _ _)) = _
  simp (decide := true) (maxSteps := 10000000) [Try.f22, g1]
theorem mwhole1 (h_0 : List GObj) (h_1 h_2 : Int) (r : List Int) (g1 : F_R03_Small ({ Objs := h_0, Cap := h_1, Last := h_2 : GHeap }) = some true) (g2 : F_R03_May ({ Objs := h_0, Cap := h_1, Last := h_2 : GHeap }) = some false) :
    cO Try.prog lore 22 [D.agg [D.t (T.sl 6 (els h_0)), I h_1, I h_2], D.t (T.sl 1 (els r))] [] = some (.val (Bo true), []) := by
  rw [cO_eq (R := lore) rfl Try.func22 rfl]
  show wrapThen h22.res (endThen Try.prog h22.shr _ (eO Try.prog h22 (cO Try.prog lore) _ _)) = _
  simp (decide := true) (maxSteps := 10000000) [Try.f22, g1, g2]
theorem mwhole2 (h_0 : List GObj) (h_1 h_2 : Int) (r : List Int) (g1 : F_R03_Small ({ Objs := h_0, Cap := h_1, Last := h_2 : GHeap }) = some true) (g2 : F_R03_May ({ Objs := h_0, Cap := h_1, Last := h_2 : GHeap }) = some true) (g3 : ¬ (h_0.length : Int) ≤ 40) :
    cO Try.prog lore 22 [D.agg [D.t (T.sl 6 (els h_0)), I h_1, I h_2], D.t (T.sl 1 (els r))] [] = some (.val (Bo true), []) := by
  rw [cO_eq (R := lore) rfl Try.func22 rfl]
  show wrapThen h22.res (endThen Try.prog h22.shr _ (eO Try.prog h22 (cO Try.prog lore) _ _)) = _
  simp (decide := true) (maxSteps := 10000000) [Try.f22, g1, g2, g3]
theorem mwhole3 (h_0 : List GObj) (h_1 h_2 : Int) (r : List Int) (g1 : F_R03_Small ({ Objs := h_0, Cap := h_1, Last := h_2 : GHeap }) = some true) (g2 : F_R03_May ({ Objs := h_0, Cap := h_1, Last := h_2 : GHeap }) = some true) (g3 : (h_0.length : Int) ≤ 40) (g4 : ¬ (r.length : Int) ≤ 100) :
    cO Try.prog lore 22 [D.agg [D.t (T.sl 6 (els h_0)), I h_1, I h_2], D.t (T.sl 1 (els r))] [] = some (.val (Bo true), []) := by
  rw [cO_eq (R := lore) rfl Try.func22 rfl]
  show wrapThen h22.res (endThen Try.prog h22.shr _ (eO Try.prog h22 (cO Try.prog lore) _ _)) = _
  simp (decide := true) (maxSteps := 10000000) [Try.f22, g1, g2, g3, g4]
theorem mwholeE (h_0 : List GObj) (h_1 h_2 : Int) (r : List Int) (e : Int) (g1 : F_R03_Small ({ Objs := h_0, Cap := h_1, Last := h_2 : GHeap }) = some true) (g2 : F_R03_May ({ Objs := h_0, Cap := h_1, Last := h_2 : GHeap }) = some true) (g3 : (h_0.length : Int) ≤ 40) (g4 : (r.length : Int) ≤ 100) (g5 : F_move_Compact ({ Objs := h_0, Cap := h_1, Last := h_2 : GHeap }) r = some (({ Objs := [], Cap := 0, Last := 0 : GHeap }), [], e)) (g6 : ¬ e = 0) (g7 : F_R03_Same ({ Objs := [], Cap := 0, Last := 0 : GHeap }) ({ Objs := [], Cap := 0, Last := 0 : GHeap }) = some true) :
    cO Try.prog lore 22 [D.agg [D.t (T.sl 6 (els h_0)), I h_1, I h_2], D.t (T.sl 1 (els r))] [] = some (.val (Bo true), []) := by
  rw [cO_eq (R := lore) rfl Try.func22 rfl]
  show wrapThen h22.res (endThen Try.prog h22.shr _ (eO Try.prog h22 (cO Try.prog lore) _ _)) = _
  simp (decide := true) (maxSteps := 10000000) [Try.f22, g1, g2, g3, g4, g5, g6, g7]
theorem mwholeM (h_0 : List GObj) (h_1 h_2 : Int) (r : List Int) (a_0 : List GObj) (a_1 a_2 : Int) (p l : List Int) (g1 : F_R03_Small ({ Objs := h_0, Cap := h_1, Last := h_2 : GHeap }) = some true) (g2 : F_R03_May ({ Objs := h_0, Cap := h_1, Last := h_2 : GHeap }) = some true) (g3 : (h_0.length : Int) ≤ 40) (g4 : (r.length : Int) ≤ 100) (g5 : F_move_Compact ({ Objs := h_0, Cap := h_1, Last := h_2 : GHeap }) r = some (({ Objs := a_0, Cap := a_1, Last := a_2 : GHeap }), p, 0)) (g6 : F_R04_Live ({ Objs := a_0, Cap := a_1, Last := a_2 : GHeap }) p = some (l, 0)) (g7 : F_move_Compact ({ Objs := a_0, Cap := a_1, Last := a_2 : GHeap }) p = some (({ Objs := a_0, Cap := a_1, Last := a_2 : GHeap }), p, 0)) (g8 : F_R03_May ({ Objs := a_0, Cap := a_1, Last := a_2 : GHeap }) = some true) (g9 : (l.length : Int) = (a_0.length : Int)) (g10 : F_R03_Same ({ Objs := a_0, Cap := a_1, Last := a_2 : GHeap }) ({ Objs := a_0, Cap := a_1, Last := a_2 : GHeap }) = some true) (g11 : F_R03_Ints p p = some true) :
    cO Try.prog lore 22 [D.agg [D.t (T.sl 6 (els h_0)), I h_1, I h_2], D.t (T.sl 1 (els r))] [] = some (.val (Bo true), []) := by
  rw [cO_eq (R := lore) rfl Try.func22 rfl]
  show wrapThen h22.res (endThen Try.prog h22.shr _ (eO Try.prog h22 (cO Try.prog lore) _ _)) = _
  simp (decide := true) (maxSteps := 10000000) [Try.f22, g1, g2, g3, g4, g5, g6, g7, g8, g9, g10, g11]
end Go.Pv

/- Compaction: the laws in plain words. -/
namespace Go.Pv
open Go Go.Proofs
theorem zero_slim : Slim ⟨[], 0, 0⟩ := ⟨by simp [big], fun o ho => by cases ho⟩
theorem by_slim {h : GHeap} (hs : Slim h) (o : OkHeap h) {l : List Nat} (hl : ∀ x ∈ l, x < h.n) (hd : l.Nodup) : Slim (h.by l) := by
  have hlen := nodup_len h.n l hd hl
  have hn := o.small
  refine ⟨?_, fun o' hm => ?_⟩
  · show (List.map _ l).length ≤ big
    rw [List.length_map]; unfold big; omega
  · obtain ⟨i, hi, rfl⟩ := List.mem_map.1 hm
    have hin : i < h.Objs.length := hl i hi
    rw [atN_get _ _ hin]
    have := hs.2 _ (List.getElem_mem hin)
    simpa [GObj.by] using this
theorem by_bits {h : GHeap} (hb : BitsR h) {l : List Nat} (hl : ∀ x ∈ l, x < h.n) : BitsR (h.by l) := fun o' hm => by
  obtain ⟨i, hi, rfl⟩ := List.mem_map.1 hm
  have hin : i < h.Objs.length := hl i hi
  rw [atN_get _ _ hin]
  have := hb _ (List.getElem_mem hin)
  exact this
theorem live_nodup {h : GHeap} {rs : List Int} : (liveH h rs).Nodup := live_sorted.imp fun h => Nat.ne_of_lt h
theorem compS_slim (h : GHeap) (rs : List Int) (hs : Slim h) (hr : rs.length ≤ 1048576) : Slim (compS h rs).1 ∧ (compS h rs).2.1.length ≤ big := by
  unfold compS
  by_cases ho : OkHeap h
  · rw [dec_true ho, if_pos rfl]
    by_cases hro : rootsB h rs = true
    · rw [if_pos hro]
      exact ⟨by_slim hs ho live_lt live_nodup, by show (List.map _ rs).length ≤ big; rw [List.length_map]; unfold big; omega⟩
    · rw [if_neg hro]; exact ⟨zero_slim, by simp [big]⟩
  · rw [dec_false ho, if_neg (by simp)]; exact ⟨zero_slim, by simp [big]⟩
theorem tableS_len (h : GHeap) (rs : List Int) (hs : Slim h) : (tableS h rs).1.length ≤ big := by
  unfold tableS
  split
  · split
    · rw [tab_len]; exact hs.1
    · simp [big]
  · simp [big]
theorem moveTells (h : GHeap) (l : List Int) (t : List Int) (v : Int) (hs : Slim h) (hb : BitsR h) (hl : l.length ≤ 1048576) : cO Try.prog lore 21 [D.agg [D.t (T.sl 6 (els h.Objs)), I h.Cap, I h.Last], D.t (T.sl 1 (els l)), D.agg [D.t (T.sl 1 (els t)), I v]] [] = some (.val (Bo true), []) := by
  obtain ⟨b, hb1⟩ := R03_Small_ex h hs.1
  cases b with
  | false => exact mtells0 _ _ _ _ _ _ hb1
  | true =>
    by_cases h2 : (h.Objs.length : Int) ≤ 40
    case neg => exact mtells1 _ _ _ _ _ _ hb1 h2
    by_cases h3 : (l.length : Int) ≤ 100
    case neg => exact mtells2 _ _ _ _ _ _ hb1 h2 h3
    by_cases h4 : (t.length : Int) ≤ 100
    case neg => exact mtells3 _ _ _ _ _ _ hb1 h2 h3 h4
    obtain ⟨s1, s2⟩ := compS_slim h l hs hl
    have s3 := tableS_len h l hs
    have a1 : F_move_Table h l = some (tableS h l) := move_Table_eq h l hs (by unfold big; omega)
    have a2 : F_R05_Table h l = some (tableS h l) := R05_Table_eq h l hs hb (by unfold big; omega)
    have a3 : F_move_Compact h l = some (compS h l) := move_Compact_eq h l hs hl
    have a4 : F_R05_Compact h l = some (compS h l) := R05_Compact_eq h l hs hb hl
    exact mtellsM _ _ _ _ _ _ (compS h l).1.Objs (compS h l).1.Cap (compS h l).1.Last (tableS h l).1 (compS h l).2.1 (tableS h l).2 (compS h l).2.2 (valP t v).1 (valP t v).2 hb1 h2 h3 h4 a1 a2 a3 a4
      (move_Value_eq t v) (R05_Value_eq t v) (by rw [R03_Ints_eq _ _ s3]; simp) (by have := R03_Same_eq (compS h l).1 (compS h l).1 s1; simpa using this) (by rw [R03_Ints_eq _ _ s2]; simp)
theorem moveWhole (h : GHeap) (l : List Int) (hs : Slim h) (hb : BitsR h) (hl : l.length ≤ 1048576) : cO Try.prog lore 22 [D.agg [D.t (T.sl 6 (els h.Objs)), I h.Cap, I h.Last], D.t (T.sl 1 (els l))] [] = some (.val (Bo true), []) := by
  obtain ⟨b, hb1⟩ := R03_Small_ex h hs.1
  cases b with
  | false => exact mwhole0 _ _ _ _ hb1
  | true =>
    have hm : F_R03_May h = some (dec (OkHeap h)) := R03_May_eq h hs hb
    cases ho : dec (OkHeap h) with
    | false => exact mwhole1 _ _ _ _ hb1 (hm.trans (by rw [ho]))
    | true =>
      have hm' : F_R03_May h = some true := hm.trans (by rw [ho])
      by_cases h2 : (h.Objs.length : Int) ≤ 40
      case neg => exact mwhole2 _ _ _ _ hb1 hm' h2
      by_cases h3 : (l.length : Int) ≤ 100
      case neg => exact mwhole3 _ _ _ _ hb1 hm' h2 h3
      have o := dec_iff.1 ho
      have a3 : F_move_Compact h l = some (compS h l) := move_Compact_eq h l hs hl
      cases hro : rootsB h l with
      | false =>
        rw [compS_no o hro] at a3
        exact mwholeE _ _ _ _ 31 hb1 hm' h2 h3 a3 (by omega) (by rw [R03_Same_eq _ _ zero_slim]; simp)
      | true =>
        have r := rootsB_iff.1 hro
        have sh := liveShut o r
        rw [compS_ok o hro rfl] at a3
        have sl := by_slim hs o live_lt (live_nodup (rs := l))
        have sb : BitsR (h.by (liveH h l)) := by_bits hb live_lt
        have ok := o.by sh
        have r' := by_roots o r sh
        have hr' : rootsB (h.by (liveH h l)) (l.map (num (liveH h l))) = true := rootsB_iff.2 r'
        have hlen : (l.map (num (liveH h l))).length ≤ 1048576 := by rw [List.length_map]; exact hl
        have a5 : F_R04_Live (h.by (liveH h l)) (l.map (num (liveH h l))) = some (liveI (h.by (liveH h l)) (l.map (num (liveH h l))), 0) := by
          rw [R04_Live_eq _ _ sl sb (by unfold big; omega)]
          unfold liveS
          rw [dec_true ok, if_pos rfl, if_pos hr']
        have a6 : F_move_Compact (h.by (liveH h l)) (l.map (num (liveH h l))) = some (h.by (liveH h l), l.map (num (liveH h l)), 0) := by
          rw [move_Compact_eq _ _ sl hlen, compS_ok ok hr' rfl, comp_again o r, roots_again o r]
        have a7 : F_R03_May (h.by (liveH h l)) = some true := by rw [R03_May_eq _ sl sb, dec_true ok]
        have hll : (liveI (h.by (liveH h l)) (l.map (num (liveH h l)))).length = (h.by (liveH h l)).Objs.length := by
          unfold liveI
          rw [List.length_map, live_again o r, List.length_range]
          exact (by_n h (liveH h l)).symm
        exact mwholeM _ _ _ _ (h.by (liveH h l)).Objs (h.by (liveH h l)).Cap (h.by (liveH h l)).Last _ _ hb1 hm' h2 h3 a3 a5 a6 a7 (by rw [hll]) (by have := R03_Same_eq _ (h.by (liveH h l)) sl; simpa using this) (by rw [R03_Ints_eq _ _ (by unfold big; omega)]; simp)
theorem dat_obj (h : GHeap) {i : Nat} (hi : i < h.Objs.length) : h.dat i = (h.Objs[i].Kind, h.Objs[i].Text, h.Objs[i].Bits, h.Objs[i].Hash) := by
  unfold GHeap.dat
  rw [atN_get _ i hi]; rfl
theorem moveRoom (h : GHeap) (l : List Int) (hs : Slim h) (hb : BitsR h) (hl : l.length ≤ 1048576) : F_L05_MoveRoom h l = some true := by
  unfold F_L05_MoveRoom
  obtain ⟨b, hb1⟩ := R03_Small_ex h hs.1
  rw [hb1, ob_some]
  cases b with
  | false => rw [if_neg (by simp)]
  | true =>
    rw [if_pos rfl, R03_May_eq h hs hb, ob_some]
    cases ho : dec (OkHeap h) with
    | false => rw [if_neg (by simp)]
    | true =>
      rw [if_pos rfl]
      by_cases h2 : (h.Objs.length : Int) ≤ 40
      case neg => rw [if_neg h2]
      by_cases h3 : (100 : Int) < l.length
      case pos => rw [if_pos h2, if_pos h3]
      have o := dec_iff.1 ho
      rw [if_pos h2, if_neg h3, R04_Live_eq h l hs hb (by unfold big; omega), ob_some, move_Compact_eq h l hs hl, ob_some]
      cases hro : rootsB h l with
      | false =>
        rw [compS_no o hro]
        unfold liveS
        rw [ho, hro]
        simp only [if_true, Bool.false_eq_true, if_false]
        rw [if_pos (by simp), iterO_eq]
        simp [s0_L05_MoveRoom]
      | true =>
        have r := rootsB_iff.1 hro
        have hn := o.small
        have hll := live_len (h := h) l
        rw [compS_ok o hro rfl]
        unfold liveS
        rw [ho, hro]
        simp only [if_true]
        have e1 : (h.by (liveH h l)).Objs.length = (liveH h l).length := by simp [GHeap.by]
        have e2 : (liveI h l).length = (liveH h l).length := by simp [liveI]
        rw [if_pos (by omega)]
        obtain ⟨t, ht, hh⟩ := iter_allI (liveH h l).length (fun _ => true) (S := fun p => s0_L05_MoveRoom (liveI h l) 0 h.Objs h.Cap h.Last (h.by (liveH h l)).Objs (h.by (liveH h l)).Cap (h.by (liveH h l)).Last p) (fun _ => false) (fun k hk => by
          have hq : atI (liveI h l) (k : Int) = (((liveH h l)[k] : Nat) : Int) := by
            rw [atI_nat _ k (by omega)]
            simp [liveI]
          have hi : (liveH h l)[k] < h.Objs.length := live_lt _ (List.getElem_mem hk)
          have hy : atI (h.by (liveH h l)).Objs (k : Int) = (h.Objs[(liveH h l)[k]]).by (liveH h l) := by
            rw [atI_nat _ k (by omega)]
            simp [GHeap.by, atN_get _ _ hi]
          simp only [s0_L05_MoveRoom, hq, hy, atI_nat h.Objs _ hi]
          rw [if_pos (by omega), if_pos (by omega), if_pos (by omega), if_pos (by omega), w64_id (by omega) (by omega)]
          simp [GObj.by]) (by
          simp only [s0_L05_MoveRoom]
          rw [if_neg (by omega)])
        rw [ht, ob_some]
        cases t with
        | inl b => obtain ⟨k, _, _, hf, _⟩ := hh; cases hf
        | inr u =>
          rw [sm_inr]
          have e3 : (h.by (liveH h l)).Cap = h.Cap := rfl
          have e4 : (h.by (liveH h l)).Last = h.Last := rfl
          rw [if_pos e3, e4]
          simp
def endP (x : Option Int) : Int × Bool := match x with | some v => (v, true) | none => (0, false)
theorem end_eq (h : GHeap) (o : OkHeap h) (ws : List Int) (v : Int) (hw : ws.length ≤ 1048576) : F_L05_end h v ws = some (endP (endS h ws v)) := by
  unfold F_L05_end
  have en : GHeap.n h = h.Objs.length := rfl
  have key : ∀ (d k : Nat) (v : Int), k + d = ws.length → ∃ r, iterO (fun p : Int × Int => s0_L05_end ws h.Objs h.Cap h.Last p.fst p.snd) (v, (k : Int)) = some r ∧ (sm r (fun a => some (a.snd.fst, a.snd.snd)) fun a => some (a, true)) = some (endP (endS h (ws.drop k) v)) := by
    intro d
    induction d with
    | zero =>
      intro k v hk
      refine ⟨.inr v, ?_, ?_⟩
      · rw [iterO_eq]
        simp only [s0_L05_end]
        rw [if_neg (by omega)]
      · rw [List.drop_eq_nil_of_le (by omega)]; rfl
    | succ d ih =>
      intro k v hk
      have hkl : k < ws.length := by omega
      rw [List.drop_eq_getElem_cons hkl, iterO_eq]
      simp only [s0_L05_end, atI_nat _ k hkl]
      rw [if_pos (by omega), R03_Ref_eq, ob_some, w64_id (by omega) (by omega)]
      by_cases hr : 0 ≤ refI h.n v
      · obtain ⟨i, e1, h1⟩ := refI_nonneg.1 hr
        have hio : i < h.Objs.length := h1
        have e := refI_of e1 h1
        have e' : refI (GHeap.n { Objs := h.Objs, Cap := h.Cap, Last := h.Last }) v = (i : Int) := e
        have hobj : atN h.Objs i = h.Objs[i] := atN_get _ _ hio
        have hns := (o.objs _ (List.getElem_mem hio)).nslots
        rw [e', if_neg (by omega), if_pos (by omega), end_ref e, hobj]
        simp only [atI_nat h.Objs i hio]
        rw [if_pos (by omega)]
        by_cases h3 : ws[k] = -1
        · rw [if_pos h3, if_pos h3]
          exact ih (k + 1) _ (by omega)
        · rw [if_neg h3, if_neg h3, if_pos (by omega)]
          by_cases h4 : 0 ≤ ws[k]
          · rw [if_pos h4, if_pos (by omega)]
            by_cases h5 : (h.Objs[i].Slots.length : Int) ≤ ws[k]
            · rw [if_pos h5, if_pos (.inr h5)]
              exact ⟨_, rfl, rfl⟩
            · have h6 : ws[k].toNat < h.Objs[i].Slots.length := by omega
              have e6 : atI h.Objs[i].Slots ws[k] = h.Objs[i].Slots.getD ws[k].toNat 0 := by
                have : ws[k] = ((ws[k].toNat : Nat) : Int) := by omega
                rw [this, atI_nat _ _ h6, Int.toNat_natCast, List.getD_eq_getElem?_getD, List.getElem?_eq_getElem h6, Option.getD_some]
              rw [if_neg h5, if_pos (by omega), if_pos (by omega), if_neg (by omega), e6]
              exact ih (k + 1) _ (by omega)
          · rw [if_neg h4, if_pos (.inl (by omega))]
            exact ⟨_, rfl, rfl⟩
      · have e := refI_neg hr
        have e' : refI (GHeap.n { Objs := h.Objs, Cap := h.Cap, Last := h.Last }) v = -1 := e
        rw [e', if_pos (by omega), end_no e]
        exact ⟨_, rfl, rfl⟩
  obtain ⟨r, h1, h2⟩ := key ws.length 0 v (by omega)
  rw [show iterO (fun p : Int × Int => s0_L05_end ws h.Objs h.Cap h.Last p.fst p.snd) (v, (0 : Int)) = some r from h1, ob_some, h2, List.drop_zero]
theorem moveWays (h : GHeap) (l ws : List Int) (hs : Slim h) (hb : BitsR h) (hl : l.length ≤ 1048576) (hw : ws.length ≤ 1048576) : F_L05_MoveWays h l ws = some true := by
  unfold F_L05_MoveWays
  obtain ⟨b, hb1⟩ := R03_Small_ex h hs.1
  rw [hb1, ob_some]
  cases b with
  | false => rw [if_neg (by simp)]
  | true =>
    rw [if_pos rfl, R03_May_eq h hs hb, ob_some]
    cases ho : dec (OkHeap h) with
    | false => rw [if_neg (by simp)]
    | true =>
      rw [if_pos rfl]
      by_cases h2 : (h.Objs.length : Int) ≤ 40
      case neg => rw [if_neg h2]
      by_cases h3 : (l.length : Int) ≤ 100
      case neg => rw [if_pos h2, if_neg h3]
      by_cases h4 : (50 : Int) < ws.length
      case pos => rw [if_pos h2, if_pos h3, if_pos h4]
      have o := dec_iff.1 ho
      rw [if_pos h2, if_pos h3, if_neg h4, move_Compact_eq h l hs hl, ob_some]
      cases hro : rootsB h l with
      | false =>
        rw [compS_no o hro]
        rfl
      | true =>
        have r := rootsB_iff.1 hro
        have sh := liveShut o r
        have hn := o.small
        have hll := live_len (h := h) l
        have ok := o.by sh
        obtain ⟨R, hR, iso⟩ := by_same o sh
        rw [compS_ok o hro rfl]
        simp only [if_true]
        obtain ⟨t, ht, hh⟩ := iter_allI l.length (fun _ => true) (S := fun p => s0_L05_MoveWays l ws (l.map (num (liveH h l))) h.Objs h.Cap h.Last (h.by (liveH h l)).Objs (h.by (liveH h l)).Cap (h.by (liveH h l)).Last p) (fun _ => false) (fun k hk => by
          have hkm : k < (l.map (num (liveH h l))).length := by rw [List.length_map]; exact hk
          have hvr := iso.roots.get k hk hkm
          have e1 : F_L05_end { Objs := h.Objs, Cap := h.Cap, Last := h.Last } l[k] ws = some (endP (endS h ws l[k])) := end_eq h o ws _ hw
          have e2 : F_L05_end { Objs := (h.by (liveH h l)).Objs, Cap := (h.by (liveH h l)).Cap, Last := (h.by (liveH h l)).Last } (l.map (num (liveH h l)))[k] ws = some (endP (endS (h.by (liveH h l)) ws (l.map (num (liveH h l)))[k])) := end_eq (h.by (liveH h l)) ok ws _ hw
          simp only [s0_L05_MoveWays, atI_nat l k hk, atI_nat _ k hkm]
          rw [if_pos (by omega), if_pos (by rw [List.length_map]), if_pos (by omega), e1, ob_some, if_pos (by rw [List.length_map]; omega), e2, ob_some, w64_id (by omega) (by omega)]
          rcases end_same hR iso ws _ _ hvr with ⟨f1, f2⟩ | ⟨v, w, f1, f2, hvw⟩
          · rw [f1, f2]
            simp only [endP, if_true, Bool.false_eq_true, if_false]
            rw [R01_N_eq, ob_some]
            rfl
          · have hhas := end_has o ws _ _ (r _ (List.getElem_mem hk)) f1
            rw [f1, f2]
            simp only [endP, if_true]
            rw [R01_N_eq, ob_some, nP_snd]
            cases hvw with
            | n e =>
              have hnv : (n? v).isSome = true := by
                rcases hasB_iff.1 hhas with h5 | ⟨i, h5, _⟩
                · exact h5
                · rw [e] at h5; cases h5
              rw [hnv, if_pos rfl]
              exact (if_pos rfl).trans rfl
            | r e e' hr =>
              rename_i i j
              obtain ⟨h5, h6⟩ := hR i j hr
              have h5o : i < h.Objs.length := h5
              have h6o : j < (h.by (liveH h l)).Objs.length := h6
              have r1 : refI (GHeap.n { Objs := h.Objs, Cap := h.Cap, Last := h.Last }) v = (i : Int) := refI_of e h5
              have r2 : refI (GHeap.n { Objs := (h.by (liveH h l)).Objs, Cap := (h.by (liveH h l)).Cap, Last := (h.by (liveH h l)).Last }) w = (j : Int) := refI_of e' h6
              obtain ⟨hd, hv⟩ := iso.step i j hr
              rw [dat_obj h h5o, dat_obj _ h6o] at hd
              rw [vals_obj h i h5o, vals_obj _ j h6o] at hv
              simp only [Prod.mk.injEq] at hd
              obtain ⟨d1, d2, d3, d4⟩ := hd
              have d5 : h.Objs[i].Slots.length = ((h.by (liveH h l)).Objs[j]).Slots.length := by
                have := hv.len
                simpa using this
              rw [n_at e, if_neg (by simp), R03_Ref_eq, ob_some, r1, if_pos (by omega), R03_Ref_eq, ob_some, r2, if_neg (by omega), ob_some, if_pos (by omega), atI_nat h.Objs i h5o, atI_nat _ j h6o, if_pos d1, if_pos d2, if_pos d3, if_pos d4, if_pos (by omega)]
              rfl) (by
          simp only [s0_L05_MoveWays]
          rw [if_neg (by omega)])
        rw [show iterO (fun p => s0_L05_MoveWays l ws (l.map (num (liveH h l))) h.Objs h.Cap h.Last (h.by (liveH h l)).Objs (h.by (liveH h l)).Cap (h.by (liveH h l)).Last p) (0 : Int) = some t from ht, ob_some]
        cases t with
        | inl b => obtain ⟨k, _, _, hf, _⟩ := hh; cases hf
        | inr u => rfl
end Go.Pv

namespace Go.Pv
open Go Go.Proofs
set_option maxRecDepth 100000
set_option maxHeartbeats 0
set_option linter.unusedSimpArgs false
set_option linter.unusedVariables false
theorem mvals0 (h_0 : List GObj) (h_1 h_2 : Int) (r : List Int) (x_0 x_1 : Int) (g1 : F_R03_Small ({ Objs := h_0, Cap := h_1, Last := h_2 : GHeap }) = some false) :
    cO Try.prog lore 25 [D.agg [D.t (T.sl 6 (els h_0)), I h_1, I h_2], D.t (T.sl 1 (els r)), D.agg [I x_0, I x_1]] [] = some (.val (Bo true), []) := by
  rw [cO_eq (R := lore) rfl Try.func25 rfl]
  show wrapThen h25.res (endThen Try.prog h25.shr _ (eO Try.prog h25 (cO Try.prog lore) _ _)) = _
  simp (decide := true) (maxSteps := 10000000) [Try.f25, g1]
theorem mvals1 (h_0 : List GObj) (h_1 h_2 : Int) (r : List Int) (x_0 x_1 : Int) (g1 : F_R03_Small ({ Objs := h_0, Cap := h_1, Last := h_2 : GHeap }) = some true) (g2 : F_R03_May ({ Objs := h_0, Cap := h_1, Last := h_2 : GHeap }) = some false) :
    cO Try.prog lore 25 [D.agg [D.t (T.sl 6 (els h_0)), I h_1, I h_2], D.t (T.sl 1 (els r)), D.agg [I x_0, I x_1]] [] = some (.val (Bo true), []) := by
  rw [cO_eq (R := lore) rfl Try.func25 rfl]
  show wrapThen h25.res (endThen Try.prog h25.shr _ (eO Try.prog h25 (cO Try.prog lore) _ _)) = _
  simp (decide := true) (maxSteps := 10000000) [Try.f25, g1, g2]
theorem mvals2 (h_0 : List GObj) (h_1 h_2 : Int) (r : List Int) (x_0 x_1 : Int) (g1 : F_R03_Small ({ Objs := h_0, Cap := h_1, Last := h_2 : GHeap }) = some true) (g2 : F_R03_May ({ Objs := h_0, Cap := h_1, Last := h_2 : GHeap }) = some true) (g3 : ¬ (h_0.length : Int) ≤ 40) :
    cO Try.prog lore 25 [D.agg [D.t (T.sl 6 (els h_0)), I h_1, I h_2], D.t (T.sl 1 (els r)), D.agg [I x_0, I x_1]] [] = some (.val (Bo true), []) := by
  rw [cO_eq (R := lore) rfl Try.func25 rfl]
  show wrapThen h25.res (endThen Try.prog h25.shr _ (eO Try.prog h25 (cO Try.prog lore) _ _)) = _
  simp (decide := true) (maxSteps := 10000000) [Try.f25, g1, g2, g3]
theorem mvals3 (h_0 : List GObj) (h_1 h_2 : Int) (r : List Int) (x_0 x_1 : Int) (g1 : F_R03_Small ({ Objs := h_0, Cap := h_1, Last := h_2 : GHeap }) = some true) (g2 : F_R03_May ({ Objs := h_0, Cap := h_1, Last := h_2 : GHeap }) = some true) (g3 : (h_0.length : Int) ≤ 40) (g4 : ¬ (r.length : Int) ≤ 100) :
    cO Try.prog lore 25 [D.agg [D.t (T.sl 6 (els h_0)), I h_1, I h_2], D.t (T.sl 1 (els r)), D.agg [I x_0, I x_1]] [] = some (.val (Bo true), []) := by
  rw [cO_eq (R := lore) rfl Try.func25 rfl]
  show wrapThen h25.res (endThen Try.prog h25.shr _ (eO Try.prog h25 (cO Try.prog lore) _ _)) = _
  simp (decide := true) (maxSteps := 10000000) [Try.f25, g1, g2, g3, g4]
theorem mvals4 (h_0 : List GObj) (h_1 h_2 : Int) (r : List Int) (x_0 x_1 : Int) (g1 : F_R03_Small ({ Objs := h_0, Cap := h_1, Last := h_2 : GHeap }) = some true) (g2 : F_R03_May ({ Objs := h_0, Cap := h_1, Last := h_2 : GHeap }) = some true) (g3 : (h_0.length : Int) ≤ 40) (g4 : (r.length : Int) ≤ 100) (g5 : F_R03_Has ({ Objs := h_0, Cap := h_1, Last := h_2 : GHeap }) x_0 = some false) :
    cO Try.prog lore 25 [D.agg [D.t (T.sl 6 (els h_0)), I h_1, I h_2], D.t (T.sl 1 (els r)), D.agg [I x_0, I x_1]] [] = some (.val (Bo true), []) := by
  rw [cO_eq (R := lore) rfl Try.func25 rfl]
  show wrapThen h25.res (endThen Try.prog h25.shr _ (eO Try.prog h25 (cO Try.prog lore) _ _)) = _
  simp (decide := true) (maxSteps := 10000000) [Try.f25, g1, g2, g3, g4, g5]
theorem mvals5 (h_0 : List GObj) (h_1 h_2 : Int) (r : List Int) (x_0 x_1 : Int) (g1 : F_R03_Small ({ Objs := h_0, Cap := h_1, Last := h_2 : GHeap }) = some true) (g2 : F_R03_May ({ Objs := h_0, Cap := h_1, Last := h_2 : GHeap }) = some true) (g3 : (h_0.length : Int) ≤ 40) (g4 : (r.length : Int) ≤ 100) (g5 : F_R03_Has ({ Objs := h_0, Cap := h_1, Last := h_2 : GHeap }) x_0 = some true) (g6 : F_R03_Has ({ Objs := h_0, Cap := h_1, Last := h_2 : GHeap }) x_1 = some false) :
    cO Try.prog lore 25 [D.agg [D.t (T.sl 6 (els h_0)), I h_1, I h_2], D.t (T.sl 1 (els r)), D.agg [I x_0, I x_1]] [] = some (.val (Bo true), []) := by
  rw [cO_eq (R := lore) rfl Try.func25 rfl]
  show wrapThen h25.res (endThen Try.prog h25.shr _ (eO Try.prog h25 (cO Try.prog lore) _ _)) = _
  simp (decide := true) (maxSteps := 10000000) [Try.f25, g1, g2, g3, g4, g5, g6]
theorem mvalsE (h_0 : List GObj) (h_1 h_2 : Int) (r : List Int) (x_0 x_1 : Int) (t l : List Int) (e : Int) (g1 : F_R03_Small ({ Objs := h_0, Cap := h_1, Last := h_2 : GHeap }) = some true) (g2 : F_R03_May ({ Objs := h_0, Cap := h_1, Last := h_2 : GHeap }) = some true) (g3 : (h_0.length : Int) ≤ 40) (g4 : (r.length : Int) ≤ 100) (g5 : F_R03_Has ({ Objs := h_0, Cap := h_1, Last := h_2 : GHeap }) x_0 = some true) (g6 : F_R03_Has ({ Objs := h_0, Cap := h_1, Last := h_2 : GHeap }) x_1 = some true) (g7 : F_move_Table ({ Objs := h_0, Cap := h_1, Last := h_2 : GHeap }) r = some (t, e)) (g8 : F_R04_Live ({ Objs := h_0, Cap := h_1, Last := h_2 : GHeap }) r = some (l, e)) (g9 : ¬ e = 0) :
    cO Try.prog lore 25 [D.agg [D.t (T.sl 6 (els h_0)), I h_1, I h_2], D.t (T.sl 1 (els r)), D.agg [I x_0, I x_1]] [] = some (.val (Bo true), []) := by
  rw [cO_eq (R := lore) rfl Try.func25 rfl]
  show wrapThen h25.res (endThen Try.prog h25.shr _ (eO Try.prog h25 (cO Try.prog lore) _ _)) = _
  simp (decide := true) (maxSteps := 10000000) [Try.f25, g1, g2, g3, g4, g5, g6, g7, g8, g9]
end Go.Pv

namespace Go.Pv
open Go Go.Proofs
set_option maxRecDepth 100000
set_option maxHeartbeats 0
set_option linter.unusedSimpArgs false
set_option linter.unusedVariables false
theorem mvals11 (h_0 : List GObj) (h_1 h_2 : Int) (r : List Int) (x_0 x_1 : Int) (t l : List Int) (i k v w : Int) (g1 : F_R03_Small ({ Objs := h_0, Cap := h_1, Last := h_2 : GHeap }) = some true) (g2 : F_R03_May ({ Objs := h_0, Cap := h_1, Last := h_2 : GHeap }) = some true) (g3 : (h_0.length : Int) ≤ 40) (g4 : (r.length : Int) ≤ 100) (g5 : F_R03_Has ({ Objs := h_0, Cap := h_1, Last := h_2 : GHeap }) x_0 = some true) (g6 : F_R03_Has ({ Objs := h_0, Cap := h_1, Last := h_2 : GHeap }) x_1 = some true) (g7 : F_move_Table ({ Objs := h_0, Cap := h_1, Last := h_2 : GHeap }) r = some (t, 0)) (g8 : F_R04_Live ({ Objs := h_0, Cap := h_1, Last := h_2 : GHeap }) r = some (l, 0)) (g9 : F_R03_Ref ({ Objs := h_0, Cap := h_1, Last := h_2 : GHeap }) x_0 = some i) (g10 : F_R03_Ref ({ Objs := h_0, Cap := h_1, Last := h_2 : GHeap }) x_1 = some k) (g11 : F_move_Value t x_0 = some (v, true)) (g12 : F_move_Value t x_1 = some (w, true)) (g13 : i < 0) (g14 : k < 0) (g15 : (v == w) = (x_0 == x_1)) :
    cO Try.prog lore 25 [D.agg [D.t (T.sl 6 (els h_0)), I h_1, I h_2], D.t (T.sl 1 (els r)), D.agg [I x_0, I x_1]] [] = some (.val (Bo true), []) := by
  rw [cO_eq (R := lore) rfl Try.func25 rfl]
  show wrapThen h25.res (endThen Try.prog h25.shr _ (eO Try.prog h25 (cO Try.prog lore) _ _)) = _
  simp (decide := true) (maxSteps := 10000000) [Try.f25, g1, g2, g3, g4, g5, g6, g7, g8, g9, g10, g11, g12, g13, g14, g15]
theorem mvals10 (h_0 : List GObj) (h_1 h_2 : Int) (r : List Int) (x_0 x_1 : Int) (t l : List Int) (i k v w : Int) (g1 : F_R03_Small ({ Objs := h_0, Cap := h_1, Last := h_2 : GHeap }) = some true) (g2 : F_R03_May ({ Objs := h_0, Cap := h_1, Last := h_2 : GHeap }) = some true) (g3 : (h_0.length : Int) ≤ 40) (g4 : (r.length : Int) ≤ 100) (g5 : F_R03_Has ({ Objs := h_0, Cap := h_1, Last := h_2 : GHeap }) x_0 = some true) (g6 : F_R03_Has ({ Objs := h_0, Cap := h_1, Last := h_2 : GHeap }) x_1 = some true) (g7 : F_move_Table ({ Objs := h_0, Cap := h_1, Last := h_2 : GHeap }) r = some (t, 0)) (g8 : F_R04_Live ({ Objs := h_0, Cap := h_1, Last := h_2 : GHeap }) r = some (l, 0)) (g9 : F_R03_Ref ({ Objs := h_0, Cap := h_1, Last := h_2 : GHeap }) x_0 = some i) (g10 : F_R03_Ref ({ Objs := h_0, Cap := h_1, Last := h_2 : GHeap }) x_1 = some k) (g11 : F_move_Value t x_0 = some (v, true)) (g12 : F_move_Value t x_1 = some (w, true)) (g13 : i < 0) (g14 : ¬ k < 0) (g15 : F_R04_In l k = some true) (g16 : (v == w) = (x_0 == x_1)) :
    cO Try.prog lore 25 [D.agg [D.t (T.sl 6 (els h_0)), I h_1, I h_2], D.t (T.sl 1 (els r)), D.agg [I x_0, I x_1]] [] = some (.val (Bo true), []) := by
  rw [cO_eq (R := lore) rfl Try.func25 rfl]
  show wrapThen h25.res (endThen Try.prog h25.shr _ (eO Try.prog h25 (cO Try.prog lore) _ _)) = _
  simp (decide := true) (maxSteps := 10000000) [Try.f25, g1, g2, g3, g4, g5, g6, g7, g8, g9, g10, g11, g12, g13, g14, g15, g16]
theorem mvals10f (h_0 : List GObj) (h_1 h_2 : Int) (r : List Int) (x_0 x_1 : Int) (t l : List Int) (i k v w : Int) (g1 : F_R03_Small ({ Objs := h_0, Cap := h_1, Last := h_2 : GHeap }) = some true) (g2 : F_R03_May ({ Objs := h_0, Cap := h_1, Last := h_2 : GHeap }) = some true) (g3 : (h_0.length : Int) ≤ 40) (g4 : (r.length : Int) ≤ 100) (g5 : F_R03_Has ({ Objs := h_0, Cap := h_1, Last := h_2 : GHeap }) x_0 = some true) (g6 : F_R03_Has ({ Objs := h_0, Cap := h_1, Last := h_2 : GHeap }) x_1 = some true) (g7 : F_move_Table ({ Objs := h_0, Cap := h_1, Last := h_2 : GHeap }) r = some (t, 0)) (g8 : F_R04_Live ({ Objs := h_0, Cap := h_1, Last := h_2 : GHeap }) r = some (l, 0)) (g9 : F_R03_Ref ({ Objs := h_0, Cap := h_1, Last := h_2 : GHeap }) x_0 = some i) (g10 : F_R03_Ref ({ Objs := h_0, Cap := h_1, Last := h_2 : GHeap }) x_1 = some k) (g11 : F_move_Value t x_0 = some (v, true)) (g12 : F_move_Value t x_1 = some (w, false)) (g13 : i < 0) (g14 : ¬ k < 0) (g15 : F_R04_In l k = some false) :
    cO Try.prog lore 25 [D.agg [D.t (T.sl 6 (els h_0)), I h_1, I h_2], D.t (T.sl 1 (els r)), D.agg [I x_0, I x_1]] [] = some (.val (Bo true), []) := by
  rw [cO_eq (R := lore) rfl Try.func25 rfl]
  show wrapThen h25.res (endThen Try.prog h25.shr _ (eO Try.prog h25 (cO Try.prog lore) _ _)) = _
  simp (decide := true) (maxSteps := 10000000) [Try.f25, g1, g2, g3, g4, g5, g6, g7, g8, g9, g10, g11, g12, g13, g14, g15]
theorem mvals01 (h_0 : List GObj) (h_1 h_2 : Int) (r : List Int) (x_0 x_1 : Int) (t l : List Int) (i k v w : Int) (g1 : F_R03_Small ({ Objs := h_0, Cap := h_1, Last := h_2 : GHeap }) = some true) (g2 : F_R03_May ({ Objs := h_0, Cap := h_1, Last := h_2 : GHeap }) = some true) (g3 : (h_0.length : Int) ≤ 40) (g4 : (r.length : Int) ≤ 100) (g5 : F_R03_Has ({ Objs := h_0, Cap := h_1, Last := h_2 : GHeap }) x_0 = some true) (g6 : F_R03_Has ({ Objs := h_0, Cap := h_1, Last := h_2 : GHeap }) x_1 = some true) (g7 : F_move_Table ({ Objs := h_0, Cap := h_1, Last := h_2 : GHeap }) r = some (t, 0)) (g8 : F_R04_Live ({ Objs := h_0, Cap := h_1, Last := h_2 : GHeap }) r = some (l, 0)) (g9 : F_R03_Ref ({ Objs := h_0, Cap := h_1, Last := h_2 : GHeap }) x_0 = some i) (g10 : F_R03_Ref ({ Objs := h_0, Cap := h_1, Last := h_2 : GHeap }) x_1 = some k) (g11 : F_move_Value t x_0 = some (v, true)) (g12 : F_move_Value t x_1 = some (w, true)) (g13 : ¬ i < 0) (g14 : F_R04_In l i = some true) (g15 : k < 0) (g16 : (v == w) = (x_0 == x_1)) :
    cO Try.prog lore 25 [D.agg [D.t (T.sl 6 (els h_0)), I h_1, I h_2], D.t (T.sl 1 (els r)), D.agg [I x_0, I x_1]] [] = some (.val (Bo true), []) := by
  rw [cO_eq (R := lore) rfl Try.func25 rfl]
  show wrapThen h25.res (endThen Try.prog h25.shr _ (eO Try.prog h25 (cO Try.prog lore) _ _)) = _
  simp (decide := true) (maxSteps := 10000000) [Try.f25, g1, g2, g3, g4, g5, g6, g7, g8, g9, g10, g11, g12, g13, g14, g15, g16]
theorem mvals01f (h_0 : List GObj) (h_1 h_2 : Int) (r : List Int) (x_0 x_1 : Int) (t l : List Int) (i k v w : Int) (g1 : F_R03_Small ({ Objs := h_0, Cap := h_1, Last := h_2 : GHeap }) = some true) (g2 : F_R03_May ({ Objs := h_0, Cap := h_1, Last := h_2 : GHeap }) = some true) (g3 : (h_0.length : Int) ≤ 40) (g4 : (r.length : Int) ≤ 100) (g5 : F_R03_Has ({ Objs := h_0, Cap := h_1, Last := h_2 : GHeap }) x_0 = some true) (g6 : F_R03_Has ({ Objs := h_0, Cap := h_1, Last := h_2 : GHeap }) x_1 = some true) (g7 : F_move_Table ({ Objs := h_0, Cap := h_1, Last := h_2 : GHeap }) r = some (t, 0)) (g8 : F_R04_Live ({ Objs := h_0, Cap := h_1, Last := h_2 : GHeap }) r = some (l, 0)) (g9 : F_R03_Ref ({ Objs := h_0, Cap := h_1, Last := h_2 : GHeap }) x_0 = some i) (g10 : F_R03_Ref ({ Objs := h_0, Cap := h_1, Last := h_2 : GHeap }) x_1 = some k) (g11 : F_move_Value t x_0 = some (v, false)) (g12 : F_move_Value t x_1 = some (w, true)) (g13 : ¬ i < 0) (g14 : F_R04_In l i = some false) (g15 : k < 0) :
    cO Try.prog lore 25 [D.agg [D.t (T.sl 6 (els h_0)), I h_1, I h_2], D.t (T.sl 1 (els r)), D.agg [I x_0, I x_1]] [] = some (.val (Bo true), []) := by
  rw [cO_eq (R := lore) rfl Try.func25 rfl]
  show wrapThen h25.res (endThen Try.prog h25.shr _ (eO Try.prog h25 (cO Try.prog lore) _ _)) = _
  simp (decide := true) (maxSteps := 10000000) [Try.f25, g1, g2, g3, g4, g5, g6, g7, g8, g9, g10, g11, g12, g13, g14, g15]
end Go.Pv

namespace Go.Pv
open Go Go.Proofs
set_option maxRecDepth 100000
set_option maxHeartbeats 0
set_option linter.unusedSimpArgs false
set_option linter.unusedVariables false
theorem mvals00 (h_0 : List GObj) (h_1 h_2 : Int) (r : List Int) (x_0 x_1 : Int) (t l : List Int) (i k v w : Int) (g1 : F_R03_Small ({ Objs := h_0, Cap := h_1, Last := h_2 : GHeap }) = some true) (g2 : F_R03_May ({ Objs := h_0, Cap := h_1, Last := h_2 : GHeap }) = some true) (g3 : (h_0.length : Int) ≤ 40) (g4 : (r.length : Int) ≤ 100) (g5 : F_R03_Has ({ Objs := h_0, Cap := h_1, Last := h_2 : GHeap }) x_0 = some true) (g6 : F_R03_Has ({ Objs := h_0, Cap := h_1, Last := h_2 : GHeap }) x_1 = some true) (g7 : F_move_Table ({ Objs := h_0, Cap := h_1, Last := h_2 : GHeap }) r = some (t, 0)) (g8 : F_R04_Live ({ Objs := h_0, Cap := h_1, Last := h_2 : GHeap }) r = some (l, 0)) (g9 : F_R03_Ref ({ Objs := h_0, Cap := h_1, Last := h_2 : GHeap }) x_0 = some i) (g10 : F_R03_Ref ({ Objs := h_0, Cap := h_1, Last := h_2 : GHeap }) x_1 = some k) (g11 : F_move_Value t x_0 = some (v, true)) (g12 : F_move_Value t x_1 = some (w, true)) (g13 : ¬ i < 0) (g14 : F_R04_In l i = some true) (g15 : ¬ k < 0) (g16 : F_R04_In l k = some true) (g17 : (v == w) = (x_0 == x_1)) :
    cO Try.prog lore 25 [D.agg [D.t (T.sl 6 (els h_0)), I h_1, I h_2], D.t (T.sl 1 (els r)), D.agg [I x_0, I x_1]] [] = some (.val (Bo true), []) := by
  rw [cO_eq (R := lore) rfl Try.func25 rfl]
  show wrapThen h25.res (endThen Try.prog h25.shr _ (eO Try.prog h25 (cO Try.prog lore) _ _)) = _
  simp (decide := true) (maxSteps := 10000000) [Try.f25, g1, g2, g3, g4, g5, g6, g7, g8, g9, g10, g11, g12, g13, g14, g15, g16, g17]
theorem mvals00a (h_0 : List GObj) (h_1 h_2 : Int) (r : List Int) (x_0 x_1 : Int) (t l : List Int) (i k v w : Int) (g1 : F_R03_Small ({ Objs := h_0, Cap := h_1, Last := h_2 : GHeap }) = some true) (g2 : F_R03_May ({ Objs := h_0, Cap := h_1, Last := h_2 : GHeap }) = some true) (g3 : (h_0.length : Int) ≤ 40) (g4 : (r.length : Int) ≤ 100) (g5 : F_R03_Has ({ Objs := h_0, Cap := h_1, Last := h_2 : GHeap }) x_0 = some true) (g6 : F_R03_Has ({ Objs := h_0, Cap := h_1, Last := h_2 : GHeap }) x_1 = some true) (g7 : F_move_Table ({ Objs := h_0, Cap := h_1, Last := h_2 : GHeap }) r = some (t, 0)) (g8 : F_R04_Live ({ Objs := h_0, Cap := h_1, Last := h_2 : GHeap }) r = some (l, 0)) (g9 : F_R03_Ref ({ Objs := h_0, Cap := h_1, Last := h_2 : GHeap }) x_0 = some i) (g10 : F_R03_Ref ({ Objs := h_0, Cap := h_1, Last := h_2 : GHeap }) x_1 = some k) (g11 : F_move_Value t x_0 = some (v, true)) (g12 : F_move_Value t x_1 = some (w, false)) (g13 : ¬ i < 0) (g14 : F_R04_In l i = some true) (g15 : ¬ k < 0) (g16 : F_R04_In l k = some false) :
    cO Try.prog lore 25 [D.agg [D.t (T.sl 6 (els h_0)), I h_1, I h_2], D.t (T.sl 1 (els r)), D.agg [I x_0, I x_1]] [] = some (.val (Bo true), []) := by
  rw [cO_eq (R := lore) rfl Try.func25 rfl]
  show wrapThen h25.res (endThen Try.prog h25.shr _ (eO Try.prog h25 (cO Try.prog lore) _ _)) = _
  simp (decide := true) (maxSteps := 10000000) [Try.f25, g1, g2, g3, g4, g5, g6, g7, g8, g9, g10, g11, g12, g13, g14, g15, g16]
theorem mvals00b (h_0 : List GObj) (h_1 h_2 : Int) (r : List Int) (x_0 x_1 : Int) (t l : List Int) (i k v w : Int) (g1 : F_R03_Small ({ Objs := h_0, Cap := h_1, Last := h_2 : GHeap }) = some true) (g2 : F_R03_May ({ Objs := h_0, Cap := h_1, Last := h_2 : GHeap }) = some true) (g3 : (h_0.length : Int) ≤ 40) (g4 : (r.length : Int) ≤ 100) (g5 : F_R03_Has ({ Objs := h_0, Cap := h_1, Last := h_2 : GHeap }) x_0 = some true) (g6 : F_R03_Has ({ Objs := h_0, Cap := h_1, Last := h_2 : GHeap }) x_1 = some true) (g7 : F_move_Table ({ Objs := h_0, Cap := h_1, Last := h_2 : GHeap }) r = some (t, 0)) (g8 : F_R04_Live ({ Objs := h_0, Cap := h_1, Last := h_2 : GHeap }) r = some (l, 0)) (g9 : F_R03_Ref ({ Objs := h_0, Cap := h_1, Last := h_2 : GHeap }) x_0 = some i) (g10 : F_R03_Ref ({ Objs := h_0, Cap := h_1, Last := h_2 : GHeap }) x_1 = some k) (g11 : F_move_Value t x_0 = some (v, false)) (g12 : F_move_Value t x_1 = some (w, true)) (g13 : ¬ i < 0) (g14 : F_R04_In l i = some false) (g15 : ¬ k < 0) (g16 : F_R04_In l k = some true) :
    cO Try.prog lore 25 [D.agg [D.t (T.sl 6 (els h_0)), I h_1, I h_2], D.t (T.sl 1 (els r)), D.agg [I x_0, I x_1]] [] = some (.val (Bo true), []) := by
  rw [cO_eq (R := lore) rfl Try.func25 rfl]
  show wrapThen h25.res (endThen Try.prog h25.shr _ (eO Try.prog h25 (cO Try.prog lore) _ _)) = _
  simp (decide := true) (maxSteps := 10000000) [Try.f25, g1, g2, g3, g4, g5, g6, g7, g8, g9, g10, g11, g12, g13, g14, g15, g16]
theorem mvals00c (h_0 : List GObj) (h_1 h_2 : Int) (r : List Int) (x_0 x_1 : Int) (t l : List Int) (i k v w : Int) (g1 : F_R03_Small ({ Objs := h_0, Cap := h_1, Last := h_2 : GHeap }) = some true) (g2 : F_R03_May ({ Objs := h_0, Cap := h_1, Last := h_2 : GHeap }) = some true) (g3 : (h_0.length : Int) ≤ 40) (g4 : (r.length : Int) ≤ 100) (g5 : F_R03_Has ({ Objs := h_0, Cap := h_1, Last := h_2 : GHeap }) x_0 = some true) (g6 : F_R03_Has ({ Objs := h_0, Cap := h_1, Last := h_2 : GHeap }) x_1 = some true) (g7 : F_move_Table ({ Objs := h_0, Cap := h_1, Last := h_2 : GHeap }) r = some (t, 0)) (g8 : F_R04_Live ({ Objs := h_0, Cap := h_1, Last := h_2 : GHeap }) r = some (l, 0)) (g9 : F_R03_Ref ({ Objs := h_0, Cap := h_1, Last := h_2 : GHeap }) x_0 = some i) (g10 : F_R03_Ref ({ Objs := h_0, Cap := h_1, Last := h_2 : GHeap }) x_1 = some k) (g11 : F_move_Value t x_0 = some (v, false)) (g12 : F_move_Value t x_1 = some (w, false)) (g13 : ¬ i < 0) (g14 : F_R04_In l i = some false) (g15 : ¬ k < 0) (g16 : F_R04_In l k = some false) :
    cO Try.prog lore 25 [D.agg [D.t (T.sl 6 (els h_0)), I h_1, I h_2], D.t (T.sl 1 (els r)), D.agg [I x_0, I x_1]] [] = some (.val (Bo true), []) := by
  rw [cO_eq (R := lore) rfl Try.func25 rfl]
  show wrapThen h25.res (endThen Try.prog h25.shr _ (eO Try.prog h25 (cO Try.prog lore) _ _)) = _
  simp (decide := true) (maxSteps := 10000000) [Try.f25, g1, g2, g3, g4, g5, g6, g7, g8, g9, g10, g11, g12, g13, g14, g15, g16]
end Go.Pv

/- Values by a heap's table: the law in plain words. -/
namespace Go.Pv
open Go Go.Proofs
theorem num_inj {n : Nat} {l : List Nat} {v w : Int} (hv : hasB n v = true) (hw : hasB n w = true) (h1 : ∀ i, at? v = some i → i ∈ l) (h2 : ∀ i, at? w = some i → i ∈ l) (e : num l v = num l w) : v = w := by
  cases ev : at? v with
  | none =>
    rw [num_no ev] at e
    cases ew : at? w with
    | none => rw [num_no ew] at e; exact e
    | some k =>
      rw [num_at ew] at e
      have hn : (n? v).isSome = true := by
        rcases hasB_iff.1 hv with h | ⟨i, h, _⟩
        · exact h
        · rw [ev] at h; cases h
      obtain ⟨x, hx⟩ := Option.isSome_iff_exists.1 hn
      have := n_some.1 hx
      omega
  | some i =>
    rw [num_at ev] at e
    cases ew : at? w with
    | none =>
      rw [num_no ew] at e
      have hn : (n? w).isSome = true := by
        rcases hasB_iff.1 hw with h | ⟨i, h, _⟩
        · exact h
        · rw [ew] at h; cases h
      obtain ⟨x, hx⟩ := Option.isSome_iff_exists.1 hn
      have := n_some.1 hx
      omega
    | some k =>
      rw [num_at ew] at e
      obtain ⟨p1, p2⟩ := get_idxOf (h1 i ev)
      obtain ⟨q1, q2⟩ := get_idxOf (h2 k ew)
      have e' : l.idxOf i = l.idxOf k := by omega
      have : i = k := by rw [← p2, ← q2]; simp only [e']
      rw [(atv_some.1 ev).1, (atv_some.1 ew).1, this]
theorem moveValues (h : GHeap) (l : List Int) (x y : Int) (hs : Slim h) (hb : BitsR h) (hl : l.length ≤ 1048576) : cO Try.prog lore 25 [D.agg [D.t (T.sl 6 (els h.Objs)), I h.Cap, I h.Last], D.t (T.sl 1 (els l)), D.agg [I x, I y]] [] = some (.val (Bo true), []) := by
  obtain ⟨b, hb1⟩ := R03_Small_ex h hs.1
  cases b with
  | false => exact mvals0 _ _ _ _ _ _ hb1
  | true =>
  have hm : F_R03_May h = some (dec (OkHeap h)) := R03_May_eq h hs hb
  cases ho : dec (OkHeap h) with
  | false => exact mvals1 _ _ _ _ _ _ hb1 (hm.trans (by rw [ho]))
  | true =>
  have hm' : F_R03_May h = some true := hm.trans (by rw [ho])
  by_cases h2 : (h.Objs.length : Int) ≤ 40
  case neg => exact mvals2 _ _ _ _ _ _ hb1 hm' h2
  by_cases h3 : (l.length : Int) ≤ 100
  case neg => exact mvals3 _ _ _ _ _ _ hb1 hm' h2 h3
  have p0 : F_R03_Has h x = some (hasB h.n x) := R03_Has_eq h x
  have p1 : F_R03_Has h y = some (hasB h.n y) := R03_Has_eq h y
  cases k0 : hasB h.n x with
  | false => exact mvals4 _ _ _ _ _ _ hb1 hm' h2 h3 (p0.trans (by rw [k0]))
  | true =>
  have q0 : F_R03_Has h x = some true := p0.trans (by rw [k0])
  cases k1 : hasB h.n y with
  | false => exact mvals5 _ _ _ _ _ _ hb1 hm' h2 h3 q0 (p1.trans (by rw [k1]))
  | true =>
  have q1 : F_R03_Has h y = some true := p1.trans (by rw [k1])
  have o := dec_iff.1 ho
  have a1 : F_move_Table h l = some (tableS h l) := move_Table_eq h l hs (by unfold big; omega)
  have a2 : F_R04_Live h l = some (liveS h l) := R04_Live_eq h l hs hb (by unfold big; omega)
  cases hro : rootsB h l with
  | false =>
    have t1 : tableS h l = ([], 31) := by unfold tableS; rw [ho, hro]; rfl
    have t2 : liveS h l = ([], 31) := by unfold liveS; rw [ho, hro]; rfl
    rw [t1] at a1
    rw [t2] at a2
    exact mvalsE _ _ _ _ _ _ [] [] 31 hb1 hm' h2 h3 q0 q1 a1 a2 (by omega)
  | true =>
  have r := rootsB_iff.1 hro
  have hn := o.small
  have hll := live_len (h := h) l
  have t1 : tableS h l = (tab h.n (liveH h l), 0) := tableS_ok o hro rfl
  have t2 : liveS h l = (liveI h l, 0) := by unfold liveS; rw [ho, hro]; rfl
  rw [t1] at a1
  rw [t2] at a2
  have b0 : F_R03_Ref h x = some (refI h.n x) := R03_Ref_eq h x
  have b1 : F_R03_Ref h y = some (refI h.n y) := R03_Ref_eq h y
  have hin : ∀ i : Nat, F_R04_In (liveI h l) (i : Int) = some (decide (i ∈ liveH h l)) := fun i => by
    rw [R04_In_eq _ _ (by unfold liveI; rw [List.length_map]; unfold big; omega)]
    congr 1
    rw [Bool.eq_iff_iff, decide_eq_true_eq, decide_eq_true_eq]
    exact mem_cast
  have good : ∀ v, hasB h.n v = true → (∀ i, at? v = some i → i ∈ liveH h l) → F_move_Value (tab h.n (liveH h l)) v = some (num (liveH h l) v, true) := fun v hv hi => by
    rw [move_Value_eq, valP_tab (by omega) hv hi]
  have bad : ∀ v i, at? v = some i → i ∉ liveH h l → F_move_Value (tab h.n (liveH h l)) v = some (0, false) := fun v i e hi => by
    rw [move_Value_eq, valP_gone e hi]
  have eqv : (∀ i, at? x = some i → i ∈ liveH h l) → (∀ i, at? y = some i → i ∈ liveH h l) → (num (liveH h l) x == num (liveH h l) y) = (x == y) := fun h1 h2 => by
    rw [Bool.eq_iff_iff, beq_iff_eq, beq_iff_eq]
    exact ⟨num_inj k0 k1 h1 h2, fun e => by rw [e]⟩
  rcases ref_cases k0 with ⟨x1, x2⟩ | ⟨i, x1, x2, x3⟩
  · have gx : ∀ i, at? x = some i → i ∈ liveH h l := fun i e => by rw [x1] at e; cases e
    rw [x2] at b0
    rcases ref_cases k1 with ⟨y1, y2⟩ | ⟨k, y1, y2, y3⟩
    · have gy : ∀ i, at? y = some i → i ∈ liveH h l := fun i e => by rw [y1] at e; cases e
      rw [y2] at b1
      exact mvals11 _ _ _ _ _ _ _ _ _ _ _ _ hb1 hm' h2 h3 q0 q1 a1 a2 b0 b1 (good x k0 gx) (good y k1 gy) (by omega) (by omega) (eqv gx gy)
    · rw [y3] at b1
      by_cases hk : k ∈ liveH h l
      · have gy : ∀ i, at? y = some i → i ∈ liveH h l := fun i e => by rw [y1] at e; cases e; exact hk
        exact mvals10 _ _ _ _ _ _ _ _ _ _ _ _ hb1 hm' h2 h3 q0 q1 a1 a2 b0 b1 (good x k0 gx) (good y k1 gy) (by omega) (by omega) ((hin k).trans (by rw [decide_eq_true hk])) (eqv gx gy)
      · exact mvals10f _ _ _ _ _ _ _ _ _ _ _ _ hb1 hm' h2 h3 q0 q1 a1 a2 b0 b1 (good x k0 gx) (bad y k y1 hk) (by omega) (by omega) ((hin k).trans (by rw [decide_eq_false hk]))
  · rw [x3] at b0
    by_cases hi : i ∈ liveH h l
    · have gx : ∀ i, at? x = some i → i ∈ liveH h l := fun j e => by rw [x1] at e; cases e; exact hi
      rcases ref_cases k1 with ⟨y1, y2⟩ | ⟨k, y1, y2, y3⟩
      · have gy : ∀ i, at? y = some i → i ∈ liveH h l := fun i e => by rw [y1] at e; cases e
        rw [y2] at b1
        exact mvals01 _ _ _ _ _ _ _ _ _ _ _ _ hb1 hm' h2 h3 q0 q1 a1 a2 b0 b1 (good x k0 gx) (good y k1 gy) (by omega) ((hin i).trans (by rw [decide_eq_true hi])) (by omega) (eqv gx gy)
      · rw [y3] at b1
        by_cases hk : k ∈ liveH h l
        · have gy : ∀ i, at? y = some i → i ∈ liveH h l := fun i e => by rw [y1] at e; cases e; exact hk
          exact mvals00 _ _ _ _ _ _ _ _ _ _ _ _ hb1 hm' h2 h3 q0 q1 a1 a2 b0 b1 (good x k0 gx) (good y k1 gy) (by omega) ((hin i).trans (by rw [decide_eq_true hi])) (by omega) ((hin k).trans (by rw [decide_eq_true hk])) (eqv gx gy)
        · exact mvals00a _ _ _ _ _ _ _ _ _ _ _ _ hb1 hm' h2 h3 q0 q1 a1 a2 b0 b1 (good x k0 gx) (bad y k y1 hk) (by omega) ((hin i).trans (by rw [decide_eq_true hi])) (by omega) ((hin k).trans (by rw [decide_eq_false hk]))
    · rcases ref_cases k1 with ⟨y1, y2⟩ | ⟨k, y1, y2, y3⟩
      · have gy : ∀ i, at? y = some i → i ∈ liveH h l := fun i e => by rw [y1] at e; cases e
        rw [y2] at b1
        exact mvals01f _ _ _ _ _ _ _ _ _ _ _ _ hb1 hm' h2 h3 q0 q1 a1 a2 b0 b1 (bad x i x1 hi) (good y k1 gy) (by omega) ((hin i).trans (by rw [decide_eq_false hi])) (by omega)
      · rw [y3] at b1
        by_cases hk : k ∈ liveH h l
        · have gy : ∀ i, at? y = some i → i ∈ liveH h l := fun i e => by rw [y1] at e; cases e; exact hk
          exact mvals00b _ _ _ _ _ _ _ _ _ _ _ _ hb1 hm' h2 h3 q0 q1 a1 a2 b0 b1 (bad x i x1 hi) (good y k1 gy) (by omega) ((hin i).trans (by rw [decide_eq_false hi])) (by omega) ((hin k).trans (by rw [decide_eq_true hk]))
        · exact mvals00c _ _ _ _ _ _ _ _ _ _ _ _ hb1 hm' h2 h3 q0 q1 a1 a2 b0 b1 (bad x i x1 hi) (bad y k y1 hk) (by omega) ((hin i).trans (by rw [decide_eq_false hi])) (by omega) ((hin k).trans (by rw [decide_eq_false hk]))
end Go.Pv

/- What is told of the library's functions is right. -/
namespace Go.Pv
open Go Go.Proofs
def bare (h : Hint) : Hint := { h with res := [], par := [], row := [] }
@[simp] theorem bare_var (h : Hint) : (bare h).var = h.var := rfl
@[simp] theorem bare_own (h : Hint) : (bare h).own = h.own := rfl
@[simp] theorem bare_keep (h : Hint) : (bare h).keep = h.keep := rfl
@[simp] theorem bare_out (h : Hint) : (bare h).out = h.out := rfl
@[simp] theorem bare_row (h : Hint) : (bare h).row = [] := rfl
@[simp] theorem bare_shr (h : Hint) : (bare h).shr = h.shr := rfl
@[simp] theorem bare_res (h : Hint) : (bare h).res = [] := rfl
@[simp] theorem bare_par (h : Hint) : (bare h).par = [] := rfl
def lor0 : Lore := ⟨fun f => bare (hints f), fun _ => none⟩
@[simp] theorem lor0_94 : lor0.hint 94 = bare h94 := rfl
@[simp] theorem lor0_123 : lor0.hint 123 = bare h123 := rfl
@[simp] theorem lor0_146 : lor0.hint 146 = bare h146 := rfl
set_option maxRecDepth 100000
theorem clones94 : Clones Try.prog (cO Try.prog lor0) 94 30 8 80 := by
  refine ⟨by omega, fun c frs h => ?_, fun a c frs h => ?_, fun x l frs h hb ha => ?_⟩ <;> rw [cO_eq (R := lor0) rfl Try.func94 rfl] <;> show wrapThen _ (endThen _ _ _ (eO Try.prog (bare h94) _ _ _)) = _
  · simp [-D.outer, -List.all_eq_true, Try.f94, h]
  · simp [-D.outer, -List.all_eq_true, Try.f94, h]
  · simp [-D.outer, -List.all_eq_true, Try.f94, h]
    simp only [List.all_cons, Bool.and_eq_true, beq_iff_eq] at ha
    exact ⟨ha, by simpa [els_nil] using hb⟩
theorem clones123 : Clones Try.prog (cO Try.prog lor0) 123 58 6 72 := by
  refine ⟨by omega, fun c frs h => ?_, fun a c frs h => ?_, fun x l frs h hb ha => ?_⟩ <;> rw [cO_eq (R := lor0) rfl Try.func123 rfl] <;> show wrapThen _ (endThen _ _ _ (eO Try.prog (bare h123) _ _ _)) = _
  · simp [-D.outer, -List.all_eq_true, Try.f123, h]
  · simp [-D.outer, -List.all_eq_true, Try.f123, h]
  · simp [-D.outer, -List.all_eq_true, Try.f123, h]
    simp only [List.all_cons, Bool.and_eq_true, beq_iff_eq] at ha
    exact ⟨ha, by simpa [els_nil] using hb⟩
theorem clones146 : Clones Try.prog (cO Try.prog lor0) 146 3 1 8 := by
  refine ⟨by omega, fun c frs h => ?_, fun a c frs h => ?_, fun x l frs h hb ha => ?_⟩ <;> rw [cO_eq (R := lor0) rfl Try.func146 rfl] <;> show wrapThen _ (endThen _ _ _ (eO Try.prog (bare h146) _ _ _)) = _
  · simp [-D.outer, -List.all_eq_true, Try.f146, h]
  · simp [-D.outer, -List.all_eq_true, Try.f146, h]
  · simp [-D.outer, -List.all_eq_true, Try.f146, h]
    simp only [List.all_cons, Bool.and_eq_true, beq_iff_eq] at ha
    exact ⟨ha, by simpa [els_nil] using hb⟩
theorem w64_wrap (n : Int) : w64 n = RowKit.wrap64 n := by
  unfold w64 RowKit.wrap64
  simp [IntKind.wrap, IntKind.bits, IntKind.signed]
  omega
theorem canon_told : ∀ ds d, canonS ds = some d → ∀ B G frs w (vs : Array Value), FrS B G frs w → vs.size = ds.length →
    (∀ (i : Nat) u d, vs[i]? = some u → ds[i]? = some d → d.hasOwn = false ∧ VD B frs.length G vr0 w (.pn frs.length i []) u d) →
    d.outOk = true ∧ Calls Try.prog 153 vs w fun out w' => ∃ v G', out = .returned v ∧ FrS B G' frs w' ∧ Step frs.length G w G' w' ∧ VD B frs.length G' vr0 w' (.pn frs.length 0 []) v d := by
  intro ds d hs B G frs w vs F hlen hargs
  unfold canonS at hs
  split at hs
  · rename_i b
    cases hs
    obtain ⟨u, hv⟩ : ∃ u, vs = #[u] := by
      match vs, hlen with
      | ⟨[u]⟩, _ => exact ⟨u, rfl⟩
    subst hv
    have e1 := (hargs 0 u _ rfl rfl).2.sc
    subst e1
    refine ⟨rfl, (canon_any b w).mono fun r w' ⟨h1, h2⟩ => ?_⟩
    subst h1 h2
    refine ⟨_, G, rfl, F, .refl _ _ _, ?_⟩
    have e : (if nanW (IntKind.u64.wrap b).toNat = true then (9221120237041090561 : Int) else RowKit.wrap64 (IntKind.u64.wrap b).toNat) = canonF b := by
      rw [canon_val]
      unfold canonF nanB
      simp only [decide_eq_true_eq, w64_wrap]
    rw [e]
    exact VD.scal rfl
  · cases hs
theorem mixed0 : Try.prog.follows .mixedOrders = true := by kernel_rfl
theorem allTold : ToldOk Try.prog lore.told := by
  intro f s h
  have g0 : Pv.Good Try.prog (cO Try.prog lor0) := cO_good mixed0 (by intro f s h; cases h)
  unfold lore at h
  simp only at h
  split at h
  · cases h; exact clone_told g0 clones94
  · cases h; exact clone_told g0 clones123
  · cases h; exact clone_told g0 clones146
  · cases h; exact canon_told
  · cases h
end Go.Pv

/- Heaps: from the laws' arguments to plain data. -/
namespace Go.Pv
open Go Go.Proofs
abbrev iT : Ty := .int .i64
abbrev objT : Ty := .pair iT (.pair iT (.pair (.sl iT) (.pair .str (.pair iT (.pair iT .unit)))))
abbrev heapT : Ty := .pair (.sl objT) (.pair iT (.pair iT .unit))
def toObj (x : objT.den) : GObj := ⟨x.1, x.2.1, x.2.2.1, x.2.2.2.1, x.2.2.2.2.1, x.2.2.2.2.2.1⟩
def toObjs (l : (Ty.sl objT).den) : List GObj := List.map toObj l
def toHeap (x : heapT.den) : GHeap := ⟨toObjs x.1, x.2.1, x.2.2.1⟩
theorem map_enc {α β : Type} [Enc β] (e : α → List T) (f : α → β) (h : ∀ x, e x = Enc.enc (f x)) (l : List α) : List.map e l = els (List.map f l) := by
  unfold els
  rw [List.map_map]
  exact List.map_congr_left fun x _ => h x
theorem objT_enc (x : objT.den) : objT.enc x = Enc.enc (toObj x) := rfl
theorem objs_enc (l : (Ty.sl objT).den) : List.map (α := objT.den) objT.enc l = els (toObjs l) := map_enc objT.enc toObj objT_enc l
theorem ones {α : Type} (f : α → Nat) (hf : ∀ x, f x = 1) (l : List α) : (l.map f).sum = l.length := by
  induction l with
  | nil => rfl
  | cons a l ih => simp only [List.map_cons, List.sum_cons, List.length_cons, ih, hf]; omega
theorem sum_mem {α : Type} (f : α → Nat) : ∀ (l : List α) (x : α), x ∈ l → f x ≤ (l.map f).sum
  | a :: l, x, h => by
    rw [List.map_cons, List.sum_cons]
    rcases List.mem_cons.1 h with rfl | h
    · omega
    · have := sum_mem f l x h; omega
theorem sum_len {α : Type} (f : α → Nat) (hf : ∀ x, 1 ≤ f x) (l : List α) : l.length ≤ (l.map f).sum := by
  induction l with
  | nil => exact Nat.le_refl _
  | cons a l ih => have := hf a; simp only [List.map_cons, List.sum_cons, List.length_cons]; omega
theorem obj_bulk (x : objT.den) : (toObj x).Slots.length + (toObj x).Text.size + 1 ≤ objT.bulk x := by
  obtain ⟨c, kd, sl, tx, b, h, u⟩ := x
  have hs := ones (Ty.bulk iT) (fun _ => rfl) sl
  show List.length (α := iT.den) sl + ByteArray.size tx + 1 ≤ 1 + (1 + ((List.map (α := iT.den) (Ty.bulk iT) sl).sum + 1 + (ByteArray.size tx + 1 + (1 + (1 + 0)))))
  rw [hs]; omega
theorem int_wf {n : Int} (h : (Lit.int .i64 n).wf = true) : inR n := by
  simp only [Lit.wf, IntKind.min, IntKind.max, IntKind.signed, IntKind.bits, Bool.and_eq_true, decide_eq_true_eq, if_true] at h
  unfold inR
  constructor <;> omega
theorem objs_small (l : (Ty.sl objT).den) (hw : (Ty.sl objT).wf l) (hk : (Ty.sl objT).bulk l ≤ 1048576) (c la : Int) : Slim ⟨toObjs l, c, la⟩ ∧ BitsR ⟨toObjs l, c, la⟩ := by
  have h1 : (List.map (α := objT.den) objT.bulk l).sum + 1 ≤ 1048576 := hk
  have h2 := sum_len (α := objT.den) objT.bulk (fun x => by have := obj_bulk x; omega) l
  refine ⟨⟨?_, fun o ho => ?_⟩, fun o ho => ?_⟩
  · refine Nat.le_trans (Nat.le_of_eq (List.length_map (α := objT.den) toObj)) ?_
    unfold big; omega
  · obtain ⟨x, hx, rfl⟩ := List.mem_map.1 ho
    have h3 := sum_mem (α := objT.den) objT.bulk l x hx
    have h4 := obj_bulk x
    unfold big; omega
  · obtain ⟨x, hx, rfl⟩ := List.mem_map.1 ho
    have := hw.2 x hx
    obtain ⟨c, kd, sl, tx, b, h, u⟩ := x
    exact int_wf this.2.2.2.2.1
def hpD (h : GHeap) : D := .agg [.t (.sl 6 (els h.Objs)), I h.Cap, I h.Last]
theorem argD_heap (x : heapT.den) : argD heapT x = hpD (toHeap x) := by
  obtain ⟨l, c, la, u⟩ := x
  exact congrArg (fun e => D.agg [.t (.sl 6 e), I c, I la]) (objs_enc l)
theorem heap_slim (x : heapT.den) (hw : heapT.wf x) (hk : heapT.bulk x ≤ 1048576) : Slim (toHeap x) ∧ BitsR (toHeap x) := by
  obtain ⟨l, c, la, u⟩ := x
  have h1 : (Ty.sl objT).bulk l + (1 + (1 + 0)) ≤ 1048576 := hk
  exact objs_small l hw.1 (by omega) c la
theorem ints_len (l : (Ty.sl iT).den) (hk : (Ty.sl iT).bulk l ≤ 1048576) : List.length (α := Int) l ≤ 1048576 := by
  have h1 : (List.map (α := iT.den) (Ty.bulk iT) l).sum + 1 ≤ 1048576 := hk
  have h2 := ones (α := iT.den) (Ty.bulk iT) (fun _ => rfl) l
  have h3 : List.length (α := iT.den) l ≤ 1048576 := by omega
  exact h3
theorem argD_ints (l : (Ty.sl iT).den) : argD (.sl iT) l = .t (.sl 1 (els (α := Int) l)) := rfl
end Go.Pv

/- Compaction: the laws, of data. -/
namespace Go.Pv
open Go Go.Proofs
abbrev askT : Ty := .pair (.sl iT) (.pair iT .unit)
abbrev twoT : Ty := .pair iT (.pair iT .unit)
abbrev mtellT : Ty := .pair heapT (.pair (.sl iT) (.pair askT .unit))
abbrev mwholeT : Ty := .pair heapT (.pair (.sl iT) .unit)
abbrev mwaysT : Ty := .pair heapT (.pair (.sl iT) (.pair (.sl iT) .unit))
abbrev mvalsT : Ty := .pair heapT (.pair (.sl iT) (.pair twoT .unit))
theorem ch2 {f : FuncId} {a a' b b' : D} {r : Option (Res × Frames)} (h1 : a = a') (h2 : b = b') (h : cO Try.prog lore f [a', b'] [] = r) : cO Try.prog lore f [a, b] [] = r := by
  subst h1; subst h2; exact h
theorem ch3 {f : FuncId} {a a' b b' c c' : D} {r : Option (Res × Frames)} (h1 : a = a') (h2 : b = b') (h3 : c = c') (h : cO Try.prog lore f [a', b', c'] [] = r) : cO Try.prog lore f [a, b, c] [] = r := by
  subst h1; subst h2; subst h3; exact h
theorem law_moveTells (x : mtellT.den) (hx : mtellT.wf x) (hk : mtellT.bulk x ≤ 1048576) : cO Try.prog lore 21 (argDs mtellT x) [] = some (.val (Bo true), []) := by
  obtain ⟨hh, l, ⟨t, v, u⟩, w⟩ := x
  have h3 : heapT.bulk hh + ((Ty.sl iT).bulk l + (((Ty.sl iT).bulk t + (1 + 0)) + 0)) ≤ 1048576 := hk
  obtain ⟨hs, hb⟩ := heap_slim hh hx.1 (by omega)
  have hl := ints_len l (by omega)
  exact ch3 (argD_heap hh) (argD_ints l) rfl (moveTells (toHeap hh) l t v hs hb hl)
theorem law_moveWhole (x : mwholeT.den) (hx : mwholeT.wf x) (hk : mwholeT.bulk x ≤ 1048576) : cO Try.prog lore 22 (argDs mwholeT x) [] = some (.val (Bo true), []) := by
  obtain ⟨hh, l, w⟩ := x
  have h3 : heapT.bulk hh + ((Ty.sl iT).bulk l + 0) ≤ 1048576 := hk
  obtain ⟨hs, hb⟩ := heap_slim hh hx.1 (by omega)
  have hl := ints_len l (by omega)
  exact ch2 (argD_heap hh) (argD_ints l) (moveWhole (toHeap hh) l hs hb hl)
theorem law_moveWays (x : mwaysT.den) (hx : mwaysT.wf x) (hk : mwaysT.bulk x ≤ 1048576) : cO Try.prog lore 23 (argDs mwaysT x) [] = some (.val (Bo true), []) := by
  obtain ⟨hh, l, m, w⟩ := x
  have h3 : heapT.bulk hh + ((Ty.sl iT).bulk l + ((Ty.sl iT).bulk m + 0)) ≤ 1048576 := hk
  obtain ⟨hs, hb⟩ := heap_slim hh hx.1 (by omega)
  have hl := ints_len l (by omega)
  have hm := ints_len m (by omega)
  exact ch3 (argD_heap hh) (argD_ints l) (argD_ints m) ((f_L05_MoveWays (toHeap hh).Objs (toHeap hh).Cap (toHeap hh).Last l m).trans
    ((congrArg (fun o => ob o fun r : Bool => some (Res.val (D.t (T.sc (Value.bool r))), ([] : Frames))) (moveWays (toHeap hh) l m hs hb hl hm)).trans rfl))
theorem law_moveRoom (x : mwholeT.den) (hx : mwholeT.wf x) (hk : mwholeT.bulk x ≤ 1048576) : cO Try.prog lore 24 (argDs mwholeT x) [] = some (.val (Bo true), []) := by
  obtain ⟨hh, l, w⟩ := x
  have h3 : heapT.bulk hh + ((Ty.sl iT).bulk l + 0) ≤ 1048576 := hk
  obtain ⟨hs, hb⟩ := heap_slim hh hx.1 (by omega)
  have hl := ints_len l (by omega)
  exact ch2 (argD_heap hh) (argD_ints l) ((f_L05_MoveRoom (toHeap hh).Objs (toHeap hh).Cap (toHeap hh).Last l).trans
    ((congrArg (fun o => ob o fun r : Bool => some (Res.val (D.t (T.sc (Value.bool r))), ([] : Frames))) (moveRoom (toHeap hh) l hs hb hl)).trans rfl))
theorem law_moveValues (x : mvalsT.den) (hx : mvalsT.wf x) (hk : mvalsT.bulk x ≤ 1048576) : cO Try.prog lore 25 (argDs mvalsT x) [] = some (.val (Bo true), []) := by
  obtain ⟨hh, l, ⟨a, b, u⟩, w⟩ := x
  have h3 : heapT.bulk hh + ((Ty.sl iT).bulk l + ((1 + (1 + 0)) + 0)) ≤ 1048576 := hk
  obtain ⟨hs, hb⟩ := heap_slim hh hx.1 (by omega)
  have hl := ints_len l (by omega)
  exact ch3 (argD_heap hh) (argD_ints l) rfl (moveValues (toHeap hh) l a b hs hb hl)
end Go.Pv
