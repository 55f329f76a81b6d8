/- A part of the road: the interpreter of plain data and the proof that it is right. -/
import Derived.Test.YtnleijomgjhplaaM7
import Derived.Test.YtnleijomgjhplaaL7
set_option linter.unusedVariables false
set_option linter.unusedSimpArgs false
/- Numbered as met: what becomes of the roots. -/
namespace Go.Pv
theorem order_pre {h : GHeap} (o : OkHeap h) {rs : List Int} (hrr : ∀ v ∈ rs, hasB h.n v = true) : ∃ e, orderH h rs = meets [] rs ++ e := by
  have hmd : (meets ([] : List Nat) rs).Nodup := nodup_meets _ (by simp)
  have hml : ∀ i ∈ meets ([] : List Nat) rs, i < h.n := fun i hi => by
    rcases (mem_meets _).1 hi with h1 | ⟨v, h1, h2⟩
    · cases h1
    · exact hasB_at (hrr v h1) h2
  have hn := o.small
  exact (bfs_met o.fits 256 0 (meets [] rs) (by omega) (Nat.zero_le _) hmd hml).pre
theorem order_none {h : GHeap} {rs : List Int} (hn : meets [] rs = []) : orderH h rs = [] := by
  unfold orderH order
  rw [hn]
  exact bfs_end _ _ _ _ (by simp)
/-- The first root that is a ref is number 0. -/
theorem order_first {h : GHeap} (o : OkHeap h) {rs : List Int} (hrr : ∀ v ∈ rs, hasB h.n v = true) {k : Nat} (hk : k < rs.length) (hnone : meets [] (rs.take k) = []) {i : Nat} (hi : at? rs[k] = some i) : (orderH h rs).idxOf i = 0 := by
  obtain ⟨e, he⟩ := order_pre o hrr
  have h1 : meets [] (rs.take (k + 1)) = [i] := by
    rw [List.take_succ_eq_append_getElem hk, meets_app, hnone]
    show meet [] rs[k] = [i]
    rw [meet_at hi]
    simp
  have h2 : meets [] rs = meets [i] (rs.drop (k + 1)) := by
    rw [← h1, ← meets_app, List.take_append_drop]
  obtain ⟨e2, he2⟩ := meets_pre (rs.drop (k + 1)) [i]
  rw [he, h2, he2]
  simp
theorem roots_loop (h : GHeap) (o : OkHeap h) (rs : List Int) (hrr : ∀ v ∈ rs, hasB h.n v = true) (hr : rs.length ≤ 1048576) :
    iterO (fun p : Bool × Int => s0_L06_CanonRoots (rs.map (num (orderH h rs))) 0 h.Objs h.Cap h.Last rs (h.by (orderH h rs)).Objs h.Cap h.Last p.fst p.snd) (false, (0 : Int)) = some (.inr (decide (meets [] rs ≠ []))) := by
  have hn := o.small
  have ord := order_ok hn o.fits hrr
  have hlen := nodup_len h.n _ ord.nodup ord.lt
  have loop := iter_acc (S := fun p : Bool × Int => s0_L06_CanonRoots (rs.map (num (orderH h rs))) 0 h.Objs h.Cap h.Last rs (h.by (orderH h rs)).Objs h.Cap h.Last p.fst p.snd) (fun k => (decide (meets [] (rs.take k) ≠ []), (k : Int))) rs.length (b := .inr (decide (meets [] rs ≠ []))) (fun k hk => by
    have hq : atI (rs.map (num (orderH h rs))) (k : Int) = num (orderH h rs) rs[k] := by
      rw [atI_nat _ k (by rw [List.length_map]; exact hk), List.getElem_map]
    have hv := hrr _ (List.getElem_mem hk)
    have et : meets [] (rs.take (k + 1)) = meet (meets [] (rs.take k)) rs[k] := by
      rw [List.take_succ_eq_append_getElem hk, meets_app]; rfl
    simp only [s0_L06_CanonRoots, atI_nat _ k hk, hq, List.length_map]
    rw [if_pos (by omega), if_pos trivial, if_pos (by omega), R03_Ref_eq, ob_some, w64_id (by omega) (by omega), et]
    rcases ref_cases hv with ⟨h1, h2⟩ | ⟨i, h1, h2, h3⟩
    · have h2' : refI (GHeap.n { Objs := h.Objs, Cap := h.Cap, Last := h.Last }) rs[k] = -1 := h2
      rw [h2', if_pos (by omega), if_pos (by omega), if_pos (by omega), num_no h1, if_pos rfl, meet_no h1]
      rfl
    · have h3' : refI (GHeap.n { Objs := h.Objs, Cap := h.Cap, Last := h.Last }) rs[k] = (i : Int) := h3
      have him : i ∈ orderH h rs := ord.roots _ (List.getElem_mem hk) i h1
      have hlt : (orderH h rs).idxOf i < (orderH h rs).length := List.idxOf_lt_length_of_mem him
      have hnum : num (orderH h rs) rs[k] = 2 * ((orderH h rs).idxOf i : Int) := num_at h1
      have hlen' : (orderH h rs).length ≤ 256 := Nat.le_trans hlen hn
      have hR : refI (GHeap.n { Objs := (h.by (orderH h rs)).Objs, Cap := h.Cap, Last := h.Last }) (num (orderH h rs) rs[k]) = ((orderH h rs).idxOf i : Int) := by
        have e1 : at? (num (orderH h rs) rs[k]) = some ((orderH h rs).idxOf i) := by rw [hnum]; exact at_two (by omega)
        refine refI_of e1 ?_
        show (orderH h rs).idxOf i < (h.by (orderH h rs)).n
        rw [by_n]; exact hlt
      have hne : meet (meets [] (rs.take k)) rs[k] ≠ [] := by
        have : i ∈ meet (meets [] (rs.take k)) rs[k] := mem_meet.2 (.inr h1)
        exact fun e => by rw [e] at this; cases this
      rw [h3', if_neg (by omega), decide_eq_true hne]
      by_cases hs : meets [] (rs.take k) = []
      · have hz := order_first o hrr hk hs h1
        have hsd : decide (meets [] (rs.take k) ≠ []) = false := by simp [hs]
        rw [hsd, if_pos rfl, if_pos (by omega), if_pos (by rw [hnum, hz]; rfl), if_pos (by omega), R03_Ref_eq, ob_some, hR, if_neg (by omega)]
        rfl
      · have hsd : decide (meets [] (rs.take k) ≠ []) = true := by simp [hs]
        rw [hsd, if_neg (by simp), if_pos (by omega), R03_Ref_eq, ob_some, hR, if_neg (by omega)]
        rfl) (by
    simp only [s0_L06_CanonRoots]
    rw [if_neg (by omega), List.take_length])
  have loop' := loop
  simp only [List.take_zero] at loop'
  exact loop'
theorem canonRoots (x : G_anamnesislaw06_Rooted) (hs : Slim x.H) (hb : BitsR x.H) (hr : x.R.length ≤ 1048576) : F_L06_CanonRoots x = some true := by
  unfold F_L06_CanonRoots
  obtain ⟨c, hc1⟩ := R03_Small_ex x.H hs.1
  rw [hc1, ob_some]
  cases c with
  | false => rw [if_neg (by simp)]
  | true =>
    rw [if_pos rfl, R03_May_eq x.H hs hb, ob_some]
    cases ho : dec (OkHeap x.H) with
    | false => rw [if_neg (by simp)]
    | true =>
      have o := dec_iff.1 ho
      rw [if_pos rfl]
      by_cases h40 : (x.H.Objs.length : Int) ≤ 40
      case neg => rw [if_neg h40]
      by_cases h51 : (100 : Int) < x.R.length
      case pos => rw [if_pos h40, if_pos h51]
      have s0 : ofS x.H (nl Int) = (x.H.by [], [], 0) := (ofS_ok o (rs := nl Int) (l := []) rfl (order_none rfl)).trans rfl
      rw [if_pos h40, if_neg h51, canon_Of_eq x.H (nl Int) hs (by simp), ob_some, canon_Of_eq x.H x.R hs hr, ob_some, s0]
      have hby : (x.H.by []).Objs = [] := rfl
      simp only [hby, if_true]
      cases hro : rootsB x.H x.R with
      | false =>
        rw [ofS_no o hro]
        simp only
        rw [if_neg (by omega)]
        have : iterO (fun p : Bool × Int => s0_L06_CanonRoots [] 31 x.H.Objs x.H.Cap x.H.Last x.R [] 0 0 p.fst p.snd) (false, (0 : Int)) = some (.inr false) := by
          rw [iterO_eq]
          simp only [s0_L06_CanonRoots]
          by_cases h0 : (0 : Int) < x.R.length
          · rw [if_pos h0, if_neg (by omega)]
          · rw [if_neg h0]
        rw [this, ob_some]
        simp only [sm_inr]
        rw [if_neg (by omega)]
      | true =>
        have hrr := rootsB_iff.1 hro
        rw [ofS_ok o hro rfl]
        simp only [if_true, List.length_map]
        rw [show iterO (fun p : Bool × Int => s0_L06_CanonRoots (x.R.map (num (orderH x.H x.R))) 0 x.H.Objs x.H.Cap x.H.Last x.R (x.H.by (orderH x.H x.R)).Objs (x.H.by (orderH x.H x.R)).Cap (x.H.by (orderH x.H x.R)).Last p.fst p.snd) (false, (0 : Int)) = _ from roots_loop x.H o x.R hrr hr, ob_some]
        simp only [sm_inr]
        have hlen : (x.H.by (orderH x.H x.R)).Objs.length = (orderH x.H x.R).length := by simp [GHeap.by]
        rw [hlen]
        by_cases hm : meets [] x.R = []
        · rw [order_none hm]
          simp [hm]
        · obtain ⟨e, he⟩ := order_pre o hrr
          have : 0 < (orderH x.H x.R).length := by
            rw [he, List.length_append]
            have := List.length_pos_iff.2 hm
            omega
          simp [hm, this]
end Go.Pv

/- Numbered as met, the roots: the law, of data. -/
namespace Go.Pv
open Go Go.Proofs
theorem law_canonRoots (x : crootT.den) (hx : crootT.wf x) (hk : crootT.bulk x ≤ 1048576) : cO Try.prog lore 17 (argDs crootT x) [] = some (.val (Bo true), []) := by
  obtain ⟨⟨hh, l, u⟩, v⟩ := x
  have h3 : (heapT.bulk hh + ((Ty.sl iT).bulk l + 0)) + 0 ≤ 1048576 := hk
  obtain ⟨hs, hb⟩ := heap_slim hh hx.1.1 (by omega)
  have hl := ints_len l (by omega)
  show cO Try.prog lore 17 [argD rootedT (hh, l, u)] [] = _
  refine (congrArg (fun d => cO Try.prog lore 17 [d] []) (argD_rooted (hh, l, u))).trans ?_
  exact (f_L06_CanonRoots (toHeap hh).Objs (toHeap hh).Cap (toHeap hh).Last l).trans
    ((congrArg (fun o => ob o fun r : Bool => some (Res.val (D.t (T.sc (Value.bool r))), ([] : Frames))) (canonRoots ⟨toHeap hh, l⟩ hs hb hl)).trans rfl)
end Go.Pv
