/- A part of the road: the interpreter of plain data and the proof that it is right. -/
import Derived.Test.YtnleijomgjhplaaM7
import Derived.Test.YtnleijomgjhplaaR7
set_option linter.unusedVariables false
set_option linter.unusedSimpArgs false
namespace Go.Pv
open Go Go.Proofs
set_option maxRecDepth 100000
set_option maxHeartbeats 0
set_option linter.unusedSimpArgs false
set_option linter.unusedVariables false
theorem least0 (x_0 : List GObj) (x_1 x_2 : Int) (x_3 : List Int) (y_0 : List GObj) (y_1 y_2 : Int) (y_3 : List Int) (g1 : F_R03_Small ({ Objs := x_0, Cap := x_1, Last := x_2 : GHeap }) = some false) :
    cO Try.prog lore 15 [D.agg [D.t (T.sl 6 (els x_0)), I x_1, I x_2, D.t (T.sl 1 (els x_3))], D.agg [D.t (T.sl 6 (els y_0)), I y_1, I y_2, D.t (T.sl 1 (els y_3))]] [] = some (.val (Bo true), []) := by
  rw [cO_eq (R := lore) rfl Try.func15 rfl]
  show wrapThen h15.res (endThen Try.prog h15.shr _ (eO Try.prog h15 (cO Try.prog lore) _ _)) = _
  simp (decide := true) (maxSteps := 10000000) [Try.f15, g1]
theorem least1 (x_0 : List GObj) (x_1 x_2 : Int) (x_3 : List Int) (y_0 : List GObj) (y_1 y_2 : Int) (y_3 : List Int) (g1 : F_R03_Small ({ Objs := x_0, Cap := x_1, Last := x_2 : GHeap }) = some true) (g2 : F_R03_Small ({ Objs := y_0, Cap := y_1, Last := y_2 : GHeap }) = some false) :
    cO Try.prog lore 15 [D.agg [D.t (T.sl 6 (els x_0)), I x_1, I x_2, D.t (T.sl 1 (els x_3))], D.agg [D.t (T.sl 6 (els y_0)), I y_1, I y_2, D.t (T.sl 1 (els y_3))]] [] = some (.val (Bo true), []) := by
  rw [cO_eq (R := lore) rfl Try.func15 rfl]
  show wrapThen h15.res (endThen Try.prog h15.shr _ (eO Try.prog h15 (cO Try.prog lore) _ _)) = _
  simp (decide := true) (maxSteps := 10000000) [Try.f15, g1, g2]
theorem least2 (x_0 : List GObj) (x_1 x_2 : Int) (x_3 : List Int) (y_0 : List GObj) (y_1 y_2 : Int) (y_3 : List Int) (g1 : F_R03_Small ({ Objs := x_0, Cap := x_1, Last := x_2 : GHeap }) = some true) (g2 : F_R03_Small ({ Objs := y_0, Cap := y_1, Last := y_2 : GHeap }) = some true) (g3 : ¬ (x_0.length : Int) ≤ 40) :
    cO Try.prog lore 15 [D.agg [D.t (T.sl 6 (els x_0)), I x_1, I x_2, D.t (T.sl 1 (els x_3))], D.agg [D.t (T.sl 6 (els y_0)), I y_1, I y_2, D.t (T.sl 1 (els y_3))]] [] = some (.val (Bo true), []) := by
  rw [cO_eq (R := lore) rfl Try.func15 rfl]
  show wrapThen h15.res (endThen Try.prog h15.shr _ (eO Try.prog h15 (cO Try.prog lore) _ _)) = _
  simp (decide := true) (maxSteps := 10000000) [Try.f15, g1, g2, g3]
theorem least3 (x_0 : List GObj) (x_1 x_2 : Int) (x_3 : List Int) (y_0 : List GObj) (y_1 y_2 : Int) (y_3 : List Int) (g1 : F_R03_Small ({ Objs := x_0, Cap := x_1, Last := x_2 : GHeap }) = some true) (g2 : F_R03_Small ({ Objs := y_0, Cap := y_1, Last := y_2 : GHeap }) = some true) (g3 : (x_0.length : Int) ≤ 40) (g4 : ¬ (y_0.length : Int) ≤ 40) :
    cO Try.prog lore 15 [D.agg [D.t (T.sl 6 (els x_0)), I x_1, I x_2, D.t (T.sl 1 (els x_3))], D.agg [D.t (T.sl 6 (els y_0)), I y_1, I y_2, D.t (T.sl 1 (els y_3))]] [] = some (.val (Bo true), []) := by
  rw [cO_eq (R := lore) rfl Try.func15 rfl]
  show wrapThen h15.res (endThen Try.prog h15.shr _ (eO Try.prog h15 (cO Try.prog lore) _ _)) = _
  simp (decide := true) (maxSteps := 10000000) [Try.f15, g1, g2, g3, g4]
theorem least4 (x_0 : List GObj) (x_1 x_2 : Int) (x_3 : List Int) (y_0 : List GObj) (y_1 y_2 : Int) (y_3 : List Int) (g1 : F_R03_Small ({ Objs := x_0, Cap := x_1, Last := x_2 : GHeap }) = some true) (g2 : F_R03_Small ({ Objs := y_0, Cap := y_1, Last := y_2 : GHeap }) = some true) (g3 : (x_0.length : Int) ≤ 40) (g4 : (y_0.length : Int) ≤ 40) (g5 : ¬ (x_3.length : Int) ≤ 100) :
    cO Try.prog lore 15 [D.agg [D.t (T.sl 6 (els x_0)), I x_1, I x_2, D.t (T.sl 1 (els x_3))], D.agg [D.t (T.sl 6 (els y_0)), I y_1, I y_2, D.t (T.sl 1 (els y_3))]] [] = some (.val (Bo true), []) := by
  rw [cO_eq (R := lore) rfl Try.func15 rfl]
  show wrapThen h15.res (endThen Try.prog h15.shr _ (eO Try.prog h15 (cO Try.prog lore) _ _)) = _
  simp (decide := true) (maxSteps := 10000000) [Try.f15, g1, g2, g3, g4, g5]
theorem least5 (x_0 : List GObj) (x_1 x_2 : Int) (x_3 : List Int) (y_0 : List GObj) (y_1 y_2 : Int) (y_3 : List Int) (g1 : F_R03_Small ({ Objs := x_0, Cap := x_1, Last := x_2 : GHeap }) = some true) (g2 : F_R03_Small ({ Objs := y_0, Cap := y_1, Last := y_2 : GHeap }) = some true) (g3 : (x_0.length : Int) ≤ 40) (g4 : (y_0.length : Int) ≤ 40) (g5 : (x_3.length : Int) ≤ 100) (g6 : ¬ (y_3.length : Int) ≤ 100) :
    cO Try.prog lore 15 [D.agg [D.t (T.sl 6 (els x_0)), I x_1, I x_2, D.t (T.sl 1 (els x_3))], D.agg [D.t (T.sl 6 (els y_0)), I y_1, I y_2, D.t (T.sl 1 (els y_3))]] [] = some (.val (Bo true), []) := by
  rw [cO_eq (R := lore) rfl Try.func15 rfl]
  show wrapThen h15.res (endThen Try.prog h15.shr _ (eO Try.prog h15 (cO Try.prog lore) _ _)) = _
  simp (decide := true) (maxSteps := 10000000) [Try.f15, g1, g2, g3, g4, g5, g6]
theorem leastE (x_0 : List GObj) (x_1 x_2 : Int) (x_3 : List Int) (y_0 : List GObj) (y_1 y_2 : Int) (y_3 : List Int) (a_0 : List GObj) (a_1 a_2 : Int) (b_0 : List GObj) (b_1 b_2 : Int) (p q l : List Int) (e f : Int)  (g1 : F_R03_Small ({ Objs := x_0, Cap := x_1, Last := x_2 : GHeap }) = some true) (g2 : F_R03_Small ({ Objs := y_0, Cap := y_1, Last := y_2 : GHeap }) = some true) (g3 : (x_0.length : Int) ≤ 40) (g4 : (y_0.length : Int) ≤ 40) (g5 : (x_3.length : Int) ≤ 100) (g6 : (y_3.length : Int) ≤ 100) (g7 : F_canon_Of ({ Objs := x_0, Cap := x_1, Last := x_2 : GHeap }) x_3 = some (({ Objs := a_0, Cap := a_1, Last := a_2 : GHeap }), p, e)) (g8 : F_canon_Of ({ Objs := y_0, Cap := y_1, Last := y_2 : GHeap }) y_3 = some (({ Objs := b_0, Cap := b_1, Last := b_2 : GHeap }), q, f)) (g9 : ¬ e = 0) (g10 : F_canon_Same ({ Objs := x_0, Cap := x_1, Last := x_2 : GHeap }) x_3 ({ Objs := y_0, Cap := y_1, Last := y_2 : GHeap }) y_3 = some false) :
    cO Try.prog lore 15 [D.agg [D.t (T.sl 6 (els x_0)), I x_1, I x_2, D.t (T.sl 1 (els x_3))], D.agg [D.t (T.sl 6 (els y_0)), I y_1, I y_2, D.t (T.sl 1 (els y_3))]] [] = some (.val (Bo true), []) := by
  rw [cO_eq (R := lore) rfl Try.func15 rfl]
  show wrapThen h15.res (endThen Try.prog h15.shr _ (eO Try.prog h15 (cO Try.prog lore) _ _)) = _
  simp (decide := true) (maxSteps := 10000000) [Try.f15, g1, g2, g3, g4, g5, g6, g7, g8, g9, g10]
theorem leastF (x_0 : List GObj) (x_1 x_2 : Int) (x_3 : List Int) (y_0 : List GObj) (y_1 y_2 : Int) (y_3 : List Int) (a_0 : List GObj) (a_1 a_2 : Int) (b_0 : List GObj) (b_1 b_2 : Int) (p q l : List Int) (e f : Int)  (g1 : F_R03_Small ({ Objs := x_0, Cap := x_1, Last := x_2 : GHeap }) = some true) (g2 : F_R03_Small ({ Objs := y_0, Cap := y_1, Last := y_2 : GHeap }) = some true) (g3 : (x_0.length : Int) ≤ 40) (g4 : (y_0.length : Int) ≤ 40) (g5 : (x_3.length : Int) ≤ 100) (g6 : (y_3.length : Int) ≤ 100) (g7 : F_canon_Of ({ Objs := x_0, Cap := x_1, Last := x_2 : GHeap }) x_3 = some (({ Objs := a_0, Cap := a_1, Last := a_2 : GHeap }), p, e)) (g8 : F_canon_Of ({ Objs := y_0, Cap := y_1, Last := y_2 : GHeap }) y_3 = some (({ Objs := b_0, Cap := b_1, Last := b_2 : GHeap }), q, f)) (g9 : e = 0) (g10 : ¬ f = 0) (g11 : F_canon_Same ({ Objs := x_0, Cap := x_1, Last := x_2 : GHeap }) x_3 ({ Objs := y_0, Cap := y_1, Last := y_2 : GHeap }) y_3 = some false) :
    cO Try.prog lore 15 [D.agg [D.t (T.sl 6 (els x_0)), I x_1, I x_2, D.t (T.sl 1 (els x_3))], D.agg [D.t (T.sl 6 (els y_0)), I y_1, I y_2, D.t (T.sl 1 (els y_3))]] [] = some (.val (Bo true), []) := by
  rw [cO_eq (R := lore) rfl Try.func15 rfl]
  show wrapThen h15.res (endThen Try.prog h15.shr _ (eO Try.prog h15 (cO Try.prog lore) _ _)) = _
  simp (decide := true) (maxSteps := 10000000) [Try.f15, g1, g2, g3, g4, g5, g6, g7, g8, g9, g10, g11]
theorem leastM0 (x_0 : List GObj) (x_1 x_2 : Int) (x_3 : List Int) (y_0 : List GObj) (y_1 y_2 : Int) (y_3 : List Int) (a_0 : List GObj) (a_1 a_2 : Int) (b_0 : List GObj) (b_1 b_2 : Int) (p q l : List Int) (e : Int) (g1 : F_R03_Small ({ Objs := x_0, Cap := x_1, Last := x_2 : GHeap }) = some true) (g2 : F_R03_Small ({ Objs := y_0, Cap := y_1, Last := y_2 : GHeap }) = some true) (g3 : (x_0.length : Int) ≤ 40) (g4 : (y_0.length : Int) ≤ 40) (g5 : (x_3.length : Int) ≤ 100) (g6 : (y_3.length : Int) ≤ 100) (g7 : F_canon_Of ({ Objs := x_0, Cap := x_1, Last := x_2 : GHeap }) x_3 = some (({ Objs := a_0, Cap := a_1, Last := a_2 : GHeap }), p, 0)) (g8 : F_canon_Of ({ Objs := y_0, Cap := y_1, Last := y_2 : GHeap }) y_3 = some (({ Objs := b_0, Cap := b_1, Last := b_2 : GHeap }), q, 0)) (g9 : F_R04_Live ({ Objs := a_0, Cap := a_1, Last := a_2 : GHeap }) p = some (l, e)) (g10 : (l.length : Int) = (a_0.length : Int)) (g11 : F_canon_Of ({ Objs := a_0, Cap := a_1, Last := a_2 : GHeap }) p = some (({ Objs := a_0, Cap := a_1, Last := a_2 : GHeap }), p, 0)) (g12 : F_R03_Same ({ Objs := a_0, Cap := a_1, Last := a_2 : GHeap }) ({ Objs := a_0, Cap := a_1, Last := a_2 : GHeap }) = some true) (g13 : F_R03_Ints p p = some true) (g14 : F_canon_Same ({ Objs := x_0, Cap := x_1, Last := x_2 : GHeap }) x_3 ({ Objs := a_0, Cap := a_1, Last := a_2 : GHeap }) p = some true) (g15 : F_canon_Same ({ Objs := x_0, Cap := x_1, Last := x_2 : GHeap }) x_3 ({ Objs := y_0, Cap := y_1, Last := y_2 : GHeap }) y_3 = some false) (g16 : F_R03_Same ({ Objs := a_0, Cap := 0, Last := 0 : GHeap }) ({ Objs := b_0, Cap := 0, Last := 0 : GHeap }) = some false) :
    cO Try.prog lore 15 [D.agg [D.t (T.sl 6 (els x_0)), I x_1, I x_2, D.t (T.sl 1 (els x_3))], D.agg [D.t (T.sl 6 (els y_0)), I y_1, I y_2, D.t (T.sl 1 (els y_3))]] [] = some (.val (Bo true), []) := by
  rw [cO_eq (R := lore) rfl Try.func15 rfl]
  show wrapThen h15.res (endThen Try.prog h15.shr _ (eO Try.prog h15 (cO Try.prog lore) _ _)) = _
  simp (decide := true) (maxSteps := 10000000) [Try.f15, g1, g2, g3, g4, g5, g6, g7, g8, g9, g10, g11, g12, g13, g14, g15, g16]
theorem leastM1 (x_0 : List GObj) (x_1 x_2 : Int) (x_3 : List Int) (y_0 : List GObj) (y_1 y_2 : Int) (y_3 : List Int) (a_0 : List GObj) (a_1 a_2 : Int) (b_0 : List GObj) (b_1 b_2 : Int) (p q l : List Int) (e : Int) (u : Bool) (g1 : F_R03_Small ({ Objs := x_0, Cap := x_1, Last := x_2 : GHeap }) = some true) (g2 : F_R03_Small ({ Objs := y_0, Cap := y_1, Last := y_2 : GHeap }) = some true) (g3 : (x_0.length : Int) ≤ 40) (g4 : (y_0.length : Int) ≤ 40) (g5 : (x_3.length : Int) ≤ 100) (g6 : (y_3.length : Int) ≤ 100) (g7 : F_canon_Of ({ Objs := x_0, Cap := x_1, Last := x_2 : GHeap }) x_3 = some (({ Objs := a_0, Cap := a_1, Last := a_2 : GHeap }), p, 0)) (g8 : F_canon_Of ({ Objs := y_0, Cap := y_1, Last := y_2 : GHeap }) y_3 = some (({ Objs := b_0, Cap := b_1, Last := b_2 : GHeap }), q, 0)) (g9 : F_R04_Live ({ Objs := a_0, Cap := a_1, Last := a_2 : GHeap }) p = some (l, e)) (g10 : (l.length : Int) = (a_0.length : Int)) (g11 : F_canon_Of ({ Objs := a_0, Cap := a_1, Last := a_2 : GHeap }) p = some (({ Objs := a_0, Cap := a_1, Last := a_2 : GHeap }), p, 0)) (g12 : F_R03_Same ({ Objs := a_0, Cap := a_1, Last := a_2 : GHeap }) ({ Objs := a_0, Cap := a_1, Last := a_2 : GHeap }) = some true) (g13 : F_R03_Ints p p = some true) (g14 : F_canon_Same ({ Objs := x_0, Cap := x_1, Last := x_2 : GHeap }) x_3 ({ Objs := a_0, Cap := a_1, Last := a_2 : GHeap }) p = some true) (g15 : F_canon_Same ({ Objs := x_0, Cap := x_1, Last := x_2 : GHeap }) x_3 ({ Objs := y_0, Cap := y_1, Last := y_2 : GHeap }) y_3 = some u) (g16 : F_R03_Same ({ Objs := a_0, Cap := 0, Last := 0 : GHeap }) ({ Objs := b_0, Cap := 0, Last := 0 : GHeap }) = some true) (g17 : F_R03_Ints p q = some u) :
    cO Try.prog lore 15 [D.agg [D.t (T.sl 6 (els x_0)), I x_1, I x_2, D.t (T.sl 1 (els x_3))], D.agg [D.t (T.sl 6 (els y_0)), I y_1, I y_2, D.t (T.sl 1 (els y_3))]] [] = some (.val (Bo true), []) := by
  rw [cO_eq (R := lore) rfl Try.func15 rfl]
  show wrapThen h15.res (endThen Try.prog h15.shr _ (eO Try.prog h15 (cO Try.prog lore) _ _)) = _
  simp (decide := true) (maxSteps := 10000000) [Try.f15, g1, g2, g3, g4, g5, g6, g7, g8, g9, g10, g11, g12, g13, g14, g15, g16, g17]
end Go.Pv

/- What is told is the least. -/
namespace Go.Pv
open Go Go.Proofs
theorem canonLeast (x : GHeap) (p : List Int) (y : GHeap) (q : List Int) (hx : Slim x) (bx : BitsR x) (hy : Slim y) (hp : p.length ≤ 1048576) (hq : q.length ≤ 1048576) : cO Try.prog lore 15 [rootedD x p, rootedD y q] [] = some (.val (Bo true), []) := by
  obtain ⟨b, e1⟩ := R03_Small_ex x hx.1
  cases b with
  | false => exact least0 _ _ _ _ _ _ _ _ e1
  | true =>
  obtain ⟨b, e2⟩ := R03_Small_ex y hy.1
  cases b with
  | false => exact least1 _ _ _ _ _ _ _ _ e1 e2
  | true =>
  by_cases h1 : (x.Objs.length : Int) ≤ 40
  case neg => exact least2 _ _ _ _ _ _ _ _ e1 e2 h1
  by_cases h2 : (y.Objs.length : Int) ≤ 40
  case neg => exact least3 _ _ _ _ _ _ _ _ e1 e2 h1 h2
  by_cases h3 : (p.length : Int) ≤ 100
  case neg => exact least4 _ _ _ _ _ _ _ _ e1 e2 h1 h2 h3
  by_cases h4 : (q.length : Int) ≤ 100
  case neg => exact least5 _ _ _ _ _ _ _ _ e1 e2 h1 h2 h3 h4
  have f1 : F_canon_Of x p = some (ofS x p) := canon_Of_eq x p hx hp
  have f2 : F_canon_Of y q = some (ofS y q) := canon_Of_eq y q hy hq
  have fs : F_canon_Same x p y q = some (sameC x p y q) := canon_Same_eq x p y q hx hy hp hq
  by_cases k1 : (ofS x p).2.2 = 0
  case neg => exact leastE _ _ _ _ _ _ _ _ (ofS x p).1.Objs (ofS x p).1.Cap (ofS x p).1.Last (ofS y q).1.Objs (ofS y q).1.Cap (ofS y q).1.Last (ofS x p).2.1 (ofS y q).2.1 [] (ofS x p).2.2 (ofS y q).2.2 e1 e2 h1 h2 h3 h4 f1 f2 k1 (by rw [fs, ofS_err k1])
  by_cases k2 : (ofS y q).2.2 = 0
  case neg => exact leastF _ _ _ _ _ _ _ _ (ofS x p).1.Objs (ofS x p).1.Cap (ofS x p).1.Last (ofS y q).1.Objs (ofS y q).1.Cap (ofS y q).1.Last (ofS x p).2.1 (ofS y q).2.1 [] (ofS x p).2.2 (ofS y q).2.2 e1 e2 h1 h2 h3 h4 f1 f2 k1 k2 (by rw [fs, ofS_err2 k2])
  obtain ⟨o, hr⟩ := ofS_good k1
  obtain ⟨o', hr'⟩ := ofS_good k2
  have r := rootsB_iff.1 hr
  have r' := rootsB_iff.1 hr'
  have sx := ofS_ok o hr rfl
  have sy := ofS_ok o' hr' rfl
  have sh := (ordered o r).shut
  have ok := o.by sh
  have slx := byO_slim hx o (order_lt o r) (order_nodup o r)
  have sly := byO_slim hy o' (order_lt o' r') (order_nodup o' r')
  have bix : BitsR (x.by (orderH x p)) := byO_bits bx (order_lt o r)
  have ra := by_roots o r sh
  have hra : rootsB (x.by (orderH x p)) (p.map (num (orderH x p))) = true := rootsB_iff.2 ra
  have hlen : (p.map (num (orderH x p))).length ≤ 1048576 := by rw [List.length_map]; exact hp
  rw [sx] at f1
  rw [sy] at f2
  have f3 : F_R04_Live (x.by (orderH x p)) (p.map (num (orderH x p))) = some (liveI (x.by (orderH x p)) (p.map (num (orderH x p))), 0) := by
    rw [R04_Live_eq _ _ slx bix (by unfold big; omega)]
    unfold liveS
    rw [dec_true ok, if_pos rfl, if_pos hra]
  have f4 : ((liveI (x.by (orderH x p)) (p.map (num (orderH x p)))).length : Int) = ((x.by (orderH x p)).Objs.length : Int) := by
    unfold liveI
    rw [List.length_map, by_live o r sh fun i hi => ((ordered o r).iff i).1 hi, List.length_range]
    exact congrArg _ (by_n x (orderH x p)).symm
  have sa : ofS (x.by (orderH x p)) (p.map (num (orderH x p))) = (x.by (orderH x p), p.map (num (orderH x p)), 0) := by
    rw [ofS_ok ok hra rfl, order_by o r, ← by_n x (orderH x p), by_range ok, roots_range ra]
  have f5 : F_canon_Of (x.by (orderH x p)) (p.map (num (orderH x p))) = some (x.by (orderH x p), p.map (num (orderH x p)), 0) := by
    rw [canon_Of_eq _ _ slx hlen, sa]
  have f6 : F_canon_Same x p (x.by (orderH x p)) (p.map (num (orderH x p))) = some true := by
    rw [canon_Same_eq x p _ _ hx slx hp hlen]
    congr 1
    rw [sameC_iff]
    unfold SameC
    rw [sx, sa]
    exact ⟨rfl, rfl, rfl, rfl⟩
  have f7 : F_R03_Same (x.by (orderH x p)) (x.by (orderH x p)) = some true := by rw [R03_Same_eq _ _ slx]; simp
  have f8 : F_R03_Ints (p.map (num (orderH x p))) (p.map (num (orderH x p))) = some true := by rw [R03_Ints_eq _ _ (by unfold big; omega)]; simp
  have f9 : F_R03_Same { Objs := (x.by (orderH x p)).Objs, Cap := 0, Last := 0 } { Objs := (y.by (orderH y q)).Objs, Cap := 0, Last := 0 } = some (decide ((x.by (orderH x p)).Objs = (y.by (orderH y q)).Objs)) := by
    have e := R03_Same_eq { Objs := (x.by (orderH x p)).Objs, Cap := 0, Last := 0 } { Objs := (y.by (orderH y q)).Objs, Cap := 0, Last := 0 } (show Slim ⟨(x.by (orderH x p)).Objs, 0, 0⟩ from slx)
    refine e.trans (congrArg some ?_)
    rw [Bool.eq_iff_iff]
    simp [heap_ext]
  have hsame : sameC x p y q = true ↔ p.map (num (orderH x p)) = q.map (num (orderH y q)) ∧ (x.by (orderH x p)).Objs = (y.by (orderH y q)).Objs := by
    rw [sameC_iff]
    unfold SameC
    rw [sx, sy]
    exact ⟨fun h => ⟨h.2.2.1, h.2.2.2⟩, fun h => ⟨rfl, rfl, h.1, h.2⟩⟩
  by_cases c1 : (x.by (orderH x p)).Objs = (y.by (orderH y q)).Objs
  · rw [decide_eq_true c1] at f9
    have f10 : F_R03_Ints (p.map (num (orderH x p))) (q.map (num (orderH y q))) = some (sameC x p y q) := by
      rw [R03_Ints_eq _ _ (by unfold big; omega)]
      congr 1
      rw [Bool.eq_iff_iff, hsame]
      simp [c1]
    exact leastM1 _ _ _ _ _ _ _ _ (x.by (orderH x p)).Objs (x.by (orderH x p)).Cap (x.by (orderH x p)).Last (y.by (orderH y q)).Objs (y.by (orderH y q)).Cap (y.by (orderH y q)).Last _ _ _ 0 (sameC x p y q) e1 e2 h1 h2 h3 h4 f1 f2 f3 f4 f5 f7 f8 f6 fs f9 f10
  · rw [decide_eq_false c1] at f9
    have : sameC x p y q = false := by
      cases s : sameC x p y q with
      | false => rfl
      | true => exact absurd (hsame.1 s).2 c1
    rw [this] at fs
    exact leastM0 _ _ _ _ _ _ _ _ (x.by (orderH x p)).Objs (x.by (orderH x p)).Cap (x.by (orderH x p)).Last (y.by (orderH y q)).Objs (y.by (orderH y q)).Cap (y.by (orderH y q)).Last _ _ _ 0 e1 e2 h1 h2 h3 h4 f1 f2 f3 f4 f5 f7 f8 f6 fs f9
end Go.Pv

/- The law, of data. -/
namespace Go.Pv
open Go Go.Proofs
theorem law_canonLeast (x : csameT.den) (hx : csameT.wf x) (hk : csameT.bulk x ≤ 1048576) : cO Try.prog lore 15 (argDs csameT x) [] = some (.val (Bo true), []) := by
  obtain ⟨a, b, u⟩ := x
  have h3 : rootedT.bulk a + (rootedT.bulk b + 0) ≤ 1048576 := hk
  obtain ⟨a1, a2, a3⟩ := rooted_small a hx.1 (by omega)
  obtain ⟨b1, b2, b3⟩ := rooted_small b hx.2.1 (by omega)
  exact cg2 (rooted_D a) (rooted_D b) (canonLeast _ _ _ _ a1 a2 b1 a3 b3)
end Go.Pv
