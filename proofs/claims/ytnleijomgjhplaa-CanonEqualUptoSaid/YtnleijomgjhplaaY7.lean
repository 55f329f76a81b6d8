/- A part of the road: the interpreter of plain data and the proof that it is right. -/
import Derived.Test.YtnleijomgjhplaaM7
set_option linter.unusedVariables false
set_option linter.unusedSimpArgs false
namespace Go.Pv
open Go Go.Proofs
set_option maxRecDepth 100000
set_option maxHeartbeats 0
set_option linter.unusedSimpArgs false
set_option linter.unusedVariables false
theorem equal0 (a_0 : List GObj) (a_1 a_2 : Int) (a_3 : List Int) (b_0 : List GObj) (b_1 b_2 : Int) (b_3 : List Int) (c_0 : List GObj) (c_1 c_2 : Int) (c_3 : List Int) (g1 : F_R03_Small ({ Objs := a_0, Cap := a_1, Last := a_2 : GHeap }) = some false) :
    cO Try.prog lore 16 [D.agg [D.t (T.sl 6 (els a_0)), I a_1, I a_2, D.t (T.sl 1 (els a_3))], D.agg [D.t (T.sl 6 (els b_0)), I b_1, I b_2, D.t (T.sl 1 (els b_3))], D.agg [D.t (T.sl 6 (els c_0)), I c_1, I c_2, D.t (T.sl 1 (els c_3))]] [] = some (.val (Bo true), []) := by
  rw [cO_eq (R := lore) rfl Try.func16 rfl]
  show wrapThen h16.res (endThen Try.prog h16.shr _ (eO Try.prog h16 (cO Try.prog lore) _ _)) = _
  simp (decide := true) (maxSteps := 10000000) [Try.f16, g1]
theorem equal1 (a_0 : List GObj) (a_1 a_2 : Int) (a_3 : List Int) (b_0 : List GObj) (b_1 b_2 : Int) (b_3 : List Int) (c_0 : List GObj) (c_1 c_2 : Int) (c_3 : List Int) (g1 : F_R03_Small ({ Objs := a_0, Cap := a_1, Last := a_2 : GHeap }) = some true) (g2 : F_R03_Small ({ Objs := b_0, Cap := b_1, Last := b_2 : GHeap }) = some false) :
    cO Try.prog lore 16 [D.agg [D.t (T.sl 6 (els a_0)), I a_1, I a_2, D.t (T.sl 1 (els a_3))], D.agg [D.t (T.sl 6 (els b_0)), I b_1, I b_2, D.t (T.sl 1 (els b_3))], D.agg [D.t (T.sl 6 (els c_0)), I c_1, I c_2, D.t (T.sl 1 (els c_3))]] [] = some (.val (Bo true), []) := by
  rw [cO_eq (R := lore) rfl Try.func16 rfl]
  show wrapThen h16.res (endThen Try.prog h16.shr _ (eO Try.prog h16 (cO Try.prog lore) _ _)) = _
  simp (decide := true) (maxSteps := 10000000) [Try.f16, g1, g2]
theorem equal2 (a_0 : List GObj) (a_1 a_2 : Int) (a_3 : List Int) (b_0 : List GObj) (b_1 b_2 : Int) (b_3 : List Int) (c_0 : List GObj) (c_1 c_2 : Int) (c_3 : List Int) (g1 : F_R03_Small ({ Objs := a_0, Cap := a_1, Last := a_2 : GHeap }) = some true) (g2 : F_R03_Small ({ Objs := b_0, Cap := b_1, Last := b_2 : GHeap }) = some true) (g3 : F_R03_Small ({ Objs := c_0, Cap := c_1, Last := c_2 : GHeap }) = some false) :
    cO Try.prog lore 16 [D.agg [D.t (T.sl 6 (els a_0)), I a_1, I a_2, D.t (T.sl 1 (els a_3))], D.agg [D.t (T.sl 6 (els b_0)), I b_1, I b_2, D.t (T.sl 1 (els b_3))], D.agg [D.t (T.sl 6 (els c_0)), I c_1, I c_2, D.t (T.sl 1 (els c_3))]] [] = some (.val (Bo true), []) := by
  rw [cO_eq (R := lore) rfl Try.func16 rfl]
  show wrapThen h16.res (endThen Try.prog h16.shr _ (eO Try.prog h16 (cO Try.prog lore) _ _)) = _
  simp (decide := true) (maxSteps := 10000000) [Try.f16, g1, g2, g3]
theorem equal3 (a_0 : List GObj) (a_1 a_2 : Int) (a_3 : List Int) (b_0 : List GObj) (b_1 b_2 : Int) (b_3 : List Int) (c_0 : List GObj) (c_1 c_2 : Int) (c_3 : List Int) (g1 : F_R03_Small ({ Objs := a_0, Cap := a_1, Last := a_2 : GHeap }) = some true) (g2 : F_R03_Small ({ Objs := b_0, Cap := b_1, Last := b_2 : GHeap }) = some true) (g3 : F_R03_Small ({ Objs := c_0, Cap := c_1, Last := c_2 : GHeap }) = some true) (g4 : ¬ (a_0.length : Int) ≤ 30) :
    cO Try.prog lore 16 [D.agg [D.t (T.sl 6 (els a_0)), I a_1, I a_2, D.t (T.sl 1 (els a_3))], D.agg [D.t (T.sl 6 (els b_0)), I b_1, I b_2, D.t (T.sl 1 (els b_3))], D.agg [D.t (T.sl 6 (els c_0)), I c_1, I c_2, D.t (T.sl 1 (els c_3))]] [] = some (.val (Bo true), []) := by
  rw [cO_eq (R := lore) rfl Try.func16 rfl]
  show wrapThen h16.res (endThen Try.prog h16.shr _ (eO Try.prog h16 (cO Try.prog lore) _ _)) = _
  simp (decide := true) (maxSteps := 10000000) [Try.f16, g1, g2, g3, g4]
theorem equal4 (a_0 : List GObj) (a_1 a_2 : Int) (a_3 : List Int) (b_0 : List GObj) (b_1 b_2 : Int) (b_3 : List Int) (c_0 : List GObj) (c_1 c_2 : Int) (c_3 : List Int) (g1 : F_R03_Small ({ Objs := a_0, Cap := a_1, Last := a_2 : GHeap }) = some true) (g2 : F_R03_Small ({ Objs := b_0, Cap := b_1, Last := b_2 : GHeap }) = some true) (g3 : F_R03_Small ({ Objs := c_0, Cap := c_1, Last := c_2 : GHeap }) = some true) (g4 : (a_0.length : Int) ≤ 30) (g5 : ¬ (b_0.length : Int) ≤ 30) :
    cO Try.prog lore 16 [D.agg [D.t (T.sl 6 (els a_0)), I a_1, I a_2, D.t (T.sl 1 (els a_3))], D.agg [D.t (T.sl 6 (els b_0)), I b_1, I b_2, D.t (T.sl 1 (els b_3))], D.agg [D.t (T.sl 6 (els c_0)), I c_1, I c_2, D.t (T.sl 1 (els c_3))]] [] = some (.val (Bo true), []) := by
  rw [cO_eq (R := lore) rfl Try.func16 rfl]
  show wrapThen h16.res (endThen Try.prog h16.shr _ (eO Try.prog h16 (cO Try.prog lore) _ _)) = _
  simp (decide := true) (maxSteps := 10000000) [Try.f16, g1, g2, g3, g4, g5]
theorem equal5 (a_0 : List GObj) (a_1 a_2 : Int) (a_3 : List Int) (b_0 : List GObj) (b_1 b_2 : Int) (b_3 : List Int) (c_0 : List GObj) (c_1 c_2 : Int) (c_3 : List Int) (g1 : F_R03_Small ({ Objs := a_0, Cap := a_1, Last := a_2 : GHeap }) = some true) (g2 : F_R03_Small ({ Objs := b_0, Cap := b_1, Last := b_2 : GHeap }) = some true) (g3 : F_R03_Small ({ Objs := c_0, Cap := c_1, Last := c_2 : GHeap }) = some true) (g4 : (a_0.length : Int) ≤ 30) (g5 : (b_0.length : Int) ≤ 30) (g6 : ¬ (c_0.length : Int) ≤ 30) :
    cO Try.prog lore 16 [D.agg [D.t (T.sl 6 (els a_0)), I a_1, I a_2, D.t (T.sl 1 (els a_3))], D.agg [D.t (T.sl 6 (els b_0)), I b_1, I b_2, D.t (T.sl 1 (els b_3))], D.agg [D.t (T.sl 6 (els c_0)), I c_1, I c_2, D.t (T.sl 1 (els c_3))]] [] = some (.val (Bo true), []) := by
  rw [cO_eq (R := lore) rfl Try.func16 rfl]
  show wrapThen h16.res (endThen Try.prog h16.shr _ (eO Try.prog h16 (cO Try.prog lore) _ _)) = _
  simp (decide := true) (maxSteps := 10000000) [Try.f16, g1, g2, g3, g4, g5, g6]
theorem equal6 (a_0 : List GObj) (a_1 a_2 : Int) (a_3 : List Int) (b_0 : List GObj) (b_1 b_2 : Int) (b_3 : List Int) (c_0 : List GObj) (c_1 c_2 : Int) (c_3 : List Int) (g1 : F_R03_Small ({ Objs := a_0, Cap := a_1, Last := a_2 : GHeap }) = some true) (g2 : F_R03_Small ({ Objs := b_0, Cap := b_1, Last := b_2 : GHeap }) = some true) (g3 : F_R03_Small ({ Objs := c_0, Cap := c_1, Last := c_2 : GHeap }) = some true) (g4 : (a_0.length : Int) ≤ 30) (g5 : (b_0.length : Int) ≤ 30) (g6 : (c_0.length : Int) ≤ 30) (g7 : ¬ (a_3.length : Int) ≤ 50) :
    cO Try.prog lore 16 [D.agg [D.t (T.sl 6 (els a_0)), I a_1, I a_2, D.t (T.sl 1 (els a_3))], D.agg [D.t (T.sl 6 (els b_0)), I b_1, I b_2, D.t (T.sl 1 (els b_3))], D.agg [D.t (T.sl 6 (els c_0)), I c_1, I c_2, D.t (T.sl 1 (els c_3))]] [] = some (.val (Bo true), []) := by
  rw [cO_eq (R := lore) rfl Try.func16 rfl]
  show wrapThen h16.res (endThen Try.prog h16.shr _ (eO Try.prog h16 (cO Try.prog lore) _ _)) = _
  simp (decide := true) (maxSteps := 10000000) [Try.f16, g1, g2, g3, g4, g5, g6, g7]
theorem equal7 (a_0 : List GObj) (a_1 a_2 : Int) (a_3 : List Int) (b_0 : List GObj) (b_1 b_2 : Int) (b_3 : List Int) (c_0 : List GObj) (c_1 c_2 : Int) (c_3 : List Int) (g1 : F_R03_Small ({ Objs := a_0, Cap := a_1, Last := a_2 : GHeap }) = some true) (g2 : F_R03_Small ({ Objs := b_0, Cap := b_1, Last := b_2 : GHeap }) = some true) (g3 : F_R03_Small ({ Objs := c_0, Cap := c_1, Last := c_2 : GHeap }) = some true) (g4 : (a_0.length : Int) ≤ 30) (g5 : (b_0.length : Int) ≤ 30) (g6 : (c_0.length : Int) ≤ 30) (g7 : (a_3.length : Int) ≤ 50) (g8 : ¬ (b_3.length : Int) ≤ 50) :
    cO Try.prog lore 16 [D.agg [D.t (T.sl 6 (els a_0)), I a_1, I a_2, D.t (T.sl 1 (els a_3))], D.agg [D.t (T.sl 6 (els b_0)), I b_1, I b_2, D.t (T.sl 1 (els b_3))], D.agg [D.t (T.sl 6 (els c_0)), I c_1, I c_2, D.t (T.sl 1 (els c_3))]] [] = some (.val (Bo true), []) := by
  rw [cO_eq (R := lore) rfl Try.func16 rfl]
  show wrapThen h16.res (endThen Try.prog h16.shr _ (eO Try.prog h16 (cO Try.prog lore) _ _)) = _
  simp (decide := true) (maxSteps := 10000000) [Try.f16, g1, g2, g3, g4, g5, g6, g7, g8]
theorem equal8 (a_0 : List GObj) (a_1 a_2 : Int) (a_3 : List Int) (b_0 : List GObj) (b_1 b_2 : Int) (b_3 : List Int) (c_0 : List GObj) (c_1 c_2 : Int) (c_3 : List Int) (g1 : F_R03_Small ({ Objs := a_0, Cap := a_1, Last := a_2 : GHeap }) = some true) (g2 : F_R03_Small ({ Objs := b_0, Cap := b_1, Last := b_2 : GHeap }) = some true) (g3 : F_R03_Small ({ Objs := c_0, Cap := c_1, Last := c_2 : GHeap }) = some true) (g4 : (a_0.length : Int) ≤ 30) (g5 : (b_0.length : Int) ≤ 30) (g6 : (c_0.length : Int) ≤ 30) (g7 : (a_3.length : Int) ≤ 50) (g8 : (b_3.length : Int) ≤ 50) (g9 : ¬ (c_3.length : Int) ≤ 50) :
    cO Try.prog lore 16 [D.agg [D.t (T.sl 6 (els a_0)), I a_1, I a_2, D.t (T.sl 1 (els a_3))], D.agg [D.t (T.sl 6 (els b_0)), I b_1, I b_2, D.t (T.sl 1 (els b_3))], D.agg [D.t (T.sl 6 (els c_0)), I c_1, I c_2, D.t (T.sl 1 (els c_3))]] [] = some (.val (Bo true), []) := by
  rw [cO_eq (R := lore) rfl Try.func16 rfl]
  show wrapThen h16.res (endThen Try.prog h16.shr _ (eO Try.prog h16 (cO Try.prog lore) _ _)) = _
  simp (decide := true) (maxSteps := 10000000) [Try.f16, g1, g2, g3, g4, g5, g6, g7, g8, g9]
end Go.Pv

namespace Go.Pv
open Go Go.Proofs
set_option maxRecDepth 100000
set_option maxHeartbeats 0
set_option linter.unusedSimpArgs false
set_option linter.unusedVariables false
theorem equalA (v w : Bool) (a_0 : List GObj) (a_1 a_2 : Int) (a_3 : List Int) (b_0 : List GObj) (b_1 b_2 : Int) (b_3 : List Int) (c_0 : List GObj) (c_1 c_2 : Int) (c_3 : List Int) (g1 : F_R03_Small ({ Objs := a_0, Cap := a_1, Last := a_2 : GHeap }) = some true) (g2 : F_R03_Small ({ Objs := b_0, Cap := b_1, Last := b_2 : GHeap }) = some true) (g3 : F_R03_Small ({ Objs := c_0, Cap := c_1, Last := c_2 : GHeap }) = some true) (g4 : (a_0.length : Int) ≤ 30) (g5 : (b_0.length : Int) ≤ 30) (g6 : (c_0.length : Int) ≤ 30) (g7 : (a_3.length : Int) ≤ 50) (g8 : (b_3.length : Int) ≤ 50) (g9 : (c_3.length : Int) ≤ 50) (e1 : F_canon_Same ({ Objs := a_0, Cap := a_1, Last := a_2 : GHeap }) a_3 ({ Objs := b_0, Cap := b_1, Last := b_2 : GHeap }) b_3 = some false) (e4 : F_canon_Same ({ Objs := b_0, Cap := b_1, Last := b_2 : GHeap }) b_3 ({ Objs := a_0, Cap := a_1, Last := a_2 : GHeap }) a_3 = some false) (e5 : F_canon_Same ({ Objs := a_0, Cap := a_1, Last := a_2 : GHeap }) (a_3 ++ a_3) ({ Objs := b_0, Cap := b_1, Last := b_2 : GHeap }) (b_3 ++ b_3) = some false) (e2 : F_canon_Same ({ Objs := b_0, Cap := b_1, Last := b_2 : GHeap }) b_3 ({ Objs := c_0, Cap := c_1, Last := c_2 : GHeap }) c_3 = some v) (e3 : F_canon_Same ({ Objs := a_0, Cap := a_1, Last := a_2 : GHeap }) a_3 ({ Objs := c_0, Cap := c_1, Last := c_2 : GHeap }) c_3 = some w) (r1 : a_3.length * 8 ≤ Pv.most) (r2 : (a_3.length + a_3.length) * 8 ≤ Pv.most) (r3 : b_3.length * 8 ≤ Pv.most) (r4 : (b_3.length + b_3.length) * 8 ≤ Pv.most) :
    cO Try.prog lore 16 [D.agg [D.t (T.sl 6 (els a_0)), I a_1, I a_2, D.t (T.sl 1 (els a_3))], D.agg [D.t (T.sl 6 (els b_0)), I b_1, I b_2, D.t (T.sl 1 (els b_3))], D.agg [D.t (T.sl 6 (els c_0)), I c_1, I c_2, D.t (T.sl 1 (els c_3))]] [] = some (.val (Bo true), []) := by
  rw [cO_eq (R := lore) rfl Try.func16 rfl]
  show wrapThen h16.res (endThen Try.prog h16.shr _ (eO Try.prog h16 (cO Try.prog lore) _ _)) = _
  simp (decide := true) (maxSteps := 10000000) [Try.f16, g1, g2, g3, g4, g5, g6, g7, g8, g9, e1, e4, e5, e2, e3, r1, r2, r3, r4]
theorem equalF (a_0 : List GObj) (a_1 a_2 : Int) (a_3 : List Int) (b_0 : List GObj) (b_1 b_2 : Int) (b_3 : List Int) (c_0 : List GObj) (c_1 c_2 : Int) (c_3 : List Int) (g1 : F_R03_Small ({ Objs := a_0, Cap := a_1, Last := a_2 : GHeap }) = some true) (g2 : F_R03_Small ({ Objs := b_0, Cap := b_1, Last := b_2 : GHeap }) = some true) (g3 : F_R03_Small ({ Objs := c_0, Cap := c_1, Last := c_2 : GHeap }) = some true) (g4 : (a_0.length : Int) ≤ 30) (g5 : (b_0.length : Int) ≤ 30) (g6 : (c_0.length : Int) ≤ 30) (g7 : (a_3.length : Int) ≤ 50) (g8 : (b_3.length : Int) ≤ 50) (g9 : (c_3.length : Int) ≤ 50) (e1 : F_canon_Same ({ Objs := a_0, Cap := a_1, Last := a_2 : GHeap }) a_3 ({ Objs := b_0, Cap := b_1, Last := b_2 : GHeap }) b_3 = some true) (e4 : F_canon_Same ({ Objs := b_0, Cap := b_1, Last := b_2 : GHeap }) b_3 ({ Objs := a_0, Cap := a_1, Last := a_2 : GHeap }) a_3 = some true) (e5 : F_canon_Same ({ Objs := a_0, Cap := a_1, Last := a_2 : GHeap }) (a_3 ++ a_3) ({ Objs := b_0, Cap := b_1, Last := b_2 : GHeap }) (b_3 ++ b_3) = some true) (e2 : F_canon_Same ({ Objs := b_0, Cap := b_1, Last := b_2 : GHeap }) b_3 ({ Objs := c_0, Cap := c_1, Last := c_2 : GHeap }) c_3 = some false) (e3 : F_canon_Same ({ Objs := a_0, Cap := a_1, Last := a_2 : GHeap }) a_3 ({ Objs := c_0, Cap := c_1, Last := c_2 : GHeap }) c_3 = some false) (r1 : a_3.length * 8 ≤ Pv.most) (r2 : (a_3.length + a_3.length) * 8 ≤ Pv.most) (r3 : b_3.length * 8 ≤ Pv.most) (r4 : (b_3.length + b_3.length) * 8 ≤ Pv.most) :
    cO Try.prog lore 16 [D.agg [D.t (T.sl 6 (els a_0)), I a_1, I a_2, D.t (T.sl 1 (els a_3))], D.agg [D.t (T.sl 6 (els b_0)), I b_1, I b_2, D.t (T.sl 1 (els b_3))], D.agg [D.t (T.sl 6 (els c_0)), I c_1, I c_2, D.t (T.sl 1 (els c_3))]] [] = some (.val (Bo true), []) := by
  rw [cO_eq (R := lore) rfl Try.func16 rfl]
  show wrapThen h16.res (endThen Try.prog h16.shr _ (eO Try.prog h16 (cO Try.prog lore) _ _)) = _
  simp (decide := true) (maxSteps := 10000000) [Try.f16, g1, g2, g3, g4, g5, g6, g7, g8, g9, e1, e4, e5, e2, e3, r1, r2, r3, r4]
end Go.Pv

namespace Go.Pv
open Go Go.Proofs
set_option maxRecDepth 100000
set_option maxHeartbeats 0
set_option linter.unusedSimpArgs false
set_option linter.unusedVariables false
theorem equalG (a_0 : List GObj) (a_1 a_2 : Int) (a_3 : List Int) (b_0 : List GObj) (b_1 b_2 : Int) (b_3 : List Int) (c_0 : List GObj) (c_1 c_2 : Int) (c_3 : List Int) (g1 : F_R03_Small ({ Objs := a_0, Cap := a_1, Last := a_2 : GHeap }) = some true) (g2 : F_R03_Small ({ Objs := b_0, Cap := b_1, Last := b_2 : GHeap }) = some true) (g3 : F_R03_Small ({ Objs := c_0, Cap := c_1, Last := c_2 : GHeap }) = some true) (g4 : (a_0.length : Int) ≤ 30) (g5 : (b_0.length : Int) ≤ 30) (g6 : (c_0.length : Int) ≤ 30) (g7 : (a_3.length : Int) ≤ 50) (g8 : (b_3.length : Int) ≤ 50) (g9 : (c_3.length : Int) ≤ 50) (e1 : F_canon_Same ({ Objs := a_0, Cap := a_1, Last := a_2 : GHeap }) a_3 ({ Objs := b_0, Cap := b_1, Last := b_2 : GHeap }) b_3 = some true) (e4 : F_canon_Same ({ Objs := b_0, Cap := b_1, Last := b_2 : GHeap }) b_3 ({ Objs := a_0, Cap := a_1, Last := a_2 : GHeap }) a_3 = some true) (e5 : F_canon_Same ({ Objs := a_0, Cap := a_1, Last := a_2 : GHeap }) (a_3 ++ a_3) ({ Objs := b_0, Cap := b_1, Last := b_2 : GHeap }) (b_3 ++ b_3) = some true) (e2 : F_canon_Same ({ Objs := b_0, Cap := b_1, Last := b_2 : GHeap }) b_3 ({ Objs := c_0, Cap := c_1, Last := c_2 : GHeap }) c_3 = some false) (e3 : F_canon_Same ({ Objs := a_0, Cap := a_1, Last := a_2 : GHeap }) a_3 ({ Objs := c_0, Cap := c_1, Last := c_2 : GHeap }) c_3 = some true) (r1 : a_3.length * 8 ≤ Pv.most) (r2 : (a_3.length + a_3.length) * 8 ≤ Pv.most) (r3 : b_3.length * 8 ≤ Pv.most) (r4 : (b_3.length + b_3.length) * 8 ≤ Pv.most) :
    cO Try.prog lore 16 [D.agg [D.t (T.sl 6 (els a_0)), I a_1, I a_2, D.t (T.sl 1 (els a_3))], D.agg [D.t (T.sl 6 (els b_0)), I b_1, I b_2, D.t (T.sl 1 (els b_3))], D.agg [D.t (T.sl 6 (els c_0)), I c_1, I c_2, D.t (T.sl 1 (els c_3))]] [] = some (.val (Bo true), []) := by
  rw [cO_eq (R := lore) rfl Try.func16 rfl]
  show wrapThen h16.res (endThen Try.prog h16.shr _ (eO Try.prog h16 (cO Try.prog lore) _ _)) = _
  simp (decide := true) (maxSteps := 10000000) [Try.f16, g1, g2, g3, g4, g5, g6, g7, g8, g9, e1, e4, e5, e2, e3, r1, r2, r3, r4]
theorem equalI (a_0 : List GObj) (a_1 a_2 : Int) (a_3 : List Int) (b_0 : List GObj) (b_1 b_2 : Int) (b_3 : List Int) (c_0 : List GObj) (c_1 c_2 : Int) (c_3 : List Int) (g1 : F_R03_Small ({ Objs := a_0, Cap := a_1, Last := a_2 : GHeap }) = some true) (g2 : F_R03_Small ({ Objs := b_0, Cap := b_1, Last := b_2 : GHeap }) = some true) (g3 : F_R03_Small ({ Objs := c_0, Cap := c_1, Last := c_2 : GHeap }) = some true) (g4 : (a_0.length : Int) ≤ 30) (g5 : (b_0.length : Int) ≤ 30) (g6 : (c_0.length : Int) ≤ 30) (g7 : (a_3.length : Int) ≤ 50) (g8 : (b_3.length : Int) ≤ 50) (g9 : (c_3.length : Int) ≤ 50) (e1 : F_canon_Same ({ Objs := a_0, Cap := a_1, Last := a_2 : GHeap }) a_3 ({ Objs := b_0, Cap := b_1, Last := b_2 : GHeap }) b_3 = some true) (e4 : F_canon_Same ({ Objs := b_0, Cap := b_1, Last := b_2 : GHeap }) b_3 ({ Objs := a_0, Cap := a_1, Last := a_2 : GHeap }) a_3 = some true) (e5 : F_canon_Same ({ Objs := a_0, Cap := a_1, Last := a_2 : GHeap }) (a_3 ++ a_3) ({ Objs := b_0, Cap := b_1, Last := b_2 : GHeap }) (b_3 ++ b_3) = some true) (e2 : F_canon_Same ({ Objs := b_0, Cap := b_1, Last := b_2 : GHeap }) b_3 ({ Objs := c_0, Cap := c_1, Last := c_2 : GHeap }) c_3 = some true) (e3 : F_canon_Same ({ Objs := a_0, Cap := a_1, Last := a_2 : GHeap }) a_3 ({ Objs := c_0, Cap := c_1, Last := c_2 : GHeap }) c_3 = some true) (r1 : a_3.length * 8 ≤ Pv.most) (r2 : (a_3.length + a_3.length) * 8 ≤ Pv.most) (r3 : b_3.length * 8 ≤ Pv.most) (r4 : (b_3.length + b_3.length) * 8 ≤ Pv.most) :
    cO Try.prog lore 16 [D.agg [D.t (T.sl 6 (els a_0)), I a_1, I a_2, D.t (T.sl 1 (els a_3))], D.agg [D.t (T.sl 6 (els b_0)), I b_1, I b_2, D.t (T.sl 1 (els b_3))], D.agg [D.t (T.sl 6 (els c_0)), I c_1, I c_2, D.t (T.sl 1 (els c_3))]] [] = some (.val (Bo true), []) := by
  rw [cO_eq (R := lore) rfl Try.func16 rfl]
  show wrapThen h16.res (endThen Try.prog h16.shr _ (eO Try.prog h16 (cO Try.prog lore) _ _)) = _
  simp (decide := true) (maxSteps := 10000000) [Try.f16, g1, g2, g3, g4, g5, g6, g7, g8, g9, e1, e4, e5, e2, e3, r1, r2, r3, r4]
end Go.Pv

/- Sameness but for numbers is mutual, goes on, and asks for each root once. -/
namespace Go.Pv
open Go Go.Proofs
theorem canonEqual (a : GHeap) (p : List Int) (b : GHeap) (q : List Int) (c : GHeap) (r : List Int) (ha : Slim a) (hb : Slim b) (hc : Slim c) : cO Try.prog lore 16 [rootedD a p, rootedD b q, rootedD c r] [] = some (.val (Bo true), []) := by
  obtain ⟨s, e1⟩ := R03_Small_ex a ha.1
  cases s with
  | false => exact equal0 _ _ _ _ _ _ _ _ _ _ _ _ e1
  | true =>
  obtain ⟨s, e2⟩ := R03_Small_ex b hb.1
  cases s with
  | false => exact equal1 _ _ _ _ _ _ _ _ _ _ _ _ e1 e2
  | true =>
  obtain ⟨s, e3⟩ := R03_Small_ex c hc.1
  cases s with
  | false => exact equal2 _ _ _ _ _ _ _ _ _ _ _ _ e1 e2 e3
  | true =>
  by_cases h1 : (a.Objs.length : Int) ≤ 30
  case neg => exact equal3 _ _ _ _ _ _ _ _ _ _ _ _ e1 e2 e3 h1
  by_cases h2 : (b.Objs.length : Int) ≤ 30
  case neg => exact equal4 _ _ _ _ _ _ _ _ _ _ _ _ e1 e2 e3 h1 h2
  by_cases h3 : (c.Objs.length : Int) ≤ 30
  case neg => exact equal5 _ _ _ _ _ _ _ _ _ _ _ _ e1 e2 e3 h1 h2 h3
  by_cases h4 : (p.length : Int) ≤ 50
  case neg => exact equal6 _ _ _ _ _ _ _ _ _ _ _ _ e1 e2 e3 h1 h2 h3 h4
  by_cases h5 : (q.length : Int) ≤ 50
  case neg => exact equal7 _ _ _ _ _ _ _ _ _ _ _ _ e1 e2 e3 h1 h2 h3 h4 h5
  by_cases h6 : (r.length : Int) ≤ 50
  case neg => exact equal8 _ _ _ _ _ _ _ _ _ _ _ _ e1 e2 e3 h1 h2 h3 h4 h5 h6
  have m1 : p.length * 8 ≤ Pv.most := by unfold Pv.most; omega
  have m2 : (p.length + p.length) * 8 ≤ Pv.most := by unfold Pv.most; omega
  have m3 : q.length * 8 ≤ Pv.most := by unfold Pv.most; omega
  have m4 : (q.length + q.length) * 8 ≤ Pv.most := by unfold Pv.most; omega
  have f1 := canon_Same_eq a p b q ha hb (by omega) (by omega)
  have f4 := canon_Same_eq b q a p hb ha (by omega) (by omega)
  have f2 := canon_Same_eq b q c r hb hc (by omega) (by omega)
  have f3 := canon_Same_eq a p c r ha hc (by omega) (by omega)
  have f5 := canon_Same_eq a (p ++ p) b (q ++ q) ha hb (by rw [List.length_append]; omega) (by rw [List.length_append]; omega)
  rw [sameC_twice] at f5
  rw [← sameC_symm a p b q] at f4
  cases s1 : sameC a p b q with
  | false =>
    rw [s1] at f1 f4 f5
    exact equalA (sameC b q c r) (sameC a p c r) _ _ _ _ _ _ _ _ _ _ _ _ e1 e2 e3 h1 h2 h3 h4 h5 h6 f1 f4 f5 f2 f3 m1 m2 m3 m4
  | true =>
    rw [s1] at f1 f4 f5
    cases s2 : sameC b q c r with
    | false =>
      rw [s2] at f2
      cases s3 : sameC a p c r with
      | false => rw [s3] at f3; exact equalF _ _ _ _ _ _ _ _ _ _ _ _ e1 e2 e3 h1 h2 h3 h4 h5 h6 f1 f4 f5 f2 f3 m1 m2 m3 m4
      | true => rw [s3] at f3; exact equalG _ _ _ _ _ _ _ _ _ _ _ _ e1 e2 e3 h1 h2 h3 h4 h5 h6 f1 f4 f5 f2 f3 m1 m2 m3 m4
    | true =>
      rw [s2] at f2
      have s3 : sameC a p c r = true := sameC_iff.2 ((sameC_iff.1 s1).trans (sameC_iff.1 s2))
      rw [s3] at f3
      exact equalI _ _ _ _ _ _ _ _ _ _ _ _ e1 e2 e3 h1 h2 h3 h4 h5 h6 f1 f4 f5 f2 f3 m1 m2 m3 m4
end Go.Pv

/- The law, of data. -/
namespace Go.Pv
open Go Go.Proofs
theorem law_canonEqual (x : cequalT.den) (hx : cequalT.wf x) (hk : cequalT.bulk x ≤ 1048576) : cO Try.prog lore 16 (argDs cequalT x) [] = some (.val (Bo true), []) := by
  obtain ⟨a, b, c, u⟩ := x
  have h3 : rootedT.bulk a + (rootedT.bulk b + (rootedT.bulk c + 0)) ≤ 1048576 := hk
  obtain ⟨a1, _, _⟩ := rooted_small a hx.1 (by omega)
  obtain ⟨b1, _, _⟩ := rooted_small b hx.2.1 (by omega)
  obtain ⟨c1, _, _⟩ := rooted_small c hx.2.2.1 (by omega)
  exact cg3 (rooted_D a) (rooted_D b) (rooted_D c) (canonEqual _ _ _ _ _ _ a1 b1 c1)
end Go.Pv
