/- A part of the road: the interpreter of plain data and the proof that it is right. -/
import Derived.Test.YtnleijomgjhplaaQ9t
import Derived.Test.YtnleijomgjhplaaM9t
import Derived.Test.YtnleijomgjhplaaP9t
set_option linter.unusedVariables false
set_option linter.unusedSimpArgs false
/- States: the document's collection. -/
namespace Go.Pv
theorem R15_Collect_eq (s : GState) (hs : Slim s.Heap) (hb : BitsR s.Heap) : F_R15_Collect s = some (collS s) := by
  unfold F_R15_Collect collS
  rw [R15_Check_eq s hs hb, ob_some, R15_Roots_eq s hs hb]
  unfold stateE
  cases h : dec (OkState s) with
  | false => rw [if_neg (by simp), if_neg (by simp)]; rfl
  | true =>
    have o := dec_iff.1 h
    rw [if_pos rfl, if_pos rfl, if_pos rfl, ob_some, R05_Compact_eq _ _ hs hb (by simp [rootsT, firsts]), ob_some, compS_state o]
    simp only
    rw [if_pos (by simp [rootsT, firsts]), if_pos (by simp [rootsT, firsts]), roots_proc.1, roots_proc.2]
    rfl
end Go.Pv

namespace Go.Pv
open Go Go.Proofs
set_option maxRecDepth 100000
set_option maxHeartbeats 0
set_option linter.unusedSimpArgs false
set_option linter.unusedVariables false
theorem stells0 (s_0 : List GObj) (s_1 s_2 : Int) (s_3 s_4 s_5 s_6 s_7 : Int) (g1 : F_R03_Small ({ Objs := s_0, Cap := s_1, Last := s_2 : GHeap }) = some false) :
    cO Try.prog lore 26 [D.agg [D.t (T.sl 6 (els s_0)), I s_1, I s_2, I s_3, I s_4, I s_5, I s_6, I s_7]] [] = some (.val (Bo true), []) := by
  rw [cO_eq (R := lore) rfl Try.func26 rfl]
  show wrapThen h26.res (endThen Try.prog h26.shr _ (eO Try.prog h26 (cO Try.prog lore) _ _)) = _
  simp (decide := true) (maxSteps := 10000000) [Try.f26, g1]
theorem stells1 (s_0 : List GObj) (s_1 s_2 : Int) (s_3 s_4 s_5 s_6 s_7 : Int) (g1 : F_R03_Small ({ Objs := s_0, Cap := s_1, Last := s_2 : GHeap }) = some true) (g2 : ¬ (s_0.length : Int) ≤ 60) :
    cO Try.prog lore 26 [D.agg [D.t (T.sl 6 (els s_0)), I s_1, I s_2, I s_3, I s_4, I s_5, I s_6, I s_7]] [] = some (.val (Bo true), []) := by
  rw [cO_eq (R := lore) rfl Try.func26 rfl]
  show wrapThen h26.res (endThen Try.prog h26.shr _ (eO Try.prog h26 (cO Try.prog lore) _ _)) = _
  simp (decide := true) (maxSteps := 10000000) [Try.f26, g1, g2]
theorem stellsM (s_0 : List GObj) (s_1 s_2 : Int) (s_3 s_4 s_5 s_6 s_7 : Int) (a_0 : List GObj) (a_1 a_2 : Int) (a_3 a_4 a_5 a_6 a_7 : Int) (e k : Int) (l : List Int) (g1 : F_R03_Small ({ Objs := s_0, Cap := s_1, Last := s_2 : GHeap }) = some true) (g2 : (s_0.length : Int) ≤ 60) (g3 : F_shape_Collect ({ Heap := ({ Objs := s_0, Cap := s_1, Last := s_2 : GHeap }), Proc := s_3, Ready := s_4, Halt := s_5, Steps := s_6, Used := s_7 : GState }) = some (({ Heap := ({ Objs := a_0, Cap := a_1, Last := a_2 : GHeap }), Proc := a_3, Ready := a_4, Halt := a_5, Steps := a_6, Used := a_7 : GState }), e)) (g4 : F_R15_Collect ({ Heap := ({ Objs := s_0, Cap := s_1, Last := s_2 : GHeap }), Proc := s_3, Ready := s_4, Halt := s_5, Steps := s_6, Used := s_7 : GState }) = some (({ Heap := ({ Objs := a_0, Cap := a_1, Last := a_2 : GHeap }), Proc := a_3, Ready := a_4, Halt := a_5, Steps := a_6, Used := a_7 : GState }), e)) (g5 : F_shape_Check ({ Heap := ({ Objs := s_0, Cap := s_1, Last := s_2 : GHeap }), Proc := s_3, Ready := s_4, Halt := s_5, Steps := s_6, Used := s_7 : GState }) = some k) (g6 : F_R15_Check ({ Heap := ({ Objs := s_0, Cap := s_1, Last := s_2 : GHeap }), Proc := s_3, Ready := s_4, Halt := s_5, Steps := s_6, Used := s_7 : GState }) = some k) (g7 : F_shape_Roots ({ Heap := ({ Objs := s_0, Cap := s_1, Last := s_2 : GHeap }), Proc := s_3, Ready := s_4, Halt := s_5, Steps := s_6, Used := s_7 : GState }) = some l) (g8 : F_R15_Roots ({ Heap := ({ Objs := s_0, Cap := s_1, Last := s_2 : GHeap }), Proc := s_3, Ready := s_4, Halt := s_5, Steps := s_6, Used := s_7 : GState }) = some l) (g9 : F_R03_Ints l l = some true) (g10 : F_R15_One ({ Heap := ({ Objs := a_0, Cap := a_1, Last := a_2 : GHeap }), Proc := a_3, Ready := a_4, Halt := a_5, Steps := a_6, Used := a_7 : GState }) ({ Heap := ({ Objs := a_0, Cap := a_1, Last := a_2 : GHeap }), Proc := a_3, Ready := a_4, Halt := a_5, Steps := a_6, Used := a_7 : GState }) = some true) :
    cO Try.prog lore 26 [D.agg [D.t (T.sl 6 (els s_0)), I s_1, I s_2, I s_3, I s_4, I s_5, I s_6, I s_7]] [] = some (.val (Bo true), []) := by
  rw [cO_eq (R := lore) rfl Try.func26 rfl]
  show wrapThen h26.res (endThen Try.prog h26.shr _ (eO Try.prog h26 (cO Try.prog lore) _ _)) = _
  simp (decide := true) (maxSteps := 10000000) [Try.f26, g1, g2, g3, g4, g5, g6, g7, g8, g9, g10]
end Go.Pv

/- States: the program and the document. -/
namespace Go.Pv
open Go Go.Proofs
theorem shapeTells (s : GState) (hs : Slim s.Heap) (hb : BitsR s.Heap) : cO Try.prog lore 26 [stateD s] [] = some (.val (Bo true), []) := by
  obtain ⟨b, hb1⟩ := R03_Small_ex s.Heap hs.1
  cases b with
  | false => exact stells0 _ _ _ _ _ _ _ _ hb1
  | true =>
  by_cases h2 : (s.Heap.Objs.length : Int) ≤ 60
  case neg => exact stells1 _ _ _ _ _ _ _ _ hb1 h2
  have a1 : F_shape_Collect s = some (collS s) := shape_Collect_eq s hs
  have a2 : F_R15_Collect s = some (collS s) := R15_Collect_eq s hs hb
  have a3 : F_shape_Check s = some (stateE s) := shape_Check_eq s hs
  have a4 : F_R15_Check s = some (stateE s) := R15_Check_eq s hs hb
  have a5 : F_shape_Roots s = some (if dec (OkState s) = true then rootsT s else []) := shape_Roots_eq s hs
  have a6 : F_R15_Roots s = some (if dec (OkState s) = true then rootsT s else []) := R15_Roots_eq s hs hb
  have a7 := R03_Ints_eq _ (if dec (OkState s) = true then rootsT s else []) (rootsL_len s)
  have a8 := R15_One_eq (collS s).1 (collS s).1 (collS_slim hs)
  exact stellsM _ _ _ _ _ _ _ _ (collS s).1.Heap.Objs (collS s).1.Heap.Cap (collS s).1.Heap.Last (collS s).1.Proc (collS s).1.Ready (collS s).1.Halt (collS s).1.Steps (collS s).1.Used (collS s).2 (stateE s) _ hb1 h2 a1 a2 a3 a4 a5 a6 (by rw [a7]; simp) (a8.trans (by simp))
end Go.Pv

/- The law, of data. -/
namespace Go.Pv
open Go Go.Proofs
theorem law_shapeTells (x : shT.den) (hx : shT.wf x) (hk : shT.bulk x ≤ 1048576) : cO Try.prog lore 26 (argDs shT x) [] = some (.val (Bo true), []) := by
  obtain ⟨s, u⟩ := x
  have h3 : stateT.bulk s + 0 ≤ 1048576 := hk
  obtain ⟨a1, a2⟩ := state_small s hx.1 (by omega)
  exact cs1 (argD_state s) (shapeTells _ a1 a2)
end Go.Pv
