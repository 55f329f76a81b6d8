/- A part of the road: the interpreter of plain data and the proof that it is right. -/
import Derived.Test.YtnleijomgjhplaaQ9g
set_option linter.unusedVariables false
set_option linter.unusedSimpArgs false
namespace Go.Pv
open Go Go.Proofs
set_option maxRecDepth 100000
set_option maxHeartbeats 0
set_option linter.unusedSimpArgs false
set_option linter.unusedVariables false
theorem sgarb0 (s_0 : List GObj) (s_1 s_2 : Int) (s_3 s_4 s_5 s_6 s_7 : Int) (x_0 x_1 : Int) (x_2 : List Int) (x_3 : ByteArray) (x_4 x_5 : Int) (g1 : F_R03_Small ({ Objs := s_0, Cap := s_1, Last := s_2 : GHeap }) = some false) :
    cO Try.prog lore 30 [D.agg [D.t (T.sl 6 (els s_0)), I s_1, I s_2, I s_3, I s_4, I s_5, I s_6, I s_7], D.agg [I x_0, I x_1, D.t (T.sl 1 (els x_2)), D.t (T.sc (Value.string x_3)), I x_4, I x_5]] [] = some (.val (Bo true), []) := by
  rw [cO_eq (R := lore) rfl Try.func30 rfl]
  show wrapThen h30.res (endThen Try.prog h30.shr _ (eO Try.prog h30 (cO Try.prog lore) _ _)) = _
  simp (decide := true) (maxSteps := 10000000) [Try.f30, g1]
theorem sgarb1 (s_0 : List GObj) (s_1 s_2 : Int) (s_3 s_4 s_5 s_6 s_7 : Int) (x_0 x_1 : Int) (x_2 : List Int) (x_3 : ByteArray) (x_4 x_5 : Int) (g1 : F_R03_Small ({ Objs := s_0, Cap := s_1, Last := s_2 : GHeap }) = some true) (g2 : ¬ (s_0.length : Int) ≤ 60) :
    cO Try.prog lore 30 [D.agg [D.t (T.sl 6 (els s_0)), I s_1, I s_2, I s_3, I s_4, I s_5, I s_6, I s_7], D.agg [I x_0, I x_1, D.t (T.sl 1 (els x_2)), D.t (T.sc (Value.string x_3)), I x_4, I x_5]] [] = some (.val (Bo true), []) := by
  rw [cO_eq (R := lore) rfl Try.func30 rfl]
  show wrapThen h30.res (endThen Try.prog h30.shr _ (eO Try.prog h30 (cO Try.prog lore) _ _)) = _
  simp (decide := true) (maxSteps := 10000000) [Try.f30, g1, g2]
theorem sgarb2 (s_0 : List GObj) (s_1 s_2 : Int) (s_3 s_4 s_5 s_6 s_7 : Int) (x_0 x_1 : Int) (x_2 : List Int) (x_3 : ByteArray) (x_4 x_5 : Int) (g1 : F_R03_Small ({ Objs := s_0, Cap := s_1, Last := s_2 : GHeap }) = some true) (g2 : (s_0.length : Int) ≤ 60) (g3 : F_R15_Check ({ Heap := ({ Objs := s_0, Cap := s_1, Last := s_2 : GHeap }), Proc := s_3, Ready := s_4, Halt := s_5, Steps := s_6, Used := s_7 : GState }) = some 150) :
    cO Try.prog lore 30 [D.agg [D.t (T.sl 6 (els s_0)), I s_1, I s_2, I s_3, I s_4, I s_5, I s_6, I s_7], D.agg [I x_0, I x_1, D.t (T.sl 1 (els x_2)), D.t (T.sc (Value.string x_3)), I x_4, I x_5]] [] = some (.val (Bo true), []) := by
  rw [cO_eq (R := lore) rfl Try.func30 rfl]
  show wrapThen h30.res (endThen Try.prog h30.shr _ (eO Try.prog h30 (cO Try.prog lore) _ _)) = _
  simp (decide := true) (maxSteps := 10000000) [Try.f30, g1, g2, g3]
theorem sgarb3 (s_0 : List GObj) (s_1 s_2 : Int) (s_3 s_4 s_5 s_6 s_7 : Int) (x_0 x_1 : Int) (x_2 : List Int) (x_3 : ByteArray) (x_4 x_5 : Int) (g1 : F_R03_Small ({ Objs := s_0, Cap := s_1, Last := s_2 : GHeap }) = some true) (g2 : (s_0.length : Int) ≤ 60) (g3 : F_R15_Check ({ Heap := ({ Objs := s_0, Cap := s_1, Last := s_2 : GHeap }), Proc := s_3, Ready := s_4, Halt := s_5, Steps := s_6, Used := s_7 : GState }) = some 0) (g4 : s_1 ≤ (s_0.length : Int)) :
    cO Try.prog lore 30 [D.agg [D.t (T.sl 6 (els s_0)), I s_1, I s_2, I s_3, I s_4, I s_5, I s_6, I s_7], D.agg [I x_0, I x_1, D.t (T.sl 1 (els x_2)), D.t (T.sc (Value.string x_3)), I x_4, I x_5]] [] = some (.val (Bo true), []) := by
  rw [cO_eq (R := lore) rfl Try.func30 rfl]
  show wrapThen h30.res (endThen Try.prog h30.shr _ (eO Try.prog h30 (cO Try.prog lore) _ _)) = _
  simp (decide := true) (maxSteps := 10000000) [Try.f30, g1, g2, g3, g4]
theorem sgarb4 (s_0 : List GObj) (s_1 s_2 : Int) (s_3 s_4 s_5 s_6 s_7 : Int) (x_0 x_1 : Int) (x_2 : List Int) (x_3 : ByteArray) (x_4 x_5 : Int) (g1 : F_R03_Small ({ Objs := s_0, Cap := s_1, Last := s_2 : GHeap }) = some true) (g2 : (s_0.length : Int) ≤ 60) (g3 : F_R15_Check ({ Heap := ({ Objs := s_0, Cap := s_1, Last := s_2 : GHeap }), Proc := s_3, Ready := s_4, Halt := s_5, Steps := s_6, Used := s_7 : GState }) = some 0) (g4 : ¬ s_1 ≤ (s_0.length : Int)) (g5 : ¬ (x_2.length : Int) ≤ 64) :
    cO Try.prog lore 30 [D.agg [D.t (T.sl 6 (els s_0)), I s_1, I s_2, I s_3, I s_4, I s_5, I s_6, I s_7], D.agg [I x_0, I x_1, D.t (T.sl 1 (els x_2)), D.t (T.sc (Value.string x_3)), I x_4, I x_5]] [] = some (.val (Bo true), []) := by
  rw [cO_eq (R := lore) rfl Try.func30 rfl]
  show wrapThen h30.res (endThen Try.prog h30.shr _ (eO Try.prog h30 (cO Try.prog lore) _ _)) = _
  simp (decide := true) (maxSteps := 10000000) [Try.f30, g1, g2, g3, g4, g5]
theorem sgarbE (s_0 : List GObj) (s_1 s_2 : Int) (s_3 s_4 s_5 s_6 s_7 : Int) (x_0 x_1 : Int) (x_2 : List Int) (x_3 : ByteArray) (x_4 x_5 : Int) (g1 : F_R03_Small ({ Objs := s_0, Cap := s_1, Last := s_2 : GHeap }) = some true) (g2 : (s_0.length : Int) ≤ 60) (g3 : F_R15_Check ({ Heap := ({ Objs := s_0, Cap := s_1, Last := s_2 : GHeap }), Proc := s_3, Ready := s_4, Halt := s_5, Steps := s_6, Used := s_7 : GState }) = some 0) (g4 : ¬ s_1 ≤ (s_0.length : Int)) (g5 : (x_2.length : Int) ≤ 64) (g6 : F_R03_Copy ({ Objs := s_0, Cap := s_1, Last := s_2 : GHeap }) = some ({ Objs := s_0, Cap := s_1, Last := s_2 : GHeap })) (g7 : (s_0.length + 1) * 72 ≤ Pv.most) (g8 : List.take (s_0.length + 1) (s_0 ++ [({ Class := x_0, Kind := x_1, Slots := x_2, Text := x_3, Bits := x_4, Hash := x_5 : GObj })]) = s_0 ++ [({ Class := x_0, Kind := x_1, Slots := x_2, Text := x_3, Bits := x_4, Hash := x_5 : GObj })]) (g9 : F_R15_Check ({ Heap := { Objs := s_0 ++ [({ Class := x_0, Kind := x_1, Slots := x_2, Text := x_3, Bits := x_4, Hash := x_5 : GObj })], Cap := s_1, Last := s_2 : GHeap }, Proc := s_3, Ready := s_4, Halt := s_5, Steps := s_6, Used := s_7 : GState }) = some 150) :
    cO Try.prog lore 30 [D.agg [D.t (T.sl 6 (els s_0)), I s_1, I s_2, I s_3, I s_4, I s_5, I s_6, I s_7], D.agg [I x_0, I x_1, D.t (T.sl 1 (els x_2)), D.t (T.sc (Value.string x_3)), I x_4, I x_5]] [] = some (.val (Bo true), []) := by
  rw [cO_eq (R := lore) rfl Try.func30 rfl]
  show wrapThen h30.res (endThen Try.prog h30.shr _ (eO Try.prog h30 (cO Try.prog lore) _ _)) = _
  simp (decide := true) (maxSteps := 10000000) [Try.f30, g1, g2, g3, g4, g5, g6, g7, g8, g9]
theorem sgarbM (s_0 : List GObj) (s_1 s_2 : Int) (s_3 s_4 s_5 s_6 s_7 : Int) (x_0 x_1 : Int) (x_2 : List Int) (x_3 : ByteArray) (x_4 x_5 : Int) (a_0 : List GObj) (a_1 a_2 : Int) (a_3 a_4 a_5 a_6 a_7 : Int) (g1 : F_R03_Small ({ Objs := s_0, Cap := s_1, Last := s_2 : GHeap }) = some true) (g2 : (s_0.length : Int) ≤ 60) (g3 : F_R15_Check ({ Heap := ({ Objs := s_0, Cap := s_1, Last := s_2 : GHeap }), Proc := s_3, Ready := s_4, Halt := s_5, Steps := s_6, Used := s_7 : GState }) = some 0) (g4 : ¬ s_1 ≤ (s_0.length : Int)) (g5 : (x_2.length : Int) ≤ 64) (g6 : F_R03_Copy ({ Objs := s_0, Cap := s_1, Last := s_2 : GHeap }) = some ({ Objs := s_0, Cap := s_1, Last := s_2 : GHeap })) (g7 : (s_0.length + 1) * 72 ≤ Pv.most) (g8 : List.take (s_0.length + 1) (s_0 ++ [({ Class := x_0, Kind := x_1, Slots := x_2, Text := x_3, Bits := x_4, Hash := x_5 : GObj })]) = s_0 ++ [({ Class := x_0, Kind := x_1, Slots := x_2, Text := x_3, Bits := x_4, Hash := x_5 : GObj })]) (g9 : F_R15_Check ({ Heap := { Objs := s_0 ++ [({ Class := x_0, Kind := x_1, Slots := x_2, Text := x_3, Bits := x_4, Hash := x_5 : GObj })], Cap := s_1, Last := s_2 : GHeap }, Proc := s_3, Ready := s_4, Halt := s_5, Steps := s_6, Used := s_7 : GState }) = some 0) (g10 : F_shape_Collect ({ Heap := ({ Objs := s_0, Cap := s_1, Last := s_2 : GHeap }), Proc := s_3, Ready := s_4, Halt := s_5, Steps := s_6, Used := s_7 : GState }) = some (({ Heap := ({ Objs := a_0, Cap := a_1, Last := a_2 : GHeap }), Proc := a_3, Ready := a_4, Halt := a_5, Steps := a_6, Used := a_7 : GState }), 0)) (g11 : F_shape_Collect ({ Heap := { Objs := s_0 ++ [({ Class := x_0, Kind := x_1, Slots := x_2, Text := x_3, Bits := x_4, Hash := x_5 : GObj })], Cap := s_1, Last := s_2 : GHeap }, Proc := s_3, Ready := s_4, Halt := s_5, Steps := s_6, Used := s_7 : GState }) = some (({ Heap := ({ Objs := a_0, Cap := a_1, Last := a_2 : GHeap }), Proc := a_3, Ready := a_4, Halt := a_5, Steps := a_6, Used := a_7 : GState }), 0)) (g12 : F_R15_One ({ Heap := ({ Objs := a_0, Cap := a_1, Last := a_2 : GHeap }), Proc := a_3, Ready := a_4, Halt := a_5, Steps := a_6, Used := a_7 : GState }) ({ Heap := ({ Objs := a_0, Cap := a_1, Last := a_2 : GHeap }), Proc := a_3, Ready := a_4, Halt := a_5, Steps := a_6, Used := a_7 : GState }) = some true) (g13 : F_shape_Same ({ Heap := ({ Objs := s_0, Cap := s_1, Last := s_2 : GHeap }), Proc := s_3, Ready := s_4, Halt := s_5, Steps := s_6, Used := s_7 : GState }) ({ Heap := { Objs := s_0 ++ [({ Class := x_0, Kind := x_1, Slots := x_2, Text := x_3, Bits := x_4, Hash := x_5 : GObj })], Cap := s_1, Last := s_2 : GHeap }, Proc := s_3, Ready := s_4, Halt := s_5, Steps := s_6, Used := s_7 : GState }) = some true) :
    cO Try.prog lore 30 [D.agg [D.t (T.sl 6 (els s_0)), I s_1, I s_2, I s_3, I s_4, I s_5, I s_6, I s_7], D.agg [I x_0, I x_1, D.t (T.sl 1 (els x_2)), D.t (T.sc (Value.string x_3)), I x_4, I x_5]] [] = some (.val (Bo true), []) := by
  rw [cO_eq (R := lore) rfl Try.func30 rfl]
  show wrapThen h30.res (endThen Try.prog h30.shr _ (eO Try.prog h30 (cO Try.prog lore) _ _)) = _
  simp (decide := true) (maxSteps := 10000000) [Try.f30, g1, g2, g3, g4, g5, g6, g7, g8, g9, g10, g11, g12, g13]
end Go.Pv

/- An object more, that nobody has: the law in plain words. -/
namespace Go.Pv
open Go Go.Proofs
theorem R03_Copy_eq (h : GHeap) (hs : h.Objs.length ≤ 1048576) (hsl : ∀ o ∈ h.Objs, o.Slots.length ≤ 1048576) : F_R03_Copy h = some h := by
  unfold F_R03_Copy
  have loop := iter_acc (S := fun p : Int × List GObj => s0_R03_Copy h.Objs h.Cap h.Last [] 0 0 h.Cap h.Last p.fst p.snd) (fun k => ((k : Int), h.Objs.take k)) h.Objs.length (b := h.Objs) (fun k hk => by
    have hlo : (h.Objs.take k).length = k := by rw [List.length_take]; omega
    have h1 := hsl _ (List.getElem_mem hk)
    simp only [s0_R03_Copy, atI_nat _ k hk]
    rw [if_pos (by omega), if_pos (by omega), if_pos (by unfold most; omega), if_pos (by rw [hlo]; unfold most; omega), w64_id (by omega) (by omega), List.take_succ_eq_append_getElem hk]
    rfl) (by
    simp only [s0_R03_Copy]
    rw [if_neg (by omega), List.take_length])
  have loop' : iterO (fun p : Int × List GObj => s0_R03_Copy h.Objs h.Cap h.Last [] 0 0 h.Cap h.Last p.fst p.snd) ((0 : Int), []) = some h.Objs := by simpa using loop
  rw [loop', ob_some]
def objD (o : GObj) : D := D.agg [I o.Class, I o.Kind, D.t (T.sl 1 (els o.Slots)), D.t (T.sc (Value.string o.Text)), I o.Bits, I o.Hash]
theorem shapeGarbage (s : GState) (x : GObj) (hs : Slim s.Heap) (hb : BitsR s.Heap) (hx : x.Slots.length + x.Text.size ≤ 1048576) (hxb : inR x.Bits) : cO Try.prog lore 30 [stateD s, objD x] [] = some (.val (Bo true), []) := by
  obtain ⟨b, hb1⟩ := R03_Small_ex s.Heap hs.1
  cases b with
  | false => exact sgarb0 _ _ _ _ _ _ _ _ _ _ _ _ _ _ hb1
  | true =>
  by_cases h2 : (s.Heap.Objs.length : Int) ≤ 60
  case neg => exact sgarb1 _ _ _ _ _ _ _ _ _ _ _ _ _ _ hb1 h2
  have fc := R15_Check_eq s hs hb
  by_cases o : OkState s
  case neg => exact sgarb2 _ _ _ _ _ _ _ _ _ _ _ _ _ _ hb1 h2 (fc.trans (by unfold stateE; rw [dec_false o, if_neg (by simp)]))
  have fc' : F_R15_Check s = some 0 := fc.trans (by rw [stateE_zero.2 o])
  by_cases h3 : s.Heap.Cap ≤ (s.Heap.Objs.length : Int)
  case pos => exact sgarb3 _ _ _ _ _ _ _ _ _ _ _ _ _ _ hb1 h2 fc' h3
  by_cases h4 : (x.Slots.length : Int) ≤ 64
  case neg => exact sgarb4 _ _ _ _ _ _ _ _ _ _ _ _ _ _ hb1 h2 fc' h3 h4
  have hsl : ∀ q ∈ s.Heap.Objs, q.Slots.length ≤ 1048576 := fun q hq => by
    have := (o.heap.objs q hq).nslots
    omega
  have cp : F_R03_Copy s.Heap = some s.Heap := R03_Copy_eq s.Heap (by omega) hsl
  have mt : List.take (s.Heap.Objs.length + 1) (s.Heap.Objs ++ [x]) = s.Heap.Objs ++ [x] := List.take_of_length_le (by simp)
  have m1 : (s.Heap.Objs.length + 1) * 72 ≤ Pv.most := by unfold Pv.most; omega
  have slm : Slim (s.more x).Heap := by
    refine ⟨?_, fun q hq => ?_⟩
    · show (s.Heap.Objs ++ [x]).length ≤ big
      rw [List.length_append]
      simp only [List.length_cons, List.length_nil]
      unfold big; omega
    · rcases List.mem_append.1 (show q ∈ s.Heap.Objs ++ [x] from hq) with h | h
      · exact hs.2 q h
      · rw [List.mem_singleton.1 h]; unfold big; omega
  have bim : BitsR (s.more x).Heap := fun q hq => by
    rcases List.mem_append.1 (show q ∈ s.Heap.Objs ++ [x] from hq) with h | h
    · exact hb q h
    · rw [List.mem_singleton.1 h]; exact hxb
  have ft := R15_Check_eq (s.more x) slm bim
  by_cases o' : OkState (s.more x)
  case neg => exact sgarbE _ _ _ _ _ _ _ _ _ _ _ _ _ _ hb1 h2 fc' h3 h4 cp m1 mt (ft.trans (by unfold stateE; rw [dec_false o', if_neg (by simp)]))
  have ft' : F_R15_Check (s.more x) = some 0 := ft.trans (by rw [stateE_zero.2 o'])
  have c1 : F_shape_Collect s = some (collT s, 0) := by rw [shape_Collect_eq s hs]; unfold collS; rw [dec_true o, if_pos rfl]
  have c2 : F_shape_Collect (s.more x) = some (collT s, 0) := by rw [shape_Collect_eq _ slm]; unfold collS; rw [dec_true o', if_pos rfl, more_coll o x]
  have e1 : F_R15_One (collT s) (collT s) = some true := by rw [R15_One_eq _ _ (coll_slim hs o)]; simp
  have e2 : F_shape_Same s (s.more x) = some true := by rw [shape_Same_eq _ _ hs slm, sameTB_iff.2 (more_same o x o')]
  exact sgarbM _ _ _ _ _ _ _ _ _ _ _ _ _ _ (collT s).Heap.Objs (collT s).Heap.Cap (collT s).Heap.Last (collT s).Proc (collT s).Ready (collT s).Halt (collT s).Steps (collT s).Used hb1 h2 fc' h3 h4 cp m1 mt ft' c1 c2 e1 e2
end Go.Pv

/- The law, of data. -/
namespace Go.Pv
open Go Go.Proofs
abbrev shgT : Ty := .pair stateT (.pair objT .unit)
theorem argD_obj (x : objT.den) : argD objT x = objD (toObj x) := rfl
theorem law_shapeGarbage (x : shgT.den) (hx : shgT.wf x) (hk : shgT.bulk x ≤ 1048576) : cO Try.prog lore 30 (argDs shgT x) [] = some (.val (Bo true), []) := by
  obtain ⟨s, o, u⟩ := x
  have h3 : stateT.bulk s + (objT.bulk o + 0) ≤ 1048576 := hk
  obtain ⟨a1, a2⟩ := state_small s hx.1 (by omega)
  have hb := obj_bulk o
  have hi : inR (toObj o).Bits := by
    obtain ⟨c, kd, sl, tx, b, h, v⟩ := o
    exact int_wf hx.2.1.2.2.2.2.1
  exact cs2 (argD_state s) (argD_obj o) (shapeGarbage _ _ a1 a2 (by omega) hi)
end Go.Pv
