/- A part of the road: the interpreter of plain data and the proof that it is right. -/
import Derived.Test.YtnleijomgjhplaaB9g
import Derived.Test.YtnleijomgjhplaaT9g
set_option linter.unusedVariables false
set_option linter.unusedSimpArgs false
namespace Go.Pv
open Go Go.Proofs
set_option maxRecDepth 100000
set_option maxHeartbeats 0
set_option linter.unusedSimpArgs false
set_option linter.unusedVariables false
noncomputable def F_shape_Collect (s : GState) : Option (GState × Int) :=
  ob (F_shape_may s) fun a => if a = false then some ({ Heap := { Objs := [], Cap := (0 : Int), Last := (0 : Int) : GHeap }, Proc := (0 : Int), Ready := (0 : Int), Halt := (0 : Int), Steps := (0 : Int), Used := (0 : Int) : GState }, (150 : Int)) else ob (F_shape_Roots s) fun a => ob (F_move_Compact s.Heap a) fun a => if (12 : Int) < (↑a.snd.fst.length : Int) then if (13 : Int) < (↑a.snd.fst.length : Int) then some ({ Heap := a.fst, Proc := atI a.snd.fst (12 : Int), Ready := atI a.snd.fst (13 : Int), Halt := s.Halt, Steps := s.Steps, Used := s.Used : GState }, (0 : Int)) else none else none
@[simp ↓] theorem f_shape_Collect (s_0 : List GObj) (s_1 s_2 s_3 s_4 s_5 s_6 s_7 : Int) : cO Try.prog lore (84 : Nat) [D.agg [D.t (T.sl (6 : Nat) (els s_0)), I s_1, I s_2, I s_3, I s_4, I s_5, I s_6, I s_7]] [] = ob (F_shape_Collect ({ Heap := { Objs := s_0, Cap := s_1, Last := s_2 : GHeap }, Proc := s_3, Ready := s_4, Halt := s_5, Steps := s_6, Used := s_7 : GState })) (fun r : GState × Int => some (Res.val (D.tup [D.agg [D.t (T.sl (6 : Nat) (els r.fst.Heap.Objs)), I r.fst.Heap.Cap, I r.fst.Heap.Last, I r.fst.Proc, I r.fst.Ready, I r.fst.Halt, I r.fst.Steps, I r.fst.Used], I r.snd]), [])) := by
  rw [cO_eq (R := lore) rfl Try.func84 rfl]
  show wrapThen h84.res (endThen Try.prog h84.shr _ (eO Try.prog h84 (cO Try.prog lore) _ _)) = _
  simp (decide := true) (maxSteps := 10000000) [Try.f84, F_shape_Collect]
@[simp ↓] theorem n0_0_shape_Collect (y1 y2 y3 y4 y5 y6 y7 : D) (fr : Frames) : cO Try.prog lore 84 [D.agg [D.t (T.sc (Value.slice none (0 : Nat) (0 : Nat))), y1, y2, y3, y4, y5, y6, y7]] fr = cO Try.prog lore 84 [D.agg [D.t (T.sl (6 : Nat) (els (nl GObj))), y1, y2, y3, y4, y5, y6, y7]] fr := by
  rw [cO_eq (R := lore) rfl Try.func84 rfl, cO_eq (R := lore) rfl Try.func84 rfl]
  rfl
noncomputable def F_shape_Same (a b : GState) : Option (Bool) :=
  ob (F_shape_may a) fun a_8 => if a_8 = true then ob (F_shape_may b) fun a_9 => if a_9 = true then if a.Halt = b.Halt then if a.Steps = b.Steps then if a.Used = b.Used then ob (F_shape_Roots a) fun a_10 => ob (F_shape_Roots b) fun a_11 => ob (F_canon_Same a.Heap a_10 b.Heap a_11) fun a => some a else some false else some false else some false else some false else some false
@[simp ↓] theorem f_shape_Same (a_0 : List GObj) (a_1 a_2 a_3 a_4 a_5 a_6 a_7 : Int) (b_0 : List GObj) (b_1 b_2 b_3 b_4 b_5 b_6 b_7 : Int) : cO Try.prog lore (89 : Nat) [D.agg [D.t (T.sl (6 : Nat) (els a_0)), I a_1, I a_2, I a_3, I a_4, I a_5, I a_6, I a_7], D.agg [D.t (T.sl (6 : Nat) (els b_0)), I b_1, I b_2, I b_3, I b_4, I b_5, I b_6, I b_7]] [] = ob (F_shape_Same ({ Heap := { Objs := a_0, Cap := a_1, Last := a_2 : GHeap }, Proc := a_3, Ready := a_4, Halt := a_5, Steps := a_6, Used := a_7 : GState }) ({ Heap := { Objs := b_0, Cap := b_1, Last := b_2 : GHeap }, Proc := b_3, Ready := b_4, Halt := b_5, Steps := b_6, Used := b_7 : GState })) (fun r : Bool => some (Res.val (Bo r), [])) := by
  rw [cO_eq (R := lore) rfl Try.func89 rfl]
  show wrapThen h89.res (endThen Try.prog h89.shr _ (eO Try.prog h89 (cO Try.prog lore) _ _)) = _
  simp (decide := true) (maxSteps := 10000000) [Try.f89, F_shape_Same]
@[simp ↓] theorem n0_0_shape_Same (x1 y1 y2 y3 y4 y5 y6 y7 : D) (fr : Frames) : cO Try.prog lore 89 [D.agg [D.t (T.sc (Value.slice none (0 : Nat) (0 : Nat))), y1, y2, y3, y4, y5, y6, y7], x1] fr = cO Try.prog lore 89 [D.agg [D.t (T.sl (6 : Nat) (els (nl GObj))), y1, y2, y3, y4, y5, y6, y7], x1] fr := by
  rw [cO_eq (R := lore) rfl Try.func89 rfl, cO_eq (R := lore) rfl Try.func89 rfl]
  rfl
@[simp ↓] theorem n1_0_shape_Same (x0 y1 y2 y3 y4 y5 y6 y7 : D) (fr : Frames) : cO Try.prog lore 89 [x0, D.agg [D.t (T.sc (Value.slice none (0 : Nat) (0 : Nat))), y1, y2, y3, y4, y5, y6, y7]] fr = cO Try.prog lore 89 [x0, D.agg [D.t (T.sl (6 : Nat) (els (nl GObj))), y1, y2, y3, y4, y5, y6, y7]] fr := by
  rw [cO_eq (R := lore) rfl Try.func89 rfl, cO_eq (R := lore) rfl Try.func89 rfl]
  rfl
end Go.Pv

namespace Go.Pv
open Go Go.Proofs
set_option maxRecDepth 100000
set_option maxHeartbeats 0
set_option linter.unusedSimpArgs false
set_option linter.unusedVariables false
noncomputable def s0_L15_twelve (v_0b_0 : List GObj) (v_0b_1 v_0b_2 v_0b_3 v_0b_4 v_0b_5 v_0b_6 v_0b_7 s_1b_1 s_1b_2 s_1b_3 s_1b_4 s_1b_5 s_1b_6 s_1b_7 : Int) (i_2 : Int) (s_1b_0 : List GObj) : Option (Int × List GObj ⊕ List GObj) :=
  if i_2 < (14 : Int) then if (s_1b_0.length + (1 : Nat)) * (72 : Nat) ≤ most then some (Sum.inl (w64 (i_2 + (1 : Int)), s_1b_0 ++ [{ Class := (0 : Int), Kind := (0 : Int), Slots := [], Text := { data := #[] : ByteArray }, Bits := (0 : Int), Hash := i_2 : GObj }])) else none else some (Sum.inr s_1b_0)
theorem r0_L15_twelve (v_0b_0 : List GObj) (v_0b_1 v_0b_2 v_0b_3 v_0b_4 v_0b_5 v_0b_6 v_0b_7 s_1b_1 s_1b_2 s_1b_3 s_1b_4 s_1b_5 s_1b_6 s_1b_7 : Int) (i_2 : Int) (s_1b_0 : List GObj) (c : Code) (hc : c = loopN Try.f134 0) : roundOf (h134.at c) (h134.outAt c) (eO Try.prog h134 (cO Try.prog lore) c { tm := [D.lp (0 : Nat) (0 : Nat), D.lp (1 : Nat) (0 : Nat), I i_2, Z, Z, Z, Z, Z, Z, Z, Z, Z, Z, Z, Z, Z, Z, Z, Z], bx := [[D.own (58 : TypeId) (6 : Nat) (els v_0b_0), I v_0b_1, I v_0b_2, I v_0b_3, I v_0b_4, I v_0b_5, I v_0b_6, I v_0b_7], [D.own (58 : TypeId) (6 : Nat) (els s_1b_0), I s_1b_1, I s_1b_2, I s_1b_3, I s_1b_4, I s_1b_5, I s_1b_6, I s_1b_7], [], [], [], [], [], [], [], [], [], [], [], [], [], [], [], [], []], fr := [] : St }) = ob (s0_L15_twelve (v_0b_0) (v_0b_1) (v_0b_2) (v_0b_3) (v_0b_4) (v_0b_5) (v_0b_6) (v_0b_7) (s_1b_1) (s_1b_2) (s_1b_3) (s_1b_4) (s_1b_5) (s_1b_6) (s_1b_7) (i_2) (s_1b_0)) fun x => sm x (fun p => some (Out.normal, { tm := [D.lp (0 : Nat) (0 : Nat), D.lp (1 : Nat) (0 : Nat), I p.fst, Z, Z, Z, Z, Z, Z, Z, Z, Z, Z, Z, Z, Z, Z, Z, Z], bx := [[D.own (58 : TypeId) (6 : Nat) (els v_0b_0), I v_0b_1, I v_0b_2, I v_0b_3, I v_0b_4, I v_0b_5, I v_0b_6, I v_0b_7], [D.own (58 : TypeId) (6 : Nat) (els p.snd), I s_1b_1, I s_1b_2, I s_1b_3, I s_1b_4, I s_1b_5, I s_1b_6, I s_1b_7], [], [], [], [], [], [], [], [], [], [], [], [], [], [], [], [], []], fr := [] : St })) (fun b : List GObj => some (Out.exit (0 : Nat), { tm := [D.lp (0 : Nat) (0 : Nat), D.lp (1 : Nat) (0 : Nat), Z, Z, Z, Z, Z, Z, Z, Z, Z, Z, Z, Z, Z, Z, Z, Z, Z], bx := [[D.own (58 : TypeId) (6 : Nat) (els v_0b_0), I v_0b_1, I v_0b_2, I v_0b_3, I v_0b_4, I v_0b_5, I v_0b_6, I v_0b_7], [D.own (58 : TypeId) (6 : Nat) (els b), I s_1b_1, I s_1b_2, I s_1b_3, I s_1b_4, I s_1b_5, I s_1b_6, I s_1b_7], [], [], [], [], [], [], [], [], [], [], [], [], [], [], [], [], []], fr := [] : St })) := by
  subst hc
  simp (decide := true) (maxSteps := 10000000) [Try.f134, s0_L15_twelve]
@[simp ↓] theorem l0_L15_twelve (v_0b_0 : List GObj) (v_0b_1 v_0b_2 v_0b_3 v_0b_4 v_0b_5 v_0b_6 v_0b_7 s_1b_1 s_1b_2 s_1b_3 s_1b_4 s_1b_5 s_1b_6 s_1b_7 : Int) (i_2 : Int) (s_1b_0 : List GObj) (d3 d4 d5 d6 d7 d8 d9 d10 d11 d12 d13 d14 d15 d16 d17 d18 : D) (e3 e4 e5 e6 e7 e8 e9 e10 e11 e12 e13 e14 e15 e16 e17 e18 : List D) (c : Code) (hc : c = loopN Try.f134 0) : eO Try.prog h134 (cO Try.prog lore) (.loop c) { tm := [D.lp (0 : Nat) (0 : Nat), D.lp (1 : Nat) (0 : Nat), I i_2, d3, d4, d5, d6, d7, d8, d9, d10, d11, d12, d13, d14, d15, d16, d17, d18], bx := [[D.own (58 : TypeId) (6 : Nat) (els v_0b_0), I v_0b_1, I v_0b_2, I v_0b_3, I v_0b_4, I v_0b_5, I v_0b_6, I v_0b_7], [D.own (58 : TypeId) (6 : Nat) (els s_1b_0), I s_1b_1, I s_1b_2, I s_1b_3, I s_1b_4, I s_1b_5, I s_1b_6, I s_1b_7], [], e3, e4, e5, e6, e7, e8, e9, e10, e11, e12, e13, e14, e15, e16, e17, e18], fr := [] : St } = ob (iterO (fun p : Int × List GObj => s0_L15_twelve (v_0b_0) (v_0b_1) (v_0b_2) (v_0b_3) (v_0b_4) (v_0b_5) (v_0b_6) (v_0b_7) (s_1b_1) (s_1b_2) (s_1b_3) (s_1b_4) (s_1b_5) (s_1b_6) (s_1b_7) (p.fst) (p.snd)) ((i_2, s_1b_0))) (fun b : List GObj => some (Out.exit (0 : Nat), { tm := [D.lp (0 : Nat) (0 : Nat), D.lp (1 : Nat) (0 : Nat), Z, Z, Z, Z, Z, Z, Z, Z, Z, Z, Z, Z, Z, Z, Z, Z, Z], bx := [[D.own (58 : TypeId) (6 : Nat) (els v_0b_0), I v_0b_1, I v_0b_2, I v_0b_3, I v_0b_4, I v_0b_5, I v_0b_6, I v_0b_7], [D.own (58 : TypeId) (6 : Nat) (els b), I s_1b_1, I s_1b_2, I s_1b_3, I s_1b_4, I s_1b_5, I s_1b_6, I s_1b_7], [], [], [], [], [], [], [], [], [], [], [], [], [], [], [], [], []], fr := [] : St })) := by
  refine loop_ob _ _ _ ?_ (fun p => r0_L15_twelve (v_0b_0) (v_0b_1) (v_0b_2) (v_0b_3) (v_0b_4) (v_0b_5) (v_0b_6) (v_0b_7) (s_1b_1) (s_1b_2) (s_1b_3) (s_1b_4) (s_1b_5) (s_1b_6) (s_1b_7) (p.fst) (p.snd) c hc) _ _ ?_
  · rintro b <;> exact ⟨_, rfl, by simp⟩
  · subst hc; simp [Try.f134]
noncomputable def F_L15_twelve  : Option (GState) :=
  ob (iterO (fun p => s0_L15_twelve [] (0 : Int) (0 : Int) (0 : Int) (0 : Int) (0 : Int) (0 : Int) (0 : Int) (20 : Int) (0 : Int) (26 : Int) (0 : Int) (0 : Int) (0 : Int) (0 : Int) p.fst p.snd) ((0 : Int), [])) fun a => some { Heap := { Objs := a, Cap := (20 : Int), Last := (0 : Int) : GHeap }, Proc := (26 : Int), Ready := (0 : Int), Halt := (0 : Int), Steps := (0 : Int), Used := (0 : Int) : GState }
@[simp ↓] theorem f_L15_twelve  : cO Try.prog lore (134 : Nat) [] [] = ob (F_L15_twelve) (fun r : GState => some (Res.val (D.agg [D.t (T.sl (6 : Nat) (els r.Heap.Objs)), I r.Heap.Cap, I r.Heap.Last, I r.Proc, I r.Ready, I r.Halt, I r.Steps, I r.Used]), [])) := by
  rw [cO_eq (R := lore) rfl Try.func134 rfl]
  show wrapThen h134.res (endThen Try.prog h134.shr _ (eO Try.prog h134 (cO Try.prog lore) _ _)) = _
  simp (decide := true) (maxSteps := 10000000) [Try.f134, F_L15_twelve]
end Go.Pv
