/- A part of the road: the interpreter of plain data and the proof that it is right. -/
import Derived.Test.YtakdpnelbnbkgaaR
import Derived.Test.YtakdpnelbnbkgaaT
set_option linter.unusedVariables false
set_option linter.unusedSimpArgs false
namespace Go.Pv
open Go Go.Proofs
set_option maxRecDepth 100000
set_option maxHeartbeats 0
set_option linter.unusedSimpArgs false
set_option linter.unusedVariables false
noncomputable def F_L08_fixed  : Option (Bool) :=
  ob (F_snap_Encode { Objs := [{ Class := (0 : Int), Kind := (0 : Int), Slots := [], Text := { data := #[] : ByteArray }, Bits := (0 : Int), Hash := (1 : Int) : GObj }], Cap := (3 : Int), Last := (0 : Int) : GHeap } []) fun a => ob (F_snap_Decode a) fun a_1 => if (↑a.size : Int) = (39 : Int) then if a_1.snd.snd = (0 : Int) then ob (F_R03_Same a_1.fst { Objs := [{ Class := (0 : Int), Kind := (0 : Int), Slots := [], Text := { data := #[] : ByteArray }, Bits := (0 : Int), Hash := (1 : Int) : GObj }], Cap := (3 : Int), Last := (0 : Int) : GHeap }) fun a_2 => if a_2 = true then if a_1.snd.fst = [] then if (7 : Int) ≤ (↑a.size : Int) then if a.extract (0 : Nat) (7 : Nat) = { data := #[(65 : UInt8), (78 : UInt8), (49 : UInt8), (3 : UInt8), (0 : UInt8), (0 : UInt8), (0 : UInt8)] : ByteArray } then if (22 : Int) ≤ (↑a.size : Int) then ob (F_snap_Decode (a.extract (0 : Nat) (22 : Nat))) fun a_3 => if (9223372036854775807 : Int) < (↑a.size : Int) + (↑{ data := #[(0 : UInt8)] : ByteArray }.size : Int) then none else ob (F_snap_Decode (a ++ { data := #[(0 : UInt8)] : ByteArray })) fun a_4 => if (35 : Int) ≤ (↑a.size : Int) then if (9223372036854775807 : Int) < (↑{ data := #[(65 : UInt8), (78 : UInt8), (49 : UInt8)] : ByteArray }.size : Int) + (↑(min (35 : Nat) a.size - (3 : Nat)) : Int) then none else if (9223372036854775807 : Int) < (↑{ data := #[(65 : UInt8), (78 : UInt8), (49 : UInt8)] : ByteArray }.size : Int) + (↑(min (35 : Nat) a.size - (3 : Nat)) : Int) + (↑{ data := #[(0 : UInt8)] : ByteArray }.size : Int) then none else ob (F_R07_Of ({ data := #[(65 : UInt8), (78 : UInt8), (49 : UInt8)] : ByteArray } ++ a.extract (3 : Nat) (35 : Nat) ++ { data := #[(0 : UInt8)] : ByteArray })) fun a_5 => ob (F_R07_Bytes a_5) fun a_6 => if (9223372036854775807 : Int) < (↑{ data := #[(65 : UInt8), (78 : UInt8), (49 : UInt8)] : ByteArray }.size : Int) + (↑(min (35 : Nat) a.size - (3 : Nat)) : Int) + (↑{ data := #[(0 : UInt8)] : ByteArray }.size : Int) + (↑a_6.size : Int) then none else ob (F_snap_Decode ({ data := #[(65 : UInt8), (78 : UInt8), (49 : UInt8)] : ByteArray } ++ a.extract (3 : Nat) (35 : Nat) ++ { data := #[(0 : UInt8)] : ByteArray } ++ a_6)) fun a => if a_3.snd.snd = (80 : Int) then if a_4.snd.snd = (81 : Int) then if a.snd.snd = (82 : Int) then ob (F_snap_Encode { Objs := [{ Class := (0 : Int), Kind := (0 : Int), Slots := [], Text := { data := #[] : ByteArray }, Bits := (0 : Int), Hash := (1 : Int) : GObj }], Cap := (3 : Int), Last := (0 : Int) : GHeap } [(2 : Int)]) fun a => if a = { data := #[] : ByteArray } then ob (F_snap_Encode { Objs := [], Cap := (0 : Int), Last := (0 : Int) : GHeap } []) fun a => some (decide (a = { data := #[] : ByteArray })) else some false else some false else some false else some false else none else none else some false else none else some false else some false else some false else some false
@[simp ↓] theorem f_L08_fixed  : cO Try.prog lore (9 : Nat) [] [] = ob (F_L08_fixed) (fun r : Bool => some (Res.val (D.t (T.sc (Value.bool r))), [])) := by
  rw [cO_eq (R := lore) rfl Try.func9 rfl]
  show wrapThen h9.res (endThen Try.prog h9.shr _ (eO Try.prog h9 (cO Try.prog lore) _ _)) = _
  simp (decide := true) (maxSteps := 10000000) [Try.f9, F_L08_fixed]
end Go.Pv

namespace Go.Pv
open Go Go.Proofs
set_option maxRecDepth 100000
set_option maxHeartbeats 0
set_option linter.unusedSimpArgs false
set_option linter.unusedVariables false
noncomputable def s0_R08_plain (s_0 : ByteArray) (n_3 i_4 : Int) : Option (Int × Int ⊕ Int) :=
  if (0 : Int) ≤ i_4 then if (0 : Int) ≤ i_4 ∧ i_4 < (↑s_0.size : Int) then some (Sum.inl (bOr IntKind.i64 (iShl IntKind.i64 n_3 (8 : Int)) (w64 (↑(s_0.data[i_4.toNat]?.getD (0 : UInt8)).toNat : Int)), w64 (i_4 - (1 : Int)))) else none else some (Sum.inr n_3)
theorem r0_R08_plain (s_0 : ByteArray) (n_3 i_4 : Int) (c : Code) (hc : c = loopN Try.f50 0) : roundOf (h50.at c) (h50.outAt c) (eO Try.prog h50 (cO Try.prog lore) c { tm := [D.t (T.sc (Value.string s_0)), D.dead, D.dead, D.t (T.sc (Value.int IntKind.i64 n_3)), D.t (T.sc (Value.int IntKind.i64 i_4)), D.dead, D.dead, D.dead, D.dead, D.dead, D.dead, D.dead, D.dead, D.dead, D.dead, D.dead, D.dead, D.dead, D.dead, D.dead], bx := [[], [], [], [], [], [], [], [], [], [], [], [], [], [], [], [], [], [], [], []], fr := [] : St }) = ob (s0_R08_plain (s_0) (n_3) (i_4)) fun x => sm x (fun p => some (Out.normal, { tm := [D.t (T.sc (Value.string s_0)), D.dead, D.dead, D.t (T.sc (Value.int IntKind.i64 p.fst)), D.t (T.sc (Value.int IntKind.i64 p.snd)), D.dead, D.dead, D.dead, D.dead, D.dead, D.dead, D.dead, D.dead, D.dead, D.dead, D.dead, D.dead, D.dead, D.dead, D.dead], bx := [[], [], [], [], [], [], [], [], [], [], [], [], [], [], [], [], [], [], [], []], fr := [] : St })) (fun b : Int => some (Out.exit (0 : Nat), { tm := [D.dead, D.dead, D.dead, D.t (T.sc (Value.int IntKind.i64 b)), D.dead, D.dead, D.dead, D.dead, D.dead, D.dead, D.dead, D.dead, D.dead, D.dead, D.dead, D.dead, D.dead, D.dead, D.dead, D.dead], bx := [[], [], [], [], [], [], [], [], [], [], [], [], [], [], [], [], [], [], [], []], fr := [] : St })) := by
  subst hc
  simp (decide := true) (maxSteps := 10000000) [Try.f50, s0_R08_plain]
@[simp ↓] theorem l0_R08_plain (s_0 : ByteArray) (n_3 i_4 : Int) (d1 d2 d5 d6 d7 d8 d9 d10 d11 d12 d13 d14 d15 d16 d17 d18 d19 : D) (e1 e2 e5 e6 e7 e8 e9 e10 e11 e12 e13 e14 e15 e16 e17 e18 e19 : List D) (c : Code) (hc : c = loopN Try.f50 0) : eO Try.prog h50 (cO Try.prog lore) (.loop c) { tm := [D.t (T.sc (Value.string s_0)), d1, d2, D.t (T.sc (Value.int IntKind.i64 n_3)), D.t (T.sc (Value.int IntKind.i64 i_4)), d5, d6, d7, d8, d9, d10, d11, d12, d13, d14, d15, d16, d17, d18, d19], bx := [[], e1, e2, [], [], e5, e6, e7, e8, e9, e10, e11, e12, e13, e14, e15, e16, e17, e18, e19], fr := [] : St } = ob (iterO (fun p : Int × Int => s0_R08_plain (s_0) (p.fst) (p.snd)) ((n_3, i_4))) (fun b : Int => some (Out.exit (0 : Nat), { tm := [D.dead, D.dead, D.dead, D.t (T.sc (Value.int IntKind.i64 b)), D.dead, D.dead, D.dead, D.dead, D.dead, D.dead, D.dead, D.dead, D.dead, D.dead, D.dead, D.dead, D.dead, D.dead, D.dead, D.dead], bx := [[], [], [], [], [], [], [], [], [], [], [], [], [], [], [], [], [], [], [], []], fr := [] : St })) := by
  refine loop_ob (fun p : Int × Int => { tm := [D.t (T.sc (Value.string s_0)), D.dead, D.dead, D.t (T.sc (Value.int IntKind.i64 p.fst)), D.t (T.sc (Value.int IntKind.i64 p.snd)), D.dead, D.dead, D.dead, D.dead, D.dead, D.dead, D.dead, D.dead, D.dead, D.dead, D.dead, D.dead, D.dead, D.dead, D.dead], bx := [[], [], [], [], [], [], [], [], [], [], [], [], [], [], [], [], [], [], [], []], fr := [] : St }) _ _ ?_ (fun p => r0_R08_plain (s_0) (p.fst) (p.snd) c hc) _ _ ?_
  · rintro b <;> exact ⟨_, rfl, by simp⟩
  · subst hc; simp [Try.f50]
noncomputable def F_R08_plain (s : ByteArray) : Option (Int) :=
  ob (iterO (fun p => s0_R08_plain s p.fst p.snd) ((0 : Int), w64 ((↑s.size : Int) - (1 : Int)))) fun a => some a
@[simp ↓] theorem f_R08_plain (s : ByteArray) : cO Try.prog lore (50 : Nat) [D.t (T.sc (Value.string s))] [] = ob (F_R08_plain (s)) (fun r : Int => some (Res.val (D.t (T.sc (Value.int IntKind.i64 r))), [])) := by
  rw [cO_eq (R := lore) rfl Try.func50 rfl]
  show wrapThen h50.res (endThen Try.prog h50.shr _ (eO Try.prog h50 (cO Try.prog lore) _ _)) = _
  simp (decide := true) (maxSteps := 10000000) [Try.f50, F_R08_plain]
end Go.Pv
