/- A part of the road: the interpreter of plain data and the proof that it is right. -/
import Derived.Test.YtcomdnpeoicpkaaRD
import Derived.Test.YtcomdnpeoicpkaaND
import Derived.Test.YtcomdnpeoicpkaaG
import Derived.Test.YtcomdnpeoicpkaaHC
import Derived.Below
import Derived.Test.YtcomdnpeoicpkaaK
import Derived.Test.YtcomdnpeoicpkaaEE
import Derived.Test.YtcomdnpeoicpkaaU
import Derived.DataReads
set_option linter.unusedVariables false
set_option linter.unusedSimpArgs false
namespace Go.Pv.Bs
open Go Go.Proofs
set_option maxRecDepth 100000
set_option maxHeartbeats 0
set_option linter.unusedSimpArgs false
set_option linter.unusedVariables false
theorem obj0 (x_0 : List GObj) (x_1 x_2 : Int) (v : Int) (i : Int) (g1 : F_value_At v = some (i, false)) :
    cO Try.prog loreB 37 [D.agg [D.t (T.sl 6 (els x_0)), I x_1, I x_2], I v] [] = some (.val (D.t (T.sc (Value.pointer none))), []) := by
  rw [cO_eq (R := loreB) rfl Try.func37 rfl]
  show wrapThen h37.res (endThen Try.prog h37.shr _ (eO Try.prog h37 (cO Try.prog loreB) _ _)) = _
  simp (decide := true) (maxSteps := 10000000) [Try.f37, g1]
theorem obj1 (x_0 : List GObj) (x_1 x_2 : Int) (v : Int) (i : Int) (g1 : F_value_At v = some (i, true)) (g2 : ¬ i < (x_0.length : Int)) :
    cO Try.prog loreB 37 [D.agg [D.t (T.sl 6 (els x_0)), I x_1, I x_2], I v] [] = some (.val (D.t (T.sc (Value.pointer none))), []) := by
  rw [cO_eq (R := loreB) rfl Try.func37 rfl]
  show wrapThen h37.res (endThen Try.prog h37.shr _ (eO Try.prog h37 (cO Try.prog loreB) _ _)) = _
  simp (decide := true) (maxSteps := 10000000) [Try.f37, g1, g2]
theorem obj2 (x_0 : List GObj) (x_1 x_2 : Int) (v : Int) (i : Int) (g1 : F_value_At v = some (i, true)) (g2 : i < (x_0.length : Int)) (g3 : 0 ≤ i) :
    cO Try.prog loreB 37 [D.agg [D.t (T.sl 6 (els x_0)), I x_1, I x_2], I v] [] = some (.val (D.t (T.pt (Enc.enc (atI x_0 i)))), []) := by
  rw [cO_eq (R := loreB) rfl Try.func37 rfl]
  show wrapThen h37.res (endThen Try.prog h37.shr _ (eO Try.prog h37 (cO Try.prog loreB) _ _)) = _
  simp (decide := true) (maxSteps := 10000000) [Try.f37, g1, g2, g3]
theorem prs0 (x_0 : List GObj) (x_1 x_2 : Int) (v : Int) (i : Int) (b : Bool) (g1 : cO Try.prog loreB 37 [D.agg [D.t (T.sl 6 (els x_0)), I x_1, I x_2], I v] [] = some (.val (D.t (T.sc (Value.pointer none))), [])) (g2 : F_value_At v = some (i, b)) :
    cO Try.prog loreB 36 [D.agg [D.t (T.sl 6 (els x_0)), I x_1, I x_2], I v] [] = some (.val (D.tup [D.t (T.sl 1 (els ([] : List Int))), Bo false]), []) := by
  rw [cO_eq (R := loreB) rfl Try.func36 rfl]
  show wrapThen h36.res (endThen Try.prog h36.shr _ (eO Try.prog h36 (cO Try.prog loreB) _ _)) = _
  simp (decide := true) (maxSteps := 10000000) [Try.f36, g1, g2]
theorem prs1 (x_0 : List GObj) (x_1 x_2 : Int) (v : Int) (o_0 o_1 : Int) (o_2 : List Int) (o_3 : ByteArray) (o_4 o_5 : Int) (b : Bool) (g1 : cO Try.prog loreB 37 [D.agg [D.t (T.sl 6 (els x_0)), I x_1, I x_2], I v] [] = some (.val (D.t (T.pt (Enc.enc ({ Class := o_0, Kind := o_1, Slots := o_2, Text := o_3, Bits := o_4, Hash := o_5 : GObj })))), [])) (g2 : F_value_At v = some (0, b)) :
    cO Try.prog loreB 36 [D.agg [D.t (T.sl 6 (els x_0)), I x_1, I x_2], I v] [] = some (.val (D.tup [D.t (T.sl 1 (els ([] : List Int))), Bo true]), []) := by
  rw [cO_eq (R := loreB) rfl Try.func36 rfl]
  show wrapThen h36.res (endThen Try.prog h36.shr _ (eO Try.prog h36 (cO Try.prog loreB) _ _)) = _
  simp (decide := true) (maxSteps := 10000000) [Try.f36, g1, g2]
theorem prs2 (x_0 : List GObj) (x_1 x_2 : Int) (v : Int) (o_0 o_1 : Int) (o_2 : List Int) (o_3 : ByteArray) (o_4 o_5 : Int) (i : Int) (b : Bool) (g1 : cO Try.prog loreB 37 [D.agg [D.t (T.sl 6 (els x_0)), I x_1, I x_2], I v] [] = some (.val (D.t (T.pt (Enc.enc ({ Class := o_0, Kind := o_1, Slots := o_2, Text := o_3, Bits := o_4, Hash := o_5 : GObj })))), [])) (g2 : F_value_At v = some (i, b)) (g3 : ¬ i = 0) (g4 : ¬ o_1 = 0) :
    cO Try.prog loreB 36 [D.agg [D.t (T.sl 6 (els x_0)), I x_1, I x_2], I v] [] = some (.val (D.tup [D.t (T.sl 1 (els ([] : List Int))), Bo false]), []) := by
  rw [cO_eq (R := loreB) rfl Try.func36 rfl]
  show wrapThen h36.res (endThen Try.prog h36.shr _ (eO Try.prog h36 (cO Try.prog loreB) _ _)) = _
  simp (decide := true) (maxSteps := 10000000) [Try.f36, g1, g2, g3, g4]
theorem prs3 (x_0 : List GObj) (x_1 x_2 : Int) (v : Int) (o_0 o_1 : Int) (o_2 : List Int) (o_3 : ByteArray) (o_4 o_5 : Int) (i : Int) (b : Bool) (g1 : cO Try.prog loreB 37 [D.agg [D.t (T.sl 6 (els x_0)), I x_1, I x_2], I v] [] = some (.val (D.t (T.pt (Enc.enc ({ Class := o_0, Kind := o_1, Slots := o_2, Text := o_3, Bits := o_4, Hash := o_5 : GObj })))), [])) (g2 : F_value_At v = some (i, b)) (g3 : ¬ i = 0) (g4 : o_1 = 0) :
    cO Try.prog loreB 36 [D.agg [D.t (T.sl 6 (els x_0)), I x_1, I x_2], I v] [] = some (.val (D.tup [D.t (T.sl 1 (els o_2)), Bo true]), []) := by
  rw [cO_eq (R := loreB) rfl Try.func36 rfl]
  show wrapThen h36.res (endThen Try.prog h36.shr _ (eO Try.prog h36 (cO Try.prog loreB) _ _)) = _
  simp (decide := true) (maxSteps := 10000000) [Try.f36, g1, g2, g3, g4]
theorem cls0 (x_0 : List GObj) (x_1 x_2 : Int) (v : Int) (g1 : cO Try.prog loreB 37 [D.agg [D.t (T.sl 6 (els x_0)), I x_1, I x_2], I v] [] = some (.val (D.t (T.sc (Value.pointer none))), [])) :
    cO Try.prog loreB 46 [D.agg [D.t (T.sl 6 (els x_0)), I x_1, I x_2], I v] [] = some (.val (Bo false), []) := by
  rw [cO_eq (R := loreB) rfl Try.func46 rfl]
  show wrapThen h46.res (endThen Try.prog h46.shr _ (eO Try.prog h46 (cO Try.prog loreB) _ _)) = _
  simp (decide := true) (maxSteps := 10000000) [Try.f46, g1]
theorem cls1 (x_0 : List GObj) (x_1 x_2 : Int) (v : Int) (o_0 o_1 : Int) (o_2 : List Int) (o_3 : ByteArray) (o_4 o_5 : Int) (g1 : cO Try.prog loreB 37 [D.agg [D.t (T.sl 6 (els x_0)), I x_1, I x_2], I v] [] = some (.val (D.t (T.pt (Enc.enc ({ Class := o_0, Kind := o_1, Slots := o_2, Text := o_3, Bits := o_4, Hash := o_5 : GObj })))), [])) (g2 : ¬ o_1 = 0) :
    cO Try.prog loreB 46 [D.agg [D.t (T.sl 6 (els x_0)), I x_1, I x_2], I v] [] = some (.val (Bo false), []) := by
  rw [cO_eq (R := loreB) rfl Try.func46 rfl]
  show wrapThen h46.res (endThen Try.prog h46.shr _ (eO Try.prog h46 (cO Try.prog loreB) _ _)) = _
  simp (decide := true) (maxSteps := 10000000) [Try.f46, g1, g2]
theorem cls2 (x_0 : List GObj) (x_1 x_2 : Int) (v : Int) (o_0 o_1 : Int) (o_2 : List Int) (o_3 : ByteArray) (o_4 o_5 : Int) (g1 : cO Try.prog loreB 37 [D.agg [D.t (T.sl 6 (els x_0)), I x_1, I x_2], I v] [] = some (.val (D.t (T.pt (Enc.enc ({ Class := o_0, Kind := o_1, Slots := o_2, Text := o_3, Bits := o_4, Hash := o_5 : GObj })))), [])) (g2 : o_1 = 0) (g3 : (o_2.length : Int) < 3) :
    cO Try.prog loreB 46 [D.agg [D.t (T.sl 6 (els x_0)), I x_1, I x_2], I v] [] = some (.val (Bo false), []) := by
  rw [cO_eq (R := loreB) rfl Try.func46 rfl]
  show wrapThen h46.res (endThen Try.prog h46.shr _ (eO Try.prog h46 (cO Try.prog loreB) _ _)) = _
  simp (decide := true) (maxSteps := 10000000) [Try.f46, g1, g2, g3]
theorem cls3 (x_0 : List GObj) (x_1 x_2 : Int) (v : Int) (o_0 o_1 : Int) (o_2 : List Int) (o_3 : ByteArray) (o_4 o_5 : Int) (g1 : cO Try.prog loreB 37 [D.agg [D.t (T.sl 6 (els x_0)), I x_1, I x_2], I v] [] = some (.val (D.t (T.pt (Enc.enc ({ Class := o_0, Kind := o_1, Slots := o_2, Text := o_3, Bits := o_4, Hash := o_5 : GObj })))), [])) (g2 : o_1 = 0) (g3 : ¬ (o_2.length : Int) < 3) (g4 : cO Try.prog loreB 37 [D.agg [D.t (T.sl 6 (els x_0)), I x_1, I x_2], I (atI o_2 0)] [] = some (.val (D.t (T.sc (Value.pointer none))), [])) :
    cO Try.prog loreB 46 [D.agg [D.t (T.sl 6 (els x_0)), I x_1, I x_2], I v] [] = some (.val (Bo false), []) := by
  rw [cO_eq (R := loreB) rfl Try.func46 rfl]
  show wrapThen h46.res (endThen Try.prog h46.shr _ (eO Try.prog h46 (cO Try.prog loreB) _ _)) = _
  simp (decide := true) (maxSteps := 10000000) [Try.f46, g1, g2, g3, g4, show (0 : Int) < o_2.length by omega, show (1 : Int) < o_2.length by omega, show (2 : Int) < o_2.length by omega, show ¬ o_2 = [] from fun e => by rw [e] at g3; exact absurd g3 (by decide)]
theorem cls4 (x_0 : List GObj) (x_1 x_2 : Int) (v : Int) (o_0 o_1 : Int) (o_2 : List Int) (o_3 : ByteArray) (o_4 o_5 : Int) (p_0 p_1 : Int) (p_2 : List Int) (p_3 : ByteArray) (p_4 p_5 : Int) (l : List Int) (n : Int) (s : Bool) (g1 : cO Try.prog loreB 37 [D.agg [D.t (T.sl 6 (els x_0)), I x_1, I x_2], I v] [] = some (.val (D.t (T.pt (Enc.enc ({ Class := o_0, Kind := o_1, Slots := o_2, Text := o_3, Bits := o_4, Hash := o_5 : GObj })))), [])) (g2 : o_1 = 0) (g3 : ¬ (o_2.length : Int) < 3) (g4 : cO Try.prog loreB 37 [D.agg [D.t (T.sl 6 (els x_0)), I x_1, I x_2], I (atI o_2 0)] [] = some (.val (D.t (T.pt (Enc.enc ({ Class := p_0, Kind := p_1, Slots := p_2, Text := p_3, Bits := p_4, Hash := p_5 : GObj })))), [])) (g5 : cO Try.prog loreB 36 [D.agg [D.t (T.sl 6 (els x_0)), I x_1, I x_2], I (atI o_2 1)] [] = some (.val (D.tup [D.t (T.sl 1 (els l)), Bo false]), [])) (g6 : F_value_N (atI o_2 2) = some (n, s)) :
    cO Try.prog loreB 46 [D.agg [D.t (T.sl 6 (els x_0)), I x_1, I x_2], I v] [] = some (.val (Bo false), []) := by
  rw [cO_eq (R := loreB) rfl Try.func46 rfl]
  show wrapThen h46.res (endThen Try.prog h46.shr _ (eO Try.prog h46 (cO Try.prog loreB) _ _)) = _
  simp (decide := true) (maxSteps := 10000000) [Try.f46, g1, g2, g3, g4, g5, g6, show (0 : Int) < o_2.length by omega, show (1 : Int) < o_2.length by omega, show (2 : Int) < o_2.length by omega, show ¬ o_2 = [] from fun e => by rw [e] at g3; exact absurd g3 (by decide)]
theorem cls5b (x_0 : List GObj) (x_1 x_2 : Int) (v : Int) (o_0 o_1 : Int) (o_2 : List Int) (o_3 : ByteArray) (o_4 o_5 : Int) (p_0 p_1 : Int) (p_2 : List Int) (p_3 : ByteArray) (p_4 p_5 : Int) (n : Int) (l : List Int) (g1 : cO Try.prog loreB 37 [D.agg [D.t (T.sl 6 (els x_0)), I x_1, I x_2], I v] [] = some (.val (D.t (T.pt (Enc.enc ({ Class := o_0, Kind := o_1, Slots := o_2, Text := o_3, Bits := o_4, Hash := o_5 : GObj })))), [])) (g2 : o_1 = 0) (g3 : ¬ (o_2.length : Int) < 3) (g4 : cO Try.prog loreB 37 [D.agg [D.t (T.sl 6 (els x_0)), I x_1, I x_2], I (atI o_2 0)] [] = some (.val (D.t (T.pt (Enc.enc ({ Class := p_0, Kind := p_1, Slots := p_2, Text := p_3, Bits := p_4, Hash := p_5 : GObj })))), [])) (g5 : cO Try.prog loreB 36 [D.agg [D.t (T.sl 6 (els x_0)), I x_1, I x_2], I (atI o_2 1)] [] = some (.val (D.tup [D.t (T.sl 1 (els l)), Bo true]), [])) (g6 : F_value_N (atI o_2 2) = some (n, false)) :
    cO Try.prog loreB 46 [D.agg [D.t (T.sl 6 (els x_0)), I x_1, I x_2], I v] [] = some (.val (Bo false), []) := by
  rw [cO_eq (R := loreB) rfl Try.func46 rfl]
  show wrapThen h46.res (endThen Try.prog h46.shr _ (eO Try.prog h46 (cO Try.prog loreB) _ _)) = _
  simp (decide := true) (maxSteps := 10000000) [Try.f46, g1, g2, g3, g4, g5, g6, show (0 : Int) < o_2.length by omega, show (1 : Int) < o_2.length by omega, show (2 : Int) < o_2.length by omega, show ¬ o_2 = [] from fun e => by rw [e] at g3; exact absurd g3 (by decide)]
theorem cls6b (x_0 : List GObj) (x_1 x_2 : Int) (v : Int) (o_0 o_1 : Int) (o_2 : List Int) (o_3 : ByteArray) (o_4 o_5 : Int) (p_0 p_1 : Int) (p_2 : List Int) (p_3 : ByteArray) (p_4 p_5 : Int) (n : Int) (l : List Int) (g1 : cO Try.prog loreB 37 [D.agg [D.t (T.sl 6 (els x_0)), I x_1, I x_2], I v] [] = some (.val (D.t (T.pt (Enc.enc ({ Class := o_0, Kind := o_1, Slots := o_2, Text := o_3, Bits := o_4, Hash := o_5 : GObj })))), [])) (g2 : o_1 = 0) (g3 : ¬ (o_2.length : Int) < 3) (g4 : cO Try.prog loreB 37 [D.agg [D.t (T.sl 6 (els x_0)), I x_1, I x_2], I (atI o_2 0)] [] = some (.val (D.t (T.pt (Enc.enc ({ Class := p_0, Kind := p_1, Slots := p_2, Text := p_3, Bits := p_4, Hash := p_5 : GObj })))), [])) (g5 : cO Try.prog loreB 36 [D.agg [D.t (T.sl 6 (els x_0)), I x_1, I x_2], I (atI o_2 1)] [] = some (.val (D.tup [D.t (T.sl 1 (els l)), Bo true]), [])) (g6 : F_value_N (atI o_2 2) = some (n, true)) (g7 : ¬ 0 ≤ n) :
    cO Try.prog loreB 46 [D.agg [D.t (T.sl 6 (els x_0)), I x_1, I x_2], I v] [] = some (.val (Bo false), []) := by
  rw [cO_eq (R := loreB) rfl Try.func46 rfl]
  show wrapThen h46.res (endThen Try.prog h46.shr _ (eO Try.prog h46 (cO Try.prog loreB) _ _)) = _
  simp (decide := true) (maxSteps := 10000000) [Try.f46, g1, g2, g3, g4, g5, g6, g7, show (0 : Int) < o_2.length by omega, show (1 : Int) < o_2.length by omega, show (2 : Int) < o_2.length by omega, show ¬ o_2 = [] from fun e => by rw [e] at g3; exact absurd g3 (by decide)]
theorem cls7b (x_0 : List GObj) (x_1 x_2 : Int) (v : Int) (o_0 o_1 : Int) (o_2 : List Int) (o_3 : ByteArray) (o_4 o_5 : Int) (p_0 p_1 : Int) (p_2 : List Int) (p_3 : ByteArray) (p_4 p_5 : Int) (n : Int) (l : List Int) (g1 : cO Try.prog loreB 37 [D.agg [D.t (T.sl 6 (els x_0)), I x_1, I x_2], I v] [] = some (.val (D.t (T.pt (Enc.enc ({ Class := o_0, Kind := o_1, Slots := o_2, Text := o_3, Bits := o_4, Hash := o_5 : GObj })))), [])) (g2 : o_1 = 0) (g3 : ¬ (o_2.length : Int) < 3) (g4 : cO Try.prog loreB 37 [D.agg [D.t (T.sl 6 (els x_0)), I x_1, I x_2], I (atI o_2 0)] [] = some (.val (D.t (T.pt (Enc.enc ({ Class := p_0, Kind := p_1, Slots := p_2, Text := p_3, Bits := p_4, Hash := p_5 : GObj })))), [])) (g5 : cO Try.prog loreB 36 [D.agg [D.t (T.sl 6 (els x_0)), I x_1, I x_2], I (atI o_2 1)] [] = some (.val (D.tup [D.t (T.sl 1 (els l)), Bo true]), [])) (g6 : F_value_N (atI o_2 2) = some (n, true)) (g7 : 0 ≤ n) :
    cO Try.prog loreB 46 [D.agg [D.t (T.sl 6 (els x_0)), I x_1, I x_2], I v] [] = some (.val (Bo (decide (n ≤ 64))), []) := by
  rw [cO_eq (R := loreB) rfl Try.func46 rfl]
  show wrapThen h46.res (endThen Try.prog h46.shr _ (eO Try.prog h46 (cO Try.prog loreB) _ _)) = _
  simp (decide := true) (maxSteps := 10000000) [Try.f46, g1, g2, g3, g4, g5, g6, g7, show (0 : Int) < o_2.length by omega, show (1 : Int) < o_2.length by omega, show (2 : Int) < o_2.length by omega, show ¬ o_2 = [] from fun e => by rw [e] at g3; exact absurd g3 (by decide)]
end Go.Pv.Bs

/- Values, heaps and what is reached: the program's functions in plain words. -/
namespace Go.Pv.Bs
/-- A loop that looks for the first one that is not so. -/
theorem iter_all {α β : Type} [Enc α] (l : List α) (p : α → Bool) {S : Int → Option (Int ⊕ β ⊕ Unit)} (R : Nat → β)
    (hS : ∀ (k : Nat) (h : k < l.length), S (k : Int) = if p l[k] = true then some (.inl ((k + 1 : Nat) : Int)) else some (.inr (.inl (R k)))) (he : S (l.length : Int) = some (.inr (.inr ()))) :
    ∃ r, iterO S 0 = some r ∧ sm r (fun b => l.all p = false ∧ ∃ k, ∃ h : k < l.length, b = R k ∧ p l[k] = false ∧ ∀ j (hj : j < k), p (l[j]'(by omega)) = true) fun _ => l.all p = true := by
  refine iter_post (S := S) (fun i => l.length - i.toNat) (fun i => ∃ k : Nat, i = k ∧ k ≤ l.length ∧ ∀ j (hj : j < k) (h : j < l.length), p l[j] = true) _ (fun i hi => ?_) 0 ⟨0, rfl, Nat.zero_le _, fun j hj => by omega⟩
  obtain ⟨k, rfl, hk, ht⟩ := hi
  rcases Nat.lt_or_ge k l.length with h | h
  · rw [hS k h]
    by_cases e : p l[k] = true
    · refine .inl ⟨_, if_pos e, ⟨k + 1, rfl, h, fun j hj hjl => ?_⟩, by simp; omega⟩
      by_cases ej : j = k
      · subst ej; exact e
      · exact ht j (by omega) hjl
    · refine .inr ⟨_, if_neg e, ?_, k, h, rfl, by simpa using e, fun j hj => ht j hj (by omega)⟩
      rw [List.all_eq_false]
      exact ⟨_, List.getElem_mem h, by simpa using e⟩
  · have : k = l.length := by omega
    subst this
    refine .inr ⟨_, he, ?_⟩
    show l.all p = true
    rw [List.all_eq_true]
    intro x hx
    obtain ⟨j, hj, rfl⟩ := List.getElem_of_mem hx
    exact ht j hj hj
theorem iterO_step {A B : Type} {S : A → Option (A ⊕ B)} {a a' : A} (h : S a = some (.inl a')) : iterO S a = iterO S a' := by rw [iterO_eq, h]
theorem iterO_stop {A B : Type} {S : A → Option (A ⊕ B)} {a : A} {b : B} (h : S a = some (.inr b)) : iterO S a = some b := by rw [iterO_eq, h]
theorem value_At_eq (v : Int) : F_value_At v = some (atP v) := by
  unfold F_value_At F_value_object atP at?
  rw [bAnd_one, iShr_one]
  by_cases h : v % 2 = 0
  · rw [if_pos h]
    by_cases h1 : 0 ≤ v / 2
    · rw [if_pos h1, ob_some]
      by_cases h2 : v / 2 < 1048576
      · rw [if_pos (by simpa using h2), if_pos (by omega)]
        simp only [Option.some.injEq, Prod.mk.injEq, and_true]; omega
      · rw [if_neg (by simpa using h2), if_neg (by omega)]
    · rw [if_neg h1, ob_some, if_neg (by simp), if_neg (by omega)]
  · rw [if_neg h, if_neg (by omega)]
theorem value_N_eq (v : Int) : F_value_N v = some (nP v) := by
  unfold F_value_N F_value_small nP n?
  rw [bAnd_one, iShr_one]
  by_cases h : v % 2 = 1
  · rw [if_pos h]
    by_cases h1 : -1073741824 ≤ v / 2
    · rw [if_pos h1, ob_some]
      by_cases h2 : v / 2 ≤ 1073741823
      · rw [if_pos (by simpa using h2), if_pos (by omega)]
      · rw [if_neg (by simpa using h2), if_neg (by omega)]
    · rw [if_neg h1, ob_some, if_neg (by simp), if_neg (by omega)]
  · rw [if_neg h, if_neg (by omega)]
theorem nP_snd (v : Int) : (nP v).2 = (n? v).isSome := by unfold nP; cases n? v <;> rfl
theorem heap_ref_eq (n : Nat) (v : Int) : F_heap_objects_ref (n : Int) v = some (refI n v) := by
  unfold F_heap_objects_ref refI
  rw [value_At_eq, ob_some]
  unfold atP
  cases at? v with
  | none => simp
  | some i =>
    by_cases h : i < n
    · simp [h]
    · simp [h]
theorem hasB_ref (n : Nat) (v : Int) : hasB n v = ((n? v).isSome || decide (0 ≤ refI n v)) := by
  unfold hasB refI
  cases at? v with
  | none => simp
  | some i => by_cases h : i < n <;> simp [h]
theorem heap_has_eq (n : Nat) (v : Int) : F_heap_objects_has (n : Int) v = some (hasB n v) := by
  unfold F_heap_objects_has
  rw [value_N_eq, ob_some, nP_snd, heap_ref_eq, ob_some, hasB_ref]
  cases (n? v).isSome <;> simp
theorem contains154_eq (s : List Int) (n : Nat) (a b c d : Int) (l : List Int) (t : ByteArray) (h : s.length ≤ big) : F_slices_ContainsFunc_61_u0 s (n : Int) a b l t c d = some (!s.all (hasB n)) := by
  unfold F_slices_ContainsFunc_61_u0 F_slices_IndexFunc_67_u0
  unfold big at h
  obtain ⟨r, e, hr⟩ := iter_all s (hasB n) (S := fun p => s0_slices_IndexFunc_67_u0 s (s.length : Int) (n : Int) a b l t c d p) (fun k => (k : Int)) (fun k hk => by
    simp only [s0_slices_IndexFunc_67_u0, F_heap_objects_may_1_u0, atI_nat _ k hk, heap_has_eq, ob_some]
    rw [if_pos (by omega), if_pos (by omega), w64_id (by omega) (by omega)]
    cases hasB n s[k] <;> simp) (by simp [s0_slices_IndexFunc_67_u0])
  rw [e, ob_some]
  cases r with
  | inl b =>
    obtain ⟨h1, k, _, rfl, _⟩ := hr
    simp [h1]
  | inr u =>
    have h1 : s.all (hasB n) = true := hr
    simp [h1]
theorem heap_in_eq (n m : Int) : F_heap_in n m = some (decide (0 ≤ n ∧ n ≤ m)) := by
  unfold F_heap_in
  by_cases h : 0 ≤ n
  · simp [h]
  · simp [h]
theorem dec_decide {p : Prop} [Decidable p] : dec p = decide p := by
  by_cases h : p
  · rw [dec_true h, decide_eq_true h]
  · rw [dec_false h, decide_eq_false h]
theorem heap_may_obj_eq (n : Nat) (o : GObj) (h : o.Slots.length ≤ big) : F_heap_objects_may (n : Int) o = some (dec (OkObj n o)) := by
  unfold F_heap_objects_may
  rw [heap_ref_eq, ob_some]
  by_cases h1 : 0 ≤ refI n o.Class
  case neg => rw [if_neg h1, dec_false fun k => h1 k.cls]
  rw [if_pos h1, heap_in_eq, ob_some]
  by_cases h2 : 0 ≤ o.Kind ∧ o.Kind ≤ 2
  case neg => rw [decide_eq_false h2, if_neg (by simp), dec_false fun k => h2 k.kind]
  rw [decide_eq_true h2, if_pos rfl, heap_in_eq, ob_some]
  by_cases h3 : 0 ≤ o.Hash ∧ o.Hash ≤ 1073741823
  case neg => rw [decide_eq_false h3, if_pos rfl, dec_false fun k => h3 k.hash]
  rw [decide_eq_true h3, if_neg (by simp)]
  simp only [contains154_eq o.Slots n _ _ _ _ _ _ h, ob_some, Bool.not_not]
  by_cases h4 : (o.Slots.length : Int) ≤ 64
  case neg => rw [dec_false fun k => h4 (by have := k.nslots; omega)]; simp [h4]
  by_cases h5 : (o.Text.size : Int) ≤ 64
  case neg => rw [dec_false fun k => h5 (by have := k.ntext; omega)]; simp [h5]
  by_cases h6 : canonF o.Bits = o.Bits
  case neg => rw [dec_false fun k => h6 k.canon]; simp [h6]
  cases h7 : o.Slots.all (hasB n) with
  | false =>
    rw [dec_false fun k => by
      rw [List.all_eq_true.2 k.slots] at h7; cases h7]
    simp
  | true =>
    have hiff : OkObj n o ↔ ((o.Kind ≠ 0 → o.Slots = []) ∧ (o.Kind ≠ 1 → o.Text = ByteArray.empty) ∧ (o.Kind ≠ 2 → o.Bits = 0)) :=
      ⟨fun k => ⟨k.ptr, k.text, k.bits⟩, fun k => ⟨h1, h2, h3, k.1, k.2.1, k.2.2, by omega, by omega, h6, List.all_eq_true.1 h7⟩⟩
    rw [dec_congr hiff, dec_decide]
    have e0 : ({ data := #[] } : ByteArray) = ByteArray.empty := rfl
    rw [e0]
    simp only [h4, h5, h6, if_true]
    by_cases k0 : o.Kind = 0
    · simp [k0]
      by_cases b1 : o.Text = ByteArray.empty <;> by_cases b2 : o.Bits = 0 <;> simp [b1, b2]
    · by_cases k1 : o.Kind = 1
      · simp [k1]
        by_cases b1 : o.Slots = [] <;> by_cases b2 : o.Bits = 0 <;> simp [b1, b2]
      · have k2 : o.Kind = 2 := by omega
        simp [k2]
        by_cases b1 : o.Slots = [] <;> by_cases b2 : o.Text = ByteArray.empty <;> simp [b1, b2]
theorem heap_May_eq (h : GHeap) (hs : Slim h) : F_heap_May h = some (dec (OkHeap h)) := by
  obtain ⟨hl, hso⟩ := hs
  unfold big at hl
  unfold F_heap_May
  by_cases h1 : 1 ≤ h.Cap
  case neg => rw [if_neg h1, dec_false fun k => h1 k.cap.1]
  by_cases h2 : h.Cap ≤ 256
  case neg => rw [if_pos h1, if_neg h2, dec_false fun k => h2 k.cap.2]
  by_cases h3 : (h.Objs.length : Int) ≤ h.Cap
  case neg => rw [if_pos h1, if_pos h2, if_neg h3, dec_false fun k => h3 k.len]
  rw [if_pos h1, if_pos h2, if_pos h3, heap_in_eq, ob_some]
  by_cases h4 : 0 ≤ h.Last ∧ h.Last ≤ 1073741823
  case neg => rw [decide_eq_false h4, if_pos rfl, dec_false fun k => h4 k.last]
  rw [decide_eq_true h4, if_neg (by simp)]
  unfold F_slices_ContainsFunc_49_u0 F_slices_IndexFunc_58_u0
  obtain ⟨r, e, hr⟩ := iter_all h.Objs (fun o => dec (OkObj h.Objs.length o)) (S := fun p => s0_slices_IndexFunc_58_u0 h.Objs (h.Objs.length : Int) h.Objs h.Cap h.Last (h.Objs.length : Int) p) (fun k => (k : Int)) (fun k hk => by
    have ho := heap_may_obj_eq h.Objs.length h.Objs[k] (by have := hso _ (List.getElem_mem hk); omega)
    simp only [s0_slices_IndexFunc_58_u0, F_heap_May_1_u0, atI_nat _ k hk]
    rw [if_pos (by omega), if_pos (by omega), w64_id (by omega) (by omega)]
    rw [show ({ Class := h.Objs[k].Class, Kind := h.Objs[k].Kind, Slots := h.Objs[k].Slots, Text := h.Objs[k].Text, Bits := h.Objs[k].Bits, Hash := h.Objs[k].Hash } : GObj) = h.Objs[k] from rfl, ho, ob_some, ob_some]
    cases dec (OkObj h.Objs.length h.Objs[k]) <;> simp) (by simp [s0_slices_IndexFunc_58_u0])
  rw [e, ob_some]
  cases r with
  | inl b =>
    obtain ⟨h5, k, hk, rfl, hf, _⟩ := hr
    rw [dec_false fun ok => by
      rw [dec_true (ok.objs _ (List.getElem_mem hk))] at hf; cases hf]
    simp
  | inr u =>
    have h5 : h.Objs.all (fun o => dec (OkObj h.Objs.length o)) = true := hr
    rw [dec_true ⟨⟨h1, h2⟩, h3, h4, fun o ho => dec_iff.1 (List.all_eq_true.1 h5 o ho)⟩]
    simp
end Go.Pv.Bs

namespace Go.Pv.Bs
open Go Go.Proofs
set_option maxRecDepth 100000
set_option linter.unusedSimpArgs false
set_option linter.unusedVariables false
def ptE : Option GObj → D
  | none => .t (.sc (.pointer none))
  | some o => .t (.pt (Enc.enc o))
theorem f_object (x_0 : List GObj) (x_1 x_2 v : Int) :
    cO Try.prog loreB 37 [D.agg [D.t (T.sl 6 (els x_0)), I x_1, I x_2], I v] [] = some (.val (ptE (objP ⟨x_0, x_1, x_2⟩ v)), []) := by
  have e := value_At_eq v
  unfold objP
  unfold atP at e
  cases h : at? v with
  | none => rw [h] at e; exact obj0 x_0 x_1 x_2 v 0 e
  | some i =>
    rw [h] at e
    dsimp only at e ⊢
    by_cases hl : i < x_0.length
    · rw [if_pos hl]
      exact obj2 x_0 x_1 x_2 v i e (by omega) (by omega)
    · rw [if_neg hl]
      exact obj1 x_0 x_1 x_2 v i e (by omega)
theorem f_pairs (x_0 : List GObj) (x_1 x_2 v : Int) :
    cO Try.prog loreB 36 [D.agg [D.t (T.sl 6 (els x_0)), I x_1, I x_2], I v] [] = some (.val (D.tup [D.t (T.sl 1 (els (prP ⟨x_0, x_1, x_2⟩ v).1)), Bo (prP ⟨x_0, x_1, x_2⟩ v).2]), []) := by
  have e := value_At_eq v
  have g := f_object x_0 x_1 x_2 v
  unfold prP
  cases h : objP ⟨x_0, x_1, x_2⟩ v with
  | none => rw [h] at g; exact prs0 x_0 x_1 x_2 v _ _ g e
  | some o =>
    rw [h] at g
    obtain ⟨o_0, o_1, o_2, o_3, o_4, o_5⟩ := o
    dsimp only
    by_cases h1 : (atP v).1 = 0
    · rw [if_pos h1]
      refine prs1 x_0 x_1 x_2 v o_0 o_1 o_2 o_3 o_4 o_5 (atP v).2 g ?_
      rw [e, ← h1]
    · rw [if_neg h1]
      by_cases h2 : o_1 = 0
      · rw [if_pos h2]
        exact prs3 x_0 x_1 x_2 v o_0 o_1 o_2 o_3 o_4 o_5 _ _ g e h1 h2
      · rw [if_neg h2]
        exact prs2 x_0 x_1 x_2 v o_0 o_1 o_2 o_3 o_4 o_5 _ _ g e h1 h2
theorem f_class (x_0 : List GObj) (x_1 x_2 v : Int) :
    cO Try.prog loreB 46 [D.agg [D.t (T.sl 6 (els x_0)), I x_1, I x_2], I v] [] = some (.val (Bo (clsP ⟨x_0, x_1, x_2⟩ v)), []) := by
  have g := f_object x_0 x_1 x_2 v
  unfold clsP
  cases h : objP ⟨x_0, x_1, x_2⟩ v with
  | none => rw [h] at g; exact cls0 x_0 x_1 x_2 v g
  | some o =>
    rw [h] at g
    obtain ⟨o_0, o_1, o_2, o_3, o_4, o_5⟩ := o
    dsimp only
    by_cases h1 : o_1 = 0
    · rw [if_pos h1]
      by_cases h2 : (o_2.length : Int) < 3
      · rw [if_pos h2]
        exact cls2 x_0 x_1 x_2 v o_0 o_1 o_2 o_3 o_4 o_5 g h1 h2
      · rw [if_neg h2]
        have g4 := f_object x_0 x_1 x_2 (atI o_2 0)
        cases hp : objP ⟨x_0, x_1, x_2⟩ (atI o_2 0) with
        | none => rw [hp] at g4; exact cls3 x_0 x_1 x_2 v o_0 o_1 o_2 o_3 o_4 o_5 g h1 h2 g4
        | some p =>
          rw [hp] at g4
          obtain ⟨p_0, p_1, p_2, p_3, p_4, p_5⟩ := p
          have g5 := f_pairs x_0 x_1 x_2 (atI o_2 1)
          have g6 := value_N_eq (atI o_2 2)
          dsimp only
          generalize prP ⟨x_0, x_1, x_2⟩ (atI o_2 1) = q at g5 ⊢
          generalize nP (atI o_2 2) = n at g6 ⊢
          obtain ⟨l, b⟩ := q
          obtain ⟨n, s⟩ := n
          dsimp only at *
          cases b with
          | false => exact cls4 x_0 x_1 x_2 v o_0 o_1 o_2 o_3 o_4 o_5 p_0 p_1 p_2 p_3 p_4 p_5 l n s g h1 h2 g4 g5 g6
          | true =>
            cases s with
            | false => exact cls5b x_0 x_1 x_2 v o_0 o_1 o_2 o_3 o_4 o_5 p_0 p_1 p_2 p_3 p_4 p_5 n l g h1 h2 g4 g5 g6
            | true =>
              by_cases h3 : 0 ≤ n
              · have := cls7b x_0 x_1 x_2 v o_0 o_1 o_2 o_3 o_4 o_5 p_0 p_1 p_2 p_3 p_4 p_5 n l g h1 h2 g4 g5 g6 h3
                rw [this]; simp [h3]
              · have := cls6b x_0 x_1 x_2 v o_0 o_1 o_2 o_3 o_4 o_5 p_0 p_1 p_2 p_3 p_4 p_5 n l g h1 h2 g4 g5 g6 h3
                rw [this]; simp [h3]
    · rw [if_neg h1]
      exact cls1 x_0 x_1 x_2 v o_0 o_1 o_2 o_3 o_4 o_5 g h1
end Go.Pv.Bs

/- What a function of data answers, at any world. -/
namespace Go.Pv
open Go Go.RowKit
set_option linter.unusedSimpArgs false
set_option linter.unusedVariables false
/-- All is shared. -/
def gAll : Gh := ⟨fun _ => none, fun _ _ => .bool false, fun _ _ => 0, fun _ _ => False⟩
theorem frs_all (w : World) : FrS w.heap.size gAll [] w where
  len := rfl
  tms := fun t d h => by simp at h
  bxs := fun s c h => by simp at h
  bxn := ⟨fun _ _ h => h, fun _ _ _ _ _ h => h⟩
  frs := fun f b h => by simp at h
  frl := rfl
  alf := fun _ _ _ h => h
  alt := fun _ _ h => h.elim
  old := fun _ _ h => by cases h
  base := Nat.le_refl _
  dfs := rfl
theorem call_data {P : Program} {C : Callee} (hC : Good P C) {f : FuncId} {ds : List D} {r : D} (h : C f ds [] = some (.val r, [])) {w : World} {vs : Array Value} (hs : vs.size = ds.length)
    (ha : ∀ (i : Nat) u d, vs[i]? = some u → ds[i]? = some d → d.hasOwn = false ∧ VD w.heap.size 0 gAll vr0 w (.pn 0 i []) u d) :
    Calls P f vs w fun out w' => ∃ v G', out = .returned v ∧ Below w.heap.size w w' ∧ VD w.heap.size 0 G' vr0 w' (.pn 0 0 []) v r := by
  obtain ⟨d, e, ho, hc⟩ := hC f ds [] _ [] h w.heap.size gAll w vs (frs_all w) hs ha
  cases e
  refine hc.mono ?_
  rintro out w' ⟨v, G', e, _, _, hst, hv⟩
  exact ⟨v, G', e, ⟨hst.os, hst.tape, hst.output, hst.size, fun k hk => (hst.sh k hk rfl).2⟩, hv⟩
/-- Data, wherever it lies. -/
abbrev RA := RT fun _ => True
theorem RA.below {w w' : World} {v : Value} {x : T} (h : RA w v x) (hb : Below w.heap.size w w') : RA w' v x := h.mono fun b _ hl => ⟨trivial, hb.block b hl⟩
theorem VD.data {B fr : Nat} {G : Gh} {vr : Pl → Nat} {w : World} {p : Ap} {v : Value} {x : T} (h : VD B fr G vr w p v (.t x)) : RA w v x := by
  cases h with
  | t _ _ _ h => exact h.mono fun _ _ _ => ⟨trivial, rfl⟩
theorem RA.vd {B fr : Nat} {vr : Pl → Nat} {w : World} {p : Ap} {v : Value} {x : T} (h : RA w v x) : VD B fr gAll vr w p v (.t x) := .t _ _ _ (h.mono fun _ _ _ => ⟨rfl, rfl⟩)
/-- What lay stays: what was told of a caller's frames holds on. -/
theorem frs_below {B : Nat} {G : Gh} {frs : Frames} {w w' : World} (h : FrS B G frs w) (hb : Below w.heap.size w w') : FrS B G frs w' ∧ Step frs.length G w G w' := by
  have K : Keep frs.length G (St.verAt { tm := [], bx := [], fr := frs }) w G (St.verAt { tm := [], bx := [], fr := frs }) w' (fun _ => True) (fun _ _ => True) := ⟨hb.size, fun _ _ h => h, fun g _ hl => hb.block g hl, fun g p hg _ => ⟨hg, hb.block g (h.old g _ hg).1⟩, fun _ => Nat.le_refl _, fun _ _ => rfl, fun _ _ _ _ => rfl,
    fun f s ha => ⟨ha, rfl⟩, fun f s ha _ => ⟨rfl, hb.block _ (h.old _ _ (h.alt f s ha)).1⟩⟩
  refine ⟨h.upd K (fun _ _ _ => trivial) rfl (fun t d e => by simp at e) (fun s c e => by simp at e) h.bxn (fun f b e s c hc _ => .inl ⟨⟨b, e, hc⟩, trivial, fun _ _ _ _ => trivial⟩) h.frl h.alf h.alt (fun g τ e => ⟨Nat.lt_of_lt_of_le (h.old g τ e).1 hb.size, (h.old g τ e).2⟩) rfl, ?_⟩
  exact ⟨hb.os, hb.tape, hb.output, hb.size, fun g hl e => ⟨e, hb.block g hl⟩, fun g e => ⟨e, hb.block g (h.old g _ e).1⟩, fun g p f e _ _ => ⟨e, hb.block g (h.old g _ e).1⟩, fun f s _ e => ⟨e, rfl⟩⟩
end Go.Pv

namespace Go.Pv.Bs
open Go Go.Proofs Go.RowKit
set_option maxRecDepth 100000
set_option linter.unusedSimpArgs false
set_option linter.unusedVariables false
theorem vdI {B fr : Nat} {vr : Pl → Nat} {w : World} {p : Ap} (n : Int) : VD B fr gAll vr w p (.int .i64 n) (I n) := .t _ _ _ (.sc _ rfl)
/-- A heap's value. -/
def HA (w : World) (u : Value) (h : GHeap) : Prop := ∃ u0, u = .agg #[u0, .int .i64 h.Cap, .int .i64 h.Last] ∧ RA w u0 (.sl 6 (els h.Objs))
theorem HA.below {w w' : World} {u : Value} {h : GHeap} (H : HA w u h) (hb : Below w.heap.size w w') : HA w' u h := let ⟨u0, e, r⟩ := H; ⟨u0, e, r.below hb⟩
theorem HA.vd {B fr : Nat} {vr : Pl → Nat} {w : World} {p : Ap} {u : Value} {h : GHeap} (H : HA w u h) : VD B fr gAll vr w p u (.agg [.t (.sl 6 (els h.Objs)), I h.Cap, I h.Last]) := by
  obtain ⟨u0, rfl, r⟩ := H
  refine .agg _ _ _ rfl (fun x hx => ?_) fun i x d hx hd => ?_
  · simp only [List.mem_toArray, List.mem_cons, List.not_mem_nil, or_false] at hx
    rcases hx with rfl | rfl | rfl
    · exact r.one
    · rfl
    · rfl
  · match i, hx, hd with
    | 0, hx, hd => cases hx; cases hd; exact r.vd
    | 1, hx, hd => cases hx; cases hd; exact vdI _
    | 2, hx, hd => cases hx; cases hd; exact vdI _
    | i + 3, hx, hd => simp at hd
theorem HA.args {w : World} {u : Value} {h : GHeap} (H : HA w u h) (v : Int) : ∀ (i : Nat) x d, #[u, Value.int .i64 v][i]? = some x → [D.agg [.t (.sl 6 (els h.Objs)), I h.Cap, I h.Last], I v][i]? = some d → d.hasOwn = false ∧ VD w.heap.size 0 gAll vr0 w (.pn 0 i []) x d := by
  intro i x d hx hd
  match i, hx, hd with
  | 0, hx, hd => cases hx; cases hd; exact ⟨rfl, H.vd⟩
  | 1, hx, hd => cases hx; cases hd; exact ⟨rfl, vdI _⟩
  | i + 2, hx, hd => simp at hd
theorem w64_wrap (n : Int) : w64 n = RowKit.wrap64 n := by
  unfold w64 RowKit.wrap64
  simp [IntKind.wrap, IntKind.bits, IntKind.signed]
  omega
theorem canon_told : ∀ ds d, canonS ds = some d → ∀ B G frs w (vs : Array Value), FrS B G frs w → vs.size = ds.length →
    (∀ (i : Nat) u d, vs[i]? = some u → ds[i]? = some d → d.hasOwn = false ∧ VD B frs.length G vr0 w (.pn frs.length i []) u d) →
    d.outOk = true ∧ Calls Try.prog 60 vs w fun out w' => ∃ v G', out = .returned v ∧ FrS B G' frs w' ∧ Step frs.length G w G' w' ∧ VD B frs.length G' vr0 w' (.pn frs.length 0 []) v d := by
  intro ds d hs B G frs w vs F hlen hargs
  unfold canonS at hs
  split at hs
  · rename_i b
    cases hs
    obtain ⟨u, hv⟩ : ∃ u, vs = #[u] := by
      match vs, hlen with
      | ⟨[u]⟩, _ => exact ⟨u, rfl⟩
    subst hv
    have e1 := (hargs 0 u _ rfl rfl).2.sc
    subst e1
    refine ⟨rfl, (canon_any b w).mono fun r w' ⟨h1, h2⟩ => ?_⟩
    subst h1 h2
    refine ⟨_, G, rfl, F, .refl _ _ _, ?_⟩
    have e : (if nanW (IntKind.u64.wrap b).toNat = true then (9221120237041090561 : Int) else RowKit.wrap64 (IntKind.u64.wrap b).toNat) = canonF b := by
      rw [canon_val]
      unfold canonF nanB
      simp only [decide_eq_true_eq, w64_wrap]
    rw [e]
    exact VD.scal rfl
  · cases hs
theorem mixed0 : Try.prog.follows .mixedOrders = true := by kernel_rfl
theorem toldB : ToldOk Try.prog loreB.told := by
  intro f s h
  unfold loreB at h
  simp only at h
  split at h
  · cases h; exact plain_ok canon_told
  · cases h
theorem goodB : Pv.Good Try.prog (cO Try.prog loreB) := cO_good mixed0 toldB
theorem class_any {w : World} {u : Value} {h : GHeap} (H : HA w u h) (c : Int) : Calls Try.prog 46 #[u, .int .i64 c] w fun e w' => e = .returned (.bool (clsP h c)) ∧ Below w.heap.size w w' := by
  refine (call_data goodB (f_class h.Objs h.Cap h.Last c) rfl (H.args c)).mono ?_
  rintro e w' ⟨v, G', rfl, hb, hv⟩
  exact ⟨by rw [hv.sc], hb⟩
theorem object_any {w : World} {u : Value} {h : GHeap} (H : HA w u h) (c : Int) (o : GObj) (ho : objP h c = some o) : Calls Try.prog 37 #[u, .int .i64 c] w fun e w' => ∃ a, e = .returned (.pointer (some a)) ∧ Below w.heap.size w w' ∧ RA w' (.pointer (some a)) (.pt (Enc.enc o)) := by
  have g := f_object h.Objs h.Cap h.Last c
  rw [show (⟨h.Objs, h.Cap, h.Last⟩ : GHeap) = h from rfl, ho] at g
  refine (call_data goodB g rfl (H.args c)).mono ?_
  rintro e w' ⟨v, G', rfl, hb, hv⟩
  have hd := VD.data hv
  have hd' := hd
  cases hd with
  | pt a _ _ _ _ _ => exact ⟨a, rfl, hb, hd'⟩
theorem pairs_any {w : World} {u : Value} {h : GHeap} (H : HA w u h) (c : Int) : Calls Try.prog 36 #[u, .int .i64 c] w fun e w' => ∃ l, e = .returned (.tuple #[l, .bool (prP h c).2]) ∧ Below w.heap.size w w' ∧ RA w' l (.sl 1 (els (prP h c).1)) := by
  refine (call_data goodB (f_pairs h.Objs h.Cap h.Last c) rfl (H.args c)).mono ?_
  rintro e w' ⟨v, G', rfl, hb, hv⟩
  cases hv with
  | tup _ us _ hs hh =>
    obtain ⟨us⟩ := us
    match us, hs with
    | [l, b], _ =>
      have h0 := VD.data (hh 0 l _ rfl rfl)
      have h1 := (hh 1 b _ rfl rfl).sc
      subst h1
      exact ⟨l, rfl, hb, h0⟩
theorem may_any {w : World} {u : Value} {h : GHeap} (H : HA w u h) (b : Bool) (hm : F_heap_May h = some b) : Calls Try.prog 34 #[u] w fun e w' => e = .returned (.bool b) ∧ Below w.heap.size w w' := by
  have g := f_heap_May h.Objs h.Cap h.Last
  rw [show (⟨h.Objs, h.Cap, h.Last⟩ : GHeap) = h from rfl, hm, ob_some] at g
  refine (call_data goodB g rfl (fun i x d hx hd => ?_)).mono ?_
  · match i, hx, hd with
    | 0, hx, hd => cases hx; cases hd; exact ⟨rfl, H.vd⟩
    | i + 1, hx, hd => simp at hd
  · rintro e w' ⟨v, G', rfl, hb, hv⟩
    exact ⟨by rw [hv.sc], hb⟩
theorem at_any {w : World} (v : Int) : Calls Try.prog 53 #[.int .i64 v] w fun e w' => e = .returned (.tuple #[.int .i64 (atP v).1, .bool (atP v).2]) ∧ Below w.heap.size w w' := by
  have g := f_value_At v
  rw [value_At_eq, ob_some] at g
  refine (call_data goodB g rfl (fun i x d hx hd => ?_)).mono ?_
  · match i, hx, hd with
    | 0, hx, hd => cases hx; cases hd; exact ⟨rfl, vdI _⟩
    | i + 1, hx, hd => simp at hd
  · rintro e w' ⟨v, G', rfl, hb, hv⟩
    cases hv with
    | tup _ us _ hs hh =>
      obtain ⟨us⟩ := us
      match us, hs with
      | [l, b], _ =>
        have h0 := (hh 0 l _ rfl rfl).sc
        have h1 := (hh 1 b _ rfl rfl).sc
        subst h0 h1
        exact ⟨rfl, hb⟩
end Go.Pv.Bs

/- Walks up through classes: the laws in plain words. -/
namespace Go.Pv
section
variable (cls : Int → Bool) (sup : Int → Int) (top : Int → Bool)
/-- The class so many steps above. -/
def pth : Nat → Int → Option Int
  | 0, c => some c
  | k + 1, c => if cls c = true ∧ top (sup c) = false then pth k (sup c) else none
variable {cls sup top}
end
theorem scan_step (xs : List Int) (s : Int) (q : Nat) (h : 2 * q + 1 < xs.length) : scan (xs.drop (2 * q)) s = if xs[2 * q] = s then some xs[2 * q + 1] else scan (xs.drop (2 * (q + 1))) s := by
  rw [List.drop_eq_getElem_cons (show 2 * q < xs.length by omega), List.drop_eq_getElem_cons h]
  rfl
theorem scan_stop (xs : List Int) (s : Int) (q : Nat) (h : ¬ 2 * q + 1 < xs.length) : scan (xs.drop (2 * q)) s = none := by
  have hl : (xs.drop (2 * q)).length ≤ 1 := by rw [List.length_drop]; omega
  match e : xs.drop (2 * q), hl with
  | [], _ => rfl
  | [a], _ => rfl
/-! ### classes of heaps -/
def idxP (c : Int) : Nat := (at? c).getD 0
theorem objP_some {h : GHeap} {c : Int} {o : GObj} : objP h c = some o ↔ ∃ i, at? c = some i ∧ i < h.Objs.length ∧ o = atN h.Objs i := by
  unfold objP
  cases e : at? c with
  | none => simp
  | some i =>
    by_cases hi : i < h.Objs.length
    · simp [hi, eq_comm]
    · simp [hi]
theorem clsP_ref {h : GHeap} {c : Int} (e : clsP h c = true) : ∃ i, at? c = some i ∧ i < h.Objs.length ∧ c = 2 * (i : Int) ∧ i ≤ 1048575 ∧ (atN h.Objs i).Kind = 0 ∧ 3 ≤ (atN h.Objs i).Slots.length ∧
    (objP h (atI (atN h.Objs i).Slots 0)).isSome = true ∧ (prP h (atI (atN h.Objs i).Slots 1)).2 = true := by
  unfold clsP at e
  split at e
  · cases e
  · rename_i o ho
    obtain ⟨i, h1, h2, rfl⟩ := objP_some.1 ho
    have h3 := atv_some.1 h1
    split at e
    · rename_i hk
      split at e
      · cases e
      · split at e
        · cases e
        · rename_i p hp
          simp only [Bool.and_eq_true] at e
          exact ⟨i, h1, h2, h3.1, h3.2, hk, by omega, by rw [hp]; rfl, e.1⟩
    · cases e
/-! ### LookUnder -/
/-- What goes on behind a class: its dictionary has not the selector. -/
def goesF (h : GHeap) (s : Int) (i : Int) (is : Bool) : Bool := is && (scan (prP h (slotP h 1 i)).1 s).isNone
theorem findP_eq {h : GHeap} (ok : okHeapB h = true) (c s : Int) : findP h c s = findR (upR (clsP h) (slotP h 0) topP (goesF h s) 64 c) (fun i => (prP h (slotP h 1 i)).1) s := by
  unfold findP
  rw [if_pos ok]
  rfl
/-! ### LookHides -/
end Go.Pv

/- Heaps: the document's functions in plain words (layers 3 and 9). -/
namespace Go.Pv.Bs
theorem bAnd_low (v : Int) : bAnd .i64 v 9223372036854775807 = v % 9223372036854775808 := by
  have h : (BitVec.ofInt IntKind.i64.bits v &&& BitVec.ofInt IntKind.i64.bits 9223372036854775807).toNat = (v % 9223372036854775808).toNat := by
    show (BitVec.ofInt 64 v &&& BitVec.ofInt 64 9223372036854775807).toNat = _
    rw [BitVec.toNat_and, BitVec.toNat_ofInt, BitVec.toNat_ofInt]
    show (v % ((2 ^ 64 : Nat) : Int)).toNat &&& (2 ^ 63 - 1) = _
    rw [Nat.and_two_pow_sub_one_eq_mod]
    omega
  unfold bAnd
  rw [h, wrap_w64, w64_id (by omega) (by omega)]
  omega
theorem iShr_52 (v : Int) : iShr .i64 v 52 = v / 4503599627370496 := by
  show v.fdiv (2 ^ (min (52 : Int).toNat 64)) = v / 4503599627370496
  rw [show (2 : Int) ^ (min (52 : Int).toNat 64) = 4503599627370496 from rfl, Int.fdiv_eq_ediv_of_nonneg _ (by omega)]
def inR (b : Int) : Prop := -9223372036854775808 ≤ b ∧ b ≤ 9223372036854775807
theorem R02_Canon_eq (a : Int) (h : inR a) : F_R02_Canon a = some (canonF a) := by
  unfold F_R02_Canon F_R02_Kind F_R02_plain F_R02_most F_R02_NaN canonF nanB
  simp only [ob_some, bAnd_low, iShr_52]
  rw [Int.tmod_eq_emod_of_nonneg (by omega), w64_id h.1 h.2]
  by_cases h1 : a % 9223372036854775808 / 4503599627370496 = 2047
  · rw [if_pos h1]
    by_cases h2 : a % 9223372036854775808 % 4503599627370496 = 0
    · have h3 : a % 4503599627370496 = 0 := by omega
      rw [if_pos h2, ob_some]
      simp [h3]
    · have h3 : ¬ a % 4503599627370496 = 0 := by omega
      rw [if_neg h2, ob_some]
      simp [h1, h3]
  · rw [if_neg h1]
    by_cases h4 : 0 < a % 9223372036854775808 / 4503599627370496
    · rw [if_pos h4, ob_some]; simp [h1]
    · rw [if_neg h4]
      by_cases h5 : 0 < a % 9223372036854775808 % 4503599627370496
      · rw [if_pos h5, ob_some]; simp [h1]
      · rw [if_neg h5, ob_some]; simp [h1]
theorem R01_At_eq (v : Int) : F_R01_At v = some (atP v) := by
  unfold F_R01_At atP at?
  by_cases h : v % 2 = 0
  · rw [if_pos ((tmod_two v).2 h)]
    by_cases h1 : 0 ≤ v
    · rw [if_pos h1]
      by_cases h2 : 2097150 < v
      · rw [if_pos h2, if_neg (by omega)]
      · rw [if_neg h2, if_pos (by omega), Int.tdiv_eq_ediv_of_nonneg h1, w64_id (by omega) (by omega)]
        simp only [Option.some.injEq, Prod.mk.injEq, and_true]; omega
    · rw [if_neg h1, if_neg (by omega)]
  · rw [if_neg (fun k => h ((tmod_two v).1 k)), if_neg (by omega)]
theorem tdiv_odd {v : Int} (h : v % 2 = 1) : (v - 1).tdiv 2 = v / 2 := by
  have e : v - 1 = 2 * (v / 2) := by omega
  rw [e, Int.mul_tdiv_cancel_left _ (by omega)]
theorem R01_N_eq (v : Int) : F_R01_N v = some (nP v) := by
  unfold F_R01_N nP n?
  by_cases h : v % 2 = 0
  · rw [if_pos ((tmod_two v).2 h), if_neg (by omega)]
  · rw [if_neg (fun k => h ((tmod_two v).1 k))]
    by_cases h1 : -2147483647 ≤ v
    · rw [if_pos h1]
      by_cases h2 : 2147483647 < v
      · rw [if_pos h2, if_neg (by omega)]
      · have h3 : v % 2 = 1 := by omega
        rw [if_neg h2, if_pos (by omega), w64_id (n := v - 1) (by omega) (by omega), tdiv_odd h3, w64_id (by omega) (by omega)]
    · rw [if_neg h1, if_neg (by omega)]
theorem R03_Ref_eq (h : GHeap) (v : Int) : F_R03_Ref h v = some (refI h.n v) := by
  unfold F_R03_Ref refI
  rw [R01_At_eq, ob_some]
  unfold atP GHeap.n
  cases at? v with
  | none => simp
  | some i =>
    by_cases hi : i < h.Objs.length
    · have : ¬ ((h.Objs.length : Int) ≤ (i : Int)) := by omega
      simp [hi, this]
    · have : (h.Objs.length : Int) ≤ (i : Int) := by omega
      simp [hi, this]
theorem R03_Has_eq (h : GHeap) (v : Int) : F_R03_Has h v = some (hasB h.n v) := by
  unfold F_R03_Has
  rw [R01_N_eq, ob_some, nP_snd, R03_Ref_eq, ob_some, hasB_ref]
  cases (n? v).isSome <;> simp
theorem R03_hash_eq (n : Int) : F_R03_hash n = some (decide (0 ≤ n ∧ n ≤ 1073741823)) := by
  unfold F_R03_hash
  by_cases h : 0 ≤ n
  · have : (n < 1073741824) ↔ (n ≤ 1073741823) := by omega
    simp [h, this]
  · simp [h]
theorem R03_obj_eq (h : GHeap) (o : GObj) (hl : o.Slots.length ≤ big) (hb : inR o.Bits) : F_R03_obj h o = some (dec (OkObj h.n o)) := by
  unfold F_R03_obj
  unfold big at hl
  obtain ⟨r, e, hr⟩ := iter_all o.Slots (hasB h.n) (S := fun p => s0_R03_obj h.Objs h.Cap h.Last o.Class o.Kind o.Slots o.Text o.Bits o.Hash p) (fun _ => false) (fun k hk => by
    simp only [s0_R03_obj, atI_nat _ k hk]
    rw [if_pos (by omega), if_pos (by omega), w64_id (by omega) (by omega)]
    rw [R03_Has_eq h, ob_some]
    cases hasB h.n o.Slots[k] <;> simp) (by simp [s0_R03_obj])
  rw [e, ob_some]
  cases r with
  | inl b =>
    obtain ⟨h7, k, _, rfl, _⟩ := hr
    rw [sm_inl, dec_false fun k => by
      rw [List.all_eq_true.2 k.slots] at h7; cases h7]
  | inr u =>
    have h7 : o.Slots.all (hasB h.n) = true := hr
    rw [sm_inr]
    simp only [R03_Ref_eq, R03_hash_eq, R02_Canon_eq _ hb, ob_some]
    by_cases h1 : 0 ≤ refI h.n o.Class
    case neg => rw [dec_false fun k => h1 k.cls]; simp [h1]
    by_cases h2 : 0 ≤ o.Kind
    case neg => rw [dec_false fun k => h2 k.kind.1]; simp [h2]
    by_cases h2' : o.Kind ≤ 2
    case neg => rw [dec_false fun k => h2' k.kind.2]; simp [h2']
    by_cases h3 : 0 ≤ o.Hash ∧ o.Hash ≤ 1073741823
    case neg => rw [dec_false fun k => h3 k.hash, decide_eq_false h3]; simp
    by_cases h4 : (o.Slots.length : Int) ≤ 64
    case neg => rw [dec_false fun k => h4 (by have := k.nslots; omega)]; simp [h4]
    by_cases h5 : (o.Text.size : Int) ≤ 64
    case neg => rw [dec_false fun k => h5 (by have := k.ntext; omega)]; simp [h5]
    by_cases h6 : canonF o.Bits = o.Bits
    case neg =>
      rw [dec_false fun k => h6 k.canon]
      have : (canonF o.Bits == o.Bits) = false := by simpa using h6
      simp [this]
    have hiff : OkObj h.n o ↔ ((o.Kind ≠ 0 → o.Slots = []) ∧ (o.Kind ≠ 1 → o.Text = ByteArray.empty) ∧ (o.Kind ≠ 2 → o.Bits = 0)) :=
      ⟨fun k => ⟨k.ptr, k.text, k.bits⟩, fun k => ⟨h1, ⟨h2, h2'⟩, h3, k.1, k.2.1, k.2.2, by omega, by omega, h6, List.all_eq_true.1 h7⟩⟩
    rw [dec_congr hiff, dec_decide, decide_eq_true h3]
    have e0 : ({ data := #[] } : ByteArray) = ByteArray.empty := rfl
    have e1 : (canonF o.Bits == o.Bits) = true := by simpa using h6
    rw [e0, e1]
    simp only [h1, h2, h2', h4, h5, if_true]
    by_cases k0 : o.Kind = 0
    · simp [k0]
      by_cases b1 : o.Text = ByteArray.empty <;> by_cases b2 : o.Bits = 0 <;> simp [b1, b2]
    · by_cases k1 : o.Kind = 1
      · simp [k1]
        by_cases b1 : o.Slots = [] <;> by_cases b2 : o.Bits = 0 <;> simp [b1, b2]
      · have k2 : o.Kind = 2 := by omega
        simp [k2]
        by_cases b1 : o.Slots = [] <;> by_cases b2 : o.Text = ByteArray.empty <;> simp [b1, b2]
/-- All bits are a machine's. -/
def BitsR (h : GHeap) : Prop := ∀ o ∈ h.Objs, inR o.Bits
theorem R03_May_eq (h : GHeap) (hs : Slim h) (hb : BitsR h) : F_R03_May h = some (dec (OkHeap h)) := by
  obtain ⟨hl, hso⟩ := hs
  unfold big at hl
  unfold F_R03_May
  obtain ⟨r, e, hr⟩ := iter_all h.Objs (fun o => dec (OkObj h.n o)) (S := fun p => s0_R03_May h.Objs h.Cap h.Last p) (fun _ => false) (fun k hk => by
    have ho := R03_obj_eq h h.Objs[k] (by have := hso _ (List.getElem_mem hk); omega) (hb _ (List.getElem_mem hk))
    simp only [s0_R03_May, atI_nat _ k hk]
    rw [if_pos (by omega), if_pos (by omega), w64_id (by omega) (by omega)]
    rw [ho, ob_some]
    cases dec (OkObj h.n h.Objs[k]) <;> simp) (by simp [s0_R03_May])
  rw [e, ob_some]
  cases r with
  | inl b =>
    obtain ⟨h5, k, hk, rfl, hf, _⟩ := hr
    rw [sm_inl, dec_false fun ok => by
      rw [show OkObj h.n h.Objs[k] = OkObj h.Objs.length h.Objs[k] from rfl, dec_true (ok.objs _ (List.getElem_mem hk))] at hf; cases hf]
  | inr u =>
    have h5 : h.Objs.all (fun o => dec (OkObj h.n o)) = true := hr
    rw [sm_inr]
    by_cases h1 : 1 ≤ h.Cap
    case neg => rw [if_neg h1, dec_false fun k => h1 k.cap.1]
    by_cases h2 : h.Cap ≤ 256
    case neg => rw [if_pos h1, if_neg h2, dec_false fun k => h2 k.cap.2]
    by_cases h3 : (h.Objs.length : Int) ≤ h.Cap
    case neg => rw [if_pos h1, if_pos h2, if_neg h3, dec_false fun k => h3 k.len]
    rw [if_pos h1, if_pos h2, if_pos h3, R03_hash_eq, ob_some]
    by_cases h4 : 0 ≤ h.Last ∧ h.Last ≤ 1073741823
    case neg => rw [decide_eq_false h4, dec_false fun k => h4 k.last]
    rw [decide_eq_true h4, dec_true ⟨⟨h1, h2⟩, h3, h4, fun o ho => dec_iff.1 (List.all_eq_true.1 h5 o ho)⟩]
theorem R03_Small_ex (h : GHeap) (hl : h.Objs.length ≤ big) : ∃ b, F_R03_Small h = some b := by
  unfold big at hl
  unfold F_R03_Small
  obtain ⟨r, e, _⟩ := iter_post (S := fun p : Int × Int => s0_R03_Small h.Objs h.Cap h.Last p.fst p.snd) (fun p => h.Objs.length - p.2.toNat) (fun p => ∃ k : Nat, p.2 = k ∧ k ≤ h.Objs.length) (fun _ => True) (fun p hp => by
    obtain ⟨n, i⟩ := p
    obtain ⟨k, hk, hle⟩ := hp
    simp only at hk
    subst hk
    simp only [s0_R03_Small]
    by_cases h1 : (k : Int) < h.Objs.length
    · rw [if_pos h1]
      by_cases h2 : n < 5000
      · rw [if_pos h2, if_pos (by omega), if_pos (by omega), w64_id (n := (k : Int) + 1) (by omega) (by omega)]
        exact .inl ⟨_, rfl, ⟨k + 1, rfl, by omega⟩, by simp; omega⟩
      · rw [if_neg h2]; exact .inr ⟨_, rfl, trivial⟩
    · rw [if_neg h1]; exact .inr ⟨_, rfl, trivial⟩) ((0 : Int), (0 : Int)) ⟨0, rfl, Nat.zero_le _⟩
  rw [e, ob_some]
  split <;> exact ⟨_, rfl⟩
end Go.Pv.Bs

/- Classes: the document's functions in plain words. -/
namespace Go.Pv.Bs
theorem atI_cast {α : Type} [Enc α] (l : List α) (i : Nat) : atI l (i : Int) = atN l i := rfl
theorem R09_pairs_eq (h : GHeap) (v : Int) : F_R09_pairs h v = some (prP h v) := by
  unfold F_R09_pairs
  rw [R03_Ref_eq, ob_some]
  unfold refI prP objP atP GHeap.n
  cases e : at? v with
  | none => simp
  | some i =>
    by_cases hi : i < h.Objs.length
    · simp only [if_pos hi]
      by_cases h0 : i = 0
      · subst h0; simp
      · rw [if_neg (by omega), if_pos (by omega), if_pos (by omega), atI_cast]
        simp only [if_neg (show ¬ (i : Int) = 0 by omega)]
        by_cases hk : (atN h.Objs i).Kind = 0
        · rw [if_pos hk, if_pos (by omega), if_pos hk]
        · rw [if_neg hk, if_neg hk]
    · simp [hi]
theorem R09_May_eq (h : GHeap) (hs : Slim h) (hb : BitsR h) (c : Int) : F_R09_May h c = some (dec (OkHeap h) && clsP h c) := by
  unfold F_R09_May
  rw [R03_Ref_eq, ob_some, R03_May_eq h hs hb, ob_some]
  cases dec (OkHeap h) with
  | false => simp
  | true =>
    rw [if_pos rfl, Bool.true_and]
    unfold clsP
    have ho : objP h c = match at? c with | some i => if i < h.Objs.length then some (atN h.Objs i) else none | none => none := rfl
    rw [ho]
    unfold refI GHeap.n
    cases e : at? c with
    | none => simp
    | some i =>
      by_cases hi : i < h.Objs.length
      · simp only [if_pos hi]
        rw [if_pos (by omega), if_pos (by omega), atI_cast]
        generalize atN h.Objs i = o
        by_cases hk : o.Kind = 0
        · rw [if_pos hk, if_pos (by omega), if_pos hk]
          by_cases hl : (o.Slots.length : Int) < 3
          · rw [if_pos hl, if_pos hl]
          · rw [if_neg hl, if_neg hl, if_pos (by omega), if_pos (by omega), R09_pairs_eq, ob_some, if_pos (by omega), R01_N_eq, ob_some, if_pos (by omega), R03_Ref_eq, ob_some]
            have hr : (0 ≤ refI h.n (atI o.Slots 0)) ↔ ∃ p, objP h (atI o.Slots 0) = some p := by
              unfold refI objP GHeap.n
              cases at? (atI o.Slots 0) with
              | none => simp
              | some j => by_cases hj : j < h.Objs.length <;> simp [hj]
            cases hp : objP h (atI o.Slots 0) with
            | none => rw [if_neg (by rw [hr, hp]; simp)]
            | some p =>
              rw [if_pos (by rw [hr, hp]; exact ⟨p, rfl⟩)]
              dsimp only
              cases (prP h (atI o.Slots 1)).2 <;> cases (nP (atI o.Slots 2)).2 <;> by_cases h3 : 0 ≤ (nP (atI o.Slots 2)).1 <;> simp [h3]
        · rw [if_neg hk, if_neg hk]
      · simp [hi]
end Go.Pv.Bs

namespace Go.Pv.Bs
open Go Go.Proofs
set_option maxRecDepth 100000
set_option maxHeartbeats 0
set_option linter.unusedSimpArgs false
set_option linter.unusedVariables false
noncomputable def s0_R09_find (c_1 sel_2 left_3 : Int) (l_12 : List Int) (h_4b_0 : List GObj) (h_4b_1 h_4b_2 o_11b_0 o_11b_1 : Int) (o_11b_2 : List Int) (o_11b_3 : ByteArray) (o_11b_4 o_11b_5 : Int) (i_14 : Int) : Option (Int ⊕ Int × Int ⊕ Unit) :=
  if w64 (i_14 + (1 : Int)) < (↑l_12.length : Int) then if (0 : Int) ≤ i_14 ∧ i_14 < (↑l_12.length : Int) then if atI l_12 i_14 = sel_2 then if (0 : Int) ≤ w64 (i_14 + (1 : Int)) ∧ w64 (i_14 + (1 : Int)) < (↑l_12.length : Int) then some (Sum.inr (Sum.inl (atI l_12 (w64 (i_14 + (1 : Int))), (0 : Int)))) else none else some (Sum.inl (w64 (i_14 + (2 : Int)))) else none else some (Sum.inr (Sum.inr ()))
theorem r0_R09_find (c_1 sel_2 left_3 : Int) (l_12 : List Int) (h_4b_0 : List GObj) (h_4b_1 h_4b_2 o_11b_0 o_11b_1 : Int) (o_11b_2 : List Int) (o_11b_3 : ByteArray) (o_11b_4 o_11b_5 : Int) (i_14 : Int) (c : Code) (hc : c = loopN Try.f43 0) : roundOf (h43.at c) (h43.outAt c) (eO Try.prog h43 (cO Try.prog loreB) c { tm := [D.dead, D.t (T.sc (Value.int IntKind.i64 c_1)), D.t (T.sc (Value.int IntKind.i64 sel_2)), D.t (T.sc (Value.int IntKind.i64 left_3)), D.lp (4 : Nat) (0 : Nat), D.dead, D.dead, D.dead, D.dead, D.dead, D.dead, D.lp (11 : Nat) (0 : Nat), D.t (T.sl (1 : Nat) (els l_12)), D.dead, D.t (T.sc (Value.int IntKind.i64 i_14)), D.dead, D.dead, D.dead, D.dead, D.dead, D.dead, D.dead, D.dead, D.dead, D.dead, D.dead, D.dead, D.dead, D.dead, D.dead, D.dead, D.dead, D.dead, D.dead, D.dead, D.dead, D.dead, D.dead, D.dead, D.dead, D.dead, D.dead, D.dead, D.dead, D.dead, D.dead, D.dead, D.dead, D.dead, D.dead, D.dead, D.dead, D.dead, D.dead, D.dead, D.dead, D.dead, D.dead, D.dead, D.dead, D.dead, D.dead, D.dead, D.dead, D.dead, D.dead, D.dead, D.dead, D.dead, D.dead, D.dead, D.dead, D.dead, D.dead, D.dead], bx := [[], [], [], [], [D.t (T.sl (6 : Nat) (els h_4b_0)), D.t (T.sc (Value.int IntKind.i64 h_4b_1)), D.t (T.sc (Value.int IntKind.i64 h_4b_2))], [], [], [], [], [], [], [D.t (T.sc (Value.int IntKind.i64 o_11b_0)), D.t (T.sc (Value.int IntKind.i64 o_11b_1)), D.t (T.sl (1 : Nat) (els o_11b_2)), D.t (T.sc (Value.string o_11b_3)), D.t (T.sc (Value.int IntKind.i64 o_11b_4)), D.t (T.sc (Value.int IntKind.i64 o_11b_5))], [], [], [], [], [], [], [], [], [], [], [], [], [], [], [], [], [], [], [], [], [], [], [], [], [], [], [], [], [], [], [], [], [], [], [], [], [], [], [], [], [], [], [], [], [], [], [], [], [], [], [], [], [], [], [], [], [], [], [], [], [], [], []], fr := [] : St }) = ob (s0_R09_find (c_1) (sel_2) (left_3) (l_12) (h_4b_0) (h_4b_1) (h_4b_2) (o_11b_0) (o_11b_1) (o_11b_2) (o_11b_3) (o_11b_4) (o_11b_5) (i_14)) fun x => sm x (fun p => some (Out.normal, { tm := [D.dead, D.t (T.sc (Value.int IntKind.i64 c_1)), D.t (T.sc (Value.int IntKind.i64 sel_2)), D.t (T.sc (Value.int IntKind.i64 left_3)), D.lp (4 : Nat) (0 : Nat), D.dead, D.dead, D.dead, D.dead, D.dead, D.dead, D.lp (11 : Nat) (0 : Nat), D.t (T.sl (1 : Nat) (els l_12)), D.dead, D.t (T.sc (Value.int IntKind.i64 p)), D.dead, D.dead, D.dead, D.dead, D.dead, D.dead, D.dead, D.dead, D.dead, D.dead, D.dead, D.dead, D.dead, D.dead, D.dead, D.dead, D.dead, D.dead, D.dead, D.dead, D.dead, D.dead, D.dead, D.dead, D.dead, D.dead, D.dead, D.dead, D.dead, D.dead, D.dead, D.dead, D.dead, D.dead, D.dead, D.dead, D.dead, D.dead, D.dead, D.dead, D.dead, D.dead, D.dead, D.dead, D.dead, D.dead, D.dead, D.dead, D.dead, D.dead, D.dead, D.dead, D.dead, D.dead, D.dead, D.dead, D.dead, D.dead, D.dead, D.dead], bx := [[], [], [], [], [D.t (T.sl (6 : Nat) (els h_4b_0)), D.t (T.sc (Value.int IntKind.i64 h_4b_1)), D.t (T.sc (Value.int IntKind.i64 h_4b_2))], [], [], [], [], [], [], [D.t (T.sc (Value.int IntKind.i64 o_11b_0)), D.t (T.sc (Value.int IntKind.i64 o_11b_1)), D.t (T.sl (1 : Nat) (els o_11b_2)), D.t (T.sc (Value.string o_11b_3)), D.t (T.sc (Value.int IntKind.i64 o_11b_4)), D.t (T.sc (Value.int IntKind.i64 o_11b_5))], [], [], [], [], [], [], [], [], [], [], [], [], [], [], [], [], [], [], [], [], [], [], [], [], [], [], [], [], [], [], [], [], [], [], [], [], [], [], [], [], [], [], [], [], [], [], [], [], [], [], [], [], [], [], [], [], [], [], [], [], [], [], []], fr := [] : St })) (fun b : Int × Int ⊕ Unit => sm b (fun b => some (Out.ret, { tm := [D.dead, D.dead, D.t (T.sc (Value.int IntKind.i64 sel_2)), D.t (T.sc (Value.int IntKind.i64 left_3)), D.lp (4 : Nat) (0 : Nat), D.dead, D.dead, D.dead, D.t (T.sc (Value.int IntKind.i64 b.fst)), D.t (T.sc (Value.int IntKind.i64 c_1)), D.t (T.sc (Value.int IntKind.i64 b.snd)), D.lp (11 : Nat) (0 : Nat), D.dead, D.dead, D.dead, D.dead, D.dead, D.dead, D.dead, D.dead, D.dead, D.dead, D.dead, D.dead, D.dead, D.dead, D.dead, D.dead, D.dead, D.dead, D.dead, D.dead, D.dead, D.dead, D.dead, D.dead, D.dead, D.dead, D.dead, D.dead, D.dead, D.dead, D.dead, D.dead, D.dead, D.dead, D.dead, D.dead, D.dead, D.dead, D.dead, D.dead, D.dead, D.dead, D.dead, D.dead, D.dead, D.dead, D.dead, D.dead, D.dead, D.dead, D.dead, D.dead, D.dead, D.dead, D.dead, D.dead, D.dead, D.dead, D.dead, D.dead, D.dead, D.dead, D.dead], bx := [[], [], [], [], [D.t (T.sl (6 : Nat) (els h_4b_0)), D.t (T.sc (Value.int IntKind.i64 h_4b_1)), D.t (T.sc (Value.int IntKind.i64 h_4b_2))], [], [], [], [], [], [], [D.t (T.sc (Value.int IntKind.i64 o_11b_0)), D.t (T.sc (Value.int IntKind.i64 o_11b_1)), D.t (T.sl (1 : Nat) (els o_11b_2)), D.t (T.sc (Value.string o_11b_3)), D.t (T.sc (Value.int IntKind.i64 o_11b_4)), D.t (T.sc (Value.int IntKind.i64 o_11b_5))], [], [], [], [], [], [], [], [], [], [], [], [], [], [], [], [], [], [], [], [], [], [], [], [], [], [], [], [], [], [], [], [], [], [], [], [], [], [], [], [], [], [], [], [], [], [], [], [], [], [], [], [], [], [], [], [], [], [], [], [], [], [], []], fr := [] : St })) fun b => some (Out.exit (0 : Nat), { tm := [D.dead, D.dead, D.t (T.sc (Value.int IntKind.i64 sel_2)), D.t (T.sc (Value.int IntKind.i64 left_3)), D.lp (4 : Nat) (0 : Nat), D.dead, D.dead, D.dead, D.dead, D.dead, D.dead, D.lp (11 : Nat) (0 : Nat), D.dead, D.dead, D.dead, D.dead, D.dead, D.dead, D.dead, D.dead, D.dead, D.dead, D.dead, D.dead, D.dead, D.dead, D.dead, D.dead, D.dead, D.dead, D.dead, D.dead, D.dead, D.dead, D.dead, D.dead, D.dead, D.dead, D.dead, D.dead, D.dead, D.dead, D.dead, D.dead, D.dead, D.dead, D.dead, D.dead, D.dead, D.dead, D.dead, D.dead, D.dead, D.dead, D.dead, D.dead, D.dead, D.dead, D.dead, D.dead, D.dead, D.dead, D.dead, D.dead, D.dead, D.dead, D.dead, D.dead, D.dead, D.dead, D.dead, D.dead, D.dead, D.dead, D.dead], bx := [[], [], [], [], [D.t (T.sl (6 : Nat) (els h_4b_0)), D.t (T.sc (Value.int IntKind.i64 h_4b_1)), D.t (T.sc (Value.int IntKind.i64 h_4b_2))], [], [], [], [], [], [], [D.t (T.sc (Value.int IntKind.i64 o_11b_0)), D.t (T.sc (Value.int IntKind.i64 o_11b_1)), D.t (T.sl (1 : Nat) (els o_11b_2)), D.t (T.sc (Value.string o_11b_3)), D.t (T.sc (Value.int IntKind.i64 o_11b_4)), D.t (T.sc (Value.int IntKind.i64 o_11b_5))], [], [], [], [], [], [], [], [], [], [], [], [], [], [], [], [], [], [], [], [], [], [], [], [], [], [], [], [], [], [], [], [], [], [], [], [], [], [], [], [], [], [], [], [], [], [], [], [], [], [], [], [], [], [], [], [], [], [], [], [], [], [], []], fr := [] : St })) := by
  subst hc
  simp (decide := true) (maxSteps := 10000000) [Try.f43, s0_R09_find]
@[simp ↓] theorem l0_R09_find (c_1 sel_2 left_3 : Int) (l_12 : List Int) (h_4b_0 : List GObj) (h_4b_1 h_4b_2 o_11b_0 o_11b_1 : Int) (o_11b_2 : List Int) (o_11b_3 : ByteArray) (o_11b_4 o_11b_5 : Int) (i_14 : Int) (d0 d5 d6 d7 d8 d9 d10 d13 d15 d16 d17 d18 d19 d20 d21 d22 d23 d24 d25 d26 d27 d28 d29 d30 d31 d32 d33 d34 d35 d36 d37 d38 d39 d40 d41 d42 d43 d44 d45 d46 d47 d48 d49 d50 d51 d52 d53 d54 d55 d56 d57 d58 d59 d60 d61 d62 d63 d64 d65 d66 d67 d68 d69 d70 d71 d72 d73 d74 : D) (e0 e5 e6 e7 e8 e9 e10 e13 e15 e16 e17 e18 e19 e20 e21 e22 e23 e24 e25 e26 e27 e28 e29 e30 e31 e32 e33 e34 e35 e36 e37 e38 e39 e40 e41 e42 e43 e44 e45 e46 e47 e48 e49 e50 e51 e52 e53 e54 e55 e56 e57 e58 e59 e60 e61 e62 e63 e64 e65 e66 e67 e68 e69 e70 e71 e72 e73 e74 : List D) (c : Code) (hc : c = loopN Try.f43 0) : eO Try.prog h43 (cO Try.prog loreB) (.loop c) { tm := [d0, D.t (T.sc (Value.int IntKind.i64 c_1)), D.t (T.sc (Value.int IntKind.i64 sel_2)), D.t (T.sc (Value.int IntKind.i64 left_3)), D.lp (4 : Nat) (0 : Nat), d5, d6, d7, d8, d9, d10, D.lp (11 : Nat) (0 : Nat), D.t (T.sl (1 : Nat) (els l_12)), d13, D.t (T.sc (Value.int IntKind.i64 i_14)), d15, d16, d17, d18, d19, d20, d21, d22, d23, d24, d25, d26, d27, d28, d29, d30, d31, d32, d33, d34, d35, d36, d37, d38, d39, d40, d41, d42, d43, d44, d45, d46, d47, d48, d49, d50, d51, d52, d53, d54, d55, d56, d57, d58, d59, d60, d61, d62, d63, d64, d65, d66, d67, d68, d69, d70, d71, d72, d73, d74], bx := [e0, [], [], [], [D.t (T.sl (6 : Nat) (els h_4b_0)), D.t (T.sc (Value.int IntKind.i64 h_4b_1)), D.t (T.sc (Value.int IntKind.i64 h_4b_2))], e5, e6, e7, e8, e9, e10, [D.t (T.sc (Value.int IntKind.i64 o_11b_0)), D.t (T.sc (Value.int IntKind.i64 o_11b_1)), D.t (T.sl (1 : Nat) (els o_11b_2)), D.t (T.sc (Value.string o_11b_3)), D.t (T.sc (Value.int IntKind.i64 o_11b_4)), D.t (T.sc (Value.int IntKind.i64 o_11b_5))], [], e13, [], e15, e16, e17, e18, e19, e20, e21, e22, e23, e24, e25, e26, e27, e28, e29, e30, e31, e32, e33, e34, e35, e36, e37, e38, e39, e40, e41, e42, e43, e44, e45, e46, e47, e48, e49, e50, e51, e52, e53, e54, e55, e56, e57, e58, e59, e60, e61, e62, e63, e64, e65, e66, e67, e68, e69, e70, e71, e72, e73, e74], fr := [] : St } = ob (iterO (fun p : Int => s0_R09_find (c_1) (sel_2) (left_3) (l_12) (h_4b_0) (h_4b_1) (h_4b_2) (o_11b_0) (o_11b_1) (o_11b_2) (o_11b_3) (o_11b_4) (o_11b_5) (p)) (i_14)) (fun b : Int × Int ⊕ Unit => sm b (fun b => some (Out.ret, { tm := [D.dead, D.dead, D.t (T.sc (Value.int IntKind.i64 sel_2)), D.t (T.sc (Value.int IntKind.i64 left_3)), D.lp (4 : Nat) (0 : Nat), D.dead, D.dead, D.dead, D.t (T.sc (Value.int IntKind.i64 b.fst)), D.t (T.sc (Value.int IntKind.i64 c_1)), D.t (T.sc (Value.int IntKind.i64 b.snd)), D.lp (11 : Nat) (0 : Nat), D.dead, D.dead, D.dead, D.dead, D.dead, D.dead, D.dead, D.dead, D.dead, D.dead, D.dead, D.dead, D.dead, D.dead, D.dead, D.dead, D.dead, D.dead, D.dead, D.dead, D.dead, D.dead, D.dead, D.dead, D.dead, D.dead, D.dead, D.dead, D.dead, D.dead, D.dead, D.dead, D.dead, D.dead, D.dead, D.dead, D.dead, D.dead, D.dead, D.dead, D.dead, D.dead, D.dead, D.dead, D.dead, D.dead, D.dead, D.dead, D.dead, D.dead, D.dead, D.dead, D.dead, D.dead, D.dead, D.dead, D.dead, D.dead, D.dead, D.dead, D.dead, D.dead, D.dead], bx := [[], [], [], [], [D.t (T.sl (6 : Nat) (els h_4b_0)), D.t (T.sc (Value.int IntKind.i64 h_4b_1)), D.t (T.sc (Value.int IntKind.i64 h_4b_2))], [], [], [], [], [], [], [D.t (T.sc (Value.int IntKind.i64 o_11b_0)), D.t (T.sc (Value.int IntKind.i64 o_11b_1)), D.t (T.sl (1 : Nat) (els o_11b_2)), D.t (T.sc (Value.string o_11b_3)), D.t (T.sc (Value.int IntKind.i64 o_11b_4)), D.t (T.sc (Value.int IntKind.i64 o_11b_5))], [], [], [], [], [], [], [], [], [], [], [], [], [], [], [], [], [], [], [], [], [], [], [], [], [], [], [], [], [], [], [], [], [], [], [], [], [], [], [], [], [], [], [], [], [], [], [], [], [], [], [], [], [], [], [], [], [], [], [], [], [], [], []], fr := [] : St })) fun b => some (Out.exit (0 : Nat), { tm := [D.dead, D.dead, D.t (T.sc (Value.int IntKind.i64 sel_2)), D.t (T.sc (Value.int IntKind.i64 left_3)), D.lp (4 : Nat) (0 : Nat), D.dead, D.dead, D.dead, D.dead, D.dead, D.dead, D.lp (11 : Nat) (0 : Nat), D.dead, D.dead, D.dead, D.dead, D.dead, D.dead, D.dead, D.dead, D.dead, D.dead, D.dead, D.dead, D.dead, D.dead, D.dead, D.dead, D.dead, D.dead, D.dead, D.dead, D.dead, D.dead, D.dead, D.dead, D.dead, D.dead, D.dead, D.dead, D.dead, D.dead, D.dead, D.dead, D.dead, D.dead, D.dead, D.dead, D.dead, D.dead, D.dead, D.dead, D.dead, D.dead, D.dead, D.dead, D.dead, D.dead, D.dead, D.dead, D.dead, D.dead, D.dead, D.dead, D.dead, D.dead, D.dead, D.dead, D.dead, D.dead, D.dead, D.dead, D.dead, D.dead, D.dead], bx := [[], [], [], [], [D.t (T.sl (6 : Nat) (els h_4b_0)), D.t (T.sc (Value.int IntKind.i64 h_4b_1)), D.t (T.sc (Value.int IntKind.i64 h_4b_2))], [], [], [], [], [], [], [D.t (T.sc (Value.int IntKind.i64 o_11b_0)), D.t (T.sc (Value.int IntKind.i64 o_11b_1)), D.t (T.sl (1 : Nat) (els o_11b_2)), D.t (T.sc (Value.string o_11b_3)), D.t (T.sc (Value.int IntKind.i64 o_11b_4)), D.t (T.sc (Value.int IntKind.i64 o_11b_5))], [], [], [], [], [], [], [], [], [], [], [], [], [], [], [], [], [], [], [], [], [], [], [], [], [], [], [], [], [], [], [], [], [], [], [], [], [], [], [], [], [], [], [], [], [], [], [], [], [], [], [], [], [], [], [], [], [], [], [], [], [], [], []], fr := [] : St })) := by
  refine loop_ob (fun p : Int => { tm := [D.dead, D.t (T.sc (Value.int IntKind.i64 c_1)), D.t (T.sc (Value.int IntKind.i64 sel_2)), D.t (T.sc (Value.int IntKind.i64 left_3)), D.lp (4 : Nat) (0 : Nat), D.dead, D.dead, D.dead, D.dead, D.dead, D.dead, D.lp (11 : Nat) (0 : Nat), D.t (T.sl (1 : Nat) (els l_12)), D.dead, D.t (T.sc (Value.int IntKind.i64 p)), D.dead, D.dead, D.dead, D.dead, D.dead, D.dead, D.dead, D.dead, D.dead, D.dead, D.dead, D.dead, D.dead, D.dead, D.dead, D.dead, D.dead, D.dead, D.dead, D.dead, D.dead, D.dead, D.dead, D.dead, D.dead, D.dead, D.dead, D.dead, D.dead, D.dead, D.dead, D.dead, D.dead, D.dead, D.dead, D.dead, D.dead, D.dead, D.dead, D.dead, D.dead, D.dead, D.dead, D.dead, D.dead, D.dead, D.dead, D.dead, D.dead, D.dead, D.dead, D.dead, D.dead, D.dead, D.dead, D.dead, D.dead, D.dead, D.dead, D.dead], bx := [[], [], [], [], [D.t (T.sl (6 : Nat) (els h_4b_0)), D.t (T.sc (Value.int IntKind.i64 h_4b_1)), D.t (T.sc (Value.int IntKind.i64 h_4b_2))], [], [], [], [], [], [], [D.t (T.sc (Value.int IntKind.i64 o_11b_0)), D.t (T.sc (Value.int IntKind.i64 o_11b_1)), D.t (T.sl (1 : Nat) (els o_11b_2)), D.t (T.sc (Value.string o_11b_3)), D.t (T.sc (Value.int IntKind.i64 o_11b_4)), D.t (T.sc (Value.int IntKind.i64 o_11b_5))], [], [], [], [], [], [], [], [], [], [], [], [], [], [], [], [], [], [], [], [], [], [], [], [], [], [], [], [], [], [], [], [], [], [], [], [], [], [], [], [], [], [], [], [], [], [], [], [], [], [], [], [], [], [], [], [], [], [], [], [], [], [], []], fr := [] : St }) _ _ ?_ (fun p => r0_R09_find (c_1) (sel_2) (left_3) (l_12) (h_4b_0) (h_4b_1) (h_4b_2) (o_11b_0) (o_11b_1) (o_11b_2) (o_11b_3) (o_11b_4) (o_11b_5) (p) c hc) _ _ ?_
  · rintro (b | b) <;> exact ⟨_, rfl, by simp⟩
  · subst hc; simp [Try.f43]
end Go.Pv.Bs

namespace Go.Pv.Bs
open Go Go.Proofs
set_option maxRecDepth 100000
set_option maxHeartbeats 0
set_option linter.unusedSimpArgs false
set_option linter.unusedVariables false
theorem rf0 (h_0 : List GObj) (h_1 h_2 : Int) (c : Int) (s : Int) (n : Int) (g1 : F_R09_May ({ Objs := h_0, Cap := h_1, Last := h_2 : GHeap }) c = some false) :
    cO Try.prog loreB 43 [D.agg [D.t (T.sl 6 (els h_0)), I h_1, I h_2], I c, I s, I n] [] = some (.val (D.tup [I 0, I 0, I 90]), []) := by
  rw [cO_eq (R := loreB) rfl Try.func43 rfl]
  show wrapThen h43.res (endThen Try.prog h43.shr _ (eO Try.prog h43 (cO Try.prog loreB) _ _)) = _
  simp (decide := true) (maxSteps := 10000000) [Try.f43, g1]
theorem rfH (h_0 : List GObj) (h_1 h_2 : Int) (c : Int) (s : Int) (n : Int) (i : Int) (l : List Int) (ok : Bool) (v e : Int) (g1 : F_R09_May ({ Objs := h_0, Cap := h_1, Last := h_2 : GHeap }) c = some true) (g2 : F_R03_Ref ({ Objs := h_0, Cap := h_1, Last := h_2 : GHeap }) c = some i) (g3 : 0 ≤ i) (g4 : i < (h_0.length : Int)) (g5 : (1 : Int) < ((atI h_0 i).Slots.length : Int)) (g6 : F_R09_pairs ({ Objs := h_0, Cap := h_1, Last := h_2 : GHeap }) (atI (atI h_0 i).Slots (1 : Int)) = some (l, ok)) (g7 : (0 : Nat) < (atI h_0 i).Slots.length) (g8 : iterO (fun p => s0_R09_find c s n l h_0 h_1 h_2 (atI h_0 i).Class (atI h_0 i).Kind (atI h_0 i).Slots (atI h_0 i).Text (atI h_0 i).Bits (atI h_0 i).Hash p) (0 : Int) = some (Sum.inl (v, e))) :
    cO Try.prog loreB 43 [D.agg [D.t (T.sl 6 (els h_0)), I h_1, I h_2], I c, I s, I n] [] = some (.val (D.tup [I v, I c, I e]), []) := by
  rw [cO_eq (R := loreB) rfl Try.func43 rfl]
  show wrapThen h43.res (endThen Try.prog h43.shr _ (eO Try.prog h43 (cO Try.prog loreB) _ _)) = _
  simp (decide := true) (maxSteps := 10000000) [Try.f43, g1, g2, g3, g4, g5, g6, g7, g8]
theorem rfE (h_0 : List GObj) (h_1 h_2 : Int) (c : Int) (s : Int) (n : Int) (i : Int) (l : List Int) (ok : Bool) (g1 : F_R09_May ({ Objs := h_0, Cap := h_1, Last := h_2 : GHeap }) c = some true) (g2 : F_R03_Ref ({ Objs := h_0, Cap := h_1, Last := h_2 : GHeap }) c = some i) (g3 : 0 ≤ i) (g4 : i < (h_0.length : Int)) (g5 : (1 : Int) < ((atI h_0 i).Slots.length : Int)) (g6 : F_R09_pairs ({ Objs := h_0, Cap := h_1, Last := h_2 : GHeap }) (atI (atI h_0 i).Slots (1 : Int)) = some (l, ok)) (g7 : (0 : Nat) < (atI h_0 i).Slots.length) (g8 : iterO (fun p => s0_R09_find c s n l h_0 h_1 h_2 (atI h_0 i).Class (atI h_0 i).Kind (atI h_0 i).Slots (atI h_0 i).Text (atI h_0 i).Bits (atI h_0 i).Hash p) (0 : Int) = some (Sum.inr ())) (g9 : (atI (atI h_0 i).Slots (0 : Int)) = 0) :
    cO Try.prog loreB 43 [D.agg [D.t (T.sl 6 (els h_0)), I h_1, I h_2], I c, I s, I n] [] = some (.val (D.tup [I 0, I 0, I 91]), []) := by
  rw [cO_eq (R := loreB) rfl Try.func43 rfl]
  show wrapThen h43.res (endThen Try.prog h43.shr _ (eO Try.prog h43 (cO Try.prog loreB) _ _)) = _
  simp (decide := true) (maxSteps := 10000000) [Try.f43, g1, g2, g3, g4, g5, g6, g7, g8, g9]
theorem rfN (h_0 : List GObj) (h_1 h_2 : Int) (c : Int) (s : Int)  (i : Int) (l : List Int) (ok : Bool) (g1 : F_R09_May ({ Objs := h_0, Cap := h_1, Last := h_2 : GHeap }) c = some true) (g2 : F_R03_Ref ({ Objs := h_0, Cap := h_1, Last := h_2 : GHeap }) c = some i) (g3 : 0 ≤ i) (g4 : i < (h_0.length : Int)) (g5 : (1 : Int) < ((atI h_0 i).Slots.length : Int)) (g6 : F_R09_pairs ({ Objs := h_0, Cap := h_1, Last := h_2 : GHeap }) (atI (atI h_0 i).Slots (1 : Int)) = some (l, ok)) (g7 : (0 : Nat) < (atI h_0 i).Slots.length) (g8 : iterO (fun p => s0_R09_find c s 1 l h_0 h_1 h_2 (atI h_0 i).Class (atI h_0 i).Kind (atI h_0 i).Slots (atI h_0 i).Text (atI h_0 i).Bits (atI h_0 i).Hash p) (0 : Int) = some (Sum.inr ())) (g9 : ¬ (atI (atI h_0 i).Slots (0 : Int)) = 0) :
    cO Try.prog loreB 43 [D.agg [D.t (T.sl 6 (els h_0)), I h_1, I h_2], I c, I s, I 1] [] = some (.val (D.tup [I 0, I 0, I 91]), []) := by
  rw [cO_eq (R := loreB) rfl Try.func43 rfl]
  show wrapThen h43.res (endThen Try.prog h43.shr _ (eO Try.prog h43 (cO Try.prog loreB) _ _)) = _
  simp (decide := true) (maxSteps := 10000000) [Try.f43, g1, g2, g3, g4, g5, g6, g7, g8, g9]
theorem rfR (h_0 : List GObj) (h_1 h_2 : Int) (c : Int) (s : Int) (n : Int) (i : Int) (l : List Int) (ok : Bool) (m v w e : Int) (g1 : F_R09_May ({ Objs := h_0, Cap := h_1, Last := h_2 : GHeap }) c = some true) (g2 : F_R03_Ref ({ Objs := h_0, Cap := h_1, Last := h_2 : GHeap }) c = some i) (g3 : 0 ≤ i) (g4 : i < (h_0.length : Int)) (g5 : (1 : Int) < ((atI h_0 i).Slots.length : Int)) (g6 : F_R09_pairs ({ Objs := h_0, Cap := h_1, Last := h_2 : GHeap }) (atI (atI h_0 i).Slots (1 : Int)) = some (l, ok)) (g7 : (0 : Nat) < (atI h_0 i).Slots.length) (g8 : iterO (fun p => s0_R09_find c s n l h_0 h_1 h_2 (atI h_0 i).Class (atI h_0 i).Kind (atI h_0 i).Slots (atI h_0 i).Text (atI h_0 i).Bits (atI h_0 i).Hash p) (0 : Int) = some (Sum.inr ())) (g9 : ¬ (atI (atI h_0 i).Slots (0 : Int)) = 0) (g10 : ¬ n = 1) (g11 : w64 (n - 1) = m) (g12 : cO Try.prog loreB 43 [D.agg [D.t (T.sl 6 (els h_0)), I h_1, I h_2], I (atI (atI h_0 i).Slots (0 : Int)), I s, I m] [] = some (.val (D.tup [I v, I w, I e]), [])) :
    cO Try.prog loreB 43 [D.agg [D.t (T.sl 6 (els h_0)), I h_1, I h_2], I c, I s, I n] [] = some (.val (D.tup [I v, I w, I e]), []) := by
  rw [cO_eq (R := loreB) rfl Try.func43 rfl]
  show wrapThen h43.res (endThen Try.prog h43.shr _ (eO Try.prog h43 (cO Try.prog loreB) _ _)) = _
  simp (decide := true) (maxSteps := 10000000) [Try.f43, g1, g2, g3, g4, g5, g6, g7, g8, g9, g10, g11, g12]
theorem rF0 (h_0 : List GObj) (h_1 h_2 : Int) (c : Int) (s : Int) (g1 : F_R03_May ({ Objs := h_0, Cap := h_1, Last := h_2 : GHeap }) = some false) :
    cO Try.prog loreB 28 [D.agg [D.t (T.sl 6 (els h_0)), I h_1, I h_2], I c, I s] [] = some (.val (D.tup [I 0, I 0, I 1]), []) := by
  rw [cO_eq (R := loreB) rfl Try.func28 rfl]
  show wrapThen h28.res (endThen Try.prog h28.shr _ (eO Try.prog h28 (cO Try.prog loreB) _ _)) = _
  simp (decide := true) (maxSteps := 10000000) [Try.f28, g1]
theorem rF1 (h_0 : List GObj) (h_1 h_2 : Int) (c : Int) (s : Int) (v w e : Int) (g1 : F_R03_May ({ Objs := h_0, Cap := h_1, Last := h_2 : GHeap }) = some true) (g2 : cO Try.prog loreB 43 [D.agg [D.t (T.sl 6 (els h_0)), I h_1, I h_2], I c, I s, I 64] [] = some (.val (D.tup [I v, I w, I e]), [])) :
    cO Try.prog loreB 28 [D.agg [D.t (T.sl 6 (els h_0)), I h_1, I h_2], I c, I s] [] = some (.val (D.tup [I v, I w, I e]), []) := by
  rw [cO_eq (R := loreB) rfl Try.func28 rfl]
  show wrapThen h28.res (endThen Try.prog h28.shr _ (eO Try.prog h28 (cO Try.prog loreB) _ _)) = _
  simp (decide := true) (maxSteps := 10000000) [Try.f28, g1, g2]
end Go.Pv.Bs

/- anamnesisref09.Find: what it answers, in plain words. -/
namespace Go.Pv.Bs
open Go Go.Proofs
theorem rf_in (c s n : Int) (l : List Int) (o : List GObj) (p q e f : Int) (g : List Int) (t : ByteArray) (y z : Int) (hl : l.length ≤ big) (k : Nat) (hk2 : 2 * k ≤ l.length + 1) :
    iterO (fun x => s0_R09_find c s n l o p q e f g t y z x) ((2 * k : Nat) : Int) = match scan (l.drop (2 * k)) s with
      | some x => some (.inl (x, 0))
      | none => some (.inr ()) := by
  unfold big at hl
  generalize hm : l.length - 2 * k = m
  induction m using Nat.strongRecOn generalizing k with
  | ind m ih =>
    by_cases h : 2 * k + 1 < l.length
    · rw [scan_step l s k h]
      have e1 : w64 (((2 * k : Nat) : Int) + 1) = ((2 * k + 1 : Nat) : Int) := by rw [w64_id (by omega) (by omega)]; omega
      have e2 : w64 (((2 * k : Nat) : Int) + 2) = ((2 * (k + 1) : Nat) : Int) := by rw [w64_id (by omega) (by omega)]; omega
      have e3 : atI l ((2 * k : Nat) : Int) = l[2 * k] := atI_nat l _ (by omega)
      have e4 : atI l ((2 * k + 1 : Nat) : Int) = l[2 * k + 1] := atI_nat l _ h
      by_cases hk : l[2 * k] = s
      · rw [if_pos hk]
        refine iterO_stop ?_
        simp only [s0_R09_find, e1, e3, e4]
        rw [if_pos (by omega), if_pos (by omega), if_pos hk, if_pos (by omega)]
      · rw [if_neg hk, ← ih (l.length - 2 * (k + 1)) (by omega) (k + 1) (by omega) rfl]
        refine iterO_step ?_
        simp only [s0_R09_find, e1, e2, e3]
        rw [if_pos (by omega), if_pos (by omega), if_neg hk]
    · rw [scan_stop l s k h]
      refine iterO_stop ?_
      simp only [s0_R09_find]
      rw [w64_id (by omega) (by omega), if_neg (by omega)]
theorem cls_top {h : GHeap} {i : Nat} (hs : (objP h (atI (atN h.Objs i).Slots 0)).isSome = true) : topP (atI (atN h.Objs i).Slots 0) = true ↔ atI (atN h.Objs i).Slots 0 = 0 := by
  obtain ⟨o, ho⟩ := Option.isSome_iff_exists.1 hs
  obtain ⟨j, h1, _, _⟩ := objP_some.1 ho
  have h2 := atv_some.1 h1
  unfold topP atP
  rw [h1]
  simp only [decide_eq_true_eq]
  omega
theorem find_row {h : GHeap} (hs : Slim h) (d : Int) : (prP h d).1.length ≤ big := by
  unfold prP
  split
  · simp
  · rename_i o ho
    obtain ⟨i, _, h2, rfl⟩ := objP_some.1 ho
    have := hs.2 _ (atN_mem h2)
    split
    · simp
    · split
      · show (atN h.Objs i).Slots.length ≤ big; omega
      · simp
theorem find_eq (h : GHeap) (hs : Slim h) (hb : BitsR h) (ok : OkHeap h) (s : Int) : ∀ (n : Nat) (c : Int), n < 64 →
    cO Try.prog loreB 43 [D.agg [D.t (T.sl 6 (els h.Objs)), I h.Cap, I h.Last], I c, I s, I ((n + 1 : Nat) : Int)] [] =
      some (.val (D.tup [I (findR (upR (clsP h) (slotP h 0) topP (goesF h s) (n + 1) c) (fun i => (prP h (slotP h 1 i)).1) s).1, I (findR (upR (clsP h) (slotP h 0) topP (goesF h s) (n + 1) c) (fun i => (prP h (slotP h 1 i)).1) s).2.1, I (findR (upR (clsP h) (slotP h 0) topP (goesF h s) (n + 1) c) (fun i => (prP h (slotP h 1 i)).1) s).2.2]), []) := by
  intro n
  induction n with
  | zero =>
    intro c _
    have fm := R09_May_eq h hs hb c
    rw [dec_true ok, Bool.true_and] at fm
    unfold upR
    by_cases hc : clsP h c = true
    case neg =>
      have hc' : clsP h c = false := by simpa using hc
      rw [hc'] at fm
      rw [if_neg hc, if_neg (by simp [goesF])]
      exact rf0 _ _ _ _ _ _ fm
    rw [hc] at fm
    obtain ⟨i, h1, h2, h3, h4, h5, h6, h7, h8⟩ := clsP_ref hc
    have ho : objP h c = some (atN h.Objs i) := objP_some.2 ⟨i, h1, h2, rfl⟩
    have hs0 : slotP h 0 c = atI (atN h.Objs i).Slots 0 := by unfold slotP; rw [ho]
    have hs1 : slotP h 1 c = atI (atN h.Objs i).Slots 1 := by unfold slotP; rw [ho]
    have fi : F_R03_Ref h c = some (i : Int) := by rw [R03_Ref_eq]; unfold refI GHeap.n; rw [h1]; simp [h2]
    have fp : F_R09_pairs h (atI (atI h.Objs (i : Int)).Slots 1) = some (prP h (slotP h 1 c)) := by rw [R09_pairs_eq, hs1]; rfl
    have l1 : (1 : Int) < ((atI h.Objs (i : Int)).Slots.length : Int) := by rw [atI_cast]; omega
    have l0 : (0 : Nat) < (atI h.Objs (i : Int)).Slots.length := by rw [atI_cast]; omega
    have hin := rf_in c s 1 (prP h (slotP h 1 c)).1 h.Objs h.Cap h.Last (atI h.Objs (i : Int)).Class (atI h.Objs (i : Int)).Kind (atI h.Objs (i : Int)).Slots (atI h.Objs (i : Int)).Text (atI h.Objs (i : Int)).Bits (atI h.Objs (i : Int)).Hash (find_row hs _) 0 (by omega)
    rw [if_pos hc]
    cases e : scan (prP h (slotP h 1 c)).1 s with
    | some v =>
      rw [if_neg (by simp [goesF, e])]
      rw [show ((prP h (slotP h 1 c)).1.drop (2 * 0)) = (prP h (slotP h 1 c)).1 from rfl, e] at hin
      have := rfH h.Objs h.Cap h.Last c s 1 (i : Int) _ _ v 0 fm fi (by omega) (by omega) l1 fp l0 hin
      unfold findR
      dsimp only
      rw [e]
      exact this
    | none =>
      rw [if_pos (by simp [goesF, e])]
      rw [show ((prP h (slotP h 1 c)).1.drop (2 * 0)) = (prP h (slotP h 1 c)).1 from rfl, e] at hin
      have hz : (if topP (slotP h 0 c) = true then none else upR (clsP h) (slotP h 0) topP (goesF h s) 0 (slotP h 0 c)) = (none : Option (Int × Bool)) := by split <;> rfl
      rw [hz]
      by_cases h0 : atI (atI h.Objs (i : Int)).Slots 0 = 0
      · exact rfE h.Objs h.Cap h.Last c s 1 (i : Int) _ _ fm fi (by omega) (by omega) l1 fp l0 hin h0
      · exact rfN h.Objs h.Cap h.Last c s (i : Int) _ _ fm fi (by omega) (by omega) l1 fp l0 hin h0
  | succ n ih =>
    intro c hn
    have fm := R09_May_eq h hs hb c
    rw [dec_true ok, Bool.true_and] at fm
    rw [upR]
    by_cases hc : clsP h c = true
    case neg =>
      have hc' : clsP h c = false := by simpa using hc
      rw [hc'] at fm
      rw [if_neg hc, if_neg (by simp [goesF])]
      exact rf0 _ _ _ _ _ _ fm
    rw [hc] at fm
    obtain ⟨i, h1, h2, h3, h4, h5, h6, h7, h8⟩ := clsP_ref hc
    have ho : objP h c = some (atN h.Objs i) := objP_some.2 ⟨i, h1, h2, rfl⟩
    have hs0 : slotP h 0 c = atI (atN h.Objs i).Slots 0 := by unfold slotP; rw [ho]
    have hs1 : slotP h 1 c = atI (atN h.Objs i).Slots 1 := by unfold slotP; rw [ho]
    have fi : F_R03_Ref h c = some (i : Int) := by rw [R03_Ref_eq]; unfold refI GHeap.n; rw [h1]; simp [h2]
    have fp : F_R09_pairs h (atI (atI h.Objs (i : Int)).Slots 1) = some (prP h (slotP h 1 c)) := by rw [R09_pairs_eq, hs1]; rfl
    have l1 : (1 : Int) < ((atI h.Objs (i : Int)).Slots.length : Int) := by rw [atI_cast]; omega
    have l0 : (0 : Nat) < (atI h.Objs (i : Int)).Slots.length := by rw [atI_cast]; omega
    have hin := rf_in c s ((n + 1 + 1 : Nat) : Int) (prP h (slotP h 1 c)).1 h.Objs h.Cap h.Last (atI h.Objs (i : Int)).Class (atI h.Objs (i : Int)).Kind (atI h.Objs (i : Int)).Slots (atI h.Objs (i : Int)).Text (atI h.Objs (i : Int)).Bits (atI h.Objs (i : Int)).Hash (find_row hs _) 0 (by omega)
    rw [if_pos hc]
    cases e : scan (prP h (slotP h 1 c)).1 s with
    | some v =>
      rw [if_neg (by simp [goesF, e])]
      rw [show ((prP h (slotP h 1 c)).1.drop (2 * 0)) = (prP h (slotP h 1 c)).1 from rfl, e] at hin
      have := rfH h.Objs h.Cap h.Last c s ((n + 1 + 1 : Nat) : Int) (i : Int) _ _ v 0 fm fi (by omega) (by omega) l1 fp l0 hin
      unfold findR
      dsimp only
      rw [e]
      exact this
    | none =>
      rw [if_pos (by simp [goesF, e])]
      rw [show ((prP h (slotP h 1 c)).1.drop (2 * 0)) = (prP h (slotP h 1 c)).1 from rfl, e] at hin
      have ht := cls_top (h := h) (i := i) h7
      rw [← hs0] at ht
      have hsl : slotP h 0 c = atI (atI h.Objs (i : Int)).Slots 0 := hs0
      by_cases h0 : atI (atI h.Objs (i : Int)).Slots 0 = 0
      · rw [if_pos (ht.2 (hs0.trans h0))]
        exact rfE h.Objs h.Cap h.Last c s ((n + 1 + 1 : Nat) : Int) (i : Int) _ _ fm fi (by omega) (by omega) l1 fp l0 hin h0
      · rw [if_neg (fun k => h0 (hs0.symm.trans (ht.1 k)))]
        have r := ih (slotP h 0 c) (by omega)
        rw [hsl] at r ⊢
        exact rfR h.Objs h.Cap h.Last c s ((n + 1 + 1 : Nat) : Int) (i : Int) _ _ ((n + 1 : Nat) : Int) _ _ _ fm fi (by omega) (by omega) l1 fp l0 hin h0 (by omega) (by rw [w64_id (by omega) (by omega)]; omega) r
theorem R09_Find_eq (h : GHeap) (hs : Slim h) (hb : BitsR h) (c s : Int) :
    cO Try.prog loreB 28 [D.agg [D.t (T.sl 6 (els h.Objs)), I h.Cap, I h.Last], I c, I s] [] = some (.val (D.tup [I (findP h c s).1, I (findP h c s).2.1, I (findP h c s).2.2]), []) := by
  have fm := R03_May_eq h hs hb
  by_cases ok : OkHeap h
  · rw [dec_true ok] at fm
    rw [findP_eq (by rw [okHeapB_eq, dec_true ok])]
    exact rF1 _ _ _ _ _ _ _ _ fm (find_eq h hs hb ok s 63 c (by omega))
  · rw [dec_false ok] at fm
    have : findP h c s = (0, 0, 1) := by unfold findP; rw [if_neg (by rw [okHeapB_eq, dec_false ok]; simp)]
    rw [this]
    exact rF0 _ _ _ _ _ fm
end Go.Pv.Bs

/- look.Find, look.Under: what is told of them is so. -/
namespace Go.Pv
open Go Go.Proofs Go.RowKit
set_option linter.unusedVariables false
theorem HA.of {B fr : Nat} {G : Gh} {vr : Pl → Nat} {w : World} {p : Ap} {u : Value} {h : GHeap} (hv : VD B fr G vr w p u (.agg [.t (.sl 6 (els h.Objs)), I h.Cap, I h.Last])) : ∃ u0, u = .agg #[u0, .int .i64 h.Cap, .int .i64 h.Last] ∧ Bs.HA w u h := by
  cases hv with
  | agg _ us _ hs h1 hh =>
    obtain ⟨us⟩ := us
    match us, hs with
    | [a, b, c], _ =>
      have h0 := VD.data (hh 0 a _ rfl rfl)
      have h1 := (hh 1 b _ rfl rfl).sc
      have h2 := (hh 2 c _ rfl rfl).sc
      subst h1 h2
      exact ⟨a, rfl, a, rfl, h0⟩
theorem add_flat (b o k : Nat) : (⟨b, o, none⟩ : Addr).add k = ⟨b, o + k, none⟩ := by
  unfold Addr.add
  by_cases h : k = 0
  · subst h; rfl
  · rw [if_neg h]
theorem objP_mem {h : GHeap} {c : Int} {o : GObj} (e : objP h c = some o) : o ∈ h.Objs := by
  unfold objP at e
  split at e
  · split at e
    · rename_i i _ hl
      cases e
      rw [atN, List.getD_eq_getElem?_getD, List.getElem?_eq_getElem hl]
      exact List.getElem_mem hl
    · cases e
  · cases e
theorem clsP_obj {h : GHeap} {c : Int} (e : clsP h c = true) : ∃ o, objP h c = some o ∧ o.Kind = 0 ∧ 3 ≤ o.Slots.length := by
  unfold clsP at e
  split at e
  · cases e
  · rename_i o ho
    split at e
    · rename_i hk
      split at e
      · cases e
      · exact ⟨o, ho, hk, by omega⟩
    · cases e
theorem prP_len {h : GHeap} (hs : Slim h) (v : Int) : (prP h v).1.length ≤ 1099511627776 := by
  unfold prP
  split
  · simp
  · rename_i o ho
    have := hs.2 o (objP_mem ho)
    unfold big at this
    split
    · simp
    · split
      · show o.Slots.length ≤ _; omega
      · simp
theorem num_row {w : World} {l : Value} {xs : List Int} (h : RA w l (.sl 1 (els xs))) : NumRow w l xs := by
  cases h with
  | sl A n cap sz es f hn hc hz hA hR =>
    refine ⟨A, cap, ?_, fun hne => ?_⟩
    · rw [hn, els_len]
    · obtain ⟨a, rfl, _, hcell⟩ := hA (by cases xs with | nil => exact absurd rfl hne | cons _ _ => exact fun e => by cases e)
      have hx : ∀ k x, xs[k]? = some x → w.cell? (a.add k) = some (.int .i64 x) := fun k x hk => by
        have h1 := hcell k _ 0 _ (by show (els xs)[k]? = some [T.sc (.int .i64 x)]; simp [els, hk]) rfl
        have h2 := hR k _ 0 _ (by show (els xs)[k]? = some [T.sc (.int .i64 x)]; simp [els, hk]) rfl
        rw [show k * 1 + 0 = k by omega] at h1
        generalize f k 0 = u at h1 h2
        cases h2 with
        | sc v h => exact h1
      obtain ⟨b, o, s⟩ := a
      have hs : s = none := by
        cases xs with
        | nil => exact absurd rfl hne
        | cons x r =>
          exact World.cell?_spot (hx 0 x rfl)
      subst hs
      exact ⟨b, o, rfl, fun k x hk => by have := hx k x hk; rwa [add_flat] at this⟩
theorem vd_int {B fr : Nat} {G : Gh} {vr : Pl → Nat} {w : World} {p : Ap} (n : Int) : VD B fr G vr w p (.int .i64 n) (I n) := VD.scal rfl
theorem base_calls {w : World} {u : Value} {h : GHeap} (H : Bs.HA w u h) (hs : Slim h) :
    (∀ W, Below w.heap.size w W → Calls Try.prog 34 #[u] W fun e W' => e = .returned (.bool (okHeapB h)) ∧ Below W.heap.size W W') ∧
    (∀ i W, Below w.heap.size w W → Calls Try.prog 46 #[u, .int .i64 i] W fun e W' => e = .returned (.bool (clsP h i)) ∧ Below W.heap.size W W') ∧
    (∀ i W, Below w.heap.size w W → clsP h i = true → Calls Try.prog 37 #[u, .int .i64 i] W fun e W' => ∃ (B o B' o' m k : Nat), e = .returned (.pointer (some ⟨B, o, none⟩)) ∧ Below W.heap.size W W' ∧
      W'.cell? ⟨B, o + 2, none⟩ = some (.slice (some ⟨B', o', none⟩) (m + 1 + 1) k) ∧ W'.cell? ⟨B', o', none⟩ = some (.int .i64 (slotP h 0 i)) ∧ W'.cell? ⟨B', o' + 1, none⟩ = some (.int .i64 (slotP h 1 i))) ∧
    (∀ v W, Below w.heap.size w W → Calls Try.prog 36 #[u, .int .i64 v] W fun e W' => ∃ l b, e = .returned (.tuple #[l, .bool b]) ∧ Below W.heap.size W W' ∧ NumRow W' l (prP h v).1) ∧
    (∀ i W, Calls Try.prog 53 #[.int .i64 i] W fun e W' => (∃ j b, e = .returned (.tuple #[.int .i64 j, .bool b]) ∧ (j = 0 ↔ topP i = true)) ∧ Below W.heap.size W W') := by
  refine ⟨fun W hb => Bs.may_any (H.below hb) _ (by rw [Bs.heap_May_eq h hs, okHeapB_eq]), fun i W hb => Bs.class_any (H.below hb) i, fun i W hb hc => ?_, fun v W hb => ?_, fun i W => ?_⟩
  · obtain ⟨o, ho, _, hl⟩ := clsP_obj hc
    refine (Bs.object_any (H.below hb) i o ho).mono ?_
    rintro e W' ⟨a, rfl, hb', hr⟩
    cases hr with
    | pt _ _ f hok hcell hR =>
      have c2 := hcell 2 (.sl 1 (els o.Slots)) rfl
      have r2 := hR 2 (.sl 1 (els o.Slots)) rfl
      obtain ⟨A, cap, e2, hA⟩ := num_row r2
      obtain ⟨B', o', rfl, hn⟩ := hA (fun e => by rw [e] at hl; simp at hl)
      obtain ⟨b, p, s⟩ := a
      have hsn : s = none := World.cell?_spot (hcell 0 _ rfl)
      subst hsn
      refine ⟨b, p, B', o', o.Slots.length - 2, cap, rfl, hb', ?_, ?_, ?_⟩
      · rw [← add_flat, c2, e2, show o.Slots.length - 2 + 1 + 1 = o.Slots.length by omega]
      · have := hn 0 o.Slots[0] (List.getElem?_eq_getElem (by omega))
        unfold slotP
        rw [ho]
        show _ = some (Value.int .i64 (atI o.Slots 0))
        rw [show atI o.Slots 0 = o.Slots[0] from atI_nat o.Slots 0 (by omega)]
        exact this
      · have := hn 1 o.Slots[1] (List.getElem?_eq_getElem (by omega))
        unfold slotP
        rw [ho]
        show _ = some (Value.int .i64 (atI o.Slots 1))
        rw [show atI o.Slots 1 = o.Slots[1] from atI_nat o.Slots 1 (by omega)]
        exact this
  · refine (Bs.pairs_any (H.below hb) v).mono ?_
    rintro e W' ⟨l, rfl, hb', hr⟩
    exact ⟨l, _, rfl, hb', num_row hr⟩
  · refine (Bs.at_any i).mono ?_
    rintro e W' ⟨rfl, hb'⟩
    exact ⟨⟨_, _, rfl, by unfold topP; simp⟩, hb'⟩
theorem args3 {B fr : Nat} {G : Gh} {w : World} {vs : Array Value} {a : D} {c s : Int} (hlen : vs.size = 3)
    (hargs : ∀ (i : Nat) u d, vs[i]? = some u → [a, I c, I s][i]? = some d → d.hasOwn = false ∧ VD B fr G vr0 w (.pn fr i []) u d) : ∃ u, vs = #[u, .int .i64 c, .int .i64 s] ∧ VD B fr G vr0 w (.pn fr 0 []) u a := by
  obtain ⟨vs⟩ := vs
  match vs, hlen with
  | [x, y, z], _ =>
    have h0 := (hargs 0 x _ rfl rfl).2
    have h1 := (hargs 1 y _ rfl rfl).2.sc
    have h2 := (hargs 2 z _ rfl rfl).2.sc
    subst h1 h2
    exact ⟨x, rfl, h0⟩
theorem find_told : ∀ ds d, findS ds = some d → ∀ B G frs w (vs : Array Value), FrS B G frs w → vs.size = ds.length →
    (∀ (i : Nat) u d, vs[i]? = some u → ds[i]? = some d → d.hasOwn = false ∧ VD B frs.length G vr0 w (.pn frs.length i []) u d) →
    d.outOk = true ∧ Calls Try.prog 14 vs w fun out w' => ∃ v G', out = .returned v ∧ FrS B G' frs w' ∧ Step frs.length G w G' w' ∧ VD B frs.length G' vr0 w' (.pn frs.length 0 []) v d := by
  intro ds d hs B G frs w vs F hlen hargs
  unfold findS at hs
  split at hs
  · rename_i hd c s
    split at hs
    · rename_i h he
      cases hs
      obtain ⟨rfl, hsl⟩ := decH_ok he
      obtain ⟨u, rfl, hu⟩ := args3 hlen hargs
      obtain ⟨u0, rfl, H⟩ := HA.of hu
      obtain ⟨b1, b2, b3, b4, b5⟩ := base_calls H hsl
      refine ⟨rfl, (find_in u0 _ _ c s w (okHeapB h) (clsP h) (slotP h 0) (slotP h 1) topP (fun v => (prP h v).1) b1 b2 b3 b4 (prP_len hsl) b5).mono ?_⟩
      rintro out w' ⟨p, rfl, rfl, hb⟩
      obtain ⟨F', S'⟩ := frs_below F hb
      refine ⟨_, G, rfl, F', S', ?_⟩
      refine .tup _ _ _ rfl fun i u d hu hd => ?_
      match i, hu, hd with
      | 0, hu, hd => cases hu; cases hd; exact vd_int _
      | 1, hu, hd => cases hu; cases hd; exact vd_int _
      | 2, hu, hd => cases hu; cases hd; exact vd_int _
      | i + 3, hu, hd => simp at hd
    · cases hs
  · cases hs
theorem under_told : ∀ ds d, underS ds = some d → ∀ B G frs w (vs : Array Value), FrS B G frs w → vs.size = ds.length →
    (∀ (i : Nat) u d, vs[i]? = some u → ds[i]? = some d → d.hasOwn = false ∧ VD B frs.length G vr0 w (.pn frs.length i []) u d) →
    d.outOk = true ∧ Calls Try.prog 15 vs w fun out w' => ∃ v G', out = .returned v ∧ FrS B G' frs w' ∧ Step frs.length G w G' w' ∧ VD B frs.length G' vr0 w' (.pn frs.length 0 []) v d := by
  intro ds d hs B G frs w vs F hlen hargs
  unfold underS at hs
  split at hs
  · rename_i hd c s
    split at hs
    · rename_i h he
      cases hs
      obtain ⟨rfl, hsl⟩ := decH_ok he
      obtain ⟨u, rfl, hu⟩ := args3 hlen hargs
      obtain ⟨u0, rfl, H⟩ := HA.of hu
      obtain ⟨b1, b2, b3, b4, b5⟩ := base_calls H hsl
      refine ⟨rfl, (under_in u0 _ _ c s w (okHeapB h) (clsP h) (slotP h 0) topP b1 b2 (fun i W hb hc => (b3 i W hb hc).mono ?_) b5).mono ?_⟩
      · rintro e W' ⟨B, o, B', o', m, k, h1, h2, h3, h4, h5⟩
        exact ⟨B, o, B', o', m + 1, k, h1, h2, h3, h4⟩
      · rintro out w' ⟨rfl, hb⟩
        obtain ⟨F', S'⟩ := frs_below F hb
        exact ⟨_, G, rfl, F', S', VD.scal rfl⟩
    · cases hs
  · cases hs
end Go.Pv
