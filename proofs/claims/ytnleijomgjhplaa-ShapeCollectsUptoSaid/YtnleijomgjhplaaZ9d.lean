/- A part of the road: the interpreter of plain data and the proof that it is right. -/
import Derived.Test.YtnleijomgjhplaaQ9d
import Derived.Test.YtnleijomgjhplaaX9d
import Derived.Test.YtnleijomgjhplaaL9d
set_option linter.unusedVariables false
set_option linter.unusedSimpArgs false
/- States: what is collected. -/
namespace Go.Pv
open Go Go.Proofs
theorem coll_at {s : GState} (o : OkState s) {i : Nat} (hi : i < 12) (h1 : i < (collT s).Heap.Objs.length) (h2 : i < s.Heap.Objs.length) : (collT s).Heap.Objs[i].Hash = s.Heap.Objs[i].Hash ∧ (collT s).Heap.Objs[i].Kind = s.Heap.Objs[i].Kind := by
  have hl := liveT_len o
  have e : (collT s).Heap.Objs = (liveT s).map fun i => (atN s.Heap.Objs i).by (liveT s) := rfl
  have hg : (liveT s)[i]'(by omega) = i := by
    have := liveT_get o hi
    rwa [List.getD_eq_getElem?_getD, List.getElem?_eq_getElem (by omega), Option.getD_some] at this
  have e2 : (collT s).Heap.Objs[i] = (atN s.Heap.Objs i).by (liveT s) := by
    have : ((liveT s).map fun i => (atN s.Heap.Objs i).by (liveT s))[i]'(by rw [List.length_map]; omega) = (atN s.Heap.Objs i).by (liveT s) := by
      rw [List.getElem_map, hg]
    exact this
  rw [e2, atN_get _ i h2]
  exact ⟨rfl, rfl⟩
theorem shapeCollects (s : GState) (hs : Slim s.Heap) (hb : BitsR s.Heap) : F_L15_ShapeCollects s = some true := by
  unfold F_L15_ShapeCollects
  obtain ⟨b, hb1⟩ := R03_Small_ex s.Heap hs.1
  rw [hb1, ob_some]
  cases b with
  | false => rw [if_neg (by simp)]
  | true =>
  rw [if_pos rfl]
  by_cases h2 : (s.Heap.Objs.length : Int) ≤ 60
  case neg => rw [if_neg h2]
  rw [if_pos h2, R15_Check_eq s hs hb, ob_some]
  by_cases o : OkState s
  case neg => rw [if_neg fun e => o (stateE_zero.1 e)]
  have ok := collT_ok o
  have slc := coll_slim hs o
  have bic := coll_bits (s := s) hb
  have h12 := liveT_len o
  have hcl : (collT s).Heap.Objs.length = (liveT s).length := by_n s.Heap (liveT s)
  have hm := o.many
  have c1 : collS s = (collT s, 0) := by unfold collS; rw [dec_true o, if_pos rfl]
  have c2 : collS (collT s) = (collT s, 0) := by unfold collS; rw [dec_true ok, if_pos rfl, collT_again o]
  have same : sameTB (collT s) s = true := sameTB_iff.2 (SameT.coll o).flip
  have hro := roots_rootsB ok
  have lv : liveS (collT s).Heap (rootsT (collT s)) = (liveI (collT s).Heap (rootsT (collT s)), 0) := by
    unfold liveS
    rw [dec_true ok.heap, if_pos rfl, if_pos hro]
  have hll : (liveI (collT s).Heap (rootsT (collT s))).length = (collT s).Heap.Objs.length := by
    have e : liveT (collT s) = List.range (liveT s).length := liveT_coll o
    unfold liveT at e
    unfold liveI
    rw [List.length_map, e, List.length_range, hcl]
    rfl
  rw [if_pos (stateE_zero.2 o), shape_Collect_eq s hs, ob_some, c1]
  simp only [if_true]
  rw [R15_Check_eq _ slc bic, ob_some, if_pos (stateE_zero.2 ok), R15_Same_eq _ _ slc bic hs hb, ob_some, if_pos same, shape_Same_eq _ _ slc hs, ob_some, same, if_neg (by simp), R15_Roots_eq _ slc bic, dec_true ok, if_pos rfl, ob_some, R04_Live_eq _ _ slc bic (by simp [rootsT, firsts, big]), ob_some, lv]
  obtain ⟨t, ht, hh⟩ := iter_allI 12 (fun _ => true) (S := fun p => s0_L15_ShapeCollects (liveI (collT s).Heap (rootsT (collT s))) s.Heap.Objs s.Heap.Cap s.Heap.Last s.Proc s.Ready s.Halt s.Steps s.Used (collT s).Heap.Objs (collT s).Heap.Cap (collT s).Heap.Last (collT s).Proc (collT s).Ready (collT s).Halt (collT s).Steps (collT s).Used p) (fun _ => false) (fun k hk => by
    have k1 : k < (collT s).Heap.Objs.length := by omega
    have k2 : k < s.Heap.Objs.length := by omega
    obtain ⟨e1, e2⟩ := coll_at o hk k1 k2
    simp only [s0_L15_ShapeCollects, atI_nat _ k k1, atI_nat _ k k2]
    rw [if_pos (by omega), if_pos (by omega), if_pos (by omega), if_pos e1, if_pos (by omega), if_pos (by omega), if_pos e2, w64_id (by omega) (by omega)]
    rfl) (by simp [s0_L15_ShapeCollects])
  simp only
  rw [ht, ob_some]
  cases t with
  | inl b => obtain ⟨k, _, _, hf, _⟩ := hh; cases hf
  | inr u =>
    rw [sm_inr, shape_Collect_eq _ slc, ob_some, c2, if_pos (by rw [hll])]
    simp only [if_true]
    rw [R15_One_eq _ _ slc, ob_some]
    simp
end Go.Pv

/- The law, of data. -/
namespace Go.Pv
open Go Go.Proofs
theorem law_shapeCollects (x : shT.den) (hx : shT.wf x) (hk : shT.bulk x ≤ 1048576) : cO Try.prog lore 28 (argDs shT x) [] = some (.val (Bo true), []) := by
  obtain ⟨s, u⟩ := x
  have h3 : stateT.bulk s + 0 ≤ 1048576 := hk
  obtain ⟨a1, a2⟩ := state_small s hx.1 (by omega)
  refine cs1 (argD_state s) ?_
  exact (f_L15_ShapeCollects (toState s).Heap.Objs (toState s).Heap.Cap (toState s).Heap.Last (toState s).Proc (toState s).Ready (toState s).Halt (toState s).Steps (toState s).Used).trans
    ((congrArg (fun o => ob o fun r : Bool => some (Res.val (D.t (T.sc (Value.bool r))), ([] : Frames))) (shapeCollects (toState s) a1 a2)).trans rfl)
end Go.Pv
