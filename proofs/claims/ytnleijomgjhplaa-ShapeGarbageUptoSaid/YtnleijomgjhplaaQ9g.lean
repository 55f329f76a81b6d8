/- A part of the road: the interpreter of plain data and the proof that it is right. -/
import Derived.Test.YtnleijomgjhplaaP9g
import Derived.Test.YtnleijomgjhplaaM9g
import Derived.Test.YtnleijomgjhplaaT9g
import Derived.Test.YtnleijomgjhplaaK
import Derived.Test.YtnleijomgjhplaaH9g
import Derived.Test.YtnleijomgjhplaaGg
set_option linter.unusedVariables false
set_option linter.unusedSimpArgs false
namespace Go.Pv
open Go Go.Proofs
set_option maxRecDepth 100000
set_option maxHeartbeats 0
set_option linter.unusedSimpArgs false
set_option linter.unusedVariables false
theorem fixed83_run  (s_0 : List GObj) (s_1 s_2 : Int) (s_3 s_4 s_5 s_6 s_7 : Int) (c_0 : List GObj) (c_1 c_2 : Int) (c_3 c_4 c_5 c_6 c_7 : Int) (l : List Int) (g1 : F_L15_twelve = some ({ Heap := ({ Objs := s_0, Cap := s_1, Last := s_2 : GHeap }), Proc := s_3, Ready := s_4, Halt := s_5, Steps := s_6, Used := s_7 : GState })) (g2 : F_shape_Collect ({ Heap := ({ Objs := s_0, Cap := s_1, Last := s_2 : GHeap }), Proc := s_3, Ready := s_4, Halt := s_5, Steps := s_6, Used := s_7 : GState }) = some (({ Heap := ({ Objs := c_0, Cap := c_1, Last := c_2 : GHeap }), Proc := 24, Ready := c_4, Halt := c_5, Steps := c_6, Used := c_7 : GState }), 0)) (g3 : F_shape_Collect ({ Heap := { Objs := [], Cap := 0, Last := 0 : GHeap }, Proc := 0, Ready := 0, Halt := 0, Steps := 0, Used := 0 : GState }) = some (({ Heap := { Objs := [], Cap := 0, Last := 0 : GHeap }, Proc := 0, Ready := 0, Halt := 0, Steps := 0, Used := 0 : GState }), 150)) (g4 : F_shape_Check ({ Heap := ({ Objs := s_0, Cap := s_1, Last := s_2 : GHeap }), Proc := s_3, Ready := s_4, Halt := s_5, Steps := s_6, Used := s_7 : GState }) = some 0) (g5 : F_shape_Check ({ Heap := ({ Objs := s_0, Cap := s_1, Last := s_2 : GHeap }), Proc := s_3, Ready := s_4, Halt := s_5, Steps := (-1), Used := s_7 : GState }) = some 150) (g6 : (c_0.length : Int) = 13) (g7 : (atI c_0 12).Hash = 13) (g8 : F_shape_Same ({ Heap := ({ Objs := s_0, Cap := s_1, Last := s_2 : GHeap }), Proc := s_3, Ready := s_4, Halt := s_5, Steps := s_6, Used := s_7 : GState }) ({ Heap := ({ Objs := c_0, Cap := c_1, Last := c_2 : GHeap }), Proc := 24, Ready := c_4, Halt := c_5, Steps := c_6, Used := c_7 : GState }) = some true) (g9 : F_shape_Same ({ Heap := ({ Objs := s_0, Cap := s_1, Last := s_2 : GHeap }), Proc := s_3, Ready := s_4, Halt := s_5, Steps := s_6, Used := s_7 : GState }) ({ Heap := ({ Objs := s_0, Cap := s_1, Last := s_2 : GHeap }), Proc := s_3, Ready := s_4, Halt := s_5, Steps := (-1), Used := s_7 : GState }) = some false) (g10 : F_shape_Roots ({ Heap := ({ Objs := s_0, Cap := s_1, Last := s_2 : GHeap }), Proc := s_3, Ready := s_4, Halt := s_5, Steps := s_6, Used := s_7 : GState }) = some l) (g11 : (l.length : Int) = 14) (g12 : F_shape_Roots ({ Heap := ({ Objs := s_0, Cap := s_1, Last := s_2 : GHeap }), Proc := s_3, Ready := s_4, Halt := s_5, Steps := (-1), Used := s_7 : GState }) = some []) :
    cO Try.prog lore 83 [] [] = some (.val (Bo true), []) := by
  rw [cO_eq (R := lore) rfl Try.func83 rfl]
  show wrapThen h83.res (endThen Try.prog h83.shr _ (eO Try.prog h83 (cO Try.prog lore) _ _)) = _
  simp (decide := true) (maxSteps := 10000000) [Try.f83, g1, g2, g3, g4, g5, g6, g7, g8, g9, g10, g11, g12]
end Go.Pv

/- States: the program's and the document's functions in plain words. -/
namespace Go.Pv
def SlimS (s : GState) : Prop := Slim s.Heap ∧ BitsR s.Heap
def SlimP (p : GPoints) : Prop := p.L.length ≤ big ∧ ∀ s ∈ p.L, SlimS s
theorem shape_there_eq (s : GState) (v : Int) : F_shape_there s v = some (decide (0 ≤ refI s.Heap.n v)) := by
  unfold F_shape_there
  rw [value_At_eq, ob_some, ref_atP]
  unfold GHeap.n
  cases (atP v).2 <;> simp
theorem shape_in_eq (n m : Int) : F_shape_in n m = some (decide (0 ≤ n ∧ n ≤ m)) := by
  unfold F_shape_in
  by_cases h : 0 ≤ n <;> simp [h]
theorem shape_may_eq (s : GState) (hs : Slim s.Heap) : F_shape_may s = some (dec (OkState s)) := by
  unfold F_shape_may
  rw [heap_May_eq s.Heap hs, ob_some]
  by_cases h0 : OkHeap s.Heap
  case neg => rw [dec_false h0, dec_false fun k => h0 k.heap]; simp
  rw [dec_true h0, if_pos rfl]
  by_cases h1 : (12 : Int) ≤ s.Heap.Objs.length
  case neg => rw [if_neg h1, dec_false fun k => h1 (by have := k.many; omega)]
  rw [if_pos h1, shape_there_eq, ob_some]
  by_cases h2 : 0 ≤ refI s.Heap.n s.Proc
  case neg => rw [decide_eq_false h2, dec_false fun k => h2 k.proc]; simp
  rw [decide_eq_true h2, if_pos rfl, shape_there_eq, ob_some]
  by_cases h3 : 0 ≤ refI s.Heap.n s.Ready
  case neg => rw [decide_eq_false h3, dec_false fun k => h3 k.ready]; simp
  rw [decide_eq_true h3, if_pos rfl, shape_in_eq, ob_some]
  by_cases h4 : 0 ≤ s.Halt ∧ s.Halt ≤ 255
  case neg => rw [decide_eq_false h4, dec_false fun k => h4 k.halt]; simp
  rw [decide_eq_true h4, if_pos rfl, shape_in_eq, ob_some]
  by_cases h5 : 0 ≤ s.Steps ∧ s.Steps ≤ 1099511627776
  case neg => rw [decide_eq_false h5, dec_false fun k => h5 k.steps]; simp
  rw [decide_eq_true h5, if_pos rfl, shape_in_eq, ob_some]
  by_cases h6 : 0 ≤ s.Used ∧ s.Used ≤ 1000
  case neg => rw [decide_eq_false h6, dec_false fun k => h6 k.used]
  rw [decide_eq_true h6, dec_true ⟨h0, by omega, h2, h3, h4, h5, h6⟩]
theorem shape_Check_eq (s : GState) (hs : Slim s.Heap) : F_shape_Check s = some (stateE s) := by
  unfold F_shape_Check stateE
  rw [shape_may_eq s hs, ob_some]
  cases dec (OkState s) <;> simp
theorem stateE_zero {s : GState} : stateE s = 0 ↔ OkState s := by
  unfold stateE
  cases h : dec (OkState s) with
  | true => simp [dec_iff.1 h]
  | false =>
    have : ¬ OkState s := fun k => by rw [dec_true k] at h; cases h
    simp [this]
theorem shape_Roots_eq (s : GState) (hs : Slim s.Heap) : F_shape_Roots s = some (if dec (OkState s) = true then rootsT s else []) := by
  unfold F_shape_Roots
  rw [shape_may_eq s hs, ob_some]
  cases h : dec (OkState s) with
  | false => rw [if_pos rfl, if_neg (by simp)]
  | true =>
    rw [if_neg (by simp), if_pos rfl]
    have loop := iter_acc (S := fun p : List Int × Int => s0_shape_Roots s.Heap.Objs s.Heap.Cap s.Heap.Last s.Proc s.Ready s.Halt s.Steps s.Used p.fst p.snd) (fun k => ((List.range k).map fun i => 2 * ((i : Nat) : Int), (k : Int))) 12 (b := firsts) (fun k hk => by
      simp only [s0_shape_Roots]
      rw [if_pos (by omega), value_Ref_eq, if_pos (by omega), ob_some, if_pos (by simp; unfold most; omega), w64_id (by omega) (by omega), List.range_succ, List.map_append]
      rfl) (by
      simp only [s0_shape_Roots]
      rw [if_neg (by omega)]
      rfl)
    have loop' : iterO (fun p : List Int × Int => s0_shape_Roots s.Heap.Objs s.Heap.Cap s.Heap.Last s.Proc s.Ready s.Halt s.Steps s.Used p.fst p.snd) ([], (0 : Int)) = some firsts := loop
    rw [loop', ob_some, if_pos (by decide)]
    rfl
def zState : GState := ⟨⟨[], 0, 0⟩, 0, 0, 0, 0, 0⟩
noncomputable def collS (s : GState) : GState × Int := if dec (OkState s) = true then (collT s, 0) else (zState, 150)
theorem roots_rootsB {s : GState} (o : OkState s) : rootsB s.Heap (rootsT s) = true := rootsB_iff.2 o.roots
theorem compS_state {s : GState} (o : OkState s) : compS s.Heap (rootsT s) = (s.Heap.by (liveT s), (rootsT s).map (num (liveT s)), 0) := by
  unfold compS
  rw [dec_true o.heap, if_pos rfl, if_pos (roots_rootsB o)]
  rfl
theorem roots_proc {s : GState} {l : List Nat} : atI ((rootsT s).map (num l)) 12 = num l s.Proc ∧ atI ((rootsT s).map (num l)) 13 = num l s.Ready := ⟨rfl, rfl⟩
theorem shape_Collect_eq (s : GState) (hs : Slim s.Heap) : F_shape_Collect s = some (collS s) := by
  unfold F_shape_Collect collS
  rw [shape_may_eq s hs, ob_some, shape_Roots_eq s hs]
  cases h : dec (OkState s) with
  | false => rw [if_pos rfl, if_neg (by simp)]; rfl
  | true =>
    have o := dec_iff.1 h
    rw [if_neg (by simp), if_pos rfl, if_pos rfl, ob_some, move_Compact_eq _ _ hs (by simp [rootsT, firsts]), ob_some, compS_state o]
    simp only
    rw [if_pos (by simp [rootsT, firsts]), if_pos (by simp [rootsT, firsts]), roots_proc.1, roots_proc.2]
    rfl
open Classical in
noncomputable def sameTB (a b : GState) : Bool := decide (SameT a b)
theorem sameTB_iff {a b : GState} : sameTB a b = true ↔ SameT a b := by unfold sameTB; simp
theorem sameTB_no {a b : GState} (h : ¬ SameT a b) : sameTB a b = false := by
  cases e : sameTB a b with
  | false => rfl
  | true => exact absurd (sameTB_iff.1 e) h
theorem sameC_sameT {a b : GState} (o : OkState a) (o' : OkState b) (h1 : a.Halt = b.Halt) (h2 : a.Steps = b.Steps) (h3 : a.Used = b.Used) : sameC a.Heap (rootsT a) b.Heap (rootsT b) = sameTB a b := by
  rw [Bool.eq_iff_iff, sameC_same o.heap (roots_rootsB o) o'.heap (roots_rootsB o'), sameTB_iff]
  exact ⟨fun h => ⟨o, o', h1, h2, h3, h⟩, fun h => h.heap⟩
theorem shape_Same_eq (a b : GState) (ha : Slim a.Heap) (hb : Slim b.Heap) : F_shape_Same a b = some (sameTB a b) := by
  unfold F_shape_Same
  rw [shape_may_eq a ha, ob_some, shape_may_eq b hb, shape_Roots_eq a ha, shape_Roots_eq b hb]
  cases h1 : dec (OkState a) with
  | false => rw [if_neg (by simp), sameTB_no fun h => by rw [dec_true h.oka] at h1; cases h1]
  | true =>
  rw [if_pos rfl, ob_some]
  cases h2 : dec (OkState b) with
  | false => rw [if_neg (by simp), sameTB_no fun h => by rw [dec_true h.okb] at h2; cases h2]
  | true =>
  have o := dec_iff.1 h1
  have o' := dec_iff.1 h2
  rw [if_pos rfl]
  by_cases k1 : a.Halt = b.Halt
  case neg => rw [if_neg k1, sameTB_no fun h => k1 h.halt]
  by_cases k2 : a.Steps = b.Steps
  case neg => rw [if_pos k1, if_neg k2, sameTB_no fun h => k2 h.steps]
  by_cases k3 : a.Used = b.Used
  case neg => rw [if_pos k1, if_pos k2, if_neg k3, sameTB_no fun h => k3 h.used]
  rw [if_pos k1, if_pos k2, if_pos k3, if_pos rfl, ob_some, if_pos rfl, ob_some, canon_Same_eq _ _ _ _ ha hb (by simp [rootsT, firsts]) (by simp [rootsT, firsts]), ob_some, sameC_sameT o o' k1 k2 k3]
theorem state_ext (a b : GState) : a = b ↔ a.Heap = b.Heap ∧ a.Proc = b.Proc ∧ a.Ready = b.Ready ∧ a.Halt = b.Halt ∧ a.Steps = b.Steps ∧ a.Used = b.Used := by
  cases a; cases b
  simp only [GState.mk.injEq]
theorem R15_One_eq (a b : GState) (ha : Slim a.Heap) : F_R15_One a b = some (decide (a = b)) := by
  unfold F_R15_One
  rw [R03_Same_eq _ _ ha, ob_some]
  by_cases h1 : a.Heap = b.Heap
  case neg => rw [decide_eq_false h1, if_neg (by simp), decide_eq_false fun e => h1 (by rw [e])]
  by_cases h2 : a.Proc = b.Proc
  case neg => rw [decide_eq_true h1, if_pos rfl, if_neg h2, decide_eq_false fun e => h2 (by rw [e])]
  by_cases h3 : a.Ready = b.Ready
  case neg => rw [decide_eq_true h1, if_pos rfl, if_pos h2, if_neg h3, decide_eq_false fun e => h3 (by rw [e])]
  by_cases h4 : a.Halt = b.Halt
  case neg => rw [decide_eq_true h1, if_pos rfl, if_pos h2, if_pos h3, if_neg h4, decide_eq_false fun e => h4 (by rw [e])]
  by_cases h5 : a.Steps = b.Steps
  case neg => rw [decide_eq_true h1, if_pos rfl, if_pos h2, if_pos h3, if_pos h4, if_neg h5, decide_eq_false fun e => h5 (by rw [e])]
  rw [decide_eq_true h1, if_pos rfl, if_pos h2, if_pos h3, if_pos h4, if_pos h5]
  congr 1
  rw [Bool.eq_iff_iff, beq_iff_eq, decide_eq_true_eq, state_ext]
  exact ⟨fun h6 => ⟨h1, h2, h3, h4, h5, h6⟩, fun h => h.2.2.2.2.2⟩
end Go.Pv

/- States: the fixed calls. -/
namespace Go.Pv
open Go Go.Proofs
def o14 : List GObj := (List.range 14).map fun (i : Nat) => { Class := 0, Kind := 0, Slots := [], Text := { data := #[] }, Bits := 0, Hash := (i : Int) }
def s14 : GState := { Heap := { Objs := o14, Cap := 20, Last := 0 }, Proc := 26, Ready := 0, Halt := 0, Steps := 0, Used := 0 }
def s14m : GState := { Heap := { Objs := o14, Cap := 20, Last := 0 }, Proc := 26, Ready := 0, Halt := 0, Steps := -1, Used := 0 }
theorem twelve_eq : F_L15_twelve = some s14 := by
  unfold F_L15_twelve
  have loop := iter_acc (S := fun p : Int × List GObj => s0_L15_twelve [] 0 0 0 0 0 0 0 20 0 26 0 0 0 0 p.fst p.snd) (fun k => ((k : Int), (List.range k).map fun (i : Nat) => ({ Class := 0, Kind := 0, Slots := [], Text := { data := #[] }, Bits := 0, Hash := (i : Int) } : GObj))) 14 (b := o14) (fun k hk => by
    simp only [s0_L15_twelve]
    rw [if_pos (by omega), if_pos (by simp; unfold most; omega), w64_id (by omega) (by omega), List.range_succ, List.map_append]
    rfl) (by
    simp only [s0_L15_twelve]
    rw [if_neg (by omega)]
    rfl)
  have loop' : iterO (fun p : Int × List GObj => s0_L15_twelve [] 0 0 0 0 0 0 0 20 0 26 0 0 0 0 p.fst p.snd) ((0 : Int), []) = some o14 := loop
  rw [loop', ob_some]
  rfl
theorem o14_ok : ∀ o ∈ o14, OkObj 14 o ∧ o.Slots = [] := fun o ho => by
  obtain ⟨i, hi, rfl⟩ := List.mem_map.1 ho
  have := List.mem_range.1 hi
  refine ⟨⟨by show 0 ≤ refI 14 0; decide, by simp, by simp; omega, fun h => absurd rfl h, fun _ => rfl, fun _ => rfl, by simp, Nat.zero_le 64, c00, by simp⟩, rfl⟩
theorem s14_ok : OkState s14 := by
  refine ⟨⟨by decide, by decide, by decide, fun o ho => (o14_ok o ho).1⟩, by decide, by decide, by decide, by decide, by decide, by decide⟩
theorem s14_slim : Slim s14.Heap := ⟨by decide, fun o ho => by
  obtain ⟨h1, h2⟩ := o14_ok o ho
  have := h1.ntext
  rw [h2]
  simp [big]
  omega⟩
set_option maxRecDepth 100000 in
theorem s14_live : liveT s14 = [0, 1, 2, 3, 4, 5, 6, 7, 8, 9, 10, 11, 13] := by
  refine liveI_inj ?_
  rw [liveI_round]
  decide
theorem fixed83 : cO Try.prog lore 83 [] [] = some (.val (Bo true), []) := by
  have o := s14_ok
  have no : ¬ OkState s14m := fun h => by have := h.steps.1; simp [s14m] at this
  have noz : ¬ OkState zState := fun h => by have := h.heap.cap.1; simp [zState] at this
  have c1 : F_shape_Collect s14 = some (collT s14, 0) := by rw [shape_Collect_eq s14 s14_slim]; unfold collS; rw [dec_true o, if_pos rfl]
  have c2 : F_shape_Collect zState = some (zState, 150) := by rw [shape_Collect_eq zState ⟨by simp [zState, big], fun o ho => by cases ho⟩]; unfold collS; rw [dec_false noz, if_neg (by simp)]
  have k1 : F_shape_Check s14 = some 0 := by rw [shape_Check_eq s14 s14_slim, stateE_zero.2 o]
  have k2 : F_shape_Check s14m = some 150 := by
    rw [shape_Check_eq s14m s14_slim]
    unfold stateE
    rw [dec_false no, if_neg (by simp)]
  have hp : (collT s14).Proc = 24 := by
    show num (liveT s14) 26 = 24
    rw [s14_live]; decide
  have hl : ((collT s14).Heap.Objs.length : Int) = 13 := by
    have := by_n s14.Heap (liveT s14)
    have e : (collT s14).Heap.Objs.length = (liveT s14).length := this
    rw [e, s14_live]; rfl
  have hh : (atI (collT s14).Heap.Objs 12).Hash = 13 := by
    have e : (collT s14).Heap.Objs = (liveT s14).map fun i => (atN s14.Heap.Objs i).by (liveT s14) := rfl
    rw [e, s14_live]; rfl
  have e24 : collT s14 = { Heap := { Objs := (collT s14).Heap.Objs, Cap := (collT s14).Heap.Cap, Last := (collT s14).Heap.Last }, Proc := 24, Ready := (collT s14).Ready, Halt := (collT s14).Halt, Steps := (collT s14).Steps, Used := (collT s14).Used } := by
    rw [← hp]
  have slc : Slim (collT s14).Heap := by
    refine ⟨?_, fun o' hm => ?_⟩
    · have : ((collT s14).Heap.Objs.length : Int) ≤ 13 := by omega
      unfold big; omega
    · have hm' : o' ∈ (liveT s14).map fun i => (atN s14.Heap.Objs i).by (liveT s14) := hm
      obtain ⟨i, hi, rfl⟩ := List.mem_map.1 hm'
      have hin : i < s14.Heap.Objs.length := live_lt i hi
      rw [atN_get _ _ hin]
      have := s14_slim.2 _ (List.getElem_mem hin)
      simpa [GObj.by] using this
  have m1 : F_shape_Same s14 (collT s14) = some true := by rw [shape_Same_eq _ _ s14_slim slc, sameTB_iff.2 (SameT.coll o)]
  have m2 : F_shape_Same s14 s14m = some false := by rw [shape_Same_eq s14 s14m s14_slim s14_slim, sameTB_no fun h => no h.okb]
  have r1 : F_shape_Roots s14 = some (rootsT s14) := by rw [shape_Roots_eq s14 s14_slim, dec_true o, if_pos rfl]
  have r2 : F_shape_Roots s14m = some [] := by rw [shape_Roots_eq s14m s14_slim, dec_false no, if_neg (by simp)]
  rw [e24] at c1 m1
  exact fixed83_run _ _ _ _ _ _ _ _ _ _ _ 0 _ _ _ _ _ twelve_eq c1 c2 k1 k2 hl hh m1 m2 r1 (by rfl) r2
end Go.Pv

namespace Go.Pv
open Go Go.Proofs
@[simp ↓] theorem f_L15_fixed : cO Try.prog lore 83 [] [] = some (.val (Bo true), []) := fixed83
end Go.Pv

/- States: what is collected is small. -/
namespace Go.Pv
open Go Go.Proofs
def stateD (s : GState) : D := D.agg [D.t (T.sl 6 (els s.Heap.Objs)), I s.Heap.Cap, I s.Heap.Last, I s.Proc, I s.Ready, I s.Halt, I s.Steps, I s.Used]
theorem coll_slim {s : GState} (hs : Slim s.Heap) (o : OkState s) : Slim (collT s).Heap := byO_slim hs o.heap live_lt (live_sorted.imp fun h => Nat.ne_of_lt h)
end Go.Pv

/- What is told of the library's functions is right. -/
namespace Go.Pv
open Go Go.Proofs
def bare (h : Hint) : Hint := { h with res := [], par := [], row := [] }
@[simp] theorem bare_var (h : Hint) : (bare h).var = h.var := rfl
@[simp] theorem bare_own (h : Hint) : (bare h).own = h.own := rfl
@[simp] theorem bare_keep (h : Hint) : (bare h).keep = h.keep := rfl
@[simp] theorem bare_out (h : Hint) : (bare h).out = h.out := rfl
@[simp] theorem bare_row (h : Hint) : (bare h).row = [] := rfl
@[simp] theorem bare_shr (h : Hint) : (bare h).shr = h.shr := rfl
@[simp] theorem bare_res (h : Hint) : (bare h).res = [] := rfl
@[simp] theorem bare_par (h : Hint) : (bare h).par = [] := rfl
def lor0 : Lore := ⟨fun f => bare (hints f), fun _ => none⟩
@[simp] theorem lor0_94 : lor0.hint 94 = bare h94 := rfl
@[simp] theorem lor0_123 : lor0.hint 123 = bare h123 := rfl
@[simp] theorem lor0_146 : lor0.hint 146 = bare h146 := rfl
set_option maxRecDepth 100000
theorem clones94 : Clones Try.prog (cO Try.prog lor0) 94 30 8 80 := by
  refine ⟨by omega, fun c frs h => ?_, fun a c frs h => ?_, fun x l frs h hb ha => ?_⟩ <;> rw [cO_eq (R := lor0) rfl Try.func94 rfl] <;> show wrapThen _ (endThen _ _ _ (eO Try.prog (bare h94) _ _ _)) = _
  · simp [-D.outer, -List.all_eq_true, Try.f94, h]
  · simp [-D.outer, -List.all_eq_true, Try.f94, h]
  · simp [-D.outer, -List.all_eq_true, Try.f94, h]
    simp only [List.all_cons, Bool.and_eq_true, beq_iff_eq] at ha
    exact ⟨ha, by simpa [els_nil] using hb⟩
theorem clones123 : Clones Try.prog (cO Try.prog lor0) 123 58 6 72 := by
  refine ⟨by omega, fun c frs h => ?_, fun a c frs h => ?_, fun x l frs h hb ha => ?_⟩ <;> rw [cO_eq (R := lor0) rfl Try.func123 rfl] <;> show wrapThen _ (endThen _ _ _ (eO Try.prog (bare h123) _ _ _)) = _
  · simp [-D.outer, -List.all_eq_true, Try.f123, h]
  · simp [-D.outer, -List.all_eq_true, Try.f123, h]
  · simp [-D.outer, -List.all_eq_true, Try.f123, h]
    simp only [List.all_cons, Bool.and_eq_true, beq_iff_eq] at ha
    exact ⟨ha, by simpa [els_nil] using hb⟩
theorem clones146 : Clones Try.prog (cO Try.prog lor0) 146 3 1 8 := by
  refine ⟨by omega, fun c frs h => ?_, fun a c frs h => ?_, fun x l frs h hb ha => ?_⟩ <;> rw [cO_eq (R := lor0) rfl Try.func146 rfl] <;> show wrapThen _ (endThen _ _ _ (eO Try.prog (bare h146) _ _ _)) = _
  · simp [-D.outer, -List.all_eq_true, Try.f146, h]
  · simp [-D.outer, -List.all_eq_true, Try.f146, h]
  · simp [-D.outer, -List.all_eq_true, Try.f146, h]
    simp only [List.all_cons, Bool.and_eq_true, beq_iff_eq] at ha
    exact ⟨ha, by simpa [els_nil] using hb⟩
theorem w64_wrap (n : Int) : w64 n = RowKit.wrap64 n := by
  unfold w64 RowKit.wrap64
  simp [IntKind.wrap, IntKind.bits, IntKind.signed]
  omega
theorem canon_told : ∀ ds d, canonS ds = some d → ∀ B G frs w (vs : Array Value), FrS B G frs w → vs.size = ds.length →
    (∀ (i : Nat) u d, vs[i]? = some u → ds[i]? = some d → d.hasOwn = false ∧ VD B frs.length G vr0 w (.pn frs.length i []) u d) →
    d.outOk = true ∧ Calls Try.prog 153 vs w fun out w' => ∃ v G', out = .returned v ∧ FrS B G' frs w' ∧ Step frs.length G w G' w' ∧ VD B frs.length G' vr0 w' (.pn frs.length 0 []) v d := by
  intro ds d hs B G frs w vs F hlen hargs
  unfold canonS at hs
  split at hs
  · rename_i b
    cases hs
    obtain ⟨u, hv⟩ : ∃ u, vs = #[u] := by
      match vs, hlen with
      | ⟨[u]⟩, _ => exact ⟨u, rfl⟩
    subst hv
    have e1 := (hargs 0 u _ rfl rfl).2.sc
    subst e1
    refine ⟨rfl, (canon_any b w).mono fun r w' ⟨h1, h2⟩ => ?_⟩
    subst h1 h2
    refine ⟨_, G, rfl, F, .refl _ _ _, ?_⟩
    have e : (if nanW (IntKind.u64.wrap b).toNat = true then (9221120237041090561 : Int) else RowKit.wrap64 (IntKind.u64.wrap b).toNat) = canonF b := by
      rw [canon_val]
      unfold canonF nanB
      simp only [decide_eq_true_eq, w64_wrap]
    rw [e]
    exact VD.scal rfl
  · cases hs
theorem mixed0 : Try.prog.follows .mixedOrders = true := by kernel_rfl
theorem allTold : ToldOk Try.prog lore.told := by
  intro f s h
  have g0 : Pv.Good Try.prog (cO Try.prog lor0) := cO_good mixed0 (by intro f s h; cases h)
  unfold lore at h
  simp only at h
  split at h
  · cases h; exact clone_told g0 clones94
  · cases h; exact clone_told g0 clones123
  · cases h; exact clone_told g0 clones146
  · cases h; exact canon_told
  · cases h
end Go.Pv

/- Heaps: from the laws' arguments to plain data. -/
namespace Go.Pv
open Go Go.Proofs
abbrev iT : Ty := .int .i64
abbrev objT : Ty := .pair iT (.pair iT (.pair (.sl iT) (.pair .str (.pair iT (.pair iT .unit)))))
abbrev heapT : Ty := .pair (.sl objT) (.pair iT (.pair iT .unit))
def toObj (x : objT.den) : GObj := ⟨x.1, x.2.1, x.2.2.1, x.2.2.2.1, x.2.2.2.2.1, x.2.2.2.2.2.1⟩
def toObjs (l : (Ty.sl objT).den) : List GObj := List.map toObj l
def toHeap (x : heapT.den) : GHeap := ⟨toObjs x.1, x.2.1, x.2.2.1⟩
theorem map_enc {α β : Type} [Enc β] (e : α → List T) (f : α → β) (h : ∀ x, e x = Enc.enc (f x)) (l : List α) : List.map e l = els (List.map f l) := by
  unfold els
  rw [List.map_map]
  exact List.map_congr_left fun x _ => h x
theorem objT_enc (x : objT.den) : objT.enc x = Enc.enc (toObj x) := rfl
theorem objs_enc (l : (Ty.sl objT).den) : List.map (α := objT.den) objT.enc l = els (toObjs l) := map_enc objT.enc toObj objT_enc l
theorem ones {α : Type} (f : α → Nat) (hf : ∀ x, f x = 1) (l : List α) : (l.map f).sum = l.length := by
  induction l with
  | nil => rfl
  | cons a l ih => simp only [List.map_cons, List.sum_cons, List.length_cons, ih, hf]; omega
theorem sum_mem {α : Type} (f : α → Nat) : ∀ (l : List α) (x : α), x ∈ l → f x ≤ (l.map f).sum
  | a :: l, x, h => by
    rw [List.map_cons, List.sum_cons]
    rcases List.mem_cons.1 h with rfl | h
    · omega
    · have := sum_mem f l x h; omega
theorem sum_len {α : Type} (f : α → Nat) (hf : ∀ x, 1 ≤ f x) (l : List α) : l.length ≤ (l.map f).sum := by
  induction l with
  | nil => exact Nat.le_refl _
  | cons a l ih => have := hf a; simp only [List.map_cons, List.sum_cons, List.length_cons]; omega
theorem obj_bulk (x : objT.den) : (toObj x).Slots.length + (toObj x).Text.size + 1 ≤ objT.bulk x := by
  obtain ⟨c, kd, sl, tx, b, h, u⟩ := x
  have hs := ones (Ty.bulk iT) (fun _ => rfl) sl
  show List.length (α := iT.den) sl + ByteArray.size tx + 1 ≤ 1 + (1 + ((List.map (α := iT.den) (Ty.bulk iT) sl).sum + 1 + (ByteArray.size tx + 1 + (1 + (1 + 0)))))
  rw [hs]; omega
theorem int_wf {n : Int} (h : (Lit.int .i64 n).wf = true) : inR n := by
  simp only [Lit.wf, IntKind.min, IntKind.max, IntKind.signed, IntKind.bits, Bool.and_eq_true, decide_eq_true_eq, if_true] at h
  unfold inR
  constructor <;> omega
theorem objs_small (l : (Ty.sl objT).den) (hw : (Ty.sl objT).wf l) (hk : (Ty.sl objT).bulk l ≤ 1048576) (c la : Int) : Slim ⟨toObjs l, c, la⟩ ∧ BitsR ⟨toObjs l, c, la⟩ := by
  have h1 : (List.map (α := objT.den) objT.bulk l).sum + 1 ≤ 1048576 := hk
  have h2 := sum_len (α := objT.den) objT.bulk (fun x => by have := obj_bulk x; omega) l
  refine ⟨⟨?_, fun o ho => ?_⟩, fun o ho => ?_⟩
  · refine Nat.le_trans (Nat.le_of_eq (List.length_map (α := objT.den) toObj)) ?_
    unfold big; omega
  · obtain ⟨x, hx, rfl⟩ := List.mem_map.1 ho
    have h3 := sum_mem (α := objT.den) objT.bulk l x hx
    have h4 := obj_bulk x
    unfold big; omega
  · obtain ⟨x, hx, rfl⟩ := List.mem_map.1 ho
    have := hw.2 x hx
    obtain ⟨c, kd, sl, tx, b, h, u⟩ := x
    exact int_wf this.2.2.2.2.1
def hpD (h : GHeap) : D := .agg [.t (.sl 6 (els h.Objs)), I h.Cap, I h.Last]
theorem argD_heap (x : heapT.den) : argD heapT x = hpD (toHeap x) := by
  obtain ⟨l, c, la, u⟩ := x
  exact congrArg (fun e => D.agg [.t (.sl 6 e), I c, I la]) (objs_enc l)
theorem heap_slim (x : heapT.den) (hw : heapT.wf x) (hk : heapT.bulk x ≤ 1048576) : Slim (toHeap x) ∧ BitsR (toHeap x) := by
  obtain ⟨l, c, la, u⟩ := x
  have h1 : (Ty.sl objT).bulk l + (1 + (1 + 0)) ≤ 1048576 := hk
  exact objs_small l hw.1 (by omega) c la
theorem ints_len (l : (Ty.sl iT).den) (hk : (Ty.sl iT).bulk l ≤ 1048576) : List.length (α := Int) l ≤ 1048576 := by
  have h1 : (List.map (α := iT.den) (Ty.bulk iT) l).sum + 1 ≤ 1048576 := hk
  have h2 := ones (α := iT.den) (Ty.bulk iT) (fun _ => rfl) l
  have h3 : List.length (α := iT.den) l ≤ 1048576 := by omega
  exact h3
theorem argD_ints (l : (Ty.sl iT).den) : argD (.sl iT) l = .t (.sl 1 (els (α := Int) l)) := rfl
end Go.Pv

/- States, from the laws' arguments to plain data. -/
namespace Go.Pv
open Go Go.Proofs
abbrev stateT : Ty := .pair heapT (.pair iT (.pair iT (.pair iT (.pair iT (.pair iT .unit)))))
abbrev shT : Ty := .pair stateT .unit
abbrev shsT : Ty := .pair stateT (.pair stateT .unit)
abbrev shrT : Ty := .pair stateT (.pair (.sl iT) .unit)
def toState (x : stateT.den) : GState := ⟨toHeap x.1, x.2.1, x.2.2.1, x.2.2.2.1, x.2.2.2.2.1, x.2.2.2.2.2.1⟩
theorem argD_state (x : stateT.den) : argD stateT x = stateD (toState x) := by
  obtain ⟨⟨l, c, la, u⟩, a, b, d, e, f, v⟩ := x
  exact congrArg (fun z => D.agg [.t (.sl 6 z), I c, I la, I a, I b, I d, I e, I f]) (objs_enc l)
theorem state_small (x : stateT.den) (hx : stateT.wf x) (hk : stateT.bulk x ≤ 1048576) : Slim (toState x).Heap ∧ BitsR (toState x).Heap := by
  obtain ⟨hh, a, b, d, e, f, v⟩ := x
  have h3 : heapT.bulk hh + (1 + (1 + (1 + (1 + (1 + 0))))) ≤ 1048576 := hk
  exact heap_slim hh hx.1 (by omega)
theorem cs1 {f : FuncId} {a a' : D} {r : Option (Res × Frames)} (h1 : a = a') (h : cO Try.prog lore f [a'] [] = r) : cO Try.prog lore f [a] [] = r := by
  subst h1; exact h
theorem cs2 {f : FuncId} {a a' b b' : D} {r : Option (Res × Frames)} (h1 : a = a') (h2 : b = b') (h : cO Try.prog lore f [a', b'] [] = r) : cO Try.prog lore f [a, b] [] = r := by
  subst h1; subst h2; exact h
end Go.Pv
