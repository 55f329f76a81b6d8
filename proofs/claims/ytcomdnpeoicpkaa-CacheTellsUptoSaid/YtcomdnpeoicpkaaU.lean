/- A part of the road: the interpreter of plain data and the proof that it is right. -/
import Derived.Test.YtcomdnpeoicpkaaProg
import Derived.RangeFuncNested
import Derived.RangeFuncBound
import Derived.RangeFuncCalls
import Derived.RangeFuncLeaves
import Derived.Shelf.Abstract
import Derived.Shelf.RegionOpen
import Derived.WalkKit
import Derived.OwnWalkIn
import Derived.TacticsInMore
import Derived.LoopNIn
import Derived.LoopIn
import Derived.KernelRfl
import Derived.Test.YtcomdnpeoicpkaaV
set_option linter.unusedVariables false
set_option linter.unusedSimpArgs false
/- look.up's function: what it yields, whatever the rounds do. -/
namespace Go.Pv
open Go Go.Proofs Go.Shelf Go.RowKit
attribute [local go_sem] Oper.semAt_some
set_option maxHeartbeats 4000000
set_option maxRecDepth 100000
/-- What holds behind it. -/
def upPost (J : Int → World → Prop) (X : Int → Bool → World → Prop) : Option (Int × Bool) → World → Prop
  | none, W => ∃ j, J j W
  | some (j, is), W => X j is W
theorem up1_in (F : Fence) (n : Nat) (hF : ∀ f, F.fn f) (hro : F.round = none) (hn : 3 ≤ n)
    (cls : Int → Bool) (sup : Int → Int) (top : Int → Bool) (goes : Int → Bool → Bool) (HA : World → Prop)
    (l Bh Bc : Nat) (a b c : Value) (J : Int → World → Prop) (X : Int → Bool → World → Prop)
    (hJc : ∀ i W, J i W → W.cell? ⟨Bc, 0, none⟩ = some (.int .i64 i)) (hJf : ∀ i W, J i W → W.frozen? ⟨Bc, 0, none⟩ = false)
    (hJ0 : ∀ i W, J i W → W.cell? ⟨Bh, 0, none⟩ = some a) (hJ1 : ∀ i W, J i W → W.cell? ⟨Bh, 1, none⟩ = some b) (hJ2 : ∀ i W, J i W → W.cell? ⟨Bh, 2, none⟩ = some c)
    (hJH : ∀ i W, J i W → HA W) (hJB : ∀ i W W', J i W → Below W.heap.size W W' → J i W') (hJs : ∀ i j W, J i W → J j (W.setCell ⟨Bc, 0, none⟩ (.int .i64 j)))
    (hcls : ∀ i W, HA W → CallsIn F (n - 1) Try.prog 46 #[.agg #[a, b, c], .int .i64 i] W fun e W' => e = .returned (.bool (cls i)) ∧ Below W.heap.size W W')
    (hobj : ∀ i W, HA W → cls i = true → CallsIn F (n - 1) Try.prog 37 #[.agg #[a, b, c], .int .i64 i] W fun e W' => ∃ (B o B' o' m k : Nat), e = .returned (.pointer (some ⟨B, o, none⟩)) ∧ Below W.heap.size W W' ∧
      W'.cell? ⟨B, o + 2, none⟩ = some (.slice (some ⟨B', o', none⟩) (m + 1) k) ∧ W'.cell? ⟨B', o', none⟩ = some (.int .i64 (sup i)))
    (hat : ∀ i W, CallsIn F (n - 1) Try.prog 53 #[.int .i64 i] W fun e W' => (∃ j b, e = .returned (.tuple #[.int .i64 j, .bool b]) ∧ (j = 0 ↔ top i = true)) ∧ Below W.heap.size W W')
    (hY : ∀ i is W, J i W → (is = cls i) → YieldAt F (n - 1) Try.prog l #[.int .i64 i, .bool is] W fun e W' =>
      (goes i is = true ∧ e = .returned (.bool true) ∧ J i W') ∨ (goes i is = false ∧ e = .returned (.bool false) ∧ X i is W'))
    (i0 : Int) (W : World) (h0 : J i0 W) :
    CallsIn F n Try.prog 52 #[.func (.yield l) #[] #[], .pointer (some ⟨Bh, 0, none⟩), .pointer (some ⟨Bc, 0, none⟩)] W fun e W' => (∃ v, e = .returned v) ∧
      upPost J X (upR cls sup top goes 64 i0) W' := by
  refine callsIn_of_wp Try.func52 rfl (hF 52) ?_ hro
  simp only [Try.ntmps52, List.size_toArray, List.length_cons, List.length_nil, Nat.reduceAdd, Nat.reduceSub, Array.replicate_succ, Array.replicate_zero, List.push_toArray, List.append_toArray, List.nil_append, List.cons_append]
  gi_wp2
  gi_loopw [4] (fun p wr => ∃ (k : Nat) (i : Int), p = .int .i64 ((64 - k : Nat) : Int) ∧ k ≤ 64 ∧ J i wr ∧ upR cls sup top goes 64 i0 = upR cls sup top goes k i)
    (fun p _ => (64 - RowKit.intOf p).toNat)
  case atStart => exact ⟨64, i0, rfl, Nat.le_refl _, h0, rfl⟩
  case round =>
    obtain ⟨k, i, rfl, hk, hJ, hu⟩ := hrel
    have h1 : 1 ≤ n := by omega
    have e0 := hJ0 i _ hJ
    have e1 := hJ1 i _ hJ
    have e2 := hJ2 i _ hJ
    have ec := hJc i _ hJ
    have hA := hJH i _ hJ
    cases k with
    | zero =>
      gi_wp2
      go_end0
      refine ⟨⟨_, rfl⟩, ?_⟩
      rw [hu]
      exact ⟨i, hJ⟩
    | succ k =>
      have hlt : ((64 - (k + 1) : Nat) : Int) < 64 := by omega
      cases hc : cls i with
      | false =>
        gi_wp2_with (gi_at_call 46; refine (hcls i _ hA).mono ?_; rintro e W1 ⟨rfl, hb1⟩; rw [hc]; have hq1 := hJB i _ _ hJ hb1; have ec1 := hJc i _ hq1; obtain ⟨fn, tmps, assign, body, hy, hR⟩ := hY i false W1 hq1 hc.symm)
        refine hR.mono ?_
        rintro e W3 (⟨hg, rfl, hJ3⟩ | ⟨hg, rfl, hX3⟩)
        · gi_wp2
          refine bodyPost_ret (results_none rfl _ _ _) rfl ?_
          refine ⟨⟨_, rfl⟩, ?_⟩
          rw [hu]
          simp only [upR, hc, hg, if_true, if_false, Bool.false_eq_true]
          exact ⟨i, hJ3⟩
        · gi_wp2
          refine bodyPost_ret (results_none rfl _ _ _) rfl ?_
          refine ⟨⟨_, rfl⟩, ?_⟩
          rw [hu]
          simp only [upR, hc, hg, if_true, if_false, Bool.false_eq_true]
          exact hX3
      | true =>
        gi_wp2_with (gi_at_call 46; refine (hcls i _ hA).mono ?_; rintro e W1 ⟨rfl, hb1⟩; rw [hc]; have hq1 := hJB i _ _ hJ hb1; have ec1 := hJc i _ hq1; obtain ⟨fn, tmps, assign, body, hy, hR⟩ := hY i true W1 hq1 hc.symm)
        refine hR.mono ?_
        rintro e W3 (⟨hg, rfl, hJ3⟩ | ⟨hg, rfl, hX3⟩)
        · have f0 := hJ0 i _ hJ3
          have f1 := hJ1 i _ hJ3
          have f2 := hJ2 i _ hJ3
          have fc := hJc i _ hJ3
          have fA := hJH i _ hJ3
          gi_wp2_with (gi_at_call 37; refine (hobj i _ fA hc).mono ?_; rintro e W4 ⟨B, o, B', o', m, kk, rfl, hb4, hs4, hv4⟩; have hq4 := hJB i _ _ hJ3 hb4; have g0 := hJc i _ hq4; have gf := hJf i _ hq4)
          refine (hat (sup i) _).mono ?_
          rintro e W5 ⟨⟨j, bb, rfl, hj⟩, hb5⟩
          have hq5 := hJB (sup i) _ _ (hJs i (sup i) _ hq4) hb5
          cases ht : top (sup i) with
          | true =>
            have hj0 : j = 0 := hj.2 ht
            clear hj
            subst hj0
            gi_wp2
            refine bodyPost_ret (results_none rfl _ _ _) rfl ?_
            refine ⟨⟨_, rfl⟩, ?_⟩
            rw [hu]
            simp only [upR, hc, hg, ht, if_true, if_false, Bool.false_eq_true]
            exact ⟨_, hq5⟩
          | false =>
            have hj0 : ¬ j = 0 := fun e => by rw [hj.1 e] at ht; cases ht
            clear hj
            gi_wp2
            refine ⟨⟨k, sup i, ?_, by omega, hq5, ?_⟩, ?_⟩
            · rw [show ((63 - k : Nat) : Int) + 1 = ((64 - k : Nat) : Int) by omega]
            · rw [hu]
              simp only [upR, hc, hg, ht, if_true, if_false, Bool.false_eq_true]
            · simp only [intOf]
              omega
        · gi_wp2
          refine bodyPost_ret (results_none rfl _ _ _) rfl ?_
          refine ⟨⟨_, rfl⟩, ?_⟩
          rw [hu]
          simp only [upR, hc, hg, if_true, if_false, Bool.false_eq_true]
          exact hX3
end Go.Pv

/- A range over look.up's function: the statement. -/
namespace Go.Pv
open Go Go.Proofs Go.Shelf Go.RowKit
set_option maxHeartbeats 4000000
set_option maxRecDepth 100000
/-- All that lay in w lies as it lay, but one block. -/
structure Same (B : Nat) (w W : World) : Prop where
  os : W.os = w.os
  tape : W.tape = w.tape
  output : W.output = w.output
  size : w.heap.size ≤ W.heap.size
  block : ∀ k, k < w.heap.size → k ≠ B → W.heap[k]? = w.heap[k]?
theorem Same.refl (B : Nat) (w : World) : Same B w w := ⟨rfl, rfl, rfl, Nat.le_refl _, fun _ _ _ => rfl⟩
theorem Same.below {B n₀ : Nat} {w W : World} (h : Same B w W) (hB : n₀ ≤ B) (hn : n₀ ≤ w.heap.size) : Below n₀ w W := ⟨h.os, h.tape, h.output, h.size, fun k hk => h.block k (by omega) (by omega)⟩
theorem Same.on {B : Nat} {w W W' : World} (h : Same B w W) (hb : Below W.heap.size W W') : Same B w W' :=
  ⟨hb.os.trans h.os, hb.tape.trans h.tape, hb.output.trans h.output, Nat.le_trans h.size hb.size, fun k hk hne => (hb.block k (Nat.lt_of_lt_of_le hk h.size)).trans (h.block k hk hne)⟩
theorem Same.putObj {B l : Nat} {w W : World} (h : Same B w W) (hl : w.heap.size ≤ l) (o : Obj) : Same B w (W.putObj l o) :=
  ⟨h.os, h.tape, h.output, by simpa using h.size, fun k hk hne => (World.putObj_heap_other (by omega)).trans (h.block k hk hne)⟩
theorem Same.set {B : Nat} {w W : World} (h : Same B w W) (v : Value) : Same B w (W.setCell ⟨B, 0, none⟩ v) :=
  ⟨h.os, h.tape, h.output, by have := (KeepsWalks.setCell W ⟨B, 0, none⟩ v).size; have := h.size; omega, fun k hk hne => (Below.heap_setCell W _ v k hne).trans (h.block k hk hne)⟩
theorem Same.alloc {B : Nat} {w W : World} (h : Same B w W) (o : Obj) : Same B w (W.alloc o) := h.on ((Below.refl _ W).alloc (Nat.le_refl _) o)
theorem boxed_on {W W' : World} {B : Nat} {t : TypeId} {v : Value} (h : Boxed W B t v) (hb : Below W.heap.size W W') : Boxed W' B t v := by
  have := (Array.getElem?_eq_some_iff.1 h).1
  exact (hb.block B this).trans h
/-- How a round's body may be left. -/
def roundP (goes : Int → Bool → Bool) (X : Int → Bool → World → Prop) (i : Int) (is : Bool) (W : World) : Exit → Act → World → Prop
  | .normal, _, W' => goes i is = true ∧ Below W.heap.size W W'
  | .ret, _, W' => goes i is = false ∧ KeepsOthers W W' ∧ X i is W'
  | _, _, _ => False
theorem range_up {Q : Exit → Act → World → Prop} {a : Act} {w : World} {g : Operand} {ps : Array Tmp} {assign body : Code} {n : Nat} (hn : 5 ≤ n)
    (Bh Bc : Nat) (tc : TypeId) (i0 : Int) (hg : a.eval g = .func (.func 52) #[] #[.pointer (some ⟨Bh, 0, none⟩), .pointer (some ⟨Bc, 0, none⟩)])
    (cls : Int → Bool) (sup : Int → Int) (top : Int → Bool) (goes : Int → Bool → Bool) (x y z : Value) (n₀ : Nat) (w0 : World) (hw0 : Below n₀ w0 w) (hB : n₀ ≤ Bc) (hn0 : n₀ ≤ w.heap.size) (hne : Bh ≠ Bc)
    (hx : w.cell? ⟨Bh, 0, none⟩ = some x) (hy : w.cell? ⟨Bh, 1, none⟩ = some y) (hz : w.cell? ⟨Bh, 2, none⟩ = some z) (hc : Boxed w Bc tc (.int .i64 i0))
    (hcls : ∀ i W, Below n₀ w0 W → Calls Try.prog 46 #[.agg #[x, y, z], .int .i64 i] W fun e W' => e = .returned (.bool (cls i)) ∧ Below W.heap.size W W')
    (hobj : ∀ i W, Below n₀ w0 W → cls i = true → Calls Try.prog 37 #[.agg #[x, y, z], .int .i64 i] W fun e W' => ∃ (B o B' o' m k : Nat), e = .returned (.pointer (some ⟨B, o, none⟩)) ∧ Below W.heap.size W W' ∧
      W'.cell? ⟨B, o + 2, none⟩ = some (.slice (some ⟨B', o', none⟩) (m + 1) k) ∧ W'.cell? ⟨B', o', none⟩ = some (.int .i64 (sup i)))
    (hat : ∀ i W, Calls Try.prog 53 #[.int .i64 i] W fun e W' => (∃ j b, e = .returned (.tuple #[.int .i64 j, .bool b]) ∧ (j = 0 ↔ top i = true)) ∧ Below W.heap.size W W')
    (hps : ps.size = 2) (X : Int → Bool → World → Prop)
    (hX : ∀ i is W l o o', X i is W → w.heap.size ≤ l → W.heap[l]? = some o → o.isCells = false → X i is (W.putObj l o'))
    (a₁ : Int → Bool → Act)
    (hassign : ∀ (l : Nat) (i : Int) (is : Bool) (W : World) (K : Act → World → Prop), K (a₁ i is) W →
      assign.wpIn (Fence.wide.inRound l) (n - 1 - 1) Try.prog (Exit.then K (fun _ _ _ => False)) { tmps := (ps.zip #[.int .i64 i, .bool is]).foldl (fun t (p, v) => t.setIfInBounds p v) a.tmps, defers := [] } W)
    (hbody : ∀ (l : Nat) (i : Int) (is : Bool) (W : World), Same Bc w W → is = cls i → body.wpIn (Fence.wide.inRound l) (n - 1 - 1) Try.prog (roundP goes X i is W) (a₁ i is) W)
    (hdone : ∀ (D : Nat) (W : World), w.heap.size ≤ D → upR cls sup top goes 64 i0 = none → Same Bc w W → W.heap[D]? = some (.deferred (some [])) → Q .normal { a with defers := { target := .collected D, args := #[] } :: a.defers } W)
    (hstop : ∀ (D : Nat) (i : Int) (is : Bool) (W : World), w.heap.size ≤ D → upR cls sup top goes 64 i0 = some (i, is) → X i is W → W.heap[D]? = some (.deferred (some [])) → Code.ret.wpIn Fence.wide n Try.prog Q { a with defers := { target := .collected D, args := #[] } :: a.defers } W) :
    (Code.rangeFunc g ps assign body).wpIn Fence.wide n Try.prog Q a w := by
  refine wpIn_rangeFunc ?_
  intro fn hfn
  have hBw : Bc < w.heap.size := (Array.getElem?_eq_some_iff.1 hc).1
  have hBh : Bh < w.heap.size := block_lt_of_cell hx
  obtain ⟨D, hD⟩ : ∃ D, D = w.heap.size := ⟨_, rfl⟩
  obtain ⟨rec, hrec⟩ : ∃ rec : LoopState → Option Code → Loop, rec = fun st pe => { state := st, pending := pe, fn, tmps := a.tmps, params := ps, assign, body, defers := D } := ⟨_, rfl⟩
  obtain ⟨W1, hW1⟩ : ∃ W1, (w.alloc (.deferred (some []))).alloc (.loop (rec .ready none)) = W1 := ⟨_, rfl⟩
  have hL1 : W1.heap[D + 1]? = some (.loop (rec .ready none)) := by
    rw [← hW1, hD]
    have := World.alloc_heap_new (w.alloc (.deferred (some []))) (.loop (rec .ready none))
    rwa [World.size_alloc] at this
  have hK1 : W1.heap[D]? = some (.deferred (some [])) := by
    rw [← hW1, hD]
    exact (Below.heap_alloc _ _ _ (by simp)).trans (World.alloc_heap_new w _)
  have hS1 : Same Bc w W1 := by rw [← hW1]; exact ((Same.refl Bc w).alloc _).alloc _
  have hb1 : Below w.heap.size w W1 := by rw [← hW1]; exact ((Below.refl _ w).alloc (Nat.le_refl _) _).alloc (by simp) _
  refine ⟨D + 1, [{ target := .collected D, args := #[] }], W1, { target := .fn (.func 52) #[.pointer (some ⟨Bh, 0, none⟩), .pointer (some ⟨Bc, 0, none⟩)], args := #[.func (.yield (D + 1)) #[] #[]] }, W1, 52,
    #[.func (.yield (D + 1)) #[] #[], .pointer (some ⟨Bh, 0, none⟩), .pointer (some ⟨Bc, 0, none⟩)], W1, ?_, ?_, fun _ _ => trivial, ?_, fun h => by simp [Fence.wide] at h, ?_⟩
  · rw [← hW1, hrec, hD]; exact run_enterLoop_outer _ _ _ _ _
  · simp only [resolve, hg]
    simp [go_sem]
  · have eg : ∀ args w, (callFunc 52 args).run Try.prog w = .ok (.enter 52 args) w := enters_of Try.func52 (by kernel_rfl) rfl
    simp [invoke, go_sem, eg]
  · -- the iterator
    let J : Int → World → Prop := fun i W => Same Bc w W ∧ Boxed W Bc tc (.int .i64 i) ∧ W.heap[D + 1]? = some (.loop (rec .ready none)) ∧ W.heap[D]? = some (.deferred (some []))
    let X' : Int → Bool → World → Prop := fun i is W => X i is W ∧ W.heap[D + 1]? = some (.loop (rec .done (some .ret))) ∧ W.heap[D]? = some (.deferred (some []))
    have cellh : ∀ {W : World} (o : Nat), Same Bc w W → W.cell? ⟨Bh, o, none⟩ = w.cell? ⟨Bh, o, none⟩ := fun o h => World.cell?_of_block (h.block Bh hBh hne)
    refine (up1_in Fence.wide (n - 1) (fun _ => trivial) rfl (by omega) cls sup top goes (fun W => Below n₀ w0 W) (D + 1) Bh Bc x y z J X'
      (fun i W h => h.2.1.cell) (fun i W h => h.2.1.frozen) (fun i W h => (cellh 0 h.1).trans hx) (fun i W h => (cellh 1 h.1).trans hy) (fun i W h => (cellh 2 h.1).trans hz)
      (fun i W h => hw0.trans (h.1.below hB hn0)) ?hJB ?hJs (fun i W h => callsIn_wide.2 (hcls i W h)) (fun i W h hc => callsIn_wide.2 (hobj i W h hc)) (fun i W => callsIn_wide.2 (hat i W)) ?hY i0 W1 ⟨hS1, boxed_on hc hb1, hL1, hK1⟩).mono ?post
    case hJB =>
      rintro i W W' ⟨hs, hbx, hl, hk⟩ hb
      have h1 := (Array.getElem?_eq_some_iff.1 hl).1
      have h2 := (Array.getElem?_eq_some_iff.1 hk).1
      exact ⟨hs.on hb, boxed_on hbx hb, (hb.block _ h1).trans hl, (hb.block _ h2).trans hk⟩
    case hJs =>
      rintro i j W ⟨hs, hbx, hl, hk⟩
      exact ⟨hs.set _, hbx.set _, (Below.heap_setCell W _ _ _ (by show D + 1 ≠ Bc; omega)).trans hl, (Below.heap_setCell W _ _ _ (by show D ≠ Bc; omega)).trans hk⟩
    case hY =>
      rintro i is W ⟨hs, hbx, hl, hk⟩ his
      have hyl := run_yield (P := Try.prog) (args := #[.int .i64 i, .bool is]) hl (by rw [hrec]; exact hps.symm)
      rw [hrec] at hyl
      refine ⟨fn, _, assign, body, hyl, roundIn_of_wpIn hfn (hassign _ i is W _ ⟨_, run_beginRound hl (by rw [hrec]), ?_⟩)⟩
      have hlt : D + 1 < W.heap.size := (Array.getElem?_eq_some_iff.1 hl).1
      have hl2 : (W.putObj (D + 1) (.loop { rec .ready none with state := .busy })).heap[D + 1]? = some (.loop { rec .ready none with state := .busy }) := World.putObj_heap_same hlt
      have hk2 : (W.putObj (D + 1) (.loop { rec .ready none with state := .busy })).heap[D]? = some (.deferred (some [])) := (World.putObj_heap_other (by omega)).trans hk
      have hs2 : Same Bc w (W.putObj (D + 1) (.loop { rec .ready none with state := .busy })) := hs.putObj (by omega) _
      have hbx2 : Boxed (W.putObj (D + 1) (.loop { rec .ready none with state := .busy })) Bc tc (.int .i64 i) := (World.putObj_heap_other (by omega)).trans hbx
      refine wpIn_mono (hbody _ i is _ hs2 his) ?_
      rintro e a3 W3 hp
      cases e with
      | normal =>
        obtain ⟨hgo, hb⟩ := hp
        have hl3 := (hb.block _ (Array.getElem?_eq_some_iff.1 hl2).1).trans hl2
        have hk3 := (hb.block _ (Array.getElem?_eq_some_iff.1 hk2).1).trans hk2
        have hr := run_endRound (P := Try.prog) none hl3
        refine ⟨_, _, hr, .inl ⟨hgo, rfl, (hs2.on hb).putObj (by omega) _, (World.putObj_heap_other (by omega)).trans (boxed_on hbx2 hb), ?_, (World.putObj_heap_other (by omega)).trans hk3⟩⟩
        refine (World.putObj_heap_same (Array.getElem?_eq_some_iff.1 hl3).1).trans ?_
        rw [hrec]; rfl
      | ret =>
        obtain ⟨hgo, hko, hx3⟩ := hp
        have hl3 := hko.same _ _ hl2 rfl
        have hk3 := hko.same _ _ hk2 rfl
        have hr := run_endRound (P := Try.prog) (some .ret) hl3
        refine ⟨_, _, hr, .inr ⟨hgo, rfl, hX _ _ _ _ _ _ hx3 (by omega) hl3 rfl, ?_, (World.putObj_heap_other (by omega)).trans hk3⟩⟩
        refine (World.putObj_heap_same (Array.getElem?_eq_some_iff.1 hl3).1).trans ?_
        rw [hrec]; rfl
      | exit id => exact hp.elim
      | goto t => exact hp.elim
      | panic ch => exact hp.elim
      | outgrown => exact hp.elim
    case post =>
      rintro e W2 ⟨⟨v, rfl⟩, hp⟩
      cases hu : upR cls sup top goes 64 i0 with
      | none =>
        rw [hu] at hp
        obtain ⟨j, hs, hbx, hl, hk⟩ := hp
        have hr := run_endLoop (P := Try.prog) hl (by rw [hrec]; simp)
        rw [hrec] at hr
        exact ⟨none, _, hr, hdone D _ (by omega) hu (hs.putObj (by omega) _) ((World.putObj_heap_other (by omega)).trans hk)⟩
      | some p =>
        obtain ⟨j, is⟩ := p
        rw [hu] at hp
        obtain ⟨hx2, hl, hk⟩ := hp
        have hr := run_endLoop (P := Try.prog) hl (by rw [hrec]; simp)
        rw [hrec] at hr
        exact ⟨some .ret, _, hr, hstop D j is _ (by omega) hu (hX _ _ _ _ _ _ hx2 (by omega) hl rfl) ((World.putObj_heap_other (by omega)).trans hk)⟩
end Go.Pv

/- look.Under, look.Find: their walks. -/
namespace Go.Pv
open Go Go.Proofs Go.Shelf Go.RowKit
attribute [local go_sem] Oper.semAt_some
set_option maxHeartbeats 4000000
set_option maxRecDepth 100000
theorem up_in (F : Fence) (n : Nat) (h35 : F.fn 35) (hro : F.round = none) (x y z : Value) (c : Int) (w : World) :
    CallsIn F n Try.prog 35 #[.agg #[x, y, z], .int .i64 c] w fun e w' => e = .returned (.func (.func 52) #[] #[.pointer (some ⟨w.heap.size, 0, none⟩), .pointer (some ⟨w.heap.size + 1, 0, none⟩)]) ∧
      w' = (w.alloc (.cells #[x, y, z] 24)).alloc (.cells #[.int .i64 c] 3) := by
  refine callsIn_of_wp Try.func35 rfl h35 ?_ hro
  simp only [Try.ntmps35, List.size_toArray, List.length_cons, List.length_nil, Nat.reduceAdd, Nat.reduceSub, Array.replicate_succ, Array.replicate_zero, List.push_toArray, List.append_toArray, List.nil_append, List.cons_append]
  gi_wp2
  go_ret
  exact ⟨rfl, rfl⟩
theorem res15 (W : World) (B : Nat) (b : Bool) (tmps : Array Value) (hp : tmps.getD 6 undef = .pointer (some ⟨B, 0, none⟩)) (hc : W.cell? ⟨B, 0, none⟩ = some (.bool b)) : (results Try.f15 tmps).run Try.prog W = .ok (.bool b) W := by
  have hp' : tmps[6]?.getD undef = .pointer (some ⟨B, 0, none⟩) := by simpa using hp
  simp [results, Try.f15, go_sem, asAddr, hp', hc]
theorem res14 (W : World) (B C D : Nat) (p q r : Int) (tmps : Array Value) (h6 : tmps.getD 6 undef = .pointer (some ⟨B, 0, none⟩)) (h7 : tmps.getD 7 undef = .pointer (some ⟨C, 0, none⟩)) (h8 : tmps.getD 8 undef = .pointer (some ⟨D, 0, none⟩))
    (hc : W.cell? ⟨B, 0, none⟩ = some (.int .i64 p)) (hd : W.cell? ⟨C, 0, none⟩ = some (.int .i64 q)) (he : W.cell? ⟨D, 0, none⟩ = some (.int .i64 r)) : (results Try.f14 tmps).run Try.prog W = .ok (.tuple #[.int .i64 p, .int .i64 q, .int .i64 r]) W := by
  have h6' : tmps[6]?.getD undef = .pointer (some ⟨B, 0, none⟩) := by simpa using h6
  have h7' : tmps[7]?.getD undef = .pointer (some ⟨C, 0, none⟩) := by simpa using h7
  have h8' : tmps[8]?.getD undef = .pointer (some ⟨D, 0, none⟩) := by simpa using h8
  simp [results, Try.f14, go_sem, asAddr, h6', h7', h8', hc, hd, he]
/-- Blocks laid one behind the other. -/
def lay (w : World) : List Obj → World
  | [] => w
  | o :: os => lay (w.alloc o) os
theorem lay_size (w : World) (os : List Obj) : (lay w os).heap.size = w.heap.size + os.length := by
  induction os generalizing w with
  | nil => rfl
  | cons o os ih => rw [lay, ih, World.size_alloc, List.length_cons]; omega
theorem lay_below (w : World) (os : List Obj) : Below w.heap.size w (lay w os) := by
  induction os generalizing w with
  | nil => exact .refl _ _
  | cons o os ih => exact ((Below.refl _ w).alloc (Nat.le_refl _) o).trans ((ih (w.alloc o)).mono (by simp))
theorem lay_get (w : World) (os : List Obj) (k : Nat) (o : Obj) (h : os[k]? = some o) : (lay w os).heap[w.heap.size + k]? = some o := by
  induction os generalizing w k with
  | nil => simp at h
  | cons o' os ih =>
    cases k with
    | zero =>
      cases h
      exact ((lay_below (w.alloc o) os).block _ (by simp)).trans (World.alloc_heap_new w o)
    | succ k =>
      have := ih (w.alloc o') k h
      rw [World.size_alloc] at this
      rw [show w.heap.size + (k + 1) = w.heap.size + 1 + k by omega]
      exact this
theorem cells3 {W : World} {B : Nat} {x y z : Value} {t : TypeId} (h : W.heap[B]? = some (.cells #[x, y, z] t)) : W.cell? ⟨B, 0, none⟩ = some x ∧ W.cell? ⟨B, 1, none⟩ = some y ∧ W.cell? ⟨B, 2, none⟩ = some z := by
  refine ⟨?_, ?_, ?_⟩ <;> simp [World.cell?, h]
theorem under_in (x y z : Value) (c d : Int) (w : World) (mb : Bool) (cls : Int → Bool) (sup : Int → Int) (top : Int → Bool)
    (hmay : ∀ W, Below w.heap.size w W → Calls Try.prog 34 #[.agg #[x, y, z]] W fun e W' => e = .returned (.bool mb) ∧ Below W.heap.size W W')
    (hcls : ∀ i W, Below w.heap.size w W → Calls Try.prog 46 #[.agg #[x, y, z], .int .i64 i] W fun e W' => e = .returned (.bool (cls i)) ∧ Below W.heap.size W W')
    (hobj : ∀ i W, Below w.heap.size w W → cls i = true → Calls Try.prog 37 #[.agg #[x, y, z], .int .i64 i] W fun e W' => ∃ (B o B' o' m k : Nat), e = .returned (.pointer (some ⟨B, o, none⟩)) ∧ Below W.heap.size W W' ∧
      W'.cell? ⟨B, o + 2, none⟩ = some (.slice (some ⟨B', o', none⟩) (m + 1) k) ∧ W'.cell? ⟨B', o', none⟩ = some (.int .i64 (sup i)))
    (hat : ∀ i W, Calls Try.prog 53 #[.int .i64 i] W fun e W' => (∃ j b, e = .returned (.tuple #[.int .i64 j, .bool b]) ∧ (j = 0 ↔ top i = true)) ∧ Below W.heap.size W W') :
    Calls Try.prog 15 #[.agg #[x, y, z], .int .i64 c, .int .i64 d] w fun e w' => e = .returned (.bool (mb && (upR cls sup top (fun i is => !(is && decide (i = d))) 64 c).isSome)) ∧ Below w.heap.size w w' := by
  refine (callsIn_wide (n := 9)).1 ?_
  refine callsIn_of_wp_marks Try.func15 rfl trivial ?_ rfl
  simp only [Try.ntmps15, List.size_toArray, List.length_cons, List.length_nil, Nat.reduceAdd, Nat.reduceSub, Array.replicate_succ, Array.replicate_zero, List.push_toArray, List.append_toArray, List.nil_append, List.cons_append]
  obtain ⟨w3, hw3⟩ : ∃ w3, ((w.alloc (Obj.cells #[x, y, z] 24)).alloc (Obj.cells #[Value.int IntKind.i64 d] 3)).alloc (Obj.cells #[Value.bool false] 4) = w3 := ⟨_, rfl⟩
  have hw3' : lay w [.cells #[x, y, z] 24, .cells #[.int .i64 d] 3, .cells #[.bool false] 4] = w3 := hw3
  have hb3 : Below w.heap.size w w3 := by rw [← hw3']; exact lay_below _ _
  have hs3 : w3.heap.size = w.heap.size + 3 := by rw [← hw3']; exact lay_size _ _
  have h30 : w3.heap[w.heap.size]? = some (.cells #[x, y, z] 24) := by rw [← hw3']; exact lay_get _ _ 0 _ rfl
  have h31 : Boxed w3 (w.heap.size + 1) 3 (.int .i64 d) := by rw [← hw3']; exact lay_get _ _ 1 _ rfl
  have h32 : Boxed w3 (w.heap.size + 1 + 1) 4 (.bool false) := by rw [← hw3']; exact lay_get _ _ 2 _ rfl
  clear hw3'
  obtain ⟨k0, k1, k2⟩ := cells3 h30
  cases mb with
  | false =>
    gi_wp2_with (first | (refine ⟨trivial, ?_⟩; gi_at_call 34; refine (callsIn_wide.2 (hmay _ hb3)).mono ?_; rintro e W1 ⟨rfl, hb1⟩; have b2 := boxed_on h32 hb1; have c2 := b2.cell; have f2 := b2.frozen))
    refine ⟨_, res15 _ _ false _ rfl (b2.set (.bool false)).cell, rfl, ?_⟩
    exact (hb3.trans (hb1.mono (by omega))).setCell (p := ⟨w.heap.size + 1 + 1, 0, none⟩) (by show w.heap.size ≤ w.heap.size + 1 + 1; omega) _
  | true =>
    gi_wp2_with (first
      | (refine ⟨trivial, ?_⟩; gi_at_call 34; refine (callsIn_wide.2 (hmay _ hb3)).mono ?_; rintro e W1 ⟨rfl, hb1⟩; have b1 := boxed_on h31 hb1; have b2 := boxed_on h32 hb1; have b0 := (hb1.block _ (by omega)).trans h30
         obtain ⟨c00, c01, c02⟩ := cells3 b0)
      | (refine ⟨trivial, ?_⟩; gi_at_call 35; refine (up_in Fence.wide _ trivial rfl x y z c _).mono ?_; rintro e W2 ⟨rfl, hW2⟩))
    obtain ⟨w5, hw5⟩ : ∃ w5, (W1.alloc (Obj.cells #[x, y, z] 24)).alloc (Obj.cells #[Value.int IntKind.i64 c] 3) = w5 := ⟨_, rfl⟩
    rw [hw5]
    have hw5' : lay W1 [.cells #[x, y, z] 24, .cells #[.int .i64 c] 3] = w5 := hw5
    have hW1 : w3.heap.size ≤ W1.heap.size := hb1.size
    have hb15 : Below W1.heap.size W1 w5 := by rw [← hw5']; exact lay_below _ _
    have hs5 : w5.heap.size = W1.heap.size + 2 := by rw [← hw5']; exact lay_size _ _
    have hb5 : Below w.heap.size w w5 := (hb3.trans (hb1.mono (by omega))).trans (hb15.mono (by omega))
    have hh5 : w5.heap[W1.heap.size]? = some (.cells #[x, y, z] 24) := by rw [← hw5']; exact lay_get _ _ 0 _ rfl
    have hc5 : Boxed w5 (W1.heap.size + 1) 3 (.int .i64 c) := by rw [← hw5']; exact lay_get _ _ 1 _ rfl
    have d1 := boxed_on b1 hb15
    have d2 := boxed_on b2 hb15
    obtain ⟨q0, q1, q2⟩ := cells3 hh5
    clear hw5 hw5' hW2
    refine range_up (by omega) W1.heap.size (W1.heap.size + 1) 3 c rfl cls sup top (fun i is => !(is && decide (i = d))) x y z w.heap.size w hb5 (by omega) (by omega) (by omega) q0 q1 q2 hc5 hcls hobj hat rfl
      (fun i is W => Below w.heap.size w W ∧ Boxed W (w.heap.size + 1 + 1) 4 (.bool true)) ?hX
      (fun i is => { tmps := #[Value.agg #[x, y, z], Value.int IntKind.i64 c, Value.int IntKind.i64 d,
          Value.pointer (some { block := w.heap.size, off := 0 }), undef,
          Value.pointer (some { block := w.heap.size + 1, off := 0 }),
          Value.pointer (some { block := w.heap.size + 1 + 1, off := 0 }), .int .i64 i, .bool is, Value.agg #[x, y, z],
          Value.bool true, Value.bool false, Value.agg #[x, y, z], Value.int IntKind.i64 c,
          Value.func (Fn.func 52) #[]
            #[Value.pointer (some { block := W1.heap.size, off := 0 }),
              Value.pointer (some { block := W1.heap.size + 1, off := 0 })],
          .int .i64 i, .bool is, undef, undef, undef, undef, undef, undef], defers := [] }) ?assign ?body ?done ?stop
    case hX =>
      rintro i is W l o o' ⟨h1, h2⟩ hl ho hcl
      have hll := (Array.getElem?_eq_some_iff.1 ho).1
      exact ⟨h1.grown (grownBy_putObj' W l o') (by omega) (fun k e => by cases e; omega), (World.putObj_heap_other (by omega)).trans h2⟩
    case assign =>
      intro l i is W K hK
      gi_wp2
      exact hK
    case body =>
      intro l i is W hs his
      have e1 : Boxed W (w.heap.size + 1) 3 (.int .i64 d) := (hs.block _ (by omega) (by omega)).trans d1
      have e2 : Boxed W (w.heap.size + 1 + 1) 4 (.bool false) := (hs.block _ (by omega) (by omega)).trans d2
      have f1 := e1.cell
      have f2 := e2.cell
      have f3 := e2.frozen
      clear his
      cases is with
      | false =>
        gi_wp2
        exact ⟨rfl, Below.refl _ _⟩
      | true =>
        by_cases hid : i = d
        · gi_wp2
          exact ⟨by simp [hid], KeepsOthers.setCell _ _ _, (hb5.trans (hs.below (by omega) (by omega))).setCell (p := ⟨w.heap.size + 1 + 1, 0, none⟩) (by show w.heap.size ≤ w.heap.size + 1 + 1; omega) _, e2.set _⟩
        · gi_wp2
          exact ⟨by simp [hid], Below.refl _ _⟩
    case done =>
      intro D W hD hu hs hK
      have e2 : Boxed W (w.heap.size + 1 + 1) 4 (.bool false) := (hs.block _ (by omega) (by omega)).trans d2
      have f2 := e2.cell
      have f3 := e2.frozen
      have hK2 := (KeepsOthers.setCell W ⟨w.heap.size + 1 + 1, 0, none⟩ (.bool false)).same D _ hK rfl
      have hlt := (Array.getElem?_eq_some_iff.1 hK2).1
      gi_wp2
      refine ⟨by simp, .inl ⟨_, _, rfl, run_takeDeferred hK2, ?_⟩⟩
      refine ⟨_, res15 _ (w.heap.size + 1 + 1) false _ rfl ?_, ?_, ?_⟩
      · exact Boxed.cell (t := 4) ((World.putObj_heap_other (by omega)).trans (e2.set (.bool false)))
      · rw [hu]; rfl
      · exact ((hb5.trans (hs.below (by omega) (by omega))).setCell (p := ⟨w.heap.size + 1 + 1, 0, none⟩) (by show w.heap.size ≤ w.heap.size + 1 + 1; omega) (.bool false)).grown (grownBy_putObj' _ D _) (by omega) (fun k e => by cases e; omega)
    case stop =>
      rintro D i is W hD hu ⟨hb, hx⟩ hK
      have hlt := (Array.getElem?_eq_some_iff.1 hK).1
      gi_wp2
      refine ⟨by simp, .inl ⟨_, _, rfl, run_takeDeferred hK, ?_⟩⟩
      refine ⟨_, res15 _ (w.heap.size + 1 + 1) true _ rfl ?_, ?_, ?_⟩
      · exact Boxed.cell (t := 4) ((World.putObj_heap_other (by omega)).trans hx)
      · rw [hu]; rfl
      · exact hb.grown (grownBy_putObj' _ D _) (by omega) (fun k e => by cases e; omega)
end Go.Pv

/- look.Find: its walk. -/
namespace Go.Pv
open Go Go.Proofs Go.Shelf Go.RowKit
attribute [local go_sem] Oper.semAt_some
set_option maxHeartbeats 8000000
set_option maxRecDepth 100000
theorem scan_at (xs : List Int) (s : Int) (q : Nat) (h : 2 * q + 1 < xs.length) : scan (xs.drop (2 * q)) s = if xs[2 * q] = s then some xs[2 * q + 1] else scan (xs.drop (2 * (q + 1))) s := by
  rw [List.drop_eq_getElem_cons (show 2 * q < xs.length by omega), List.drop_eq_getElem_cons h]
  rfl
theorem scan_end (xs : List Int) (s : Int) (q : Nat) (h : ¬ 2 * q + 1 < xs.length) : scan (xs.drop (2 * q)) s = none := by
  have hl : (xs.drop (2 * q)).length ≤ 1 := by rw [List.length_drop]; omega
  match e : xs.drop (2 * q), hl with
  | [], _ => rfl
  | [a], _ => rfl
/-- A row of numbers. -/
def NumRow (W : World) (l : Value) (xs : List Int) : Prop := ∃ A cap, l = .slice A xs.length cap ∧ (xs ≠ [] → ∃ B o, A = some ⟨B, o, none⟩ ∧ ∀ k x, xs[k]? = some x → W.cell? ⟨B, o + k, none⟩ = some (.int .i64 x))
def FindX (w : World) (n₀ : Nat) (dl : Int → List Int) (sel : Int) (r : Nat) (i : Int) (is : Bool) (W : World) : Prop :=
  Below n₀ w W ∧ (if is = true then Boxed W r 3 (.int .i64 ((scan (dl i) sel).getD 0)) ∧ Boxed W (r + 1) 3 (.int .i64 i) ∧ Boxed W (r + 1 + 1) 27 (.int .i64 0) else Boxed W r 3 (.int .i64 0) ∧ Boxed W (r + 1) 3 (.int .i64 0) ∧ Boxed W (r + 1 + 1) 27 (.int .i64 90))
theorem three {W : World} {r : Nat} {p q s : Value} (p' q' s' : Value) (h1 : Boxed W r 3 p) (h2 : Boxed W (r + 1) 3 q) (h3 : Boxed W (r + 1 + 1) 27 s) :
    Boxed (((W.setCell ⟨r, 0, none⟩ p').setCell ⟨r + 1, 0, none⟩ q').setCell ⟨r + 1 + 1, 0, none⟩ s') r 3 p' ∧
    Boxed (((W.setCell ⟨r, 0, none⟩ p').setCell ⟨r + 1, 0, none⟩ q').setCell ⟨r + 1 + 1, 0, none⟩ s') (r + 1) 3 q' ∧
    Boxed (((W.setCell ⟨r, 0, none⟩ p').setCell ⟨r + 1, 0, none⟩ q').setCell ⟨r + 1 + 1, 0, none⟩ s') (r + 1 + 1) 27 s' ∧
    KeepsOthers W (((W.setCell ⟨r, 0, none⟩ p').setCell ⟨r + 1, 0, none⟩ q').setCell ⟨r + 1 + 1, 0, none⟩ s') ∧
    ∀ n₀ w, n₀ ≤ r → Below n₀ w W → Below n₀ w (((W.setCell ⟨r, 0, none⟩ p').setCell ⟨r + 1, 0, none⟩ q').setCell ⟨r + 1 + 1, 0, none⟩ s') := by
  refine ⟨((h1.set p').other (by omega) _).other (by omega) _, ((h2.other (by omega) _).set q').other (by omega) _, ((h3.other (by omega) _).other (by omega) _).set s', ((KeepsOthers.setCell _ _ _).trans (KeepsOthers.setCell _ _ _)).trans (KeepsOthers.setCell _ _ _), fun n₀ w hn h => ?_⟩
  exact ((h.setCell (p := ⟨r, 0, none⟩) hn _).setCell (p := ⟨r + 1, 0, none⟩) (by show n₀ ≤ r + 1; omega) _).setCell (p := ⟨r + 1 + 1, 0, none⟩) (by show n₀ ≤ r + 1 + 1; omega) _
theorem keeps_below {W W' : World} (h : Below W.heap.size W W') : KeepsOthers W W' := by
  exact ⟨h.size, fun k o hk _ => (h.block k (Array.getElem?_eq_some_iff.1 hk).1).trans hk⟩
theorem find_in (x y z : Value) (c sel : Int) (w : World) (mb : Bool) (cls : Int → Bool) (sup dic : Int → Int) (top : Int → Bool) (row : Int → List Int)
    (hmay : ∀ W, Below w.heap.size w W → Calls Try.prog 34 #[.agg #[x, y, z]] W fun e W' => e = .returned (.bool mb) ∧ Below W.heap.size W W')
    (hcls : ∀ i W, Below w.heap.size w W → Calls Try.prog 46 #[.agg #[x, y, z], .int .i64 i] W fun e W' => e = .returned (.bool (cls i)) ∧ Below W.heap.size W W')
    (hobj : ∀ i W, Below w.heap.size w W → cls i = true → Calls Try.prog 37 #[.agg #[x, y, z], .int .i64 i] W fun e W' => ∃ (B o B' o' m k : Nat), e = .returned (.pointer (some ⟨B, o, none⟩)) ∧ Below W.heap.size W W' ∧
      W'.cell? ⟨B, o + 2, none⟩ = some (.slice (some ⟨B', o', none⟩) (m + 1 + 1) k) ∧ W'.cell? ⟨B', o', none⟩ = some (.int .i64 (sup i)) ∧ W'.cell? ⟨B', o' + 1, none⟩ = some (.int .i64 (dic i)))
    (hprs : ∀ v W, Below w.heap.size w W → Calls Try.prog 36 #[.agg #[x, y, z], .int .i64 v] W fun e W' => ∃ l b, e = .returned (.tuple #[l, .bool b]) ∧ Below W.heap.size W W' ∧ NumRow W' l (row v))
    (hlen : ∀ v, (row v).length ≤ 1099511627776)
    (hat : ∀ i W, Calls Try.prog 53 #[.int .i64 i] W fun e W' => (∃ j b, e = .returned (.tuple #[.int .i64 j, .bool b]) ∧ (j = 0 ↔ top i = true)) ∧ Below W.heap.size W W') :
    Calls Try.prog 14 #[.agg #[x, y, z], .int .i64 c, .int .i64 sel] w fun e w' => ∃ p, p = (if mb = true then findR (upR cls sup top (fun i is => is && (scan (row (dic i)) sel).isNone) 64 c) (fun i => row (dic i)) sel else (0, 0, 1)) ∧
      e = .returned (.tuple #[.int .i64 p.1, .int .i64 p.2.1, .int .i64 p.2.2]) ∧ Below w.heap.size w w' := by
  have hobj0 : ∀ i W, Below w.heap.size w W → cls i = true → Calls Try.prog 37 #[.agg #[x, y, z], .int .i64 i] W fun e W' => ∃ (B o B' o' m k : Nat), e = .returned (.pointer (some ⟨B, o, none⟩)) ∧ Below W.heap.size W W' ∧
      W'.cell? ⟨B, o + 2, none⟩ = some (.slice (some ⟨B', o', none⟩) (m + 1) k) ∧ W'.cell? ⟨B', o', none⟩ = some (.int .i64 (sup i)) := fun i W h hc => (hobj i W h hc).mono (by
    rintro e W' ⟨B, o, B', o', m, k, h1, h2, h3, h4, h5⟩
    exact ⟨B, o, B', o', m + 1, k, h1, h2, h3, h4⟩)
  refine (callsIn_wide (n := 9)).1 ?_
  refine callsIn_of_wp_marks Try.func14 rfl trivial ?_ rfl
  simp only [Try.ntmps14, List.size_toArray, List.length_cons, List.length_nil, Nat.reduceAdd, Nat.reduceSub, Array.replicate_succ, Array.replicate_zero, List.push_toArray, List.append_toArray, List.nil_append, List.cons_append]
  obtain ⟨w3, hw3⟩ : ∃ w3, ((((w.alloc (Obj.cells #[x, y, z] 24)).alloc (Obj.cells #[Value.int IntKind.i64 sel] 3)).alloc (Obj.cells #[Value.int IntKind.i64 0] 3)).alloc (Obj.cells #[Value.int IntKind.i64 0] 3)).alloc (Obj.cells #[Value.int IntKind.i64 0] 27) = w3 := ⟨_, rfl⟩
  have hw3' : lay w [.cells #[x, y, z] 24, .cells #[.int .i64 sel] 3, .cells #[.int .i64 0] 3, .cells #[.int .i64 0] 3, .cells #[.int .i64 0] 27] = w3 := hw3
  have hb3 : Below w.heap.size w w3 := by rw [← hw3']; exact lay_below _ _
  have hs3 : w3.heap.size = w.heap.size + 5 := by rw [← hw3']; exact lay_size _ _
  have h30 : w3.heap[w.heap.size]? = some (.cells #[x, y, z] 24) := by rw [← hw3']; exact lay_get _ _ 0 _ rfl
  have h31 : Boxed w3 (w.heap.size + 1) 3 (.int .i64 sel) := by rw [← hw3']; exact lay_get _ _ 1 _ rfl
  have h32 : Boxed w3 (w.heap.size + 1 + 1) 3 (.int .i64 0) := by rw [← hw3']; exact lay_get _ _ 2 _ rfl
  have h33 : Boxed w3 (w.heap.size + 1 + 1 + 1) 3 (.int .i64 0) := by rw [← hw3']; exact lay_get _ _ 3 _ rfl
  have h34 : Boxed w3 (w.heap.size + 1 + 1 + 1 + 1) 27 (.int .i64 0) := by rw [← hw3']; exact lay_get _ _ 4 _ rfl
  clear hw3'
  obtain ⟨k0, k1, k2⟩ := cells3 h30
  cases mb with
  | false =>
    gi_wp2_with (first | (refine ⟨trivial, ?_⟩; gi_at_call 34; refine (callsIn_wide.2 (hmay _ hb3)).mono ?_; rintro e W1 ⟨rfl, hb1⟩; have b2 := boxed_on h32 hb1; have b3 := boxed_on h33 hb1; have b4 := boxed_on h34 hb1; have c2 := b2.cell; have f2 := b2.frozen; have c3 := b3.cell; have f3 := b3.frozen; have c4 := b4.cell; have f4 := b4.frozen))
    obtain ⟨t1, t2, t3, t4, t5⟩ := three (.int .i64 0) (.int .i64 0) (.int .i64 1) b2 b3 b4
    refine ⟨_, res14 _ _ _ _ 0 0 1 _ rfl rfl rfl t1.cell t2.cell t3.cell, rfl, ?_⟩
    exact t5 _ _ (by omega) (hb3.trans (hb1.mono (by omega)))
  | true =>
    gi_wp2_with (first
      | (refine ⟨trivial, ?_⟩; gi_at_call 34; refine (callsIn_wide.2 (hmay _ hb3)).mono ?_; rintro e W1 ⟨rfl, hb1⟩; have b1 := boxed_on h31 hb1; have b2 := boxed_on h32 hb1; have b3 := boxed_on h33 hb1; have b4 := boxed_on h34 hb1; have b0 := (hb1.block _ (by omega)).trans h30
         obtain ⟨c00, c01, c02⟩ := cells3 b0)
      | (refine ⟨trivial, ?_⟩; gi_at_call 35; refine (up_in Fence.wide _ trivial rfl x y z c _).mono ?_; rintro e W2 ⟨rfl, hW2⟩))
    obtain ⟨w5, hw5⟩ : ∃ w5, (W1.alloc (Obj.cells #[x, y, z] 24)).alloc (Obj.cells #[Value.int IntKind.i64 c] 3) = w5 := ⟨_, rfl⟩
    rw [hw5]
    have hw5' : lay W1 [.cells #[x, y, z] 24, .cells #[.int .i64 c] 3] = w5 := hw5
    have hW1 : w3.heap.size ≤ W1.heap.size := hb1.size
    have hb15 : Below W1.heap.size W1 w5 := by rw [← hw5']; exact lay_below _ _
    have hs5 : w5.heap.size = W1.heap.size + 2 := by rw [← hw5']; exact lay_size _ _
    have hb5 : Below w.heap.size w w5 := (hb3.trans (hb1.mono (by omega))).trans (hb15.mono (by omega))
    have hh5 : w5.heap[W1.heap.size]? = some (.cells #[x, y, z] 24) := by rw [← hw5']; exact lay_get _ _ 0 _ rfl
    have hc5 : Boxed w5 (W1.heap.size + 1) 3 (.int .i64 c) := by rw [← hw5']; exact lay_get _ _ 1 _ rfl
    have d0 := (hb15.block _ (by omega)).trans b0
    have d1 := boxed_on b1 hb15
    have d2 := boxed_on b2 hb15
    have d3 := boxed_on b3 hb15
    have d4 := boxed_on b4 hb15
    obtain ⟨q0, q1, q2⟩ := cells3 hh5
    clear hw5 hw5' hW2
    refine range_up (by omega) W1.heap.size (W1.heap.size + 1) 3 c rfl cls sup top (fun i is => is && (scan (row (dic i)) sel).isNone) x y z w.heap.size w hb5 (by omega) (by omega) (by omega) q0 q1 q2 hc5 hcls hobj0 hat rfl
      (FindX w w.heap.size (fun i => row (dic i)) sel (w.heap.size + 1 + 1)) ?hX
      (fun i is => { tmps := #[Value.agg #[x, y, z], Value.int IntKind.i64 c, Value.int IntKind.i64 sel,
          Value.pointer (some { block := w.heap.size, off := 0 }), undef,
          Value.pointer (some { block := w.heap.size + 1, off := 0 }),
          Value.pointer (some { block := w.heap.size + 1 + 1, off := 0 }),
          Value.pointer (some { block := w.heap.size + 1 + 1 + 1, off := 0 }),
          Value.pointer (some { block := w.heap.size + 1 + 1 + 1 + 1, off := 0 }), .int .i64 i, .bool is, undef, undef, undef,
          Value.agg #[x, y, z], Value.bool true, Value.bool false, Value.agg #[x, y, z], Value.int IntKind.i64 c,
          Value.func (Fn.func 52) #[]
            #[Value.pointer (some { block := W1.heap.size, off := 0 }),
              Value.pointer (some { block := W1.heap.size + 1, off := 0 })],
          .int .i64 i, .bool is, undef,
          undef, undef, undef, undef, undef, undef, undef, undef, undef, undef, undef, undef, undef, undef, undef,
          undef, undef, undef, undef, undef, undef, undef, undef, undef, undef, undef, undef, undef, undef, undef,
          undef, undef, undef], defers := [] }) ?assign ?body ?done ?stop
    case hX =>
      rintro i is W l o o' ⟨h1, h2⟩ hl ho hcl
      have hll := (Array.getElem?_eq_some_iff.1 ho).1
      have kp : ∀ {B : Nat} {t : TypeId} {v : Value}, B < w5.heap.size → Boxed W B t v → Boxed (W.putObj l o') B t v := fun hB h => (World.putObj_heap_other (by omega)).trans h
      refine ⟨h1.grown (grownBy_putObj' W l o') (by omega) (fun k e => by cases e; omega), ?_⟩
      split at h2
      · rename_i hi
        rw [if_pos hi]
        exact ⟨kp (by omega) h2.1, kp (by omega) h2.2.1, kp (by omega) h2.2.2⟩
      · rename_i hi
        rw [if_neg hi]
        exact ⟨kp (by omega) h2.1, kp (by omega) h2.2.1, kp (by omega) h2.2.2⟩
    case assign =>
      intro l i is W K hK
      gi_wp2
      exact hK
    case body =>
      intro l i is W hs his
      have e0 := (hs.block w.heap.size (by omega) (by omega)).trans d0
      have e1 : Boxed W (w.heap.size + 1) 3 (.int .i64 sel) := (hs.block _ (by omega) (by omega)).trans d1
      have e2 : Boxed W (w.heap.size + 1 + 1) 3 (.int .i64 0) := (hs.block _ (by omega) (by omega)).trans d2
      have e3 : Boxed W (w.heap.size + 1 + 1 + 1) 3 (.int .i64 0) := (hs.block _ (by omega) (by omega)).trans d3
      have e4 : Boxed W (w.heap.size + 1 + 1 + 1 + 1) 27 (.int .i64 0) := (hs.block _ (by omega) (by omega)).trans d4
      have hbW : Below w.heap.size w W := hb5.trans (hs.below (by omega) (by omega))
      obtain ⟨p0, p1, p2⟩ := cells3 e0
      have f2 := e2.cell
      have g2 := e2.frozen
      have f3 := e3.cell
      have g3 := e3.frozen
      have f4 := e4.cell
      have g4 := e4.frozen
      cases is with
      | false =>
        clear his
        gi_wp2
        obtain ⟨t1, t2, t3, t4, t5⟩ := three (.int .i64 0) (.int .i64 0) (.int .i64 90) e2 e3 e4
        exact ⟨rfl, t4, t5 _ _ (by omega) hbW, t1, t2, t3⟩
      | true =>
        have f1 := e1.cell
        have hmx : Try.prog.follows .mixedOrders = true := by kernel_rfl
        have hd : 1 ≤ 9 - 1 - 1 := by omega
        have hci : cls i = true := his.symm
        clear his
        have hbD : Below w.heap.size w W.drew := hbW.trans ⟨rfl, rfl, rfl, Nat.le_refl _, fun _ _ => rfl⟩
        have hsW : w.heap.size + 5 ≤ W.drew.heap.size := by have := hs.size; show _ ≤ W.heap.size; omega
        have e0D : W.drew.heap[w.heap.size]? = some (.cells #[x, y, z] 24) := e0
        gi_wp2
        refine wpIn_mono (Q := fun e a V2 => e = .normal ∧ ∃ (B o B' o' m k : Nat) (dl : Value) (bb : Bool), Below W.heap.size W V2 ∧ NumRow V2 dl (row (dic i)) ∧ a =
          { tmps := #[Value.agg #[x, y, z], Value.int IntKind.i64 c, Value.int IntKind.i64 sel,
          Value.pointer (some { block := w.heap.size, off := 0 }), undef,
          Value.pointer (some { block := w.heap.size + 1, off := 0 }),
          Value.pointer (some { block := w.heap.size + 1 + 1, off := 0 }),
          Value.pointer (some { block := w.heap.size + 1 + 1 + 1, off := 0 }),
          Value.pointer (some { block := w.heap.size + 1 + 1 + 1 + 1, off := 0 }), Value.int IntKind.i64 i,
          Value.bool true, dl, Value.bool bb, undef, Value.agg #[x, y, z], Value.bool true, Value.bool false,
          Value.agg #[x, y, z], Value.int IntKind.i64 c,
          Value.func (Fn.func 52) #[]
            #[Value.pointer (some { block := W1.heap.size, off := 0 }),
              Value.pointer (some { block := W1.heap.size + 1, off := 0 })],
          Value.int IntKind.i64 i, Value.bool true, Value.bool true, Value.bool false, Value.tuple #[dl, Value.bool bb],
          Value.agg #[x, y, z], Value.agg #[x, y, z], Value.int IntKind.i64 i,
          Value.pointer (some { block := B, off := o }), Value.pointer (some { block := B, off := o }),
          Value.pointer (some { block := B, off := o + 2 }),
          Value.slice (some { block := B', off := o' }) (m + 1 + 1) k,
          Value.pointer (some { block := B', off := o' + 1 }), Value.int IntKind.i64 (dic i),
          Value.tuple #[dl, Value.bool bb], dl, Value.bool bb, undef, undef, undef, undef, undef, undef, undef, undef,
          undef, undef, undef, undef, undef, undef, undef, undef, undef, undef, undef], defers := [] }) ?reg ?rest
        case rest =>
          rintro e a V2 ⟨rfl, B, o, B', o', m, k, dl, bb, hbV2, ⟨A, cap, rfl, hA⟩, rfl⟩
          have r2 := boxed_on e2 hbV2
          have r3 := boxed_on e3 hbV2
          have r4 := boxed_on e4 hbV2
          have r1 := boxed_on e1 hbV2
          clear f2 g2 f3 g3 f4 g4 f1
          gi_wp2
          gi_loopw [13] (fun p wr => ∃ q : Nat, p = .int .i64 ((2 * q : Nat) : Int) ∧ 2 * q ≤ (row (dic i)).length + 1 ∧ Below V2.heap.size V2 wr ∧ scan ((row (dic i)).drop (2 * q)) sel = scan (row (dic i)) sel)
            (fun p _ => ((row (dic i)).length + 2 - RowKit.intOf p).toNat)
          case atStart => exact ⟨0, rfl, by omega, Below.refl _ _, rfl⟩
          case round =>
            obtain ⟨q, rfl, hq, hbr, hsc⟩ := hrel
            have hl := hlen (dic i)
            by_cases hq1 : 2 * q + 1 < (row (dic i)).length
            · obtain ⟨Bx, ox, rfl, hcell⟩ := hA (fun e => by rw [e] at hq1; simp at hq1)
              have x0 := hcell (2 * q) _ (List.getElem?_eq_getElem (by omega))
              have x1 := hcell (2 * q + 1) _ (List.getElem?_eq_getElem hq1)
              have y0 := (hbr.cell (p := ⟨Bx, ox + 2 * q, none⟩) (block_lt_of_cell x0)).trans x0
              have y1 := (hbr.cell (p := ⟨Bx, ox + (2 * q + 1), none⟩) (block_lt_of_cell x1)).trans x1
              have ysel := (boxed_on r1 hbr).cell
              have j2 := (boxed_on r2 hbr).cell
              have l2 := (boxed_on r2 hbr).frozen
              have j3 := (boxed_on r3 hbr).cell
              have l3 := (boxed_on r3 hbr).frozen
              have j4 := (boxed_on r4 hbr).cell
              have l4 := (boxed_on r4 hbr).frozen
              have w1 : ((2 * q : Nat) : Int) + 1 < ((row (dic i)).length : Int) := by omega
              clear hcell x0 x1 hA
              gi_wp2
              refine wpIn_mono (Q := fun e a V => e = .normal ∧ V = wr.drew ∧ ∃ v37 v38 v39 v40 v41 v42 v43 v44 v45 v46 v47 v48 v50 v51 v52 v53 v54 v55 : Value, a =
                  { tmps := #[Value.agg #[x, y, z], Value.int IntKind.i64 c, Value.int IntKind.i64 sel,
                  Value.pointer (some { block := w.heap.size, off := 0 }), undef,
                  Value.pointer (some { block := w.heap.size + 1, off := 0 }),
                  Value.pointer (some { block := w.heap.size + 1 + 1, off := 0 }),
                  Value.pointer (some { block := w.heap.size + 1 + 1 + 1, off := 0 }),
                  Value.pointer (some { block := w.heap.size + 1 + 1 + 1 + 1, off := 0 }), Value.int IntKind.i64 i,
                  Value.bool true, .slice (some ⟨Bx, ox, none⟩) (row (dic i)).length cap, Value.bool bb, .int .i64 (2 * (q : Int)), Value.agg #[x, y, z], Value.bool true, Value.bool false,
                  Value.agg #[x, y, z], Value.int IntKind.i64 c,
                  Value.func (Fn.func 52) #[]
                    #[Value.pointer (some { block := W1.heap.size, off := 0 }),
                      Value.pointer (some { block := W1.heap.size + 1, off := 0 })],
                  Value.int IntKind.i64 i, Value.bool true, Value.bool true, Value.bool false, Value.tuple #[Value.slice (some { block := Bx, off := ox }) (row (dic i)).length cap, Value.bool bb], Value.agg #[x, y, z], Value.agg #[x, y, z], Value.int IntKind.i64 i,
          Value.pointer (some { block := B, off := o }), Value.pointer (some { block := B, off := o }),
          Value.pointer (some { block := B, off := o + 2 }),
          Value.slice (some { block := B', off := o' }) (m + 1 + 1) k,
          Value.pointer (some { block := B', off := o' + 1 }), Value.int IntKind.i64 (dic i),
          Value.tuple #[Value.slice (some { block := Bx, off := ox }) (row (dic i)).length cap, Value.bool bb], Value.slice (some { block := Bx, off := ox }) (row (dic i)).length cap, Value.bool bb, v37, v38, v39, v40, v41, v42, v43, v44, v45, v46, v47, v48, .bool ((row (dic i))[2 * q] == sel), v50, v51, v52, v53, v54, v55], defers := [] }) ?reg2 ?rest2
              case reg2 =>
                gi_region_o
                all_goals (refine ⟨rfl, rfl, ?_⟩; (repeat apply Exists.intro); rfl)
              case rest2 =>
                rintro e a V ⟨rfl, rfl, v37, v38, v39, v40, v41, v42, v43, v44, v45, v46, v47, v48, v50, v51, v52, v53, v54, v55, rfl⟩
                by_cases heq : (row (dic i))[2 * q] = sel
                · have hbq : ((row (dic i))[2 * q] == sel) = true := by simp [heq]
                  rw [hbq]
                  gi_wp2
                  have hsW' : w.heap.size + 5 ≤ W.heap.size := hsW
                  have hsV' := hbV2.size
                  have hsv : scan (row (dic i)) sel = some (row (dic i))[2 * q + 1] := by rw [← hsc, scan_at _ _ _ hq1, if_pos heq]
                  obtain ⟨t1, t2, t3, t4, t5⟩ := three (.int .i64 (row (dic i))[2 * q + 1]) (.int .i64 i) (.int .i64 0) (boxed_on r2 hbr) (boxed_on r3 hbr) (boxed_on r4 hbr)
                  refine ⟨by simp [hsv], KeepsOthers.trans (KeepsOthers.trans (keeps_below hbV2) (keeps_below hbr)) (t4.trans (KeepsOthers.drew _)), ?_, ?_⟩
                  · exact (t5 w.heap.size w (by omega) ((hbW.trans (hbV2.mono (by omega))).trans (hbr.mono (by omega)))).trans ⟨rfl, rfl, rfl, Nat.le_refl _, fun _ _ => rfl⟩
                  · rw [if_pos rfl]
                    show Boxed _ _ _ (.int .i64 ((scan (row (dic i)) sel).getD 0)) ∧ _
                    rw [hsv]
                    exact ⟨t1, t2, t3⟩
                · have hbq : ((row (dic i))[2 * q] == sel) = false := by simp [heq]
                  rw [hbq]
                  gi_wp2
                  refine ⟨⟨q + 1, ?_, by omega, hbr.trans ⟨rfl, rfl, rfl, Nat.le_refl _, fun _ _ => rfl⟩, ?_⟩, ?_⟩
                  · first | omega | exact congrArg (Value.int IntKind.i64) (by omega) | (simp; omega)
                  · rw [← hsc, scan_at _ _ _ hq1, if_neg heq]
                  · first
                      | omega
                      | (show (((row (dic i)).length : Int) + 2 - (2 * (q : Int) + 2)).toNat < (((row (dic i)).length : Int) + 2 - ((2 * q : Nat) : Int)).toNat
                         omega)
                      | (simp [RowKit.intOf]; omega)
                     
            · gi_wp2
              refine ⟨?_, hbV2.trans (hbr.mono hbV2.size)⟩
              show (true && (scan (row (dic i)) sel).isNone) = true
              rw [← hsc, scan_end _ _ _ hq1]
              rfl
        case reg =>
         have hd0 : Below W.heap.size W W.drew := ⟨rfl, rfl, rfl, Nat.le_refl _, fun _ _ => rfl⟩
         gi_region_with_o (first
          | (refine ⟨trivial, ?_⟩; gi_at_call 37; refine (CallsIn.inRound l (callsIn_wide.2 (hobj i _ hbD hci))).mono ?_; rintro e V1 ⟨B, o, B', o', m, k, rfl, hv1, s1, s2, s3⟩; have hbV := hbD.trans (hv1.mono (by omega)); obtain ⟨z0, z1, z2⟩ := cells3 ((hv1.block _ (by omega)).trans e0D))
          | (refine ⟨trivial, ?_⟩; gi_at_call 36; refine (CallsIn.inRound l (callsIn_wide.2 (hprs (dic i) _ hbV))).mono ?_; rintro e V2 ⟨dl, bb, rfl, hv2, hrow⟩))
         all_goals exact ⟨rfl, B, o, B', o', m, k, dl, bb, (hd0.trans hv1).trans (hv2.mono hv1.size), hrow, rfl⟩
    case done =>
      intro D W hD hu hs hK
      have e2 : Boxed W (w.heap.size + 1 + 1) 3 (.int .i64 0) := (hs.block _ (by omega) (by omega)).trans d2
      have e3 : Boxed W (w.heap.size + 1 + 1 + 1) 3 (.int .i64 0) := (hs.block _ (by omega) (by omega)).trans d3
      have e4 : Boxed W (w.heap.size + 1 + 1 + 1 + 1) 27 (.int .i64 0) := (hs.block _ (by omega) (by omega)).trans d4
      have f2 := e2.cell
      have g2 := e2.frozen
      have f3 := e3.cell
      have g3 := e3.frozen
      have f4 := e4.cell
      have g4 := e4.frozen
      obtain ⟨t1, t2, t3, t4, t5⟩ := three (.int .i64 0) (.int .i64 0) (.int .i64 91) e2 e3 e4
      have hK2 := t4.same D _ hK rfl
      have hlt := (Array.getElem?_eq_some_iff.1 hK2).1
      gi_wp2
      refine ⟨by simp, .inl ⟨_, _, rfl, run_takeDeferred hK2, ?_⟩⟩
      have kp : ∀ {B : Nat} {t : TypeId} {v : Value} {V : World} {o' : Obj}, B < w5.heap.size → Boxed V B t v → Boxed (V.putObj D o') B t v := fun hB h => (World.putObj_heap_other (by omega)).trans h
      refine ⟨_, res14 _ _ _ _ 0 0 91 _ rfl rfl rfl (kp (by omega) t1).cell (kp (by omega) t2).cell (kp (by omega) t3).cell, ?_⟩
      exact ⟨rfl, (t5 _ _ (by omega) (hb5.trans (hs.below (by omega) (by omega)))).grown (grownBy_putObj' _ D _) (by omega) (fun k e => by cases e; omega)⟩
    case stop =>
      rintro D i is W hD hu ⟨hb, hx⟩ hK
      have hlt := (Array.getElem?_eq_some_iff.1 hK).1
      gi_wp2
      refine ⟨by simp, .inl ⟨_, _, rfl, run_takeDeferred hK, ?_⟩⟩
      have kp : ∀ {B : Nat} {t : TypeId} {v : Value} {V : World} {o' : Obj}, B < w5.heap.size → Boxed V B t v → Boxed (V.putObj D o') B t v := fun hB h => (World.putObj_heap_other (by omega)).trans h
      cases is with
      | false =>
        refine ⟨_, res14 _ _ _ _ 0 0 90 _ rfl rfl rfl (kp (by omega) hx.1).cell (kp (by omega) hx.2.1).cell (kp (by omega) hx.2.2).cell, ?_⟩
        exact ⟨rfl, hb.grown (grownBy_putObj' _ D _) (by omega) (fun k e => by cases e; omega)⟩
      | true =>
        refine ⟨_, res14 _ _ _ _ _ _ 0 _ rfl rfl rfl (kp (by omega) hx.1).cell (kp (by omega) hx.2.1).cell (kp (by omega) hx.2.2).cell, ?_⟩
        exact ⟨rfl, hb.grown (grownBy_putObj' _ D _) (by omega) (fun k e => by cases e; omega)⟩
end Go.Pv
