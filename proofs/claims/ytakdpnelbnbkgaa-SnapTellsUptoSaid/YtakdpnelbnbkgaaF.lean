/- A part of the road: the interpreter of plain data and the proof that it is right. -/
import Derived.Test.YtakdpnelbnbkgaaE
import Derived.Test.YtakdpnelbnbkgaaW
set_option linter.unusedVariables false
set_option linter.unusedSimpArgs false
/- The document's Decode, walked. -/
namespace Go.Pv
open Go Go.Proofs Go.RowKit Go.Pv.Bs
set_option maxHeartbeats 30000000
set_option maxRecDepth 100000
set_option linter.unusedVariables false
set_option linter.unusedSimpArgs false
abbrev zH : Array Value := #[.slice none 0 0, .int .i64 0, .int .i64 0]
/-- Ahead of the reading. -/
structure QA (w W : World) : Prop where
  below : Below w.heap.size w W
  h0 : W.heap[w.heap.size]? = some (.cells zH 24 (0, 0))
theorem QA.of {w W W' : World} (h : QA w W) (hb : Below W.heap.size W W') : QA w W' :=
  ⟨h.below.trans (hb.mono h.below.size), (hb.block _ (Array.getElem?_eq_some_iff.1 h.h0).1).trans h.h0⟩
theorem QA.drew {w W : World} (h : QA w W) : QA w W.drew := ⟨Below.trans h.below (Below.drew (Below.refl _ _)), h.h0⟩
theorem QA.start (w : World) : QA w (w.alloc (.cells zH 24)) := ⟨(Below.refl _ w).alloc (Nat.le_refl _) _, heap_alloc_new w _⟩
theorem QA.lt {w W : World} (h : QA w W) : w.heap.size < W.heap.size := (Array.getElem?_eq_some_iff.1 h.h0).1
theorem R07_of_any (t : ByteArray) (ht : t.size ≤ big) (W : World) : Calls Try.prog 19 #[.string t] W fun e W' => e = .returned (.int .i64 ((sumV 0#32 t).toNat : Int)) ∧ Below W.heap.size W W' := by
  have g := f_R07_Of t
  rw [R07_Of_eq t ht, ob_some] at g
  refine (call_data goodL g rfl (fun i x d hx hd => ?_)).mono ?_
  · match i, hx, hd with
    | 0, hx, hd => cases hx; cases hd; exact ⟨rfl, .t _ _ _ (.sc _ rfl)⟩
    | i + 1, hx, hd => simp at hd
  · rintro e w' ⟨v, G', rfl, hb, hv⟩
    exact ⟨by rw [hv.sc], hb⟩
theorem R07_bytes_any (v : V) (W : World) : Calls Try.prog 18 #[.int .i64 (v.toNat : Int)] W fun e W' => e = .returned (.string (bytesOfL (leB 4 (v.toNat : Int)))) ∧ Below W.heap.size W W' := by
  have g := f_R07_Bytes (v.toNat : Int)
  rw [R07_Bytes_eq v, ob_some] at g
  refine (call_data goodL g rfl (fun i x d hx hd => ?_)).mono ?_
  · match i, hx, hd with
    | 0, hx, hd => cases hx; cases hd; exact ⟨rfl, .t _ _ _ (.sc _ rfl)⟩
    | i + 1, hx, hd => simp at hd
  · rintro e w' ⟨x, G', rfl, hb, hv⟩
    exact ⟨by rw [hv.sc], hb⟩
/-- What decoding comes to. -/
def DqPost (w : World) (o : GHeap × List Int × Int) (e : Ending) (w' : World) : Prop :=
  Below w.heap.size w w' ∧ ∃ u rv, e = .returned (.tuple #[.agg #[u, .int .i64 o.1.Cap, .int .i64 o.1.Last], rv, .int .i64 o.2.2]) ∧ ObRow w.heap.size w' u o.1.Objs ∧ IntRow w.heap.size w' rv o.2.1
theorem res11 {tmps : Array Value} {W : World} {b : Nat} {u rv ev : Value} {cap last : Int} (t2 : tmps[2]?.getD undef = .pointer (some ⟨b, 0, none⟩)) (t3 : tmps[3]?.getD undef = rv) (t4 : tmps[4]?.getD undef = ev) (h0 : W.heap[b]? = some (.cells #[u, .int .i64 cap, .int .i64 last] 24 (0, 0))) :
    (results Try.f11 tmps).run Try.prog W = .ok (.tuple #[.agg #[u, .int .i64 cap, .int .i64 last], rv, ev]) W := by
  have k0 : (loadVar 24 ⟨b, 0, none⟩).run Try.prog W = .ok (.agg #[u, .int .i64 cap, .int .i64 last]) W := run_loadVar_row W b 24 24 _ (0, 0) _ h0 Try.underlying24 rfl (by kernel_rfl)
  have hr : Try.f11.results = #[.cell 2 24, .tmp 3, .tmp 4] := rfl
  unfold results
  rw [hr]
  simp [t2, t3, t4, asAddr, k0]
theorem bad11 {w W : World} {a : Act} {k : Int} (hA : QA w W) (t2 : a.tmps[2]?.getD undef = .pointer (some ⟨w.heap.size, 0, none⟩)) (t3 : a.tmps[3]?.getD undef = .slice none 0 0) (t4 : a.tmps[4]?.getD undef = .int .i64 k) (hd : a.defers = []) :
    bodyPost Try.prog Try.f11 (DqPost w (noH, [], k)) .ret a W :=
  ⟨hd, _, res11 t2 t3 t4 hA.h0, hA.below, _, _, rfl, ⟨[], World.ownsRow_nil _ _ _ _, rfl⟩, IntRow.nil _ _⟩
theorem QA.put {w W : World} (h : QA w W) : QA w (((W.setCell ⟨w.heap.size, 0, none⟩ (.slice none 0 0)).setCell ⟨w.heap.size, 1, none⟩ (.int .i64 0)).setCell ⟨w.heap.size, 2, none⟩ (.int .i64 0)) :=
  ⟨((h.below.setCell (p := ⟨w.heap.size, 0, none⟩) (Nat.le_refl _) _).setCell (p := ⟨w.heap.size, 1, none⟩) (Nat.le_refl _) _).setCell (p := ⟨w.heap.size, 2, none⟩) (Nat.le_refl _) _,
    heap_setCell_same _ _ 2 _ _ _ (heap_setCell_same _ _ 1 _ _ _ (heap_setCell_same _ _ 0 _ _ _ h.h0))⟩
theorem QA.cells {w W : World} (h : QA w W) : W.cell? ⟨w.heap.size, 0, none⟩ = some (.slice none 0 0) ∧ W.cell? ⟨w.heap.size, 1, none⟩ = some (.int .i64 0) ∧ W.cell? ⟨w.heap.size, 2, none⟩ = some (.int .i64 0) ∧ (∀ j, W.frozen? ⟨w.heap.size, j, none⟩ = false) := by
  refine ⟨?_, ?_, ?_, fun j => Lib.frozen_of_heap h.h0 j⟩ <;> · rw [Lib.cell_of_heap h.h0]; rfl
def decQ (s : ByteArray) : GHeap × List Int × Int :=
  if s.size < 23 then (noH, [], 80)
  else if sumT (s.extract 0 (s.size - 4)) = s.extract (s.size - 4) s.size then
    let a := (takeR 3 (s.extract 0 (s.size - 4)) false).2
    let c := numR a.1 a.2
    let l := numR c.2.1 c.2.2
    let n := numR l.2.1 l.2.2
    let os := manyR objQ n.1.toNat n.2.1 n.2.2
    let r := listR os.2.1 os.2.2
    if r.2.2 = true ∨ encP ⟨os.1, c.1, l.1⟩ r.1 ≠ s then (noH, [], 82) else (⟨os.1, c.1, l.1⟩, r.1, 0)
  else (noH, [], 81)
theorem QA.offq {w W W' : World} {br : Nat} (h : QA w W) (hO : OffR br W W') (hb : w.heap.size < br) : QA w W' := by
  have := h.below.size
  exact ⟨⟨hO.os.trans h.below.os, hO.tape.trans h.below.tape, hO.output.trans h.below.output, Nat.le_trans h.below.size hO.size, fun k hk => (hO.block k (by omega) (by omega)).trans (h.below.block k hk)⟩, hO.cells h.h0 (by omega)⟩
/-- While it is read. -/
structure RZ (w : World) (br hb : Nat) (u : Value) (cap last : Int) (os : List GObj) (s : ByteArray) (b : Bool) (W : World) : Prop where
  qa : QA w W
  hh : W.heap[hb]? = some (.cells #[u, .int .i64 cap, .int .i64 last] 24 (0, 0))
  rd : Rq br s b W
  row : ObRow w.heap.size W u os
  n0 : w.heap.size < br
  n1 : br < hb
theorem Rq.kept3 {br B : Nat} {s : ByteArray} {b : Bool} {W W' : World} (hR : Rq br s b W) (h : OffR br W W') : Kept3 B W W' := fun g c fz _ hg =>
  h.block g (Array.getElem?_eq_some_iff.1 hg).1 fun e => by
    subst e
    have := hR.symm.trans hg
    cases this
theorem RZ.off {w : World} {br hb : Nat} {u : Value} {cap last : Int} {os : List GObj} {s s' : ByteArray} {b b' : Bool} {W W' : World} (h : RZ w br hb u cap last os s b W) (hO : OffR br W W') (hR : Rq br s' b' W') : RZ w br hb u cap last os s' b' W' := by
  obtain ⟨us, ho, hi⟩ := h.row
  have := h.n1
  exact ⟨h.qa.offq hO h.n0, hO.cells h.hh (by omega), hR, ⟨us, ownsRow_off ho (own_offq ho h.rd (by decide)) hO, hi.kept (h.rd.kept3 hO)⟩, h.n0, h.n1⟩
theorem RZ.cell {w : World} {br hb : Nat} {u : Value} {cap last : Int} {os : List GObj} {s : ByteArray} {b : Bool} {W : World} (h : RZ w br hb u cap last os s b W) : W.cell? ⟨hb, 0, none⟩ = some u ∧ W.cell? ⟨hb, 1, none⟩ = some (.int .i64 cap) ∧ W.cell? ⟨hb, 2, none⟩ = some (.int .i64 last) ∧ (∀ j, W.frozen? ⟨hb, j, none⟩ = false) := by
  refine ⟨?_, ?_, ?_, fun j => Lib.frozen_of_heap h.hh j⟩ <;> · rw [Lib.cell_of_heap h.hh]; rfl
theorem RZ.drew {w : World} {br hb : Nat} {u : Value} {cap last : Int} {os : List GObj} {s : ByteArray} {b : Bool} {W : World} (h : RZ w br hb u cap last os s b W) : RZ w br hb u cap last os s b W.drew := by
  obtain ⟨us, ho, hi⟩ := h.row
  exact ⟨h.qa.drew, h.hh, h.rd, ⟨us, ho, ObjsIn.kept (W := W) (W' := W.drew) (fun _ _ _ _ _ => rfl) hi⟩, h.n0, h.n1⟩
theorem QA.set {w W : World} {k j : Nat} (h : QA w W) (hk : w.heap.size < k) (v : Value) : QA w (W.setCell ⟨k, j, none⟩ v) :=
  ⟨h.below.setCell (p := ⟨k, j, none⟩) (by show w.heap.size ≤ k; omega) v, (heap_setCell_other _ ⟨k, j, none⟩ _ v (by show w.heap.size ≠ k; omega)).trans h.h0⟩
/-- But for the row. -/
structure RY (w : World) (br hb : Nat) (u : Value) (cap last : Int) (s : ByteArray) (b : Bool) (W : World) : Prop where
  qa : QA w W
  hh : W.heap[hb]? = some (.cells #[u, .int .i64 cap, .int .i64 last] 24 (0, 0))
  rd : Rq br s b W
  n0 : w.heap.size < br
  n1 : br < hb
theorem RY.cell {w : World} {br hb : Nat} {u : Value} {cap last : Int} {s : ByteArray} {b : Bool} {W : World} (h : RY w br hb u cap last s b W) : W.cell? ⟨hb, 0, none⟩ = some u ∧ (∀ j, W.frozen? ⟨hb, j, none⟩ = false) := by
  refine ⟨?_, fun j => Lib.frozen_of_heap h.hh j⟩
  rw [Lib.cell_of_heap h.hh]; rfl
theorem RY.put {w : World} {br hb : Nat} {u u' : Value} {cap last cap' last' : Int} {os' : List GObj} {s : ByteArray} {b : Bool} {W : World} {j : Nat} {v : Value} (h : RY w br hb u cap last s b W) (hr : ObRow w.heap.size W u' os') (hv : (#[u, .int .i64 cap, .int .i64 last] : Array Value).setIfInBounds j v = #[u', .int .i64 cap', .int .i64 last']) :
    RZ w br hb u' cap' last' os' s b (W.setCell ⟨hb, j, none⟩ v) := by
  have := h.n0; have := h.n1
  refine ⟨h.qa.set (by omega) v, by rw [← hv]; exact heap_setCell_same _ _ _ _ _ _ h.hh, h.rd.other (by omega) v, hr.kept fun g c T fz _ hT hg => heap_setCell_other _ ⟨hb, j, none⟩ g v fun e => ?_, h.n0, h.n1⟩
  subst e
  have := h.hh.symm.trans hg
  cases this
  rcases hT with h | h <;> cases h
theorem RZ.ry {w : World} {br hb : Nat} {u : Value} {cap last : Int} {os : List GObj} {s : ByteArray} {b : Bool} {W : World} (h : RZ w br hb u cap last os s b W) : RY w br hb u cap last s b W := ⟨h.qa, h.hh, h.rd, h.n0, h.n1⟩
theorem RZ.grow {w : World} {br hb : Nat} {u : Value} {cap last : Int} {os : List GObj} {si : ByteArray} {b : Bool} {W : World} (h : RZ w br hb u cap last os si b W) (us : List Value) (ho : W.ownsRow w.heap.size 41 6 u os.length us) (hi : ObjsIn w.heap.size W os us) (ob : GObj) (sl : Value) (hI : IntRow w.heap.size W sl ob.Slots) {o : Array Value} {g cg : Nat} (w6 : World)
    (hown : w6.ownsRow w.heap.size 41 6 (.slice (some ⟨g, 0, none⟩) (os.length + 1) cg) (os.length + 1) (us ++ (obV ob sl).toList)) (hgrow : (W.alloc (.cells o 41)).grownBy w6 u.ownBlock) :
    RY w br hb u cap last si b w6 ∧ ObRow w.heap.size w6 (.slice (some ⟨g, 0, none⟩) (os.length + 1) cg) (os ++ [ob]) := by
  have hb := h.qa.below.size
  have keep : ∀ k x, k < W.heap.size → u.ownBlock ≠ some k → W.heap[k]? = some x → w6.heap[k]? = some x := fun k x hk hne hx =>
    (hgrow.block k (by simp; omega) (fun e => hne e.symm)).trans ((Lib.alloc_old W _ k hk).trans hx)
  have lt : ∀ k x, W.heap[k]? = some x → k < W.heap.size := fun k x hx => (Array.getElem?_eq_some_iff.1 hx).1
  have K3 : Kept3 w.heap.size W w6 := fun q c fz _ hq => by
    rw [hq]
    refine keep q _ (lt _ _ hq) (fun e => ?_) hq
    rcases ho.2 with ⟨rfl, _⟩ | ⟨g', cap', cur, rfl, _, hg', _⟩
    · cases e
    · cases e; have := hq.symm.trans hg'; cases this
  refine ⟨⟨⟨(h.qa.below.alloc hb _).grown hgrow (by simp; omega) fun k hk => (ho.lt k hk).1, ?_⟩, ?_, ?_, h.n0, h.n1⟩, us ++ (obV ob sl).toList, ?_, (hi.kept K3).snoc (hI.kept K3)⟩
  · exact keep _ _ (lt _ _ h.qa.h0) (own_ne ho h.qa.h0 (by decide)) h.qa.h0
  · exact keep _ _ (lt _ _ h.hh) (own_ne ho h.hh (by decide)) h.hh
  · exact keep _ _ h.rd.lt (own_offq ho h.rd (by decide)) h.rd
  · rw [List.length_append]; exact hown
theorem good11 {w W : World} {br hb : Nat} {Au A : Option Addr} {n m cu c' : Nat} {cap last : Int} {os : List GObj} {r : List Int} {s5 : ByteArray} {b : Bool} {a : Act}
    (Z : RZ w br hb (.slice Au n cu) cap last os s5 b W) (hI : IntRow w.heap.size W (.slice A m c') r) (t2 : a.tmps[2]?.getD undef = .pointer (some ⟨w.heap.size, 0, none⟩)) (t3 : a.tmps[3]?.getD undef = .slice A m c') (t4 : a.tmps[4]?.getD undef = .int .i64 0) (hd : a.defers = []) :
    bodyPost Try.prog Try.f11 (DqPost w (⟨os, cap, last⟩, r, 0)) .ret a (((W.setCell ⟨w.heap.size, 0, none⟩ (.slice Au n cu)).setCell ⟨w.heap.size, 1, none⟩ (.int .i64 cap)).setCell ⟨w.heap.size, 2, none⟩ (.int .i64 last)) := by
  have h0 := heap_setCell_same _ _ 2 _ _ (.int .i64 last) (heap_setCell_same _ _ 1 _ _ (.int .i64 cap) (heap_setCell_same _ _ 0 _ _ (.slice Au n cu) Z.qa.h0))
  have hoth : ∀ g, g ≠ w.heap.size → (((W.setCell ⟨w.heap.size, 0, none⟩ (.slice Au n cu)).setCell ⟨w.heap.size, 1, none⟩ (.int .i64 cap)).setCell ⟨w.heap.size, 2, none⟩ (.int .i64 last)).heap[g]? = W.heap[g]? := fun g hg =>
    (heap_setCell_other _ ⟨w.heap.size, 2, none⟩ g _ hg).trans ((heap_setCell_other _ ⟨w.heap.size, 1, none⟩ g _ hg).trans (heap_setCell_other _ ⟨w.heap.size, 0, none⟩ g _ hg))
  have hne : ∀ g c T fz, (T = 3 ∨ T = 41) → W.heap[g]? = some (.cells c T fz) → g ≠ w.heap.size := fun g c T fz hT hg e => by
    subst e
    have := Z.qa.h0.symm.trans hg
    cases this
    rcases hT with h | h <;> cases h
  refine ⟨hd, _, res11 t2 t3 t4 h0, ?_, _, _, rfl, Z.row.kept fun g c T fz _ hT hg => hoth g (hne g c T fz hT hg), hI.kept fun g c fz _ hg => hoth g (hne g c 3 fz (.inl rfl) hg)⟩
  exact ((Z.qa.below.setCell (p := ⟨w.heap.size, 0, none⟩) (Nat.le_refl _) _).setCell (p := ⟨w.heap.size, 1, none⟩) (Nat.le_refl _) _).setCell (p := ⟨w.heap.size, 2, none⟩) (Nat.le_refl _) _
theorem decode_q (HE : EncLaw) (s : ByteArray) (hsz : s.size ≤ big) (w : World) : Calls Try.prog 11 #[.string s] w (DqPost w (decQ s)) := by
  obtain ⟨i0, hi, hz0, hz1, hz2⟩ := info_parts infoObj
  have A0 := QA.start w
  by_cases h1 : s.size < 23
  · have e0 : decQ s = (noH, [], 80) := by unfold decQ; rw [if_pos h1]
    rw [e0]
    have hd : decide ((s.size : Int) < 23) = true := decide_eq_true (by omega)
    have hh : (s.size : Int) < 23 := by omega
    go_enter Try.func11, Try.ntmps11
    go_wp2
    exact bad11 A0 rfl rfl rfl rfl
  · have hd : decide ((s.size : Int) < 23) = false := decide_eq_false (by omega)
    have hh : ¬ (s.size : Int) < 23 := by omega
    have hb := hsz
    unfold big at hb
    have hw : w64 ((s.size : Int) - 4) = ((s.size - 4 : Nat) : Int) := by rw [w64_id] <;> omega
    have hw2 : (0 : Int) ≤ ((s.size - 4 : Nat) : Int) ∧ ((s.size - 4 : Nat) : Int) ≤ (s.size : Int) := by omega
    have hts : (s.extract 0 (s.size - 4)).size ≤ big := by rw [ByteArray.size_extract]; unfold big; omega
    have hO : ∀ W, QA w W → Calls Try.prog 19 #[.string (s.extract 0 (s.size - 4))] W fun e W' => e = .returned (.int .i64 ((sumV 0#32 (s.extract 0 (s.size - 4))).toNat : Int)) ∧ QA w W' := fun W hW => (R07_of_any _ hts W).mono fun e W' ⟨a, b⟩ => ⟨a, hW.of b⟩
    have hY : ∀ W, QA w W → Calls Try.prog 18 #[.int .i64 ((sumV 0#32 (s.extract 0 (s.size - 4))).toNat : Int)] W fun e W' => e = .returned (.string (sumT (s.extract 0 (s.size - 4)))) ∧ QA w W' := fun W hW => (R07_bytes_any _ W).mono fun e W' ⟨a, b⟩ => ⟨a, hW.of b⟩
    have AD := A0.drew
    have hq0 : ∀ W, QA w W → W.cell? ⟨w.heap.size, 0, none⟩ = some (.slice none 0 0) := fun W h => h.cells.1
    have hq1 : ∀ W, QA w W → W.cell? ⟨w.heap.size, 1, none⟩ = some (.int .i64 0) := fun W h => h.cells.2.1
    have hq2 : ∀ W, QA w W → W.cell? ⟨w.heap.size, 2, none⟩ = some (.int .i64 0) := fun W h => h.cells.2.2.1
    have hqf : ∀ W j, QA w W → W.frozen? ⟨w.heap.size, j, none⟩ = false := fun W j h => h.cells.2.2.2 j
    unfold decQ
    rw [if_neg h1]
    clear hsz hb
    by_cases h2 : sumT (s.extract 0 (s.size - 4)) = s.extract (s.size - 4) s.size
    · rw [if_pos h2]
      dsimp only
      have hc : ((sumT (s.extract 0 (s.size - 4))).toList == (s.extract (s.size - 4) s.size).toList) = true := by
        rw [h2]; simp
      obtain ⟨_, zt, _⟩ := takeR_size 3 (s.extract 0 (s.size - 4)) false
      have T0 := fun br W (hW : Rq br (s.extract 0 (s.size - 4)) false W) => take_q br (s.extract 0 (s.size - 4)) false 3 W hW
      generalize takeR 3 (s.extract 0 (s.size - 4)) false = x at T0 zt ⊢
      obtain ⟨m, s0, b0⟩ := x
      dsimp only at T0 zt ⊢
      have T1 := fun br W (hW : Rq br s0 b0 W) => num_q br s0 b0 W hW
      obtain ⟨z1, _⟩ := numR_size s0 b0
      generalize numR s0 b0 = x at T1 z1 ⊢
      obtain ⟨cap, s1, b1⟩ := x
      dsimp only at T1 z1 ⊢
      have T2 := fun br W (hW : Rq br s1 b1 W) => num_q br s1 b1 W hW
      obtain ⟨z2, _⟩ := numR_size s1 b1
      generalize numR s1 b1 = x at T2 z2 ⊢
      obtain ⟨last, s2, b2⟩ := x
      dsimp only at T2 z2 ⊢
      have T3 := fun br W (hW : Rq br s2 b2 W) => num_q br s2 b2 W hW
      obtain ⟨z3, _⟩ := numR_size s2 b2
      generalize numR s2 b2 = x at T3 z3 ⊢
      obtain ⟨n, s3, b3⟩ := x
      dsimp only at T3 z3 ⊢
      generalize hres : (if (listR (manyR objQ n.toNat s3 b3).2.1 (manyR objQ n.toNat s3 b3).2.2).2.2 = true ∨ encP ⟨(manyR objQ n.toNat s3 b3).1, cap, last⟩ (listR (manyR objQ n.toNat s3 b3).2.1 (manyR objQ n.toNat s3 b3).2.2).1 ≠ s then ((noH, [], 82) : GHeap × List Int × Int) else (⟨(manyR objQ n.toNat s3 b3).1, cap, last⟩, (listR (manyR objQ n.toNat s3 b3).2.1 (manyR objQ n.toNat s3 b3).2.2).1, 0)) = res
      have KR : Hid _ := hres
      clear hres
      have K0 : Hid _ := T0
      have K1 : Hid _ := T1
      have K2 : Hid _ := T2
      have K3 : Hid _ := T3
      have KZ : Hid _ := And.intro zt (And.intro z1 (And.intro z2 z3))
      clear T0 T1 T2 T3 zt z1 z2 z3
      generalize hs1 : sumT (s.extract 0 (s.size - 4)) = st at *
      generalize hs2 : (sumV 0#32 (s.extract 0 (s.size - 4))).toNat = sv at *
      clear hs1 hs2 h2
      go_enter Try.func11, Try.ntmps11
      go_wp2
      go_region_with (first
          | (go_at_call 19; refine (hO _ (by assumption)).mono ?_; rintro e W' ⟨rfl, hW'⟩)
          | (go_at_call 18; refine (hY _ (by assumption)).mono ?_; rintro e W' ⟨rfl, hW'⟩))
      clear hO hY hc hq0 hq1 hq2 hqf A0 AD
      have hlt := hW'.lt
      have hR0 : Rq W'.heap.size (s.extract 0 (s.size - 4)) false (W'.alloc (.cells #[.string (s.extract 0 (s.size - 4)), .bool false] 48)) := heap_alloc_new W' _
      have hQ0 : QA w (W'.alloc (.cells #[.string (s.extract 0 (s.size - 4)), .bool false] 48)) := ⟨hW'.below.alloc hW'.below.size _, (Lib.alloc_old _ _ _ hlt).trans hW'.h0⟩
      clear hW'
      have H := K0.out _ _ hR0
      go_wp2_with (go_at_call 23; go_loud (refine H.mono ?_))
      rintro e w5 ⟨hO, rfl, hR⟩
      have hQ5 := hQ0.offq hO hlt
      have hlt5 := hR.lt
      have RZ0 : RZ w W'.heap.size w5.heap.size (.slice none 0 0) 0 0 [] s0 b0 (w5.alloc (.cells zH 24)) :=
        ⟨⟨hQ5.below.alloc hQ5.below.size _, (Lib.alloc_old _ _ _ (by omega)).trans hQ5.h0⟩, heap_alloc_new w5 _, hR.alloc _, ObRow.nil _ _, hlt, hlt5⟩
      clear H hR0 hQ0 hO hR hQ5
      have H := K1.out _ _ RZ0.rd
      go_wp2_with (go_at_call 24; go_loud (refine H.mono ?_))
      rintro e w6 ⟨hO, rfl, hR⟩
      have R1 := RZ0.off hO hR
      obtain ⟨q0, q1, q2, qf⟩ := R1.cell
      have RZ1 := R1.ry.put (j := 1) (cap' := cap) (last' := 0) R1.row rfl
      clear H hO hR R1 RZ0
      have H := K2.out _ _ RZ1.rd
      go_wp2_with (go_at_call 24; go_loud (refine H.mono ?_))
      rintro e w7 ⟨hO, rfl, hR⟩
      clear q0 q1 q2 qf
      have R1 := RZ1.off hO hR
      obtain ⟨q0, q1, q2, qf⟩ := R1.cell
      have RZ2 := R1.ry.put (j := 2) (cap' := cap) (last' := last) R1.row rfl
      clear H hO hR R1 RZ1
      have H := K3.out _ _ RZ2.rd
      go_wp2_with (go_at_call 24; go_loud (refine H.mono ?_))
      rintro e w8 ⟨hO, rfl, hR⟩
      clear q0 q1 q2 qf
      have RZ3 := RZ2.off hO hR
      clear H hO hR RZ2
      obtain ⟨zt, z1, z2, z3⟩ := KZ.out
      clear KZ K0 K1 K2 K3
      have hts' : (s.extract 0 (s.size - 4)).size ≤ 1099511627776 := hts
      have hs3 : s3.size ≤ 1099511627776 := by omega
      clear zt z1 z2 z3 hts'
      generalize W'.heap.size = br at *
      generalize w5.heap.size = hb at *
      have hNn : ∀ i : Nat, i < n.toNat ↔ (i : Int) < n := fun i => by omega
      generalize n.toNat = N at *
      go_wp2
      go_loopw [9] (fun j wr => ∃ (i : Nat) (os : List GObj) (si : ByteArray) (bi : Bool) (u : Value), j = .int .i64 i ∧ i ≤ N ∧ os.length = i ∧ manyR objQ N s3 b3 = (os ++ (manyR objQ (N - i) si bi).1, (manyR objQ (N - i) si bi).2) ∧ 12 * i + si.size ≤ s3.size + (if bi = true then 12 else 0) ∧ si.size ≤ s3.size ∧ (∀ o ∈ os, FitO o) ∧ RZ w br hb u cap last os si bi wr)
        (fun j _ => (N - RowKit.intOf j).toNat)
      case atStart => exact ⟨0, [], s3, b3, _, rfl, Nat.zero_le _, rfl, by simp, by omega, Nat.le_refl _, fun o ho => (by cases ho), RZ3⟩
      case round =>
        obtain ⟨i, os, si, bi, u, rfl, hin, hol, hm, hz, hzz, hfit, S⟩ := hrel
        by_cases hgo : i < N ∧ bi = false
        · obtain ⟨hik, rfl⟩ := hgo
          have hlt := (hNn i).1 hik
          have hdl : decide ((i : Int) < n) = true := decide_eq_true hlt
          have m1 := manyR_step objQ hik hm
          have hz : 12 * i + si.size ≤ s3.size := by simpa using hz
          obtain ⟨f1, y1, y2⟩ := objQ_size si false (by unfold big; omega)
          have HC : ∀ W, RZ w br hb u cap last os si false W → Calls Try.prog 25 #[.pointer (some ⟨br, 0, none⟩)] W fun e W' => ∃ A c', e = .returned (.agg (obV (objQ si false).1 (.slice A (objQ si false).1.Slots.length c'))) ∧ RZ w br hb u cap last os (objQ si false).2.1 (objQ si false).2.2 W' ∧ IntRow w.heap.size W' (.slice A (objQ si false).1.Slots.length c') (objQ si false).1.Slots := fun W hW => by
            refine (object_q br si false (by unfold big; omega) W hW.rd).mono ?_
            rintro e W' ⟨hO, sl, he, hR, hI⟩
            obtain ⟨A, c', rfl⟩ : ∃ A c', sl = .slice A (objQ si false).1.Slots.length c' := by
              rcases ownsRow_form hI with ⟨h1, h2⟩ | ⟨g, c', h1, _⟩
              · exact ⟨none, 0, by rw [h1, h2]⟩
              · exact ⟨_, c', h1⟩
            exact ⟨A, c', he, hW.off hO hR, IntRow.le hI hW.qa.below.size⟩
          generalize objQ si false = x at m1 f1 y1 y2 HC
          obtain ⟨ob, s4, b4⟩ := x
          dsimp only at m1 f1 y1 y2 HC
          have hz2' : 12 * (i + 1) + s4.size ≤ s3.size + (if b4 = true then 12 else 0) := by
            cases b4 with
            | true => simp; omega
            | false => have := (y2 rfl).1; simp; omega
          have hfit' : ∀ o ∈ os ++ [ob], FitO o := fun o ho => by
            rcases List.mem_append.1 ho with h | h
            · exact hfit o h
            · rcases List.mem_singleton.1 h with rfl; exact f1
          have hzz' : s4.size ≤ s3.size := by omega
          have HK : Hid _ := And.intro m1 (And.intro hz2' (And.intro hzz' hfit'))
          have hib : i * 12 ≤ 1099511627776 := by omega
          clear hm m1 hz2' hfit' hfit y2 hNn hz f1 hzz hzz'
          have SD := S.drew
          obtain ⟨q0, _, _, _⟩ := SD.cell
          have c1 := S.rd.c1
          clear S RZ3
          go_wp2
          clear c1
          refine wp_region_any (by kernel_rfl) ?_
          change wpAny _ _ _ _ _ _ _ (World.drew _)
          refine wpAny_take (i := 0) (v := .pointer (some ⟨hb, 0, none⟩)) rfl (by kernel_rfl) (by kernel_rfl) (by kernel_rfl) (fun c a w h => h) (Or.inl ⟨by rfl, ?_⟩) ?_
          · intro w
            go_simp
          refine wpAny_take (i := 2) (v := .pointer (some ⟨br, 0, none⟩)) rfl (by kernel_rfl) (by kernel_rfl) (by kernel_rfl) (fun c a w h => h) (Or.inl ⟨by rfl, ?_⟩) ?_
          · intro w
            go_simp
          refine wpAny_ready (rs := [1, 3]) (by kernel_rfl) (by simp) ?_
          refine AllReady.cons rfl (fun K hK => ?_) (AllReady.cons rfl (fun K hK => ?_) AllReady.nil)
          · go_simp
            refine hK _ _ ?_
            clear hK K
            refine wpAny_ready (rs := [3]) (by kernel_rfl) (by simp) ?_
            refine AllReady.cons rfl (fun K hK => ?_) AllReady.nil
            go_simp
            refine (HC _ SD).mono ?_
            rintro e W' ⟨A, c', rfl, S', hI⟩
            refine hK _ _ ?_
            clear hK K q0
            have hl := S'.rd.lt
            have hl2 := (Array.getElem?_eq_some_iff.1 S'.hh).1
            obtain ⟨q0, _, _, qf⟩ := S'.cell
            obtain ⟨us, ho, hi'⟩ := S'.row
            refine wpAny_ready (rs := [4]) (by kernel_rfl) (by simp) ?_
            refine AllReady.cons rfl (fun K hK => ?_) AllReady.nil
            go_simp
            refine hK _ _ ?_
            clear hK K
            refine wpAny_ready (rs := [5]) (by kernel_rfl) (by simp) ?_
            refine AllReady.cons rfl (fun K hK => ?_) AllReady.nil
            refine step_append_lies _ rfl _ _ 22 rfl w.heap.size 41 i0 (.agg zO) 6 72 Try.underlying22 hi hz0 hz1 hz2 rfl (by decide) u os.length us rfl (ho.alloc _) ⟨W'.heap.size, 0, none⟩ 1 1 (obV ob (.slice A ob.Slots.length c')).toList rfl rfl (news6 _ _ _ rfl) (by intro x hx; simp at hx; rcases hx with rfl | rfl | rfl | rfl | rfl | rfl <;> rfl) (by omega) (by unfold maxLen; omega) (by omega) (by have := S'.qa.below.size; simp; omega) _ rfl ?_
            intro g cg w6 hown hgrow hat hlt6
            refine hK _ _ ?_
            clear hK K
            have S6 := S'.grow us ho hi' ob (.slice A ob.Slots.length c') hI w6 hown hgrow
            obtain ⟨q0, qf⟩ := S6.1.cell
            refine wpAny_ready (rs := [6]) (by kernel_rfl) (by simp) ?_
            refine AllReady.cons rfl (fun K hK => ?_) AllReady.nil
            go_simp
            refine hK _ _ ?_
            clear hK K
            refine wpAny_ready (rs := [7]) (by kernel_rfl) (by simp) ?_
            refine AllReady.cons rfl (fun K hK => ?_) AllReady.nil
            go_simp
            refine hK _ _ ?_
            clear hK K
            refine wpAny_done (by kernel_rfl) ?_ _
            have S7 := S6.1.put (j := 0) (cap' := cap) (last' := last) S6.2 rfl
            rw [hol] at S7
            clear S6 q0 qf hown hgrow hat hlt6 ho hi' hI S' SD HC
            go_wp2
            have hw : w64 ((i : Int) + 1) = ((i + 1 : Nat) : Int) := by rw [w64_id] <;> omega
            refine ⟨⟨i + 1, os ++ [ob], s4, b4, _, by rw [hw], by omega, by simp [hol], HK.out.1, HK.out.2.1, HK.out.2.2.1, HK.out.2.2.2, S7⟩, ?_⟩
            rw [hw]; simp only [intOf]; omega
          · go_simp
            refine (HC _ SD).mono ?_
            rintro e W' ⟨A, c', rfl, S', hI⟩
            refine hK _ _ ?_
            clear hK K q0
            have hl := S'.rd.lt
            have hl2 := (Array.getElem?_eq_some_iff.1 S'.hh).1
            obtain ⟨q0, _, _, qf⟩ := S'.cell
            obtain ⟨us, ho, hi'⟩ := S'.row
            refine wpAny_ready (rs := [1, 4]) (by kernel_rfl) (by simp) ?_
            refine AllReady.cons rfl (fun K hK => ?_) (AllReady.cons rfl (fun K hK => ?_) AllReady.nil)
            · go_simp
              refine hK _ _ ?_
              clear hK K
              refine wpAny_ready (rs := [4]) (by kernel_rfl) (by simp) ?_
              refine AllReady.cons rfl (fun K hK => ?_) AllReady.nil
              go_simp
              refine hK _ _ ?_
              clear hK K
              refine wpAny_ready (rs := [5]) (by kernel_rfl) (by simp) ?_
              refine AllReady.cons rfl (fun K hK => ?_) AllReady.nil
              refine step_append_lies _ rfl _ _ 22 rfl w.heap.size 41 i0 (.agg zO) 6 72 Try.underlying22 hi hz0 hz1 hz2 rfl (by decide) u os.length us rfl (ho.alloc _) ⟨W'.heap.size, 0, none⟩ 1 1 (obV ob (.slice A ob.Slots.length c')).toList rfl rfl (news6 _ _ _ rfl) (by intro x hx; simp at hx; rcases hx with rfl | rfl | rfl | rfl | rfl | rfl <;> rfl) (by omega) (by unfold maxLen; omega) (by omega) (by have := S'.qa.below.size; simp; omega) _ rfl ?_
              intro g cg w6 hown hgrow hat hlt6
              refine hK _ _ ?_
              clear hK K
              have S6 := S'.grow us ho hi' ob (.slice A ob.Slots.length c') hI w6 hown hgrow
              obtain ⟨q0, qf⟩ := S6.1.cell
              refine wpAny_ready (rs := [6]) (by kernel_rfl) (by simp) ?_
              refine AllReady.cons rfl (fun K hK => ?_) AllReady.nil
              go_simp
              refine hK _ _ ?_
              clear hK K
              refine wpAny_ready (rs := [7]) (by kernel_rfl) (by simp) ?_
              refine AllReady.cons rfl (fun K hK => ?_) AllReady.nil
              go_simp
              refine hK _ _ ?_
              clear hK K
              refine wpAny_done (by kernel_rfl) ?_ _
              have S7 := S6.1.put (j := 0) (cap' := cap) (last' := last) S6.2 rfl
              rw [hol] at S7
              clear S6 q0 qf hown hgrow hat hlt6 ho hi' hI S' SD HC
              go_wp2
              have hw : w64 ((i : Int) + 1) = ((i + 1 : Nat) : Int) := by rw [w64_id] <;> omega
              refine ⟨⟨i + 1, os ++ [ob], s4, b4, _, by rw [hw], by omega, by simp [hol], HK.out.1, HK.out.2.1, HK.out.2.2.1, HK.out.2.2.2, S7⟩, ?_⟩
              rw [hw]; simp only [intOf]; omega
            · go_simp
              refine hK _ _ ?_
              clear hK K
              refine wpAny_ready (rs := [1]) (by kernel_rfl) (by simp) ?_
              refine AllReady.cons rfl (fun K hK => ?_) AllReady.nil
              go_simp
              refine hK _ _ ?_
              clear hK K
              refine wpAny_ready (rs := [5]) (by kernel_rfl) (by simp) ?_
              refine AllReady.cons rfl (fun K hK => ?_) AllReady.nil
              refine step_append_lies _ rfl _ _ 22 rfl w.heap.size 41 i0 (.agg zO) 6 72 Try.underlying22 hi hz0 hz1 hz2 rfl (by decide) u os.length us rfl (ho.alloc _) ⟨W'.heap.size, 0, none⟩ 1 1 (obV ob (.slice A ob.Slots.length c')).toList rfl rfl (news6 _ _ _ rfl) (by intro x hx; simp at hx; rcases hx with rfl | rfl | rfl | rfl | rfl | rfl <;> rfl) (by omega) (by unfold maxLen; omega) (by omega) (by have := S'.qa.below.size; simp; omega) _ rfl ?_
              intro g cg w6 hown hgrow hat hlt6
              refine hK _ _ ?_
              clear hK K
              have S6 := S'.grow us ho hi' ob (.slice A ob.Slots.length c') hI w6 hown hgrow
              obtain ⟨q0, qf⟩ := S6.1.cell
              refine wpAny_ready (rs := [6]) (by kernel_rfl) (by simp) ?_
              refine AllReady.cons rfl (fun K hK => ?_) AllReady.nil
              go_simp
              refine hK _ _ ?_
              clear hK K
              refine wpAny_ready (rs := [7]) (by kernel_rfl) (by simp) ?_
              refine AllReady.cons rfl (fun K hK => ?_) AllReady.nil
              go_simp
              refine hK _ _ ?_
              clear hK K
              refine wpAny_done (by kernel_rfl) ?_ _
              have S7 := S6.1.put (j := 0) (cap' := cap) (last' := last) S6.2 rfl
              rw [hol] at S7
              clear S6 q0 qf hown hgrow hat hlt6 ho hi' hI S' SD HC
              go_wp2
              have hw : w64 ((i : Int) + 1) = ((i + 1 : Nat) : Int) := by rw [w64_id] <;> omega
              refine ⟨⟨i + 1, os ++ [ob], s4, b4, _, by rw [hw], by omega, by simp [hol], HK.out.1, HK.out.2.1, HK.out.2.2.1, HK.out.2.2.2, S7⟩, ?_⟩
              rw [hw]; simp only [intOf]; omega
        · have hfin : manyR objQ N s3 b3 = (os, si, bi) := by
            rcases (by by_cases h : i < N; (cases bi; exact absurd ⟨h, rfl⟩ hgo; exact .inr rfl); exact .inl h : ¬ i < N ∨ bi = true) with h | rfl
            · have : i = N := by omega
              subst this
              rw [hm, Nat.sub_self]; simp [manyR]
            · rw [hm, manyR_bad]; simp
          have hob : os.length ≤ 1099511627776 ∧ si.size ≤ 1099511627776 := by
            cases bi with
            | true => simp only [if_true] at hz; omega
            | false => simp at hz; omega
          have hsi : si.size ≤ big := hob.2
          have hsl : Slim ⟨os, cap, last⟩ := ⟨hob.1, fun o ho => (hfit o ho).1⟩
          have hbt : BitsR ⟨os, cap, last⟩ := fun o ho => (hfit o ho).2
          have KR' := KR.out
          rw [hfin] at KR'
          dsimp only at KR'
          have HL := fun W (hW : Rq br si bi W) => list_q br si bi hsi W hW
          obtain ⟨l1, _⟩ := listR_size si bi
          generalize listR si bi = x at KR' HL l1
          obtain ⟨r, s5, b5⟩ := x
          dsimp only at KR' HL l1
          have hr : r.length ≤ big := by unfold big; omega
          have HX : Hid _ := And.intro KR' (And.intro hsl (And.intro hbt hr))
          have H := HL _ S.rd
          have HD : Hid _ := HL
          clear KR' hsl hbt hr HL hz hzz hfit hfin hm KR l1 hob hsi RZ3
          have c1 := S.rd.c1
          have fin : ∀ (a : Act) (rest : Prop), True := fun _ _ => trivial
          clear fin
          rcases (by by_cases h : i < N; (cases bi; exact absurd ⟨h, rfl⟩ hgo; exact .inr ⟨h, rfl⟩); exact .inl h : ¬ i < N ∨ (i < N ∧ bi = true)) with h | ⟨h, rfl⟩
          · have hlt : ¬ (i : Int) < n := fun e => h ((hNn i).2 e)
            have hdl : decide ((i : Int) < n) = false := decide_eq_false hlt
            clear hgo hNn h
            go_wp2_with (go_at_call 26; go_loud (refine H.mono ?_))
            rintro e w9 ⟨hO, rv, rfl, hR, hI⟩
            clear c1 H HD
            have hI := IntRow.le hI S.qa.below.size
            have Z := S.off hO hR
            clear S hO
            obtain ⟨e0, g1, g2, g3⟩ := HX.out
            clear HX
            have c1 := hR.c1
            have c1f := hR.fz
            cases b5 with
            | true =>
              rw [if_pos (.inl rfl)] at e0
              subst e0
              obtain ⟨p0, p1, p2, pf⟩ := Z.qa.cells
              have Q := Z.qa.put
              clear Z hI hR
              go_wp2
              exact bad11 Q rfl rfl rfl rfl
            | false =>
              obtain ⟨A, c', rfl⟩ : ∃ A c', rv = .slice A r.length c' := by
                rcases ownsRow_form hI with ⟨h1, h2⟩ | ⟨g, c', h1, _⟩
                · exact ⟨none, 0, by rw [h1, h2]⟩
                · exact ⟨_, c', h1⟩
              obtain ⟨Au, cu, hu⟩ : ∃ Au cu, u = .slice Au os.length cu := by
                obtain ⟨us, ho, _⟩ := Z.row
                rcases ownsRow_form ho with ⟨h1, h2⟩ | ⟨g, c', h1, _⟩
                · exact ⟨none, 0, by rw [h1, h2]⟩
                · exact ⟨_, c', h1⟩
              rw [hol] at hu
              subst hu
              have HE' := HE w.heap.size w9 _ _ ⟨os, cap, last⟩ r Z.qa.below.size g1 g2 g3 Z.row hI
              obtain ⟨q0, q1, q2, qf⟩ := Z.cell
              have HZ : Hid _ := And.intro Z (And.intro hI hR)
              clear g1 g2 g3 Z hI hR
              generalize encP ⟨os, cap, last⟩ r = es at e0 HE'
              by_cases hes : es = s
              · have hc : (es.toList == s.toList) = true := by rw [hes]; simp
                rw [if_neg (by rintro (h | h); cases h; exact h hes)] at e0
                subst e0
                go_wp2_with (go_at_call 13; go_loud (refine HE'.mono ?_))
                rintro e w10 ⟨rfl, hb⟩
                clear q0 q1 q2 qf c1 c1f HE'
                obtain ⟨Z, hI, hR⟩ := HZ.out
                have Z := Z.off (.of hb) (hR.below hb)
                have hI := hI.kept (hR.kept3 (.of hb))
                obtain ⟨q0, q1, q2, qf⟩ := Z.cell
                obtain ⟨p0, p1, p2, pf⟩ := Z.qa.cells
                have HF : Hid _ := And.intro Z hI
                clear Z hI HZ hR hb
                go_wp2
                refine good11 HF.out.1 HF.out.2 ?_ ?_ ?_ ?_ <;> rfl
              · have hc : (es.toList == s.toList) = false := by
                  rw [beq_eq_false_iff_ne]; intro e; exact hes (ba_ext e)
                rw [if_pos (.inr hes)] at e0
                subst e0
                go_wp2_with (go_at_call 13; go_loud (refine HE'.mono ?_))
                rintro e w10 ⟨rfl, hb⟩
                clear q0 q1 q2 qf c1 c1f HE'
                obtain ⟨Z, hI, hR⟩ := HZ.out
                have Z := Z.off (.of hb) (hR.below hb)
                obtain ⟨p0, p1, p2, pf⟩ := Z.qa.cells
                have Q := Z.qa.put
                clear Z hI HZ hR hb hes
                go_wp2
                exact bad11 Q rfl rfl rfl rfl
          · have hlt := (hNn i).1 h
            have hdl : decide ((i : Int) < n) = true := decide_eq_true hlt
            clear hgo hNn h
            go_wp2_with (go_at_call 26; go_loud (refine H.mono ?_))
            rintro e w9 ⟨hO, rv, rfl, hR, hI⟩
            clear c1 H HD
            have hI := IntRow.le hI S.qa.below.size
            have Z := S.off hO hR
            clear S hO
            obtain ⟨e0, g1, g2, g3⟩ := HX.out
            clear HX
            have c1 := hR.c1
            have c1f := hR.fz
            cases b5 with
            | true =>
              rw [if_pos (.inl rfl)] at e0
              subst e0
              obtain ⟨p0, p1, p2, pf⟩ := Z.qa.cells
              have Q := Z.qa.put
              clear Z hI hR
              go_wp2
              exact bad11 Q rfl rfl rfl rfl
            | false =>
              obtain ⟨A, c', rfl⟩ : ∃ A c', rv = .slice A r.length c' := by
                rcases ownsRow_form hI with ⟨h1, h2⟩ | ⟨g, c', h1, _⟩
                · exact ⟨none, 0, by rw [h1, h2]⟩
                · exact ⟨_, c', h1⟩
              obtain ⟨Au, cu, hu⟩ : ∃ Au cu, u = .slice Au os.length cu := by
                obtain ⟨us, ho, _⟩ := Z.row
                rcases ownsRow_form ho with ⟨h1, h2⟩ | ⟨g, c', h1, _⟩
                · exact ⟨none, 0, by rw [h1, h2]⟩
                · exact ⟨_, c', h1⟩
              rw [hol] at hu
              subst hu
              have HE' := HE w.heap.size w9 _ _ ⟨os, cap, last⟩ r Z.qa.below.size g1 g2 g3 Z.row hI
              obtain ⟨q0, q1, q2, qf⟩ := Z.cell
              have HZ : Hid _ := And.intro Z (And.intro hI hR)
              clear g1 g2 g3 Z hI hR
              generalize encP ⟨os, cap, last⟩ r = es at e0 HE'
              by_cases hes : es = s
              · have hc : (es.toList == s.toList) = true := by rw [hes]; simp
                rw [if_neg (by rintro (h | h); cases h; exact h hes)] at e0
                subst e0
                go_wp2_with (go_at_call 13; go_loud (refine HE'.mono ?_))
                rintro e w10 ⟨rfl, hb⟩
                clear q0 q1 q2 qf c1 c1f HE'
                obtain ⟨Z, hI, hR⟩ := HZ.out
                have Z := Z.off (.of hb) (hR.below hb)
                have hI := hI.kept (hR.kept3 (.of hb))
                obtain ⟨q0, q1, q2, qf⟩ := Z.cell
                obtain ⟨p0, p1, p2, pf⟩ := Z.qa.cells
                have HF : Hid _ := And.intro Z hI
                clear Z hI HZ hR hb
                go_wp2
                refine good11 HF.out.1 HF.out.2 ?_ ?_ ?_ ?_ <;> rfl
              · have hc : (es.toList == s.toList) = false := by
                  rw [beq_eq_false_iff_ne]; intro e; exact hes (ba_ext e)
                rw [if_pos (.inr hes)] at e0
                subst e0
                go_wp2_with (go_at_call 13; go_loud (refine HE'.mono ?_))
                rintro e w10 ⟨rfl, hb⟩
                clear q0 q1 q2 qf c1 c1f HE'
                obtain ⟨Z, hI, hR⟩ := HZ.out
                have Z := Z.off (.of hb) (hR.below hb)
                obtain ⟨p0, p1, p2, pf⟩ := Z.qa.cells
                have Q := Z.qa.put
                clear Z hI HZ hR hb hes
                go_wp2
                exact bad11 Q rfl rfl rfl rfl
    · rw [if_neg h2]
      have hc : ((sumT (s.extract 0 (s.size - 4))).toList == (s.extract (s.size - 4) s.size).toList) = false := by
        rw [beq_eq_false_iff_ne]; intro e; exact h2 (ba_ext e)
      generalize hs1 : sumT (s.extract 0 (s.size - 4)) = st at *
      generalize hs2 : (sumV 0#32 (s.extract 0 (s.size - 4))).toNat = sv at *
      clear hs1 hs2 h2
      go_enter Try.func11, Try.ntmps11
      go_wp2
      go_region_with (first
          | (go_at_call 19; refine (hO _ (by assumption)).mono ?_; rintro e W' ⟨rfl, hW'⟩)
          | (go_at_call 18; refine (hY _ (by assumption)).mono ?_; rintro e W' ⟨rfl, hW'⟩))
      all_goals (
        go_wp2
        exact bad11 (QA.put (by assumption)) rfl rfl rfl rfl)
end Go.Pv
