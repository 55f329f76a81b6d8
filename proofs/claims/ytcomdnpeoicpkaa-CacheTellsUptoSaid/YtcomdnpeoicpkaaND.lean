/- A part of the road: the interpreter of plain data and the proof that it is right. -/
import Derived.Test.YtcomdnpeoicpkaaHC
import Derived.Test.YtcomdnpeoicpkaaV
import Derived.Test.YtcomdnpeoicpkaaW
set_option linter.unusedVariables false
set_option linter.unusedSimpArgs false
/- Values in plain words; what is reached in a graph, by a stack and by rounds. -/
namespace Go.Pv
/-! ### values -/
/-- The number of the object that a value is the ref of. -/
def at? (v : Int) : Option Nat := if v % 2 = 0 ∧ 0 ≤ v ∧ v ≤ 2097150 then some (v / 2).toNat else none
/-- The number that a value is. -/
def n? (v : Int) : Option Int := if v % 2 = 1 ∧ -2147483647 ≤ v ∧ v ≤ 2147483647 then some (v / 2) else none
def atP (v : Int) : Int × Bool := match at? v with | some i => ((i : Int), true) | none => (0, false)
def nP (v : Int) : Int × Bool := match n? v with | some i => (i, true) | none => (0, false)
/-- That number, of n objects; -1: none. -/
def refI (n : Nat) (v : Int) : Int := match at? v with | some i => if i < n then (i : Int) else -1 | none => -1
/-- A value of a heap of n objects. -/
def hasB (n : Nat) (v : Int) : Bool := (n? v).isSome || (match at? v with | some i => decide (i < n) | none => false)
theorem atv_some {v : Int} {i : Nat} : at? v = some i ↔ v = 2 * (i : Int) ∧ i ≤ 1048575 := by
  unfold at?
  constructor
  · intro h
    split at h
    · simp only [Option.some.injEq] at h; omega
    · cases h
  · rintro ⟨rfl, h⟩
    rw [if_pos (by omega)]
    congr 1; omega
/-! ### bits -/
theorem bAnd_one (v : Int) : bAnd .i64 v 1 = v % 2 := by
  have h : (BitVec.ofInt IntKind.i64.bits v &&& BitVec.ofInt IntKind.i64.bits 1).toNat = (v % 2).toNat := by
    show (BitVec.ofInt 64 v &&& BitVec.ofInt 64 1).toNat = _
    rw [BitVec.toNat_and, BitVec.toNat_ofInt, BitVec.toNat_ofInt]
    show (v % ((2 ^ 64 : Nat) : Int)).toNat &&& 1 = _
    rw [Nat.and_one_is_mod]
    omega
  unfold bAnd
  rw [h, wrap_w64, w64_id (by omega) (by omega)]
  omega
theorem iShr_one (v : Int) : iShr .i64 v 1 = v / 2 := by
  show v.fdiv (2 ^ (min (1 : Int).toNat 64)) = v / 2
  rw [show (2 : Int) ^ (min (1 : Int).toNat 64) = 2 from rfl, Int.fdiv_eq_ediv_of_nonneg _ (by omega)]
theorem tmod_two (v : Int) : (v.tmod 2 = 0) ↔ v % 2 = 0 := by
  rw [← Int.dvd_iff_tmod_eq_zero, Int.dvd_iff_emod_eq_zero]
/-! ### what is reached -/
/-- What is reached from values, in a graph of n objects that have values. -/
inductive Rch (n : Nat) (vals : Nat → List Int) (rs : List Int) : Nat → Prop
  | root {v : Int} {i : Nat} (hv : v ∈ rs) (h : at? v = some i) (hi : i < n) : Rch n vals rs i
  | step {i : Nat} {v : Int} {j : Nat} (hr : Rch n vals rs i) (hv : v ∈ vals i) (h : at? v = some j) (hj : j < n) : Rch n vals rs j
/-- Marks. -/
def isM (M : List Bool) (i : Nat) : Bool := M.getD i false
/-- The numbers that are marked, rising. -/
def idxs (M : List Bool) : List Int := ((List.range M.length).filter (isM M)).map Int.ofNat
/-- A value's object is marked, and laid onto a stack. -/
def push1 (n : Nat) (p : List Bool × List Int) (v : Int) : List Bool × List Int :=
  match at? v with
  | none => p
  | some i => if i < n then if isM p.1 i = true then p else (p.1.set i true, p.2 ++ [(i : Int)]) else p
def falses (M : List Bool) : Nat := M.count false
structure Pushed (n : Nat) (M : List Bool) (S : List Int) (vs : List Int) (M' : List Bool) (S' : List Int) : Prop where
  len : M'.length = M.length
  up : ∀ i, isM M i = true → isM M' i = true
  all : ∀ v ∈ vs, ∀ i, at? v = some i → i < n → isM M' i = true
  only : ∀ i, isM M' i = true → isM M i = true ∨ ∃ v ∈ vs, at? v = some i ∧ i < n
  new : ∀ i, isM M' i = true → isM M i = true ∨ (i : Int) ∈ S'
  stack : ∃ E, S' = S ++ E ∧ ∀ s ∈ E, ∃ i : Nat, s = (i : Int) ∧ isM M' i = true
  size : falses M' + S'.length = falses M + S.length
/-- What holds while objects wait on the stack. -/
structure Dfs (n : Nat) (vals : Nat → List Int) (rs : List Int) (M : List Bool) (S : List Int) : Prop where
  len : M.length = n
  st : ∀ s ∈ S, ∃ i : Nat, s = (i : Int) ∧ isM M i = true
  sound : ∀ i, isM M i = true → Rch n vals rs i
  closed : ∀ i, isM M i = true → (i : Int) ∈ S ∨ ∀ v ∈ vals i, ∀ j, at? v = some j → j < n → isM M j = true
  roots : ∀ v ∈ rs, ∀ j, at? v = some j → j < n → isM M j = true
/-! ### by rounds -/
end Go.Pv

/- Numbering objects as they are met; heaps that are the same but for numbers. -/
namespace Go.Pv
/-! ### lists of numbers -/
/-! ### meeting -/
def meet (l : List Nat) (v : Int) : List Nat := match at? v with | none => l | some i => if i ∈ l then l else l ++ [i]
def meets (l : List Nat) (vs : List Int) : List Nat := vs.foldl meet l
theorem meets_cons (l : List Nat) (v : Int) (vs : List Int) : meets l (v :: vs) = meets (meet l v) vs := rfl
/-! ### all that is met -/
def bfs (vals : Nat → List Int) : Nat → Nat → List Nat → List Nat
  | 0, _, l => l
  | f + 1, k, l => match l[k]? with
    | some i => bfs vals f (k + 1) (meets l (vals i))
    | none => l
/-- A graph of n objects whose values lead to these alone. -/
def Fits (n : Nat) (vals : Nat → List Int) : Prop := ∀ i, i < n → ∀ v ∈ vals i, hasB n v = true
structure Met (n : Nat) (vals : Nat → List Int) (k : Nat) (l r : List Nat) : Prop where
  pre : ∃ e, r = l ++ e
  nodup : r.Nodup
  lt : ∀ x ∈ r, x < n
  closed : ∀ t (h : t < r.length), k ≤ t → ∀ v ∈ vals r[t], ∀ j, at? v = some j → j ∈ r
  only : ∀ {rs : List Int}, (∀ x ∈ l, Rch n vals rs x) → ∀ x ∈ r, Rch n vals rs x
/-- The numbers of what is reached, as they are met. (Graphs have at most 256 objects.) -/
def order (vals : Nat → List Int) (rs : List Int) : List Nat := bfs vals 256 0 (meets [] rs)
structure Ordered (n : Nat) (vals : Nat → List Int) (rs : List Int) (l : List Nat) : Prop where
  nodup : l.Nodup
  lt : ∀ x ∈ l, x < n
  roots : ∀ v ∈ rs, ∀ j, at? v = some j → j ∈ l
  closed : ∀ i ∈ l, ∀ v ∈ vals i, ∀ j, at? v = some j → j ∈ l
  iff : ∀ i, i ∈ l ↔ Rch n vals rs i
/-- A value by a list of numbers. -/
def num (l : List Nat) (v : Int) : Int := match at? v with | none => v | some i => 2 * (l.idxOf i : Int)
/-! ### the same but for numbers -/
/-- Pairs of numbers, each of either side at most once. -/
structure Bij (R : Nat → Nat → Prop) : Prop where
  fn : ∀ {i k k'}, R i k → R i k' → k = k'
  inj : ∀ {i i' k}, R i k → R i' k → i = i'
/-- Two values that may be the same. -/
inductive VR (R : Nat → Nat → Prop) : Int → Int → Prop
  | n {v : Int} (h : at? v = none) : VR R v v
  | r {v w : Int} {i k : Nat} (h : at? v = some i) (h' : at? w = some k) (hr : R i k) : VR R v w
inductive L2 {α β : Type} (R : α → β → Prop) : List α → List β → Prop
  | nil : L2 R [] []
  | cons {a : α} {b : β} {l : List α} {m : List β} (h : R a b) (t : L2 R l m) : L2 R (a :: l) (b :: m)
section
variable {α β : Type} {R : α → β → Prop}
end
/-- Two graphs with roots, the same but for numbers, with what objects else have (dat). -/
structure Iso {δ : Type} (vals wals : Nat → List Int) (dat : Nat → δ) (dbt : Nat → δ) (rs qs : List Int) (R : Nat → Nat → Prop) : Prop where
  bij : Bij R
  roots : L2 (VR R) rs qs
  step : ∀ i k, R i k → dat i = dbt k ∧ L2 (VR R) (vals i) (wals k)
/-- What is told of a graph: its data and its values by numbers. -/
def told {δ : Type} (vals : Nat → List Int) (dat : Nat → δ) (l : List Nat) : List (δ × List Int) := l.map fun i => (dat i, (vals i).map (num l))
end Go.Pv

/- Pairing objects of two graphs, again and again: it holds just if they are the same but for numbers. -/
namespace Go.Pv
/-- Which object each one is paired with, either way; -1: none. -/
abbrev PS := List Int × List Int
def RP (P : PS) (i k : Nat) : Prop := P.1[i]? = some (k : Int)
structure PBj (n m : Nat) (P : PS) : Prop where
  l1 : P.1.length = n
  l2 : P.2.length = m
  to : ∀ (i : Nat) (x : Int), P.1[i]? = some x → x = -1 ∨ ∃ k : Nat, x = (k : Int) ∧ P.2[k]? = some (i : Int)
  fr : ∀ (k : Nat) (x : Int), P.2[k]? = some x → x = -1 ∨ ∃ i : Nat, x = (i : Int) ∧ P.1[i]? = some (k : Int)
def cnt (P : PS) : Nat := P.1.countP fun x => decide (0 ≤ x)
def pairM (P : PS) (v w : Int) : Bool × PS :=
  match at? v, at? w with
  | some i, some k =>
    let P' := if P.1.getD i 0 = -1 ∧ P.2.getD k 0 = -1 then (P.1.set i (k : Int), P.2.set k (i : Int)) else P
    (decide (P'.1.getD i 0 = (k : Int) ∧ P'.2.getD k 0 = (i : Int)), P')
  | none, none => (decide (v = w), P)
  | _, _ => (false, P)
structure Paired (n m : Nat) (P P' : PS) : Prop where
  ok : PBj n m P'
  up : ∀ i k, RP P i k → RP P' i k
  cnt : Pv.cnt P ≤ Pv.cnt P'
  same : Pv.cnt P = Pv.cnt P' → P = P'
def pairL : List Int → List Int → PS → Option PS
  | v :: vs, w :: ws, P => if (pairM P v w).1 = true then pairL vs ws (pairM P v w).2 else none
  | _, _, P => some P
section
variable {δ : Type} [DecidableEq δ] (vals wals : Nat → List Int) (dat dbt : Nat → δ)
/-- One object's pair. -/
def fitI (i : Nat) (P : PS) : Option PS :=
  if P.1.getD i 0 < 0 then some P else
  if dat i = dbt (P.1.getD i 0).toNat ∧ (vals i).length = (wals (P.1.getD i 0).toNat).length then pairL (vals i) (wals (P.1.getD i 0).toNat) P else none
def fitsF : Nat → Nat → PS → Option PS
  | 0, _, P => some P
  | f + 1, i, P => match fitI vals wals dat dbt i P with
    | some P' => fitsF f (i + 1) P'
    | none => none
def roundsF (n : Nat) : Nat → PS → Option PS
  | 0, P => some P
  | k + 1, P => match fitsF vals wals dat dbt n 0 P with
    | some P' => roundsF n k P'
    | none => none
variable {vals wals dat dbt}
variable {n m : Nat} (hv : Fits n vals) (hw : Fits m wals)
include hv hw
/-- What an object's pair must be. -/
def okAt (vals wals : Nat → List Int) (dat dbt : Nat → δ) (P : PS) (i : Nat) : Prop := ∀ k, RP P i k → dat i = dbt k ∧ L2 (VR (RP P)) (vals i) (wals k)
end
def none2 (n m : Nat) : PS := (List.replicate n (-1), List.replicate m (-1))
/-- What the pairing answers. -/
def pairing {δ : Type} [DecidableEq δ] (vals wals : Nat → List Int) (dat dbt : Nat → δ) (n m : Nat) (rs qs : List Int) : Bool :=
  decide (rs.length = qs.length) && (match pairL rs qs (none2 n m) with
    | some P => (roundsF vals wals dat dbt n (n + 1) P).isSome
    | none => false)
end Go.Pv

/- Graphs told by a list of their numbers: the same but for numbers, and all of it reached. -/
namespace Go.Pv
section
variable {δ : Type} {vals wals : Nat → List Int} {dat dbt : Nat → δ} {rs qs : List Int} {R : Nat → Nat → Prop} {n m : Nat}
end
/-- A graph by a list of its numbers. -/
def renv (vals : Nat → List Int) (l : List Nat) (k : Nat) : List Int := (vals (l.getD k 0)).map (num l)
def rend {δ : Type} (dat : Nat → δ) (l : List Nat) (k : Nat) : δ := dat (l.getD k 0)
def RL (l : List Nat) (i k : Nat) : Prop := l[k]? = some i
/-- A list that has what roots and its objects lead to. -/
structure Shut (n : Nat) (vals : Nat → List Int) (rs : List Int) (l : List Nat) : Prop where
  nodup : l.Nodup
  lt : ∀ x ∈ l, x < n
  roots : ∀ v ∈ rs, ∀ j, at? v = some j → j ∈ l
  closed : ∀ i ∈ l, ∀ v ∈ vals i, ∀ j, at? v = some j → j ∈ l
section
variable {n : Nat} {vals : Nat → List Int} {rs : List Int} {l : List Nat}
end
/-! ### what is marked, as a list -/
def lv (M : List Bool) : List Nat := (List.range M.length).filter (isM M)
theorem idxs_eq (M : List Bool) : idxs M = (lv M).map Int.ofNat := rfl
/-- The marks of what is reached. -/
noncomputable def marks (n : Nat) (vals : Nat → List Int) (rs : List Int) : List Bool := by
  classical exact (List.range n).map fun i => decide (Rch n vals rs i)
/-- The numbers of what is reached, rising. -/
noncomputable def live (n : Nat) (vals : Nat → List Int) (rs : List Int) : List Nat := lv (marks n vals rs)
end Go.Pv

/- Heaps in plain words. -/
namespace Go.Pv
open Classical in
noncomputable def dec (p : Prop) : Bool := decide p
theorem dec_iff {p : Prop} : dec p = true ↔ p := by unfold dec; simp
theorem dec_true {p : Prop} (h : p) : dec p = true := dec_iff.2 h
theorem dec_false {p : Prop} (h : ¬ p) : dec p = false := by cases e : dec p with | false => rfl | true => exact absurd (dec_iff.1 e) h
theorem dec_congr {p q : Prop} (h : p ↔ q) : dec p = dec q := by rw [propext h]
def GObj.vals (o : GObj) : List Int := o.Class :: o.Slots
abbrev Dat := Int × ByteArray × Int × Int
def GObj.dat (o : GObj) : Dat := (o.Kind, o.Text, o.Bits, o.Hash)
structure OkObj (n : Nat) (o : GObj) : Prop where
  cls : 0 ≤ refI n o.Class
  kind : 0 ≤ o.Kind ∧ o.Kind ≤ 2
  hash : 0 ≤ o.Hash ∧ o.Hash ≤ 1073741823
  ptr : o.Kind ≠ 0 → o.Slots = []
  text : o.Kind ≠ 1 → o.Text = ByteArray.empty
  bits : o.Kind ≠ 2 → o.Bits = 0
  nslots : o.Slots.length ≤ 64
  ntext : o.Text.size ≤ 64
  canon : canonF o.Bits = o.Bits
  slots : ∀ v ∈ o.Slots, hasB n v = true
def GHeap.n (h : GHeap) : Nat := h.Objs.length
def GHeap.vals (h : GHeap) (i : Nat) : List Int := (atN h.Objs i).vals
def GHeap.dat (h : GHeap) (i : Nat) : Dat := (atN h.Objs i).dat
structure OkHeap (h : GHeap) : Prop where
  cap : 1 ≤ h.Cap ∧ h.Cap ≤ 256
  len : (h.Objs.length : Int) ≤ h.Cap
  last : 0 ≤ h.Last ∧ h.Last ≤ 1073741823
  objs : ∀ o ∈ h.Objs, OkObj h.Objs.length o
theorem atN_get {α : Type} [Enc α] (l : List α) (i : Nat) (h : i < l.length) : atN l i = l[i] := by simp [atN, h]
theorem atN_mem {α : Type} [Enc α] {l : List α} {i : Nat} (h : i < l.length) : atN l i ∈ l := by rw [atN_get l i h]; exact List.getElem_mem h
/-- Roots that may be. -/
def Roots (h : GHeap) (rs : List Int) : Prop := ∀ v ∈ rs, hasB h.n v = true
/-- An object by a list of numbers. -/
def GObj.by (l : List Nat) (o : GObj) : GObj := { o with Class := num l o.Class, Slots := o.Slots.map (num l) }
theorem by_vals (l : List Nat) (o : GObj) : (o.by l).vals = o.vals.map (num l) := rfl
theorem by_dat (l : List Nat) (o : GObj) : (o.by l).dat = o.dat := rfl
def GHeap.by (h : GHeap) (l : List Nat) : GHeap := { h with Objs := l.map fun i => (atN h.Objs i).by l }
/-- Two heaps with roots, the same but for numbers. -/
def SameH (h : GHeap) (rs : List Int) (g : GHeap) (qs : List Int) : Prop := ∃ R, (∀ i k, R i k → i < h.n ∧ k < g.n) ∧ Iso h.vals g.vals h.dat g.dat rs qs R
noncomputable def liveH (h : GHeap) (rs : List Int) : List Nat := live h.n h.vals rs
def orderH (h : GHeap) (rs : List Int) : List Nat := order h.vals rs
section
variable {h : GHeap} {rs : List Int} (o : OkHeap h) (r : Roots h rs)
include o r
end
end Go.Pv

/- States and checkpoints in plain words. -/
namespace Go.Pv
structure OkState (s : GState) : Prop where
  heap : OkHeap s.Heap
  many : 12 ≤ s.Heap.Objs.length
  proc : 0 ≤ refI s.Heap.n s.Proc
  ready : 0 ≤ refI s.Heap.n s.Ready
  halt : 0 ≤ s.Halt ∧ s.Halt ≤ 255
  steps : 0 ≤ s.Steps ∧ s.Steps ≤ 1099511627776
  used : 0 ≤ s.Used ∧ s.Used ≤ 1000
def Rising (L : List GState) : Prop := L.Pairwise fun a b => a.Steps < b.Steps
/-- How many states have at most so many steps. -/
def upN (L : List GState) (x : Int) : Nat := L.countP fun s => decide (s.Steps ≤ x)
structure OkPoints (p : GPoints) : Prop where
  every : 1 ≤ p.Every ∧ p.Every ≤ 1000
  most : 1 ≤ p.Most ∧ p.Most ≤ 50
  len : (p.L.length : Int) ≤ p.Most
  ok : ∀ s ∈ p.L, OkState s
  rising : Rising p.L
def GPoints.zero : GPoints := ⟨0, 0, []⟩
def GState.zero : GState := ⟨⟨[], 0, 0⟩, 0, 0, 0, 0, 0⟩
def lastS (L : List GState) : GState := atN L (L.length - 1)
open Classical in
noncomputable def noteS (p : GPoints) (s : GState) : GPoints × Int :=
  if OkPoints p ∧ OkState s then
    if p.L ≠ [] ∧ (s.Steps % p.Every ≠ 0 ∨ s.Steps ≤ (lastS p.L).Steps) then (p, 0)
    else (⟨p.Every, p.Most, (p.L ++ [s]).drop (p.L.length + 1 - p.Most.toNat)⟩, 0)
  else (GPoints.zero, 220)
open Classical in
noncomputable def bestS (p : GPoints) (x : Int) : GState × Int :=
  if OkPoints p then if upN p.L x = 0 then (GState.zero, 201) else (atN p.L (upN p.L x - 1), 0) else (GState.zero, 220)
open Classical in
noncomputable def cutS (p : GPoints) (x : Int) : GPoints × Int :=
  if OkPoints p then (⟨p.Every, p.Most, p.L.take (upN p.L x)⟩, 0) else (GPoints.zero, 220)
end Go.Pv

/- look.Find, look.Under: what they answer, in plain words, and as told functions. -/
namespace Go.Pv
/-- Small enough for any machine. -/
def big : Nat := 1099511627776
/-- A heap small enough for any machine. -/
def Slim (h : GHeap) : Prop := h.Objs.length ≤ big ∧ ∀ o ∈ h.Objs, o.Slots.length + o.Text.size ≤ big
instance (h : GHeap) : Decidable (Slim h) := inferInstanceAs (Decidable (_ ∧ _))
/-- The object of a ref. -/
def objP (h : GHeap) (v : Int) : Option GObj := match at? v with | some i => if i < h.Objs.length then some (atN h.Objs i) else none | none => none
/-- A dictionary's slots, and whether it is one. -/
def prP (h : GHeap) (v : Int) : List Int × Bool :=
  match objP h v with
  | none => ([], false)
  | some o => if (atP v).1 = 0 then ([], true) else if o.Kind = 0 then (o.Slots, true) else ([], false)
/-- A class. -/
def clsP (h : GHeap) (c : Int) : Bool :=
  match objP h c with
  | none => false
  | some o =>
    if o.Kind = 0 then if (o.Slots.length : Int) < 3 then false else
      match objP h (atI o.Slots 0) with
      | none => false
      | some _ => (prP h (atI o.Slots 1)).2 && ((nP (atI o.Slots 2)).2 && (decide (0 ≤ (nP (atI o.Slots 2)).1) && decide ((nP (atI o.Slots 2)).1 ≤ 64)))
    else false
def slotP (h : GHeap) (k c : Int) : Int := match objP h c with | some o => atI o.Slots k | none => 0
def topP (v : Int) : Bool := decide ((atP v).1 = 0)
/-- Whether an object, and a heap, may be. -/
def okObjB (n : Nat) (o : GObj) : Bool :=
  decide (0 ≤ refI n o.Class) && (decide (0 ≤ o.Kind) && decide (o.Kind ≤ 2)) && (decide (0 ≤ o.Hash) && decide (o.Hash ≤ 1073741823)) && (decide (o.Kind = 0) || decide (o.Slots = [])) && (decide (o.Kind = 1) || decide (o.Text = ByteArray.empty)) &&
    (decide (o.Kind = 2) || decide (o.Bits = 0)) && decide (o.Slots.length ≤ 64) && decide (o.Text.size ≤ 64) && decide (canonF o.Bits = o.Bits) && o.Slots.all (hasB n)
theorem okObjB_eq (n : Nat) (o : GObj) : okObjB n o = dec (OkObj n o) := by
  rw [Bool.eq_iff_iff, dec_iff]
  simp only [okObjB, Bool.and_eq_true, Bool.or_eq_true, decide_eq_true_eq, List.all_eq_true]
  constructor
  · rintro ⟨⟨⟨⟨⟨⟨⟨⟨⟨h1, h2⟩, h3⟩, h4⟩, h5⟩, h6⟩, h7⟩, h8⟩, h9⟩, h10⟩
    exact ⟨h1, h2, h3, fun k => h4.resolve_left k, fun k => h5.resolve_left k, fun k => h6.resolve_left k, h7, h8, h9, h10⟩
  · intro h
    exact ⟨⟨⟨⟨⟨⟨⟨⟨⟨h.cls, h.kind⟩, h.hash⟩, Decidable.or_iff_not_imp_left.2 h.ptr⟩, Decidable.or_iff_not_imp_left.2 h.text⟩, Decidable.or_iff_not_imp_left.2 h.bits⟩, h.nslots⟩, h.ntext⟩, h.canon⟩, h.slots⟩
def okHeapB (h : GHeap) : Bool := (decide (1 ≤ h.Cap) && decide (h.Cap ≤ 256)) && decide ((h.Objs.length : Int) ≤ h.Cap) && (decide (0 ≤ h.Last) && decide (h.Last ≤ 1073741823)) && h.Objs.all (okObjB h.Objs.length)
theorem okHeapB_eq (h : GHeap) : okHeapB h = dec (OkHeap h) := by
  rw [Bool.eq_iff_iff, dec_iff]
  simp only [okHeapB, Bool.and_eq_true, decide_eq_true_eq, List.all_eq_true, okObjB_eq, dec_iff]
  exact ⟨fun ⟨⟨⟨h1, h2⟩, h3⟩, h4⟩ => ⟨h1, h2, h3, h4⟩, fun h => ⟨⟨⟨h.cap, h.len⟩, h.last⟩, h.objs⟩⟩
/-- look.Find. -/
def findP (h : GHeap) (c s : Int) : Int × Int × Int :=
  if okHeapB h = true then findR (upR (clsP h) (slotP h 0) topP (fun i is => is && (scan (prP h (slotP h 1 i)).1 s).isNone) 64 c) (fun i => (prP h (slotP h 1 i)).1) s else (0, 0, 1)
/-- look.Under. -/
def underP (h : GHeap) (c d : Int) : Bool := okHeapB h && (upR (clsP h) (slotP h 0) topP (fun i is => !(is && decide (i = d))) 64 c).isSome
/-! ### the told functions -/
def decI : List T → Option Int
  | [.sc (.int .i64 n)] => some n
  | _ => none
def decIs : List (List T) → Option (List Int)
  | [] => some []
  | x :: xs => match decI x with
    | some n => match decIs xs with
      | some r => some (n :: r)
      | none => none
    | none => none
def decO : List T → Option GObj
  | [.sc (.int .i64 c), .sc (.int .i64 k), .sl 1 ss, .sc (.string t), .sc (.int .i64 b), .sc (.int .i64 h)] => match decIs ss with
    | some s => some ⟨c, k, s, t, b, h⟩
    | none => none
  | _ => none
def decOs : List (List T) → Option (List GObj)
  | [] => some []
  | x :: xs => match decO x with
    | some n => match decOs xs with
      | some r => some (n :: r)
      | none => none
    | none => none
def decH : List D → Option GHeap
  | [.t (.sl 6 es), .t (.sc (.int .i64 cap)), .t (.sc (.int .i64 last))] => match decOs es with
    | some l => if Slim ⟨l, cap, last⟩ then some ⟨l, cap, last⟩ else none
    | none => none
  | _ => none
theorem decI_ok {x : List T} {n : Int} (h : decI x = some n) : x = Enc.enc n := by
  unfold decI at h; split at h
  · cases h; rfl
  · cases h
theorem decIs_ok : ∀ {x : List (List T)} {l : List Int}, decIs x = some l → x = els l
  | [], l, h => by cases h; rfl
  | x :: xs, l, h => by
    unfold decIs at h
    split at h
    · rename_i n e
      split at h
      · rename_i r e'
        cases h
        rw [decI_ok e, decIs_ok e']; rfl
      · cases h
    · cases h
theorem decO_ok {x : List T} {o : GObj} (h : decO x = some o) : x = Enc.enc o := by
  unfold decO at h; split at h
  · split at h
    · rename_i e
      cases h
      rw [decIs_ok e]; rfl
    · cases h
  · cases h
theorem decOs_ok : ∀ {x : List (List T)} {l : List GObj}, decOs x = some l → x = els l
  | [], l, h => by cases h; rfl
  | x :: xs, l, h => by
    unfold decOs at h
    split at h
    · rename_i n e
      split at h
      · rename_i r e'
        cases h
        rw [decO_ok e, decOs_ok e']; rfl
      · cases h
    · cases h
theorem decH_ok {x : List D} {h : GHeap} (e : decH x = some h) : x = [.t (.sl 6 (els h.Objs)), I h.Cap, I h.Last] ∧ Slim h := by
  unfold decH at e; split at e
  · split at e
    · rename_i e'
      split at e
      · rename_i hs
        cases e
        rw [decOs_ok e']; exact ⟨rfl, hs⟩
      · cases e
    · cases e
  · cases e
theorem decIs_els (l : List Int) : decIs (els l) = some l := by
  induction l with
  | nil => rfl
  | cons a l ih => show decIs (Enc.enc a :: els l) = _; unfold decIs; rw [ih]; rfl
theorem decOs_els (l : List GObj) : decOs (els l) = some l := by
  induction l with
  | nil => rfl
  | cons a l ih =>
    show decOs (Enc.enc a :: els l) = _
    unfold decOs
    rw [ih, show decO (Enc.enc a) = some a by rw [enc_GObj]; unfold decO; simp only [decIs_els]]
theorem decH_els (h : GHeap) (hs : Slim h) : decH [.t (.sl 6 (els h.Objs)), I h.Cap, I h.Last] = some h := by
  unfold decH
  simp only [decOs_els]
  rw [if_pos hs]
theorem decH_fat (h : GHeap) (hs : ¬ Slim h) : decH [.t (.sl 6 (els h.Objs)), I h.Cap, I h.Last] = none := by
  unfold decH
  simp only [decOs_els]
  rw [if_neg hs]
def findS : List D → Option D
  | [.agg hs, .t (.sc (.int .i64 c)), .t (.sc (.int .i64 s))] => match decH hs with
    | some h => some (.tup [I (findP h c s).1, I (findP h c s).2.1, I (findP h c s).2.2])
    | none => none
  | _ => none
def underS : List D → Option D
  | [.agg hs, .t (.sc (.int .i64 c)), .t (.sc (.int .i64 d))] => match decH hs with
    | some h => some (Bo (underP h c d))
    | none => none
  | _ => none
end Go.Pv

/- Caches: what is told of cache's functions, in plain words. -/
namespace Go.Pv
open Go
abbrev GCa := G_cache_Cache
abbrev GEn := G_cache_entry
def encC (c : GCa) : List D := [.own 81 5 (els c.entries), I c.hits, I c.misses]
def decE : List T → Option GEn
  | [.sc (.int .i64 a), .sc (.int .i64 b), .sc (.int .i64 c), .sc (.int .i64 d), .sc (.bool f)] => some ⟨⟨a, b⟩, c, d, f⟩
  | _ => none
def decEs : List (List T) → Option (List GEn)
  | [] => some []
  | x :: xs => match decE x with
    | some n => match decEs xs with
      | some r => some (n :: r)
      | none => none
    | none => none
def decC : List D → Option GCa
  | [.own 81 5 es, .t (.sc (.int .i64 a)), .t (.sc (.int .i64 b))] => match decEs es with
    | some l => if 0 < l.length ∧ l.length ≤ 64 then some ⟨l, a, b⟩ else none
    | none => none
  | _ => none
theorem decE_ok {x : List T} {n : GEn} (h : decE x = some n) : x = Enc.enc n := by
  unfold decE at h; split at h
  · cases h; rfl
  · cases h
theorem decEs_ok : ∀ {x : List (List T)} {l : List GEn}, decEs x = some l → x = els l
  | [], l, h => by cases h; rfl
  | x :: xs, l, h => by
    unfold decEs at h
    split at h
    · rename_i n e
      split at h
      · rename_i r e'
        cases h
        rw [decE_ok e, decEs_ok e']; rfl
      · cases h
    · cases h
theorem decC_ok {x : List D} {c : GCa} (h : decC x = some c) : x = encC c ∧ 0 < c.entries.length ∧ c.entries.length ≤ 64 := by
  unfold decC at h; split at h
  · split at h
    · rename_i l e
      split at h
      · rename_i hl
        cases h
        exact ⟨by rw [decEs_ok e]; rfl, hl.1, hl.2⟩
      · cases h
    · cases h
  · cases h
theorem decEs_els (l : List GEn) : decEs (els l) = some l := by
  induction l with
  | nil => rfl
  | cons a l ih => show decEs (Enc.enc a :: els l) = _; unfold decEs; rw [ih]; rfl
theorem decC_enc (c : GCa) (h : 0 < c.entries.length ∧ c.entries.length ≤ 64) : decC (encC c) = some c := by
  unfold decC encC
  simp only [decEs_els]
  rw [if_pos h]
def zeroE : GEn := ⟨⟨0, 0⟩, 0, 0, false⟩
/-- What a cache answers, and what it is behind. -/
def cFind (c : GCa) (h : GHeap) (k s : Int) : (Int × Int × Int) × GCa :=
  let e := atN c.entries (placeN c.entries.length k s)
  if e.full_ = true ∧ e.key.cls = k ∧ e.key.sel = s then ((e.method, e.at_, 0), ⟨c.entries, RowKit.wrap64 (c.hits + 1), c.misses⟩)
  else (findP h k s, ⟨if (findP h k s).2.2 = 0 then c.entries.set (placeN c.entries.length k s) ⟨⟨k, s⟩, (findP h k s).1, (findP h k s).2.1, true⟩ else c.entries, c.hits, RowKit.wrap64 (c.misses + 1)⟩)
def cFlush (c : GCa) : GCa := ⟨List.replicate c.entries.length zeroE, c.hits, c.misses⟩
def cNew (n : Int) : GCa := ⟨List.replicate n.toNat zeroE, 0, 0⟩
def boxAt (frs : Frames) (f s : Nat) : List D := (frs.getD f []).getD s []
def setBox (frs : Frames) (f s : Nat) (c : List D) : Frames := frs.set f ((frs.getD f []).set s c)
def cFindS : List D → Frames → Option (D × Frames)
  | [.fp f s 0, .agg hs, .t (.sc (.int .i64 k)), .t (.sc (.int .i64 t))], frs => match decH hs with
    | some h => match decC (boxAt frs f s) with
      | some c => some (.tup [I (cFind c h k t).1.1, I (cFind c h k t).1.2.1, I (cFind c h k t).1.2.2], setBox frs f s (encC (cFind c h k t).2))
      | none => none
    | none => none
  | [.t (.sc (.pointer none)), .agg hs, .t (.sc (.int .i64 k)), .t (.sc (.int .i64 t))], frs => match decH hs with
    | some h => some (.tup [I (findP h k t).1, I (findP h k t).2.1, I (findP h k t).2.2], frs)
    | none => none
  | _, _ => none
def cHitsS : List D → Frames → Option (D × Frames)
  | [.fp f s 0], frs => match decC (boxAt frs f s) with
    | some c => some (.tup [I c.hits, I c.misses], frs)
    | none => none
  | [.t (.sc (.pointer none))], frs => some (.tup [I 0, I 0], frs)
  | _, _ => none
def cFlushS : List D → Frames → Option (D × Frames)
  | [.fp f s 0], frs => match decC (boxAt frs f s) with
    | some c => some (.tup [], setBox frs f s (encC (cFlush c)))
    | none => none
  | [.t (.sc (.pointer none))], frs => some (.tup [], frs)
  | _, _ => none
/-- A box that is not used: the first one, or the second one. -/
def freeBox (b : List (List D)) : Option Nat :=
  if b.length < 2 then none else
  match b.getD 0 [] with
  | [] => some 0
  | _ => match b.getD 1 [] with
    | [] => some 1
    | _ => none
def cNewS : List D → Frames → Option (D × Frames)
  | [.t (.sc (.int .i64 n))], frs =>
    if 1 ≤ n ∧ n ≤ 64 then
      if frs.length = 0 then none else
      match freeBox (frs.getD (frs.length - 1) []) with
      | some s => some (.fp (frs.length - 1) s 0, setBox frs (frs.length - 1) s (encC (cNew n)))
      | none => none
    else some (.t (.sc (.pointer none)), frs)
  | _, _ => none
/-! ### the document's caches, and its look -/
def zeroR : G_anamnesisref10_Entry := ⟨0, 0, 0, 0, false⟩
def newC (e : TypeId) (l : List (List T)) : List D := [.own e 5 l, I 0, I 0]
def rNewS : List D → Frames → Option (D × Frames)
  | [.t (.sc (.int .i64 n))], frs =>
    if 1 ≤ n ∧ n ≤ 64 then
      if frs.length = 0 then none else
      match freeBox (frs.getD (frs.length - 1) []) with
      | some s => some (.fp (frs.length - 1) s 0, setBox frs (frs.length - 1) s (newC 75 (els (List.replicate n.toNat zeroR))))
      | none => none
    else none
  | _, _ => none
/-- Bits that may lie in cells. -/
def BitsOk (h : GHeap) : Prop := ∀ o ∈ h.Objs, -9223372036854775808 ≤ o.Bits ∧ o.Bits ≤ 9223372036854775807
instance (h : GHeap) : Decidable (BitsOk h) := inferInstanceAs (Decidable (∀ o ∈ h.Objs, _))
def r9S : List D → Option D
  | [.agg hs, .t (.sc (.int .i64 c)), .t (.sc (.int .i64 s))] => match decH hs with
    | some h => if BitsOk h then some (.tup [I (findP h c s).1, I (findP h c s).2.1, I (findP h c s).2.2]) else none
    | none => none
  | _ => none
end Go.Pv
