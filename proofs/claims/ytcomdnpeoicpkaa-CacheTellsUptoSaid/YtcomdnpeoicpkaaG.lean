/- A part of the road: the interpreter of plain data and the proof that it is right. -/
import Derived.Test.YtcomdnpeoicpkaaC
import Derived.ProofKit
import Derived.DataElems
/- From the row to the interpreter: arguments that can be read, as data. -/
namespace Go.Pv
open Go.RowKit
variable {P : Program}

/-- What a type is made of. -/
inductive Ty where
  | int (k : IntKind)
  | bool
  | str
  | sl (e : Ty)
  | unit
  | pair (a b : Ty)
def Ty.den : Ty → Type
  | .int _ => Int
  | .bool => Bool
  | .str => ByteArray
  | .sl e => List e.den
  | .unit => Unit
  | .pair a b => a.den × b.den
def Ty.size : Ty → Nat
  | .int _ | .bool | .str | .sl _ => 1
  | .unit => 0
  | .pair a b => a.size + b.size
def Ty.enc : (τ : Ty) → τ.den → List T
  | .int k, n => [.sc (.int k n)]
  | .bool, b => [.sc (.bool b)]
  | .str, s => [.sc (.string s)]
  | .sl e, l => [.sl e.size (l.map e.enc)]
  | .unit, _ => []
  | .pair a b, x => a.enc x.1 ++ b.enc x.2
def Ty.wf : (τ : Ty) → τ.den → Prop
  | .int k, n => (Lit.int k n).wf = true
  | .bool, _ => True
  | .str, s => s.size ≤ maxLen
  | .sl e, l => List.length (α := e.den) l ≤ maxLen ∧ ∀ x : e.den, List.Mem x l → e.wf x
  | .unit, _ => True
  | .pair a b, x => a.wf x.1 ∧ b.wf x.2
/-- How many values and letters. -/
def Ty.bulk : (τ : Ty) → τ.den → Nat
  | .int _, _ => 1
  | .bool, _ => 1
  | .str, s => s.size + 1
  | .sl e, l => (l.map e.bulk).sum + 1
  | .unit, _ => 0
  | .pair a b, x => a.bulk x.1 + b.bulk x.2
def isFs (r : TypeId → Ty → Bool) (P : Program) : List Field → Nat → Ty → Bool
  | [], _, .unit => true
  | f :: fs, o, .pair a b => f.offset == o && P.cellsOf f.type == a.size && r f.type a && isFs r P fs (o + a.size) b
  | _, _, _ => false
def isAr (r : TypeId → Ty → Bool) (P : Program) (e : TypeId) : Nat → Ty → Bool
  | 0, .unit => true
  | k + 1, .pair a b => P.cellsOf e == a.size && r e a && isAr r P e k b
  | _, _ => false
def isTy (P : Program) : Nat → TypeId → Ty → Bool
  | 0, _, _ => false
  | _ + 1, t, .int k' => match P.underlying t with | some (.int k) => decide (k = k') | _ => false
  | _ + 1, t, .bool => match P.underlying t with | some .bool => true | _ => false
  | _ + 1, t, .str => match P.underlying t with | some .string => true | _ => false
  | n + 1, t, .sl τ => match P.underlying t with | some (.slice e) => isTy P n e τ && P.cellsOf e == τ.size && decide (0 < τ.size) | _ => false
  | n + 1, t, τ => match P.underlying t with
    | some (.struct fs) => P.cellsOf t == τ.size && isFs (isTy P n) P fs.toList 0 τ
    | some (.array k e) => P.cellsOf t == τ.size && isAr (isTy P n) P e k τ
    | _ => false

theorem Ty.enc_length : ∀ (τ : Ty) (x : τ.den), (τ.enc x).length = τ.size
  | .int _, _ => rfl
  | .bool, _ => rfl
  | .str, _ => rfl
  | .sl _, _ => rfl
  | .unit, _ => rfl
  | .pair a b, x => by simp only [Ty.enc, Ty.size, List.length_append, Ty.enc_length a x.1, Ty.enc_length b x.2]

/-- A measure of data that counts as the rows do. -/
structure Counts {H : Type} (bk : DataW H → Nat) (all : List (DataW H) → Nat) : Prop where
  one : ∀ d, 1 ≤ bk d
  str : ∀ l, bk (.lit (.string l)) = l.length + 1
  sl : ∀ es sp, bk (.slice es sp) = all es + all sp + 1
  agg : ∀ es, bk (.agg es) = all es + 1
  nil : all [] = 0
  cons : ∀ d ds, all (d :: ds) = bk d + all ds

theorem mapM_len {α β : Type} {f : α → Option β} : ∀ {l : List α} {r : List β}, l.mapM f = some r → r.length = l.length
  | [], r, h => by simp only [List.mapM_nil, Option.pure_def, Option.some.injEq] at h; subst h; rfl
  | a :: l, r, h => by
    rw [List.mapM_cons] at h
    cases hb : f a with
    | none => rw [hb] at h; cases h
    | some b =>
      rw [hb] at h
      cases hbs : l.mapM f with
      | none => rw [hbs] at h; cases h
      | some bs =>
        rw [hbs] at h
        cases h
        simp [mapM_len hbs]
theorem mapM_cons_some {α β : Type} {f : α → Option β} {a : α} {l : List α} {r : List β} (h : (a :: l).mapM f = some r) : ∃ b bs, f a = some b ∧ l.mapM f = some bs ∧ r = b :: bs := by
  rw [List.mapM_cons] at h
  cases hb : f a with
  | none => rw [hb] at h; cases h
  | some b =>
    rw [hb] at h
    cases hbs : l.mapM f with
    | none => rw [hbs] at h; cases h
    | some bs =>
      rw [hbs] at h
      cases h
      exact ⟨b, bs, rfl, rfl, rfl⟩
/-- One by one. -/
theorem mapM_data {H α X : Type} {f : α → Option (DataW H × List MemPlace)} {bk : DataW H → Nat} {all : List (DataW H) → Nat} (hc : Counts bk all) {Q : α → X → Prop} {b : X → Nat} :
    ∀ {l : List α} {r : List (DataW H × List MemPlace)}, l.mapM f = some r → (∀ a ∈ l, ∀ d ps, f a = some (d, ps) → ∃ x, Q a x ∧ b x ≤ bk d) →
      ∃ xs : List X, xs.length = l.length ∧ (∀ (i : Nat) a x, l[i]? = some a → xs[i]? = some x → Q a x) ∧ (xs.map b).sum ≤ all (r.map (·.1)) := by
  intro l
  induction l with
  | nil =>
    intro r h _
    simp only [List.mapM_nil, Option.pure_def, Option.some.injEq] at h
    subst h
    exact ⟨[], rfl, fun i a x h => by simp at h, by simp [hc.nil]⟩
  | cons a l ih =>
    intro r h hq
    obtain ⟨y, bs, h1, h2, rfl⟩ := mapM_cons_some h
    obtain ⟨x, hx, hb⟩ := hq a List.mem_cons_self y.1 y.2 h1
    obtain ⟨xs, e1, e2, e3⟩ := ih h2 fun a' ha' => hq a' (List.mem_cons_of_mem _ ha')
    refine ⟨x :: xs, by simp [e1], fun i a' x' ha' hx' => ?_, ?_⟩
    · cases i with
      | zero => simp at ha' hx'; subst ha' hx'; exact hx
      | succ i => exact e2 i a' x' (by simpa using ha') (by simpa using hx')
    · simp only [List.map_cons, List.sum_cons, hc.cons]
      omega

section
variable {H : Type} {enc : TypeId × Value → H} {w : World} {base : Nat} {sp : Nat → Bool} {held : Bool} {bk : DataW H → Nat} {all : List (DataW H) → Nat}
abbrev any : Nat → Prop := fun _ => True
/-- What is read of a type, as data. -/
def ReadsAs (w : World) (bk : DataW H → Nat) (τ : Ty) (cs : List Value) (d : DataW H) : Prop :=
  ∃ x : τ.den, τ.wf x ∧ τ.bulk x ≤ bk d ∧ cs.length = τ.size ∧ ∀ (i : Nat) (u : Value) (y : T), cs[i]? = some u → (τ.enc x)[i]? = some y → RT any w u y
theorem cells_some {a : Addr} {n : Nat} {cs : List Value} (h : w.cells? base a n = some cs) : cs.length = n ∧ ∀ j u, cs[j]? = some u → w.cell? (a.add j) = some u := by
  unfold World.cells? at h
  split at h
  · have hl := mapM_len h
    rw [List.length_range] at hl
    refine ⟨hl, fun j u hj => ?_⟩
    have key : ∀ (l : List Nat) (r : List Value), (l.mapM fun i => w.cell? (a.add i)) = some r → ∀ (j i : Nat) u, l[j]? = some i → r[j]? = some u → w.cell? (a.add i) = some u := by
      intro l
      induction l with
      | nil => intro r _ j i u hi; simp at hi
      | cons b l ih =>
        intro r hr j i u hi hu
        obtain ⟨y, bs, h1, h2, rfl⟩ := mapM_cons_some hr
        cases j with
        | zero => simp at hi hu; subst hi hu; exact h1
        | succ j => exact ih bs h2 j i u (by simpa using hi) (by simpa using hu)
    have hlt : j < n := by rw [← hl]; exact (List.getElem?_eq_some_iff.1 hj).1
    exact key _ _ h j j u (by simp [hlt]) hj
  · cases h
theorem trod_fs {r : TypeId → Ty → Bool} (hc : Counts bk all) (trod : TypeId → List Value → Option (DataW H × List MemPlace))
    (hr : ∀ t τ, r t τ = true → ∀ cs d ps, trod t cs = some (d, ps) → ReadsAs w bk τ cs d) :
    ∀ (τ : Ty) (fs : List Field) (o : Nat) (cs : List Value) (xs : List (DataW H × List MemPlace)), isFs r P fs o τ = true → cs.length = o + τ.size →
      (fs.mapM fun f => trod f.type ((cs.drop f.offset).take (P.cellsOf f.type))) = some xs →
      ∃ x : τ.den, τ.wf x ∧ τ.bulk x ≤ all (xs.map (·.1)) ∧ ∀ (i : Nat) (u : Value) (y : T), (cs.drop o)[i]? = some u → (τ.enc x)[i]? = some y → RT any w u y := by
  intro τ
  induction τ with
  | unit =>
    intro fs o cs xs h _ hm
    cases fs with
    | nil =>
      simp only [List.mapM_nil, Option.pure_def, Option.some.injEq] at hm
      subst hm
      exact ⟨(), trivial, by simp [Ty.bulk], fun i u y _ h => by simp [Ty.enc] at h⟩
    | cons f fs => simp [isFs] at h
  | pair a b _ ihb =>
    intro fs o cs xs h hl hm
    cases fs with
    | nil => simp [isFs] at h
    | cons f fs =>
      simp only [isFs, Bool.and_eq_true, beq_iff_eq] at h
      obtain ⟨⟨⟨h1, h2⟩, h3⟩, h4⟩ := h
      obtain ⟨y, bs, e1, e2, rfl⟩ := mapM_cons_some hm
      obtain ⟨x1, w1, b1, l1, r1⟩ := hr _ _ h3 _ y.1 y.2 e1
      simp only [Ty.size] at hl
      obtain ⟨x2, w2, b2, r2⟩ := ihb fs (o + a.size) cs bs h4 (by omega) e2
      refine ⟨(x1, x2), ⟨w1, w2⟩, ?_, fun i u z hu hz => ?_⟩
      · simp only [Ty.bulk, List.map_cons, hc.cons]; omega
      · simp only [Ty.enc] at hz
        rw [List.getElem?_append, Ty.enc_length] at hz
        split at hz
        · rename_i hlt
          refine r1 i u z ?_ hz
          rw [h1, h2, List.getElem?_take, if_pos hlt]
          exact hu
        · rename_i hge
          refine r2 (i - a.size) u z ?_ hz
          rw [List.getElem?_drop] at hu ⊢
          rw [← hu]
          congr 1
          omega
  | int k => intro fs o cs xs h; cases fs <;> simp [isFs] at h
  | bool => intro fs o cs xs h; cases fs <;> simp [isFs] at h
  | str => intro fs o cs xs h; cases fs <;> simp [isFs] at h
  | sl e => intro fs o cs xs h; cases fs <;> simp [isFs] at h
theorem trod_ar {r : TypeId → Ty → Bool} (hc : Counts bk all) (trod : TypeId → List Value → Option (DataW H × List MemPlace)) {e : TypeId}
    (hr : ∀ τ, r e τ = true → ∀ cs d ps, trod e cs = some (d, ps) → ReadsAs w bk τ cs d) :
    ∀ (τ : Ty) (k o : Nat) (cs : List Value) (xs : List (DataW H × List MemPlace)), isAr r P e k τ = true → cs.length = o * P.cellsOf e + τ.size →
      ((List.range' o k).mapM fun i => trod e ((cs.drop (i * P.cellsOf e)).take (P.cellsOf e))) = some xs →
      ∃ x : τ.den, τ.wf x ∧ τ.bulk x ≤ all (xs.map (·.1)) ∧ ∀ (i : Nat) (u : Value) (y : T), (cs.drop (o * P.cellsOf e))[i]? = some u → (τ.enc x)[i]? = some y → RT any w u y := by
  intro τ
  induction τ with
  | unit =>
    intro k o cs xs h _ hm
    cases k with
    | zero =>
      simp only [List.range'_zero, List.mapM_nil, Option.pure_def, Option.some.injEq] at hm
      subst hm
      exact ⟨(), trivial, by simp [Ty.bulk], fun i u y _ h => by simp [Ty.enc] at h⟩
    | succ k => simp [isAr] at h
  | pair a b _ ihb =>
    intro k o cs xs h hl hm
    cases k with
    | zero => simp [isAr] at h
    | succ k =>
      simp only [isAr, Bool.and_eq_true, beq_iff_eq] at h
      obtain ⟨⟨h2, h3⟩, h4⟩ := h
      rw [List.range'_succ] at hm
      obtain ⟨y, bs, e1, e2, rfl⟩ := mapM_cons_some hm
      obtain ⟨x1, w1, b1, l1, r1⟩ := hr _ h3 _ y.1 y.2 e1
      simp only [Ty.size] at hl
      have hs : (o + 1) * P.cellsOf e = o * P.cellsOf e + a.size := by rw [Nat.add_mul, Nat.one_mul, h2]
      obtain ⟨x2, w2, b2, r2⟩ := ihb k (o + 1) cs bs h4 (by rw [hs]; omega) e2
      refine ⟨(x1, x2), ⟨w1, w2⟩, ?_, fun i u z hu hz => ?_⟩
      · simp only [Ty.bulk, List.map_cons, hc.cons]; omega
      · simp only [Ty.enc] at hz
        rw [List.getElem?_append, Ty.enc_length] at hz
        split at hz
        · rename_i hlt
          refine r1 i u z ?_ hz
          rw [List.getElem?_take, if_pos (by rw [h2]; exact hlt)]
          exact hu
        · rename_i hge
          refine r2 (i - a.size) u z ?_ hz
          rw [hs]
          rw [List.getElem?_drop] at hu ⊢
          rw [← hu]
          congr 1
          omega
  | int k => intro k; cases k <;> intro o cs xs h <;> simp [isAr] at h
  | bool => intro k; cases k <;> intro o cs xs h <;> simp [isAr] at h
  | str => intro k; cases k <;> intro o cs xs h <;> simp [isAr] at h
  | sl e => intro k; cases k <;> intro o cs xs h <;> simp [isAr] at h
theorem list_data {X : Type} (hc : Counts bk all) {b : X → Nat} : ∀ (elems : List (DataW H × List MemPlace)) {Q : Nat → DataW H × List MemPlace → X → Prop}, (∀ (i : Nat) e, elems[i]? = some e → ∃ x, Q i e x ∧ b x ≤ bk e.1) →
    ∃ xs : List X, xs.length = elems.length ∧ (∀ (i : Nat) e x, elems[i]? = some e → xs[i]? = some x → Q i e x) ∧ (xs.map b).sum ≤ all (elems.map (·.1)) := by
  intro elems
  induction elems with
  | nil => intro Q _; exact ⟨[], rfl, fun i e x h => by simp at h, by simp [hc.nil]⟩
  | cons e l ih =>
    intro Q hq
    obtain ⟨x, hx, hb⟩ := hq 0 e rfl
    obtain ⟨xs, e1, e2, e3⟩ := ih (Q := fun i => Q (i + 1)) fun i e' he' => hq (i + 1) e' (by simpa using he')
    refine ⟨x :: xs, by simp [e1], fun i a' x' ha' hx' => ?_, ?_⟩
    · cases i with
      | zero => simp at ha' hx'; subst ha' hx'; exact hx
      | succ i => exact e2 i a' x' (by simpa using ha') (by simpa using hx')
    · simp only [List.map_cons, List.sum_cons, hc.cons]
      omega
theorem trod_data (hc : Counts bk all) : ∀ (n : Nat) (t : TypeId) (τ : Ty), isTy P n t τ = true → ∀ (fuel : Nat) (cs : List Value) d ps, DataW.trod enc P w base sp held fuel t cs = some (d, ps) → ReadsAs w bk τ cs d := by
  intro n
  induction n with
  | zero => intro t τ h; simp [isTy] at h
  | succ n ih =>
    intro t τ h fuel cs d ps ht
    cases fuel with
    | zero => simp [DataW.trod] at ht
    | succ fuel =>
    have structs : ∀ τ : Ty, (match P.underlying t with
        | some (.struct fs) => P.cellsOf t == τ.size && isFs (isTy P n) P fs.toList 0 τ
        | some (.array k e) => P.cellsOf t == τ.size && isAr (isTy P n) P e k τ
        | _ => false) = true → ReadsAs w bk τ cs d := by
      intro τ h
      split at h
      · rename_i fs hu
        simp only [Bool.and_eq_true, beq_iff_eq] at h
        rw [DataW.trod.eq_def] at ht
        simp only [hu] at ht
        split at ht
        · rename_i hlen
          simp only [Option.map_eq_some_iff] at ht
          obtain ⟨xs, hxs, e⟩ := ht
          simp only [Prod.mk.injEq] at e
          obtain ⟨rfl, _⟩ := e
          obtain ⟨x, w1, b1, r1⟩ := trod_fs (P := P) hc (DataW.trod enc P w base sp held fuel) (fun t' τ' h' cs' d' ps' => ih t' τ' h' fuel cs' d' ps') τ fs.toList 0 cs xs h.2 (by omega) hxs
          refine ⟨x, w1, by rw [hc.agg]; omega, by omega, fun i u y hu hy => r1 i u y (by simpa using hu) hy⟩
        · cases ht
      · rename_i k e hu
        simp only [Bool.and_eq_true, beq_iff_eq] at h
        rw [DataW.trod.eq_def] at ht
        simp only [hu] at ht
        split at ht
        · rename_i hlen
          simp only [Option.map_eq_some_iff] at ht
          obtain ⟨xs, hxs, e⟩ := ht
          simp only [Prod.mk.injEq] at e
          obtain ⟨rfl, _⟩ := e
          rw [List.range_eq_range'] at hxs
          obtain ⟨x, w1, b1, r1⟩ := trod_ar (P := P) hc (DataW.trod enc P w base sp held fuel) (fun τ' h' cs' d' ps' => ih _ τ' h' fuel cs' d' ps') τ k 0 cs xs h.2 (by omega) hxs
          refine ⟨x, w1, by rw [hc.agg]; omega, by omega, fun i u y hu hy => r1 i u y (by simpa using hu) hy⟩
        · cases ht
      · cases h
    have one : ∀ {u : Value}, u.oneCell' = true → ∀ (i : Nat) (v : Value) (y : T), [u][i]? = some v → [T.sc u][i]? = some y → RT any w v y := by
      intro u h1 i v y hi hy
      cases i with
      | zero => simp at hi hy; subst hi hy; exact .sc _ h1
      | succ i => simp at hi
    cases τ with
    | int k' =>
      simp only [isTy] at h
      split at h
      · rename_i k hu
        have hk : k = k' := of_decide_eq_true h
        subst hk
        rw [DataW.trod.eq_def] at ht
        simp only [hu] at ht
        split at ht <;> simp_all
        · obtain ⟨⟨_, hw⟩, rfl, _⟩ := ht
          exact ⟨_, hw, hc.one _, rfl, one rfl⟩
      · cases h
    | bool =>
      simp only [isTy] at h
      split at h
      · rename_i hu
        obtain ⟨b, rfl, e⟩ := DataW.trod_bool hu ht
        cases e
        exact ⟨b, trivial, hc.one _, rfl, one rfl⟩
      · cases h
    | str =>
      simp only [isTy] at h
      split at h
      · rename_i hu
        obtain ⟨b, rfl, e, hw⟩ := DataW.trod_string hu ht
        cases e
        refine ⟨b, hw, ?_, rfl, one rfl⟩
        rw [hc.str]
        exact Nat.le_of_eq (by rw [Array.length_toList]; rfl)
      · cases h
    | sl τe =>
      simp only [isTy] at h
      split at h
      · rename_i e hu
        simp only [Bool.and_eq_true, beq_iff_eq, decide_eq_true_eq] at h
        obtain ⟨⟨h1, h2⟩, h3⟩ := h
        have single : ∀ {v : Value} {z : T}, RT any w v z → ∀ (i : Nat) (u : Value) (y : T), [v][i]? = some u → [z][i]? = some y → RT any w u y := by
          intro v z hz i u y hi hy
          cases i with
          | zero => simp at hi hy; subst hi hy; exact hz
          | succ i => simp at hi
        rcases DataW.trod_slice hu ht with ⟨rfl, hx⟩ | ⟨a, len, cap, elems, rest, m, hm, rfl, hx, hb, hlc, hcm, hlen, hel, _, _⟩
        · cases hx
          refine ⟨([] : List τe.den), ⟨Nat.zero_le _, fun x hx => by cases hx⟩, ?_, rfl, single ?_⟩
          · exact hc.one _
          · exact .sl none 0 0 τe.size [] (fun _ _ => undef) rfl (Nat.le_refl _) (by simp) (by simp) (by simp)
        · cases hx
          obtain ⟨xs, e1, e2, e3⟩ := list_data (X := τe.den) hc (Q := fun i y x => ∃ cs, w.cells? base (a.add (i * P.cellsOf e)) (P.cellsOf e) = some cs ∧ τe.wf x ∧ cs.length = τe.size ∧ ∀ (j : Nat) (u : Value) (z : T), cs[j]? = some u → (τe.enc x)[j]? = some z → RT any w u z)
            (b := τe.bulk) elems (fun i y hy => by
              have hi : i < len := by rw [← hlen]; exact (List.getElem?_eq_some_iff.1 hy).1
              have := hel i hi
              rw [hy] at this
              cases hcs : w.cells? base (a.add (i * P.cellsOf e)) (P.cellsOf e) with
              | none => rw [hcs] at this; cases this
              | some cs =>
                rw [hcs] at this
                obtain ⟨x, a1, a2, a3, a4⟩ := ih _ _ h1 _ _ _ _ this
                exact ⟨x, ⟨cs, rfl, a1, a3, a4⟩, a2⟩)
          have hcell : ∀ (i : Nat) x, xs[i]? = some x → ∃ cs, w.cells? base (a.add (i * P.cellsOf e)) (P.cellsOf e) = some cs ∧ τe.wf x ∧ cs.length = τe.size ∧ ∀ (j : Nat) (u : Value) (z : T), cs[j]? = some u → (τe.enc x)[j]? = some z → RT any w u z := fun i x hi => by
            have hl : i < elems.length := by rw [← e1]; exact (List.getElem?_eq_some_iff.1 hi).1
            exact e2 i _ x (List.getElem?_eq_getElem hl) hi
          have hrow : ∀ (i : Nat) el (j : Nat) z, (xs.map τe.enc)[i]? = some el → el[j]? = some z → ∃ u, w.cell? (a.add (i * τe.size + j)) = some u ∧ RT any w u z := by
            intro i el j z hi hj
            rw [List.getElem?_map, Option.map_eq_some_iff] at hi
            obtain ⟨x, hx, rfl⟩ := hi
            obtain ⟨cs, c1, _, c3, c4⟩ := hcell i x hx
            obtain ⟨_, c5⟩ := cells_some c1
            have hjl : j < cs.length := by rw [c3, ← Ty.enc_length τe x]; exact (List.getElem?_eq_some_iff.1 hj).1
            refine ⟨cs[j], ?_, c4 j _ z (List.getElem?_eq_getElem hjl) hj⟩
            have := c5 j _ (List.getElem?_eq_getElem hjl)
            rw [Addr.add_add, h2] at this
            exact this
          refine ⟨xs, ⟨by show xs.length ≤ _; omega, fun x hx => ?_⟩, ?_, rfl, single ?_⟩
          · obtain ⟨i, hi⟩ := List.getElem?_of_mem hx
            exact (hcell i x hi).choose_spec.2.1
          · rw [hc.sl]
            show (xs.map τe.bulk).sum + 1 ≤ _
            omega
          · refine .sl (some a) len cap τe.size _ (fun i j => (w.cell? (a.add (i * τe.size + j))).getD undef) (by simp; omega) hlc (fun el hel' => ?_) (fun hne => ?_) (fun i el j z hi hj => ?_)
            · rw [List.mem_map] at hel'
              obtain ⟨x, _, rfl⟩ := hel'
              exact Ty.enc_length _ _
            · refine ⟨a, rfl, ⟨trivial, ?_⟩, fun i el j z hi hj => ?_⟩
              · cases xs with
                | nil => exact absurd rfl hne
                | cons x xs =>
                  obtain ⟨u, hu', _⟩ := hrow 0 (τe.enc x) 0 ((τe.enc x)[0]'(by rw [Ty.enc_length]; exact h3)) rfl (List.getElem?_eq_getElem _)
                  have := block_lt_of_cell hu'
                  rwa [Addr.block_add] at this
              · obtain ⟨u, hu', _⟩ := hrow i el j z hi hj
                rw [hu']
                rfl
            · obtain ⟨u, hu', hr⟩ := hrow i el j z hi hj
              rw [hu']
              exact hr
      · cases h
    | unit => exact structs _ h
    | pair a b => exact structs _ h
end
/-! ### arguments -/
def argD : (τ : Ty) → τ.den → D
  | .int k, n => .t (.sc (.int k n))
  | .bool, b => .t (.sc (.bool b))
  | .str, s => .t (.sc (.string s))
  | .sl e, l => .t (.sl e.size (l.map e.enc))
  | .unit, _ => .agg []
  | .pair a b, x => .agg ((Ty.enc (.pair a b) x).map .t)
def argDs : (τ : Ty) → τ.den → List D
  | .pair a b, x => argD a x.1 :: argDs b x.2
  | _, _ => []
def areTys (P : Program) (n : Nat) : List TypeId → Ty → Bool
  | [], .unit => true
  | t :: ts, .pair a b => isTy P n t a && areTys P n ts b
  | _, _ => false
/-- At the beginning all is shared. -/
def G0 : Gh := { L := fun _ => none, hv := fun _ _ => undef, hb := fun _ _ => 0, al := fun _ _ => False }
theorem rt_G0 {w : World} {v : Value} {x : T} (h : RT any w v x) : RT G0.sh w v x := h.mono fun _ _ _ => ⟨rfl, rfl⟩
section
variable {H : Type} {enc : TypeId × Value → H} {w : World} {base : Nat} {sp : Nat → Bool} {held : Bool} {bk : DataW H → Nat} {all : List (DataW H) → Nat}
theorem okWide_agg {t : TypeId} {fs : Array Field} {r : Reach} {v : Value} (hu : P.underlying t = some (.struct fs)) (h : Value.okWide P w r base t v) : ∃ cs, v = .agg cs := by
  unfold Value.okWide at h
  rw [hu] at h
  obtain ⟨cs, h, _⟩ := h
  exact ⟨cs, h⟩
theorem okWide_arr {t : TypeId} {k : Nat} {e : TypeId} {r : Reach} {v : Value} (hu : P.underlying t = some (.array k e)) (h : Value.okWide P w r base t v) : ∃ cs, v = .agg cs := by
  unfold Value.okWide at h
  rw [hu] at h
  obtain ⟨cs, h, _⟩ := h
  exact ⟨cs, h⟩
theorem okWide_one {t : TypeId} {d : TypeDesc} {r : Reach} {cs : Array Value} (hu : P.underlying t = some d) (hd : (∃ k, d = .int k) ∨ d = .bool ∨ d = .string ∨ ∃ e, d = .slice e) (h : Value.okWide P w r base t (.agg cs)) : False := by
  rcases hd with ⟨k, rfl⟩ | rfl | rfl | ⟨e, rfl⟩ <;> simp [Value.okWide, hu, Cell.okWide, Cell.ok] at h
theorem arg_data (hc : Counts bk all) {B n : Nat} {t : TypeId} {τ : Ty} {v : Value} {d : DataW H} {ps : List MemPlace} {p : Ap} {r : Reach} {vr : Pl → Nat} (hτ : isTy P n t τ = true) (hok : Value.okWide P w r base t v) (h : DataW.Trod enc P w 0 sp held t v d ps) :
    ∃ x : τ.den, τ.wf x ∧ τ.bulk x ≤ bk d ∧ (argD τ x).hasOwn = false ∧ VD B 0 G0 vr w p v (argD τ x) := by
  obtain ⟨fuel, hf⟩ := h
  obtain ⟨x, h1, h2, h3, h4⟩ := trod_data hc n t τ hτ fuel _ _ _ hf
  cases n with
  | zero => simp [isTy] at hτ
  | succ n =>
  have plain : ∀ {z : T}, (∀ cs, v ≠ .agg cs) → τ.enc x = [z] → VD B 0 G0 vr w p v (.t z) := by
    intro z hv hz
    refine .t _ _ _ (rt_G0 (h4 0 v z ?_ (by rw [hz]; rfl)))
    have hl : (v.cells).size = 1 := by
      have : v.cells.toList.length = 1 := by rw [h3, ← Ty.enc_length τ x, hz]; rfl
      simpa using this
    cases v with
    | agg cs => exact absurd rfl (hv cs)
    | _ => rfl
  have struct : (∃ cs, v = .agg cs) → VD B 0 G0 vr w p v (.agg ((τ.enc x).map .t)) ∧ hasOwnL ((τ.enc x).map .t) = false := by
    rintro ⟨cs, rfl⟩
    have hcs : (Value.agg cs).cells = cs := rfl
    rw [hcs] at h3 h4
    have hl : cs.size = (τ.enc x).length := by rw [Ty.enc_length, ← h3]; simp
    refine ⟨.agg _ _ _ (by simp [hl]) (fun u hu => ?_) (fun i u d hi hd => ?_), ?_⟩
    · obtain ⟨i, hi, rfl⟩ := Array.getElem_of_mem hu
      exact (h4 i cs[i] ((τ.enc x)[i]'(by omega)) (by simp [hi]) (List.getElem?_eq_getElem _)).one
    · rw [List.getElem?_map, Option.map_eq_some_iff] at hd
      obtain ⟨z, hz, rfl⟩ := hd
      exact .t _ _ _ (rt_G0 (h4 i u z (by simpa using hi) hz))
    · clear h1 h2 h3 h4 hl
      generalize τ.enc x = l
      induction l with
      | nil => rfl
      | cons z l ih => simp only [List.map_cons, hasOwnL, ih]; rfl
  refine ⟨x, h1, h2, ?_⟩
  cases τ with
  | int k =>
    simp only [isTy] at hτ
    split at hτ
    · rename_i k' hu
      exact ⟨rfl, plain (fun cs e => by subst e; exact okWide_one hu (.inl ⟨_, rfl⟩) hok) rfl⟩
    · cases hτ
  | bool =>
    simp only [isTy] at hτ
    split at hτ
    · rename_i hu
      exact ⟨rfl, plain (fun cs e => by subst e; exact okWide_one hu (.inr (.inl rfl)) hok) rfl⟩
    · cases hτ
  | str =>
    simp only [isTy] at hτ
    split at hτ
    · rename_i hu
      exact ⟨rfl, plain (fun cs e => by subst e; exact okWide_one hu (.inr (.inr (.inl rfl))) hok) rfl⟩
    · cases hτ
  | sl e =>
    simp only [isTy] at hτ
    split at hτ
    · rename_i e' hu
      exact ⟨rfl, plain (fun cs e => by subst e; exact okWide_one hu (.inr (.inr (.inr ⟨_, rfl⟩))) hok) rfl⟩
    · cases hτ
  | unit =>
    simp only [isTy] at hτ
    split at hτ
    · rename_i fs hu
      exact ⟨(struct (okWide_agg hu hok)).2, (struct (okWide_agg hu hok)).1⟩
    · rename_i k e hu
      exact ⟨(struct (okWide_arr hu hok)).2, (struct (okWide_arr hu hok)).1⟩
    · cases hτ
  | pair a b =>
    simp only [isTy] at hτ
    split at hτ
    · rename_i fs hu
      exact ⟨(struct (okWide_agg hu hok)).2, (struct (okWide_agg hu hok)).1⟩
    · rename_i k e hu
      exact ⟨(struct (okWide_arr hu hok)).2, (struct (okWide_arr hu hok)).1⟩
    · cases hτ
theorem args_data (hc : Counts bk all) {B n : Nat} {r : Reach} {vr : Pl → Nat} : ∀ {ts : List TypeId} {τ : Ty} {vs : List Value} {ds : List (DataW H)} {ps : List MemPlace} (k : Nat), areTys P n ts τ = true →
    (∀ (j : Nat) t v, ts[j]? = some t → vs[j]? = some v → Value.okWide P w r base t v) → DataW.TrodAll enc P w 0 sp held ts vs ds ps →
    ∃ x : τ.den, τ.wf x ∧ τ.bulk x ≤ all ds ∧ vs.length = (argDs τ x).length ∧ ∀ (i : Nat) u d, vs[i]? = some u → (argDs τ x)[i]? = some d → d.hasOwn = false ∧ VD B 0 G0 vr w (.pn 0 (k + i) []) u d := by
  intro ts
  induction ts with
  | nil =>
    intro τ vs ds ps k hτ _ h
    cases τ <;> simp [areTys] at hτ
    cases vs <;> cases ds <;> simp [DataW.TrodAll] at h
    exact ⟨(), trivial, by simp [Ty.bulk], rfl, fun i u d h => by simp at h⟩
  | cons t ts ih =>
    intro τ vs ds ps k hτ hok h
    cases τ with
    | pair a b =>
      simp only [areTys, Bool.and_eq_true] at hτ
      cases vs with
      | nil => cases ds <;> simp [DataW.TrodAll] at h
      | cons v vs =>
        cases ds with
        | nil => simp [DataW.TrodAll] at h
        | cons d ds =>
          obtain ⟨p, q, h1, h2, _⟩ := h
          obtain ⟨x, a1, a2, a3, a4⟩ := arg_data (B := B) (p := .pn 0 k []) (vr := vr) hc hτ.1 (hok 0 t v rfl rfl) h1
          obtain ⟨y, b1, b2, b3, b4⟩ := ih (k + 1) hτ.2 (fun j t v ht hv => hok (j + 1) t v (by simpa using ht) (by simpa using hv)) h2
          refine ⟨(x, y), ⟨a1, b1⟩, ?_, ?_, fun i u e hu he => ?_⟩
          · simp only [Ty.bulk, hc.cons]; omega
          · simp [argDs, b3]
          · cases i with
            | zero => simp [argDs] at hu he; subst hu he; exact ⟨a3, a4⟩
            | succ i =>
              have := b4 i u e (by simpa using hu) (by simpa [argDs] using he)
              rw [show k + (i + 1) = k + 1 + i by omega]
              exact this
    | _ => simp [areTys] at hτ
theorem trodAll_stays (hl : laidOutB P = true) {W W' : World} (hb : Below W.heap.size W W') : ∀ {ts : List TypeId} {vs : List Value} {ds : List (DataW H)} {ps : List MemPlace}, (∀ t ∈ ts, P.readableRec t = true ∧ t < P.types.size) →
    DataW.TrodAll enc P W 0 (fun _ => true) true ts vs ds ps → (∀ x ∈ ps, x.block < W.heap.size) → DataW.TrodAll enc P W' 0 (fun b => decide (b < W.heap.size)) true ts vs ds ps := by
  intro ts
  induction ts with
  | nil => intro vs ds ps _ h _; cases vs <;> cases ds <;> simp [DataW.TrodAll] at h ⊢; exact h
  | cons t ts ih =>
    intro vs ds ps hr h hlt
    cases vs with
    | nil => cases ds <;> simp [DataW.TrodAll] at h
    | cons v vs =>
      cases ds with
      | nil => simp [DataW.TrodAll] at h
      | cons d ds =>
        obtain ⟨p, q, h1, h2, rfl⟩ := h
        have := hr t List.mem_cons_self
        exact ⟨p, q, Below.trod hl this.1 this.2 h1 hb (fun x hx => hlt x (List.mem_append_left _ hx)), ih (fun t' ht' => hr t' (List.mem_cons_of_mem _ ht')) h2 (fun x hx => hlt x (List.mem_append_right _ hx)), rfl⟩
theorem trodAll_length : ∀ {ts : List TypeId} {vs : List Value} {ds : List (DataW H)} {ps : List MemPlace}, DataW.TrodAll enc P w base sp held ts vs ds ps → ds.length = ts.length := by
  intro ts
  induction ts with
  | nil => intro vs ds ps h; cases vs <;> cases ds <;> simp [DataW.TrodAll] at h ⊢
  | cons t ts ih =>
    intro vs ds ps h
    cases vs with
    | nil => cases ds <;> simp [DataW.TrodAll] at h
    | cons v vs =>
      cases ds with
      | nil => simp [DataW.TrodAll] at h
      | cons d ds =>
        obtain ⟨p, q, _, h2, _⟩ := h
        simp [ih h2]
/-- What the interpreter answers of a law, said of the row. -/
theorem law_contract {R : Lore} {f : FuncId} {fn : Func} {τ : Ty} {n : Nat} {s : ChangeSpec} {tb : TypeId} (hm : P.follows .mixedOrders = true) (hT : ToldOk P R.told) (hl : laidOutB P = true) (hr0 : (fn.params.toList.all fun t => P.readableRec t && decide (t < P.types.size)) = true)
    (hres : fn.resultTypes = #[tb]) (hbool : P.underlying tb = some .bool) (hτ : areTys P n fn.params.toList τ = true) (hvars : s.vars = []) (hc : Counts bk all)
    {W : World} {args : Array Value} {ds gs : List (DataW H)} {before : List MemPlace} {r : Reach}
    (hval : ∀ (j : Nat) t v, fn.params[j]? = some t → args[j]? = some v → Value.okWide P W r base t v)
    (hW : DataW.Whole enc P fn.params.toList s.vars false W args.toList ds gs before)
    (hspec0 : ∀ ds : List (DataW H), ds.length = fn.params.toList.length → (s.fn H ds).results = [.lit (.bool true)] ∧ (s.fn H ds).args = ds ∧ (s.fn H ds).vars = [])
    (law : ∀ x : τ.den, τ.wf x → τ.bulk x ≤ all ds → cO P R f (argDs τ x) [] = some (.val (Bo true), [])) :
    Calls P f args W fun e W' => ∃ v, e = .returned v ∧ s.post enc P fn false true false false W args v W' := by
  have hr : ∀ t ∈ fn.params.toList, P.readableRec t = true ∧ t < P.types.size := fun t ht => by
    have := List.all_eq_true.1 hr0 t ht
    simp only [Bool.and_eq_true, decide_eq_true_eq] at this
    exact this
  have hW' := hW
  obtain ⟨p, q, hA, hV, rfl, hfz, hnd⟩ := hW
  have hspec := hspec0 ds (trodAll_length hA)
  have hV0 := hV
  rw [hvars] at hV0
  obtain ⟨rfl, rfl⟩ := ChangeShapes.trodVars_none hV0
  obtain ⟨x, h1, h2, h3, h4⟩ := args_data (B := W.heap.size) (vr := vr0) hc 0 hτ (fun j t v ht hv => hval j t v (by simpa using ht) (by simpa using hv)) hA
  have F : FrS W.heap.size G0 [] W := ⟨rfl, fun t d h => by simp at h, fun s c h => by simp at h, ⟨fun _ _ h => h, fun f b h => by simp at h⟩, fun f b h => by simp at h, rfl, fun _ _ _ h => h, fun _ _ h => h.elim, fun g t h => (by cases h), Nat.le_refl _, rfl⟩
  obtain ⟨d, hd, _, hcalls⟩ := cO_good hm hT f (argDs τ x) [] _ [] (law x h1 h2) W.heap.size G0 W args F (by rw [← h3]; simp) (fun i u d hu hd => by
    have := h4 i u d (by simpa using hu) hd
    rwa [Nat.zero_add] at this)
  cases hd
  refine hcalls.mono fun e W' ⟨v, G', he, _, _, st, hv⟩ => ⟨v, he, ?_⟩
  have hvb : v = .bool true := hv.sc
  subst hvb
  have hbel : Below W.heap.size W W' := ⟨st.os, st.tape, st.output, st.size, fun k hk => (st.sh k hk rfl).2⟩
  rw [List.append_nil] at hW'
  refine ⟨ds, [], p, [], p, [], hW', ?_, ?_, ?_, Below.frame hbel _, fun h => by cases h⟩
  · rw [List.append_nil, hspec.1, hres]
    exact ChangeShapes.trodAll_mk1 (shut_bool hbool true)
  · rw [List.append_nil, hspec.2.1]
    exact trodAll_stays hl hbel hr hA fun y hy => hW'.lt y hy
  · rw [hvars, List.append_nil, hspec.2.2]
    exact rfl
end
end Go.Pv
