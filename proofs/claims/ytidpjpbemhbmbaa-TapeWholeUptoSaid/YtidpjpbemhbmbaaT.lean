/- A part of the road: the interpreter of plain data and the proof that it is right. -/
import Derived.Test.YtidpjpbemhbmbaaD
import Derived.Test.YtidpjpbemhbmbaaProg
import Derived.Test.YtidpjpbemhbmbaaH
import Derived.KernelRfl
/- Data of plain Lean, and how it lies in cells. -/
namespace Go.Pv
/-- What lies in cells as data. -/
class Enc (α : Type) where
  n : Nat
  enc : α → List T
  len : ∀ a, (enc a).length = n
  dflt : α
section
variable {α : Type} [Enc α]
/-- The empty list, of a type. -/
abbrev nl (α : Type) : List α := []
/-- Elements. -/
def els (l : List α) : List (List T) := l.map Enc.enc
def atN (l : List α) (i : Nat) : α := l.getD i Enc.dflt
def atI (l : List α) (i : Int) : α := atN l i.toNat
theorem atN_toNat (l : List α) (i : Int) : atN l i.toNat = atI l i := rfl
theorem els_len (l : List α) : (els l).length = l.length := List.length_map ..
theorem els_take (l : List α) (n : Nat) : (els l).take n = els (l.take n) := by unfold els; rw [List.map_take]
theorem els_drop (l : List α) (n : Nat) : (els l).drop n = els (l.drop n) := by unfold els; rw [List.map_drop]
theorem els_tail (l : List α) : (els l).tail = els l.tail := by cases l <;> rfl
theorem els_app (l m : List α) : els l ++ els m = els (l ++ m) := by unfold els; rw [List.map_append]
theorem els_nil : els ([] : List α) = [] := rfl
theorem els_nil_app (l : List α) : ([] : List (List T)) ++ els l = els l := rfl
theorem els_getD (l : List α) (i : Nat) (h : i < l.length) : (els l).getD i [] = Enc.enc (atN l i) := by
  simp [els, atN, h]
theorem els_getD_none (l : List α) (i : Nat) (h : ¬ i < l.length) : (els l).getD i [] = [] := by
  simp [els, h]
theorem els_all (l : List α) (k : Nat) (h : Enc.n α = k) : ((els l).all fun c => c.length == k) = true := by
  simp [els, Enc.len, h]
theorem els_set (l : List α) (i : Nat) (x : α) : (els l).set i (Enc.enc x) = els (l.set i x) := by unfold els; rw [List.map_set]
theorem els_rep (n : Nat) (x : α) : List.replicate n (Enc.enc x) = els (List.replicate n x) := by simp [els]
theorem els_snoc (l : List α) (x : α) : els l ++ [Enc.enc x] = els (l ++ [x]) := by simp [els]
theorem els_cons (l : List α) (x : α) : Enc.enc x :: els l = els (x :: l) := rfl
theorem els_inj (h : ∀ a b : α, Enc.enc a = Enc.enc b → a = b) {l m : List α} (e : els l = els m) : l = m := by
  induction l generalizing m with
  | nil => cases m <;> first | rfl | cases e
  | cons a l ih => cases m with
    | nil => cases e
    | cons b m =>
      unfold els at e
      simp only [List.map_cons, List.cons.injEq] at e
      rw [h a b e.1, ih e.2]
theorem need_false {β : Type} (k : Unit → Prog β) : (need false >>= k) = .fail := rfl
theorem need_true {β : Type} (k : Unit → Prog β) : (need true >>= k) = k () := rfl
theorem ixSl_els (P : Program) (H : Hint) (D0 : Option Tmp) (e : TypeId) (sz : Nat) (l : List α) (i : Int) : ixSl P H D0 e sz (els l) i = (do
    need (sz == szOf P e && decide (0 ≤ i) && decide (i < l.length))
    put H D0 (.t (.pt (Enc.enc (atI l i))))) := by
  unfold ixSl
  rw [els_len]
  by_cases h : 0 ≤ i ∧ i < l.length
  · rw [els_getD l _ (by omega)]; rfl
  · have : (sz == szOf P e && decide (0 ≤ i) && decide (i < l.length)) = false := by
      by_cases h1 : 0 ≤ i
      · have h2 : ¬ i < l.length := fun e => h ⟨h1, e⟩
        simp [h2]
      · simp [h1]
    rw [this, need_false, need_false]
theorem p_iface (P : Program) (H : Hint) (t : TypeId) (x : Operand) (D0 : Option Tmp) (T0 : TypeId) (P0 : String) (A0 : Array Edge) (G0 : Option (Nat × Bool)) : pStep P H ⟨D0, .makeInterface t x, T0, P0, A0, G0⟩ = .fail := rfl
/-- Cells of an element. -/
def cutP (b : Bool) (els : List (List T)) (i o n : Nat) : Prog (List D) := do
  need (b && decide (o + n ≤ (els.getD i []).length))
  return (((els.getD i []).drop o).take n).map .t
def putP (b : Bool) (q : Pl) (e : TypeId) (sz : Nat) (els : List (List T)) (i o : Nat) (xs : List T) : Prog Unit := do
  need (b && decide (o + xs.length ≤ (els.getD i []).length))
  putPl q (.own e sz (els.set i ((els.getD i []).take o ++ xs ++ (els.getD i []).drop (o + xs.length))))
theorem cutP_els (b : Bool) (l : List α) (i o n : Nat) : cutP b (els l) i o (n + 1) = (do
    need (b && (decide (i < l.length) && decide (o + (n + 1) ≤ Enc.n α)))
    return (((Enc.enc (atN l i)).drop o).take (n + 1)).map .t) := by
  unfold cutP
  by_cases h : i < l.length
  · rw [els_getD l i h, Enc.len]; simp [h]
  · rw [els_getD_none l i h]; simp [h, need_false]
theorem putP_els (b : Bool) (q : Pl) (e : TypeId) (sz : Nat) (l : List α) (i o : Nat) (x : T) (xs : List T) : putP b q e sz (els l) i o (x :: xs) = (do
    need (b && (decide (i < l.length) && decide (o + (x :: xs).length ≤ Enc.n α)))
    putPl q (.own e sz ((els l).set i ((Enc.enc (atN l i)).take o ++ (x :: xs) ++ (Enc.enc (atN l i)).drop (o + (x :: xs).length))))) := by
  unfold putP
  by_cases h : i < l.length
  · rw [els_getD l i h, Enc.len]; simp [h]
  · rw [els_getD_none l i h]; simp [h, need_false]
end
theorem loadC_pt (cs : List T) (n : Nat) : loadC (.t (.pt cs)) n = (do need (decide (n ≤ cs.length)); return (cs.take n).map .t) := rfl
theorem loadC_lp (s o n : Nat) : loadC (.lp s o) n = (do let c ← gB s; need (decide (o + n ≤ c.length)); nameL (fun j => .bx s (o + j)) 0 ((c.drop o).take n)) := rfl
theorem loadC_fp (f s o n : Nat) : loadC (.fp f s o) n = (do let c ← gF f s; need (decide (o + n ≤ c.length)); nameL (fun j => .fb f s (o + j)) 0 ((c.drop o).take n)) := rfl
theorem loadC_ept (q : Pl) (k sz i o n : Nat) : loadC (.ept q k sz i o) n = (do let (_, sz', els) ← rowAt q k; cutP (sz == sz') els i o n) := rfl
theorem storeC_ept (H : Hint) (q : Pl) (k sz i o : Nat) (ds : List D) : storeC H (.ept q k sz i o) ds = (do let xs ← shareL ds; let (e, sz', els) ← rowAt q k; putP (sz == sz') q e sz els i o xs) := rfl
theorem storeC_lp (H : Hint) (s o : Nat) (ds : List D) : storeC H (.lp s o) ds = (do
    let ds ← resolveL (H.own.contains s) ds
    let c ← gB s
    need (decide (o + ds.length ≤ c.length))
    bumpL (fun j => .bx s (o + j)) 0 ds
    pB s (splice c o ds)) := rfl
theorem storeC_fp (H : Hint) (f s o : Nat) (ds : List D) : storeC H (.fp f s o) ds = (do
    let ds ← resolveL true ds
    let c ← gF f s
    need (decide (o + ds.length ≤ c.length))
    bumpL (fun j => .fb f s (o + j)) 0 ds
    pF f s (splice c o ds)) := rfl
attribute [simp] D.aliased lift liftL unlift unliftL liftF unliftF T.flat flatL D.ptr D.bare
attribute [simp ↓] els_all
attribute [simp] loadC_pt loadC_lp loadC_fp loadC_ept storeC_ept storeC_lp storeC_fp ixSl_els cutP_els putP_els els_len els_take els_drop els_tail els_app atN_toNat p_iface
/-! ### numbers, bools, strings, lists -/
instance : Enc Int := ⟨1, fun n => [.sc (.int .i64 n)], fun _ => rfl, 0⟩
instance : Enc Bool := ⟨1, fun b => [.sc (.bool b)], fun _ => rfl, false⟩
instance : Enc ByteArray := ⟨1, fun s => [.sc (.string s)], fun _ => rfl, .empty⟩
instance {α : Type} [Enc α] : Enc (List α) := ⟨1, fun l => [.sl (Enc.n α) (els l)], fun _ => rfl, []⟩
instance {α β : Type} [Enc α] [Enc β] : Enc (α × β) := ⟨Enc.n α + Enc.n β, fun p => Enc.enc p.1 ++ Enc.enc p.2, fun p => by simp [Enc.len], (Enc.dflt, Enc.dflt)⟩
@[simp] theorem n_Int : Enc.n Int = 1 := rfl
@[simp] theorem n_Bool : Enc.n Bool = 1 := rfl
@[simp] theorem n_Str : Enc.n ByteArray = 1 := rfl
@[simp] theorem n_List {α : Type} [Enc α] : Enc.n (List α) = 1 := rfl
@[simp] theorem n_Prod {α β : Type} [Enc α] [Enc β] : Enc.n (α × β) = Enc.n α + Enc.n β := rfl
@[simp] theorem enc_Int (n : Int) : Enc.enc n = [T.sc (.int .i64 n)] := rfl
@[simp] theorem enc_Bool (b : Bool) : Enc.enc b = [T.sc (.bool b)] := rfl
@[simp] theorem enc_Str (s : ByteArray) : Enc.enc s = [T.sc (.string s)] := rfl
@[simp] theorem enc_List {α : Type} [Enc α] (l : List α) : Enc.enc l = [T.sl (Enc.n α) (els l)] := rfl
@[simp] theorem enc_Prod {α β : Type} [Enc α] [Enc β] (p : α × β) : Enc.enc p = Enc.enc p.1 ++ Enc.enc p.2 := rfl
section
variable (l : List Int) (n : Int) (i k : Nat)
@[simp] theorem fs_Int : (els l).set i [T.sc (.int .i64 n)] = els (l.set i n) := els_set l i n
@[simp] theorem fa_Int : els l ++ [[T.sc (.int .i64 n)]] = els (l ++ [n]) := els_snoc l n
@[simp] theorem f1_Int : [[T.sc (.int .i64 n)]] = els [n] := rfl
@[simp] theorem fc_Int : [T.sc (.int .i64 n)] :: els l = els (n :: l) := rfl
@[simp] theorem fr_Int : List.replicate k [T.sc (.int .i64 n)] = els (List.replicate k n) := els_rep k n
end
section
variable (l : List Bool) (n : Bool) (i k : Nat)
@[simp] theorem fs_Bool : (els l).set i [T.sc (.bool n)] = els (l.set i n) := els_set l i n
@[simp] theorem fa_Bool : els l ++ [[T.sc (.bool n)]] = els (l ++ [n]) := els_snoc l n
@[simp] theorem f1_Bool : [[T.sc (.bool n)]] = els [n] := rfl
@[simp] theorem fc_Bool : [T.sc (.bool n)] :: els l = els (n :: l) := rfl
@[simp] theorem fr_Bool : List.replicate k [T.sc (.bool n)] = els (List.replicate k n) := els_rep k n
end
section
variable {α : Type} [Enc α] (l : List (List α)) (n : List α) (i k z : Nat)
theorem f1_List (h : Enc.n α = z) : [[T.sl z (els n)]] = els [n] := by subst h; rfl
theorem fs_List (h : Enc.n α = z) : (els l).set i [T.sl z (els n)] = els (l.set i n) := by subst h; exact els_set l i n
theorem fa_List (h : Enc.n α = z) : els l ++ [[T.sl z (els n)]] = els (l ++ [n]) := by subst h; exact els_snoc l n
theorem fc_List (h : Enc.n α = z) : [T.sl z (els n)] :: els l = els (n :: l) := by subst h; rfl
end
section
variable (l : List ByteArray) (n : ByteArray) (i k : Nat)
@[simp] theorem fs_Str : (els l).set i [T.sc (.string n)] = els (l.set i n) := els_set l i n
@[simp] theorem fa_Str : els l ++ [[T.sc (.string n)]] = els (l ++ [n]) := els_snoc l n
@[simp] theorem f1_Str : [[T.sc (.string n)]] = els [n] := rfl
@[simp] theorem fc_Str : [T.sc (.string n)] :: els l = els (n :: l) := rfl
end
attribute [simp] f1_List fs_List fa_List fc_List
theorem canonR_els {α : Type} [Enc α] (ks : List (Option (Nat × TypeId))) (l : List α) (h : ∀ x : α, canonC ks (Enc.enc x) = Enc.enc x) : canonR ks (els l) = els l := by
  unfold canonR els
  rw [List.map_map]
  exact List.map_congr_left fun x _ => h x
attribute [simp] canonR_els
theorem canonR_rep (ks : List (Option (Nat × TypeId))) (n : Nat) (c : List T) : canonR ks (List.replicate n c) = List.replicate n (canonC ks c) := by simp [canonR]
theorem canonR_nil (ks : List (Option (Nat × TypeId))) : canonR ks [] = [] := rfl
theorem canonR_cons (ks : List (Option (Nat × TypeId))) (c : List T) (l : List (List T)) : canonR ks (c :: l) = canonC ks c :: canonR ks l := rfl
section
variable (k : Option (Nat × TypeId)) (x : T)
@[simp] theorem can_none : canon1 none x = x := by cases x <;> rfl
@[simp] theorem can_sl (sz els) : canon1 k (.sl sz els) = .sl sz els := by rcases k with _ | ⟨p, q⟩ <;> rfl
@[simp] theorem can_int (a n) : canon1 k (.sc (.int a n)) = .sc (.int a n) := by rcases k with _ | ⟨p, q⟩ <;> rfl
@[simp] theorem can_bool (b) : canon1 k (.sc (.bool b)) = .sc (.bool b) := by rcases k with _ | ⟨p, q⟩ <;> rfl
@[simp] theorem can_str (s) : canon1 k (.sc (.string s)) = .sc (.string s) := by rcases k with _ | ⟨p, q⟩ <;> rfl
end
attribute [simp] canonR_rep canonR_nil canonR_cons canonC
/-! ### rounds, in these words -/
theorem loop_ob {P : Program} {H : Hint} {C : Callee} {A B : Type} {c : Code} (N : A → St) (E : B → Option (Out × St)) (S : A → Option (A ⊕ B)) (hE : ∀ b, ∃ r, E b = some r ∧ r.1 ≠ .normal)
    (h : ∀ a, roundOf (H.at c) (H.outAt c) (eO P H C c (N a)) = ob (S a) fun x => sm x (fun a' => some (Out.normal, N a')) E) (a : A) (σ : St) (hσ : norm (H.at c) σ = N a) :
    eO P H C (.loop c) σ = ob (iterO S a) E := by
  have hc : ∀ b, E b = some (Classical.choose (hE b)) := fun b => (Classical.choose_spec (hE b)).1
  rw [loop_iter N (fun b => Classical.choose (hE b)) S (fun b => (Classical.choose_spec (hE b)).2) (fun a => ?_) a σ hσ]
  · cases iterO S a with
    | none => rfl
    | some b => exact (hc b).symm
  · rw [h a]
    cases S a with
    | none => rfl
    | some x => cases x with
      | inl a' => rfl
      | inr b => exact hc b
end Go.Pv

/- Loops and lists, in plain words. -/
namespace Go.Pv
section
variable {A B : Type} {S : A → Option (A ⊕ B)}
/-- A loop whose states are known. -/
theorem iter_acc (N : Nat → A) (n : Nat) {b : B} (hs : ∀ k, k < n → S (N k) = some (.inl (N (k + 1)))) (he : S (N n) = some (.inr b)) : iterO S (N 0) = some b := by
  have key : ∀ j, j ≤ n → iterO S (N (n - j)) = some b := by
    intro j
    induction j with
    | zero => intro _; rw [iterO_eq, Nat.sub_zero, he]
    | succ j ih =>
      intro h
      rw [iterO_eq, hs (n - (j + 1)) (by omega)]
      have e : n - (j + 1) + 1 = n - j := by omega
      simp only [e]
      exact ih (by omega)
  simpa using key n (Nat.le_refl n)
/-- A loop that ends, by what gets less; what holds behind it. -/
theorem iter_post (μ : A → Nat) (I : A → Prop) (P : B → Prop) (h : ∀ a, I a → (∃ a', S a = some (.inl a') ∧ I a' ∧ μ a' < μ a) ∨ ∃ b, S a = some (.inr b) ∧ P b) : ∀ a, I a → ∃ b, iterO S a = some b ∧ P b := by
  intro a
  generalize hk : μ a = k
  induction k using Nat.strongRecOn generalizing a with
  | ind k ih =>
    intro ha
    rcases h a ha with ⟨a', h1, h2, h3⟩ | ⟨b, h1, h2⟩
    · obtain ⟨b, h4, h5⟩ := ih (μ a') (by omega) a' rfl h2
      exact ⟨b, by rw [iterO_eq, h1]; exact h4, h5⟩
    · exact ⟨b, by rw [iterO_eq, h1], h2⟩
/-- A loop that ends with what a function says. -/
theorem iter_fun (f : A → B) (μ : A → Nat) (I : A → Prop) (h : ∀ a, I a → (∃ a', S a = some (.inl a') ∧ I a' ∧ μ a' < μ a ∧ f a' = f a) ∨ S a = some (.inr (f a))) : ∀ a, I a → iterO S a = some (f a) := by
  intro a
  generalize hk : μ a = k
  induction k using Nat.strongRecOn generalizing a with
  | ind k ih =>
    intro ha
    rw [iterO_eq]
    rcases h a ha with ⟨a', h1, h2, h3, h4⟩ | h1
    · rw [h1, ← h4]
      exact ih (μ a') (by omega) a' rfl h2
    · rw [h1]
end
theorem atI_nat {α : Type} [Enc α] (l : List α) (k : Nat) (h : k < l.length) : atI l (k : Int) = l[k] := by simp [atI, atN, h]
theorem atI_int {α : Type} [Enc α] (l : List α) (i : Int) (h : i.toNat < l.length) : atI l i = l[i.toNat] := by simp [atI, atN, h]
theorem atI_eq {α : Type} [Enc α] (l : List α) (i : Int) (k : Nat) (e : i = k) (h : k < l.length) : atI l i = l[k] := by subst e; exact atI_nat l k h
/-- Numbers that don't wrap. -/
theorem w64_n {n : Int} (h1 : -9223372036854775808 ≤ n) (h2 : n ≤ 9223372036854775807) : w64 n = n := w64_id h1 h2
theorem w64_nat {n : Nat} (h : n ≤ 9223372036854775807) : w64 (n : Int) = n := w64_id (by omega) (by omega)
theorem take_succ' {α : Type} (l : List α) (k : Nat) (h : k < l.length) : l.take (k + 1) = l.take k ++ [l[k]] := by
  rw [List.take_succ_eq_append_getElem h]
theorem sum_map_take {α : Type} (f : α → Nat) (l : List α) (k : Nat) (h : k < l.length) : ((l.take (k + 1)).map f).sum = ((l.take k).map f).sum + f l[k] := by
  rw [take_succ' l k h, List.map_append, List.sum_append]; simp only [List.map_cons, List.map_nil, List.sum_cons, List.sum_nil, Nat.add_zero]
theorem sum_take_le {α : Type} (f : α → Nat) (l : List α) (k : Nat) : ((l.take k).map f).sum ≤ (l.map f).sum := by
  have h : (l.map f).sum = ((l.take k).map f).sum + ((l.drop k).map f).sum := by
    rw [← List.sum_append, ← List.map_append, List.take_append_drop]
  omega
theorem sum_at_le {α : Type} (f : α → Nat) (l : List α) (k : Nat) (h : k < l.length) : f l[k] ≤ (l.map f).sum := by
  have h1 := sum_map_take f l k h
  have h2 := sum_take_le f l (k + 1)
  omega
/-- Two lists that are the same as far as one looks, and of one length. -/
theorem take_ext {α : Type} {a b : List α} {k : Nat} (h1 : k < a.length) (h2 : k < b.length) (h : a.take k = b.take k) (e : a[k] = b[k]) : a.take (k + 1) = b.take (k + 1) := by
  rw [take_succ' a k h1, take_succ' b k h2, h, e]
/-- A loop that holds two lists against each other. -/
theorem iter_same {α : Type} [DecidableEq α] {a b : List α} {S : Int → Option (Int ⊕ Bool ⊕ Unit)} (hl : a.length = b.length)
    (hS : ∀ (k : Nat) (h : k < a.length) (h' : k < b.length), S (k : Int) = if a[k] = b[k] then some (.inl ((k + 1 : Nat) : Int)) else some (.inr (.inl false))) (he : S (a.length : Int) = some (.inr (.inr ()))) :
    (ob (iterO S 0) fun a => sm a (fun a => some a) fun _ => some true) = some (decide (a = b)) := by
  obtain ⟨r, h1, h2⟩ := iter_post (S := S) (fun i => a.length - i.toNat) (fun i => ∃ k : Nat, i = k ∧ k ≤ a.length ∧ a.take k = b.take k) (fun r => sm r (fun x => x = false ∧ a ≠ b) fun _ => a = b) (fun i hi => by
    obtain ⟨k, rfl, hk, ht⟩ := hi
    rcases Nat.lt_or_ge k a.length with h | h
    · have h' : k < b.length := by omega
      rw [hS k h h']
      by_cases e : a[k] = b[k]
      · exact .inl ⟨_, if_pos e, ⟨k + 1, rfl, h, take_ext h h' ht e⟩, by simp; omega⟩
      · refine .inr ⟨_, if_neg e, rfl, fun e' => e ?_⟩
        subst e'; rfl
    · have : k = a.length := by omega
      subst this
      refine .inr ⟨_, he, ?_⟩
      show a = b
      rw [List.take_length, hl, List.take_length] at ht
      exact ht) 0 ⟨0, rfl, Nat.zero_le _, by simp⟩
  rw [h1]
  cases r with
  | inl x =>
    obtain ⟨rfl, h3⟩ := h2
    simp [ob_some, sm_inl, h3]
  | inr u =>
    have h3 : a = b := h2
    simp [ob_some, sm_inr, h3]
theorem ob_of {α β : Type} {x : Option α} {a : α} (h : x = some a) (f : α → Option β) : ob x f = f a := by rw [h]; rfl
end Go.Pv

namespace Go.Pv
/-- api.Obj -/
structure GObj where
  Class : Int
  Kind : Int
  Slots : (List Int)
  Text : ByteArray
  Bits : Int
  Hash : Int
  deriving DecidableEq
instance : Enc GObj := ⟨6, fun x => [T.sc (.int .i64 x.Class), T.sc (.int .i64 x.Kind), T.sl 1 (els x.Slots), T.sc (.string x.Text), T.sc (.int .i64 x.Bits), T.sc (.int .i64 x.Hash)], fun _ => rfl, ⟨0, 0, [], .empty, 0, 0⟩⟩
@[simp] theorem n_GObj : Enc.n GObj = 6 := rfl
@[simp] theorem enc_GObj (x : GObj) : Enc.enc x = [T.sc (.int .i64 x.Class), T.sc (.int .i64 x.Kind), T.sl 1 (els x.Slots), T.sc (.string x.Text), T.sc (.int .i64 x.Bits), T.sc (.int .i64 x.Hash)] := rfl
@[simp] theorem fs_GObj (l : List GObj) (i : Nat) (a_0 : Int) (a_1 : Int) (a_2 : (List Int)) (a_3 : ByteArray) (a_4 : Int) (a_5 : Int) : (els l).set i [T.sc (.int .i64 a_0), T.sc (.int .i64 a_1), T.sl 1 (els a_2), T.sc (.string a_3), T.sc (.int .i64 a_4), T.sc (.int .i64 a_5)] = els (l.set i ⟨a_0, a_1, a_2, a_3, a_4, a_5⟩) := els_set l i ⟨a_0, a_1, a_2, a_3, a_4, a_5⟩
@[simp] theorem fa_GObj (l : List GObj) (a_0 : Int) (a_1 : Int) (a_2 : (List Int)) (a_3 : ByteArray) (a_4 : Int) (a_5 : Int) : els l ++ [[T.sc (.int .i64 a_0), T.sc (.int .i64 a_1), T.sl 1 (els a_2), T.sc (.string a_3), T.sc (.int .i64 a_4), T.sc (.int .i64 a_5)]] = els (l ++ [⟨a_0, a_1, a_2, a_3, a_4, a_5⟩]) := els_snoc l ⟨a_0, a_1, a_2, a_3, a_4, a_5⟩
@[simp] theorem fc_GObj (l : List GObj) (a_0 : Int) (a_1 : Int) (a_2 : (List Int)) (a_3 : ByteArray) (a_4 : Int) (a_5 : Int) : [T.sc (.int .i64 a_0), T.sc (.int .i64 a_1), T.sl 1 (els a_2), T.sc (.string a_3), T.sc (.int .i64 a_4), T.sc (.int .i64 a_5)] :: els l = els ((⟨a_0, a_1, a_2, a_3, a_4, a_5⟩ : GObj) :: l) := rfl
@[simp] theorem f1_GObj (a_0 : Int) (a_1 : Int) (a_2 : (List Int)) (a_3 : ByteArray) (a_4 : Int) (a_5 : Int) : [[T.sc (.int .i64 a_0), T.sc (.int .i64 a_1), T.sl 1 (els a_2), T.sc (.string a_3), T.sc (.int .i64 a_4), T.sc (.int .i64 a_5)]] = els [(⟨a_0, a_1, a_2, a_3, a_4, a_5⟩ : GObj)] := rfl
theorem fr_GObj (k : Nat) (a_0 : Int) (a_1 : Int) (a_2 : (List Int)) (a_3 : ByteArray) (a_4 : Int) (a_5 : Int) : List.replicate k [T.sc (.int .i64 a_0), T.sc (.int .i64 a_1), T.sl 1 (els a_2), T.sc (.string a_3), T.sc (.int .i64 a_4), T.sc (.int .i64 a_5)] = els (List.replicate k (⟨a_0, a_1, a_2, a_3, a_4, a_5⟩ : GObj)) := els_rep k (⟨a_0, a_1, a_2, a_3, a_4, a_5⟩ : GObj)
/-- api.Record -/
structure GRecord where
  Kind : Int
  At : Int
  Slot : Int
  Old : Int
  Obj : GObj
  deriving DecidableEq
instance : Enc GRecord := ⟨10, fun x => [T.sc (.int .i64 x.Kind), T.sc (.int .i64 x.At), T.sc (.int .i64 x.Slot), T.sc (.int .i64 x.Old), T.sc (.int .i64 x.Obj.Class), T.sc (.int .i64 x.Obj.Kind), T.sl 1 (els x.Obj.Slots), T.sc (.string x.Obj.Text), T.sc (.int .i64 x.Obj.Bits), T.sc (.int .i64 x.Obj.Hash)], fun _ => rfl, ⟨0, 0, 0, 0, ⟨0, 0, [], .empty, 0, 0⟩⟩⟩
@[simp] theorem n_GRecord : Enc.n GRecord = 10 := rfl
@[simp] theorem enc_GRecord (x : GRecord) : Enc.enc x = [T.sc (.int .i64 x.Kind), T.sc (.int .i64 x.At), T.sc (.int .i64 x.Slot), T.sc (.int .i64 x.Old), T.sc (.int .i64 x.Obj.Class), T.sc (.int .i64 x.Obj.Kind), T.sl 1 (els x.Obj.Slots), T.sc (.string x.Obj.Text), T.sc (.int .i64 x.Obj.Bits), T.sc (.int .i64 x.Obj.Hash)] := rfl
@[simp] theorem fs_GRecord (l : List GRecord) (i : Nat) (a_0 : Int) (a_1 : Int) (a_2 : Int) (a_3 : Int) (a_4_0 : Int) (a_4_1 : Int) (a_4_2 : (List Int)) (a_4_3 : ByteArray) (a_4_4 : Int) (a_4_5 : Int) : (els l).set i [T.sc (.int .i64 a_0), T.sc (.int .i64 a_1), T.sc (.int .i64 a_2), T.sc (.int .i64 a_3), T.sc (.int .i64 a_4_0), T.sc (.int .i64 a_4_1), T.sl 1 (els a_4_2), T.sc (.string a_4_3), T.sc (.int .i64 a_4_4), T.sc (.int .i64 a_4_5)] = els (l.set i ⟨a_0, a_1, a_2, a_3, ⟨a_4_0, a_4_1, a_4_2, a_4_3, a_4_4, a_4_5⟩⟩) := els_set l i ⟨a_0, a_1, a_2, a_3, ⟨a_4_0, a_4_1, a_4_2, a_4_3, a_4_4, a_4_5⟩⟩
@[simp] theorem fa_GRecord (l : List GRecord) (a_0 : Int) (a_1 : Int) (a_2 : Int) (a_3 : Int) (a_4_0 : Int) (a_4_1 : Int) (a_4_2 : (List Int)) (a_4_3 : ByteArray) (a_4_4 : Int) (a_4_5 : Int) : els l ++ [[T.sc (.int .i64 a_0), T.sc (.int .i64 a_1), T.sc (.int .i64 a_2), T.sc (.int .i64 a_3), T.sc (.int .i64 a_4_0), T.sc (.int .i64 a_4_1), T.sl 1 (els a_4_2), T.sc (.string a_4_3), T.sc (.int .i64 a_4_4), T.sc (.int .i64 a_4_5)]] = els (l ++ [⟨a_0, a_1, a_2, a_3, ⟨a_4_0, a_4_1, a_4_2, a_4_3, a_4_4, a_4_5⟩⟩]) := els_snoc l ⟨a_0, a_1, a_2, a_3, ⟨a_4_0, a_4_1, a_4_2, a_4_3, a_4_4, a_4_5⟩⟩
@[simp] theorem fc_GRecord (l : List GRecord) (a_0 : Int) (a_1 : Int) (a_2 : Int) (a_3 : Int) (a_4_0 : Int) (a_4_1 : Int) (a_4_2 : (List Int)) (a_4_3 : ByteArray) (a_4_4 : Int) (a_4_5 : Int) : [T.sc (.int .i64 a_0), T.sc (.int .i64 a_1), T.sc (.int .i64 a_2), T.sc (.int .i64 a_3), T.sc (.int .i64 a_4_0), T.sc (.int .i64 a_4_1), T.sl 1 (els a_4_2), T.sc (.string a_4_3), T.sc (.int .i64 a_4_4), T.sc (.int .i64 a_4_5)] :: els l = els ((⟨a_0, a_1, a_2, a_3, ⟨a_4_0, a_4_1, a_4_2, a_4_3, a_4_4, a_4_5⟩⟩ : GRecord) :: l) := rfl
@[simp] theorem f1_GRecord (a_0 : Int) (a_1 : Int) (a_2 : Int) (a_3 : Int) (a_4_0 : Int) (a_4_1 : Int) (a_4_2 : (List Int)) (a_4_3 : ByteArray) (a_4_4 : Int) (a_4_5 : Int) : [[T.sc (.int .i64 a_0), T.sc (.int .i64 a_1), T.sc (.int .i64 a_2), T.sc (.int .i64 a_3), T.sc (.int .i64 a_4_0), T.sc (.int .i64 a_4_1), T.sl 1 (els a_4_2), T.sc (.string a_4_3), T.sc (.int .i64 a_4_4), T.sc (.int .i64 a_4_5)]] = els [(⟨a_0, a_1, a_2, a_3, ⟨a_4_0, a_4_1, a_4_2, a_4_3, a_4_4, a_4_5⟩⟩ : GRecord)] := rfl
theorem fr_GRecord (k : Nat) (a_0 : Int) (a_1 : Int) (a_2 : Int) (a_3 : Int) (a_4_0 : Int) (a_4_1 : Int) (a_4_2 : (List Int)) (a_4_3 : ByteArray) (a_4_4 : Int) (a_4_5 : Int) : List.replicate k [T.sc (.int .i64 a_0), T.sc (.int .i64 a_1), T.sc (.int .i64 a_2), T.sc (.int .i64 a_3), T.sc (.int .i64 a_4_0), T.sc (.int .i64 a_4_1), T.sl 1 (els a_4_2), T.sc (.string a_4_3), T.sc (.int .i64 a_4_4), T.sc (.int .i64 a_4_5)] = els (List.replicate k (⟨a_0, a_1, a_2, a_3, ⟨a_4_0, a_4_1, a_4_2, a_4_3, a_4_4, a_4_5⟩⟩ : GRecord)) := els_rep k (⟨a_0, a_1, a_2, a_3, ⟨a_4_0, a_4_1, a_4_2, a_4_3, a_4_4, a_4_5⟩⟩ : GRecord)
/-- api.Ring -/
structure GRing where
  Cap : Int
  Groups : (List (List GRecord))
  deriving DecidableEq
instance : Enc GRing := ⟨2, fun x => [T.sc (.int .i64 x.Cap), T.sl 1 (els x.Groups)], fun _ => rfl, ⟨0, []⟩⟩
@[simp] theorem n_GRing : Enc.n GRing = 2 := rfl
@[simp] theorem enc_GRing (x : GRing) : Enc.enc x = [T.sc (.int .i64 x.Cap), T.sl 1 (els x.Groups)] := rfl
@[simp] theorem fs_GRing (l : List GRing) (i : Nat) (a_0 : Int) (a_1 : (List (List GRecord))) : (els l).set i [T.sc (.int .i64 a_0), T.sl 1 (els a_1)] = els (l.set i ⟨a_0, a_1⟩) := els_set l i ⟨a_0, a_1⟩
@[simp] theorem fa_GRing (l : List GRing) (a_0 : Int) (a_1 : (List (List GRecord))) : els l ++ [[T.sc (.int .i64 a_0), T.sl 1 (els a_1)]] = els (l ++ [⟨a_0, a_1⟩]) := els_snoc l ⟨a_0, a_1⟩
@[simp] theorem fc_GRing (l : List GRing) (a_0 : Int) (a_1 : (List (List GRecord))) : [T.sc (.int .i64 a_0), T.sl 1 (els a_1)] :: els l = els ((⟨a_0, a_1⟩ : GRing) :: l) := rfl
@[simp] theorem f1_GRing (a_0 : Int) (a_1 : (List (List GRecord))) : [[T.sc (.int .i64 a_0), T.sl 1 (els a_1)]] = els [(⟨a_0, a_1⟩ : GRing)] := rfl
theorem fr_GRing (k : Nat) (a_0 : Int) (a_1 : (List (List GRecord))) : List.replicate k [T.sc (.int .i64 a_0), T.sl 1 (els a_1)] = els (List.replicate k (⟨a_0, a_1⟩ : GRing)) := els_rep k (⟨a_0, a_1⟩ : GRing)
/-- api.Tape -/
structure GTape where
  Log : (List Int)
  Rest : (List Int)
  deriving DecidableEq
instance : Enc GTape := ⟨2, fun x => [T.sl 1 (els x.Log), T.sl 1 (els x.Rest)], fun _ => rfl, ⟨[], []⟩⟩
@[simp] theorem n_GTape : Enc.n GTape = 2 := rfl
@[simp] theorem enc_GTape (x : GTape) : Enc.enc x = [T.sl 1 (els x.Log), T.sl 1 (els x.Rest)] := rfl
@[simp] theorem fs_GTape (l : List GTape) (i : Nat) (a_0 : (List Int)) (a_1 : (List Int)) : (els l).set i [T.sl 1 (els a_0), T.sl 1 (els a_1)] = els (l.set i ⟨a_0, a_1⟩) := els_set l i ⟨a_0, a_1⟩
@[simp] theorem fa_GTape (l : List GTape) (a_0 : (List Int)) (a_1 : (List Int)) : els l ++ [[T.sl 1 (els a_0), T.sl 1 (els a_1)]] = els (l ++ [⟨a_0, a_1⟩]) := els_snoc l ⟨a_0, a_1⟩
@[simp] theorem fc_GTape (l : List GTape) (a_0 : (List Int)) (a_1 : (List Int)) : [T.sl 1 (els a_0), T.sl 1 (els a_1)] :: els l = els ((⟨a_0, a_1⟩ : GTape) :: l) := rfl
@[simp] theorem f1_GTape (a_0 : (List Int)) (a_1 : (List Int)) : [[T.sl 1 (els a_0), T.sl 1 (els a_1)]] = els [(⟨a_0, a_1⟩ : GTape)] := rfl
theorem fr_GTape (k : Nat) (a_0 : (List Int)) (a_1 : (List Int)) : List.replicate k [T.sl 1 (els a_0), T.sl 1 (els a_1)] = els (List.replicate k (⟨a_0, a_1⟩ : GTape)) := els_rep k (⟨a_0, a_1⟩ : GTape)
/-- nil of 5 -/
@[simp high] theorem ns_5 : D.seam (some (1, 5, false)) (D.t (T.sc (.slice none 0 0))) = D.t (T.sl 1 (els ([] : List Int))) := rfl
@[simp high] theorem no_5 : D.seam (some (1, 5, true)) (D.t (T.sc (.slice none 0 0))) = D.own 5 1 (els ([] : List Int)) := rfl
@[simp high] theorem nc_5 : canon1 (some (1, 5)) (T.sc (.slice none 0 0)) = T.sl 1 (els ([] : List Int)) := rfl
@[simp high] theorem nw_5 : D.own 5 1 [] = D.own 5 1 (els ([] : List Int)) := rfl
/-- nil of 35 -/
@[simp high] theorem ns_35 : D.seam (some (1, 35, false)) (D.t (T.sc (.slice none 0 0))) = D.t (T.sl 1 (els ([] : List (List GRecord)))) := rfl
@[simp high] theorem no_35 : D.seam (some (1, 35, true)) (D.t (T.sc (.slice none 0 0))) = D.own 35 1 (els ([] : List (List GRecord))) := rfl
@[simp high] theorem nc_35 : canon1 (some (1, 35)) (T.sc (.slice none 0 0)) = T.sl 1 (els ([] : List (List GRecord))) := rfl
@[simp high] theorem nw_35 : D.own 35 1 [] = D.own 35 1 (els ([] : List (List GRecord))) := rfl
/-- nil of 71 -/
@[simp high] theorem ns_71 : D.seam (some (10, 71, false)) (D.t (T.sc (.slice none 0 0))) = D.t (T.sl 10 (els ([] : List GRecord))) := rfl
@[simp high] theorem no_71 : D.seam (some (10, 71, true)) (D.t (T.sc (.slice none 0 0))) = D.own 71 10 (els ([] : List GRecord)) := rfl
@[simp high] theorem nc_71 : canon1 (some (10, 71)) (T.sc (.slice none 0 0)) = T.sl 10 (els ([] : List GRecord)) := rfl
@[simp high] theorem nw_71 : D.own 71 10 [] = D.own 71 10 (els ([] : List GRecord)) := rfl
/-- nil of 3 -/
@[simp high] theorem ns_3 : D.seam (some (1, 3, false)) (D.t (T.sc (.slice none 0 0))) = D.t (T.sl 1 (els ([] : List Int))) := rfl
@[simp high] theorem no_3 : D.seam (some (1, 3, true)) (D.t (T.sc (.slice none 0 0))) = D.own 3 1 (els ([] : List Int)) := rfl
@[simp high] theorem nc_3 : canon1 (some (1, 3)) (T.sc (.slice none 0 0)) = T.sl 1 (els ([] : List Int)) := rfl
@[simp high] theorem nw_3 : D.own 3 1 [] = D.own 3 1 (els ([] : List Int)) := rfl
/-- nil of 51 -/
@[simp high] theorem ns_51 : D.seam (some (1, 51, false)) (D.t (T.sc (.slice none 0 0))) = D.t (T.sl 1 (els ([] : List (List Int)))) := rfl
@[simp high] theorem no_51 : D.seam (some (1, 51, true)) (D.t (T.sc (.slice none 0 0))) = D.own 51 1 (els ([] : List (List Int))) := rfl
@[simp high] theorem nc_51 : canon1 (some (1, 51)) (T.sc (.slice none 0 0)) = T.sl 1 (els ([] : List (List Int))) := rfl
@[simp high] theorem nw_51 : D.own 51 1 [] = D.own 51 1 (els ([] : List (List Int))) := rfl
end Go.Pv

namespace Go.Pv
open Go Go.Proofs
@[simp] theorem zOk0 : zOk Try.prog 0 = false := by kernel_rfl
@[simp] theorem aggT0 : aggT Try.prog 0 = false := by kernel_rfl
@[simp] theorem kinds0 : kinds Try.prog 8 0 = [none] := by kernel_rfl
@[simp] theorem elOf0 : elOf Try.prog 0 = none := by kernel_rfl
@[simp] theorem arrOf0 : arrOf Try.prog 0 = none := by kernel_rfl
@[simp] theorem isStr0 : isStr Try.prog 0 = false := by kernel_rfl
@[simp] theorem isBoolT0 : isBoolT Try.prog 0 = false := by kernel_rfl
@[simp] theorem isSliceT0 : isSliceT Try.prog 0 = false := by kernel_rfl
@[simp] theorem isPtrT0 : isPtrT Try.prog 0 = false := by kernel_rfl
@[simp] theorem isBytes0 : isBytes Try.prog 0 = false := by kernel_rfl
@[simp] theorem intOfT0 : intOfT Try.prog 0 = none := by kernel_rfl
@[simp] theorem zOk1 : zOk Try.prog 1 = true := by kernel_rfl
@[simp] theorem szOf1 : szOf Try.prog 1 = 1 := by kernel_rfl
@[simp] theorem bytesOf1 : bytesOf Try.prog 1 = 8 := by kernel_rfl
@[simp] theorem zeroOf1 : zeroOf Try.prog 1 = [.nilFunc] := by kernel_rfl
@[simp] theorem aggT1 : aggT Try.prog 1 = false := by kernel_rfl
@[simp] theorem kinds1 : kinds Try.prog 8 1 = [none] := by kernel_rfl
@[simp] theorem elOf1 : elOf Try.prog 1 = none := by kernel_rfl
@[simp] theorem arrOf1 : arrOf Try.prog 1 = none := by kernel_rfl
@[simp] theorem isStr1 : isStr Try.prog 1 = false := by kernel_rfl
@[simp] theorem isBoolT1 : isBoolT Try.prog 1 = false := by kernel_rfl
@[simp] theorem isSliceT1 : isSliceT Try.prog 1 = false := by kernel_rfl
@[simp] theorem isPtrT1 : isPtrT Try.prog 1 = false := by kernel_rfl
@[simp] theorem isBytes1 : isBytes Try.prog 1 = false := by kernel_rfl
@[simp] theorem intOfT1 : intOfT Try.prog 1 = none := by kernel_rfl
@[simp] theorem zOk2 : zOk Try.prog 2 = true := by kernel_rfl
@[simp] theorem szOf2 : szOf Try.prog 2 = 1 := by kernel_rfl
@[simp] theorem bytesOf2 : bytesOf Try.prog 2 = 8 := by kernel_rfl
@[simp] theorem zeroOf2 : zeroOf Try.prog 2 = [.int .i64 0] := by kernel_rfl
@[simp] theorem aggT2 : aggT Try.prog 2 = false := by kernel_rfl
@[simp] theorem kinds2 : kinds Try.prog 8 2 = [none] := by kernel_rfl
@[simp] theorem elOf2 : elOf Try.prog 2 = none := by kernel_rfl
@[simp] theorem arrOf2 : arrOf Try.prog 2 = none := by kernel_rfl
@[simp] theorem isStr2 : isStr Try.prog 2 = false := by kernel_rfl
@[simp] theorem isBoolT2 : isBoolT Try.prog 2 = false := by kernel_rfl
@[simp] theorem isSliceT2 : isSliceT Try.prog 2 = false := by kernel_rfl
@[simp] theorem isPtrT2 : isPtrT Try.prog 2 = false := by kernel_rfl
@[simp] theorem isBytes2 : isBytes Try.prog 2 = false := by kernel_rfl
@[simp] theorem intOfT2 : intOfT Try.prog 2 = some .i64 := by kernel_rfl
@[simp] theorem zOk3 : zOk Try.prog 3 = true := by kernel_rfl
@[simp] theorem szOf3 : szOf Try.prog 3 = 1 := by kernel_rfl
@[simp] theorem bytesOf3 : bytesOf Try.prog 3 = 8 := by kernel_rfl
@[simp] theorem zeroOf3 : zeroOf Try.prog 3 = [.int .i64 0] := by kernel_rfl
@[simp] theorem aggT3 : aggT Try.prog 3 = false := by kernel_rfl
@[simp] theorem kinds3 : kinds Try.prog 8 3 = [none] := by kernel_rfl
@[simp] theorem elOf3 : elOf Try.prog 3 = none := by kernel_rfl
@[simp] theorem arrOf3 : arrOf Try.prog 3 = none := by kernel_rfl
@[simp] theorem isStr3 : isStr Try.prog 3 = false := by kernel_rfl
@[simp] theorem isBoolT3 : isBoolT Try.prog 3 = false := by kernel_rfl
@[simp] theorem isSliceT3 : isSliceT Try.prog 3 = false := by kernel_rfl
@[simp] theorem isPtrT3 : isPtrT Try.prog 3 = false := by kernel_rfl
@[simp] theorem isBytes3 : isBytes Try.prog 3 = false := by kernel_rfl
@[simp] theorem intOfT3 : intOfT Try.prog 3 = some .i64 := by kernel_rfl
@[simp] theorem zOk4 : zOk Try.prog 4 = true := by kernel_rfl
@[simp] theorem szOf4 : szOf Try.prog 4 = 1 := by kernel_rfl
@[simp] theorem bytesOf4 : bytesOf Try.prog 4 = 1 := by kernel_rfl
@[simp] theorem zeroOf4 : zeroOf Try.prog 4 = [.bool false] := by kernel_rfl
@[simp] theorem aggT4 : aggT Try.prog 4 = false := by kernel_rfl
@[simp] theorem kinds4 : kinds Try.prog 8 4 = [none] := by kernel_rfl
@[simp] theorem elOf4 : elOf Try.prog 4 = none := by kernel_rfl
@[simp] theorem arrOf4 : arrOf Try.prog 4 = none := by kernel_rfl
@[simp] theorem isStr4 : isStr Try.prog 4 = false := by kernel_rfl
@[simp] theorem isBoolT4 : isBoolT Try.prog 4 = true := by kernel_rfl
@[simp] theorem isSliceT4 : isSliceT Try.prog 4 = false := by kernel_rfl
@[simp] theorem isPtrT4 : isPtrT Try.prog 4 = false := by kernel_rfl
@[simp] theorem isBytes4 : isBytes Try.prog 4 = false := by kernel_rfl
@[simp] theorem intOfT4 : intOfT Try.prog 4 = none := by kernel_rfl
@[simp] theorem zOk5 : zOk Try.prog 5 = true := by kernel_rfl
@[simp] theorem szOf5 : szOf Try.prog 5 = 1 := by kernel_rfl
@[simp] theorem bytesOf5 : bytesOf Try.prog 5 = 1 := by kernel_rfl
@[simp] theorem zeroOf5 : zeroOf Try.prog 5 = [.int .u8 0] := by kernel_rfl
@[simp] theorem aggT5 : aggT Try.prog 5 = false := by kernel_rfl
@[simp] theorem kinds5 : kinds Try.prog 8 5 = [none] := by kernel_rfl
@[simp] theorem elOf5 : elOf Try.prog 5 = none := by kernel_rfl
@[simp] theorem arrOf5 : arrOf Try.prog 5 = none := by kernel_rfl
@[simp] theorem isStr5 : isStr Try.prog 5 = false := by kernel_rfl
@[simp] theorem isBoolT5 : isBoolT Try.prog 5 = false := by kernel_rfl
@[simp] theorem isSliceT5 : isSliceT Try.prog 5 = false := by kernel_rfl
@[simp] theorem isPtrT5 : isPtrT Try.prog 5 = false := by kernel_rfl
@[simp] theorem isBytes5 : isBytes Try.prog 5 = false := by kernel_rfl
@[simp] theorem intOfT5 : intOfT Try.prog 5 = some .u8 := by kernel_rfl
@[simp] theorem zOk6 : zOk Try.prog 6 = true := by kernel_rfl
@[simp] theorem szOf6 : szOf Try.prog 6 = 1 := by kernel_rfl
@[simp] theorem bytesOf6 : bytesOf Try.prog 6 = 1 := by kernel_rfl
@[simp] theorem zeroOf6 : zeroOf Try.prog 6 = [.int .u8 0] := by kernel_rfl
@[simp] theorem aggT6 : aggT Try.prog 6 = false := by kernel_rfl
@[simp] theorem kinds6 : kinds Try.prog 8 6 = [none] := by kernel_rfl
@[simp] theorem elOf6 : elOf Try.prog 6 = none := by kernel_rfl
@[simp] theorem arrOf6 : arrOf Try.prog 6 = none := by kernel_rfl
@[simp] theorem isStr6 : isStr Try.prog 6 = false := by kernel_rfl
@[simp] theorem isBoolT6 : isBoolT Try.prog 6 = false := by kernel_rfl
@[simp] theorem isSliceT6 : isSliceT Try.prog 6 = false := by kernel_rfl
@[simp] theorem isPtrT6 : isPtrT Try.prog 6 = false := by kernel_rfl
@[simp] theorem isBytes6 : isBytes Try.prog 6 = false := by kernel_rfl
@[simp] theorem intOfT6 : intOfT Try.prog 6 = some .u8 := by kernel_rfl
@[simp] theorem zOk7 : zOk Try.prog 7 = true := by kernel_rfl
@[simp] theorem szOf7 : szOf Try.prog 7 = 4 := by kernel_rfl
@[simp] theorem bytesOf7 : bytesOf Try.prog 7 = 24 := by kernel_rfl
@[simp] theorem zeroOf7 : zeroOf Try.prog 7 = [.int .i64 0, .int .i64 0, .bool false, .int .u8 0] := by kernel_rfl
@[simp] theorem aggT7 : aggT Try.prog 7 = true := by kernel_rfl
@[simp] theorem kinds7 : kinds Try.prog 8 7 = [none, none, none, none] := by kernel_rfl
@[simp] theorem buildOk7 : buildOk Try.prog 7 = true := by kernel_rfl
@[simp] theorem offOf7_0 : offOf Try.prog 7 0 = some 0 := by kernel_rfl
@[simp] theorem fszOf7_0 : fszOf Try.prog 7 0 = some (1, false) := by kernel_rfl
@[simp] theorem offOf7_1 : offOf Try.prog 7 1 = some 1 := by kernel_rfl
@[simp] theorem fszOf7_1 : fszOf Try.prog 7 1 = some (1, false) := by kernel_rfl
@[simp] theorem offOf7_2 : offOf Try.prog 7 2 = some 2 := by kernel_rfl
@[simp] theorem fszOf7_2 : fszOf Try.prog 7 2 = some (1, false) := by kernel_rfl
@[simp] theorem offOf7_3 : offOf Try.prog 7 3 = some 3 := by kernel_rfl
@[simp] theorem fszOf7_3 : fszOf Try.prog 7 3 = some (1, false) := by kernel_rfl
@[simp] theorem elOf7 : elOf Try.prog 7 = none := by kernel_rfl
@[simp] theorem arrOf7 : arrOf Try.prog 7 = none := by kernel_rfl
@[simp] theorem isStr7 : isStr Try.prog 7 = false := by kernel_rfl
@[simp] theorem isBoolT7 : isBoolT Try.prog 7 = false := by kernel_rfl
@[simp] theorem isSliceT7 : isSliceT Try.prog 7 = false := by kernel_rfl
@[simp] theorem isPtrT7 : isPtrT Try.prog 7 = false := by kernel_rfl
@[simp] theorem isBytes7 : isBytes Try.prog 7 = false := by kernel_rfl
@[simp] theorem intOfT7 : intOfT Try.prog 7 = none := by kernel_rfl
@[simp] theorem zOk8 : zOk Try.prog 8 = true := by kernel_rfl
@[simp] theorem szOf8 : szOf Try.prog 8 = 4 := by kernel_rfl
@[simp] theorem bytesOf8 : bytesOf Try.prog 8 = 24 := by kernel_rfl
@[simp] theorem zeroOf8 : zeroOf Try.prog 8 = [.int .i64 0, .int .i64 0, .bool false, .int .u8 0] := by kernel_rfl
@[simp] theorem aggT8 : aggT Try.prog 8 = true := by kernel_rfl
@[simp] theorem kinds8 : kinds Try.prog 8 8 = [none, none, none, none] := by kernel_rfl
@[simp] theorem buildOk8 : buildOk Try.prog 8 = true := by kernel_rfl
@[simp] theorem offOf8_0 : offOf Try.prog 8 0 = some 0 := by kernel_rfl
@[simp] theorem fszOf8_0 : fszOf Try.prog 8 0 = some (1, false) := by kernel_rfl
@[simp] theorem offOf8_1 : offOf Try.prog 8 1 = some 1 := by kernel_rfl
@[simp] theorem fszOf8_1 : fszOf Try.prog 8 1 = some (1, false) := by kernel_rfl
@[simp] theorem offOf8_2 : offOf Try.prog 8 2 = some 2 := by kernel_rfl
@[simp] theorem fszOf8_2 : fszOf Try.prog 8 2 = some (1, false) := by kernel_rfl
@[simp] theorem offOf8_3 : offOf Try.prog 8 3 = some 3 := by kernel_rfl
@[simp] theorem fszOf8_3 : fszOf Try.prog 8 3 = some (1, false) := by kernel_rfl
@[simp] theorem elOf8 : elOf Try.prog 8 = none := by kernel_rfl
@[simp] theorem arrOf8 : arrOf Try.prog 8 = none := by kernel_rfl
@[simp] theorem isStr8 : isStr Try.prog 8 = false := by kernel_rfl
@[simp] theorem isBoolT8 : isBoolT Try.prog 8 = false := by kernel_rfl
@[simp] theorem isSliceT8 : isSliceT Try.prog 8 = false := by kernel_rfl
@[simp] theorem isPtrT8 : isPtrT Try.prog 8 = false := by kernel_rfl
@[simp] theorem isBytes8 : isBytes Try.prog 8 = false := by kernel_rfl
@[simp] theorem intOfT8 : intOfT Try.prog 8 = none := by kernel_rfl
@[simp] theorem zOk9 : zOk Try.prog 9 = true := by kernel_rfl
@[simp] theorem szOf9 : szOf Try.prog 9 = 1 := by kernel_rfl
@[simp] theorem bytesOf9 : bytesOf Try.prog 9 = 16 := by kernel_rfl
@[simp] theorem zeroOf9 : zeroOf Try.prog 9 = [.string ⟨#[]⟩] := by kernel_rfl
@[simp] theorem aggT9 : aggT Try.prog 9 = false := by kernel_rfl
@[simp] theorem kinds9 : kinds Try.prog 8 9 = [none] := by kernel_rfl
@[simp] theorem elOf9 : elOf Try.prog 9 = none := by kernel_rfl
@[simp] theorem arrOf9 : arrOf Try.prog 9 = none := by kernel_rfl
@[simp] theorem isStr9 : isStr Try.prog 9 = true := by kernel_rfl
@[simp] theorem isBoolT9 : isBoolT Try.prog 9 = false := by kernel_rfl
@[simp] theorem isSliceT9 : isSliceT Try.prog 9 = false := by kernel_rfl
@[simp] theorem isPtrT9 : isPtrT Try.prog 9 = false := by kernel_rfl
@[simp] theorem isBytes9 : isBytes Try.prog 9 = false := by kernel_rfl
@[simp] theorem intOfT9 : intOfT Try.prog 9 = none := by kernel_rfl
@[simp] theorem zOk10 : zOk Try.prog 10 = true := by kernel_rfl
@[simp] theorem szOf10 : szOf Try.prog 10 = 1 := by kernel_rfl
@[simp] theorem bytesOf10 : bytesOf Try.prog 10 = 16 := by kernel_rfl
@[simp] theorem zeroOf10 : zeroOf Try.prog 10 = [.string ⟨#[]⟩] := by kernel_rfl
@[simp] theorem aggT10 : aggT Try.prog 10 = false := by kernel_rfl
@[simp] theorem kinds10 : kinds Try.prog 8 10 = [none] := by kernel_rfl
@[simp] theorem elOf10 : elOf Try.prog 10 = none := by kernel_rfl
@[simp] theorem arrOf10 : arrOf Try.prog 10 = none := by kernel_rfl
@[simp] theorem isStr10 : isStr Try.prog 10 = true := by kernel_rfl
@[simp] theorem isBoolT10 : isBoolT Try.prog 10 = false := by kernel_rfl
@[simp] theorem isSliceT10 : isSliceT Try.prog 10 = false := by kernel_rfl
@[simp] theorem isPtrT10 : isPtrT Try.prog 10 = false := by kernel_rfl
@[simp] theorem isBytes10 : isBytes Try.prog 10 = false := by kernel_rfl
@[simp] theorem intOfT10 : intOfT Try.prog 10 = none := by kernel_rfl
@[simp] theorem zOk11 : zOk Try.prog 11 = true := by kernel_rfl
@[simp] theorem szOf11 : szOf Try.prog 11 = 1 := by kernel_rfl
@[simp] theorem bytesOf11 : bytesOf Try.prog 11 = 16 := by kernel_rfl
@[simp] theorem zeroOf11 : zeroOf Try.prog 11 = [.string ⟨#[]⟩] := by kernel_rfl
@[simp] theorem aggT11 : aggT Try.prog 11 = false := by kernel_rfl
@[simp] theorem kinds11 : kinds Try.prog 8 11 = [none] := by kernel_rfl
@[simp] theorem elOf11 : elOf Try.prog 11 = none := by kernel_rfl
@[simp] theorem arrOf11 : arrOf Try.prog 11 = none := by kernel_rfl
@[simp] theorem isStr11 : isStr Try.prog 11 = true := by kernel_rfl
@[simp] theorem isBoolT11 : isBoolT Try.prog 11 = false := by kernel_rfl
@[simp] theorem isSliceT11 : isSliceT Try.prog 11 = false := by kernel_rfl
@[simp] theorem isPtrT11 : isPtrT Try.prog 11 = false := by kernel_rfl
@[simp] theorem isBytes11 : isBytes Try.prog 11 = false := by kernel_rfl
@[simp] theorem intOfT11 : intOfT Try.prog 11 = none := by kernel_rfl
@[simp] theorem zOk12 : zOk Try.prog 12 = true := by kernel_rfl
@[simp] theorem szOf12 : szOf Try.prog 12 = 1 := by kernel_rfl
@[simp] theorem bytesOf12 : bytesOf Try.prog 12 = 8 := by kernel_rfl
@[simp] theorem zeroOf12 : zeroOf Try.prog 12 = [.int .u64 0] := by kernel_rfl
@[simp] theorem aggT12 : aggT Try.prog 12 = false := by kernel_rfl
@[simp] theorem kinds12 : kinds Try.prog 8 12 = [none] := by kernel_rfl
@[simp] theorem elOf12 : elOf Try.prog 12 = none := by kernel_rfl
@[simp] theorem arrOf12 : arrOf Try.prog 12 = none := by kernel_rfl
@[simp] theorem isStr12 : isStr Try.prog 12 = false := by kernel_rfl
@[simp] theorem isBoolT12 : isBoolT Try.prog 12 = false := by kernel_rfl
@[simp] theorem isSliceT12 : isSliceT Try.prog 12 = false := by kernel_rfl
@[simp] theorem isPtrT12 : isPtrT Try.prog 12 = false := by kernel_rfl
@[simp] theorem isBytes12 : isBytes Try.prog 12 = false := by kernel_rfl
@[simp] theorem intOfT12 : intOfT Try.prog 12 = some .u64 := by kernel_rfl
@[simp] theorem zOk13 : zOk Try.prog 13 = true := by kernel_rfl
@[simp] theorem szOf13 : szOf Try.prog 13 = 2 := by kernel_rfl
@[simp] theorem bytesOf13 : bytesOf Try.prog 13 = 24 := by kernel_rfl
@[simp] theorem zeroOf13 : zeroOf Try.prog 13 = [.string ⟨#[]⟩, .int .u64 0] := by kernel_rfl
@[simp] theorem aggT13 : aggT Try.prog 13 = true := by kernel_rfl
@[simp] theorem kinds13 : kinds Try.prog 8 13 = [none, none] := by kernel_rfl
@[simp] theorem buildOk13 : buildOk Try.prog 13 = true := by kernel_rfl
@[simp] theorem offOf13_0 : offOf Try.prog 13 0 = some 0 := by kernel_rfl
@[simp] theorem fszOf13_0 : fszOf Try.prog 13 0 = some (1, false) := by kernel_rfl
@[simp] theorem offOf13_1 : offOf Try.prog 13 1 = some 1 := by kernel_rfl
@[simp] theorem fszOf13_1 : fszOf Try.prog 13 1 = some (1, false) := by kernel_rfl
@[simp] theorem elOf13 : elOf Try.prog 13 = none := by kernel_rfl
@[simp] theorem arrOf13 : arrOf Try.prog 13 = none := by kernel_rfl
@[simp] theorem isStr13 : isStr Try.prog 13 = false := by kernel_rfl
@[simp] theorem isBoolT13 : isBoolT Try.prog 13 = false := by kernel_rfl
@[simp] theorem isSliceT13 : isSliceT Try.prog 13 = false := by kernel_rfl
@[simp] theorem isPtrT13 : isPtrT Try.prog 13 = false := by kernel_rfl
@[simp] theorem isBytes13 : isBytes Try.prog 13 = false := by kernel_rfl
@[simp] theorem intOfT13 : intOfT Try.prog 13 = none := by kernel_rfl
@[simp] theorem zOk14 : zOk Try.prog 14 = true := by kernel_rfl
@[simp] theorem szOf14 : szOf Try.prog 14 = 2 := by kernel_rfl
@[simp] theorem bytesOf14 : bytesOf Try.prog 14 = 24 := by kernel_rfl
@[simp] theorem zeroOf14 : zeroOf Try.prog 14 = [.string ⟨#[]⟩, .int .u64 0] := by kernel_rfl
@[simp] theorem aggT14 : aggT Try.prog 14 = true := by kernel_rfl
@[simp] theorem kinds14 : kinds Try.prog 8 14 = [none, none] := by kernel_rfl
@[simp] theorem buildOk14 : buildOk Try.prog 14 = true := by kernel_rfl
@[simp] theorem offOf14_0 : offOf Try.prog 14 0 = some 0 := by kernel_rfl
@[simp] theorem fszOf14_0 : fszOf Try.prog 14 0 = some (1, false) := by kernel_rfl
@[simp] theorem offOf14_1 : offOf Try.prog 14 1 = some 1 := by kernel_rfl
@[simp] theorem fszOf14_1 : fszOf Try.prog 14 1 = some (1, false) := by kernel_rfl
@[simp] theorem elOf14 : elOf Try.prog 14 = none := by kernel_rfl
@[simp] theorem arrOf14 : arrOf Try.prog 14 = none := by kernel_rfl
@[simp] theorem isStr14 : isStr Try.prog 14 = false := by kernel_rfl
@[simp] theorem isBoolT14 : isBoolT Try.prog 14 = false := by kernel_rfl
@[simp] theorem isSliceT14 : isSliceT Try.prog 14 = false := by kernel_rfl
@[simp] theorem isPtrT14 : isPtrT Try.prog 14 = false := by kernel_rfl
@[simp] theorem isBytes14 : isBytes Try.prog 14 = false := by kernel_rfl
@[simp] theorem intOfT14 : intOfT Try.prog 14 = none := by kernel_rfl
@[simp] theorem zOk15 : zOk Try.prog 15 = true := by kernel_rfl
@[simp] theorem szOf15 : szOf Try.prog 15 = 1 := by kernel_rfl
@[simp] theorem bytesOf15 : bytesOf Try.prog 15 = 8 := by kernel_rfl
@[simp] theorem zeroOf15 : zeroOf Try.prog 15 = [.pointer none] := by kernel_rfl
@[simp] theorem aggT15 : aggT Try.prog 15 = false := by kernel_rfl
@[simp] theorem kinds15 : kinds Try.prog 8 15 = [none] := by kernel_rfl
@[simp] theorem elOf15 : elOf Try.prog 15 = none := by kernel_rfl
@[simp] theorem arrOf15 : arrOf Try.prog 15 = none := by kernel_rfl
@[simp] theorem isStr15 : isStr Try.prog 15 = false := by kernel_rfl
@[simp] theorem isBoolT15 : isBoolT Try.prog 15 = false := by kernel_rfl
@[simp] theorem isSliceT15 : isSliceT Try.prog 15 = false := by kernel_rfl
@[simp] theorem isPtrT15 : isPtrT Try.prog 15 = true := by kernel_rfl
@[simp] theorem isBytes15 : isBytes Try.prog 15 = false := by kernel_rfl
@[simp] theorem intOfT15 : intOfT Try.prog 15 = none := by kernel_rfl
@[simp] theorem zOk16 : zOk Try.prog 16 = true := by kernel_rfl
@[simp] theorem szOf16 : szOf Try.prog 16 = 1 := by kernel_rfl
@[simp] theorem bytesOf16 : bytesOf Try.prog 16 = 8 := by kernel_rfl
@[simp] theorem zeroOf16 : zeroOf Try.prog 16 = [.pointer none] := by kernel_rfl
@[simp] theorem aggT16 : aggT Try.prog 16 = false := by kernel_rfl
@[simp] theorem kinds16 : kinds Try.prog 8 16 = [none] := by kernel_rfl
@[simp] theorem elOf16 : elOf Try.prog 16 = none := by kernel_rfl
@[simp] theorem arrOf16 : arrOf Try.prog 16 = none := by kernel_rfl
@[simp] theorem isStr16 : isStr Try.prog 16 = false := by kernel_rfl
@[simp] theorem isBoolT16 : isBoolT Try.prog 16 = false := by kernel_rfl
@[simp] theorem isSliceT16 : isSliceT Try.prog 16 = false := by kernel_rfl
@[simp] theorem isPtrT16 : isPtrT Try.prog 16 = true := by kernel_rfl
@[simp] theorem isBytes16 : isBytes Try.prog 16 = false := by kernel_rfl
@[simp] theorem intOfT16 : intOfT Try.prog 16 = none := by kernel_rfl
@[simp] theorem zOk17 : zOk Try.prog 17 = true := by kernel_rfl
@[simp] theorem szOf17 : szOf Try.prog 17 = 1 := by kernel_rfl
@[simp] theorem bytesOf17 : bytesOf Try.prog 17 = 8 := by kernel_rfl
@[simp] theorem zeroOf17 : zeroOf Try.prog 17 = [.pointer none] := by kernel_rfl
@[simp] theorem aggT17 : aggT Try.prog 17 = false := by kernel_rfl
@[simp] theorem kinds17 : kinds Try.prog 8 17 = [none] := by kernel_rfl
@[simp] theorem elOf17 : elOf Try.prog 17 = none := by kernel_rfl
@[simp] theorem arrOf17 : arrOf Try.prog 17 = none := by kernel_rfl
@[simp] theorem isStr17 : isStr Try.prog 17 = false := by kernel_rfl
@[simp] theorem isBoolT17 : isBoolT Try.prog 17 = false := by kernel_rfl
@[simp] theorem isSliceT17 : isSliceT Try.prog 17 = false := by kernel_rfl
@[simp] theorem isPtrT17 : isPtrT Try.prog 17 = true := by kernel_rfl
@[simp] theorem isBytes17 : isBytes Try.prog 17 = false := by kernel_rfl
@[simp] theorem intOfT17 : intOfT Try.prog 17 = none := by kernel_rfl
@[simp] theorem zOk18 : zOk Try.prog 18 = true := by kernel_rfl
@[simp] theorem szOf18 : szOf Try.prog 18 = 1 := by kernel_rfl
@[simp] theorem bytesOf18 : bytesOf Try.prog 18 = 8 := by kernel_rfl
@[simp] theorem zeroOf18 : zeroOf Try.prog 18 = [.pointer none] := by kernel_rfl
@[simp] theorem aggT18 : aggT Try.prog 18 = true := by kernel_rfl
@[simp] theorem kinds18 : kinds Try.prog 8 18 = [none] := by kernel_rfl
@[simp] theorem buildOk18 : buildOk Try.prog 18 = true := by kernel_rfl
@[simp] theorem offOf18_0 : offOf Try.prog 18 0 = some 0 := by kernel_rfl
@[simp] theorem fszOf18_0 : fszOf Try.prog 18 0 = some (1, false) := by kernel_rfl
@[simp] theorem elOf18 : elOf Try.prog 18 = none := by kernel_rfl
@[simp] theorem arrOf18 : arrOf Try.prog 18 = none := by kernel_rfl
@[simp] theorem isStr18 : isStr Try.prog 18 = false := by kernel_rfl
@[simp] theorem isBoolT18 : isBoolT Try.prog 18 = false := by kernel_rfl
@[simp] theorem isSliceT18 : isSliceT Try.prog 18 = false := by kernel_rfl
@[simp] theorem isPtrT18 : isPtrT Try.prog 18 = false := by kernel_rfl
@[simp] theorem isBytes18 : isBytes Try.prog 18 = false := by kernel_rfl
@[simp] theorem intOfT18 : intOfT Try.prog 18 = none := by kernel_rfl
@[simp] theorem zOk19 : zOk Try.prog 19 = true := by kernel_rfl
@[simp] theorem szOf19 : szOf Try.prog 19 = 1 := by kernel_rfl
@[simp] theorem bytesOf19 : bytesOf Try.prog 19 = 8 := by kernel_rfl
@[simp] theorem zeroOf19 : zeroOf Try.prog 19 = [.pointer none] := by kernel_rfl
@[simp] theorem aggT19 : aggT Try.prog 19 = true := by kernel_rfl
@[simp] theorem kinds19 : kinds Try.prog 8 19 = [none] := by kernel_rfl
@[simp] theorem buildOk19 : buildOk Try.prog 19 = true := by kernel_rfl
@[simp] theorem offOf19_0 : offOf Try.prog 19 0 = some 0 := by kernel_rfl
@[simp] theorem fszOf19_0 : fszOf Try.prog 19 0 = some (1, false) := by kernel_rfl
@[simp] theorem elOf19 : elOf Try.prog 19 = none := by kernel_rfl
@[simp] theorem arrOf19 : arrOf Try.prog 19 = none := by kernel_rfl
@[simp] theorem isStr19 : isStr Try.prog 19 = false := by kernel_rfl
@[simp] theorem isBoolT19 : isBoolT Try.prog 19 = false := by kernel_rfl
@[simp] theorem isSliceT19 : isSliceT Try.prog 19 = false := by kernel_rfl
@[simp] theorem isPtrT19 : isPtrT Try.prog 19 = false := by kernel_rfl
@[simp] theorem isBytes19 : isBytes Try.prog 19 = false := by kernel_rfl
@[simp] theorem intOfT19 : intOfT Try.prog 19 = none := by kernel_rfl
@[simp] theorem zOk20 : zOk Try.prog 20 = true := by kernel_rfl
@[simp] theorem szOf20 : szOf Try.prog 20 = 1 := by kernel_rfl
@[simp] theorem bytesOf20 : bytesOf Try.prog 20 = 16 := by kernel_rfl
@[simp] theorem zeroOf20 : zeroOf Try.prog 20 = [.nilIface] := by kernel_rfl
@[simp] theorem aggT20 : aggT Try.prog 20 = false := by kernel_rfl
@[simp] theorem kinds20 : kinds Try.prog 8 20 = [none] := by kernel_rfl
@[simp] theorem elOf20 : elOf Try.prog 20 = none := by kernel_rfl
@[simp] theorem arrOf20 : arrOf Try.prog 20 = none := by kernel_rfl
@[simp] theorem isStr20 : isStr Try.prog 20 = false := by kernel_rfl
@[simp] theorem isBoolT20 : isBoolT Try.prog 20 = false := by kernel_rfl
@[simp] theorem isSliceT20 : isSliceT Try.prog 20 = false := by kernel_rfl
@[simp] theorem isPtrT20 : isPtrT Try.prog 20 = false := by kernel_rfl
@[simp] theorem isBytes20 : isBytes Try.prog 20 = false := by kernel_rfl
@[simp] theorem intOfT20 : intOfT Try.prog 20 = none := by kernel_rfl
@[simp] theorem zOk21 : zOk Try.prog 21 = true := by kernel_rfl
@[simp] theorem szOf21 : szOf Try.prog 21 = 1 := by kernel_rfl
@[simp] theorem bytesOf21 : bytesOf Try.prog 21 = 4 := by kernel_rfl
@[simp] theorem zeroOf21 : zeroOf Try.prog 21 = [.int .i32 0] := by kernel_rfl
@[simp] theorem aggT21 : aggT Try.prog 21 = false := by kernel_rfl
@[simp] theorem kinds21 : kinds Try.prog 8 21 = [none] := by kernel_rfl
@[simp] theorem elOf21 : elOf Try.prog 21 = none := by kernel_rfl
@[simp] theorem arrOf21 : arrOf Try.prog 21 = none := by kernel_rfl
@[simp] theorem isStr21 : isStr Try.prog 21 = false := by kernel_rfl
@[simp] theorem isBoolT21 : isBoolT Try.prog 21 = false := by kernel_rfl
@[simp] theorem isSliceT21 : isSliceT Try.prog 21 = false := by kernel_rfl
@[simp] theorem isPtrT21 : isPtrT Try.prog 21 = false := by kernel_rfl
@[simp] theorem isBytes21 : isBytes Try.prog 21 = false := by kernel_rfl
@[simp] theorem intOfT21 : intOfT Try.prog 21 = some .i32 := by kernel_rfl
@[simp] theorem zOk22 : zOk Try.prog 22 = true := by kernel_rfl
@[simp] theorem szOf22 : szOf Try.prog 22 = 1 := by kernel_rfl
@[simp] theorem bytesOf22 : bytesOf Try.prog 22 = 8 := by kernel_rfl
@[simp] theorem zeroOf22 : zeroOf Try.prog 22 = [.nilFunc] := by kernel_rfl
@[simp] theorem aggT22 : aggT Try.prog 22 = false := by kernel_rfl
@[simp] theorem kinds22 : kinds Try.prog 8 22 = [none] := by kernel_rfl
@[simp] theorem elOf22 : elOf Try.prog 22 = none := by kernel_rfl
@[simp] theorem arrOf22 : arrOf Try.prog 22 = none := by kernel_rfl
@[simp] theorem isStr22 : isStr Try.prog 22 = false := by kernel_rfl
@[simp] theorem isBoolT22 : isBoolT Try.prog 22 = false := by kernel_rfl
@[simp] theorem isSliceT22 : isSliceT Try.prog 22 = false := by kernel_rfl
@[simp] theorem isPtrT22 : isPtrT Try.prog 22 = false := by kernel_rfl
@[simp] theorem isBytes22 : isBytes Try.prog 22 = false := by kernel_rfl
@[simp] theorem intOfT22 : intOfT Try.prog 22 = none := by kernel_rfl
@[simp] theorem zOk23 : zOk Try.prog 23 = true := by kernel_rfl
@[simp] theorem szOf23 : szOf Try.prog 23 = 1 := by kernel_rfl
@[simp] theorem bytesOf23 : bytesOf Try.prog 23 = 8 := by kernel_rfl
@[simp] theorem zeroOf23 : zeroOf Try.prog 23 = [.nilFunc] := by kernel_rfl
@[simp] theorem aggT23 : aggT Try.prog 23 = false := by kernel_rfl
@[simp] theorem kinds23 : kinds Try.prog 8 23 = [none] := by kernel_rfl
@[simp] theorem elOf23 : elOf Try.prog 23 = none := by kernel_rfl
@[simp] theorem arrOf23 : arrOf Try.prog 23 = none := by kernel_rfl
@[simp] theorem isStr23 : isStr Try.prog 23 = false := by kernel_rfl
@[simp] theorem isBoolT23 : isBoolT Try.prog 23 = false := by kernel_rfl
@[simp] theorem isSliceT23 : isSliceT Try.prog 23 = false := by kernel_rfl
@[simp] theorem isPtrT23 : isPtrT Try.prog 23 = false := by kernel_rfl
@[simp] theorem isBytes23 : isBytes Try.prog 23 = false := by kernel_rfl
@[simp] theorem intOfT23 : intOfT Try.prog 23 = none := by kernel_rfl
@[simp] theorem zOk24 : zOk Try.prog 24 = true := by kernel_rfl
@[simp] theorem szOf24 : szOf Try.prog 24 = 1 := by kernel_rfl
@[simp] theorem bytesOf24 : bytesOf Try.prog 24 = 8 := by kernel_rfl
@[simp] theorem zeroOf24 : zeroOf Try.prog 24 = [.nilFunc] := by kernel_rfl
@[simp] theorem aggT24 : aggT Try.prog 24 = false := by kernel_rfl
@[simp] theorem kinds24 : kinds Try.prog 8 24 = [none] := by kernel_rfl
@[simp] theorem elOf24 : elOf Try.prog 24 = none := by kernel_rfl
@[simp] theorem arrOf24 : arrOf Try.prog 24 = none := by kernel_rfl
@[simp] theorem isStr24 : isStr Try.prog 24 = false := by kernel_rfl
@[simp] theorem isBoolT24 : isBoolT Try.prog 24 = false := by kernel_rfl
@[simp] theorem isSliceT24 : isSliceT Try.prog 24 = false := by kernel_rfl
@[simp] theorem isPtrT24 : isPtrT Try.prog 24 = false := by kernel_rfl
@[simp] theorem isBytes24 : isBytes Try.prog 24 = false := by kernel_rfl
@[simp] theorem intOfT24 : intOfT Try.prog 24 = none := by kernel_rfl
@[simp] theorem zOk25 : zOk Try.prog 25 = true := by kernel_rfl
@[simp] theorem szOf25 : szOf Try.prog 25 = 1 := by kernel_rfl
@[simp] theorem bytesOf25 : bytesOf Try.prog 25 = 8 := by kernel_rfl
@[simp] theorem zeroOf25 : zeroOf Try.prog 25 = [.nilFunc] := by kernel_rfl
@[simp] theorem aggT25 : aggT Try.prog 25 = false := by kernel_rfl
@[simp] theorem kinds25 : kinds Try.prog 8 25 = [none] := by kernel_rfl
@[simp] theorem elOf25 : elOf Try.prog 25 = none := by kernel_rfl
@[simp] theorem arrOf25 : arrOf Try.prog 25 = none := by kernel_rfl
@[simp] theorem isStr25 : isStr Try.prog 25 = false := by kernel_rfl
@[simp] theorem isBoolT25 : isBoolT Try.prog 25 = false := by kernel_rfl
@[simp] theorem isSliceT25 : isSliceT Try.prog 25 = false := by kernel_rfl
@[simp] theorem isPtrT25 : isPtrT Try.prog 25 = false := by kernel_rfl
@[simp] theorem isBytes25 : isBytes Try.prog 25 = false := by kernel_rfl
@[simp] theorem intOfT25 : intOfT Try.prog 25 = none := by kernel_rfl
@[simp] theorem zOk26 : zOk Try.prog 26 = true := by kernel_rfl
@[simp] theorem szOf26 : szOf Try.prog 26 = 1 := by kernel_rfl
@[simp] theorem bytesOf26 : bytesOf Try.prog 26 = 8 := by kernel_rfl
@[simp] theorem zeroOf26 : zeroOf Try.prog 26 = [.nilFunc] := by kernel_rfl
@[simp] theorem aggT26 : aggT Try.prog 26 = false := by kernel_rfl
@[simp] theorem kinds26 : kinds Try.prog 8 26 = [none] := by kernel_rfl
@[simp] theorem elOf26 : elOf Try.prog 26 = none := by kernel_rfl
@[simp] theorem arrOf26 : arrOf Try.prog 26 = none := by kernel_rfl
@[simp] theorem isStr26 : isStr Try.prog 26 = false := by kernel_rfl
@[simp] theorem isBoolT26 : isBoolT Try.prog 26 = false := by kernel_rfl
@[simp] theorem isSliceT26 : isSliceT Try.prog 26 = false := by kernel_rfl
@[simp] theorem isPtrT26 : isPtrT Try.prog 26 = false := by kernel_rfl
@[simp] theorem isBytes26 : isBytes Try.prog 26 = false := by kernel_rfl
@[simp] theorem intOfT26 : intOfT Try.prog 26 = none := by kernel_rfl
@[simp] theorem zOk27 : zOk Try.prog 27 = true := by kernel_rfl
@[simp] theorem szOf27 : szOf Try.prog 27 = 1 := by kernel_rfl
@[simp] theorem bytesOf27 : bytesOf Try.prog 27 = 24 := by kernel_rfl
@[simp] theorem zeroOf27 : zeroOf Try.prog 27 = [.slice none 0 0] := by kernel_rfl
@[simp] theorem aggT27 : aggT Try.prog 27 = false := by kernel_rfl
@[simp] theorem kinds27 : kinds Try.prog 8 27 = [some (1, 5)] := by kernel_rfl
@[simp] theorem elOf27 : elOf Try.prog 27 = some 5 := by kernel_rfl
@[simp] theorem arrOf27 : arrOf Try.prog 27 = none := by kernel_rfl
@[simp] theorem isStr27 : isStr Try.prog 27 = false := by kernel_rfl
@[simp] theorem isBoolT27 : isBoolT Try.prog 27 = false := by kernel_rfl
@[simp] theorem isSliceT27 : isSliceT Try.prog 27 = true := by kernel_rfl
@[simp] theorem isPtrT27 : isPtrT Try.prog 27 = false := by kernel_rfl
@[simp] theorem isBytes27 : isBytes Try.prog 27 = true := by kernel_rfl
@[simp] theorem intOfT27 : intOfT Try.prog 27 = none := by kernel_rfl
@[simp] theorem zOk28 : zOk Try.prog 28 = true := by kernel_rfl
@[simp] theorem szOf28 : szOf Try.prog 28 = 1 := by kernel_rfl
@[simp] theorem bytesOf28 : bytesOf Try.prog 28 = 8 := by kernel_rfl
@[simp] theorem zeroOf28 : zeroOf Try.prog 28 = [.nilFunc] := by kernel_rfl
@[simp] theorem aggT28 : aggT Try.prog 28 = false := by kernel_rfl
@[simp] theorem kinds28 : kinds Try.prog 8 28 = [none] := by kernel_rfl
@[simp] theorem elOf28 : elOf Try.prog 28 = none := by kernel_rfl
@[simp] theorem arrOf28 : arrOf Try.prog 28 = none := by kernel_rfl
@[simp] theorem isStr28 : isStr Try.prog 28 = false := by kernel_rfl
@[simp] theorem isBoolT28 : isBoolT Try.prog 28 = false := by kernel_rfl
@[simp] theorem isSliceT28 : isSliceT Try.prog 28 = false := by kernel_rfl
@[simp] theorem isPtrT28 : isPtrT Try.prog 28 = false := by kernel_rfl
@[simp] theorem isBytes28 : isBytes Try.prog 28 = false := by kernel_rfl
@[simp] theorem intOfT28 : intOfT Try.prog 28 = none := by kernel_rfl
@[simp] theorem zOk29 : zOk Try.prog 29 = true := by kernel_rfl
@[simp] theorem szOf29 : szOf Try.prog 29 = 1 := by kernel_rfl
@[simp] theorem bytesOf29 : bytesOf Try.prog 29 = 8 := by kernel_rfl
@[simp] theorem zeroOf29 : zeroOf Try.prog 29 = [.nilFunc] := by kernel_rfl
@[simp] theorem aggT29 : aggT Try.prog 29 = false := by kernel_rfl
@[simp] theorem kinds29 : kinds Try.prog 8 29 = [none] := by kernel_rfl
@[simp] theorem elOf29 : elOf Try.prog 29 = none := by kernel_rfl
@[simp] theorem arrOf29 : arrOf Try.prog 29 = none := by kernel_rfl
@[simp] theorem isStr29 : isStr Try.prog 29 = false := by kernel_rfl
@[simp] theorem isBoolT29 : isBoolT Try.prog 29 = false := by kernel_rfl
@[simp] theorem isSliceT29 : isSliceT Try.prog 29 = false := by kernel_rfl
@[simp] theorem isPtrT29 : isPtrT Try.prog 29 = false := by kernel_rfl
@[simp] theorem isBytes29 : isBytes Try.prog 29 = false := by kernel_rfl
@[simp] theorem intOfT29 : intOfT Try.prog 29 = none := by kernel_rfl
@[simp] theorem zOk30 : zOk Try.prog 30 = true := by kernel_rfl
@[simp] theorem szOf30 : szOf Try.prog 30 = 1 := by kernel_rfl
@[simp] theorem bytesOf30 : bytesOf Try.prog 30 = 8 := by kernel_rfl
@[simp] theorem zeroOf30 : zeroOf Try.prog 30 = [.nilFunc] := by kernel_rfl
@[simp] theorem aggT30 : aggT Try.prog 30 = false := by kernel_rfl
@[simp] theorem kinds30 : kinds Try.prog 8 30 = [none] := by kernel_rfl
@[simp] theorem elOf30 : elOf Try.prog 30 = none := by kernel_rfl
@[simp] theorem arrOf30 : arrOf Try.prog 30 = none := by kernel_rfl
@[simp] theorem isStr30 : isStr Try.prog 30 = false := by kernel_rfl
@[simp] theorem isBoolT30 : isBoolT Try.prog 30 = false := by kernel_rfl
@[simp] theorem isSliceT30 : isSliceT Try.prog 30 = false := by kernel_rfl
@[simp] theorem isPtrT30 : isPtrT Try.prog 30 = false := by kernel_rfl
@[simp] theorem isBytes30 : isBytes Try.prog 30 = false := by kernel_rfl
@[simp] theorem intOfT30 : intOfT Try.prog 30 = none := by kernel_rfl
@[simp] theorem zOk31 : zOk Try.prog 31 = true := by kernel_rfl
@[simp] theorem szOf31 : szOf Try.prog 31 = 1 := by kernel_rfl
@[simp] theorem bytesOf31 : bytesOf Try.prog 31 = 8 := by kernel_rfl
@[simp] theorem zeroOf31 : zeroOf Try.prog 31 = [.nilFunc] := by kernel_rfl
@[simp] theorem aggT31 : aggT Try.prog 31 = false := by kernel_rfl
@[simp] theorem kinds31 : kinds Try.prog 8 31 = [none] := by kernel_rfl
@[simp] theorem elOf31 : elOf Try.prog 31 = none := by kernel_rfl
@[simp] theorem arrOf31 : arrOf Try.prog 31 = none := by kernel_rfl
@[simp] theorem isStr31 : isStr Try.prog 31 = false := by kernel_rfl
@[simp] theorem isBoolT31 : isBoolT Try.prog 31 = false := by kernel_rfl
@[simp] theorem isSliceT31 : isSliceT Try.prog 31 = false := by kernel_rfl
@[simp] theorem isPtrT31 : isPtrT Try.prog 31 = false := by kernel_rfl
@[simp] theorem isBytes31 : isBytes Try.prog 31 = false := by kernel_rfl
@[simp] theorem intOfT31 : intOfT Try.prog 31 = none := by kernel_rfl
@[simp] theorem zOk32 : zOk Try.prog 32 = true := by kernel_rfl
@[simp] theorem szOf32 : szOf Try.prog 32 = 1 := by kernel_rfl
@[simp] theorem bytesOf32 : bytesOf Try.prog 32 = 24 := by kernel_rfl
@[simp] theorem zeroOf32 : zeroOf Try.prog 32 = [.slice none 0 0] := by kernel_rfl
@[simp] theorem aggT32 : aggT Try.prog 32 = false := by kernel_rfl
@[simp] theorem kinds32 : kinds Try.prog 8 32 = [some (1, 35)] := by kernel_rfl
@[simp] theorem elOf32 : elOf Try.prog 32 = some 35 := by kernel_rfl
@[simp] theorem arrOf32 : arrOf Try.prog 32 = none := by kernel_rfl
@[simp] theorem isStr32 : isStr Try.prog 32 = false := by kernel_rfl
@[simp] theorem isBoolT32 : isBoolT Try.prog 32 = false := by kernel_rfl
@[simp] theorem isSliceT32 : isSliceT Try.prog 32 = true := by kernel_rfl
@[simp] theorem isPtrT32 : isPtrT Try.prog 32 = false := by kernel_rfl
@[simp] theorem isBytes32 : isBytes Try.prog 32 = false := by kernel_rfl
@[simp] theorem intOfT32 : intOfT Try.prog 32 = none := by kernel_rfl
@[simp] theorem zOk33 : zOk Try.prog 33 = true := by kernel_rfl
@[simp] theorem szOf33 : szOf Try.prog 33 = 2 := by kernel_rfl
@[simp] theorem bytesOf33 : bytesOf Try.prog 33 = 32 := by kernel_rfl
@[simp] theorem zeroOf33 : zeroOf Try.prog 33 = [.int .i64 0, .slice none 0 0] := by kernel_rfl
@[simp] theorem aggT33 : aggT Try.prog 33 = true := by kernel_rfl
@[simp] theorem kinds33 : kinds Try.prog 8 33 = [none, some (1, 35)] := by kernel_rfl
@[simp] theorem buildOk33 : buildOk Try.prog 33 = true := by kernel_rfl
@[simp] theorem offOf33_0 : offOf Try.prog 33 0 = some 0 := by kernel_rfl
@[simp] theorem fszOf33_0 : fszOf Try.prog 33 0 = some (1, false) := by kernel_rfl
@[simp] theorem offOf33_1 : offOf Try.prog 33 1 = some 1 := by kernel_rfl
@[simp] theorem fszOf33_1 : fszOf Try.prog 33 1 = some (1, false) := by kernel_rfl
@[simp] theorem elOf33 : elOf Try.prog 33 = none := by kernel_rfl
@[simp] theorem arrOf33 : arrOf Try.prog 33 = none := by kernel_rfl
@[simp] theorem isStr33 : isStr Try.prog 33 = false := by kernel_rfl
@[simp] theorem isBoolT33 : isBoolT Try.prog 33 = false := by kernel_rfl
@[simp] theorem isSliceT33 : isSliceT Try.prog 33 = false := by kernel_rfl
@[simp] theorem isPtrT33 : isPtrT Try.prog 33 = false := by kernel_rfl
@[simp] theorem isBytes33 : isBytes Try.prog 33 = false := by kernel_rfl
@[simp] theorem intOfT33 : intOfT Try.prog 33 = none := by kernel_rfl
@[simp] theorem zOk34 : zOk Try.prog 34 = true := by kernel_rfl
@[simp] theorem szOf34 : szOf Try.prog 34 = 2 := by kernel_rfl
@[simp] theorem bytesOf34 : bytesOf Try.prog 34 = 32 := by kernel_rfl
@[simp] theorem zeroOf34 : zeroOf Try.prog 34 = [.int .i64 0, .slice none 0 0] := by kernel_rfl
@[simp] theorem aggT34 : aggT Try.prog 34 = true := by kernel_rfl
@[simp] theorem kinds34 : kinds Try.prog 8 34 = [none, some (1, 35)] := by kernel_rfl
@[simp] theorem buildOk34 : buildOk Try.prog 34 = true := by kernel_rfl
@[simp] theorem offOf34_0 : offOf Try.prog 34 0 = some 0 := by kernel_rfl
@[simp] theorem fszOf34_0 : fszOf Try.prog 34 0 = some (1, false) := by kernel_rfl
@[simp] theorem offOf34_1 : offOf Try.prog 34 1 = some 1 := by kernel_rfl
@[simp] theorem fszOf34_1 : fszOf Try.prog 34 1 = some (1, false) := by kernel_rfl
@[simp] theorem elOf34 : elOf Try.prog 34 = none := by kernel_rfl
@[simp] theorem arrOf34 : arrOf Try.prog 34 = none := by kernel_rfl
@[simp] theorem isStr34 : isStr Try.prog 34 = false := by kernel_rfl
@[simp] theorem isBoolT34 : isBoolT Try.prog 34 = false := by kernel_rfl
@[simp] theorem isSliceT34 : isSliceT Try.prog 34 = false := by kernel_rfl
@[simp] theorem isPtrT34 : isPtrT Try.prog 34 = false := by kernel_rfl
@[simp] theorem isBytes34 : isBytes Try.prog 34 = false := by kernel_rfl
@[simp] theorem intOfT34 : intOfT Try.prog 34 = none := by kernel_rfl
@[simp] theorem zOk35 : zOk Try.prog 35 = true := by kernel_rfl
@[simp] theorem szOf35 : szOf Try.prog 35 = 1 := by kernel_rfl
@[simp] theorem bytesOf35 : bytesOf Try.prog 35 = 24 := by kernel_rfl
@[simp] theorem zeroOf35 : zeroOf Try.prog 35 = [.slice none 0 0] := by kernel_rfl
@[simp] theorem aggT35 : aggT Try.prog 35 = false := by kernel_rfl
@[simp] theorem kinds35 : kinds Try.prog 8 35 = [some (10, 71)] := by kernel_rfl
@[simp] theorem elOf35 : elOf Try.prog 35 = some 71 := by kernel_rfl
@[simp] theorem arrOf35 : arrOf Try.prog 35 = none := by kernel_rfl
@[simp] theorem isStr35 : isStr Try.prog 35 = false := by kernel_rfl
@[simp] theorem isBoolT35 : isBoolT Try.prog 35 = false := by kernel_rfl
@[simp] theorem isSliceT35 : isSliceT Try.prog 35 = true := by kernel_rfl
@[simp] theorem isPtrT35 : isPtrT Try.prog 35 = false := by kernel_rfl
@[simp] theorem isBytes35 : isBytes Try.prog 35 = false := by kernel_rfl
@[simp] theorem intOfT35 : intOfT Try.prog 35 = none := by kernel_rfl
@[simp] theorem zOk36 : zOk Try.prog 36 = true := by kernel_rfl
@[simp] theorem szOf36 : szOf Try.prog 36 = 1 := by kernel_rfl
@[simp] theorem bytesOf36 : bytesOf Try.prog 36 = 8 := by kernel_rfl
@[simp] theorem zeroOf36 : zeroOf Try.prog 36 = [.nilFunc] := by kernel_rfl
@[simp] theorem aggT36 : aggT Try.prog 36 = false := by kernel_rfl
@[simp] theorem kinds36 : kinds Try.prog 8 36 = [none] := by kernel_rfl
@[simp] theorem elOf36 : elOf Try.prog 36 = none := by kernel_rfl
@[simp] theorem arrOf36 : arrOf Try.prog 36 = none := by kernel_rfl
@[simp] theorem isStr36 : isStr Try.prog 36 = false := by kernel_rfl
@[simp] theorem isBoolT36 : isBoolT Try.prog 36 = false := by kernel_rfl
@[simp] theorem isSliceT36 : isSliceT Try.prog 36 = false := by kernel_rfl
@[simp] theorem isPtrT36 : isPtrT Try.prog 36 = false := by kernel_rfl
@[simp] theorem isBytes36 : isBytes Try.prog 36 = false := by kernel_rfl
@[simp] theorem intOfT36 : intOfT Try.prog 36 = none := by kernel_rfl
@[simp] theorem zOk37 : zOk Try.prog 37 = true := by kernel_rfl
@[simp] theorem szOf37 : szOf Try.prog 37 = 1 := by kernel_rfl
@[simp] theorem bytesOf37 : bytesOf Try.prog 37 = 8 := by kernel_rfl
@[simp] theorem zeroOf37 : zeroOf Try.prog 37 = [.nilFunc] := by kernel_rfl
@[simp] theorem aggT37 : aggT Try.prog 37 = false := by kernel_rfl
@[simp] theorem kinds37 : kinds Try.prog 8 37 = [none] := by kernel_rfl
@[simp] theorem elOf37 : elOf Try.prog 37 = none := by kernel_rfl
@[simp] theorem arrOf37 : arrOf Try.prog 37 = none := by kernel_rfl
@[simp] theorem isStr37 : isStr Try.prog 37 = false := by kernel_rfl
@[simp] theorem isBoolT37 : isBoolT Try.prog 37 = false := by kernel_rfl
@[simp] theorem isSliceT37 : isSliceT Try.prog 37 = false := by kernel_rfl
@[simp] theorem isPtrT37 : isPtrT Try.prog 37 = false := by kernel_rfl
@[simp] theorem isBytes37 : isBytes Try.prog 37 = false := by kernel_rfl
@[simp] theorem intOfT37 : intOfT Try.prog 37 = none := by kernel_rfl
@[simp] theorem zOk38 : zOk Try.prog 38 = true := by kernel_rfl
@[simp] theorem szOf38 : szOf Try.prog 38 = 1 := by kernel_rfl
@[simp] theorem bytesOf38 : bytesOf Try.prog 38 = 8 := by kernel_rfl
@[simp] theorem zeroOf38 : zeroOf Try.prog 38 = [.int .i64 0] := by kernel_rfl
@[simp] theorem aggT38 : aggT Try.prog 38 = false := by kernel_rfl
@[simp] theorem kinds38 : kinds Try.prog 8 38 = [none] := by kernel_rfl
@[simp] theorem elOf38 : elOf Try.prog 38 = none := by kernel_rfl
@[simp] theorem arrOf38 : arrOf Try.prog 38 = none := by kernel_rfl
@[simp] theorem isStr38 : isStr Try.prog 38 = false := by kernel_rfl
@[simp] theorem isBoolT38 : isBoolT Try.prog 38 = false := by kernel_rfl
@[simp] theorem isSliceT38 : isSliceT Try.prog 38 = false := by kernel_rfl
@[simp] theorem isPtrT38 : isPtrT Try.prog 38 = false := by kernel_rfl
@[simp] theorem isBytes38 : isBytes Try.prog 38 = false := by kernel_rfl
@[simp] theorem intOfT38 : intOfT Try.prog 38 = some .i64 := by kernel_rfl
@[simp] theorem zOk39 : zOk Try.prog 39 = false := by kernel_rfl
@[simp] theorem aggT39 : aggT Try.prog 39 = false := by kernel_rfl
@[simp] theorem kinds39 : kinds Try.prog 8 39 = [none] := by kernel_rfl
@[simp] theorem elOf39 : elOf Try.prog 39 = none := by kernel_rfl
@[simp] theorem arrOf39 : arrOf Try.prog 39 = none := by kernel_rfl
@[simp] theorem isStr39 : isStr Try.prog 39 = false := by kernel_rfl
@[simp] theorem isBoolT39 : isBoolT Try.prog 39 = false := by kernel_rfl
@[simp] theorem isSliceT39 : isSliceT Try.prog 39 = false := by kernel_rfl
@[simp] theorem isPtrT39 : isPtrT Try.prog 39 = false := by kernel_rfl
@[simp] theorem isBytes39 : isBytes Try.prog 39 = false := by kernel_rfl
@[simp] theorem intOfT39 : intOfT Try.prog 39 = none := by kernel_rfl
@[simp] theorem zOk40 : zOk Try.prog 40 = true := by kernel_rfl
@[simp] theorem szOf40 : szOf Try.prog 40 = 1 := by kernel_rfl
@[simp] theorem bytesOf40 : bytesOf Try.prog 40 = 8 := by kernel_rfl
@[simp] theorem zeroOf40 : zeroOf Try.prog 40 = [.nilFunc] := by kernel_rfl
@[simp] theorem aggT40 : aggT Try.prog 40 = false := by kernel_rfl
@[simp] theorem kinds40 : kinds Try.prog 8 40 = [none] := by kernel_rfl
@[simp] theorem elOf40 : elOf Try.prog 40 = none := by kernel_rfl
@[simp] theorem arrOf40 : arrOf Try.prog 40 = none := by kernel_rfl
@[simp] theorem isStr40 : isStr Try.prog 40 = false := by kernel_rfl
@[simp] theorem isBoolT40 : isBoolT Try.prog 40 = false := by kernel_rfl
@[simp] theorem isSliceT40 : isSliceT Try.prog 40 = false := by kernel_rfl
@[simp] theorem isPtrT40 : isPtrT Try.prog 40 = false := by kernel_rfl
@[simp] theorem isBytes40 : isBytes Try.prog 40 = false := by kernel_rfl
@[simp] theorem intOfT40 : intOfT Try.prog 40 = none := by kernel_rfl
@[simp] theorem zOk41 : zOk Try.prog 41 = false := by kernel_rfl
@[simp] theorem aggT41 : aggT Try.prog 41 = false := by kernel_rfl
@[simp] theorem kinds41 : kinds Try.prog 8 41 = [none] := by kernel_rfl
@[simp] theorem elOf41 : elOf Try.prog 41 = none := by kernel_rfl
@[simp] theorem arrOf41 : arrOf Try.prog 41 = none := by kernel_rfl
@[simp] theorem isStr41 : isStr Try.prog 41 = false := by kernel_rfl
@[simp] theorem isBoolT41 : isBoolT Try.prog 41 = false := by kernel_rfl
@[simp] theorem isSliceT41 : isSliceT Try.prog 41 = false := by kernel_rfl
@[simp] theorem isPtrT41 : isPtrT Try.prog 41 = false := by kernel_rfl
@[simp] theorem isBytes41 : isBytes Try.prog 41 = false := by kernel_rfl
@[simp] theorem intOfT41 : intOfT Try.prog 41 = none := by kernel_rfl
@[simp] theorem zOk42 : zOk Try.prog 42 = true := by kernel_rfl
@[simp] theorem szOf42 : szOf Try.prog 42 = 1 := by kernel_rfl
@[simp] theorem bytesOf42 : bytesOf Try.prog 42 = 8 := by kernel_rfl
@[simp] theorem zeroOf42 : zeroOf Try.prog 42 = [.nilFunc] := by kernel_rfl
@[simp] theorem aggT42 : aggT Try.prog 42 = false := by kernel_rfl
@[simp] theorem kinds42 : kinds Try.prog 8 42 = [none] := by kernel_rfl
@[simp] theorem elOf42 : elOf Try.prog 42 = none := by kernel_rfl
@[simp] theorem arrOf42 : arrOf Try.prog 42 = none := by kernel_rfl
@[simp] theorem isStr42 : isStr Try.prog 42 = false := by kernel_rfl
@[simp] theorem isBoolT42 : isBoolT Try.prog 42 = false := by kernel_rfl
@[simp] theorem isSliceT42 : isSliceT Try.prog 42 = false := by kernel_rfl
@[simp] theorem isPtrT42 : isPtrT Try.prog 42 = false := by kernel_rfl
@[simp] theorem isBytes42 : isBytes Try.prog 42 = false := by kernel_rfl
@[simp] theorem intOfT42 : intOfT Try.prog 42 = none := by kernel_rfl
@[simp] theorem zOk43 : zOk Try.prog 43 = true := by kernel_rfl
@[simp] theorem szOf43 : szOf Try.prog 43 = 1 := by kernel_rfl
@[simp] theorem bytesOf43 : bytesOf Try.prog 43 = 8 := by kernel_rfl
@[simp] theorem zeroOf43 : zeroOf Try.prog 43 = [.nilFunc] := by kernel_rfl
@[simp] theorem aggT43 : aggT Try.prog 43 = false := by kernel_rfl
@[simp] theorem kinds43 : kinds Try.prog 8 43 = [none] := by kernel_rfl
@[simp] theorem elOf43 : elOf Try.prog 43 = none := by kernel_rfl
@[simp] theorem arrOf43 : arrOf Try.prog 43 = none := by kernel_rfl
@[simp] theorem isStr43 : isStr Try.prog 43 = false := by kernel_rfl
@[simp] theorem isBoolT43 : isBoolT Try.prog 43 = false := by kernel_rfl
@[simp] theorem isSliceT43 : isSliceT Try.prog 43 = false := by kernel_rfl
@[simp] theorem isPtrT43 : isPtrT Try.prog 43 = false := by kernel_rfl
@[simp] theorem isBytes43 : isBytes Try.prog 43 = false := by kernel_rfl
@[simp] theorem intOfT43 : intOfT Try.prog 43 = none := by kernel_rfl
@[simp] theorem zOk44 : zOk Try.prog 44 = true := by kernel_rfl
@[simp] theorem szOf44 : szOf Try.prog 44 = 1 := by kernel_rfl
@[simp] theorem bytesOf44 : bytesOf Try.prog 44 = 8 := by kernel_rfl
@[simp] theorem zeroOf44 : zeroOf Try.prog 44 = [.nilFunc] := by kernel_rfl
@[simp] theorem aggT44 : aggT Try.prog 44 = false := by kernel_rfl
@[simp] theorem kinds44 : kinds Try.prog 8 44 = [none] := by kernel_rfl
@[simp] theorem elOf44 : elOf Try.prog 44 = none := by kernel_rfl
@[simp] theorem arrOf44 : arrOf Try.prog 44 = none := by kernel_rfl
@[simp] theorem isStr44 : isStr Try.prog 44 = false := by kernel_rfl
@[simp] theorem isBoolT44 : isBoolT Try.prog 44 = false := by kernel_rfl
@[simp] theorem isSliceT44 : isSliceT Try.prog 44 = false := by kernel_rfl
@[simp] theorem isPtrT44 : isPtrT Try.prog 44 = false := by kernel_rfl
@[simp] theorem isBytes44 : isBytes Try.prog 44 = false := by kernel_rfl
@[simp] theorem intOfT44 : intOfT Try.prog 44 = none := by kernel_rfl
@[simp] theorem zOk45 : zOk Try.prog 45 = true := by kernel_rfl
@[simp] theorem szOf45 : szOf Try.prog 45 = 1 := by kernel_rfl
@[simp] theorem bytesOf45 : bytesOf Try.prog 45 = 8 := by kernel_rfl
@[simp] theorem zeroOf45 : zeroOf Try.prog 45 = [.nilFunc] := by kernel_rfl
@[simp] theorem aggT45 : aggT Try.prog 45 = false := by kernel_rfl
@[simp] theorem kinds45 : kinds Try.prog 8 45 = [none] := by kernel_rfl
@[simp] theorem elOf45 : elOf Try.prog 45 = none := by kernel_rfl
@[simp] theorem arrOf45 : arrOf Try.prog 45 = none := by kernel_rfl
@[simp] theorem isStr45 : isStr Try.prog 45 = false := by kernel_rfl
@[simp] theorem isBoolT45 : isBoolT Try.prog 45 = false := by kernel_rfl
@[simp] theorem isSliceT45 : isSliceT Try.prog 45 = false := by kernel_rfl
@[simp] theorem isPtrT45 : isPtrT Try.prog 45 = false := by kernel_rfl
@[simp] theorem isBytes45 : isBytes Try.prog 45 = false := by kernel_rfl
@[simp] theorem intOfT45 : intOfT Try.prog 45 = none := by kernel_rfl
@[simp] theorem zOk46 : zOk Try.prog 46 = true := by kernel_rfl
@[simp] theorem szOf46 : szOf Try.prog 46 = 1 := by kernel_rfl
@[simp] theorem bytesOf46 : bytesOf Try.prog 46 = 8 := by kernel_rfl
@[simp] theorem zeroOf46 : zeroOf Try.prog 46 = [.nilFunc] := by kernel_rfl
@[simp] theorem aggT46 : aggT Try.prog 46 = false := by kernel_rfl
@[simp] theorem kinds46 : kinds Try.prog 8 46 = [none] := by kernel_rfl
@[simp] theorem elOf46 : elOf Try.prog 46 = none := by kernel_rfl
@[simp] theorem arrOf46 : arrOf Try.prog 46 = none := by kernel_rfl
@[simp] theorem isStr46 : isStr Try.prog 46 = false := by kernel_rfl
@[simp] theorem isBoolT46 : isBoolT Try.prog 46 = false := by kernel_rfl
@[simp] theorem isSliceT46 : isSliceT Try.prog 46 = false := by kernel_rfl
@[simp] theorem isPtrT46 : isPtrT Try.prog 46 = false := by kernel_rfl
@[simp] theorem isBytes46 : isBytes Try.prog 46 = false := by kernel_rfl
@[simp] theorem intOfT46 : intOfT Try.prog 46 = none := by kernel_rfl
@[simp] theorem zOk47 : zOk Try.prog 47 = true := by kernel_rfl
@[simp] theorem szOf47 : szOf Try.prog 47 = 1 := by kernel_rfl
@[simp] theorem bytesOf47 : bytesOf Try.prog 47 = 8 := by kernel_rfl
@[simp] theorem zeroOf47 : zeroOf Try.prog 47 = [.nilFunc] := by kernel_rfl
@[simp] theorem aggT47 : aggT Try.prog 47 = false := by kernel_rfl
@[simp] theorem kinds47 : kinds Try.prog 8 47 = [none] := by kernel_rfl
@[simp] theorem elOf47 : elOf Try.prog 47 = none := by kernel_rfl
@[simp] theorem arrOf47 : arrOf Try.prog 47 = none := by kernel_rfl
@[simp] theorem isStr47 : isStr Try.prog 47 = false := by kernel_rfl
@[simp] theorem isBoolT47 : isBoolT Try.prog 47 = false := by kernel_rfl
@[simp] theorem isSliceT47 : isSliceT Try.prog 47 = false := by kernel_rfl
@[simp] theorem isPtrT47 : isPtrT Try.prog 47 = false := by kernel_rfl
@[simp] theorem isBytes47 : isBytes Try.prog 47 = false := by kernel_rfl
@[simp] theorem intOfT47 : intOfT Try.prog 47 = none := by kernel_rfl
@[simp] theorem zOk48 : zOk Try.prog 48 = true := by kernel_rfl
@[simp] theorem szOf48 : szOf Try.prog 48 = 1 := by kernel_rfl
@[simp] theorem bytesOf48 : bytesOf Try.prog 48 = 8 := by kernel_rfl
@[simp] theorem zeroOf48 : zeroOf Try.prog 48 = [.nilFunc] := by kernel_rfl
@[simp] theorem aggT48 : aggT Try.prog 48 = false := by kernel_rfl
@[simp] theorem kinds48 : kinds Try.prog 8 48 = [none] := by kernel_rfl
@[simp] theorem elOf48 : elOf Try.prog 48 = none := by kernel_rfl
@[simp] theorem arrOf48 : arrOf Try.prog 48 = none := by kernel_rfl
@[simp] theorem isStr48 : isStr Try.prog 48 = false := by kernel_rfl
@[simp] theorem isBoolT48 : isBoolT Try.prog 48 = false := by kernel_rfl
@[simp] theorem isSliceT48 : isSliceT Try.prog 48 = false := by kernel_rfl
@[simp] theorem isPtrT48 : isPtrT Try.prog 48 = false := by kernel_rfl
@[simp] theorem isBytes48 : isBytes Try.prog 48 = false := by kernel_rfl
@[simp] theorem intOfT48 : intOfT Try.prog 48 = none := by kernel_rfl
@[simp] theorem zOk49 : zOk Try.prog 49 = true := by kernel_rfl
@[simp] theorem szOf49 : szOf Try.prog 49 = 1 := by kernel_rfl
@[simp] theorem bytesOf49 : bytesOf Try.prog 49 = 8 := by kernel_rfl
@[simp] theorem zeroOf49 : zeroOf Try.prog 49 = [.nilFunc] := by kernel_rfl
@[simp] theorem aggT49 : aggT Try.prog 49 = false := by kernel_rfl
@[simp] theorem kinds49 : kinds Try.prog 8 49 = [none] := by kernel_rfl
@[simp] theorem elOf49 : elOf Try.prog 49 = none := by kernel_rfl
@[simp] theorem arrOf49 : arrOf Try.prog 49 = none := by kernel_rfl
@[simp] theorem isStr49 : isStr Try.prog 49 = false := by kernel_rfl
@[simp] theorem isBoolT49 : isBoolT Try.prog 49 = false := by kernel_rfl
@[simp] theorem isSliceT49 : isSliceT Try.prog 49 = false := by kernel_rfl
@[simp] theorem isPtrT49 : isPtrT Try.prog 49 = false := by kernel_rfl
@[simp] theorem isBytes49 : isBytes Try.prog 49 = false := by kernel_rfl
@[simp] theorem intOfT49 : intOfT Try.prog 49 = none := by kernel_rfl
@[simp] theorem zOk50 : zOk Try.prog 50 = true := by kernel_rfl
@[simp] theorem szOf50 : szOf Try.prog 50 = 1 := by kernel_rfl
@[simp] theorem bytesOf50 : bytesOf Try.prog 50 = 8 := by kernel_rfl
@[simp] theorem zeroOf50 : zeroOf Try.prog 50 = [.nilFunc] := by kernel_rfl
@[simp] theorem aggT50 : aggT Try.prog 50 = false := by kernel_rfl
@[simp] theorem kinds50 : kinds Try.prog 8 50 = [none] := by kernel_rfl
@[simp] theorem elOf50 : elOf Try.prog 50 = none := by kernel_rfl
@[simp] theorem arrOf50 : arrOf Try.prog 50 = none := by kernel_rfl
@[simp] theorem isStr50 : isStr Try.prog 50 = false := by kernel_rfl
@[simp] theorem isBoolT50 : isBoolT Try.prog 50 = false := by kernel_rfl
@[simp] theorem isSliceT50 : isSliceT Try.prog 50 = false := by kernel_rfl
@[simp] theorem isPtrT50 : isPtrT Try.prog 50 = false := by kernel_rfl
@[simp] theorem isBytes50 : isBytes Try.prog 50 = false := by kernel_rfl
@[simp] theorem intOfT50 : intOfT Try.prog 50 = none := by kernel_rfl
@[simp] theorem zOk51 : zOk Try.prog 51 = true := by kernel_rfl
@[simp] theorem szOf51 : szOf Try.prog 51 = 1 := by kernel_rfl
@[simp] theorem bytesOf51 : bytesOf Try.prog 51 = 24 := by kernel_rfl
@[simp] theorem zeroOf51 : zeroOf Try.prog 51 = [.slice none 0 0] := by kernel_rfl
@[simp] theorem aggT51 : aggT Try.prog 51 = false := by kernel_rfl
@[simp] theorem kinds51 : kinds Try.prog 8 51 = [some (1, 3)] := by kernel_rfl
@[simp] theorem elOf51 : elOf Try.prog 51 = some 3 := by kernel_rfl
@[simp] theorem arrOf51 : arrOf Try.prog 51 = none := by kernel_rfl
@[simp] theorem isStr51 : isStr Try.prog 51 = false := by kernel_rfl
@[simp] theorem isBoolT51 : isBoolT Try.prog 51 = false := by kernel_rfl
@[simp] theorem isSliceT51 : isSliceT Try.prog 51 = true := by kernel_rfl
@[simp] theorem isPtrT51 : isPtrT Try.prog 51 = false := by kernel_rfl
@[simp] theorem isBytes51 : isBytes Try.prog 51 = false := by kernel_rfl
@[simp] theorem intOfT51 : intOfT Try.prog 51 = none := by kernel_rfl
@[simp] theorem zOk52 : zOk Try.prog 52 = true := by kernel_rfl
@[simp] theorem szOf52 : szOf Try.prog 52 = 2 := by kernel_rfl
@[simp] theorem bytesOf52 : bytesOf Try.prog 52 = 48 := by kernel_rfl
@[simp] theorem zeroOf52 : zeroOf Try.prog 52 = [.slice none 0 0, .slice none 0 0] := by kernel_rfl
@[simp] theorem aggT52 : aggT Try.prog 52 = true := by kernel_rfl
@[simp] theorem kinds52 : kinds Try.prog 8 52 = [some (1, 3), some (1, 3)] := by kernel_rfl
@[simp] theorem buildOk52 : buildOk Try.prog 52 = true := by kernel_rfl
@[simp] theorem offOf52_0 : offOf Try.prog 52 0 = some 0 := by kernel_rfl
@[simp] theorem fszOf52_0 : fszOf Try.prog 52 0 = some (1, false) := by kernel_rfl
@[simp] theorem offOf52_1 : offOf Try.prog 52 1 = some 1 := by kernel_rfl
@[simp] theorem fszOf52_1 : fszOf Try.prog 52 1 = some (1, false) := by kernel_rfl
@[simp] theorem elOf52 : elOf Try.prog 52 = none := by kernel_rfl
@[simp] theorem arrOf52 : arrOf Try.prog 52 = none := by kernel_rfl
@[simp] theorem isStr52 : isStr Try.prog 52 = false := by kernel_rfl
@[simp] theorem isBoolT52 : isBoolT Try.prog 52 = false := by kernel_rfl
@[simp] theorem isSliceT52 : isSliceT Try.prog 52 = false := by kernel_rfl
@[simp] theorem isPtrT52 : isPtrT Try.prog 52 = false := by kernel_rfl
@[simp] theorem isBytes52 : isBytes Try.prog 52 = false := by kernel_rfl
@[simp] theorem intOfT52 : intOfT Try.prog 52 = none := by kernel_rfl
@[simp] theorem zOk53 : zOk Try.prog 53 = true := by kernel_rfl
@[simp] theorem szOf53 : szOf Try.prog 53 = 2 := by kernel_rfl
@[simp] theorem bytesOf53 : bytesOf Try.prog 53 = 48 := by kernel_rfl
@[simp] theorem zeroOf53 : zeroOf Try.prog 53 = [.slice none 0 0, .slice none 0 0] := by kernel_rfl
@[simp] theorem aggT53 : aggT Try.prog 53 = true := by kernel_rfl
@[simp] theorem kinds53 : kinds Try.prog 8 53 = [some (1, 3), some (1, 3)] := by kernel_rfl
@[simp] theorem buildOk53 : buildOk Try.prog 53 = true := by kernel_rfl
@[simp] theorem offOf53_0 : offOf Try.prog 53 0 = some 0 := by kernel_rfl
@[simp] theorem fszOf53_0 : fszOf Try.prog 53 0 = some (1, false) := by kernel_rfl
@[simp] theorem offOf53_1 : offOf Try.prog 53 1 = some 1 := by kernel_rfl
@[simp] theorem fszOf53_1 : fszOf Try.prog 53 1 = some (1, false) := by kernel_rfl
@[simp] theorem elOf53 : elOf Try.prog 53 = none := by kernel_rfl
@[simp] theorem arrOf53 : arrOf Try.prog 53 = none := by kernel_rfl
@[simp] theorem isStr53 : isStr Try.prog 53 = false := by kernel_rfl
@[simp] theorem isBoolT53 : isBoolT Try.prog 53 = false := by kernel_rfl
@[simp] theorem isSliceT53 : isSliceT Try.prog 53 = false := by kernel_rfl
@[simp] theorem isPtrT53 : isPtrT Try.prog 53 = false := by kernel_rfl
@[simp] theorem isBytes53 : isBytes Try.prog 53 = false := by kernel_rfl
@[simp] theorem intOfT53 : intOfT Try.prog 53 = none := by kernel_rfl
@[simp] theorem zOk54 : zOk Try.prog 54 = false := by kernel_rfl
@[simp] theorem aggT54 : aggT Try.prog 54 = false := by kernel_rfl
@[simp] theorem kinds54 : kinds Try.prog 8 54 = [none] := by kernel_rfl
@[simp] theorem elOf54 : elOf Try.prog 54 = none := by kernel_rfl
@[simp] theorem arrOf54 : arrOf Try.prog 54 = none := by kernel_rfl
@[simp] theorem isStr54 : isStr Try.prog 54 = false := by kernel_rfl
@[simp] theorem isBoolT54 : isBoolT Try.prog 54 = false := by kernel_rfl
@[simp] theorem isSliceT54 : isSliceT Try.prog 54 = false := by kernel_rfl
@[simp] theorem isPtrT54 : isPtrT Try.prog 54 = false := by kernel_rfl
@[simp] theorem isBytes54 : isBytes Try.prog 54 = false := by kernel_rfl
@[simp] theorem intOfT54 : intOfT Try.prog 54 = none := by kernel_rfl
@[simp] theorem zOk55 : zOk Try.prog 55 = true := by kernel_rfl
@[simp] theorem szOf55 : szOf Try.prog 55 = 1 := by kernel_rfl
@[simp] theorem bytesOf55 : bytesOf Try.prog 55 = 8 := by kernel_rfl
@[simp] theorem zeroOf55 : zeroOf Try.prog 55 = [.nilFunc] := by kernel_rfl
@[simp] theorem aggT55 : aggT Try.prog 55 = false := by kernel_rfl
@[simp] theorem kinds55 : kinds Try.prog 8 55 = [none] := by kernel_rfl
@[simp] theorem elOf55 : elOf Try.prog 55 = none := by kernel_rfl
@[simp] theorem arrOf55 : arrOf Try.prog 55 = none := by kernel_rfl
@[simp] theorem isStr55 : isStr Try.prog 55 = false := by kernel_rfl
@[simp] theorem isBoolT55 : isBoolT Try.prog 55 = false := by kernel_rfl
@[simp] theorem isSliceT55 : isSliceT Try.prog 55 = false := by kernel_rfl
@[simp] theorem isPtrT55 : isPtrT Try.prog 55 = false := by kernel_rfl
@[simp] theorem isBytes55 : isBytes Try.prog 55 = false := by kernel_rfl
@[simp] theorem intOfT55 : intOfT Try.prog 55 = none := by kernel_rfl
@[simp] theorem zOk56 : zOk Try.prog 56 = false := by kernel_rfl
@[simp] theorem aggT56 : aggT Try.prog 56 = false := by kernel_rfl
@[simp] theorem kinds56 : kinds Try.prog 8 56 = [none] := by kernel_rfl
@[simp] theorem elOf56 : elOf Try.prog 56 = none := by kernel_rfl
@[simp] theorem arrOf56 : arrOf Try.prog 56 = none := by kernel_rfl
@[simp] theorem isStr56 : isStr Try.prog 56 = false := by kernel_rfl
@[simp] theorem isBoolT56 : isBoolT Try.prog 56 = false := by kernel_rfl
@[simp] theorem isSliceT56 : isSliceT Try.prog 56 = false := by kernel_rfl
@[simp] theorem isPtrT56 : isPtrT Try.prog 56 = false := by kernel_rfl
@[simp] theorem isBytes56 : isBytes Try.prog 56 = false := by kernel_rfl
@[simp] theorem intOfT56 : intOfT Try.prog 56 = none := by kernel_rfl
@[simp] theorem zOk57 : zOk Try.prog 57 = true := by kernel_rfl
@[simp] theorem szOf57 : szOf Try.prog 57 = 1 := by kernel_rfl
@[simp] theorem bytesOf57 : bytesOf Try.prog 57 = 8 := by kernel_rfl
@[simp] theorem zeroOf57 : zeroOf Try.prog 57 = [.nilFunc] := by kernel_rfl
@[simp] theorem aggT57 : aggT Try.prog 57 = false := by kernel_rfl
@[simp] theorem kinds57 : kinds Try.prog 8 57 = [none] := by kernel_rfl
@[simp] theorem elOf57 : elOf Try.prog 57 = none := by kernel_rfl
@[simp] theorem arrOf57 : arrOf Try.prog 57 = none := by kernel_rfl
@[simp] theorem isStr57 : isStr Try.prog 57 = false := by kernel_rfl
@[simp] theorem isBoolT57 : isBoolT Try.prog 57 = false := by kernel_rfl
@[simp] theorem isSliceT57 : isSliceT Try.prog 57 = false := by kernel_rfl
@[simp] theorem isPtrT57 : isPtrT Try.prog 57 = false := by kernel_rfl
@[simp] theorem isBytes57 : isBytes Try.prog 57 = false := by kernel_rfl
@[simp] theorem intOfT57 : intOfT Try.prog 57 = none := by kernel_rfl
@[simp] theorem zOk58 : zOk Try.prog 58 = true := by kernel_rfl
@[simp] theorem szOf58 : szOf Try.prog 58 = 1 := by kernel_rfl
@[simp] theorem bytesOf58 : bytesOf Try.prog 58 = 8 := by kernel_rfl
@[simp] theorem zeroOf58 : zeroOf Try.prog 58 = [.nilFunc] := by kernel_rfl
@[simp] theorem aggT58 : aggT Try.prog 58 = false := by kernel_rfl
@[simp] theorem kinds58 : kinds Try.prog 8 58 = [none] := by kernel_rfl
@[simp] theorem elOf58 : elOf Try.prog 58 = none := by kernel_rfl
@[simp] theorem arrOf58 : arrOf Try.prog 58 = none := by kernel_rfl
@[simp] theorem isStr58 : isStr Try.prog 58 = false := by kernel_rfl
@[simp] theorem isBoolT58 : isBoolT Try.prog 58 = false := by kernel_rfl
@[simp] theorem isSliceT58 : isSliceT Try.prog 58 = false := by kernel_rfl
@[simp] theorem isPtrT58 : isPtrT Try.prog 58 = false := by kernel_rfl
@[simp] theorem isBytes58 : isBytes Try.prog 58 = false := by kernel_rfl
@[simp] theorem intOfT58 : intOfT Try.prog 58 = none := by kernel_rfl
@[simp] theorem zOk59 : zOk Try.prog 59 = true := by kernel_rfl
@[simp] theorem szOf59 : szOf Try.prog 59 = 1 := by kernel_rfl
@[simp] theorem bytesOf59 : bytesOf Try.prog 59 = 8 := by kernel_rfl
@[simp] theorem zeroOf59 : zeroOf Try.prog 59 = [.nilFunc] := by kernel_rfl
@[simp] theorem aggT59 : aggT Try.prog 59 = false := by kernel_rfl
@[simp] theorem kinds59 : kinds Try.prog 8 59 = [none] := by kernel_rfl
@[simp] theorem elOf59 : elOf Try.prog 59 = none := by kernel_rfl
@[simp] theorem arrOf59 : arrOf Try.prog 59 = none := by kernel_rfl
@[simp] theorem isStr59 : isStr Try.prog 59 = false := by kernel_rfl
@[simp] theorem isBoolT59 : isBoolT Try.prog 59 = false := by kernel_rfl
@[simp] theorem isSliceT59 : isSliceT Try.prog 59 = false := by kernel_rfl
@[simp] theorem isPtrT59 : isPtrT Try.prog 59 = false := by kernel_rfl
@[simp] theorem isBytes59 : isBytes Try.prog 59 = false := by kernel_rfl
@[simp] theorem intOfT59 : intOfT Try.prog 59 = none := by kernel_rfl
@[simp] theorem zOk60 : zOk Try.prog 60 = true := by kernel_rfl
@[simp] theorem szOf60 : szOf Try.prog 60 = 1 := by kernel_rfl
@[simp] theorem bytesOf60 : bytesOf Try.prog 60 = 8 := by kernel_rfl
@[simp] theorem zeroOf60 : zeroOf Try.prog 60 = [.nilFunc] := by kernel_rfl
@[simp] theorem aggT60 : aggT Try.prog 60 = false := by kernel_rfl
@[simp] theorem kinds60 : kinds Try.prog 8 60 = [none] := by kernel_rfl
@[simp] theorem elOf60 : elOf Try.prog 60 = none := by kernel_rfl
@[simp] theorem arrOf60 : arrOf Try.prog 60 = none := by kernel_rfl
@[simp] theorem isStr60 : isStr Try.prog 60 = false := by kernel_rfl
@[simp] theorem isBoolT60 : isBoolT Try.prog 60 = false := by kernel_rfl
@[simp] theorem isSliceT60 : isSliceT Try.prog 60 = false := by kernel_rfl
@[simp] theorem isPtrT60 : isPtrT Try.prog 60 = false := by kernel_rfl
@[simp] theorem isBytes60 : isBytes Try.prog 60 = false := by kernel_rfl
@[simp] theorem intOfT60 : intOfT Try.prog 60 = none := by kernel_rfl
@[simp] theorem zOk61 : zOk Try.prog 61 = true := by kernel_rfl
@[simp] theorem szOf61 : szOf Try.prog 61 = 1 := by kernel_rfl
@[simp] theorem bytesOf61 : bytesOf Try.prog 61 = 8 := by kernel_rfl
@[simp] theorem zeroOf61 : zeroOf Try.prog 61 = [.nilFunc] := by kernel_rfl
@[simp] theorem aggT61 : aggT Try.prog 61 = false := by kernel_rfl
@[simp] theorem kinds61 : kinds Try.prog 8 61 = [none] := by kernel_rfl
@[simp] theorem elOf61 : elOf Try.prog 61 = none := by kernel_rfl
@[simp] theorem arrOf61 : arrOf Try.prog 61 = none := by kernel_rfl
@[simp] theorem isStr61 : isStr Try.prog 61 = false := by kernel_rfl
@[simp] theorem isBoolT61 : isBoolT Try.prog 61 = false := by kernel_rfl
@[simp] theorem isSliceT61 : isSliceT Try.prog 61 = false := by kernel_rfl
@[simp] theorem isPtrT61 : isPtrT Try.prog 61 = false := by kernel_rfl
@[simp] theorem isBytes61 : isBytes Try.prog 61 = false := by kernel_rfl
@[simp] theorem intOfT61 : intOfT Try.prog 61 = none := by kernel_rfl
@[simp] theorem zOk62 : zOk Try.prog 62 = true := by kernel_rfl
@[simp] theorem szOf62 : szOf Try.prog 62 = 1 := by kernel_rfl
@[simp] theorem bytesOf62 : bytesOf Try.prog 62 = 8 := by kernel_rfl
@[simp] theorem zeroOf62 : zeroOf Try.prog 62 = [.nilFunc] := by kernel_rfl
@[simp] theorem aggT62 : aggT Try.prog 62 = false := by kernel_rfl
@[simp] theorem kinds62 : kinds Try.prog 8 62 = [none] := by kernel_rfl
@[simp] theorem elOf62 : elOf Try.prog 62 = none := by kernel_rfl
@[simp] theorem arrOf62 : arrOf Try.prog 62 = none := by kernel_rfl
@[simp] theorem isStr62 : isStr Try.prog 62 = false := by kernel_rfl
@[simp] theorem isBoolT62 : isBoolT Try.prog 62 = false := by kernel_rfl
@[simp] theorem isSliceT62 : isSliceT Try.prog 62 = false := by kernel_rfl
@[simp] theorem isPtrT62 : isPtrT Try.prog 62 = false := by kernel_rfl
@[simp] theorem isBytes62 : isBytes Try.prog 62 = false := by kernel_rfl
@[simp] theorem intOfT62 : intOfT Try.prog 62 = none := by kernel_rfl
@[simp] theorem zOk63 : zOk Try.prog 63 = true := by kernel_rfl
@[simp] theorem szOf63 : szOf Try.prog 63 = 1 := by kernel_rfl
@[simp] theorem bytesOf63 : bytesOf Try.prog 63 = 4 := by kernel_rfl
@[simp] theorem zeroOf63 : zeroOf Try.prog 63 = [.int .u32 0] := by kernel_rfl
@[simp] theorem aggT63 : aggT Try.prog 63 = false := by kernel_rfl
@[simp] theorem kinds63 : kinds Try.prog 8 63 = [none] := by kernel_rfl
@[simp] theorem elOf63 : elOf Try.prog 63 = none := by kernel_rfl
@[simp] theorem arrOf63 : arrOf Try.prog 63 = none := by kernel_rfl
@[simp] theorem isStr63 : isStr Try.prog 63 = false := by kernel_rfl
@[simp] theorem isBoolT63 : isBoolT Try.prog 63 = false := by kernel_rfl
@[simp] theorem isSliceT63 : isSliceT Try.prog 63 = false := by kernel_rfl
@[simp] theorem isPtrT63 : isPtrT Try.prog 63 = false := by kernel_rfl
@[simp] theorem isBytes63 : isBytes Try.prog 63 = false := by kernel_rfl
@[simp] theorem intOfT63 : intOfT Try.prog 63 = some .u32 := by kernel_rfl
@[simp] theorem zOk64 : zOk Try.prog 64 = true := by kernel_rfl
@[simp] theorem szOf64 : szOf Try.prog 64 = 256 := by kernel_rfl
@[simp] theorem bytesOf64 : bytesOf Try.prog 64 = 1024 := by kernel_rfl
@[simp] theorem aggT64 : aggT Try.prog 64 = true := by kernel_rfl
@[simp] theorem buildOk64 : buildOk Try.prog 64 = true := by kernel_rfl
@[simp] theorem elOf64 : elOf Try.prog 64 = none := by kernel_rfl
@[simp] theorem arrOf64 : arrOf Try.prog 64 = some (256, 63) := by kernel_rfl
@[simp] theorem isStr64 : isStr Try.prog 64 = false := by kernel_rfl
@[simp] theorem isBoolT64 : isBoolT Try.prog 64 = false := by kernel_rfl
@[simp] theorem isSliceT64 : isSliceT Try.prog 64 = false := by kernel_rfl
@[simp] theorem isPtrT64 : isPtrT Try.prog 64 = false := by kernel_rfl
@[simp] theorem isBytes64 : isBytes Try.prog 64 = false := by kernel_rfl
@[simp] theorem intOfT64 : intOfT Try.prog 64 = none := by kernel_rfl
@[simp] theorem zOk65 : zOk Try.prog 65 = true := by kernel_rfl
@[simp] theorem szOf65 : szOf Try.prog 65 = 1 := by kernel_rfl
@[simp] theorem bytesOf65 : bytesOf Try.prog 65 = 8 := by kernel_rfl
@[simp] theorem zeroOf65 : zeroOf Try.prog 65 = [.nilFunc] := by kernel_rfl
@[simp] theorem aggT65 : aggT Try.prog 65 = false := by kernel_rfl
@[simp] theorem kinds65 : kinds Try.prog 8 65 = [none] := by kernel_rfl
@[simp] theorem elOf65 : elOf Try.prog 65 = none := by kernel_rfl
@[simp] theorem arrOf65 : arrOf Try.prog 65 = none := by kernel_rfl
@[simp] theorem isStr65 : isStr Try.prog 65 = false := by kernel_rfl
@[simp] theorem isBoolT65 : isBoolT Try.prog 65 = false := by kernel_rfl
@[simp] theorem isSliceT65 : isSliceT Try.prog 65 = false := by kernel_rfl
@[simp] theorem isPtrT65 : isPtrT Try.prog 65 = false := by kernel_rfl
@[simp] theorem isBytes65 : isBytes Try.prog 65 = false := by kernel_rfl
@[simp] theorem intOfT65 : intOfT Try.prog 65 = none := by kernel_rfl
@[simp] theorem zOk66 : zOk Try.prog 66 = true := by kernel_rfl
@[simp] theorem szOf66 : szOf Try.prog 66 = 1 := by kernel_rfl
@[simp] theorem bytesOf66 : bytesOf Try.prog 66 = 8 := by kernel_rfl
@[simp] theorem zeroOf66 : zeroOf Try.prog 66 = [.int .u64 0] := by kernel_rfl
@[simp] theorem aggT66 : aggT Try.prog 66 = false := by kernel_rfl
@[simp] theorem kinds66 : kinds Try.prog 8 66 = [none] := by kernel_rfl
@[simp] theorem elOf66 : elOf Try.prog 66 = none := by kernel_rfl
@[simp] theorem arrOf66 : arrOf Try.prog 66 = none := by kernel_rfl
@[simp] theorem isStr66 : isStr Try.prog 66 = false := by kernel_rfl
@[simp] theorem isBoolT66 : isBoolT Try.prog 66 = false := by kernel_rfl
@[simp] theorem isSliceT66 : isSliceT Try.prog 66 = false := by kernel_rfl
@[simp] theorem isPtrT66 : isPtrT Try.prog 66 = false := by kernel_rfl
@[simp] theorem isBytes66 : isBytes Try.prog 66 = false := by kernel_rfl
@[simp] theorem intOfT66 : intOfT Try.prog 66 = some .u64 := by kernel_rfl
@[simp] theorem zOk67 : zOk Try.prog 67 = true := by kernel_rfl
@[simp] theorem szOf67 : szOf Try.prog 67 = 1 := by kernel_rfl
@[simp] theorem bytesOf67 : bytesOf Try.prog 67 = 8 := by kernel_rfl
@[simp] theorem zeroOf67 : zeroOf Try.prog 67 = [.nilFunc] := by kernel_rfl
@[simp] theorem aggT67 : aggT Try.prog 67 = false := by kernel_rfl
@[simp] theorem kinds67 : kinds Try.prog 8 67 = [none] := by kernel_rfl
@[simp] theorem elOf67 : elOf Try.prog 67 = none := by kernel_rfl
@[simp] theorem arrOf67 : arrOf Try.prog 67 = none := by kernel_rfl
@[simp] theorem isStr67 : isStr Try.prog 67 = false := by kernel_rfl
@[simp] theorem isBoolT67 : isBoolT Try.prog 67 = false := by kernel_rfl
@[simp] theorem isSliceT67 : isSliceT Try.prog 67 = false := by kernel_rfl
@[simp] theorem isPtrT67 : isPtrT Try.prog 67 = false := by kernel_rfl
@[simp] theorem isBytes67 : isBytes Try.prog 67 = false := by kernel_rfl
@[simp] theorem intOfT67 : intOfT Try.prog 67 = none := by kernel_rfl
@[simp] theorem zOk68 : zOk Try.prog 68 = true := by kernel_rfl
@[simp] theorem szOf68 : szOf Try.prog 68 = 6 := by kernel_rfl
@[simp] theorem bytesOf68 : bytesOf Try.prog 68 = 72 := by kernel_rfl
@[simp] theorem zeroOf68 : zeroOf Try.prog 68 = [.int .i64 0, .int .i64 0, .slice none 0 0, .string ⟨#[]⟩, .int .i64 0, .int .i64 0] := by kernel_rfl
@[simp] theorem aggT68 : aggT Try.prog 68 = true := by kernel_rfl
@[simp] theorem kinds68 : kinds Try.prog 8 68 = [none, none, some (1, 3), none, none, none] := by kernel_rfl
@[simp] theorem buildOk68 : buildOk Try.prog 68 = true := by kernel_rfl
@[simp] theorem offOf68_0 : offOf Try.prog 68 0 = some 0 := by kernel_rfl
@[simp] theorem fszOf68_0 : fszOf Try.prog 68 0 = some (1, false) := by kernel_rfl
@[simp] theorem offOf68_1 : offOf Try.prog 68 1 = some 1 := by kernel_rfl
@[simp] theorem fszOf68_1 : fszOf Try.prog 68 1 = some (1, false) := by kernel_rfl
@[simp] theorem offOf68_2 : offOf Try.prog 68 2 = some 2 := by kernel_rfl
@[simp] theorem fszOf68_2 : fszOf Try.prog 68 2 = some (1, false) := by kernel_rfl
@[simp] theorem offOf68_3 : offOf Try.prog 68 3 = some 3 := by kernel_rfl
@[simp] theorem fszOf68_3 : fszOf Try.prog 68 3 = some (1, false) := by kernel_rfl
@[simp] theorem offOf68_4 : offOf Try.prog 68 4 = some 4 := by kernel_rfl
@[simp] theorem fszOf68_4 : fszOf Try.prog 68 4 = some (1, false) := by kernel_rfl
@[simp] theorem offOf68_5 : offOf Try.prog 68 5 = some 5 := by kernel_rfl
@[simp] theorem fszOf68_5 : fszOf Try.prog 68 5 = some (1, false) := by kernel_rfl
@[simp] theorem elOf68 : elOf Try.prog 68 = none := by kernel_rfl
@[simp] theorem arrOf68 : arrOf Try.prog 68 = none := by kernel_rfl
@[simp] theorem isStr68 : isStr Try.prog 68 = false := by kernel_rfl
@[simp] theorem isBoolT68 : isBoolT Try.prog 68 = false := by kernel_rfl
@[simp] theorem isSliceT68 : isSliceT Try.prog 68 = false := by kernel_rfl
@[simp] theorem isPtrT68 : isPtrT Try.prog 68 = false := by kernel_rfl
@[simp] theorem isBytes68 : isBytes Try.prog 68 = false := by kernel_rfl
@[simp] theorem intOfT68 : intOfT Try.prog 68 = none := by kernel_rfl
@[simp] theorem zOk69 : zOk Try.prog 69 = true := by kernel_rfl
@[simp] theorem szOf69 : szOf Try.prog 69 = 6 := by kernel_rfl
@[simp] theorem bytesOf69 : bytesOf Try.prog 69 = 72 := by kernel_rfl
@[simp] theorem zeroOf69 : zeroOf Try.prog 69 = [.int .i64 0, .int .i64 0, .slice none 0 0, .string ⟨#[]⟩, .int .i64 0, .int .i64 0] := by kernel_rfl
@[simp] theorem aggT69 : aggT Try.prog 69 = true := by kernel_rfl
@[simp] theorem kinds69 : kinds Try.prog 8 69 = [none, none, some (1, 3), none, none, none] := by kernel_rfl
@[simp] theorem buildOk69 : buildOk Try.prog 69 = true := by kernel_rfl
@[simp] theorem offOf69_0 : offOf Try.prog 69 0 = some 0 := by kernel_rfl
@[simp] theorem fszOf69_0 : fszOf Try.prog 69 0 = some (1, false) := by kernel_rfl
@[simp] theorem offOf69_1 : offOf Try.prog 69 1 = some 1 := by kernel_rfl
@[simp] theorem fszOf69_1 : fszOf Try.prog 69 1 = some (1, false) := by kernel_rfl
@[simp] theorem offOf69_2 : offOf Try.prog 69 2 = some 2 := by kernel_rfl
@[simp] theorem fszOf69_2 : fszOf Try.prog 69 2 = some (1, false) := by kernel_rfl
@[simp] theorem offOf69_3 : offOf Try.prog 69 3 = some 3 := by kernel_rfl
@[simp] theorem fszOf69_3 : fszOf Try.prog 69 3 = some (1, false) := by kernel_rfl
@[simp] theorem offOf69_4 : offOf Try.prog 69 4 = some 4 := by kernel_rfl
@[simp] theorem fszOf69_4 : fszOf Try.prog 69 4 = some (1, false) := by kernel_rfl
@[simp] theorem offOf69_5 : offOf Try.prog 69 5 = some 5 := by kernel_rfl
@[simp] theorem fszOf69_5 : fszOf Try.prog 69 5 = some (1, false) := by kernel_rfl
@[simp] theorem elOf69 : elOf Try.prog 69 = none := by kernel_rfl
@[simp] theorem arrOf69 : arrOf Try.prog 69 = none := by kernel_rfl
@[simp] theorem isStr69 : isStr Try.prog 69 = false := by kernel_rfl
@[simp] theorem isBoolT69 : isBoolT Try.prog 69 = false := by kernel_rfl
@[simp] theorem isSliceT69 : isSliceT Try.prog 69 = false := by kernel_rfl
@[simp] theorem isPtrT69 : isPtrT Try.prog 69 = false := by kernel_rfl
@[simp] theorem isBytes69 : isBytes Try.prog 69 = false := by kernel_rfl
@[simp] theorem intOfT69 : intOfT Try.prog 69 = none := by kernel_rfl
@[simp] theorem zOk70 : zOk Try.prog 70 = true := by kernel_rfl
@[simp] theorem szOf70 : szOf Try.prog 70 = 10 := by kernel_rfl
@[simp] theorem bytesOf70 : bytesOf Try.prog 70 = 104 := by kernel_rfl
@[simp] theorem zeroOf70 : zeroOf Try.prog 70 = [.int .i64 0, .int .i64 0, .int .i64 0, .int .i64 0, .int .i64 0, .int .i64 0, .slice none 0 0, .string ⟨#[]⟩, .int .i64 0, .int .i64 0] := by kernel_rfl
@[simp] theorem aggT70 : aggT Try.prog 70 = true := by kernel_rfl
@[simp] theorem kinds70 : kinds Try.prog 8 70 = [none, none, none, none, none, none, some (1, 3), none, none, none] := by kernel_rfl
@[simp] theorem buildOk70 : buildOk Try.prog 70 = true := by kernel_rfl
@[simp] theorem offOf70_0 : offOf Try.prog 70 0 = some 0 := by kernel_rfl
@[simp] theorem fszOf70_0 : fszOf Try.prog 70 0 = some (1, false) := by kernel_rfl
@[simp] theorem offOf70_1 : offOf Try.prog 70 1 = some 1 := by kernel_rfl
@[simp] theorem fszOf70_1 : fszOf Try.prog 70 1 = some (1, false) := by kernel_rfl
@[simp] theorem offOf70_2 : offOf Try.prog 70 2 = some 2 := by kernel_rfl
@[simp] theorem fszOf70_2 : fszOf Try.prog 70 2 = some (1, false) := by kernel_rfl
@[simp] theorem offOf70_3 : offOf Try.prog 70 3 = some 3 := by kernel_rfl
@[simp] theorem fszOf70_3 : fszOf Try.prog 70 3 = some (1, false) := by kernel_rfl
@[simp] theorem offOf70_4 : offOf Try.prog 70 4 = some 4 := by kernel_rfl
@[simp] theorem fszOf70_4 : fszOf Try.prog 70 4 = some (6, true) := by kernel_rfl
@[simp] theorem elOf70 : elOf Try.prog 70 = none := by kernel_rfl
@[simp] theorem arrOf70 : arrOf Try.prog 70 = none := by kernel_rfl
@[simp] theorem isStr70 : isStr Try.prog 70 = false := by kernel_rfl
@[simp] theorem isBoolT70 : isBoolT Try.prog 70 = false := by kernel_rfl
@[simp] theorem isSliceT70 : isSliceT Try.prog 70 = false := by kernel_rfl
@[simp] theorem isPtrT70 : isPtrT Try.prog 70 = false := by kernel_rfl
@[simp] theorem isBytes70 : isBytes Try.prog 70 = false := by kernel_rfl
@[simp] theorem intOfT70 : intOfT Try.prog 70 = none := by kernel_rfl
@[simp] theorem zOk71 : zOk Try.prog 71 = true := by kernel_rfl
@[simp] theorem szOf71 : szOf Try.prog 71 = 10 := by kernel_rfl
@[simp] theorem bytesOf71 : bytesOf Try.prog 71 = 104 := by kernel_rfl
@[simp] theorem zeroOf71 : zeroOf Try.prog 71 = [.int .i64 0, .int .i64 0, .int .i64 0, .int .i64 0, .int .i64 0, .int .i64 0, .slice none 0 0, .string ⟨#[]⟩, .int .i64 0, .int .i64 0] := by kernel_rfl
@[simp] theorem aggT71 : aggT Try.prog 71 = true := by kernel_rfl
@[simp] theorem kinds71 : kinds Try.prog 8 71 = [none, none, none, none, none, none, some (1, 3), none, none, none] := by kernel_rfl
@[simp] theorem buildOk71 : buildOk Try.prog 71 = true := by kernel_rfl
@[simp] theorem offOf71_0 : offOf Try.prog 71 0 = some 0 := by kernel_rfl
@[simp] theorem fszOf71_0 : fszOf Try.prog 71 0 = some (1, false) := by kernel_rfl
@[simp] theorem offOf71_1 : offOf Try.prog 71 1 = some 1 := by kernel_rfl
@[simp] theorem fszOf71_1 : fszOf Try.prog 71 1 = some (1, false) := by kernel_rfl
@[simp] theorem offOf71_2 : offOf Try.prog 71 2 = some 2 := by kernel_rfl
@[simp] theorem fszOf71_2 : fszOf Try.prog 71 2 = some (1, false) := by kernel_rfl
@[simp] theorem offOf71_3 : offOf Try.prog 71 3 = some 3 := by kernel_rfl
@[simp] theorem fszOf71_3 : fszOf Try.prog 71 3 = some (1, false) := by kernel_rfl
@[simp] theorem offOf71_4 : offOf Try.prog 71 4 = some 4 := by kernel_rfl
@[simp] theorem fszOf71_4 : fszOf Try.prog 71 4 = some (6, true) := by kernel_rfl
@[simp] theorem elOf71 : elOf Try.prog 71 = none := by kernel_rfl
@[simp] theorem arrOf71 : arrOf Try.prog 71 = none := by kernel_rfl
@[simp] theorem isStr71 : isStr Try.prog 71 = false := by kernel_rfl
@[simp] theorem isBoolT71 : isBoolT Try.prog 71 = false := by kernel_rfl
@[simp] theorem isSliceT71 : isSliceT Try.prog 71 = false := by kernel_rfl
@[simp] theorem isPtrT71 : isPtrT Try.prog 71 = false := by kernel_rfl
@[simp] theorem isBytes71 : isBytes Try.prog 71 = false := by kernel_rfl
@[simp] theorem intOfT71 : intOfT Try.prog 71 = none := by kernel_rfl
@[simp] theorem zOk72 : zOk Try.prog 72 = true := by kernel_rfl
@[simp] theorem szOf72 : szOf Try.prog 72 = 1 := by kernel_rfl
@[simp] theorem bytesOf72 : bytesOf Try.prog 72 = 8 := by kernel_rfl
@[simp] theorem zeroOf72 : zeroOf Try.prog 72 = [.nilFunc] := by kernel_rfl
@[simp] theorem aggT72 : aggT Try.prog 72 = false := by kernel_rfl
@[simp] theorem kinds72 : kinds Try.prog 8 72 = [none] := by kernel_rfl
@[simp] theorem elOf72 : elOf Try.prog 72 = none := by kernel_rfl
@[simp] theorem arrOf72 : arrOf Try.prog 72 = none := by kernel_rfl
@[simp] theorem isStr72 : isStr Try.prog 72 = false := by kernel_rfl
@[simp] theorem isBoolT72 : isBoolT Try.prog 72 = false := by kernel_rfl
@[simp] theorem isSliceT72 : isSliceT Try.prog 72 = false := by kernel_rfl
@[simp] theorem isPtrT72 : isPtrT Try.prog 72 = false := by kernel_rfl
@[simp] theorem isBytes72 : isBytes Try.prog 72 = false := by kernel_rfl
@[simp] theorem intOfT72 : intOfT Try.prog 72 = none := by kernel_rfl
@[simp] theorem zOk73 : zOk Try.prog 73 = true := by kernel_rfl
@[simp] theorem szOf73 : szOf Try.prog 73 = 1 := by kernel_rfl
@[simp] theorem bytesOf73 : bytesOf Try.prog 73 = 8 := by kernel_rfl
@[simp] theorem zeroOf73 : zeroOf Try.prog 73 = [.nilFunc] := by kernel_rfl
@[simp] theorem aggT73 : aggT Try.prog 73 = false := by kernel_rfl
@[simp] theorem kinds73 : kinds Try.prog 8 73 = [none] := by kernel_rfl
@[simp] theorem elOf73 : elOf Try.prog 73 = none := by kernel_rfl
@[simp] theorem arrOf73 : arrOf Try.prog 73 = none := by kernel_rfl
@[simp] theorem isStr73 : isStr Try.prog 73 = false := by kernel_rfl
@[simp] theorem isBoolT73 : isBoolT Try.prog 73 = false := by kernel_rfl
@[simp] theorem isSliceT73 : isSliceT Try.prog 73 = false := by kernel_rfl
@[simp] theorem isPtrT73 : isPtrT Try.prog 73 = false := by kernel_rfl
@[simp] theorem isBytes73 : isBytes Try.prog 73 = false := by kernel_rfl
@[simp] theorem intOfT73 : intOfT Try.prog 73 = none := by kernel_rfl
@[simp] theorem zOk74 : zOk Try.prog 74 = true := by kernel_rfl
@[simp] theorem szOf74 : szOf Try.prog 74 = 1 := by kernel_rfl
@[simp] theorem bytesOf74 : bytesOf Try.prog 74 = 8 := by kernel_rfl
@[simp] theorem zeroOf74 : zeroOf Try.prog 74 = [.nilFunc] := by kernel_rfl
@[simp] theorem aggT74 : aggT Try.prog 74 = false := by kernel_rfl
@[simp] theorem kinds74 : kinds Try.prog 8 74 = [none] := by kernel_rfl
@[simp] theorem elOf74 : elOf Try.prog 74 = none := by kernel_rfl
@[simp] theorem arrOf74 : arrOf Try.prog 74 = none := by kernel_rfl
@[simp] theorem isStr74 : isStr Try.prog 74 = false := by kernel_rfl
@[simp] theorem isBoolT74 : isBoolT Try.prog 74 = false := by kernel_rfl
@[simp] theorem isSliceT74 : isSliceT Try.prog 74 = false := by kernel_rfl
@[simp] theorem isPtrT74 : isPtrT Try.prog 74 = false := by kernel_rfl
@[simp] theorem isBytes74 : isBytes Try.prog 74 = false := by kernel_rfl
@[simp] theorem intOfT74 : intOfT Try.prog 74 = none := by kernel_rfl
@[simp] theorem zOk75 : zOk Try.prog 75 = true := by kernel_rfl
@[simp] theorem szOf75 : szOf Try.prog 75 = 1 := by kernel_rfl
@[simp] theorem bytesOf75 : bytesOf Try.prog 75 = 8 := by kernel_rfl
@[simp] theorem zeroOf75 : zeroOf Try.prog 75 = [.nilFunc] := by kernel_rfl
@[simp] theorem aggT75 : aggT Try.prog 75 = false := by kernel_rfl
@[simp] theorem kinds75 : kinds Try.prog 8 75 = [none] := by kernel_rfl
@[simp] theorem elOf75 : elOf Try.prog 75 = none := by kernel_rfl
@[simp] theorem arrOf75 : arrOf Try.prog 75 = none := by kernel_rfl
@[simp] theorem isStr75 : isStr Try.prog 75 = false := by kernel_rfl
@[simp] theorem isBoolT75 : isBoolT Try.prog 75 = false := by kernel_rfl
@[simp] theorem isSliceT75 : isSliceT Try.prog 75 = false := by kernel_rfl
@[simp] theorem isPtrT75 : isPtrT Try.prog 75 = false := by kernel_rfl
@[simp] theorem isBytes75 : isBytes Try.prog 75 = false := by kernel_rfl
@[simp] theorem intOfT75 : intOfT Try.prog 75 = none := by kernel_rfl
@[simp] theorem zOk76 : zOk Try.prog 76 = true := by kernel_rfl
@[simp] theorem szOf76 : szOf Try.prog 76 = 1 := by kernel_rfl
@[simp] theorem bytesOf76 : bytesOf Try.prog 76 = 8 := by kernel_rfl
@[simp] theorem zeroOf76 : zeroOf Try.prog 76 = [.nilFunc] := by kernel_rfl
@[simp] theorem aggT76 : aggT Try.prog 76 = false := by kernel_rfl
@[simp] theorem kinds76 : kinds Try.prog 8 76 = [none] := by kernel_rfl
@[simp] theorem elOf76 : elOf Try.prog 76 = none := by kernel_rfl
@[simp] theorem arrOf76 : arrOf Try.prog 76 = none := by kernel_rfl
@[simp] theorem isStr76 : isStr Try.prog 76 = false := by kernel_rfl
@[simp] theorem isBoolT76 : isBoolT Try.prog 76 = false := by kernel_rfl
@[simp] theorem isSliceT76 : isSliceT Try.prog 76 = false := by kernel_rfl
@[simp] theorem isPtrT76 : isPtrT Try.prog 76 = false := by kernel_rfl
@[simp] theorem isBytes76 : isBytes Try.prog 76 = false := by kernel_rfl
@[simp] theorem intOfT76 : intOfT Try.prog 76 = none := by kernel_rfl
@[simp] theorem zOk77 : zOk Try.prog 77 = true := by kernel_rfl
@[simp] theorem szOf77 : szOf Try.prog 77 = 1 := by kernel_rfl
@[simp] theorem bytesOf77 : bytesOf Try.prog 77 = 8 := by kernel_rfl
@[simp] theorem zeroOf77 : zeroOf Try.prog 77 = [.nilFunc] := by kernel_rfl
@[simp] theorem aggT77 : aggT Try.prog 77 = false := by kernel_rfl
@[simp] theorem kinds77 : kinds Try.prog 8 77 = [none] := by kernel_rfl
@[simp] theorem elOf77 : elOf Try.prog 77 = none := by kernel_rfl
@[simp] theorem arrOf77 : arrOf Try.prog 77 = none := by kernel_rfl
@[simp] theorem isStr77 : isStr Try.prog 77 = false := by kernel_rfl
@[simp] theorem isBoolT77 : isBoolT Try.prog 77 = false := by kernel_rfl
@[simp] theorem isSliceT77 : isSliceT Try.prog 77 = false := by kernel_rfl
@[simp] theorem isPtrT77 : isPtrT Try.prog 77 = false := by kernel_rfl
@[simp] theorem isBytes77 : isBytes Try.prog 77 = false := by kernel_rfl
@[simp] theorem intOfT77 : intOfT Try.prog 77 = none := by kernel_rfl
@[simp] theorem zOk78 : zOk Try.prog 78 = false := by kernel_rfl
@[simp] theorem aggT78 : aggT Try.prog 78 = false := by kernel_rfl
@[simp] theorem kinds78 : kinds Try.prog 8 78 = [none] := by kernel_rfl
@[simp] theorem elOf78 : elOf Try.prog 78 = none := by kernel_rfl
@[simp] theorem arrOf78 : arrOf Try.prog 78 = none := by kernel_rfl
@[simp] theorem isStr78 : isStr Try.prog 78 = false := by kernel_rfl
@[simp] theorem isBoolT78 : isBoolT Try.prog 78 = false := by kernel_rfl
@[simp] theorem isSliceT78 : isSliceT Try.prog 78 = false := by kernel_rfl
@[simp] theorem isPtrT78 : isPtrT Try.prog 78 = false := by kernel_rfl
@[simp] theorem isBytes78 : isBytes Try.prog 78 = false := by kernel_rfl
@[simp] theorem intOfT78 : intOfT Try.prog 78 = none := by kernel_rfl
@[simp] theorem zOk79 : zOk Try.prog 79 = true := by kernel_rfl
@[simp] theorem szOf79 : szOf Try.prog 79 = 1 := by kernel_rfl
@[simp] theorem bytesOf79 : bytesOf Try.prog 79 = 8 := by kernel_rfl
@[simp] theorem zeroOf79 : zeroOf Try.prog 79 = [.nilFunc] := by kernel_rfl
@[simp] theorem aggT79 : aggT Try.prog 79 = false := by kernel_rfl
@[simp] theorem kinds79 : kinds Try.prog 8 79 = [none] := by kernel_rfl
@[simp] theorem elOf79 : elOf Try.prog 79 = none := by kernel_rfl
@[simp] theorem arrOf79 : arrOf Try.prog 79 = none := by kernel_rfl
@[simp] theorem isStr79 : isStr Try.prog 79 = false := by kernel_rfl
@[simp] theorem isBoolT79 : isBoolT Try.prog 79 = false := by kernel_rfl
@[simp] theorem isSliceT79 : isSliceT Try.prog 79 = false := by kernel_rfl
@[simp] theorem isPtrT79 : isPtrT Try.prog 79 = false := by kernel_rfl
@[simp] theorem isBytes79 : isBytes Try.prog 79 = false := by kernel_rfl
@[simp] theorem intOfT79 : intOfT Try.prog 79 = none := by kernel_rfl
@[simp] theorem zOk80 : zOk Try.prog 80 = true := by kernel_rfl
@[simp] theorem szOf80 : szOf Try.prog 80 = 1 := by kernel_rfl
@[simp] theorem bytesOf80 : bytesOf Try.prog 80 = 8 := by kernel_rfl
@[simp] theorem zeroOf80 : zeroOf Try.prog 80 = [.nilFunc] := by kernel_rfl
@[simp] theorem aggT80 : aggT Try.prog 80 = false := by kernel_rfl
@[simp] theorem kinds80 : kinds Try.prog 8 80 = [none] := by kernel_rfl
@[simp] theorem elOf80 : elOf Try.prog 80 = none := by kernel_rfl
@[simp] theorem arrOf80 : arrOf Try.prog 80 = none := by kernel_rfl
@[simp] theorem isStr80 : isStr Try.prog 80 = false := by kernel_rfl
@[simp] theorem isBoolT80 : isBoolT Try.prog 80 = false := by kernel_rfl
@[simp] theorem isSliceT80 : isSliceT Try.prog 80 = false := by kernel_rfl
@[simp] theorem isPtrT80 : isPtrT Try.prog 80 = false := by kernel_rfl
@[simp] theorem isBytes80 : isBytes Try.prog 80 = false := by kernel_rfl
@[simp] theorem intOfT80 : intOfT Try.prog 80 = none := by kernel_rfl
@[simp] theorem zOk81 : zOk Try.prog 81 = true := by kernel_rfl
@[simp] theorem szOf81 : szOf Try.prog 81 = 1 := by kernel_rfl
@[simp] theorem bytesOf81 : bytesOf Try.prog 81 = 8 := by kernel_rfl
@[simp] theorem zeroOf81 : zeroOf Try.prog 81 = [.nilFunc] := by kernel_rfl
@[simp] theorem aggT81 : aggT Try.prog 81 = false := by kernel_rfl
@[simp] theorem kinds81 : kinds Try.prog 8 81 = [none] := by kernel_rfl
@[simp] theorem elOf81 : elOf Try.prog 81 = none := by kernel_rfl
@[simp] theorem arrOf81 : arrOf Try.prog 81 = none := by kernel_rfl
@[simp] theorem isStr81 : isStr Try.prog 81 = false := by kernel_rfl
@[simp] theorem isBoolT81 : isBoolT Try.prog 81 = false := by kernel_rfl
@[simp] theorem isSliceT81 : isSliceT Try.prog 81 = false := by kernel_rfl
@[simp] theorem isPtrT81 : isPtrT Try.prog 81 = false := by kernel_rfl
@[simp] theorem isBytes81 : isBytes Try.prog 81 = false := by kernel_rfl
@[simp] theorem intOfT81 : intOfT Try.prog 81 = none := by kernel_rfl
@[simp] theorem zOk82 : zOk Try.prog 82 = true := by kernel_rfl
@[simp] theorem szOf82 : szOf Try.prog 82 = 1 := by kernel_rfl
@[simp] theorem bytesOf82 : bytesOf Try.prog 82 = 24 := by kernel_rfl
@[simp] theorem zeroOf82 : zeroOf Try.prog 82 = [.slice none 0 0] := by kernel_rfl
@[simp] theorem aggT82 : aggT Try.prog 82 = false := by kernel_rfl
@[simp] theorem kinds82 : kinds Try.prog 8 82 = [some (1, 51)] := by kernel_rfl
@[simp] theorem elOf82 : elOf Try.prog 82 = some 51 := by kernel_rfl
@[simp] theorem arrOf82 : arrOf Try.prog 82 = none := by kernel_rfl
@[simp] theorem isStr82 : isStr Try.prog 82 = false := by kernel_rfl
@[simp] theorem isBoolT82 : isBoolT Try.prog 82 = false := by kernel_rfl
@[simp] theorem isSliceT82 : isSliceT Try.prog 82 = true := by kernel_rfl
@[simp] theorem isPtrT82 : isPtrT Try.prog 82 = false := by kernel_rfl
@[simp] theorem isBytes82 : isBytes Try.prog 82 = false := by kernel_rfl
@[simp] theorem intOfT82 : intOfT Try.prog 82 = none := by kernel_rfl
@[simp] theorem zOk83 : zOk Try.prog 83 = true := by kernel_rfl
@[simp] theorem szOf83 : szOf Try.prog 83 = 1 := by kernel_rfl
@[simp] theorem bytesOf83 : bytesOf Try.prog 83 = 8 := by kernel_rfl
@[simp] theorem zeroOf83 : zeroOf Try.prog 83 = [.nilFunc] := by kernel_rfl
@[simp] theorem aggT83 : aggT Try.prog 83 = false := by kernel_rfl
@[simp] theorem kinds83 : kinds Try.prog 8 83 = [none] := by kernel_rfl
@[simp] theorem elOf83 : elOf Try.prog 83 = none := by kernel_rfl
@[simp] theorem arrOf83 : arrOf Try.prog 83 = none := by kernel_rfl
@[simp] theorem isStr83 : isStr Try.prog 83 = false := by kernel_rfl
@[simp] theorem isBoolT83 : isBoolT Try.prog 83 = false := by kernel_rfl
@[simp] theorem isSliceT83 : isSliceT Try.prog 83 = false := by kernel_rfl
@[simp] theorem isPtrT83 : isPtrT Try.prog 83 = false := by kernel_rfl
@[simp] theorem isBytes83 : isBytes Try.prog 83 = false := by kernel_rfl
@[simp] theorem intOfT83 : intOfT Try.prog 83 = none := by kernel_rfl
@[simp] theorem zOk84 : zOk Try.prog 84 = true := by kernel_rfl
@[simp] theorem szOf84 : szOf Try.prog 84 = 1 := by kernel_rfl
@[simp] theorem bytesOf84 : bytesOf Try.prog 84 = 8 := by kernel_rfl
@[simp] theorem zeroOf84 : zeroOf Try.prog 84 = [.nilFunc] := by kernel_rfl
@[simp] theorem aggT84 : aggT Try.prog 84 = false := by kernel_rfl
@[simp] theorem kinds84 : kinds Try.prog 8 84 = [none] := by kernel_rfl
@[simp] theorem elOf84 : elOf Try.prog 84 = none := by kernel_rfl
@[simp] theorem arrOf84 : arrOf Try.prog 84 = none := by kernel_rfl
@[simp] theorem isStr84 : isStr Try.prog 84 = false := by kernel_rfl
@[simp] theorem isBoolT84 : isBoolT Try.prog 84 = false := by kernel_rfl
@[simp] theorem isSliceT84 : isSliceT Try.prog 84 = false := by kernel_rfl
@[simp] theorem isPtrT84 : isPtrT Try.prog 84 = false := by kernel_rfl
@[simp] theorem isBytes84 : isBytes Try.prog 84 = false := by kernel_rfl
@[simp] theorem intOfT84 : intOfT Try.prog 84 = none := by kernel_rfl
@[simp] theorem zOk85 : zOk Try.prog 85 = true := by kernel_rfl
@[simp] theorem szOf85 : szOf Try.prog 85 = 1 := by kernel_rfl
@[simp] theorem bytesOf85 : bytesOf Try.prog 85 = 8 := by kernel_rfl
@[simp] theorem zeroOf85 : zeroOf Try.prog 85 = [.nilFunc] := by kernel_rfl
@[simp] theorem aggT85 : aggT Try.prog 85 = false := by kernel_rfl
@[simp] theorem kinds85 : kinds Try.prog 8 85 = [none] := by kernel_rfl
@[simp] theorem elOf85 : elOf Try.prog 85 = none := by kernel_rfl
@[simp] theorem arrOf85 : arrOf Try.prog 85 = none := by kernel_rfl
@[simp] theorem isStr85 : isStr Try.prog 85 = false := by kernel_rfl
@[simp] theorem isBoolT85 : isBoolT Try.prog 85 = false := by kernel_rfl
@[simp] theorem isSliceT85 : isSliceT Try.prog 85 = false := by kernel_rfl
@[simp] theorem isPtrT85 : isPtrT Try.prog 85 = false := by kernel_rfl
@[simp] theorem isBytes85 : isBytes Try.prog 85 = false := by kernel_rfl
@[simp] theorem intOfT85 : intOfT Try.prog 85 = none := by kernel_rfl
@[simp] theorem zOk86 : zOk Try.prog 86 = true := by kernel_rfl
@[simp] theorem szOf86 : szOf Try.prog 86 = 4 := by kernel_rfl
@[simp] theorem bytesOf86 : bytesOf Try.prog 86 = 40 := by kernel_rfl
@[simp] theorem zeroOf86 : zeroOf Try.prog 86 = [.pointer none, .pointer none, .pointer none, .string ⟨#[]⟩] := by kernel_rfl
@[simp] theorem aggT86 : aggT Try.prog 86 = true := by kernel_rfl
@[simp] theorem kinds86 : kinds Try.prog 8 86 = [none, none, none, none] := by kernel_rfl
@[simp] theorem buildOk86 : buildOk Try.prog 86 = true := by kernel_rfl
@[simp] theorem offOf86_0 : offOf Try.prog 86 0 = some 0 := by kernel_rfl
@[simp] theorem fszOf86_0 : fszOf Try.prog 86 0 = some (1, false) := by kernel_rfl
@[simp] theorem offOf86_1 : offOf Try.prog 86 1 = some 1 := by kernel_rfl
@[simp] theorem fszOf86_1 : fszOf Try.prog 86 1 = some (1, false) := by kernel_rfl
@[simp] theorem offOf86_2 : offOf Try.prog 86 2 = some 2 := by kernel_rfl
@[simp] theorem fszOf86_2 : fszOf Try.prog 86 2 = some (1, false) := by kernel_rfl
@[simp] theorem offOf86_3 : offOf Try.prog 86 3 = some 3 := by kernel_rfl
@[simp] theorem fszOf86_3 : fszOf Try.prog 86 3 = some (1, false) := by kernel_rfl
@[simp] theorem elOf86 : elOf Try.prog 86 = none := by kernel_rfl
@[simp] theorem arrOf86 : arrOf Try.prog 86 = none := by kernel_rfl
@[simp] theorem isStr86 : isStr Try.prog 86 = false := by kernel_rfl
@[simp] theorem isBoolT86 : isBoolT Try.prog 86 = false := by kernel_rfl
@[simp] theorem isSliceT86 : isSliceT Try.prog 86 = false := by kernel_rfl
@[simp] theorem isPtrT86 : isPtrT Try.prog 86 = false := by kernel_rfl
@[simp] theorem isBytes86 : isBytes Try.prog 86 = false := by kernel_rfl
@[simp] theorem intOfT86 : intOfT Try.prog 86 = none := by kernel_rfl
@[simp] theorem zOk87 : zOk Try.prog 87 = true := by kernel_rfl
@[simp] theorem szOf87 : szOf Try.prog 87 = 4 := by kernel_rfl
@[simp] theorem bytesOf87 : bytesOf Try.prog 87 = 40 := by kernel_rfl
@[simp] theorem zeroOf87 : zeroOf Try.prog 87 = [.pointer none, .pointer none, .pointer none, .string ⟨#[]⟩] := by kernel_rfl
@[simp] theorem aggT87 : aggT Try.prog 87 = true := by kernel_rfl
@[simp] theorem kinds87 : kinds Try.prog 8 87 = [none, none, none, none] := by kernel_rfl
@[simp] theorem buildOk87 : buildOk Try.prog 87 = true := by kernel_rfl
@[simp] theorem offOf87_0 : offOf Try.prog 87 0 = some 0 := by kernel_rfl
@[simp] theorem fszOf87_0 : fszOf Try.prog 87 0 = some (1, false) := by kernel_rfl
@[simp] theorem offOf87_1 : offOf Try.prog 87 1 = some 1 := by kernel_rfl
@[simp] theorem fszOf87_1 : fszOf Try.prog 87 1 = some (1, false) := by kernel_rfl
@[simp] theorem offOf87_2 : offOf Try.prog 87 2 = some 2 := by kernel_rfl
@[simp] theorem fszOf87_2 : fszOf Try.prog 87 2 = some (1, false) := by kernel_rfl
@[simp] theorem offOf87_3 : offOf Try.prog 87 3 = some 3 := by kernel_rfl
@[simp] theorem fszOf87_3 : fszOf Try.prog 87 3 = some (1, false) := by kernel_rfl
@[simp] theorem elOf87 : elOf Try.prog 87 = none := by kernel_rfl
@[simp] theorem arrOf87 : arrOf Try.prog 87 = none := by kernel_rfl
@[simp] theorem isStr87 : isStr Try.prog 87 = false := by kernel_rfl
@[simp] theorem isBoolT87 : isBoolT Try.prog 87 = false := by kernel_rfl
@[simp] theorem isSliceT87 : isSliceT Try.prog 87 = false := by kernel_rfl
@[simp] theorem isPtrT87 : isPtrT Try.prog 87 = false := by kernel_rfl
@[simp] theorem isBytes87 : isBytes Try.prog 87 = false := by kernel_rfl
@[simp] theorem intOfT87 : intOfT Try.prog 87 = none := by kernel_rfl
@[simp] theorem zOk88 : zOk Try.prog 88 = false := by kernel_rfl
@[simp] theorem aggT88 : aggT Try.prog 88 = true := by kernel_rfl
@[simp] theorem kinds88 : kinds Try.prog 8 88 = [] := by kernel_rfl
@[simp] theorem buildOk88 : buildOk Try.prog 88 = true := by kernel_rfl
@[simp] theorem elOf88 : elOf Try.prog 88 = none := by kernel_rfl
@[simp] theorem arrOf88 : arrOf Try.prog 88 = some (0, 16) := by kernel_rfl
@[simp] theorem isStr88 : isStr Try.prog 88 = false := by kernel_rfl
@[simp] theorem isBoolT88 : isBoolT Try.prog 88 = false := by kernel_rfl
@[simp] theorem isSliceT88 : isSliceT Try.prog 88 = false := by kernel_rfl
@[simp] theorem isPtrT88 : isPtrT Try.prog 88 = false := by kernel_rfl
@[simp] theorem isBytes88 : isBytes Try.prog 88 = false := by kernel_rfl
@[simp] theorem intOfT88 : intOfT Try.prog 88 = none := by kernel_rfl
@[simp] theorem zOk89 : zOk Try.prog 89 = false := by kernel_rfl
@[simp] theorem aggT89 : aggT Try.prog 89 = true := by kernel_rfl
@[simp] theorem kinds89 : kinds Try.prog 8 89 = [] := by kernel_rfl
@[simp] theorem buildOk89 : buildOk Try.prog 89 = true := by kernel_rfl
@[simp] theorem offOf89_0 : offOf Try.prog 89 0 = some 0 := by kernel_rfl
@[simp] theorem fszOf89_0 : fszOf Try.prog 89 0 = none := by kernel_rfl
@[simp] theorem elOf89 : elOf Try.prog 89 = none := by kernel_rfl
@[simp] theorem arrOf89 : arrOf Try.prog 89 = none := by kernel_rfl
@[simp] theorem isStr89 : isStr Try.prog 89 = false := by kernel_rfl
@[simp] theorem isBoolT89 : isBoolT Try.prog 89 = false := by kernel_rfl
@[simp] theorem isSliceT89 : isSliceT Try.prog 89 = false := by kernel_rfl
@[simp] theorem isPtrT89 : isPtrT Try.prog 89 = false := by kernel_rfl
@[simp] theorem isBytes89 : isBytes Try.prog 89 = false := by kernel_rfl
@[simp] theorem intOfT89 : intOfT Try.prog 89 = none := by kernel_rfl
@[simp] theorem zOk90 : zOk Try.prog 90 = false := by kernel_rfl
@[simp] theorem aggT90 : aggT Try.prog 90 = true := by kernel_rfl
@[simp] theorem kinds90 : kinds Try.prog 8 90 = [] := by kernel_rfl
@[simp] theorem buildOk90 : buildOk Try.prog 90 = true := by kernel_rfl
@[simp] theorem offOf90_0 : offOf Try.prog 90 0 = some 0 := by kernel_rfl
@[simp] theorem fszOf90_0 : fszOf Try.prog 90 0 = none := by kernel_rfl
@[simp] theorem elOf90 : elOf Try.prog 90 = none := by kernel_rfl
@[simp] theorem arrOf90 : arrOf Try.prog 90 = none := by kernel_rfl
@[simp] theorem isStr90 : isStr Try.prog 90 = false := by kernel_rfl
@[simp] theorem isBoolT90 : isBoolT Try.prog 90 = false := by kernel_rfl
@[simp] theorem isSliceT90 : isSliceT Try.prog 90 = false := by kernel_rfl
@[simp] theorem isPtrT90 : isPtrT Try.prog 90 = false := by kernel_rfl
@[simp] theorem isBytes90 : isBytes Try.prog 90 = false := by kernel_rfl
@[simp] theorem intOfT90 : intOfT Try.prog 90 = none := by kernel_rfl
@[simp] theorem zOk91 : zOk Try.prog 91 = true := by kernel_rfl
@[simp] theorem szOf91 : szOf Try.prog 91 = 1 := by kernel_rfl
@[simp] theorem bytesOf91 : bytesOf Try.prog 91 = 8 := by kernel_rfl
@[simp] theorem zeroOf91 : zeroOf Try.prog 91 = [.nilFunc] := by kernel_rfl
@[simp] theorem aggT91 : aggT Try.prog 91 = false := by kernel_rfl
@[simp] theorem kinds91 : kinds Try.prog 8 91 = [none] := by kernel_rfl
@[simp] theorem elOf91 : elOf Try.prog 91 = none := by kernel_rfl
@[simp] theorem arrOf91 : arrOf Try.prog 91 = none := by kernel_rfl
@[simp] theorem isStr91 : isStr Try.prog 91 = false := by kernel_rfl
@[simp] theorem isBoolT91 : isBoolT Try.prog 91 = false := by kernel_rfl
@[simp] theorem isSliceT91 : isSliceT Try.prog 91 = false := by kernel_rfl
@[simp] theorem isPtrT91 : isPtrT Try.prog 91 = false := by kernel_rfl
@[simp] theorem isBytes91 : isBytes Try.prog 91 = false := by kernel_rfl
@[simp] theorem intOfT91 : intOfT Try.prog 91 = none := by kernel_rfl
@[simp] theorem zOk92 : zOk Try.prog 92 = true := by kernel_rfl
@[simp] theorem szOf92 : szOf Try.prog 92 = 1 := by kernel_rfl
@[simp] theorem bytesOf92 : bytesOf Try.prog 92 = 1 := by kernel_rfl
@[simp] theorem zeroOf92 : zeroOf Try.prog 92 = [.int .u8 0] := by kernel_rfl
@[simp] theorem aggT92 : aggT Try.prog 92 = false := by kernel_rfl
@[simp] theorem kinds92 : kinds Try.prog 8 92 = [none] := by kernel_rfl
@[simp] theorem elOf92 : elOf Try.prog 92 = none := by kernel_rfl
@[simp] theorem arrOf92 : arrOf Try.prog 92 = none := by kernel_rfl
@[simp] theorem isStr92 : isStr Try.prog 92 = false := by kernel_rfl
@[simp] theorem isBoolT92 : isBoolT Try.prog 92 = false := by kernel_rfl
@[simp] theorem isSliceT92 : isSliceT Try.prog 92 = false := by kernel_rfl
@[simp] theorem isPtrT92 : isPtrT Try.prog 92 = false := by kernel_rfl
@[simp] theorem isBytes92 : isBytes Try.prog 92 = false := by kernel_rfl
@[simp] theorem intOfT92 : intOfT Try.prog 92 = some .u8 := by kernel_rfl
@[simp] theorem zOk93 : zOk Try.prog 93 = true := by kernel_rfl
@[simp] theorem szOf93 : szOf Try.prog 93 = 1 := by kernel_rfl
@[simp] theorem bytesOf93 : bytesOf Try.prog 93 = 1 := by kernel_rfl
@[simp] theorem zeroOf93 : zeroOf Try.prog 93 = [.int .u8 0] := by kernel_rfl
@[simp] theorem aggT93 : aggT Try.prog 93 = false := by kernel_rfl
@[simp] theorem kinds93 : kinds Try.prog 8 93 = [none] := by kernel_rfl
@[simp] theorem elOf93 : elOf Try.prog 93 = none := by kernel_rfl
@[simp] theorem arrOf93 : arrOf Try.prog 93 = none := by kernel_rfl
@[simp] theorem isStr93 : isStr Try.prog 93 = false := by kernel_rfl
@[simp] theorem isBoolT93 : isBoolT Try.prog 93 = false := by kernel_rfl
@[simp] theorem isSliceT93 : isSliceT Try.prog 93 = false := by kernel_rfl
@[simp] theorem isPtrT93 : isPtrT Try.prog 93 = false := by kernel_rfl
@[simp] theorem isBytes93 : isBytes Try.prog 93 = false := by kernel_rfl
@[simp] theorem intOfT93 : intOfT Try.prog 93 = some .u8 := by kernel_rfl
@[simp] theorem zOk94 : zOk Try.prog 94 = true := by kernel_rfl
@[simp] theorem szOf94 : szOf Try.prog 94 = 1 := by kernel_rfl
@[simp] theorem bytesOf94 : bytesOf Try.prog 94 = 8 := by kernel_rfl
@[simp] theorem zeroOf94 : zeroOf Try.prog 94 = [.nilFunc] := by kernel_rfl
@[simp] theorem aggT94 : aggT Try.prog 94 = false := by kernel_rfl
@[simp] theorem kinds94 : kinds Try.prog 8 94 = [none] := by kernel_rfl
@[simp] theorem elOf94 : elOf Try.prog 94 = none := by kernel_rfl
@[simp] theorem arrOf94 : arrOf Try.prog 94 = none := by kernel_rfl
@[simp] theorem isStr94 : isStr Try.prog 94 = false := by kernel_rfl
@[simp] theorem isBoolT94 : isBoolT Try.prog 94 = false := by kernel_rfl
@[simp] theorem isSliceT94 : isSliceT Try.prog 94 = false := by kernel_rfl
@[simp] theorem isPtrT94 : isPtrT Try.prog 94 = false := by kernel_rfl
@[simp] theorem isBytes94 : isBytes Try.prog 94 = false := by kernel_rfl
@[simp] theorem intOfT94 : intOfT Try.prog 94 = none := by kernel_rfl
@[simp] theorem zOk95 : zOk Try.prog 95 = true := by kernel_rfl
@[simp] theorem szOf95 : szOf Try.prog 95 = 1 := by kernel_rfl
@[simp] theorem bytesOf95 : bytesOf Try.prog 95 = 8 := by kernel_rfl
@[simp] theorem zeroOf95 : zeroOf Try.prog 95 = [.pointer none] := by kernel_rfl
@[simp] theorem aggT95 : aggT Try.prog 95 = false := by kernel_rfl
@[simp] theorem kinds95 : kinds Try.prog 8 95 = [none] := by kernel_rfl
@[simp] theorem elOf95 : elOf Try.prog 95 = none := by kernel_rfl
@[simp] theorem arrOf95 : arrOf Try.prog 95 = none := by kernel_rfl
@[simp] theorem isStr95 : isStr Try.prog 95 = false := by kernel_rfl
@[simp] theorem isBoolT95 : isBoolT Try.prog 95 = false := by kernel_rfl
@[simp] theorem isSliceT95 : isSliceT Try.prog 95 = false := by kernel_rfl
@[simp] theorem isPtrT95 : isPtrT Try.prog 95 = true := by kernel_rfl
@[simp] theorem isBytes95 : isBytes Try.prog 95 = false := by kernel_rfl
@[simp] theorem intOfT95 : intOfT Try.prog 95 = none := by kernel_rfl
@[simp] theorem zOk96 : zOk Try.prog 96 = true := by kernel_rfl
@[simp] theorem szOf96 : szOf Try.prog 96 = 1 := by kernel_rfl
@[simp] theorem bytesOf96 : bytesOf Try.prog 96 = 4 := by kernel_rfl
@[simp] theorem zeroOf96 : zeroOf Try.prog 96 = [.int .i32 0] := by kernel_rfl
@[simp] theorem aggT96 : aggT Try.prog 96 = false := by kernel_rfl
@[simp] theorem kinds96 : kinds Try.prog 8 96 = [none] := by kernel_rfl
@[simp] theorem elOf96 : elOf Try.prog 96 = none := by kernel_rfl
@[simp] theorem arrOf96 : arrOf Try.prog 96 = none := by kernel_rfl
@[simp] theorem isStr96 : isStr Try.prog 96 = false := by kernel_rfl
@[simp] theorem isBoolT96 : isBoolT Try.prog 96 = false := by kernel_rfl
@[simp] theorem isSliceT96 : isSliceT Try.prog 96 = false := by kernel_rfl
@[simp] theorem isPtrT96 : isPtrT Try.prog 96 = false := by kernel_rfl
@[simp] theorem isBytes96 : isBytes Try.prog 96 = false := by kernel_rfl
@[simp] theorem intOfT96 : intOfT Try.prog 96 = some .i32 := by kernel_rfl
@[simp] theorem zOk97 : zOk Try.prog 97 = true := by kernel_rfl
@[simp] theorem szOf97 : szOf Try.prog 97 = 1 := by kernel_rfl
@[simp] theorem bytesOf97 : bytesOf Try.prog 97 = 4 := by kernel_rfl
@[simp] theorem zeroOf97 : zeroOf Try.prog 97 = [.int .i32 0] := by kernel_rfl
@[simp] theorem aggT97 : aggT Try.prog 97 = false := by kernel_rfl
@[simp] theorem kinds97 : kinds Try.prog 8 97 = [none] := by kernel_rfl
@[simp] theorem elOf97 : elOf Try.prog 97 = none := by kernel_rfl
@[simp] theorem arrOf97 : arrOf Try.prog 97 = none := by kernel_rfl
@[simp] theorem isStr97 : isStr Try.prog 97 = false := by kernel_rfl
@[simp] theorem isBoolT97 : isBoolT Try.prog 97 = false := by kernel_rfl
@[simp] theorem isSliceT97 : isSliceT Try.prog 97 = false := by kernel_rfl
@[simp] theorem isPtrT97 : isPtrT Try.prog 97 = false := by kernel_rfl
@[simp] theorem isBytes97 : isBytes Try.prog 97 = false := by kernel_rfl
@[simp] theorem intOfT97 : intOfT Try.prog 97 = some .i32 := by kernel_rfl
@[simp] theorem zOk98 : zOk Try.prog 98 = true := by kernel_rfl
@[simp] theorem szOf98 : szOf Try.prog 98 = 11 := by kernel_rfl
@[simp] theorem bytesOf98 : bytesOf Try.prog 98 = 48 := by kernel_rfl
@[simp] theorem zeroOf98 : zeroOf Try.prog 98 = [.int .u64 0, .int .u64 0, .int .u32 0, .int .u8 0, .int .u8 0, .int .u8 0, .int .u8 0, .nilFunc, .pointer none, .int .i32 0, .int .i32 0] := by kernel_rfl
@[simp] theorem aggT98 : aggT Try.prog 98 = true := by kernel_rfl
@[simp] theorem kinds98 : kinds Try.prog 8 98 = [none, none, none, none, none, none, none, none, none, none, none] := by kernel_rfl
@[simp] theorem buildOk98 : buildOk Try.prog 98 = true := by kernel_rfl
@[simp] theorem offOf98_0 : offOf Try.prog 98 0 = some 0 := by kernel_rfl
@[simp] theorem fszOf98_0 : fszOf Try.prog 98 0 = some (1, false) := by kernel_rfl
@[simp] theorem offOf98_1 : offOf Try.prog 98 1 = some 1 := by kernel_rfl
@[simp] theorem fszOf98_1 : fszOf Try.prog 98 1 = some (1, false) := by kernel_rfl
@[simp] theorem offOf98_2 : offOf Try.prog 98 2 = some 2 := by kernel_rfl
@[simp] theorem fszOf98_2 : fszOf Try.prog 98 2 = some (1, false) := by kernel_rfl
@[simp] theorem offOf98_3 : offOf Try.prog 98 3 = some 3 := by kernel_rfl
@[simp] theorem fszOf98_3 : fszOf Try.prog 98 3 = some (1, false) := by kernel_rfl
@[simp] theorem offOf98_4 : offOf Try.prog 98 4 = some 4 := by kernel_rfl
@[simp] theorem fszOf98_4 : fszOf Try.prog 98 4 = some (1, false) := by kernel_rfl
@[simp] theorem offOf98_5 : offOf Try.prog 98 5 = some 5 := by kernel_rfl
@[simp] theorem fszOf98_5 : fszOf Try.prog 98 5 = some (1, false) := by kernel_rfl
@[simp] theorem offOf98_6 : offOf Try.prog 98 6 = some 6 := by kernel_rfl
@[simp] theorem fszOf98_6 : fszOf Try.prog 98 6 = some (1, false) := by kernel_rfl
@[simp] theorem offOf98_7 : offOf Try.prog 98 7 = some 7 := by kernel_rfl
@[simp] theorem fszOf98_7 : fszOf Try.prog 98 7 = some (1, false) := by kernel_rfl
@[simp] theorem offOf98_8 : offOf Try.prog 98 8 = some 8 := by kernel_rfl
@[simp] theorem fszOf98_8 : fszOf Try.prog 98 8 = some (1, false) := by kernel_rfl
@[simp] theorem offOf98_9 : offOf Try.prog 98 9 = some 9 := by kernel_rfl
@[simp] theorem fszOf98_9 : fszOf Try.prog 98 9 = some (1, false) := by kernel_rfl
@[simp] theorem offOf98_10 : offOf Try.prog 98 10 = some 10 := by kernel_rfl
@[simp] theorem fszOf98_10 : fszOf Try.prog 98 10 = some (1, false) := by kernel_rfl
@[simp] theorem elOf98 : elOf Try.prog 98 = none := by kernel_rfl
@[simp] theorem arrOf98 : arrOf Try.prog 98 = none := by kernel_rfl
@[simp] theorem isStr98 : isStr Try.prog 98 = false := by kernel_rfl
@[simp] theorem isBoolT98 : isBoolT Try.prog 98 = false := by kernel_rfl
@[simp] theorem isSliceT98 : isSliceT Try.prog 98 = false := by kernel_rfl
@[simp] theorem isPtrT98 : isPtrT Try.prog 98 = false := by kernel_rfl
@[simp] theorem isBytes98 : isBytes Try.prog 98 = false := by kernel_rfl
@[simp] theorem intOfT98 : intOfT Try.prog 98 = none := by kernel_rfl
@[simp] theorem zOk99 : zOk Try.prog 99 = true := by kernel_rfl
@[simp] theorem szOf99 : szOf Try.prog 99 = 11 := by kernel_rfl
@[simp] theorem bytesOf99 : bytesOf Try.prog 99 = 48 := by kernel_rfl
@[simp] theorem zeroOf99 : zeroOf Try.prog 99 = [.int .u64 0, .int .u64 0, .int .u32 0, .int .u8 0, .int .u8 0, .int .u8 0, .int .u8 0, .nilFunc, .pointer none, .int .i32 0, .int .i32 0] := by kernel_rfl
@[simp] theorem aggT99 : aggT Try.prog 99 = true := by kernel_rfl
@[simp] theorem kinds99 : kinds Try.prog 8 99 = [none, none, none, none, none, none, none, none, none, none, none] := by kernel_rfl
@[simp] theorem buildOk99 : buildOk Try.prog 99 = true := by kernel_rfl
@[simp] theorem offOf99_0 : offOf Try.prog 99 0 = some 0 := by kernel_rfl
@[simp] theorem fszOf99_0 : fszOf Try.prog 99 0 = some (1, false) := by kernel_rfl
@[simp] theorem offOf99_1 : offOf Try.prog 99 1 = some 1 := by kernel_rfl
@[simp] theorem fszOf99_1 : fszOf Try.prog 99 1 = some (1, false) := by kernel_rfl
@[simp] theorem offOf99_2 : offOf Try.prog 99 2 = some 2 := by kernel_rfl
@[simp] theorem fszOf99_2 : fszOf Try.prog 99 2 = some (1, false) := by kernel_rfl
@[simp] theorem offOf99_3 : offOf Try.prog 99 3 = some 3 := by kernel_rfl
@[simp] theorem fszOf99_3 : fszOf Try.prog 99 3 = some (1, false) := by kernel_rfl
@[simp] theorem offOf99_4 : offOf Try.prog 99 4 = some 4 := by kernel_rfl
@[simp] theorem fszOf99_4 : fszOf Try.prog 99 4 = some (1, false) := by kernel_rfl
@[simp] theorem offOf99_5 : offOf Try.prog 99 5 = some 5 := by kernel_rfl
@[simp] theorem fszOf99_5 : fszOf Try.prog 99 5 = some (1, false) := by kernel_rfl
@[simp] theorem offOf99_6 : offOf Try.prog 99 6 = some 6 := by kernel_rfl
@[simp] theorem fszOf99_6 : fszOf Try.prog 99 6 = some (1, false) := by kernel_rfl
@[simp] theorem offOf99_7 : offOf Try.prog 99 7 = some 7 := by kernel_rfl
@[simp] theorem fszOf99_7 : fszOf Try.prog 99 7 = some (1, false) := by kernel_rfl
@[simp] theorem offOf99_8 : offOf Try.prog 99 8 = some 8 := by kernel_rfl
@[simp] theorem fszOf99_8 : fszOf Try.prog 99 8 = some (1, false) := by kernel_rfl
@[simp] theorem offOf99_9 : offOf Try.prog 99 9 = some 9 := by kernel_rfl
@[simp] theorem fszOf99_9 : fszOf Try.prog 99 9 = some (1, false) := by kernel_rfl
@[simp] theorem offOf99_10 : offOf Try.prog 99 10 = some 10 := by kernel_rfl
@[simp] theorem fszOf99_10 : fszOf Try.prog 99 10 = some (1, false) := by kernel_rfl
@[simp] theorem elOf99 : elOf Try.prog 99 = none := by kernel_rfl
@[simp] theorem arrOf99 : arrOf Try.prog 99 = none := by kernel_rfl
@[simp] theorem isStr99 : isStr Try.prog 99 = false := by kernel_rfl
@[simp] theorem isBoolT99 : isBoolT Try.prog 99 = false := by kernel_rfl
@[simp] theorem isSliceT99 : isSliceT Try.prog 99 = false := by kernel_rfl
@[simp] theorem isPtrT99 : isPtrT Try.prog 99 = false := by kernel_rfl
@[simp] theorem isBytes99 : isBytes Try.prog 99 = false := by kernel_rfl
@[simp] theorem intOfT99 : intOfT Try.prog 99 = none := by kernel_rfl
@[simp] theorem zOk100 : zOk Try.prog 100 = true := by kernel_rfl
@[simp] theorem szOf100 : szOf Try.prog 100 = 1 := by kernel_rfl
@[simp] theorem bytesOf100 : bytesOf Try.prog 100 = 8 := by kernel_rfl
@[simp] theorem zeroOf100 : zeroOf Try.prog 100 = [.pointer none] := by kernel_rfl
@[simp] theorem aggT100 : aggT Try.prog 100 = false := by kernel_rfl
@[simp] theorem kinds100 : kinds Try.prog 8 100 = [none] := by kernel_rfl
@[simp] theorem elOf100 : elOf Try.prog 100 = none := by kernel_rfl
@[simp] theorem arrOf100 : arrOf Try.prog 100 = none := by kernel_rfl
@[simp] theorem isStr100 : isStr Try.prog 100 = false := by kernel_rfl
@[simp] theorem isBoolT100 : isBoolT Try.prog 100 = false := by kernel_rfl
@[simp] theorem isSliceT100 : isSliceT Try.prog 100 = false := by kernel_rfl
@[simp] theorem isPtrT100 : isPtrT Try.prog 100 = false := by kernel_rfl
@[simp] theorem isBytes100 : isBytes Try.prog 100 = false := by kernel_rfl
@[simp] theorem intOfT100 : intOfT Try.prog 100 = none := by kernel_rfl
@[simp] theorem callOk2 : callOk Try.prog 2 = true := by kernel_rfl
@[simp] theorem hint2 : lore.hint 2 = h2 := rfl
@[simp] theorem h2_var : h2.var = [] := rfl
@[simp] theorem h2_own : h2.own = [] := rfl
@[simp] theorem h2_keep : h2.keep = [] := rfl
@[simp] theorem h2_out : h2.out = [] := rfl
@[simp] theorem h2_row : h2.row = [] := rfl
@[simp] theorem h2_par : h2.par = [] := rfl
@[simp] theorem h2_res : h2.res = [] := rfl
@[simp] theorem h2_shr : h2.shr = [] := rfl
@[simp] theorem callOk3 : callOk Try.prog 3 = true := by kernel_rfl
@[simp] theorem hint3 : lore.hint 3 = h3 := rfl
@[simp] theorem h3_var : h3.var = [0, 1, 4] := rfl
@[simp] theorem h3_own : h3.own = [4] := rfl
@[simp] theorem h3_keep : h3.keep = [] := rfl
@[simp] theorem h3_out : h3.out = [] := rfl
@[simp] theorem h3_row : h3.row = [] := rfl
@[simp] theorem h3_par : h3.par = [] := rfl
@[simp] theorem h3_res : h3.res = [] := rfl
@[simp] theorem h3_shr : h3.shr = [4] := rfl
@[simp] theorem callOk4 : callOk Try.prog 4 = true := by kernel_rfl
@[simp] theorem hint4 : lore.hint 4 = h4 := rfl
@[simp] theorem h4_var : h4.var = [0, 1, 2, 6, 7, 8, 9] := rfl
@[simp] theorem h4_own : h4.own = [6, 8] := rfl
@[simp] theorem h4_keep : h4.keep = [(8, [0, 1, 2, 7, 8, 9])] := rfl
@[simp] theorem h4_out : h4.out = [(8, [0, 1, 2, 7, 8])] := rfl
@[simp] theorem h4_row : h4.row = [(8, [(some (1, (5, true)))])] := rfl
@[simp] theorem h4_par : h4.par = [] := rfl
@[simp] theorem h4_res : h4.res = [] := rfl
@[simp] theorem h4_shr : h4.shr = [6] := rfl
@[simp] theorem callOk5 : callOk Try.prog 5 = true := by kernel_rfl
@[simp] theorem hint5 : lore.hint 5 = h5 := rfl
@[simp] theorem h5_var : h5.var = [0, 1, 2, 6, 7] := rfl
@[simp] theorem h5_own : h5.own = [6] := rfl
@[simp] theorem h5_keep : h5.keep = [] := rfl
@[simp] theorem h5_out : h5.out = [] := rfl
@[simp] theorem h5_row : h5.row = [] := rfl
@[simp] theorem h5_par : h5.par = [] := rfl
@[simp] theorem h5_res : h5.res = [] := rfl
@[simp] theorem h5_shr : h5.shr = [6] := rfl
@[simp] theorem callOk6 : callOk Try.prog 6 = true := by kernel_rfl
@[simp] theorem hint6 : lore.hint 6 = h6 := rfl
@[simp] theorem h6_var : h6.var = [0, 1, 2, 6, 7, 8] := rfl
@[simp] theorem h6_own : h6.own = [6] := rfl
@[simp] theorem h6_keep : h6.keep = [(5, [0, 1, 2, 7, 8])] := rfl
@[simp] theorem h6_out : h6.out = [(5, [0, 1, 2, 7])] := rfl
@[simp] theorem h6_row : h6.row = [] := rfl
@[simp] theorem h6_par : h6.par = [] := rfl
@[simp] theorem h6_res : h6.res = [] := rfl
@[simp] theorem h6_shr : h6.shr = [6] := rfl
@[simp] theorem callOk7 : callOk Try.prog 7 = true := by kernel_rfl
@[simp] theorem hint7 : lore.hint 7 = h7 := rfl
@[simp] theorem h7_var : h7.var = [0, 1, 2, 4, 5, 6, 7, 8, 9, 10, 11, 12, 13, 14] := rfl
@[simp] theorem h7_own : h7.own = [4] := rfl
@[simp] theorem h7_keep : h7.keep = [] := rfl
@[simp] theorem h7_out : h7.out = [] := rfl
@[simp] theorem h7_row : h7.row = [(2, [none, (some (1, (35, false)))]), (5, [none, (some (1, (35, false)))]), (7, [none, (some (1, (35, false)))]), (9, [(some (10, (71, false)))]), (10, [none, (some (1, (35, false)))]), (12, [(some (10, (71, false)))]), (13, [none, (some (1, (35, false)))])] := rfl
@[simp] theorem h7_par : h7.par = [[none, (some (1, (35, false)))], [(some (10, (71, false)))]] := rfl
@[simp] theorem h7_res : h7.res = [] := rfl
@[simp] theorem h7_shr : h7.shr = [4] := rfl
@[simp] theorem callOk8 : callOk Try.prog 8 = true := by kernel_rfl
@[simp] theorem hint8 : lore.hint 8 = h8 := rfl
@[simp] theorem h8_var : h8.var = [0, 1, 4, 5, 6, 7, 8, 9] := rfl
@[simp] theorem h8_own : h8.own = [4] := rfl
@[simp] theorem h8_keep : h8.keep = [(5, [0, 1, 5, 6])] := rfl
@[simp] theorem h8_out : h8.out = [(5, [0, 1, 4, 5])] := rfl
@[simp] theorem h8_row : h8.row = [(5, [none, (some (1, (35, false)))]), (7, [none, (some (1, (35, false)))])] := rfl
@[simp] theorem h8_par : h8.par = [[], [(some (1, (35, false)))]] := rfl
@[simp] theorem h8_res : h8.res = [] := rfl
@[simp] theorem h8_shr : h8.shr = [4] := rfl
@[simp] theorem callOk9 : callOk Try.prog 9 = true := by kernel_rfl
@[simp] theorem hint9 : lore.hint 9 = h9 := rfl
@[simp] theorem h9_var : h9.var = [0, 1, 2, 4, 5, 6, 7, 8, 9, 10, 11, 13, 14, 17] := rfl
@[simp] theorem h9_own : h9.own = [4] := rfl
@[simp] theorem h9_keep : h9.keep = [(13, [8, 11])] := rfl
@[simp] theorem h9_out : h9.out = [(13, [4, 8])] := rfl
@[simp] theorem h9_row : h9.row = [(2, [none, (some (1, (35, false)))]), (5, [none, (some (1, (35, false)))]), (7, [(some (10, (71, false)))]), (8, [none, (some (1, (35, false)))]), (13, [none, (some (1, (35, false)))]), (16, [none, (some (1, (35, false)))])] := rfl
@[simp] theorem h9_par : h9.par = [[none, (some (1, (35, false)))], [(some (10, (71, false)))]] := rfl
@[simp] theorem h9_res : h9.res = [] := rfl
@[simp] theorem h9_shr : h9.shr = [4] := rfl
@[simp] theorem callOk10 : callOk Try.prog 10 = true := by kernel_rfl
@[simp] theorem hint10 : lore.hint 10 = h10 := rfl
@[simp] theorem h10_var : h10.var = [0, 1, 2, 6, 7, 8, 9, 10, 11, 12, 13, 14] := rfl
@[simp] theorem h10_own : h10.own = [6] := rfl
@[simp] theorem h10_keep : h10.keep = [(5, [2, 7, 8, 9])] := rfl
@[simp] theorem h10_out : h10.out = [(5, [6, 7, 8])] := rfl
@[simp] theorem h10_row : h10.row = [(7, [none, (some (1, (35, false)))]), (8, [none, (some (1, (35, false)))]), (10, [none, (some (1, (35, false)))]), (12, [none, (some (1, (35, false)))])] := rfl
@[simp] theorem h10_par : h10.par = [[], [], [(some (1, (35, false)))]] := rfl
@[simp] theorem h10_res : h10.res = [] := rfl
@[simp] theorem h10_shr : h10.shr = [6] := rfl
@[simp] theorem callOk11 : callOk Try.prog 11 = true := by kernel_rfl
@[simp] theorem hint11 : lore.hint 11 = h11 := rfl
@[simp] theorem h11_var : h11.var = [0, 1, 2, 4, 5, 6, 7, 8, 9, 10, 11, 12, 13, 14] := rfl
@[simp] theorem h11_own : h11.own = [4] := rfl
@[simp] theorem h11_keep : h11.keep = [] := rfl
@[simp] theorem h11_out : h11.out = [] := rfl
@[simp] theorem h11_row : h11.row = [(2, [(some (1, (3, false))), (some (1, (3, false)))]), (6, [(some (1, (3, false))), (some (1, (3, false)))]), (9, [(some (1, (3, false))), (some (1, (3, false)))]), (11, [(some (1, (3, false))), (some (1, (3, false)))]), (13, [(some (1, (3, false))), (some (1, (3, false)))])] := rfl
@[simp] theorem h11_par : h11.par = [[(some (1, (3, false))), (some (1, (3, false)))]] := rfl
@[simp] theorem h11_res : h11.res = [] := rfl
@[simp] theorem h11_shr : h11.shr = [4] := rfl
@[simp] theorem callOk12 : callOk Try.prog 12 = true := by kernel_rfl
@[simp] theorem hint12 : lore.hint 12 = h12 := rfl
@[simp] theorem h12_var : h12.var = [0, 1, 2, 4, 5, 6, 7, 8, 9, 10, 11, 12, 13, 14, 15] := rfl
@[simp] theorem h12_own : h12.own = [4] := rfl
@[simp] theorem h12_keep : h12.keep = [(16, [1, 2, 5, 6, 12]), (6, [1, 2, 5, 6, 7])] := rfl
@[simp] theorem h12_out : h12.out = [(16, [1, 2, 4, 6]), (6, [1, 2, 4, 5, 6])] := rfl
@[simp] theorem h12_row : h12.row = [(2, [(some (1, (3, false))), (some (1, (3, false)))]), (5, [(some (1, (3, false)))]), (6, [(some (1, (3, false))), (some (1, (3, false)))]), (9, [(some (1, (3, false))), (some (1, (3, false)))]), (14, [(some (1, (3, false))), (some (1, (3, false)))])] := rfl
@[simp] theorem h12_par : h12.par = [[(some (1, (3, false))), (some (1, (3, false)))]] := rfl
@[simp] theorem h12_res : h12.res = [] := rfl
@[simp] theorem h12_shr : h12.shr = [4] := rfl
@[simp] theorem callOk13 : callOk Try.prog 13 = true := by kernel_rfl
@[simp] theorem hint13 : lore.hint 13 = h13 := rfl
@[simp] theorem h13_var : h13.var = [0, 1, 2, 4, 5, 6, 7, 8, 9] := rfl
@[simp] theorem h13_own : h13.own = [4] := rfl
@[simp] theorem h13_keep : h13.keep = [] := rfl
@[simp] theorem h13_out : h13.out = [] := rfl
@[simp] theorem h13_row : h13.row = [(2, [(some (1, (3, false))), (some (1, (3, false)))]), (5, [(some (1, (3, false))), (some (1, (3, false)))]), (8, [(some (1, (3, false))), (some (1, (3, false)))])] := rfl
@[simp] theorem h13_par : h13.par = [[(some (1, (3, false))), (some (1, (3, false)))]] := rfl
@[simp] theorem h13_res : h13.res = [] := rfl
@[simp] theorem h13_shr : h13.shr = [4] := rfl
@[simp] theorem callOk14 : callOk Try.prog 14 = true := by kernel_rfl
@[simp] theorem hint14 : lore.hint 14 = h14 := rfl
@[simp] theorem h14_var : h14.var = [0, 1, 2, 4, 5, 6, 7, 9, 10, 11, 12] := rfl
@[simp] theorem h14_own : h14.own = [4] := rfl
@[simp] theorem h14_keep : h14.keep = [(17, [11, 12]), (7, [1, 5, 6, 7])] := rfl
@[simp] theorem h14_out : h14.out = [(17, [4]), (7, [1, 4, 5, 6])] := rfl
@[simp] theorem h14_row : h14.row = [(2, [(some (1, (3, false))), (some (1, (3, false)))]), (5, [(some (1, (3, false)))]), (6, [(some (1, (3, false))), (some (1, (3, false)))]), (9, [(some (1, (3, false))), (some (1, (3, false)))]), (11, [(some (1, (3, false)))])] := rfl
@[simp] theorem h14_par : h14.par = [[(some (1, (3, false))), (some (1, (3, false)))]] := rfl
@[simp] theorem h14_res : h14.res = [] := rfl
@[simp] theorem h14_shr : h14.shr = [4] := rfl
@[simp] theorem callOk15 : callOk Try.prog 15 = true := by kernel_rfl
@[simp] theorem hint15 : lore.hint 15 = h15 := rfl
@[simp] theorem h15_var : h15.var = [0] := rfl
@[simp] theorem h15_own : h15.own = [0] := rfl
@[simp] theorem h15_keep : h15.keep = [] := rfl
@[simp] theorem h15_out : h15.out = [] := rfl
@[simp] theorem h15_row : h15.row = [] := rfl
@[simp] theorem h15_par : h15.par = [] := rfl
@[simp] theorem h15_res : h15.res = [] := rfl
@[simp] theorem h15_shr : h15.shr = [0] := rfl
@[simp] theorem callOk16 : callOk Try.prog 16 = true := by kernel_rfl
@[simp] theorem hint16 : lore.hint 16 = h16 := rfl
@[simp] theorem h16_var : h16.var = [0, 2] := rfl
@[simp] theorem h16_own : h16.own = [2] := rfl
@[simp] theorem h16_keep : h16.keep = [] := rfl
@[simp] theorem h16_out : h16.out = [] := rfl
@[simp] theorem h16_row : h16.row = [] := rfl
@[simp] theorem h16_par : h16.par = [] := rfl
@[simp] theorem h16_res : h16.res = [] := rfl
@[simp] theorem h16_shr : h16.shr = [2] := rfl
@[simp] theorem callOk17 : callOk Try.prog 17 = true := by kernel_rfl
@[simp] theorem hint17 : lore.hint 17 = h17 := rfl
@[simp] theorem h17_var : h17.var = [0, 2] := rfl
@[simp] theorem h17_own : h17.own = [2] := rfl
@[simp] theorem h17_keep : h17.keep = [] := rfl
@[simp] theorem h17_out : h17.out = [] := rfl
@[simp] theorem h17_row : h17.row = [] := rfl
@[simp] theorem h17_par : h17.par = [] := rfl
@[simp] theorem h17_res : h17.res = [] := rfl
@[simp] theorem h17_shr : h17.shr = [2] := rfl
@[simp] theorem callOk18 : callOk Try.prog 18 = true := by kernel_rfl
@[simp] theorem hint18 : lore.hint 18 = h18 := rfl
@[simp] theorem h18_var : h18.var = [0, 1, 4, 5, 6, 7, 16, 17] := rfl
@[simp] theorem h18_own : h18.own = [4] := rfl
@[simp] theorem h18_keep : h18.keep = [(6, [1, 5, 6, 16, 17])] := rfl
@[simp] theorem h18_out : h18.out = [(6, [6])] := rfl
@[simp] theorem h18_row : h18.row = [] := rfl
@[simp] theorem h18_par : h18.par = [] := rfl
@[simp] theorem h18_res : h18.res = [] := rfl
@[simp] theorem h18_shr : h18.shr = [4] := rfl
@[simp] theorem callOk19 : callOk Try.prog 19 = true := by kernel_rfl
@[simp] theorem hint19 : lore.hint 19 = h19 := rfl
@[simp] theorem h19_var : h19.var = [0, 1, 4, 5, 6, 7] := rfl
@[simp] theorem h19_own : h19.own = [4] := rfl
@[simp] theorem h19_keep : h19.keep = [(9, [0, 1, 5, 6, 7]), (5, [0, 1, 5])] := rfl
@[simp] theorem h19_out : h19.out = [(9, [0, 1, 5]), (5, [0])] := rfl
@[simp] theorem h19_row : h19.row = [] := rfl
@[simp] theorem h19_par : h19.par = [] := rfl
@[simp] theorem h19_res : h19.res = [] := rfl
@[simp] theorem h19_shr : h19.shr = [4] := rfl
@[simp] theorem callOk20 : callOk Try.prog 20 = true := by kernel_rfl
@[simp] theorem hint20 : lore.hint 20 = h20 := rfl
@[simp] theorem h20_var : h20.var = [0, 2] := rfl
@[simp] theorem h20_own : h20.own = [2] := rfl
@[simp] theorem h20_keep : h20.keep = [] := rfl
@[simp] theorem h20_out : h20.out = [] := rfl
@[simp] theorem h20_row : h20.row = [] := rfl
@[simp] theorem h20_par : h20.par = [] := rfl
@[simp] theorem h20_res : h20.res = [] := rfl
@[simp] theorem h20_shr : h20.shr = [2] := rfl
@[simp] theorem callOk21 : callOk Try.prog 21 = true := by kernel_rfl
@[simp] theorem hint21 : lore.hint 21 = h21 := rfl
@[simp] theorem h21_var : h21.var = [0, 2] := rfl
@[simp] theorem h21_own : h21.own = [2] := rfl
@[simp] theorem h21_keep : h21.keep = [] := rfl
@[simp] theorem h21_out : h21.out = [] := rfl
@[simp] theorem h21_row : h21.row = [] := rfl
@[simp] theorem h21_par : h21.par = [] := rfl
@[simp] theorem h21_res : h21.res = [] := rfl
@[simp] theorem h21_shr : h21.shr = [2] := rfl
@[simp] theorem callOk22 : callOk Try.prog 22 = true := by kernel_rfl
@[simp] theorem hint22 : lore.hint 22 = h22 := rfl
@[simp] theorem h22_var : h22.var = [0, 2] := rfl
@[simp] theorem h22_own : h22.own = [2] := rfl
@[simp] theorem h22_keep : h22.keep = [] := rfl
@[simp] theorem h22_out : h22.out = [] := rfl
@[simp] theorem h22_row : h22.row = [] := rfl
@[simp] theorem h22_par : h22.par = [] := rfl
@[simp] theorem h22_res : h22.res = [] := rfl
@[simp] theorem h22_shr : h22.shr = [2] := rfl
@[simp] theorem callOk23 : callOk Try.prog 23 = true := by kernel_rfl
@[simp] theorem hint23 : lore.hint 23 = h23 := rfl
@[simp] theorem h23_var : h23.var = [0, 1, 2, 3, 4] := rfl
@[simp] theorem h23_own : h23.own = [2] := rfl
@[simp] theorem h23_keep : h23.keep = [(3, [1, 3, 4])] := rfl
@[simp] theorem h23_out : h23.out = [(3, [2, 3])] := rfl
@[simp] theorem h23_row : h23.row = [(1, [none, (some (1, (35, false)))])] := rfl
@[simp] theorem h23_par : h23.par = [[none, (some (1, (35, false)))]] := rfl
@[simp] theorem h23_res : h23.res = [] := rfl
@[simp] theorem h23_shr : h23.shr = [2] := rfl
@[simp] theorem callOk24 : callOk Try.prog 24 = true := by kernel_rfl
@[simp] theorem hint24 : lore.hint 24 = h24 := rfl
@[simp] theorem h24_var : h24.var = [0, 2, 3, 4] := rfl
@[simp] theorem h24_own : h24.own = [2] := rfl
@[simp] theorem h24_keep : h24.keep = [(3, [0, 3, 4])] := rfl
@[simp] theorem h24_out : h24.out = [(3, [3])] := rfl
@[simp] theorem h24_row : h24.row = [] := rfl
@[simp] theorem h24_par : h24.par = [[(some (10, (71, false)))]] := rfl
@[simp] theorem h24_res : h24.res = [] := rfl
@[simp] theorem h24_shr : h24.shr = [2] := rfl
@[simp] theorem callOk25 : callOk Try.prog 25 = true := by kernel_rfl
@[simp] theorem hint25 : lore.hint 25 = h25 := rfl
@[simp] theorem h25_var : h25.var = [0, 1, 2, 3, 4, 5, 8, 9, 10, 12] := rfl
@[simp] theorem h25_own : h25.own = [0] := rfl
@[simp] theorem h25_keep : h25.keep = [(3, [1, 2])] := rfl
@[simp] theorem h25_out : h25.out = [(3, [1])] := rfl
@[simp] theorem h25_row : h25.row = [(1, [none, (some (1, (35, false)))]), (3, [(some (10, (71, false)))]), (4, [none, (some (1, (35, false)))]), (7, [none, (some (1, (35, false)))]), (9, [none, (some (1, (35, false)))]), (11, [none, (some (1, (35, false)))])] := rfl
@[simp] theorem h25_par : h25.par = [] := rfl
@[simp] theorem h25_res : h25.res = [] := rfl
@[simp] theorem h25_shr : h25.shr = [0] := rfl
@[simp] theorem callOk26 : callOk Try.prog 26 = true := by kernel_rfl
@[simp] theorem hint26 : lore.hint 26 = h26 := rfl
@[simp] theorem h26_var : h26.var = [0, 1, 2, 4, 5, 6, 7] := rfl
@[simp] theorem h26_own : h26.own = [4, 5] := rfl
@[simp] theorem h26_keep : h26.keep = [(7, [1, 2, 4, 6, 7])] := rfl
@[simp] theorem h26_out : h26.out = [(7, [1, 2, 4, 7])] := rfl
@[simp] theorem h26_row : h26.row = [(2, [none, (some (1, (35, false)))]), (4, [none, (some (1, (35, true)))])] := rfl
@[simp] theorem h26_par : h26.par = [[none, (some (1, (35, false)))], [(some (10, (71, false)))]] := rfl
@[simp] theorem h26_res : h26.res = [[none, (some (1, (35, false)))]] := rfl
@[simp] theorem h26_shr : h26.shr = [4, 5] := rfl
@[simp] theorem callOk27 : callOk Try.prog 27 = true := by kernel_rfl
@[simp] theorem hint27 : lore.hint 27 = h27 := rfl
@[simp] theorem h27_var : h27.var = [0, 1, 2, 4, 5, 6] := rfl
@[simp] theorem h27_own : h27.own = [4, 5] := rfl
@[simp] theorem h27_keep : h27.keep = [(4, [2, 4, 6])] := rfl
@[simp] theorem h27_out : h27.out = [(4, [4, 6])] := rfl
@[simp] theorem h27_row : h27.row = [(2, [none, (some (1, (35, false)))]), (4, [none, (some (1, (35, true)))]), (6, [none, (some (1, (35, false)))])] := rfl
@[simp] theorem h27_par : h27.par = [[none, (some (1, (35, false)))], [(some (10, (71, false)))]] := rfl
@[simp] theorem h27_res : h27.res = [[none, (some (1, (35, false)))]] := rfl
@[simp] theorem h27_shr : h27.shr = [4, 5] := rfl
@[simp] theorem callOk28 : callOk Try.prog 28 = true := by kernel_rfl
@[simp] theorem hint28 : lore.hint 28 = h28 := rfl
@[simp] theorem h28_var : h28.var = [0, 1, 2, 3, 4, 5] := rfl
@[simp] theorem h28_own : h28.own = [2, 3, 4] := rfl
@[simp] theorem h28_keep : h28.keep = [] := rfl
@[simp] theorem h28_out : h28.out = [] := rfl
@[simp] theorem h28_row : h28.row = [(1, [none, (some (1, (35, false)))]), (2, [(some (10, (71, false)))]), (3, [none, (some (1, (35, true)))])] := rfl
@[simp] theorem h28_par : h28.par = [[none, (some (1, (35, false)))]] := rfl
@[simp] theorem h28_res : h28.res = [[(some (10, (71, false)))], [none, (some (1, (35, false)))]] := rfl
@[simp] theorem h28_shr : h28.shr = [2, 3, 4] := rfl
@[simp] theorem callOk29 : callOk Try.prog 29 = true := by kernel_rfl
@[simp] theorem hint29 : lore.hint 29 = h29 := rfl
@[simp] theorem h29_var : h29.var = [0, 1, 2, 3, 4, 5] := rfl
@[simp] theorem h29_own : h29.own = [2, 3, 4] := rfl
@[simp] theorem h29_keep : h29.keep = [] := rfl
@[simp] theorem h29_out : h29.out = [] := rfl
@[simp] theorem h29_row : h29.row = [(1, [none, (some (1, (35, false)))]), (2, [(some (10, (71, false)))]), (3, [none, (some (1, (35, true)))])] := rfl
@[simp] theorem h29_par : h29.par = [[none, (some (1, (35, false)))]] := rfl
@[simp] theorem h29_res : h29.res = [[(some (10, (71, false)))], [none, (some (1, (35, false)))]] := rfl
@[simp] theorem h29_shr : h29.shr = [2, 3, 4] := rfl
@[simp] theorem callOk30 : callOk Try.prog 30 = true := by kernel_rfl
@[simp] theorem hint30 : lore.hint 30 = h30 := rfl
@[simp] theorem h30_var : h30.var = [0, 1, 2] := rfl
@[simp] theorem h30_own : h30.own = [2] := rfl
@[simp] theorem h30_keep : h30.keep = [] := rfl
@[simp] theorem h30_out : h30.out = [] := rfl
@[simp] theorem h30_row : h30.row = [(1, [none, (some (1, (35, false)))])] := rfl
@[simp] theorem h30_par : h30.par = [[none, (some (1, (35, false)))]] := rfl
@[simp] theorem h30_res : h30.res = [] := rfl
@[simp] theorem h30_shr : h30.shr = [2] := rfl
@[simp] theorem callOk31 : callOk Try.prog 31 = true := by kernel_rfl
@[simp] theorem hint31 : lore.hint 31 = h31 := rfl
@[simp] theorem h31_var : h31.var = [0, 1, 2] := rfl
@[simp] theorem h31_own : h31.own = [2] := rfl
@[simp] theorem h31_keep : h31.keep = [] := rfl
@[simp] theorem h31_out : h31.out = [] := rfl
@[simp] theorem h31_row : h31.row = [(1, [none, (some (1, (35, false)))])] := rfl
@[simp] theorem h31_par : h31.par = [[none, (some (1, (35, false)))]] := rfl
@[simp] theorem h31_res : h31.res = [] := rfl
@[simp] theorem h31_shr : h31.shr = [2] := rfl
@[simp] theorem callOk32 : callOk Try.prog 32 = true := by kernel_rfl
@[simp] theorem hint32 : lore.hint 32 = h32 := rfl
@[simp] theorem h32_var : h32.var = [0, 1, 2] := rfl
@[simp] theorem h32_own : h32.own = [2] := rfl
@[simp] theorem h32_keep : h32.keep = [] := rfl
@[simp] theorem h32_out : h32.out = [] := rfl
@[simp] theorem h32_row : h32.row = [(1, [none, (some (1, (35, false)))])] := rfl
@[simp] theorem h32_par : h32.par = [[none, (some (1, (35, false)))]] := rfl
@[simp] theorem h32_res : h32.res = [] := rfl
@[simp] theorem h32_shr : h32.shr = [2] := rfl
@[simp] theorem callOk33 : callOk Try.prog 33 = true := by kernel_rfl
@[simp] theorem hint33 : lore.hint 33 = h33 := rfl
@[simp] theorem h33_var : h33.var = [0, 1, 2, 3, 4] := rfl
@[simp] theorem h33_own : h33.own = [2] := rfl
@[simp] theorem h33_keep : h33.keep = [(3, [1, 3, 4])] := rfl
@[simp] theorem h33_out : h33.out = [(3, [3])] := rfl
@[simp] theorem h33_row : h33.row = [(1, [none, (some (1, (35, false)))])] := rfl
@[simp] theorem h33_par : h33.par = [[none, (some (1, (35, false)))]] := rfl
@[simp] theorem h33_res : h33.res = [] := rfl
@[simp] theorem h33_shr : h33.shr = [2] := rfl
@[simp] theorem callOk34 : callOk Try.prog 34 = true := by kernel_rfl
@[simp] theorem hint34 : lore.hint 34 = h34 := rfl
@[simp] theorem h34_var : h34.var = [0, 1, 2, 3, 4, 5] := rfl
@[simp] theorem h34_own : h34.own = [4] := rfl
@[simp] theorem h34_keep : h34.keep = [(4, [2, 3, 5])] := rfl
@[simp] theorem h34_out : h34.out = [(4, [4])] := rfl
@[simp] theorem h34_row : h34.row = [(2, [none, (some (1, (35, false)))]), (3, [none, (some (1, (35, false)))])] := rfl
@[simp] theorem h34_par : h34.par = [[none, (some (1, (35, false)))], [none, (some (1, (35, false)))]] := rfl
@[simp] theorem h34_res : h34.res = [] := rfl
@[simp] theorem h34_shr : h34.shr = [4] := rfl
@[simp] theorem callOk35 : callOk Try.prog 35 = true := by kernel_rfl
@[simp] theorem hint35 : lore.hint 35 = h35 := rfl
@[simp] theorem h35_var : h35.var = [0, 1, 4, 5] := rfl
@[simp] theorem h35_own : h35.own = [4] := rfl
@[simp] theorem h35_keep : h35.keep = [(4, [0, 1, 5])] := rfl
@[simp] theorem h35_out : h35.out = [(4, [4])] := rfl
@[simp] theorem h35_row : h35.row = [] := rfl
@[simp] theorem h35_par : h35.par = [[(some (10, (71, false)))], [(some (10, (71, false)))]] := rfl
@[simp] theorem h35_res : h35.res = [] := rfl
@[simp] theorem h35_shr : h35.shr = [4] := rfl
@[simp] theorem callOk36 : callOk Try.prog 36 = true := by kernel_rfl
@[simp] theorem hint36 : lore.hint 36 = h36 := rfl
@[simp] theorem h36_var : h36.var = [0, 2, 3, 4] := rfl
@[simp] theorem h36_own : h36.own = [2] := rfl
@[simp] theorem h36_keep : h36.keep = [(3, [0, 3, 4])] := rfl
@[simp] theorem h36_out : h36.out = [(3, [3])] := rfl
@[simp] theorem h36_row : h36.row = [] := rfl
@[simp] theorem h36_par : h36.par = [[(some (10, (71, false)))]] := rfl
@[simp] theorem h36_res : h36.res = [] := rfl
@[simp] theorem h36_shr : h36.shr = [2] := rfl
@[simp] theorem callOk37 : callOk Try.prog 37 = true := by kernel_rfl
@[simp] theorem hint37 : lore.hint 37 = h37 := rfl
@[simp] theorem h37_var : h37.var = [0, 1, 2, 3, 4, 5, 6, 7, 8, 9, 10, 13, 14, 15] := rfl
@[simp] theorem h37_own : h37.own = [0] := rfl
@[simp] theorem h37_keep : h37.keep = [] := rfl
@[simp] theorem h37_out : h37.out = [] := rfl
@[simp] theorem h37_row : h37.row = [(1, [(some (1, (3, false))), (some (1, (3, false)))]), (3, [(some (1, (3, false))), (some (1, (3, false)))]), (6, [(some (1, (3, false))), (some (1, (3, false)))]), (9, [(some (1, (3, false))), (some (1, (3, false)))]), (12, [(some (1, (3, false))), (some (1, (3, false)))]), (14, [(some (1, (3, false))), (some (1, (3, false)))])] := rfl
@[simp] theorem h37_par : h37.par = [] := rfl
@[simp] theorem h37_res : h37.res = [] := rfl
@[simp] theorem h37_shr : h37.shr = [0] := rfl
@[simp] theorem callOk38 : callOk Try.prog 38 = true := by kernel_rfl
@[simp] theorem hint38 : lore.hint 38 = h38 := rfl
@[simp] theorem h38_var : h38.var = [0, 1, 2, 4, 5, 6, 7, 8] := rfl
@[simp] theorem h38_own : h38.own = [4, 5, 6] := rfl
@[simp] theorem h38_keep : h38.keep = [] := rfl
@[simp] theorem h38_out : h38.out = [] := rfl
@[simp] theorem h38_row : h38.row = [(2, [(some (1, (3, false))), (some (1, (3, false)))]), (5, [(some (1, (3, true))), (some (1, (3, true)))]), (8, [(some (1, (3, false)))])] := rfl
@[simp] theorem h38_par : h38.par = [[(some (1, (3, false))), (some (1, (3, false)))]] := rfl
@[simp] theorem h38_res : h38.res = [[], [(some (1, (3, false))), (some (1, (3, false)))]] := rfl
@[simp] theorem h38_shr : h38.shr = [4, 5, 6] := rfl
@[simp] theorem callOk39 : callOk Try.prog 39 = true := by kernel_rfl
@[simp] theorem hint39 : lore.hint 39 = h39 := rfl
@[simp] theorem h39_var : h39.var = [0, 1, 2, 4, 5, 6] := rfl
@[simp] theorem h39_own : h39.own = [4, 5, 6] := rfl
@[simp] theorem h39_keep : h39.keep = [] := rfl
@[simp] theorem h39_out : h39.out = [] := rfl
@[simp] theorem h39_row : h39.row = [(2, [(some (1, (3, false))), (some (1, (3, false)))]), (5, [(some (1, (3, true))), (some (1, (3, true)))])] := rfl
@[simp] theorem h39_par : h39.par = [[(some (1, (3, false))), (some (1, (3, false)))]] := rfl
@[simp] theorem h39_res : h39.res = [[], [(some (1, (3, false))), (some (1, (3, false)))]] := rfl
@[simp] theorem h39_shr : h39.shr = [4, 5, 6] := rfl
@[simp] theorem callOk40 : callOk Try.prog 40 = true := by kernel_rfl
@[simp] theorem hint40 : lore.hint 40 = h40 := rfl
@[simp] theorem h40_var : h40.var = [0, 1, 2, 4, 5] := rfl
@[simp] theorem h40_own : h40.own = [4, 5] := rfl
@[simp] theorem h40_keep : h40.keep = [] := rfl
@[simp] theorem h40_out : h40.out = [] := rfl
@[simp] theorem h40_row : h40.row = [(2, [(some (1, (3, false))), (some (1, (3, false)))]), (4, [(some (1, (3, true))), (some (1, (3, true)))])] := rfl
@[simp] theorem h40_par : h40.par = [[(some (1, (3, false))), (some (1, (3, false)))]] := rfl
@[simp] theorem h40_res : h40.res = [[(some (1, (3, false))), (some (1, (3, false)))]] := rfl
@[simp] theorem h40_shr : h40.shr = [4, 5] := rfl
@[simp] theorem callOk41 : callOk Try.prog 41 = true := by kernel_rfl
@[simp] theorem hint41 : lore.hint 41 = h41 := rfl
@[simp] theorem h41_var : h41.var = [0, 1, 2, 4, 5] := rfl
@[simp] theorem h41_own : h41.own = [4, 5] := rfl
@[simp] theorem h41_keep : h41.keep = [] := rfl
@[simp] theorem h41_out : h41.out = [] := rfl
@[simp] theorem h41_row : h41.row = [(2, [(some (1, (3, false))), (some (1, (3, false)))]), (4, [(some (1, (3, true))), (some (1, (3, true)))])] := rfl
@[simp] theorem h41_par : h41.par = [[(some (1, (3, false))), (some (1, (3, false)))]] := rfl
@[simp] theorem h41_res : h41.res = [[(some (1, (3, false))), (some (1, (3, false)))]] := rfl
@[simp] theorem h41_shr : h41.shr = [4, 5] := rfl
@[simp] theorem callOk42 : callOk Try.prog 42 = true := by kernel_rfl
@[simp] theorem hint42 : lore.hint 42 = h42 := rfl
@[simp] theorem h42_var : h42.var = [0, 1, 2, 3, 4] := rfl
@[simp] theorem h42_own : h42.own = [4] := rfl
@[simp] theorem h42_keep : h42.keep = [] := rfl
@[simp] theorem h42_out : h42.out = [] := rfl
@[simp] theorem h42_row : h42.row = [(2, [(some (1, (3, false))), (some (1, (3, false)))]), (3, [(some (1, (3, false))), (some (1, (3, false)))])] := rfl
@[simp] theorem h42_par : h42.par = [[(some (1, (3, false))), (some (1, (3, false)))], [(some (1, (3, false))), (some (1, (3, false)))]] := rfl
@[simp] theorem h42_res : h42.res = [] := rfl
@[simp] theorem h42_shr : h42.shr = [4] := rfl
@[simp] theorem callOk43 : callOk Try.prog 43 = true := by kernel_rfl
@[simp] theorem hint43 : lore.hint 43 = h43 := rfl
@[simp] theorem h43_var : h43.var = [0, 1, 2] := rfl
@[simp] theorem h43_own : h43.own = [2] := rfl
@[simp] theorem h43_keep : h43.keep = [] := rfl
@[simp] theorem h43_out : h43.out = [] := rfl
@[simp] theorem h43_row : h43.row = [(1, [(some (1, (3, false))), (some (1, (3, false)))])] := rfl
@[simp] theorem h43_par : h43.par = [[(some (1, (3, false))), (some (1, (3, false)))]] := rfl
@[simp] theorem h43_res : h43.res = [] := rfl
@[simp] theorem h43_shr : h43.shr = [2] := rfl
@[simp] theorem callOk44 : callOk Try.prog 44 = true := by kernel_rfl
@[simp] theorem hint44 : lore.hint 44 = h44 := rfl
@[simp] theorem h44_var : h44.var = [0, 1, 2, 3, 4, 6] := rfl
@[simp] theorem h44_own : h44.own = [2] := rfl
@[simp] theorem h44_keep : h44.keep = [(3, [3, 4])] := rfl
@[simp] theorem h44_out : h44.out = [(3, [2, 3])] := rfl
@[simp] theorem h44_row : h44.row = [(1, [(some (1, (3, false))), (some (1, (3, false)))]), (3, [(some (1, (3, false)))])] := rfl
@[simp] theorem h44_par : h44.par = [[(some (1, (3, false))), (some (1, (3, false)))]] := rfl
@[simp] theorem h44_res : h44.res = [] := rfl
@[simp] theorem h44_shr : h44.shr = [2] := rfl
@[simp] theorem callOk45 : callOk Try.prog 45 = true := by kernel_rfl
@[simp] theorem hint45 : lore.hint 45 = h45 := rfl
@[simp] theorem h45_var : h45.var = [0, 1, 4, 5] := rfl
@[simp] theorem h45_own : h45.own = [4] := rfl
@[simp] theorem h45_keep : h45.keep = [(4, [0, 1, 5])] := rfl
@[simp] theorem h45_out : h45.out = [(4, [4])] := rfl
@[simp] theorem h45_row : h45.row = [] := rfl
@[simp] theorem h45_par : h45.par = [[(some (1, (3, false)))], [(some (1, (3, false)))]] := rfl
@[simp] theorem h45_res : h45.res = [] := rfl
@[simp] theorem h45_shr : h45.shr = [4] := rfl
@[simp] theorem callOk46 : callOk Try.prog 46 = true := by kernel_rfl
@[simp] theorem hint46 : lore.hint 46 = h46 := rfl
@[simp] theorem h46_var : h46.var = [0, 1, 2] := rfl
@[simp] theorem h46_own : h46.own = [2] := rfl
@[simp] theorem h46_keep : h46.keep = [] := rfl
@[simp] theorem h46_out : h46.out = [] := rfl
@[simp] theorem h46_row : h46.row = [(1, [(some (1, (3, false))), (some (1, (3, false)))]), (2, [(some (1, (3, false)))])] := rfl
@[simp] theorem h46_par : h46.par = [[(some (1, (3, false))), (some (1, (3, false)))]] := rfl
@[simp] theorem h46_res : h46.res = [[(some (1, (3, false)))]] := rfl
@[simp] theorem h46_shr : h46.shr = [2] := rfl
@[simp] theorem callOk47 : callOk Try.prog 47 = true := by kernel_rfl
@[simp] theorem hint47 : lore.hint 47 = h47 := rfl
@[simp] theorem h47_var : h47.var = [0, 1, 2] := rfl
@[simp] theorem h47_own : h47.own = [2] := rfl
@[simp] theorem h47_keep : h47.keep = [] := rfl
@[simp] theorem h47_out : h47.out = [] := rfl
@[simp] theorem h47_row : h47.row = [(1, [(some (1, (3, false))), (some (1, (3, false)))]), (2, [(some (1, (3, false)))])] := rfl
@[simp] theorem h47_par : h47.par = [[(some (1, (3, false))), (some (1, (3, false)))]] := rfl
@[simp] theorem h47_res : h47.res = [[(some (1, (3, false)))]] := rfl
@[simp] theorem h47_shr : h47.shr = [2] := rfl
@[simp] theorem callOk48 : callOk Try.prog 48 = true := by kernel_rfl
@[simp] theorem hint48 : lore.hint 48 = h48 := rfl
@[simp] theorem h48_var : h48.var = [0, 2] := rfl
@[simp] theorem h48_own : h48.own = [2] := rfl
@[simp] theorem h48_keep : h48.keep = [] := rfl
@[simp] theorem h48_out : h48.out = [] := rfl
@[simp] theorem h48_row : h48.row = [] := rfl
@[simp] theorem h48_par : h48.par = [] := rfl
@[simp] theorem h48_res : h48.res = [] := rfl
@[simp] theorem h48_shr : h48.shr = [2] := rfl
@[simp] theorem callOk49 : callOk Try.prog 49 = true := by kernel_rfl
@[simp] theorem hint49 : lore.hint 49 = h49 := rfl
@[simp] theorem h49_var : h49.var = [0, 1, 2, 3, 4, 9] := rfl
@[simp] theorem h49_own : h49.own = [0, 1] := rfl
@[simp] theorem h49_keep : h49.keep = [(7, [0, 1, 2, 3, 4, 9]), (3, [0, 1, 4])] := rfl
@[simp] theorem h49_out : h49.out = [(7, [0, 1, 2, 3, 4]), (3, [0, 1])] := rfl
@[simp] theorem h49_row : h49.row = [] := rfl
@[simp] theorem h49_par : h49.par = [] := rfl
@[simp] theorem h49_res : h49.res = [] := rfl
@[simp] theorem h49_shr : h49.shr = [0] := rfl
@[simp] theorem callOk50 : callOk Try.prog 50 = true := by kernel_rfl
@[simp] theorem hint50 : lore.hint 50 = h50 := rfl
@[simp] theorem h50_var : h50.var = [0, 1, 4] := rfl
@[simp] theorem h50_own : h50.own = [4] := rfl
@[simp] theorem h50_keep : h50.keep = [] := rfl
@[simp] theorem h50_out : h50.out = [] := rfl
@[simp] theorem h50_row : h50.row = [] := rfl
@[simp] theorem h50_par : h50.par = [] := rfl
@[simp] theorem h50_res : h50.res = [] := rfl
@[simp] theorem h50_shr : h50.shr = [4] := rfl
@[simp] theorem callOk51 : callOk Try.prog 51 = true := by kernel_rfl
@[simp] theorem hint51 : lore.hint 51 = h51 := rfl
@[simp] theorem h51_var : h51.var = [0, 1, 2] := rfl
@[simp] theorem h51_own : h51.own = [2] := rfl
@[simp] theorem h51_keep : h51.keep = [] := rfl
@[simp] theorem h51_out : h51.out = [] := rfl
@[simp] theorem h51_row : h51.row = [(1, [none, (some (1, (35, false)))])] := rfl
@[simp] theorem h51_par : h51.par = [[none, (some (1, (35, false)))]] := rfl
@[simp] theorem h51_res : h51.res = [] := rfl
@[simp] theorem h51_shr : h51.shr = [2] := rfl
@[simp] theorem callOk52 : callOk Try.prog 52 = true := by kernel_rfl
@[simp] theorem hint52 : lore.hint 52 = h52 := rfl
@[simp] theorem h52_var : h52.var = [0, 2, 3, 5, 8, 9, 10] := rfl
@[simp] theorem h52_own : h52.own = [2] := rfl
@[simp] theorem h52_keep : h52.keep = [(3, [3, 8, 9, 10])] := rfl
@[simp] theorem h52_out : h52.out = [(3, [3])] := rfl
@[simp] theorem h52_row : h52.row = [(5, [(some (10, (71, false)))]), (8, [(some (1, (35, false)))])] := rfl
@[simp] theorem h52_par : h52.par = [[(some (1, (35, false)))]] := rfl
@[simp] theorem h52_res : h52.res = [] := rfl
@[simp] theorem h52_shr : h52.shr = [2] := rfl
@[simp] theorem callOk53 : callOk Try.prog 53 = true := by kernel_rfl
@[simp] theorem hint53 : lore.hint 53 = h53 := rfl
@[simp] theorem h53_var : h53.var = [0, 2] := rfl
@[simp] theorem h53_own : h53.own = [2] := rfl
@[simp] theorem h53_keep : h53.keep = [] := rfl
@[simp] theorem h53_out : h53.out = [] := rfl
@[simp] theorem h53_row : h53.row = [(2, [(some (1, (35, true)))])] := rfl
@[simp] theorem h53_par : h53.par = [] := rfl
@[simp] theorem h53_res : h53.res = [[(some (1, (35, true)))]] := rfl
@[simp] theorem h53_shr : h53.shr = [] := rfl
@[simp] theorem callOk54 : callOk Try.prog 54 = true := by kernel_rfl
@[simp] theorem hint54 : lore.hint 54 = h54 := rfl
@[simp] theorem h54_var : h54.var = [0, 2] := rfl
@[simp] theorem h54_own : h54.own = [2] := rfl
@[simp] theorem h54_keep : h54.keep = [] := rfl
@[simp] theorem h54_out : h54.out = [] := rfl
@[simp] theorem h54_row : h54.row = [(2, [(some (10, (71, true)))])] := rfl
@[simp] theorem h54_par : h54.par = [] := rfl
@[simp] theorem h54_res : h54.res = [[(some (10, (71, true)))]] := rfl
@[simp] theorem h54_shr : h54.shr = [] := rfl
@[simp] theorem callOk55 : callOk Try.prog 55 = true := by kernel_rfl
@[simp] theorem hint55 : lore.hint 55 = h55 := rfl
@[simp] theorem h55_var : h55.var = [0, 1, 2, 3, 4, 5] := rfl
@[simp] theorem h55_own : h55.own = [4] := rfl
@[simp] theorem h55_keep : h55.keep = [(4, [2, 3, 5])] := rfl
@[simp] theorem h55_out : h55.out = [(4, [4])] := rfl
@[simp] theorem h55_row : h55.row = [(2, [none, none, (some (1, (3, false)))]), (3, [none, none, (some (1, (3, false)))])] := rfl
@[simp] theorem h55_par : h55.par = [[none, none, (some (1, (3, false)))], [none, none, (some (1, (3, false)))]] := rfl
@[simp] theorem h55_res : h55.res = [] := rfl
@[simp] theorem h55_shr : h55.shr = [4] := rfl
@[simp] theorem callOk56 : callOk Try.prog 56 = true := by kernel_rfl
@[simp] theorem hint56 : lore.hint 56 = h56 := rfl
@[simp] theorem h56_var : h56.var = [0, 1, 2, 4] := rfl
@[simp] theorem h56_own : h56.own = [4] := rfl
@[simp] theorem h56_keep : h56.keep = [] := rfl
@[simp] theorem h56_out : h56.out = [] := rfl
@[simp] theorem h56_row : h56.row = [(2, [(some (1, (3, false))), (some (1, (3, false)))])] := rfl
@[simp] theorem h56_par : h56.par = [[(some (1, (3, false))), (some (1, (3, false)))]] := rfl
@[simp] theorem h56_res : h56.res = [] := rfl
@[simp] theorem h56_shr : h56.shr = [4] := rfl
@[simp] theorem callOk57 : callOk Try.prog 57 = true := by kernel_rfl
@[simp] theorem hint57 : lore.hint 57 = h57 := rfl
@[simp] theorem h57_var : h57.var = [0, 2] := rfl
@[simp] theorem h57_own : h57.own = [2] := rfl
@[simp] theorem h57_keep : h57.keep = [] := rfl
@[simp] theorem h57_out : h57.out = [] := rfl
@[simp] theorem h57_row : h57.row = [(2, [(some (1, (3, true)))])] := rfl
@[simp] theorem h57_par : h57.par = [] := rfl
@[simp] theorem h57_res : h57.res = [[(some (1, (3, true)))]] := rfl
@[simp] theorem h57_shr : h57.shr = [] := rfl
@[simp] theorem callOk58 : callOk Try.prog 58 = true := by kernel_rfl
@[simp] theorem hint58 : lore.hint 58 = h58 := rfl
@[simp] theorem h58_var : h58.var = [0, 1, 2] := rfl
@[simp] theorem h58_own : h58.own = [2] := rfl
@[simp] theorem h58_keep : h58.keep = [] := rfl
@[simp] theorem h58_out : h58.out = [] := rfl
@[simp] theorem h58_row : h58.row = [(1, [(some (1, (3, false))), (some (1, (3, false)))])] := rfl
@[simp] theorem h58_par : h58.par = [[(some (1, (3, false))), (some (1, (3, false)))]] := rfl
@[simp] theorem h58_res : h58.res = [] := rfl
@[simp] theorem h58_shr : h58.shr = [2] := rfl
@[simp] theorem callOk59 : callOk Try.prog 59 = true := by kernel_rfl
@[simp] theorem hint59 : lore.hint 59 = h59 := rfl
@[simp] theorem h59_var : h59.var = [0, 2, 3] := rfl
@[simp] theorem h59_own : h59.own = [2, 3] := rfl
@[simp] theorem h59_keep : h59.keep = [] := rfl
@[simp] theorem h59_out : h59.out = [] := rfl
@[simp] theorem h59_row : h59.row = [] := rfl
@[simp] theorem h59_par : h59.par = [] := rfl
@[simp] theorem h59_res : h59.res = [] := rfl
@[simp] theorem h59_shr : h59.shr = [2, 3] := rfl
@[simp] theorem callOk60 : callOk Try.prog 60 = true := by kernel_rfl
@[simp] theorem hint60 : lore.hint 60 = h60 := rfl
@[simp] theorem h60_var : h60.var = [0, 2, 3, 5, 6, 8, 9, 10, 11, 25, 26, 27] := rfl
@[simp] theorem h60_own : h60.own = [2, 6] := rfl
@[simp] theorem h60_keep : h60.keep = [(11, [6, 25, 26, 27]), (3, [0, 3, 9, 10, 11])] := rfl
@[simp] theorem h60_out : h60.out = [(11, [6]), (3, [0, 3])] := rfl
@[simp] theorem h60_row : h60.row = [(2, [(some (1, (3, true)))]), (5, [(some (1, (3, false)))]), (6, [(some (1, (3, true)))]), (8, [(some (1, (3, false)))]), (9, [(some (1, (51, false)))]), (25, [(some (1, (51, false)))])] := rfl
@[simp] theorem h60_par : h60.par = [] := rfl
@[simp] theorem h60_res : h60.res = [[(some (1, (3, true)))]] := rfl
@[simp] theorem h60_shr : h60.shr = [] := rfl
@[simp] theorem callOk61 : callOk Try.prog 61 = true := by kernel_rfl
@[simp] theorem hint61 : lore.hint 61 = h61 := rfl
@[simp] theorem h61_var : h61.var = [0, 2, 3, 5, 8, 9, 10] := rfl
@[simp] theorem h61_own : h61.own = [2] := rfl
@[simp] theorem h61_keep : h61.keep = [(3, [3, 8, 9, 10])] := rfl
@[simp] theorem h61_out : h61.out = [(3, [3])] := rfl
@[simp] theorem h61_row : h61.row = [(5, [none, none, none, none, none, none, (some (1, (3, false)))]), (8, [(some (10, (71, false)))])] := rfl
@[simp] theorem h61_par : h61.par = [[(some (10, (71, false)))]] := rfl
@[simp] theorem h61_res : h61.res = [] := rfl
@[simp] theorem h61_shr : h61.shr = [2] := rfl
@[simp] theorem callOk62 : callOk Try.prog 62 = true := by kernel_rfl
@[simp] theorem hint62 : lore.hint 62 = h62 := rfl
@[simp] theorem h62_var : h62.var = [0, 1, 4] := rfl
@[simp] theorem h62_own : h62.own = [4] := rfl
@[simp] theorem h62_keep : h62.keep = [] := rfl
@[simp] theorem h62_out : h62.out = [] := rfl
@[simp] theorem h62_row : h62.row = [] := rfl
@[simp] theorem h62_par : h62.par = [] := rfl
@[simp] theorem h62_res : h62.res = [] := rfl
@[simp] theorem h62_shr : h62.shr = [] := rfl
@[simp] theorem callOk63 : callOk Try.prog 63 = true := by kernel_rfl
@[simp] theorem hint63 : lore.hint 63 = h63 := rfl
@[simp] theorem h63_var : h63.var = [0, 2, 4] := rfl
@[simp] theorem h63_own : h63.own = [2] := rfl
@[simp] theorem h63_keep : h63.keep = [] := rfl
@[simp] theorem h63_out : h63.out = [] := rfl
@[simp] theorem h63_row : h63.row = [] := rfl
@[simp] theorem h63_par : h63.par = [] := rfl
@[simp] theorem h63_res : h63.res = [] := rfl
@[simp] theorem h63_shr : h63.shr = [2] := rfl
@[simp] theorem callOk64 : callOk Try.prog 64 = true := by kernel_rfl
@[simp] theorem hint64 : lore.hint 64 = h64 := rfl
@[simp] theorem h64_var : h64.var = [0, 1, 4] := rfl
@[simp] theorem h64_own : h64.own = [0, 4] := rfl
@[simp] theorem h64_keep : h64.keep = [] := rfl
@[simp] theorem h64_out : h64.out = [] := rfl
@[simp] theorem h64_row : h64.row = [] := rfl
@[simp] theorem h64_par : h64.par = [] := rfl
@[simp] theorem h64_res : h64.res = [[(some (1, (3, true)))]] := rfl
@[simp] theorem h64_shr : h64.shr = [] := rfl
@[simp] theorem callOk65 : callOk Try.prog 65 = true := by kernel_rfl
@[simp] theorem hint65 : lore.hint 65 = h65 := rfl
@[simp] theorem h65_var : h65.var = [0, 1, 4, 5, 7, 8] := rfl
@[simp] theorem h65_own : h65.own = [4] := rfl
@[simp] theorem h65_keep : h65.keep = [(2, [0, 1, 7, 8])] := rfl
@[simp] theorem h65_out : h65.out = [(2, [4])] := rfl
@[simp] theorem h65_row : h65.row = [] := rfl
@[simp] theorem h65_par : h65.par = [] := rfl
@[simp] theorem h65_res : h65.res = [] := rfl
@[simp] theorem h65_shr : h65.shr = [] := rfl
@[simp] theorem callOk66 : callOk Try.prog 66 = true := by kernel_rfl
@[simp] theorem hint66 : lore.hint 66 = h66 := rfl
@[simp] theorem h66_var : h66.var = [0, 2, 3] := rfl
@[simp] theorem h66_own : h66.own = [2, 3] := rfl
@[simp] theorem h66_keep : h66.keep = [] := rfl
@[simp] theorem h66_out : h66.out = [] := rfl
@[simp] theorem h66_row : h66.row = [] := rfl
@[simp] theorem h66_par : h66.par = [] := rfl
@[simp] theorem h66_res : h66.res = [] := rfl
@[simp] theorem h66_shr : h66.shr = [2, 3] := rfl
@[simp] theorem callOk67 : callOk Try.prog 67 = true := by kernel_rfl
@[simp] theorem hint67 : lore.hint 67 = h67 := rfl
@[simp] theorem h67_var : h67.var = [0, 2] := rfl
@[simp] theorem h67_own : h67.own = [2] := rfl
@[simp] theorem h67_keep : h67.keep = [] := rfl
@[simp] theorem h67_out : h67.out = [] := rfl
@[simp] theorem h67_row : h67.row = [] := rfl
@[simp] theorem h67_par : h67.par = [] := rfl
@[simp] theorem h67_res : h67.res = [] := rfl
@[simp] theorem h67_shr : h67.shr = [2] := rfl
end Go.Pv

namespace Go.Pv
open Go Go.Proofs
theorem clone_ev {e sz by_ : Nat} {f : FuncId} (ht : lore.told f = some (cloneS e sz by_)) (hp : (lore.hint f).par = []) (hr : (lore.hint f).res = [[some (sz, e, true)]]) {α : Type} [Enc α] (hn : Enc.n α = sz) (l : List α) (fr : Frames) :
    cO Try.prog lore f [.t (.sl sz (els l))] fr = if l.length * by_ ≤ most then some (.val (.own e sz (els l)), fr) else none := by
  rw [cO_told ht, hp, hr]
  have h1 := els_all l sz hn
  by_cases h : l.length * by_ ≤ most
  · simp only [noOwn, List.map_nil, seamVs, cloneS, els_len, h, h1, and_self, if_true, Option.map_some, wrapThen, Res.seam, seamR, List.headD, seamV, seam1, D.seam]
  · simp only [noOwn, List.map_nil, seamVs, cloneS, els_len, h, false_and, and_false, if_false, Option.map_none, wrapThen]
theorem clone_nil {e sz by_ : Nat} {f : FuncId} (ht : lore.told f = some (cloneS e sz by_)) (hp : (lore.hint f).par = []) (hr : (lore.hint f).res = [[some (sz, e, true)]]) (fr : Frames) :
    cO Try.prog lore f [.t (.sc (.slice none 0 0))] fr = some (.val (.own e sz []), fr) := by
  rw [cO_told ht, hp, hr]
  rfl
@[simp ↓] theorem f_clone53 (l : List (List GRecord)) (fr : Frames) : cO Try.prog lore 53 [.t (.sl 1 (els l))] fr = if l.length * 24 ≤ most then some (.val (.own 35 1 (els l)), fr) else none := clone_ev rfl rfl rfl rfl l fr
@[simp ↓] theorem f_clone54 (l : List GRecord) (fr : Frames) : cO Try.prog lore 54 [.t (.sl 10 (els l))] fr = if l.length * 104 ≤ most then some (.val (.own 71 10 (els l)), fr) else none := clone_ev rfl rfl rfl rfl l fr
@[simp ↓] theorem f_clone57 (l : List Int) (fr : Frames) : cO Try.prog lore 57 [.t (.sl 1 (els l))] fr = if l.length * 8 ≤ most then some (.val (.own 3 1 (els l)), fr) else none := clone_ev rfl rfl rfl rfl l fr
theorem run_at {f : FuncId} {args : List D} {r : Res × Frames} (k : Nat) (h : call Try.prog lore k f args [] = some r) : cO Try.prog lore f args [] = some r := cO_iff.2 ⟨k, h⟩
set_option maxRecDepth 1000000
@[simp ↓] theorem f_L20_fixed : cO Try.prog lore 25 [] [] = some (.val (Bo true), []) := run_at 200 (by kernel_rfl)
end Go.Pv

namespace Go.Pv
open Go Go.Proofs
@[simp ↓] theorem f_grow64 (n : Int) (fr : Frames) : cO Try.prog lore 64 [.t (.sc (.slice none 0 0)), .t (.sc (.int .i64 n))] fr = if 0 ≤ n ∧ n.toNat * 8 ≤ most then some (.val (.own 3 1 []), fr) else none := by
  rw [cO_told (s := growS 3 1 8) rfl]
  by_cases h : 0 ≤ n ∧ n.toNat * 8 ≤ most
  · rw [if_pos h]
    show wrapThen _ ((growS 3 1 8 [.t (.sc (.slice none 0 0)), .t (.sc (.int .i64 n))]).map _) = _
    rw [growS, if_pos h]; rfl
  · rw [if_neg h]
    show wrapThen _ ((growS 3 1 8 [.t (.sc (.slice none 0 0)), .t (.sc (.int .i64 n))]).map _) = _
    rw [growS, if_neg h]; rfl
set_option maxRecDepth 1000000
@[simp ↓] theorem f_L16_fixed : cO Try.prog lore 37 [] [] = some (.val (Bo true), []) := run_at 200 (by kernel_rfl)
end Go.Pv
