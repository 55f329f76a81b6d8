/- A part of the road: the interpreter of plain data and the proof that it is right. -/
import Derived.Test.YtnleijomgjhplaaDg
import Derived.Test.YtnleijomgjhplaaProg
import Derived.Test.YtnleijomgjhplaaH9g
import Derived.KernelRfl
set_option linter.unusedVariables false
set_option linter.unusedSimpArgs false
/- Data of plain Lean, and how it lies in cells. -/
namespace Go.Pv
class Enc (α : Type) where
  n : Nat
  enc : α → List T
  len : ∀ a, (enc a).length = n
  dflt : α
section
variable {α : Type} [Enc α]
abbrev nl (α : Type) : List α := []
def els (l : List α) : List (List T) := l.map Enc.enc
def atN (l : List α) (i : Nat) : α := l.getD i Enc.dflt
def atI (l : List α) (i : Int) : α := atN l i.toNat
theorem atN_toNat (l : List α) (i : Int) : atN l i.toNat = atI l i := rfl
theorem els_len (l : List α) : (els l).length = l.length := List.length_map ..
theorem els_take (l : List α) (n : Nat) : (els l).take n = els (l.take n) := by unfold els; rw [List.map_take]
theorem els_drop (l : List α) (n : Nat) : (els l).drop n = els (l.drop n) := by unfold els; rw [List.map_drop]
theorem els_tail (l : List α) : (els l).tail = els l.tail := by cases l <;> rfl
theorem els_app (l m : List α) : els l ++ els m = els (l ++ m) := by unfold els; rw [List.map_append]
theorem els_nil : els ([] : List α) = [] := rfl
theorem els_nil_app (l : List α) : ([] : List (List T)) ++ els l = els l := rfl
theorem els_getD (l : List α) (i : Nat) (h : i < l.length) : (els l).getD i [] = Enc.enc (atN l i) := by
  simp [els, atN, h]
theorem els_getD_none (l : List α) (i : Nat) (h : ¬ i < l.length) : (els l).getD i [] = [] := by
  simp [els, h]
theorem els_all (l : List α) (k : Nat) (h : Enc.n α = k) : ((els l).all fun c => c.length == k) = true := by
  simp [els, Enc.len, h]
theorem els_set (l : List α) (i : Nat) (x : α) : (els l).set i (Enc.enc x) = els (l.set i x) := by unfold els; rw [List.map_set]
theorem els_rep (n : Nat) (x : α) : List.replicate n (Enc.enc x) = els (List.replicate n x) := by simp [els]
theorem els_snoc (l : List α) (x : α) : els l ++ [Enc.enc x] = els (l ++ [x]) := by simp [els]
theorem els_cons (l : List α) (x : α) : Enc.enc x :: els l = els (x :: l) := rfl
theorem els_inj (h : ∀ a b : α, Enc.enc a = Enc.enc b → a = b) {l m : List α} (e : els l = els m) : l = m := by
  induction l generalizing m with
  | nil => cases m <;> first | rfl | cases e
  | cons a l ih => cases m with
    | nil => cases e
    | cons b m =>
      unfold els at e
      simp only [List.map_cons, List.cons.injEq] at e
      rw [h a b e.1, ih e.2]
theorem need_false {β : Type} (k : Unit → Prog β) : (need false >>= k) = .fail := rfl
theorem need_true {β : Type} (k : Unit → Prog β) : (need true >>= k) = k () := rfl
theorem ixSl_els (P : Program) (H : Hint) (D0 : Option Tmp) (e : TypeId) (sz : Nat) (l : List α) (i : Int) : ixSl P H D0 e sz (els l) i = (do
    need (sz == szOf P e && decide (0 ≤ i) && decide (i < l.length))
    put H D0 (.t (.pt (Enc.enc (atI l i))))) := by
  unfold ixSl
  rw [els_len]
  by_cases h : 0 ≤ i ∧ i < l.length
  · rw [els_getD l _ (by omega)]; rfl
  · have : (sz == szOf P e && decide (0 ≤ i) && decide (i < l.length)) = false := by
      by_cases h1 : 0 ≤ i
      · have h2 : ¬ i < l.length := fun e => h ⟨h1, e⟩
        simp [h2]
      · simp [h1]
    rw [this, need_false, need_false]
theorem p_iface (P : Program) (H : Hint) (t : TypeId) (x : Operand) (D0 : Option Tmp) (T0 : TypeId) (P0 : String) (A0 : Array Edge) (G0 : Option (Nat × Bool)) : pStep P H ⟨D0, .makeInterface t x, T0, P0, A0, G0⟩ = .fail := rfl
def cutP (b : Bool) (els : List (List T)) (i o n : Nat) : Prog (List D) := do
  need (b && decide (o + n ≤ (els.getD i []).length))
  return (((els.getD i []).drop o).take n).map .t
def putP (b : Bool) (q : Pl) (e : TypeId) (sz : Nat) (els : List (List T)) (i o : Nat) (xs : List T) : Prog Unit := do
  need (b && decide (o + xs.length ≤ (els.getD i []).length))
  putPl q (.own e sz (els.set i ((els.getD i []).take o ++ xs ++ (els.getD i []).drop (o + xs.length))))
theorem cutP_els (b : Bool) (l : List α) (i o n : Nat) : cutP b (els l) i o (n + 1) = (do
    need (b && (decide (i < l.length) && decide (o + (n + 1) ≤ Enc.n α)))
    return (((Enc.enc (atN l i)).drop o).take (n + 1)).map .t) := by
  unfold cutP
  by_cases h : i < l.length
  · rw [els_getD l i h, Enc.len]; simp [h]
  · rw [els_getD_none l i h]; simp [h, need_false]
theorem putP_els (b : Bool) (q : Pl) (e : TypeId) (sz : Nat) (l : List α) (i o : Nat) (x : T) (xs : List T) : putP b q e sz (els l) i o (x :: xs) = (do
    need (b && (decide (i < l.length) && decide (o + (x :: xs).length ≤ Enc.n α)))
    putPl q (.own e sz ((els l).set i ((Enc.enc (atN l i)).take o ++ (x :: xs) ++ (Enc.enc (atN l i)).drop (o + (x :: xs).length))))) := by
  unfold putP
  by_cases h : i < l.length
  · rw [els_getD l i h, Enc.len]; simp [h]
  · rw [els_getD_none l i h]; simp [h, need_false]
end
theorem loadC_pt (cs : List T) (n : Nat) : loadC (.t (.pt cs)) n = (do need (decide (n ≤ cs.length)); return (cs.take n).map .t) := rfl
theorem loadC_lp (s o n : Nat) : loadC (.lp s o) n = (do let c ← gB s; need (decide (o + n ≤ c.length)); nameL (fun j => .bx s (o + j)) 0 ((c.drop o).take n)) := rfl
theorem loadC_fp (f s o n : Nat) : loadC (.fp f s o) n = (do let c ← gF f s; need (decide (o + n ≤ c.length)); nameL (fun j => .fb f s (o + j)) 0 ((c.drop o).take n)) := rfl
theorem loadC_ept (q : Pl) (k sz i o n : Nat) : loadC (.ept q k sz i o) n = (do let (_, sz', els) ← rowAt q k; cutP (sz == sz') els i o n) := rfl
theorem storeC_ept (H : Hint) (q : Pl) (k sz i o : Nat) (ds : List D) : storeC H (.ept q k sz i o) ds = (do let xs ← shareL ds; let (e, sz', els) ← rowAt q k; putP (sz == sz') q e sz els i o xs) := rfl
theorem storeC_lp (H : Hint) (s o : Nat) (ds : List D) : storeC H (.lp s o) ds = (do
    let ds ← resolveL (H.own.contains s) ds
    let c ← gB s
    need (decide (o + ds.length ≤ c.length))
    bumpL (fun j => .bx s (o + j)) 0 ds
    pB s (splice c o ds)) := rfl
theorem storeC_fp (H : Hint) (f s o : Nat) (ds : List D) : storeC H (.fp f s o) ds = (do
    let ds ← resolveL true ds
    let c ← gF f s
    need (decide (o + ds.length ≤ c.length))
    bumpL (fun j => .fb f s (o + j)) 0 ds
    pF f s (splice c o ds)) := rfl
attribute [simp] D.aliased lift liftL unlift unliftL liftF unliftF T.flat flatL D.ptr D.bare
attribute [simp ↓] els_all
attribute [simp] loadC_pt loadC_lp loadC_fp loadC_ept storeC_ept storeC_lp storeC_fp ixSl_els cutP_els putP_els els_len els_take els_drop els_tail els_app atN_toNat p_iface
instance : Enc Int := ⟨1, fun n => [.sc (.int .i64 n)], fun _ => rfl, 0⟩
instance : Enc Bool := ⟨1, fun b => [.sc (.bool b)], fun _ => rfl, false⟩
instance : Enc ByteArray := ⟨1, fun s => [.sc (.string s)], fun _ => rfl, .empty⟩
instance {α : Type} [Enc α] : Enc (List α) := ⟨1, fun l => [.sl (Enc.n α) (els l)], fun _ => rfl, []⟩
instance {α β : Type} [Enc α] [Enc β] : Enc (α × β) := ⟨Enc.n α + Enc.n β, fun p => Enc.enc p.1 ++ Enc.enc p.2, fun p => by simp [Enc.len], (Enc.dflt, Enc.dflt)⟩
@[simp] theorem n_Int : Enc.n Int = 1 := rfl
@[simp] theorem n_Bool : Enc.n Bool = 1 := rfl
@[simp] theorem n_Str : Enc.n ByteArray = 1 := rfl
@[simp] theorem n_List {α : Type} [Enc α] : Enc.n (List α) = 1 := rfl
@[simp] theorem n_Prod {α β : Type} [Enc α] [Enc β] : Enc.n (α × β) = Enc.n α + Enc.n β := rfl
@[simp] theorem enc_Int (n : Int) : Enc.enc n = [T.sc (.int .i64 n)] := rfl
@[simp] theorem enc_Bool (b : Bool) : Enc.enc b = [T.sc (.bool b)] := rfl
@[simp] theorem enc_Str (s : ByteArray) : Enc.enc s = [T.sc (.string s)] := rfl
@[simp] theorem enc_List {α : Type} [Enc α] (l : List α) : Enc.enc l = [T.sl (Enc.n α) (els l)] := rfl
@[simp] theorem enc_Prod {α β : Type} [Enc α] [Enc β] (p : α × β) : Enc.enc p = Enc.enc p.1 ++ Enc.enc p.2 := rfl
section
variable (l : List Int) (n : Int) (i k : Nat)
@[simp] theorem fs_Int : (els l).set i [T.sc (.int .i64 n)] = els (l.set i n) := els_set l i n
@[simp] theorem fa_Int : els l ++ [[T.sc (.int .i64 n)]] = els (l ++ [n]) := els_snoc l n
@[simp] theorem f1_Int : [[T.sc (.int .i64 n)]] = els [n] := rfl
@[simp] theorem fc_Int : [T.sc (.int .i64 n)] :: els l = els (n :: l) := rfl
@[simp] theorem fr_Int : List.replicate k [T.sc (.int .i64 n)] = els (List.replicate k n) := els_rep k n
end
section
variable (l : List Bool) (n : Bool) (i k : Nat)
@[simp] theorem fs_Bool : (els l).set i [T.sc (.bool n)] = els (l.set i n) := els_set l i n
@[simp] theorem fa_Bool : els l ++ [[T.sc (.bool n)]] = els (l ++ [n]) := els_snoc l n
@[simp] theorem f1_Bool : [[T.sc (.bool n)]] = els [n] := rfl
@[simp] theorem fc_Bool : [T.sc (.bool n)] :: els l = els (n :: l) := rfl
@[simp] theorem fr_Bool : List.replicate k [T.sc (.bool n)] = els (List.replicate k n) := els_rep k n
end
section
variable {α : Type} [Enc α] (l : List (List α)) (n : List α) (i k z : Nat)
theorem f1_List (h : Enc.n α = z) : [[T.sl z (els n)]] = els [n] := by subst h; rfl
theorem fs_List (h : Enc.n α = z) : (els l).set i [T.sl z (els n)] = els (l.set i n) := by subst h; exact els_set l i n
theorem fa_List (h : Enc.n α = z) : els l ++ [[T.sl z (els n)]] = els (l ++ [n]) := by subst h; exact els_snoc l n
theorem fc_List (h : Enc.n α = z) : [T.sl z (els n)] :: els l = els (n :: l) := by subst h; rfl
end
section
variable (l : List ByteArray) (n : ByteArray) (i k : Nat)
@[simp] theorem fs_Str : (els l).set i [T.sc (.string n)] = els (l.set i n) := els_set l i n
@[simp] theorem fa_Str : els l ++ [[T.sc (.string n)]] = els (l ++ [n]) := els_snoc l n
@[simp] theorem f1_Str : [[T.sc (.string n)]] = els [n] := rfl
@[simp] theorem fc_Str : [T.sc (.string n)] :: els l = els (n :: l) := rfl
end
attribute [simp] f1_List fs_List fa_List fc_List
theorem canonR_els {α : Type} [Enc α] (ks : List (Option (Nat × TypeId))) (l : List α) (h : ∀ x : α, canonC ks (Enc.enc x) = Enc.enc x) : canonR ks (els l) = els l := by
  unfold canonR els
  rw [List.map_map]
  exact List.map_congr_left fun x _ => h x
attribute [simp] canonR_els
theorem canonR_rep (ks : List (Option (Nat × TypeId))) (n : Nat) (c : List T) : canonR ks (List.replicate n c) = List.replicate n (canonC ks c) := by simp [canonR]
theorem canonR_nil (ks : List (Option (Nat × TypeId))) : canonR ks [] = [] := rfl
theorem canonR_cons (ks : List (Option (Nat × TypeId))) (c : List T) (l : List (List T)) : canonR ks (c :: l) = canonC ks c :: canonR ks l := rfl
section
variable (k : Option (Nat × TypeId)) (x : T)
@[simp] theorem can_none : canon1 none x = x := by cases x <;> rfl
@[simp] theorem can_sl (sz els) : canon1 k (.sl sz els) = .sl sz els := by rcases k with _ | ⟨p, q⟩ <;> rfl
@[simp] theorem can_int (a n) : canon1 k (.sc (.int a n)) = .sc (.int a n) := by rcases k with _ | ⟨p, q⟩ <;> rfl
@[simp] theorem can_bool (b) : canon1 k (.sc (.bool b)) = .sc (.bool b) := by rcases k with _ | ⟨p, q⟩ <;> rfl
@[simp] theorem can_str (s) : canon1 k (.sc (.string s)) = .sc (.string s) := by rcases k with _ | ⟨p, q⟩ <;> rfl
end
attribute [simp] canonR_rep canonR_nil canonR_cons canonC
theorem loop_ob {P : Program} {H : Hint} {C : Callee} {A B : Type} {c : Code} (N : A → St) (E : B → Option (Out × St)) (S : A → Option (A ⊕ B)) (hE : ∀ b, ∃ r, E b = some r ∧ r.1 ≠ .normal)
    (h : ∀ a, roundOf (H.at c) (H.outAt c) (eO P H C c (N a)) = ob (S a) fun x => sm x (fun a' => some (Out.normal, N a')) E) (a : A) (σ : St) (hσ : norm (H.at c) σ = N a) :
    eO P H C (.loop c) σ = ob (iterO S a) E := by
  have hc : ∀ b, E b = some (Classical.choose (hE b)) := fun b => (Classical.choose_spec (hE b)).1
  rw [loop_iter N (fun b => Classical.choose (hE b)) S (fun b => (Classical.choose_spec (hE b)).2) (fun a => ?_) a σ hσ]
  · cases iterO S a with
    | none => rfl
    | some b => exact (hc b).symm
  · rw [h a]
    cases S a with
    | none => rfl
    | some x => cases x with
      | inl a' => rfl
      | inr b => exact hc b
abbrev Z : D := .dead
end Go.Pv

/- Loops and lists, in plain words. -/
namespace Go.Pv
section
variable {A B : Type} {S : A → Option (A ⊕ B)}
theorem iter_acc (N : Nat → A) (n : Nat) {b : B} (hs : ∀ k, k < n → S (N k) = some (.inl (N (k + 1)))) (he : S (N n) = some (.inr b)) : iterO S (N 0) = some b := by
  have key : ∀ j, j ≤ n → iterO S (N (n - j)) = some b := by
    intro j
    induction j with
    | zero => intro _; rw [iterO_eq, Nat.sub_zero, he]
    | succ j ih =>
      intro h
      rw [iterO_eq, hs (n - (j + 1)) (by omega)]
      have e : n - (j + 1) + 1 = n - j := by omega
      simp only [e]
      exact ih (by omega)
  simpa using key n (Nat.le_refl n)
theorem iter_post (μ : A → Nat) (I : A → Prop) (P : B → Prop) (h : ∀ a, I a → (∃ a', S a = some (.inl a') ∧ I a' ∧ μ a' < μ a) ∨ ∃ b, S a = some (.inr b) ∧ P b) : ∀ a, I a → ∃ b, iterO S a = some b ∧ P b := by
  intro a
  generalize hk : μ a = k
  induction k using Nat.strongRecOn generalizing a with
  | ind k ih =>
    intro ha
    rcases h a ha with ⟨a', h1, h2, h3⟩ | ⟨b, h1, h2⟩
    · obtain ⟨b, h4, h5⟩ := ih (μ a') (by omega) a' rfl h2
      exact ⟨b, by rw [iterO_eq, h1]; exact h4, h5⟩
    · exact ⟨b, by rw [iterO_eq, h1], h2⟩
theorem iter_fun (f : A → B) (μ : A → Nat) (I : A → Prop) (h : ∀ a, I a → (∃ a', S a = some (.inl a') ∧ I a' ∧ μ a' < μ a ∧ f a' = f a) ∨ S a = some (.inr (f a))) : ∀ a, I a → iterO S a = some (f a) := by
  intro a
  generalize hk : μ a = k
  induction k using Nat.strongRecOn generalizing a with
  | ind k ih =>
    intro ha
    rw [iterO_eq]
    rcases h a ha with ⟨a', h1, h2, h3, h4⟩ | h1
    · rw [h1, ← h4]
      exact ih (μ a') (by omega) a' rfl h2
    · rw [h1]
end
theorem atI_nat {α : Type} [Enc α] (l : List α) (k : Nat) (h : k < l.length) : atI l (k : Int) = l[k] := by simp [atI, atN, h]
theorem atI_int {α : Type} [Enc α] (l : List α) (i : Int) (h : i.toNat < l.length) : atI l i = l[i.toNat] := by simp [atI, atN, h]
theorem atI_eq {α : Type} [Enc α] (l : List α) (i : Int) (k : Nat) (e : i = k) (h : k < l.length) : atI l i = l[k] := by subst e; exact atI_nat l k h
theorem w64_n {n : Int} (h1 : -9223372036854775808 ≤ n) (h2 : n ≤ 9223372036854775807) : w64 n = n := w64_id h1 h2
theorem w64_nat {n : Nat} (h : n ≤ 9223372036854775807) : w64 (n : Int) = n := w64_id (by omega) (by omega)
theorem take_succ' {α : Type} (l : List α) (k : Nat) (h : k < l.length) : l.take (k + 1) = l.take k ++ [l[k]] := by
  rw [List.take_succ_eq_append_getElem h]
theorem sum_map_take {α : Type} (f : α → Nat) (l : List α) (k : Nat) (h : k < l.length) : ((l.take (k + 1)).map f).sum = ((l.take k).map f).sum + f l[k] := by
  rw [take_succ' l k h, List.map_append, List.sum_append]; simp only [List.map_cons, List.map_nil, List.sum_cons, List.sum_nil, Nat.add_zero]
theorem sum_take_le {α : Type} (f : α → Nat) (l : List α) (k : Nat) : ((l.take k).map f).sum ≤ (l.map f).sum := by
  have h : (l.map f).sum = ((l.take k).map f).sum + ((l.drop k).map f).sum := by
    rw [← List.sum_append, ← List.map_append, List.take_append_drop]
  omega
theorem sum_at_le {α : Type} (f : α → Nat) (l : List α) (k : Nat) (h : k < l.length) : f l[k] ≤ (l.map f).sum := by
  have h1 := sum_map_take f l k h
  have h2 := sum_take_le f l (k + 1)
  omega
theorem take_ext {α : Type} {a b : List α} {k : Nat} (h1 : k < a.length) (h2 : k < b.length) (h : a.take k = b.take k) (e : a[k] = b[k]) : a.take (k + 1) = b.take (k + 1) := by
  rw [take_succ' a k h1, take_succ' b k h2, h, e]
theorem iter_same {α : Type} [DecidableEq α] {a b : List α} {S : Int → Option (Int ⊕ Bool ⊕ Unit)} (hl : a.length = b.length)
    (hS : ∀ (k : Nat) (h : k < a.length) (h' : k < b.length), S (k : Int) = if a[k] = b[k] then some (.inl ((k + 1 : Nat) : Int)) else some (.inr (.inl false))) (he : S (a.length : Int) = some (.inr (.inr ()))) :
    (ob (iterO S 0) fun a => sm a (fun a => some a) fun _ => some true) = some (decide (a = b)) := by
  obtain ⟨r, h1, h2⟩ := iter_post (S := S) (fun i => a.length - i.toNat) (fun i => ∃ k : Nat, i = k ∧ k ≤ a.length ∧ a.take k = b.take k) (fun r => sm r (fun x => x = false ∧ a ≠ b) fun _ => a = b) (fun i hi => by
    obtain ⟨k, rfl, hk, ht⟩ := hi
    rcases Nat.lt_or_ge k a.length with h | h
    · have h' : k < b.length := by omega
      rw [hS k h h']
      by_cases e : a[k] = b[k]
      · exact .inl ⟨_, if_pos e, ⟨k + 1, rfl, h, take_ext h h' ht e⟩, by simp; omega⟩
      · refine .inr ⟨_, if_neg e, rfl, fun e' => e ?_⟩
        subst e'; rfl
    · have : k = a.length := by omega
      subst this
      refine .inr ⟨_, he, ?_⟩
      show a = b
      rw [List.take_length, hl, List.take_length] at ht
      exact ht) 0 ⟨0, rfl, Nat.zero_le _, by simp⟩
  rw [h1]
  cases r with
  | inl x =>
    obtain ⟨rfl, h3⟩ := h2
    simp [ob_some, sm_inl, h3]
  | inr u =>
    have h3 : a = b := h2
    simp [ob_some, sm_inr, h3]
theorem ob_of {α β : Type} {x : Option α} {a : α} (h : x = some a) (f : α → Option β) : ob x f = f a := by rw [h]; rfl
end Go.Pv

namespace Go.Pv
structure GObj where
  Class : Int
  Kind : Int
  Slots : (List Int)
  Text : ByteArray
  Bits : Int
  Hash : Int
  deriving DecidableEq
instance : Enc GObj := ⟨6, fun x => [T.sc (.int .i64 x.Class), T.sc (.int .i64 x.Kind), T.sl 1 (els x.Slots), T.sc (.string x.Text), T.sc (.int .i64 x.Bits), T.sc (.int .i64 x.Hash)], fun _ => rfl, ⟨0, 0, [], .empty, 0, 0⟩⟩
@[simp] theorem n_GObj : Enc.n GObj = 6 := rfl
@[simp] theorem enc_GObj (x : GObj) : Enc.enc x = [T.sc (.int .i64 x.Class), T.sc (.int .i64 x.Kind), T.sl 1 (els x.Slots), T.sc (.string x.Text), T.sc (.int .i64 x.Bits), T.sc (.int .i64 x.Hash)] := rfl
@[simp] theorem fs_GObj (l : List GObj) (i : Nat) (a_0 : Int) (a_1 : Int) (a_2 : (List Int)) (a_3 : ByteArray) (a_4 : Int) (a_5 : Int) : (els l).set i [T.sc (.int .i64 a_0), T.sc (.int .i64 a_1), T.sl 1 (els a_2), T.sc (.string a_3), T.sc (.int .i64 a_4), T.sc (.int .i64 a_5)] = els (l.set i ⟨a_0, a_1, a_2, a_3, a_4, a_5⟩) := els_set l i ⟨a_0, a_1, a_2, a_3, a_4, a_5⟩
@[simp] theorem fa_GObj (l : List GObj) (a_0 : Int) (a_1 : Int) (a_2 : (List Int)) (a_3 : ByteArray) (a_4 : Int) (a_5 : Int) : els l ++ [[T.sc (.int .i64 a_0), T.sc (.int .i64 a_1), T.sl 1 (els a_2), T.sc (.string a_3), T.sc (.int .i64 a_4), T.sc (.int .i64 a_5)]] = els (l ++ [⟨a_0, a_1, a_2, a_3, a_4, a_5⟩]) := els_snoc l ⟨a_0, a_1, a_2, a_3, a_4, a_5⟩
@[simp] theorem fc_GObj (l : List GObj) (a_0 : Int) (a_1 : Int) (a_2 : (List Int)) (a_3 : ByteArray) (a_4 : Int) (a_5 : Int) : [T.sc (.int .i64 a_0), T.sc (.int .i64 a_1), T.sl 1 (els a_2), T.sc (.string a_3), T.sc (.int .i64 a_4), T.sc (.int .i64 a_5)] :: els l = els ((⟨a_0, a_1, a_2, a_3, a_4, a_5⟩ : GObj) :: l) := rfl
@[simp] theorem f1_GObj (a_0 : Int) (a_1 : Int) (a_2 : (List Int)) (a_3 : ByteArray) (a_4 : Int) (a_5 : Int) : [[T.sc (.int .i64 a_0), T.sc (.int .i64 a_1), T.sl 1 (els a_2), T.sc (.string a_3), T.sc (.int .i64 a_4), T.sc (.int .i64 a_5)]] = els [(⟨a_0, a_1, a_2, a_3, a_4, a_5⟩ : GObj)] := rfl
theorem fr_GObj (k : Nat) (a_0 : Int) (a_1 : Int) (a_2 : (List Int)) (a_3 : ByteArray) (a_4 : Int) (a_5 : Int) : List.replicate k [T.sc (.int .i64 a_0), T.sc (.int .i64 a_1), T.sl 1 (els a_2), T.sc (.string a_3), T.sc (.int .i64 a_4), T.sc (.int .i64 a_5)] = els (List.replicate k (⟨a_0, a_1, a_2, a_3, a_4, a_5⟩ : GObj)) := els_rep k (⟨a_0, a_1, a_2, a_3, a_4, a_5⟩ : GObj)
structure GHeap where
  Objs : (List GObj)
  Cap : Int
  Last : Int
  deriving DecidableEq
instance : Enc GHeap := ⟨3, fun x => [T.sl 6 (els x.Objs), T.sc (.int .i64 x.Cap), T.sc (.int .i64 x.Last)], fun _ => rfl, ⟨[], 0, 0⟩⟩
@[simp] theorem n_GHeap : Enc.n GHeap = 3 := rfl
@[simp] theorem enc_GHeap (x : GHeap) : Enc.enc x = [T.sl 6 (els x.Objs), T.sc (.int .i64 x.Cap), T.sc (.int .i64 x.Last)] := rfl
@[simp] theorem fs_GHeap (l : List GHeap) (i : Nat) (a_0 : (List GObj)) (a_1 : Int) (a_2 : Int) : (els l).set i [T.sl 6 (els a_0), T.sc (.int .i64 a_1), T.sc (.int .i64 a_2)] = els (l.set i ⟨a_0, a_1, a_2⟩) := els_set l i ⟨a_0, a_1, a_2⟩
@[simp] theorem fa_GHeap (l : List GHeap) (a_0 : (List GObj)) (a_1 : Int) (a_2 : Int) : els l ++ [[T.sl 6 (els a_0), T.sc (.int .i64 a_1), T.sc (.int .i64 a_2)]] = els (l ++ [⟨a_0, a_1, a_2⟩]) := els_snoc l ⟨a_0, a_1, a_2⟩
@[simp] theorem fc_GHeap (l : List GHeap) (a_0 : (List GObj)) (a_1 : Int) (a_2 : Int) : [T.sl 6 (els a_0), T.sc (.int .i64 a_1), T.sc (.int .i64 a_2)] :: els l = els ((⟨a_0, a_1, a_2⟩ : GHeap) :: l) := rfl
@[simp] theorem f1_GHeap (a_0 : (List GObj)) (a_1 : Int) (a_2 : Int) : [[T.sl 6 (els a_0), T.sc (.int .i64 a_1), T.sc (.int .i64 a_2)]] = els [(⟨a_0, a_1, a_2⟩ : GHeap)] := rfl
theorem fr_GHeap (k : Nat) (a_0 : (List GObj)) (a_1 : Int) (a_2 : Int) : List.replicate k [T.sl 6 (els a_0), T.sc (.int .i64 a_1), T.sc (.int .i64 a_2)] = els (List.replicate k (⟨a_0, a_1, a_2⟩ : GHeap)) := els_rep k (⟨a_0, a_1, a_2⟩ : GHeap)
structure GState where
  Heap : GHeap
  Proc : Int
  Ready : Int
  Halt : Int
  Steps : Int
  Used : Int
  deriving DecidableEq
instance : Enc GState := ⟨8, fun x => [T.sl 6 (els x.Heap.Objs), T.sc (.int .i64 x.Heap.Cap), T.sc (.int .i64 x.Heap.Last), T.sc (.int .i64 x.Proc), T.sc (.int .i64 x.Ready), T.sc (.int .i64 x.Halt), T.sc (.int .i64 x.Steps), T.sc (.int .i64 x.Used)], fun _ => rfl, ⟨⟨[], 0, 0⟩, 0, 0, 0, 0, 0⟩⟩
@[simp] theorem n_GState : Enc.n GState = 8 := rfl
@[simp] theorem enc_GState (x : GState) : Enc.enc x = [T.sl 6 (els x.Heap.Objs), T.sc (.int .i64 x.Heap.Cap), T.sc (.int .i64 x.Heap.Last), T.sc (.int .i64 x.Proc), T.sc (.int .i64 x.Ready), T.sc (.int .i64 x.Halt), T.sc (.int .i64 x.Steps), T.sc (.int .i64 x.Used)] := rfl
@[simp] theorem fs_GState (l : List GState) (i : Nat) (a_0_0 : (List GObj)) (a_0_1 : Int) (a_0_2 : Int) (a_1 : Int) (a_2 : Int) (a_3 : Int) (a_4 : Int) (a_5 : Int) : (els l).set i [T.sl 6 (els a_0_0), T.sc (.int .i64 a_0_1), T.sc (.int .i64 a_0_2), T.sc (.int .i64 a_1), T.sc (.int .i64 a_2), T.sc (.int .i64 a_3), T.sc (.int .i64 a_4), T.sc (.int .i64 a_5)] = els (l.set i ⟨⟨a_0_0, a_0_1, a_0_2⟩, a_1, a_2, a_3, a_4, a_5⟩) := els_set l i ⟨⟨a_0_0, a_0_1, a_0_2⟩, a_1, a_2, a_3, a_4, a_5⟩
@[simp] theorem fa_GState (l : List GState) (a_0_0 : (List GObj)) (a_0_1 : Int) (a_0_2 : Int) (a_1 : Int) (a_2 : Int) (a_3 : Int) (a_4 : Int) (a_5 : Int) : els l ++ [[T.sl 6 (els a_0_0), T.sc (.int .i64 a_0_1), T.sc (.int .i64 a_0_2), T.sc (.int .i64 a_1), T.sc (.int .i64 a_2), T.sc (.int .i64 a_3), T.sc (.int .i64 a_4), T.sc (.int .i64 a_5)]] = els (l ++ [⟨⟨a_0_0, a_0_1, a_0_2⟩, a_1, a_2, a_3, a_4, a_5⟩]) := els_snoc l ⟨⟨a_0_0, a_0_1, a_0_2⟩, a_1, a_2, a_3, a_4, a_5⟩
@[simp] theorem fc_GState (l : List GState) (a_0_0 : (List GObj)) (a_0_1 : Int) (a_0_2 : Int) (a_1 : Int) (a_2 : Int) (a_3 : Int) (a_4 : Int) (a_5 : Int) : [T.sl 6 (els a_0_0), T.sc (.int .i64 a_0_1), T.sc (.int .i64 a_0_2), T.sc (.int .i64 a_1), T.sc (.int .i64 a_2), T.sc (.int .i64 a_3), T.sc (.int .i64 a_4), T.sc (.int .i64 a_5)] :: els l = els ((⟨⟨a_0_0, a_0_1, a_0_2⟩, a_1, a_2, a_3, a_4, a_5⟩ : GState) :: l) := rfl
@[simp] theorem f1_GState (a_0_0 : (List GObj)) (a_0_1 : Int) (a_0_2 : Int) (a_1 : Int) (a_2 : Int) (a_3 : Int) (a_4 : Int) (a_5 : Int) : [[T.sl 6 (els a_0_0), T.sc (.int .i64 a_0_1), T.sc (.int .i64 a_0_2), T.sc (.int .i64 a_1), T.sc (.int .i64 a_2), T.sc (.int .i64 a_3), T.sc (.int .i64 a_4), T.sc (.int .i64 a_5)]] = els [(⟨⟨a_0_0, a_0_1, a_0_2⟩, a_1, a_2, a_3, a_4, a_5⟩ : GState)] := rfl
theorem fr_GState (k : Nat) (a_0_0 : (List GObj)) (a_0_1 : Int) (a_0_2 : Int) (a_1 : Int) (a_2 : Int) (a_3 : Int) (a_4 : Int) (a_5 : Int) : List.replicate k [T.sl 6 (els a_0_0), T.sc (.int .i64 a_0_1), T.sc (.int .i64 a_0_2), T.sc (.int .i64 a_1), T.sc (.int .i64 a_2), T.sc (.int .i64 a_3), T.sc (.int .i64 a_4), T.sc (.int .i64 a_5)] = els (List.replicate k (⟨⟨a_0_0, a_0_1, a_0_2⟩, a_1, a_2, a_3, a_4, a_5⟩ : GState)) := els_rep k (⟨⟨a_0_0, a_0_1, a_0_2⟩, a_1, a_2, a_3, a_4, a_5⟩ : GState)
structure GPoints where
  Every : Int
  Most : Int
  L : (List GState)
  deriving DecidableEq
instance : Enc GPoints := ⟨3, fun x => [T.sc (.int .i64 x.Every), T.sc (.int .i64 x.Most), T.sl 8 (els x.L)], fun _ => rfl, ⟨0, 0, []⟩⟩
@[simp] theorem n_GPoints : Enc.n GPoints = 3 := rfl
@[simp] theorem enc_GPoints (x : GPoints) : Enc.enc x = [T.sc (.int .i64 x.Every), T.sc (.int .i64 x.Most), T.sl 8 (els x.L)] := rfl
@[simp] theorem fs_GPoints (l : List GPoints) (i : Nat) (a_0 : Int) (a_1 : Int) (a_2 : (List GState)) : (els l).set i [T.sc (.int .i64 a_0), T.sc (.int .i64 a_1), T.sl 8 (els a_2)] = els (l.set i ⟨a_0, a_1, a_2⟩) := els_set l i ⟨a_0, a_1, a_2⟩
@[simp] theorem fa_GPoints (l : List GPoints) (a_0 : Int) (a_1 : Int) (a_2 : (List GState)) : els l ++ [[T.sc (.int .i64 a_0), T.sc (.int .i64 a_1), T.sl 8 (els a_2)]] = els (l ++ [⟨a_0, a_1, a_2⟩]) := els_snoc l ⟨a_0, a_1, a_2⟩
@[simp] theorem fc_GPoints (l : List GPoints) (a_0 : Int) (a_1 : Int) (a_2 : (List GState)) : [T.sc (.int .i64 a_0), T.sc (.int .i64 a_1), T.sl 8 (els a_2)] :: els l = els ((⟨a_0, a_1, a_2⟩ : GPoints) :: l) := rfl
@[simp] theorem f1_GPoints (a_0 : Int) (a_1 : Int) (a_2 : (List GState)) : [[T.sc (.int .i64 a_0), T.sc (.int .i64 a_1), T.sl 8 (els a_2)]] = els [(⟨a_0, a_1, a_2⟩ : GPoints)] := rfl
theorem fr_GPoints (k : Nat) (a_0 : Int) (a_1 : Int) (a_2 : (List GState)) : List.replicate k [T.sc (.int .i64 a_0), T.sc (.int .i64 a_1), T.sl 8 (els a_2)] = els (List.replicate k (⟨a_0, a_1, a_2⟩ : GPoints)) := els_rep k (⟨a_0, a_1, a_2⟩ : GPoints)
structure G_anamnesislaw06_Rooted where
  H : GHeap
  R : (List Int)
  deriving DecidableEq
instance : Enc G_anamnesislaw06_Rooted := ⟨4, fun x => [T.sl 6 (els x.H.Objs), T.sc (.int .i64 x.H.Cap), T.sc (.int .i64 x.H.Last), T.sl 1 (els x.R)], fun _ => rfl, ⟨⟨[], 0, 0⟩, []⟩⟩
@[simp] theorem n_G_anamnesislaw06_Rooted : Enc.n G_anamnesislaw06_Rooted = 4 := rfl
@[simp] theorem enc_G_anamnesislaw06_Rooted (x : G_anamnesislaw06_Rooted) : Enc.enc x = [T.sl 6 (els x.H.Objs), T.sc (.int .i64 x.H.Cap), T.sc (.int .i64 x.H.Last), T.sl 1 (els x.R)] := rfl
@[simp] theorem fs_G_anamnesislaw06_Rooted (l : List G_anamnesislaw06_Rooted) (i : Nat) (a_0_0 : (List GObj)) (a_0_1 : Int) (a_0_2 : Int) (a_1 : (List Int)) : (els l).set i [T.sl 6 (els a_0_0), T.sc (.int .i64 a_0_1), T.sc (.int .i64 a_0_2), T.sl 1 (els a_1)] = els (l.set i ⟨⟨a_0_0, a_0_1, a_0_2⟩, a_1⟩) := els_set l i ⟨⟨a_0_0, a_0_1, a_0_2⟩, a_1⟩
@[simp] theorem fa_G_anamnesislaw06_Rooted (l : List G_anamnesislaw06_Rooted) (a_0_0 : (List GObj)) (a_0_1 : Int) (a_0_2 : Int) (a_1 : (List Int)) : els l ++ [[T.sl 6 (els a_0_0), T.sc (.int .i64 a_0_1), T.sc (.int .i64 a_0_2), T.sl 1 (els a_1)]] = els (l ++ [⟨⟨a_0_0, a_0_1, a_0_2⟩, a_1⟩]) := els_snoc l ⟨⟨a_0_0, a_0_1, a_0_2⟩, a_1⟩
@[simp] theorem fc_G_anamnesislaw06_Rooted (l : List G_anamnesislaw06_Rooted) (a_0_0 : (List GObj)) (a_0_1 : Int) (a_0_2 : Int) (a_1 : (List Int)) : [T.sl 6 (els a_0_0), T.sc (.int .i64 a_0_1), T.sc (.int .i64 a_0_2), T.sl 1 (els a_1)] :: els l = els ((⟨⟨a_0_0, a_0_1, a_0_2⟩, a_1⟩ : G_anamnesislaw06_Rooted) :: l) := rfl
@[simp] theorem f1_G_anamnesislaw06_Rooted (a_0_0 : (List GObj)) (a_0_1 : Int) (a_0_2 : Int) (a_1 : (List Int)) : [[T.sl 6 (els a_0_0), T.sc (.int .i64 a_0_1), T.sc (.int .i64 a_0_2), T.sl 1 (els a_1)]] = els [(⟨⟨a_0_0, a_0_1, a_0_2⟩, a_1⟩ : G_anamnesislaw06_Rooted)] := rfl
theorem fr_G_anamnesislaw06_Rooted (k : Nat) (a_0_0 : (List GObj)) (a_0_1 : Int) (a_0_2 : Int) (a_1 : (List Int)) : List.replicate k [T.sl 6 (els a_0_0), T.sc (.int .i64 a_0_1), T.sc (.int .i64 a_0_2), T.sl 1 (els a_1)] = els (List.replicate k (⟨⟨a_0_0, a_0_1, a_0_2⟩, a_1⟩ : G_anamnesislaw06_Rooted)) := els_rep k (⟨⟨a_0_0, a_0_1, a_0_2⟩, a_1⟩ : G_anamnesislaw06_Rooted)
structure GRecord where
  Kind : Int
  At : Int
  Slot : Int
  Old : Int
  Obj : GObj
  deriving DecidableEq
instance : Enc GRecord := ⟨10, fun x => [T.sc (.int .i64 x.Kind), T.sc (.int .i64 x.At), T.sc (.int .i64 x.Slot), T.sc (.int .i64 x.Old), T.sc (.int .i64 x.Obj.Class), T.sc (.int .i64 x.Obj.Kind), T.sl 1 (els x.Obj.Slots), T.sc (.string x.Obj.Text), T.sc (.int .i64 x.Obj.Bits), T.sc (.int .i64 x.Obj.Hash)], fun _ => rfl, ⟨0, 0, 0, 0, ⟨0, 0, [], .empty, 0, 0⟩⟩⟩
@[simp] theorem n_GRecord : Enc.n GRecord = 10 := rfl
@[simp] theorem enc_GRecord (x : GRecord) : Enc.enc x = [T.sc (.int .i64 x.Kind), T.sc (.int .i64 x.At), T.sc (.int .i64 x.Slot), T.sc (.int .i64 x.Old), T.sc (.int .i64 x.Obj.Class), T.sc (.int .i64 x.Obj.Kind), T.sl 1 (els x.Obj.Slots), T.sc (.string x.Obj.Text), T.sc (.int .i64 x.Obj.Bits), T.sc (.int .i64 x.Obj.Hash)] := rfl
@[simp] theorem fs_GRecord (l : List GRecord) (i : Nat) (a_0 : Int) (a_1 : Int) (a_2 : Int) (a_3 : Int) (a_4_0 : Int) (a_4_1 : Int) (a_4_2 : (List Int)) (a_4_3 : ByteArray) (a_4_4 : Int) (a_4_5 : Int) : (els l).set i [T.sc (.int .i64 a_0), T.sc (.int .i64 a_1), T.sc (.int .i64 a_2), T.sc (.int .i64 a_3), T.sc (.int .i64 a_4_0), T.sc (.int .i64 a_4_1), T.sl 1 (els a_4_2), T.sc (.string a_4_3), T.sc (.int .i64 a_4_4), T.sc (.int .i64 a_4_5)] = els (l.set i ⟨a_0, a_1, a_2, a_3, ⟨a_4_0, a_4_1, a_4_2, a_4_3, a_4_4, a_4_5⟩⟩) := els_set l i ⟨a_0, a_1, a_2, a_3, ⟨a_4_0, a_4_1, a_4_2, a_4_3, a_4_4, a_4_5⟩⟩
@[simp] theorem fa_GRecord (l : List GRecord) (a_0 : Int) (a_1 : Int) (a_2 : Int) (a_3 : Int) (a_4_0 : Int) (a_4_1 : Int) (a_4_2 : (List Int)) (a_4_3 : ByteArray) (a_4_4 : Int) (a_4_5 : Int) : els l ++ [[T.sc (.int .i64 a_0), T.sc (.int .i64 a_1), T.sc (.int .i64 a_2), T.sc (.int .i64 a_3), T.sc (.int .i64 a_4_0), T.sc (.int .i64 a_4_1), T.sl 1 (els a_4_2), T.sc (.string a_4_3), T.sc (.int .i64 a_4_4), T.sc (.int .i64 a_4_5)]] = els (l ++ [⟨a_0, a_1, a_2, a_3, ⟨a_4_0, a_4_1, a_4_2, a_4_3, a_4_4, a_4_5⟩⟩]) := els_snoc l ⟨a_0, a_1, a_2, a_3, ⟨a_4_0, a_4_1, a_4_2, a_4_3, a_4_4, a_4_5⟩⟩
@[simp] theorem fc_GRecord (l : List GRecord) (a_0 : Int) (a_1 : Int) (a_2 : Int) (a_3 : Int) (a_4_0 : Int) (a_4_1 : Int) (a_4_2 : (List Int)) (a_4_3 : ByteArray) (a_4_4 : Int) (a_4_5 : Int) : [T.sc (.int .i64 a_0), T.sc (.int .i64 a_1), T.sc (.int .i64 a_2), T.sc (.int .i64 a_3), T.sc (.int .i64 a_4_0), T.sc (.int .i64 a_4_1), T.sl 1 (els a_4_2), T.sc (.string a_4_3), T.sc (.int .i64 a_4_4), T.sc (.int .i64 a_4_5)] :: els l = els ((⟨a_0, a_1, a_2, a_3, ⟨a_4_0, a_4_1, a_4_2, a_4_3, a_4_4, a_4_5⟩⟩ : GRecord) :: l) := rfl
@[simp] theorem f1_GRecord (a_0 : Int) (a_1 : Int) (a_2 : Int) (a_3 : Int) (a_4_0 : Int) (a_4_1 : Int) (a_4_2 : (List Int)) (a_4_3 : ByteArray) (a_4_4 : Int) (a_4_5 : Int) : [[T.sc (.int .i64 a_0), T.sc (.int .i64 a_1), T.sc (.int .i64 a_2), T.sc (.int .i64 a_3), T.sc (.int .i64 a_4_0), T.sc (.int .i64 a_4_1), T.sl 1 (els a_4_2), T.sc (.string a_4_3), T.sc (.int .i64 a_4_4), T.sc (.int .i64 a_4_5)]] = els [(⟨a_0, a_1, a_2, a_3, ⟨a_4_0, a_4_1, a_4_2, a_4_3, a_4_4, a_4_5⟩⟩ : GRecord)] := rfl
theorem fr_GRecord (k : Nat) (a_0 : Int) (a_1 : Int) (a_2 : Int) (a_3 : Int) (a_4_0 : Int) (a_4_1 : Int) (a_4_2 : (List Int)) (a_4_3 : ByteArray) (a_4_4 : Int) (a_4_5 : Int) : List.replicate k [T.sc (.int .i64 a_0), T.sc (.int .i64 a_1), T.sc (.int .i64 a_2), T.sc (.int .i64 a_3), T.sc (.int .i64 a_4_0), T.sc (.int .i64 a_4_1), T.sl 1 (els a_4_2), T.sc (.string a_4_3), T.sc (.int .i64 a_4_4), T.sc (.int .i64 a_4_5)] = els (List.replicate k (⟨a_0, a_1, a_2, a_3, ⟨a_4_0, a_4_1, a_4_2, a_4_3, a_4_4, a_4_5⟩⟩ : GRecord)) := els_rep k (⟨a_0, a_1, a_2, a_3, ⟨a_4_0, a_4_1, a_4_2, a_4_3, a_4_4, a_4_5⟩⟩ : GRecord)
structure G_anamnesislaw05_Ask where
  T : (List Int)
  V : Int
  deriving DecidableEq
instance : Enc G_anamnesislaw05_Ask := ⟨2, fun x => [T.sl 1 (els x.T), T.sc (.int .i64 x.V)], fun _ => rfl, ⟨[], 0⟩⟩
@[simp] theorem n_G_anamnesislaw05_Ask : Enc.n G_anamnesislaw05_Ask = 2 := rfl
@[simp] theorem enc_G_anamnesislaw05_Ask (x : G_anamnesislaw05_Ask) : Enc.enc x = [T.sl 1 (els x.T), T.sc (.int .i64 x.V)] := rfl
@[simp] theorem fs_G_anamnesislaw05_Ask (l : List G_anamnesislaw05_Ask) (i : Nat) (a_0 : (List Int)) (a_1 : Int) : (els l).set i [T.sl 1 (els a_0), T.sc (.int .i64 a_1)] = els (l.set i ⟨a_0, a_1⟩) := els_set l i ⟨a_0, a_1⟩
@[simp] theorem fa_G_anamnesislaw05_Ask (l : List G_anamnesislaw05_Ask) (a_0 : (List Int)) (a_1 : Int) : els l ++ [[T.sl 1 (els a_0), T.sc (.int .i64 a_1)]] = els (l ++ [⟨a_0, a_1⟩]) := els_snoc l ⟨a_0, a_1⟩
@[simp] theorem fc_G_anamnesislaw05_Ask (l : List G_anamnesislaw05_Ask) (a_0 : (List Int)) (a_1 : Int) : [T.sl 1 (els a_0), T.sc (.int .i64 a_1)] :: els l = els ((⟨a_0, a_1⟩ : G_anamnesislaw05_Ask) :: l) := rfl
@[simp] theorem f1_G_anamnesislaw05_Ask (a_0 : (List Int)) (a_1 : Int) : [[T.sl 1 (els a_0), T.sc (.int .i64 a_1)]] = els [(⟨a_0, a_1⟩ : G_anamnesislaw05_Ask)] := rfl
theorem fr_G_anamnesislaw05_Ask (k : Nat) (a_0 : (List Int)) (a_1 : Int) : List.replicate k [T.sl 1 (els a_0), T.sc (.int .i64 a_1)] = els (List.replicate k (⟨a_0, a_1⟩ : G_anamnesislaw05_Ask)) := els_rep k (⟨a_0, a_1⟩ : G_anamnesislaw05_Ask)
structure G_mark_marker where
  objs : (List GObj)
  marked : (List Bool)
  stack : (List Int)
  deriving DecidableEq
instance : Enc G_mark_marker := ⟨3, fun x => [T.sl 6 (els x.objs), T.sl 1 (els x.marked), T.sl 1 (els x.stack)], fun _ => rfl, ⟨[], [], []⟩⟩
@[simp] theorem n_G_mark_marker : Enc.n G_mark_marker = 3 := rfl
@[simp] theorem enc_G_mark_marker (x : G_mark_marker) : Enc.enc x = [T.sl 6 (els x.objs), T.sl 1 (els x.marked), T.sl 1 (els x.stack)] := rfl
@[simp] theorem fs_G_mark_marker (l : List G_mark_marker) (i : Nat) (a_0 : (List GObj)) (a_1 : (List Bool)) (a_2 : (List Int)) : (els l).set i [T.sl 6 (els a_0), T.sl 1 (els a_1), T.sl 1 (els a_2)] = els (l.set i ⟨a_0, a_1, a_2⟩) := els_set l i ⟨a_0, a_1, a_2⟩
@[simp] theorem fa_G_mark_marker (l : List G_mark_marker) (a_0 : (List GObj)) (a_1 : (List Bool)) (a_2 : (List Int)) : els l ++ [[T.sl 6 (els a_0), T.sl 1 (els a_1), T.sl 1 (els a_2)]] = els (l ++ [⟨a_0, a_1, a_2⟩]) := els_snoc l ⟨a_0, a_1, a_2⟩
@[simp] theorem fc_G_mark_marker (l : List G_mark_marker) (a_0 : (List GObj)) (a_1 : (List Bool)) (a_2 : (List Int)) : [T.sl 6 (els a_0), T.sl 1 (els a_1), T.sl 1 (els a_2)] :: els l = els ((⟨a_0, a_1, a_2⟩ : G_mark_marker) :: l) := rfl
@[simp] theorem f1_G_mark_marker (a_0 : (List GObj)) (a_1 : (List Bool)) (a_2 : (List Int)) : [[T.sl 6 (els a_0), T.sl 1 (els a_1), T.sl 1 (els a_2)]] = els [(⟨a_0, a_1, a_2⟩ : G_mark_marker)] := rfl
theorem fr_G_mark_marker (k : Nat) (a_0 : (List GObj)) (a_1 : (List Bool)) (a_2 : (List Int)) : List.replicate k [T.sl 6 (els a_0), T.sl 1 (els a_1), T.sl 1 (els a_2)] = els (List.replicate k (⟨a_0, a_1, a_2⟩ : G_mark_marker)) := els_rep k (⟨a_0, a_1, a_2⟩ : G_mark_marker)
structure G_anamnesisref06_Pairing where
  To : (List Int)
  From : (List Int)
  deriving DecidableEq
instance : Enc G_anamnesisref06_Pairing := ⟨2, fun x => [T.sl 1 (els x.To), T.sl 1 (els x.From)], fun _ => rfl, ⟨[], []⟩⟩
@[simp] theorem n_G_anamnesisref06_Pairing : Enc.n G_anamnesisref06_Pairing = 2 := rfl
@[simp] theorem enc_G_anamnesisref06_Pairing (x : G_anamnesisref06_Pairing) : Enc.enc x = [T.sl 1 (els x.To), T.sl 1 (els x.From)] := rfl
@[simp] theorem fs_G_anamnesisref06_Pairing (l : List G_anamnesisref06_Pairing) (i : Nat) (a_0 : (List Int)) (a_1 : (List Int)) : (els l).set i [T.sl 1 (els a_0), T.sl 1 (els a_1)] = els (l.set i ⟨a_0, a_1⟩) := els_set l i ⟨a_0, a_1⟩
@[simp] theorem fa_G_anamnesisref06_Pairing (l : List G_anamnesisref06_Pairing) (a_0 : (List Int)) (a_1 : (List Int)) : els l ++ [[T.sl 1 (els a_0), T.sl 1 (els a_1)]] = els (l ++ [⟨a_0, a_1⟩]) := els_snoc l ⟨a_0, a_1⟩
@[simp] theorem fc_G_anamnesisref06_Pairing (l : List G_anamnesisref06_Pairing) (a_0 : (List Int)) (a_1 : (List Int)) : [T.sl 1 (els a_0), T.sl 1 (els a_1)] :: els l = els ((⟨a_0, a_1⟩ : G_anamnesisref06_Pairing) :: l) := rfl
@[simp] theorem f1_G_anamnesisref06_Pairing (a_0 : (List Int)) (a_1 : (List Int)) : [[T.sl 1 (els a_0), T.sl 1 (els a_1)]] = els [(⟨a_0, a_1⟩ : G_anamnesisref06_Pairing)] := rfl
theorem fr_G_anamnesisref06_Pairing (k : Nat) (a_0 : (List Int)) (a_1 : (List Int)) : List.replicate k [T.sl 1 (els a_0), T.sl 1 (els a_1)] = els (List.replicate k (⟨a_0, a_1⟩ : G_anamnesisref06_Pairing)) := els_rep k (⟨a_0, a_1⟩ : G_anamnesisref06_Pairing)
@[simp high] theorem ns_30 : D.seam (some (8, 30, false)) (D.t (T.sc (.slice none 0 0))) = D.t (T.sl 8 (els ([] : List GState))) := rfl
@[simp high] theorem no_30 : D.seam (some (8, 30, true)) (D.t (T.sc (.slice none 0 0))) = D.own 30 8 (els ([] : List GState)) := rfl
@[simp high] theorem nc_30 : canon1 (some (8, 30)) (T.sc (.slice none 0 0)) = T.sl 8 (els ([] : List GState)) := rfl
@[simp high] theorem nw_30 : D.own 30 8 [] = D.own 30 8 (els ([] : List GState)) := rfl
@[simp high] theorem ns_58 : D.seam (some (6, 58, false)) (D.t (T.sc (.slice none 0 0))) = D.t (T.sl 6 (els ([] : List GObj))) := rfl
@[simp high] theorem no_58 : D.seam (some (6, 58, true)) (D.t (T.sc (.slice none 0 0))) = D.own 58 6 (els ([] : List GObj)) := rfl
@[simp high] theorem nc_58 : canon1 (some (6, 58)) (T.sc (.slice none 0 0)) = T.sl 6 (els ([] : List GObj)) := rfl
@[simp high] theorem nw_58 : D.own 58 6 [] = D.own 58 6 (els ([] : List GObj)) := rfl
@[simp high] theorem ns_3 : D.seam (some (1, 3, false)) (D.t (T.sc (.slice none 0 0))) = D.t (T.sl 1 (els ([] : List Int))) := rfl
@[simp high] theorem no_3 : D.seam (some (1, 3, true)) (D.t (T.sc (.slice none 0 0))) = D.own 3 1 (els ([] : List Int)) := rfl
@[simp high] theorem nc_3 : canon1 (some (1, 3)) (T.sc (.slice none 0 0)) = T.sl 1 (els ([] : List Int)) := rfl
@[simp high] theorem nw_3 : D.own 3 1 [] = D.own 3 1 (els ([] : List Int)) := rfl
@[simp high] theorem ns_83 : D.seam (some (10, 83, false)) (D.t (T.sc (.slice none 0 0))) = D.t (T.sl 10 (els ([] : List GRecord))) := rfl
@[simp high] theorem no_83 : D.seam (some (10, 83, true)) (D.t (T.sc (.slice none 0 0))) = D.own 83 10 (els ([] : List GRecord)) := rfl
@[simp high] theorem nc_83 : canon1 (some (10, 83)) (T.sc (.slice none 0 0)) = T.sl 10 (els ([] : List GRecord)) := rfl
@[simp high] theorem nw_83 : D.own 83 10 [] = D.own 83 10 (els ([] : List GRecord)) := rfl
@[simp high] theorem ns_4 : D.seam (some (1, 4, false)) (D.t (T.sc (.slice none 0 0))) = D.t (T.sl 1 (els ([] : List Bool))) := rfl
@[simp high] theorem no_4 : D.seam (some (1, 4, true)) (D.t (T.sc (.slice none 0 0))) = D.own 4 1 (els ([] : List Bool)) := rfl
@[simp high] theorem nc_4 : canon1 (some (1, 4)) (T.sc (.slice none 0 0)) = T.sl 1 (els ([] : List Bool)) := rfl
@[simp high] theorem nw_4 : D.own 4 1 [] = D.own 4 1 (els ([] : List Bool)) := rfl
end Go.Pv

namespace Go.Pv
open Go Go.Proofs
@[simp] theorem zOk3 : zOk Try.prog 3 = true := by kernel_rfl
@[simp] theorem szOf3 : szOf Try.prog 3 = 1 := by kernel_rfl
@[simp] theorem bytesOf3 : bytesOf Try.prog 3 = 8 := by kernel_rfl
@[simp] theorem zeroOf3 : zeroOf Try.prog 3 = [.int .i64 0] := by kernel_rfl
@[simp] theorem kinds3 : kinds Try.prog 8 3 = [none] := by kernel_rfl
@[simp] theorem intOfT3 : intOfT Try.prog 3 = some .i64 := by kernel_rfl
@[simp] theorem zOk4 : zOk Try.prog 4 = true := by kernel_rfl
@[simp] theorem szOf4 : szOf Try.prog 4 = 1 := by kernel_rfl
@[simp] theorem bytesOf4 : bytesOf Try.prog 4 = 1 := by kernel_rfl
@[simp] theorem zeroOf4 : zeroOf Try.prog 4 = [.bool false] := by kernel_rfl
@[simp] theorem kinds4 : kinds Try.prog 8 4 = [none] := by kernel_rfl
@[simp] theorem zOk9 : zOk Try.prog 9 = true := by kernel_rfl
@[simp] theorem szOf9 : szOf Try.prog 9 = 1 := by kernel_rfl
@[simp] theorem isStr9 : isStr Try.prog 9 = true := by kernel_rfl
@[simp] theorem elOf22 : elOf Try.prog 22 = some 30 := by kernel_rfl
@[simp] theorem isBoolT22 : isBoolT Try.prog 22 = false := by kernel_rfl
@[simp] theorem isSliceT22 : isSliceT Try.prog 22 = true := by kernel_rfl
@[simp] theorem isPtrT22 : isPtrT Try.prog 22 = false := by kernel_rfl
@[simp] theorem zOk25 : zOk Try.prog 25 = true := by kernel_rfl
@[simp] theorem szOf25 : szOf Try.prog 25 = 1 := by kernel_rfl
@[simp] theorem elOf25 : elOf Try.prog 25 = some 58 := by kernel_rfl
@[simp] theorem arrOf25 : arrOf Try.prog 25 = none := by kernel_rfl
@[simp] theorem isBoolT25 : isBoolT Try.prog 25 = false := by kernel_rfl
@[simp] theorem isSliceT25 : isSliceT Try.prog 25 = true := by kernel_rfl
@[simp] theorem isPtrT25 : isPtrT Try.prog 25 = false := by kernel_rfl
@[simp] theorem zOk27 : zOk Try.prog 27 = true := by kernel_rfl
@[simp] theorem szOf27 : szOf Try.prog 27 = 3 := by kernel_rfl
@[simp] theorem zeroOf27 : zeroOf Try.prog 27 = [.slice none 0 0, .int .i64 0, .int .i64 0] := by kernel_rfl
@[simp] theorem buildOk27 : buildOk Try.prog 27 = true := by kernel_rfl
@[simp] theorem offOf27_0 : offOf Try.prog 27 0 = some 0 := by kernel_rfl
@[simp] theorem fszOf27_0 : fszOf Try.prog 27 0 = some (1, false) := by kernel_rfl
@[simp] theorem offOf27_1 : offOf Try.prog 27 1 = some 1 := by kernel_rfl
@[simp] theorem fszOf27_1 : fszOf Try.prog 27 1 = some (1, false) := by kernel_rfl
@[simp] theorem offOf27_2 : offOf Try.prog 27 2 = some 2 := by kernel_rfl
@[simp] theorem fszOf27_2 : fszOf Try.prog 27 2 = some (1, false) := by kernel_rfl
@[simp] theorem arrOf27 : arrOf Try.prog 27 = none := by kernel_rfl
@[simp] theorem zOk28 : zOk Try.prog 28 = true := by kernel_rfl
@[simp] theorem szOf28 : szOf Try.prog 28 = 1 := by kernel_rfl
@[simp] theorem zOk30 : zOk Try.prog 30 = true := by kernel_rfl
@[simp] theorem szOf30 : szOf Try.prog 30 = 8 := by kernel_rfl
@[simp] theorem bytesOf30 : bytesOf Try.prog 30 = 80 := by kernel_rfl
@[simp] theorem zeroOf30 : zeroOf Try.prog 30 = [.slice none 0 0, .int .i64 0, .int .i64 0, .int .i64 0, .int .i64 0, .int .i64 0, .int .i64 0, .int .i64 0] := by kernel_rfl
@[simp] theorem kinds30 : kinds Try.prog 8 30 = [some (6, 58), none, none, none, none, none, none, none] := by kernel_rfl
@[simp] theorem buildOk30 : buildOk Try.prog 30 = true := by kernel_rfl
@[simp] theorem offOf30_0 : offOf Try.prog 30 0 = some 0 := by kernel_rfl
@[simp] theorem fszOf30_0 : fszOf Try.prog 30 0 = some (3, true) := by kernel_rfl
@[simp] theorem offOf30_1 : offOf Try.prog 30 1 = some 3 := by kernel_rfl
@[simp] theorem fszOf30_1 : fszOf Try.prog 30 1 = some (1, false) := by kernel_rfl
@[simp] theorem offOf30_2 : offOf Try.prog 30 2 = some 4 := by kernel_rfl
@[simp] theorem fszOf30_2 : fszOf Try.prog 30 2 = some (1, false) := by kernel_rfl
@[simp] theorem offOf30_3 : offOf Try.prog 30 3 = some 5 := by kernel_rfl
@[simp] theorem fszOf30_3 : fszOf Try.prog 30 3 = some (1, false) := by kernel_rfl
@[simp] theorem offOf30_4 : offOf Try.prog 30 4 = some 6 := by kernel_rfl
@[simp] theorem fszOf30_4 : fszOf Try.prog 30 4 = some (1, false) := by kernel_rfl
@[simp] theorem offOf30_5 : offOf Try.prog 30 5 = some 7 := by kernel_rfl
@[simp] theorem fszOf30_5 : fszOf Try.prog 30 5 = some (1, false) := by kernel_rfl
@[simp] theorem arrOf30 : arrOf Try.prog 30 = none := by kernel_rfl
@[simp] theorem zOk43 : zOk Try.prog 43 = true := by kernel_rfl
@[simp] theorem szOf43 : szOf Try.prog 43 = 1 := by kernel_rfl
@[simp] theorem elOf43 : elOf Try.prog 43 = some 3 := by kernel_rfl
@[simp] theorem arrOf43 : arrOf Try.prog 43 = none := by kernel_rfl
@[simp] theorem isBoolT43 : isBoolT Try.prog 43 = false := by kernel_rfl
@[simp] theorem isSliceT43 : isSliceT Try.prog 43 = true := by kernel_rfl
@[simp] theorem isPtrT43 : isPtrT Try.prog 43 = false := by kernel_rfl
@[simp] theorem zOk58 : zOk Try.prog 58 = true := by kernel_rfl
@[simp] theorem szOf58 : szOf Try.prog 58 = 6 := by kernel_rfl
@[simp] theorem bytesOf58 : bytesOf Try.prog 58 = 72 := by kernel_rfl
@[simp] theorem zeroOf58 : zeroOf Try.prog 58 = [.int .i64 0, .int .i64 0, .slice none 0 0, .string ⟨#[]⟩, .int .i64 0, .int .i64 0] := by kernel_rfl
@[simp] theorem kinds58 : kinds Try.prog 8 58 = [none, none, some (1, 3), none, none, none] := by kernel_rfl
@[simp] theorem buildOk58 : buildOk Try.prog 58 = true := by kernel_rfl
@[simp] theorem offOf58_0 : offOf Try.prog 58 0 = some 0 := by kernel_rfl
@[simp] theorem fszOf58_0 : fszOf Try.prog 58 0 = some (1, false) := by kernel_rfl
@[simp] theorem offOf58_1 : offOf Try.prog 58 1 = some 1 := by kernel_rfl
@[simp] theorem fszOf58_1 : fszOf Try.prog 58 1 = some (1, false) := by kernel_rfl
@[simp] theorem offOf58_2 : offOf Try.prog 58 2 = some 2 := by kernel_rfl
@[simp] theorem fszOf58_2 : fszOf Try.prog 58 2 = some (1, false) := by kernel_rfl
@[simp] theorem offOf58_3 : offOf Try.prog 58 3 = some 3 := by kernel_rfl
@[simp] theorem fszOf58_3 : fszOf Try.prog 58 3 = some (1, false) := by kernel_rfl
@[simp] theorem offOf58_4 : offOf Try.prog 58 4 = some 4 := by kernel_rfl
@[simp] theorem fszOf58_4 : fszOf Try.prog 58 4 = some (1, false) := by kernel_rfl
@[simp] theorem offOf58_5 : offOf Try.prog 58 5 = some 5 := by kernel_rfl
@[simp] theorem fszOf58_5 : fszOf Try.prog 58 5 = some (1, false) := by kernel_rfl
@[simp] theorem arrOf58 : arrOf Try.prog 58 = none := by kernel_rfl
@[simp] theorem zOk103 : zOk Try.prog 103 = true := by kernel_rfl
@[simp] theorem szOf103 : szOf Try.prog 103 = 1 := by kernel_rfl
@[simp] theorem elOf103 : elOf Try.prog 103 = some 4 := by kernel_rfl
@[simp] theorem arrOf103 : arrOf Try.prog 103 = none := by kernel_rfl
@[simp] theorem isSliceT103 : isSliceT Try.prog 103 = true := by kernel_rfl
@[simp] theorem zOk105 : zOk Try.prog 105 = true := by kernel_rfl
@[simp] theorem szOf105 : szOf Try.prog 105 = 3 := by kernel_rfl
@[simp] theorem zeroOf105 : zeroOf Try.prog 105 = [.slice none 0 0, .slice none 0 0, .slice none 0 0] := by kernel_rfl
@[simp] theorem buildOk105 : buildOk Try.prog 105 = true := by kernel_rfl
@[simp] theorem offOf105_0 : offOf Try.prog 105 0 = some 0 := by kernel_rfl
@[simp] theorem fszOf105_0 : fszOf Try.prog 105 0 = some (1, false) := by kernel_rfl
@[simp] theorem offOf105_1 : offOf Try.prog 105 1 = some 1 := by kernel_rfl
@[simp] theorem fszOf105_1 : fszOf Try.prog 105 1 = some (1, false) := by kernel_rfl
@[simp] theorem offOf105_2 : offOf Try.prog 105 2 = some 2 := by kernel_rfl
@[simp] theorem fszOf105_2 : fszOf Try.prog 105 2 = some (1, false) := by kernel_rfl
@[simp] theorem arrOf105 : arrOf Try.prog 105 = none := by kernel_rfl
@[simp] theorem zOk110 : zOk Try.prog 110 = true := by kernel_rfl
@[simp] theorem szOf110 : szOf Try.prog 110 = 1 := by kernel_rfl
@[simp] theorem isIntMap110 : isIntMap Try.prog 110 = true := by kernel_rfl
@[simp] theorem zOk112 : zOk Try.prog 112 = true := by kernel_rfl
@[simp] theorem szOf112 : szOf Try.prog 112 = 2 := by kernel_rfl
@[simp] theorem zeroOf112 : zeroOf Try.prog 112 = [.map none, .slice none 0 0] := by kernel_rfl
@[simp] theorem buildOk112 : buildOk Try.prog 112 = true := by kernel_rfl
@[simp] theorem offOf112_0 : offOf Try.prog 112 0 = some 0 := by kernel_rfl
@[simp] theorem fszOf112_0 : fszOf Try.prog 112 0 = some (1, false) := by kernel_rfl
@[simp] theorem offOf112_1 : offOf Try.prog 112 1 = some 1 := by kernel_rfl
@[simp] theorem fszOf112_1 : fszOf Try.prog 112 1 = some (1, false) := by kernel_rfl
@[simp] theorem arrOf112 : arrOf Try.prog 112 = none := by kernel_rfl
@[simp] theorem zOk140 : zOk Try.prog 140 = true := by kernel_rfl
@[simp] theorem szOf140 : szOf Try.prog 140 = 1 := by kernel_rfl
@[simp] theorem zeroOf140 : zeroOf Try.prog 140 = [.int .i64 0] := by kernel_rfl
@[simp] theorem intOfT143 : intOfT Try.prog 143 = some .u64 := by kernel_rfl
@[simp] theorem hint30 : lore.hint 30 = h30 := rfl
@[simp] theorem h30_var : h30.var = [0, 1, 2, 3, 4, 5, 6, 7, 8, 9] := rfl
@[simp] theorem h30_own : h30.own = [4, 5] := rfl
@[simp] theorem h30_keep : h30.keep = [] := rfl
@[simp] theorem h30_out : h30.out = [] := rfl
@[simp] theorem h30_row : h30.row = [(2, [(some (6, (58, false)))]), (3, [none, none, (some (1, (3, false)))]), (5, [(some (6, (58, true)))]), (6, [(some (6, (58, false)))]), (8, [(some (6, (58, false)))])] := rfl
@[simp] theorem h30_par : h30.par = [[(some (6, (58, false)))], [none, none, (some (1, (3, false)))]] := rfl
@[simp] theorem h30_res : h30.res = [] := rfl
@[simp] theorem h30_shr : h30.shr = [4] := rfl
@[simp] theorem callOk32 : callOk Try.prog 32 = true := by kernel_rfl
@[simp] theorem hint32 : lore.hint 32 = h32 := rfl
@[simp] theorem h32_var : h32.var = [0, 1, 2, 3, 4] := rfl
@[simp] theorem h32_own : h32.own = [2] := rfl
@[simp] theorem h32_keep : h32.keep = [(3, [1, 3, 4])] := rfl
@[simp] theorem h32_out : h32.out = [(3, [1, 3])] := rfl
@[simp] theorem h32_row : h32.row = [(1, [(some (6, (58, false)))])] := rfl
@[simp] theorem h32_par : h32.par = [[(some (6, (58, false)))]] := rfl
@[simp] theorem h32_res : h32.res = [] := rfl
@[simp] theorem h32_shr : h32.shr = [2] := rfl
@[simp] theorem callOk43 : callOk Try.prog 43 = true := by kernel_rfl
@[simp] theorem hint43 : lore.hint 43 = h43 := rfl
@[simp] theorem h43_var : h43.var = [0, 1, 2, 3, 4] := rfl
@[simp] theorem h43_own : h43.own = [4] := rfl
@[simp] theorem h43_keep : h43.keep = [] := rfl
@[simp] theorem h43_out : h43.out = [] := rfl
@[simp] theorem h43_row : h43.row = [(2, [(some (6, (58, false)))]), (3, [(some (6, (58, false)))])] := rfl
@[simp] theorem h43_par : h43.par = [[(some (6, (58, false)))], [(some (6, (58, false)))]] := rfl
@[simp] theorem h43_res : h43.res = [] := rfl
@[simp] theorem h43_shr : h43.shr = [4] := rfl
@[simp] theorem callOk45 : callOk Try.prog 45 = true := by kernel_rfl
@[simp] theorem hint45 : lore.hint 45 = h45 := rfl
@[simp] theorem h45_var : h45.var = [0, 1, 2] := rfl
@[simp] theorem h45_own : h45.own = [2] := rfl
@[simp] theorem h45_keep : h45.keep = [] := rfl
@[simp] theorem h45_out : h45.out = [] := rfl
@[simp] theorem h45_row : h45.row = [(1, [(some (6, (58, false)))])] := rfl
@[simp] theorem h45_par : h45.par = [[(some (6, (58, false)))]] := rfl
@[simp] theorem h45_res : h45.res = [] := rfl
@[simp] theorem h45_shr : h45.shr = [2] := rfl
@[simp] theorem callOk47 : callOk Try.prog 47 = true := by kernel_rfl
@[simp] theorem hint47 : lore.hint 47 = h47 := rfl
@[simp] theorem h47_var : h47.var = [0, 1, 2, 4, 5, 6, 8, 9, 11, 12, 13, 14, 26, 27, 28, 80, 81, 82, 93, 94, 95] := rfl
@[simp] theorem h47_own : h47.own = [4, 5, 6, 12, 25] := rfl
@[simp] theorem h47_keep : h47.keep = [(21, [12, 93, 94, 95]), (15, [6, 25, 80, 81, 82]), (10, [6, 25]), (5, [6, 25, 26, 27, 28])] := rfl
@[simp] theorem h47_out : h47.out = [(21, [12]), (15, [6, 25]), (10, [6, 25]), (5, [4, 5, 6, 25])] := rfl
@[simp] theorem h47_row : h47.row = [(2, [(some (6, (58, false)))]), (4, [(some (1, (3, false)))]), (9, [none, none, (some (1, (3, false)))]), (12, [(some (1, (3, true)))]), (25, [(some (6, (58, true))), (some (1, (4, true))), (some (1, (3, true)))]), (26, [(some (1, (3, false)))]), (80, [(some (1, (3, false)))]), (93, [(some (1, (4, false)))])] := rfl
@[simp] theorem h47_par : h47.par = [[(some (6, (58, false)))], [(some (1, (3, false)))]] := rfl
@[simp] theorem h47_res : h47.res = [[(some (1, (3, false)))]] := rfl
@[simp] theorem h47_shr : h47.shr = [4, 5] := rfl
@[simp] theorem callOk52 : callOk Try.prog 52 = true := by kernel_rfl
@[simp] theorem hint52 : lore.hint 52 = h52 := rfl
@[simp] theorem h52_var : h52.var = [0, 1, 2, 3] := rfl
@[simp] theorem h52_own : h52.own = [2] := rfl
@[simp] theorem h52_keep : h52.keep = [(2, [1, 3])] := rfl
@[simp] theorem h52_out : h52.out = [(2, [1, 2])] := rfl
@[simp] theorem h52_row : h52.row = [(1, [(some (6, (58, false)))])] := rfl
@[simp] theorem h52_par : h52.par = [[(some (6, (58, false)))]] := rfl
@[simp] theorem h52_res : h52.res = [] := rfl
@[simp] theorem h52_shr : h52.shr = [2] := rfl
@[simp] theorem callOk53 : callOk Try.prog 53 = true := by kernel_rfl
@[simp] theorem hint53 : lore.hint 53 = h53 := rfl
@[simp] theorem h53_var : h53.var = [0, 1, 2, 4, 5, 6] := rfl
@[simp] theorem h53_own : h53.own = [4] := rfl
@[simp] theorem h53_keep : h53.keep = [] := rfl
@[simp] theorem h53_out : h53.out = [] := rfl
@[simp] theorem h53_row : h53.row = [(2, [(some (6, (58, false)))])] := rfl
@[simp] theorem h53_par : h53.par = [[(some (6, (58, false)))]] := rfl
@[simp] theorem h53_res : h53.res = [] := rfl
@[simp] theorem h53_shr : h53.shr = [4] := rfl
@[simp] theorem callOk56 : callOk Try.prog 56 = true := by kernel_rfl
@[simp] theorem hint56 : lore.hint 56 = h56 := rfl
@[simp] theorem h56_var : h56.var = [0, 1, 2, 4, 5, 6, 8, 9, 10, 11, 12, 13, 14, 15, 20, 21, 22] := rfl
@[simp] theorem h56_own : h56.own = [4, 5, 6, 11, 13, 48] := rfl
@[simp] theorem h56_keep : h56.keep = [(14, [2, 4, 11, 12, 13, 14, 48]), (4, [1, 2, 4, 20, 21, 22])] := rfl
@[simp] theorem h56_out : h56.out = [(14, [4, 12, 13]), (4, [1, 2, 4, 5, 6])] := rfl
@[simp] theorem h56_row : h56.row = [(2, [(some (6, (58, false)))]), (4, [(some (6, (58, true)))]), (5, [(some (1, (3, false)))]), (12, [(some (1, (3, false)))]), (13, [(some (6, (58, true)))]), (15, [none, none, (some (1, (3, false)))]), (20, [(some (1, (3, false)))]), (48, [none, (some (1, (3, true)))])] := rfl
@[simp] theorem h56_par : h56.par = [[(some (6, (58, false)))], [(some (1, (3, false)))]] := rfl
@[simp] theorem h56_res : h56.res = [[(some (6, (58, false)))], [(some (1, (3, false)))]] := rfl
@[simp] theorem h56_shr : h56.shr = [4, 5, 6] := rfl
@[simp] theorem callOk58 : callOk Try.prog 58 = true := by kernel_rfl
@[simp] theorem hint58 : lore.hint 58 = h58 := rfl
@[simp] theorem h58_var : h58.var = [0, 1, 2, 3, 4, 5] := rfl
@[simp] theorem h58_own : h58.own = [4] := rfl
@[simp] theorem h58_keep : h58.keep = [(4, [2, 3, 5])] := rfl
@[simp] theorem h58_out : h58.out = [(4, [4])] := rfl
@[simp] theorem h58_row : h58.row = [(2, [(some (6, (58, false)))]), (3, [(some (6, (58, false)))])] := rfl
@[simp] theorem h58_par : h58.par = [[(some (6, (58, false)))], [(some (6, (58, false)))]] := rfl
@[simp] theorem h58_res : h58.res = [] := rfl
@[simp] theorem h58_shr : h58.shr = [4] := rfl
@[simp] theorem callOk59 : callOk Try.prog 59 = true := by kernel_rfl
@[simp] theorem hint59 : lore.hint 59 = h59 := rfl
@[simp] theorem h59_var : h59.var = [0, 1, 2, 3, 4, 6, 8, 9, 10, 11, 12, 13, 14] := rfl
@[simp] theorem h59_own : h59.own = [8] := rfl
@[simp] theorem h59_keep : h59.keep = [] := rfl
@[simp] theorem h59_out : h59.out = [] := rfl
@[simp] theorem h59_row : h59.row = [(4, [(some (6, (58, false)))]), (6, [(some (6, (58, false)))]), (9, [(some (6, (58, false)))]), (10, [(some (1, (3, false)))]), (12, [(some (6, (58, false)))]), (13, [(some (1, (3, false)))])] := rfl
@[simp] theorem h59_par : h59.par = [[(some (6, (58, false)))], [(some (1, (3, false)))], [(some (6, (58, false)))], [(some (1, (3, false)))]] := rfl
@[simp] theorem h59_res : h59.res = [] := rfl
@[simp] theorem h59_shr : h59.shr = [8] := rfl
@[simp] theorem callOk74 : callOk Try.prog 74 = true := by kernel_rfl
@[simp] theorem hint74 : lore.hint 74 = h74 := rfl
@[simp] theorem h74_var : h74.var = [0, 1, 2, 4, 5, 6, 7, 8, 9, 10, 25, 26, 27] := rfl
@[simp] theorem h74_own : h74.own = [4, 5, 8] := rfl
@[simp] theorem h74_keep : h74.keep = [(6, [8, 25, 26, 27])] := rfl
@[simp] theorem h74_out : h74.out = [(6, [8])] := rfl
@[simp] theorem h74_row : h74.row = [(2, [(some (6, (58, false)))]), (4, [(some (1, (3, false)))]), (6, [(some (1, (3, false)))]), (8, [(some (1, (3, true)))]), (25, [(some (1, (3, false)))])] := rfl
@[simp] theorem h74_par : h74.par = [[(some (6, (58, false)))], [(some (1, (3, false)))]] := rfl
@[simp] theorem h74_res : h74.res = [[(some (1, (3, false)))]] := rfl
@[simp] theorem h74_shr : h74.shr = [4, 5] := rfl
@[simp] theorem callOk76 : callOk Try.prog 76 = true := by kernel_rfl
@[simp] theorem hint76 : lore.hint 76 = h76 := rfl
@[simp] theorem h76_var : h76.var = [0, 1, 2, 4, 5, 6, 7, 8, 9, 10, 11, 28, 29, 30] := rfl
@[simp] theorem h76_own : h76.own = [4, 5, 6, 9] := rfl
@[simp] theorem h76_keep : h76.keep = [(6, [1, 4, 7, 9, 28, 29, 30])] := rfl
@[simp] theorem h76_out : h76.out = [(6, [1, 4, 7, 9])] := rfl
@[simp] theorem h76_row : h76.row = [(2, [(some (6, (58, false)))]), (4, [(some (6, (58, true)))]), (5, [(some (1, (3, false)))]), (7, [(some (1, (3, false)))]), (9, [(some (6, (58, true)))]), (11, [none, none, (some (1, (3, false)))]), (28, [(some (6, (58, false)))])] := rfl
@[simp] theorem h76_par : h76.par = [[(some (6, (58, false)))], [(some (1, (3, false)))]] := rfl
@[simp] theorem h76_res : h76.res = [[(some (6, (58, false)))], [(some (1, (3, false)))]] := rfl
@[simp] theorem h76_shr : h76.shr = [4, 5, 6] := rfl
@[simp] theorem callOk78 : callOk Try.prog 78 = true := by kernel_rfl
@[simp] theorem hint78 : lore.hint 78 = h78 := rfl
@[simp] theorem h78_var : h78.var = [0, 1, 4, 5, 6, 7] := rfl
@[simp] theorem h78_own : h78.own = [4, 5] := rfl
@[simp] theorem h78_keep : h78.keep = [] := rfl
@[simp] theorem h78_out : h78.out = [] := rfl
@[simp] theorem h78_row : h78.row = [] := rfl
@[simp] theorem h78_par : h78.par = [[(some (1, (3, false)))]] := rfl
@[simp] theorem h78_res : h78.res = [] := rfl
@[simp] theorem h78_shr : h78.shr = [4, 5] := rfl
@[simp] theorem callOk81 : callOk Try.prog 81 = true := by kernel_rfl
@[simp] theorem hint81 : lore.hint 81 = h81 := rfl
@[simp] theorem h81_var : h81.var = [0, 2, 3] := rfl
@[simp] theorem h81_own : h81.own = [2, 3] := rfl
@[simp] theorem h81_keep : h81.keep = [] := rfl
@[simp] theorem h81_out : h81.out = [] := rfl
@[simp] theorem h81_row : h81.row = [] := rfl
@[simp] theorem h81_par : h81.par = [] := rfl
@[simp] theorem h81_res : h81.res = [] := rfl
@[simp] theorem h81_shr : h81.shr = [2, 3] := rfl
@[simp] theorem callOk82 : callOk Try.prog 82 = true := by kernel_rfl
@[simp] theorem hint82 : lore.hint 82 = h82 := rfl
@[simp] theorem h82_var : h82.var = [0, 1, 2, 4, 6] := rfl
@[simp] theorem h82_own : h82.own = [4] := rfl
@[simp] theorem h82_keep : h82.keep = [] := rfl
@[simp] theorem h82_out : h82.out = [] := rfl
@[simp] theorem h82_row : h82.row = [(2, [(some (6, (58, false)))])] := rfl
@[simp] theorem h82_par : h82.par = [[(some (6, (58, false)))]] := rfl
@[simp] theorem h82_res : h82.res = [] := rfl
@[simp] theorem h82_shr : h82.shr = [4] := rfl
@[simp] theorem callOk83 : callOk Try.prog 83 = true := by kernel_rfl
@[simp] theorem hint83 : lore.hint 83 = h83 := rfl
@[simp] theorem h83_var : h83.var = [0, 1, 2, 3, 5, 6] := rfl
@[simp] theorem h83_own : h83.own = [0] := rfl
@[simp] theorem h83_keep : h83.keep = [] := rfl
@[simp] theorem h83_out : h83.out = [] := rfl
@[simp] theorem h83_row : h83.row = [(1, [(some (6, (58, false)))]), (2, [(some (6, (58, false)))]), (4, [(some (6, (58, false)))]), (6, [(some (6, (58, false)))])] := rfl
@[simp] theorem h83_par : h83.par = [] := rfl
@[simp] theorem h83_res : h83.res = [] := rfl
@[simp] theorem h83_shr : h83.shr = [0] := rfl
@[simp] theorem callOk84 : callOk Try.prog 84 = true := by kernel_rfl
@[simp] theorem hint84 : lore.hint 84 = h84 := rfl
@[simp] theorem h84_var : h84.var = [0, 1, 2, 3, 4, 5] := rfl
@[simp] theorem h84_own : h84.own = [2, 3] := rfl
@[simp] theorem h84_keep : h84.keep = [] := rfl
@[simp] theorem h84_out : h84.out = [] := rfl
@[simp] theorem h84_row : h84.row = [(1, [(some (6, (58, false)))]), (2, [(some (6, (58, true)))]), (4, [(some (6, (58, false)))]), (5, [(some (1, (3, false)))])] := rfl
@[simp] theorem h84_par : h84.par = [[(some (6, (58, false)))]] := rfl
@[simp] theorem h84_res : h84.res = [[(some (6, (58, false)))]] := rfl
@[simp] theorem h84_shr : h84.shr = [2, 3] := rfl
@[simp] theorem callOk86 : callOk Try.prog 86 = true := by kernel_rfl
@[simp] theorem hint86 : lore.hint 86 = h86 := rfl
@[simp] theorem h86_var : h86.var = [0, 1, 2] := rfl
@[simp] theorem h86_own : h86.own = [2] := rfl
@[simp] theorem h86_keep : h86.keep = [] := rfl
@[simp] theorem h86_out : h86.out = [] := rfl
@[simp] theorem h86_row : h86.row = [(1, [(some (6, (58, false)))])] := rfl
@[simp] theorem h86_par : h86.par = [[(some (6, (58, false)))]] := rfl
@[simp] theorem h86_res : h86.res = [] := rfl
@[simp] theorem h86_shr : h86.shr = [2] := rfl
@[simp] theorem callOk87 : callOk Try.prog 87 = true := by kernel_rfl
@[simp] theorem hint87 : lore.hint 87 = h87 := rfl
@[simp] theorem h87_var : h87.var = [0, 1, 2, 3, 4, 5, 10] := rfl
@[simp] theorem h87_own : h87.own = [2, 3] := rfl
@[simp] theorem h87_keep : h87.keep = [(5, [1, 3, 10])] := rfl
@[simp] theorem h87_out : h87.out = [(5, [1, 3])] := rfl
@[simp] theorem h87_row : h87.row = [(1, [(some (6, (58, false)))]), (2, [(some (1, (3, false)))]), (3, [(some (1, (3, true)))])] := rfl
@[simp] theorem h87_par : h87.par = [[(some (6, (58, false)))]] := rfl
@[simp] theorem h87_res : h87.res = [[(some (1, (3, false)))]] := rfl
@[simp] theorem h87_shr : h87.shr = [2] := rfl
@[simp] theorem callOk89 : callOk Try.prog 89 = true := by kernel_rfl
@[simp] theorem hint89 : lore.hint 89 = h89 := rfl
@[simp] theorem h89_var : h89.var = [0, 1, 2, 3, 4] := rfl
@[simp] theorem h89_own : h89.own = [4] := rfl
@[simp] theorem h89_keep : h89.keep = [] := rfl
@[simp] theorem h89_out : h89.out = [] := rfl
@[simp] theorem h89_row : h89.row = [(2, [(some (6, (58, false)))]), (3, [(some (6, (58, false)))])] := rfl
@[simp] theorem h89_par : h89.par = [[(some (6, (58, false)))], [(some (6, (58, false)))]] := rfl
@[simp] theorem h89_res : h89.res = [] := rfl
@[simp] theorem h89_shr : h89.shr = [4] := rfl
@[simp] theorem callOk92 : callOk Try.prog 92 = true := by kernel_rfl
@[simp] theorem hint92 : lore.hint 92 = h92 := rfl
@[simp] theorem h92_var : h92.var = [0, 1, 2, 3, 4, 5] := rfl
@[simp] theorem h92_own : h92.own = [2, 3] := rfl
@[simp] theorem h92_keep : h92.keep = [(3, [1, 2, 3, 4])] := rfl
@[simp] theorem h92_out : h92.out = [(3, [2, 3])] := rfl
@[simp] theorem h92_row : h92.row = [(1, [(some (6, (58, false)))]), (2, [(some (6, (58, true)))]), (3, [(some (6, (58, true)))]), (5, [none, none, (some (1, (3, false)))])] := rfl
@[simp] theorem h92_par : h92.par = [[(some (6, (58, false)))]] := rfl
@[simp] theorem h92_res : h92.res = [[(some (6, (58, true)))]] := rfl
@[simp] theorem h92_shr : h92.shr = [2, 4098] := rfl
@[simp] theorem hint94 : lore.hint 94 = h94 := rfl
@[simp] theorem h94_var : h94.var = [0, 2] := rfl
@[simp] theorem h94_own : h94.own = [2] := rfl
@[simp] theorem h94_keep : h94.keep = [] := rfl
@[simp] theorem h94_out : h94.out = [] := rfl
@[simp] theorem h94_row : h94.row = [(2, [(some (8, (30, true)))])] := rfl
@[simp] theorem h94_par : h94.par = [] := rfl
@[simp] theorem h94_res : h94.res = [[(some (8, (30, true)))]] := rfl
@[simp] theorem h94_shr : h94.shr = [] := rfl
@[simp] theorem callOk96 : callOk Try.prog 96 = true := by kernel_rfl
@[simp] theorem hint96 : lore.hint 96 = h96 := rfl
@[simp] theorem h96_var : h96.var = [0, 1, 2, 3] := rfl
@[simp] theorem h96_own : h96.own = [2, 3] := rfl
@[simp] theorem h96_keep : h96.keep = [] := rfl
@[simp] theorem h96_out : h96.out = [] := rfl
@[simp] theorem h96_row : h96.row = [(1, [(some (6, (58, false)))])] := rfl
@[simp] theorem h96_par : h96.par = [[(some (6, (58, false)))]] := rfl
@[simp] theorem h96_res : h96.res = [] := rfl
@[simp] theorem h96_shr : h96.shr = [2] := rfl
@[simp] theorem callOk97 : callOk Try.prog 97 = true := by kernel_rfl
@[simp] theorem hint97 : lore.hint 97 = h97 := rfl
@[simp] theorem h97_var : h97.var = [0, 1, 4, 5, 6] := rfl
@[simp] theorem h97_own : h97.own = [0, 4] := rfl
@[simp] theorem h97_keep : h97.keep = [] := rfl
@[simp] theorem h97_out : h97.out = [] := rfl
@[simp] theorem h97_row : h97.row = [] := rfl
@[simp] theorem h97_par : h97.par = [] := rfl
@[simp] theorem h97_res : h97.res = [] := rfl
@[simp] theorem h97_shr : h97.shr = [4] := rfl
@[simp] theorem callOk99 : callOk Try.prog 99 = true := by kernel_rfl
@[simp] theorem hint99 : lore.hint 99 = h99 := rfl
@[simp] theorem h99_var : h99.var = [0, 2, 3, 4] := rfl
@[simp] theorem h99_own : h99.own = [2, 3] := rfl
@[simp] theorem h99_keep : h99.keep = [] := rfl
@[simp] theorem h99_out : h99.out = [] := rfl
@[simp] theorem h99_row : h99.row = [] := rfl
@[simp] theorem h99_par : h99.par = [] := rfl
@[simp] theorem h99_res : h99.res = [] := rfl
@[simp] theorem h99_shr : h99.shr = [2, 3] := rfl
@[simp] theorem callOk101 : callOk Try.prog 101 = true := by kernel_rfl
@[simp] theorem hint101 : lore.hint 101 = h101 := rfl
@[simp] theorem h101_var : h101.var = [0, 1, 2, 3, 4, 5] := rfl
@[simp] theorem h101_own : h101.own = [4] := rfl
@[simp] theorem h101_keep : h101.keep = [(2, [2, 3, 5])] := rfl
@[simp] theorem h101_out : h101.out = [(2, [2, 3, 4])] := rfl
@[simp] theorem h101_row : h101.row = [(2, [(some (6, (58, false)))]), (3, [none, none, (some (1, (3, false)))])] := rfl
@[simp] theorem h101_par : h101.par = [[(some (6, (58, false)))], [none, none, (some (1, (3, false)))]] := rfl
@[simp] theorem h101_res : h101.res = [] := rfl
@[simp] theorem h101_shr : h101.shr = [4] := rfl
@[simp] theorem callOk102 : callOk Try.prog 102 = true := by kernel_rfl
@[simp] theorem hint102 : lore.hint 102 = h102 := rfl
@[simp] theorem h102_var : h102.var = [0, 2] := rfl
@[simp] theorem h102_own : h102.own = [2] := rfl
@[simp] theorem h102_keep : h102.keep = [] := rfl
@[simp] theorem h102_out : h102.out = [] := rfl
@[simp] theorem h102_row : h102.row = [] := rfl
@[simp] theorem h102_par : h102.par = [] := rfl
@[simp] theorem h102_res : h102.res = [] := rfl
@[simp] theorem h102_shr : h102.shr = [2] := rfl
@[simp] theorem callOk103 : callOk Try.prog 103 = true := by kernel_rfl
@[simp] theorem hint103 : lore.hint 103 = h103 := rfl
@[simp] theorem h103_var : h103.var = [0, 2, 3] := rfl
@[simp] theorem h103_own : h103.own = [2, 3] := rfl
@[simp] theorem h103_keep : h103.keep = [] := rfl
@[simp] theorem h103_out : h103.out = [] := rfl
@[simp] theorem h103_row : h103.row = [] := rfl
@[simp] theorem h103_par : h103.par = [] := rfl
@[simp] theorem h103_res : h103.res = [] := rfl
@[simp] theorem h103_shr : h103.shr = [2, 3] := rfl
@[simp] theorem callOk104 : callOk Try.prog 104 = true := by kernel_rfl
@[simp] theorem hint104 : lore.hint 104 = h104 := rfl
@[simp] theorem h104_var : h104.var = [0, 2, 4, 6] := rfl
@[simp] theorem h104_own : h104.own = [2] := rfl
@[simp] theorem h104_keep : h104.keep = [] := rfl
@[simp] theorem h104_out : h104.out = [] := rfl
@[simp] theorem h104_row : h104.row = [] := rfl
@[simp] theorem h104_par : h104.par = [] := rfl
@[simp] theorem h104_res : h104.res = [] := rfl
@[simp] theorem h104_shr : h104.shr = [2] := rfl
@[simp] theorem callOk105 : callOk Try.prog 105 = true := by kernel_rfl
@[simp] theorem hint105 : lore.hint 105 = h105 := rfl
@[simp] theorem h105_var : h105.var = [0, 1, 4, 5, 6, 7, 11, 12, 13] := rfl
@[simp] theorem h105_own : h105.own = [0, 4, 5] := rfl
@[simp] theorem h105_keep : h105.keep = [(3, [0, 5, 11, 12, 13])] := rfl
@[simp] theorem h105_out : h105.out = [(3, [5])] := rfl
@[simp] theorem h105_row : h105.row = [(4, [(some (1, (3, false)))]), (5, [(some (1, (3, true)))]), (11, [(some (1, (3, false)))])] := rfl
@[simp] theorem h105_par : h105.par = [[], [(some (1, (3, false)))]] := rfl
@[simp] theorem h105_res : h105.res = [[(some (1, (3, false)))]] := rfl
@[simp] theorem h105_shr : h105.shr = [4] := rfl
@[simp] theorem callOk106 : callOk Try.prog 106 = true := by kernel_rfl
@[simp] theorem hint106 : lore.hint 106 = h106 := rfl
@[simp] theorem h106_var : h106.var = [0, 1, 4, 5, 6, 7, 8] := rfl
@[simp] theorem h106_own : h106.own = [0, 4] := rfl
@[simp] theorem h106_keep : h106.keep = [] := rfl
@[simp] theorem h106_out : h106.out = [] := rfl
@[simp] theorem h106_row : h106.row = [] := rfl
@[simp] theorem h106_par : h106.par = [] := rfl
@[simp] theorem h106_res : h106.res = [] := rfl
@[simp] theorem h106_shr : h106.shr = [4] := rfl
@[simp] theorem callOk109 : callOk Try.prog 109 = true := by kernel_rfl
@[simp] theorem hint109 : lore.hint 109 = h109 := rfl
@[simp] theorem h109_var : h109.var = [0, 1, 2, 3, 4, 5] := rfl
@[simp] theorem h109_own : h109.own = [4] := rfl
@[simp] theorem h109_keep : h109.keep = [(4, [2, 3, 5])] := rfl
@[simp] theorem h109_out : h109.out = [(4, [4])] := rfl
@[simp] theorem h109_row : h109.row = [(2, [none, none, (some (1, (3, false)))]), (3, [none, none, (some (1, (3, false)))])] := rfl
@[simp] theorem h109_par : h109.par = [[none, none, (some (1, (3, false)))], [none, none, (some (1, (3, false)))]] := rfl
@[simp] theorem h109_res : h109.res = [] := rfl
@[simp] theorem h109_shr : h109.shr = [4] := rfl
@[simp] theorem callOk110 : callOk Try.prog 110 = true := by kernel_rfl
@[simp] theorem hint110 : lore.hint 110 = h110 := rfl
@[simp] theorem h110_var : h110.var = [0, 1, 4, 5, 12, 13] := rfl
@[simp] theorem h110_own : h110.own = [4] := rfl
@[simp] theorem h110_keep : h110.keep = [(4, [0, 1, 12, 13])] := rfl
@[simp] theorem h110_out : h110.out = [(4, [4])] := rfl
@[simp] theorem h110_row : h110.row = [] := rfl
@[simp] theorem h110_par : h110.par = [] := rfl
@[simp] theorem h110_res : h110.res = [] := rfl
@[simp] theorem h110_shr : h110.shr = [] := rfl
@[simp] theorem callOk111 : callOk Try.prog 111 = true := by kernel_rfl
@[simp] theorem hint111 : lore.hint 111 = h111 := rfl
@[simp] theorem h111_var : h111.var = [0, 1, 2, 6, 7, 8, 9, 15, 16, 17] := rfl
@[simp] theorem h111_own : h111.own = [6] := rfl
@[simp] theorem h111_keep : h111.keep = [(4, [1, 2, 15, 16, 17])] := rfl
@[simp] theorem h111_out : h111.out = [(4, [6])] := rfl
@[simp] theorem h111_row : h111.row = [(8, [none, none, (some (1, (3, false)))]), (9, [none, none, (some (1, (3, false)))]), (15, [(some (6, (58, false)))])] := rfl
@[simp] theorem h111_par : h111.par = [] := rfl
@[simp] theorem h111_res : h111.res = [] := rfl
@[simp] theorem h111_shr : h111.shr = [] := rfl
@[simp] theorem callOk112 : callOk Try.prog 112 = true := by kernel_rfl
@[simp] theorem hint112 : lore.hint 112 = h112 := rfl
@[simp] theorem h112_var : h112.var = [0, 1, 2, 3, 4] := rfl
@[simp] theorem h112_own : h112.own = [4] := rfl
@[simp] theorem h112_keep : h112.keep = [] := rfl
@[simp] theorem h112_out : h112.out = [] := rfl
@[simp] theorem h112_row : h112.row = [(2, [none, none, (some (1, (3, false)))]), (3, [none, none, (some (1, (3, false)))])] := rfl
@[simp] theorem h112_par : h112.par = [[none, none, (some (1, (3, false)))], [none, none, (some (1, (3, false)))]] := rfl
@[simp] theorem h112_res : h112.res = [] := rfl
@[simp] theorem h112_shr : h112.shr = [4] := rfl
@[simp] theorem hint123 : lore.hint 123 = h123 := rfl
@[simp] theorem h123_var : h123.var = [0, 2] := rfl
@[simp] theorem h123_own : h123.own = [2] := rfl
@[simp] theorem h123_keep : h123.keep = [] := rfl
@[simp] theorem h123_out : h123.out = [] := rfl
@[simp] theorem h123_row : h123.row = [(2, [(some (6, (58, true)))])] := rfl
@[simp] theorem h123_par : h123.par = [] := rfl
@[simp] theorem h123_res : h123.res = [[(some (6, (58, true)))]] := rfl
@[simp] theorem h123_shr : h123.shr = [] := rfl
@[simp] theorem callOk127 : callOk Try.prog 127 = true := by kernel_rfl
@[simp] theorem hint127 : lore.hint 127 = h127 := rfl
@[simp] theorem h127_var : h127.var = [0, 1, 4, 5, 6, 7, 8] := rfl
@[simp] theorem h127_own : h127.own = [4, 7] := rfl
@[simp] theorem h127_keep : h127.keep = [(8, [7, 8])] := rfl
@[simp] theorem h127_out : h127.out = [(8, [7])] := rfl
@[simp] theorem h127_row : h127.row = [(4, [(some (1, (3, true)))]), (7, [(some (1, (3, true)))])] := rfl
@[simp] theorem h127_par : h127.par = [] := rfl
@[simp] theorem h127_res : h127.res = [[(some (1, (3, true)))]] := rfl
@[simp] theorem h127_shr : h127.shr = [] := rfl
@[simp] theorem callOk129 : callOk Try.prog 129 = true := by kernel_rfl
@[simp] theorem hint129 : lore.hint 129 = h129 := rfl
@[simp] theorem h129_var : h129.var = [0, 1, 4, 5, 6, 7, 11, 12, 13] := rfl
@[simp] theorem h129_own : h129.own = [4, 5] := rfl
@[simp] theorem h129_keep : h129.keep = [(3, [0, 5, 11, 12, 13])] := rfl
@[simp] theorem h129_out : h129.out = [(3, [5])] := rfl
@[simp] theorem h129_row : h129.row = [(4, [(some (1, (3, false)))]), (5, [(some (1, (3, true)))]), (11, [(some (1, (3, false)))])] := rfl
@[simp] theorem h129_par : h129.par = [[(some (1, (3, false)))], [(some (1, (3, false)))]] := rfl
@[simp] theorem h129_res : h129.res = [[(some (1, (3, false)))]] := rfl
@[simp] theorem h129_shr : h129.shr = [4] := rfl
@[simp] theorem callOk131 : callOk Try.prog 131 = true := by kernel_rfl
@[simp] theorem hint131 : lore.hint 131 = h131 := rfl
@[simp] theorem h131_var : h131.var = [0, 2, 3, 4] := rfl
@[simp] theorem h131_own : h131.own = [2, 3] := rfl
@[simp] theorem h131_keep : h131.keep = [] := rfl
@[simp] theorem h131_out : h131.out = [] := rfl
@[simp] theorem h131_row : h131.row = [] := rfl
@[simp] theorem h131_par : h131.par = [] := rfl
@[simp] theorem h131_res : h131.res = [] := rfl
@[simp] theorem h131_shr : h131.shr = [2, 3] := rfl
@[simp] theorem callOk132 : callOk Try.prog 132 = true := by kernel_rfl
@[simp] theorem hint132 : lore.hint 132 = h132 := rfl
@[simp] theorem h132_var : h132.var = [0, 2, 3] := rfl
@[simp] theorem h132_own : h132.own = [2, 3] := rfl
@[simp] theorem h132_keep : h132.keep = [] := rfl
@[simp] theorem h132_out : h132.out = [] := rfl
@[simp] theorem h132_row : h132.row = [] := rfl
@[simp] theorem h132_par : h132.par = [] := rfl
@[simp] theorem h132_res : h132.res = [] := rfl
@[simp] theorem h132_shr : h132.shr = [2, 3] := rfl
@[simp] theorem callOk134 : callOk Try.prog 134 = true := by kernel_rfl
@[simp] theorem hint134 : lore.hint 134 = h134 := rfl
@[simp] theorem h134_var : h134.var = [0, 1, 2] := rfl
@[simp] theorem h134_own : h134.own = [0, 1] := rfl
@[simp] theorem h134_keep : h134.keep = [(3, [0, 1, 2])] := rfl
@[simp] theorem h134_out : h134.out = [(3, [0, 1])] := rfl
@[simp] theorem h134_row : h134.row = [(0, [(some (6, (58, true)))]), (1, [(some (6, (58, true)))])] := rfl
@[simp] theorem h134_par : h134.par = [] := rfl
@[simp] theorem h134_res : h134.res = [[(some (6, (58, false)))]] := rfl
@[simp] theorem h134_shr : h134.shr = [0] := rfl
@[simp] theorem callOk135 : callOk Try.prog 135 = true := by kernel_rfl
@[simp] theorem hint135 : lore.hint 135 = h135 := rfl
@[simp] theorem h135_var : h135.var = [0, 1, 2] := rfl
@[simp] theorem h135_own : h135.own = [2] := rfl
@[simp] theorem h135_keep : h135.keep = [] := rfl
@[simp] theorem h135_out : h135.out = [] := rfl
@[simp] theorem h135_row : h135.row = [(1, [(some (6, (58, false)))])] := rfl
@[simp] theorem h135_par : h135.par = [[(some (6, (58, false)))]] := rfl
@[simp] theorem h135_res : h135.res = [] := rfl
@[simp] theorem h135_shr : h135.shr = [2] := rfl
@[simp] theorem callOk138 : callOk Try.prog 138 = true := by kernel_rfl
@[simp] theorem hint138 : lore.hint 138 = h138 := rfl
@[simp] theorem h138_var : h138.var = [0, 1, 4] := rfl
@[simp] theorem h138_own : h138.own = [4] := rfl
@[simp] theorem h138_keep : h138.keep = [] := rfl
@[simp] theorem h138_out : h138.out = [] := rfl
@[simp] theorem h138_row : h138.row = [] := rfl
@[simp] theorem h138_par : h138.par = [] := rfl
@[simp] theorem h138_res : h138.res = [] := rfl
@[simp] theorem h138_shr : h138.shr = [4] := rfl
@[simp] theorem callOk139 : callOk Try.prog 139 = true := by kernel_rfl
@[simp] theorem hint139 : lore.hint 139 = h139 := rfl
@[simp] theorem h139_var : h139.var = [0, 1, 4] := rfl
@[simp] theorem h139_own : h139.own = [4] := rfl
@[simp] theorem h139_keep : h139.keep = [] := rfl
@[simp] theorem h139_out : h139.out = [] := rfl
@[simp] theorem h139_row : h139.row = [] := rfl
@[simp] theorem h139_par : h139.par = [] := rfl
@[simp] theorem h139_res : h139.res = [] := rfl
@[simp] theorem h139_shr : h139.shr = [] := rfl
@[simp] theorem callOk140 : callOk Try.prog 140 = true := by kernel_rfl
@[simp] theorem hint140 : lore.hint 140 = h140 := rfl
@[simp] theorem h140_var : h140.var = [0, 1, 2, 3] := rfl
@[simp] theorem h140_own : h140.own = [3] := rfl
@[simp] theorem h140_keep : h140.keep = [] := rfl
@[simp] theorem h140_out : h140.out = [] := rfl
@[simp] theorem h140_row : h140.row = [(2, [none, none, (some (1, (3, false)))])] := rfl
@[simp] theorem h140_par : h140.par = [[none, none, (some (1, (3, false)))]] := rfl
@[simp] theorem h140_res : h140.res = [] := rfl
@[simp] theorem h140_shr : h140.shr = [3] := rfl
@[simp] theorem callOk141 : callOk Try.prog 141 = true := by kernel_rfl
@[simp] theorem hint141 : lore.hint 141 = h141 := rfl
@[simp] theorem h141_var : h141.var = [0, 1, 2, 3, 4] := rfl
@[simp] theorem h141_own : h141.own = [2, 4] := rfl
@[simp] theorem h141_keep : h141.keep = [] := rfl
@[simp] theorem h141_out : h141.out = [] := rfl
@[simp] theorem h141_row : h141.row = [(3, [none, none, (some (1, (3, false)))])] := rfl
@[simp] theorem h141_par : h141.par = [[], [none, none, (some (1, (3, false)))]] := rfl
@[simp] theorem h141_res : h141.res = [] := rfl
@[simp] theorem h141_shr : h141.shr = [4] := rfl
@[simp] theorem callOk142 : callOk Try.prog 142 = true := by kernel_rfl
@[simp] theorem hint142 : lore.hint 142 = h142 := rfl
@[simp] theorem h142_var : h142.var = [0, 2] := rfl
@[simp] theorem h142_own : h142.own = [2] := rfl
@[simp] theorem h142_keep : h142.keep = [] := rfl
@[simp] theorem h142_out : h142.out = [] := rfl
@[simp] theorem h142_row : h142.row = [] := rfl
@[simp] theorem h142_par : h142.par = [] := rfl
@[simp] theorem h142_res : h142.res = [] := rfl
@[simp] theorem h142_shr : h142.shr = [2] := rfl
@[simp] theorem callOk145 : callOk Try.prog 145 = true := by kernel_rfl
@[simp] theorem hint145 : lore.hint 145 = h145 := rfl
@[simp] theorem h145_var : h145.var = [0, 2] := rfl
@[simp] theorem h145_own : h145.own = [2] := rfl
@[simp] theorem h145_keep : h145.keep = [] := rfl
@[simp] theorem h145_out : h145.out = [] := rfl
@[simp] theorem h145_row : h145.row = [] := rfl
@[simp] theorem h145_par : h145.par = [] := rfl
@[simp] theorem h145_res : h145.res = [] := rfl
@[simp] theorem h145_shr : h145.shr = [2] := rfl
@[simp] theorem hint146 : lore.hint 146 = h146 := rfl
@[simp] theorem h146_var : h146.var = [0, 2] := rfl
@[simp] theorem h146_own : h146.own = [2] := rfl
@[simp] theorem h146_keep : h146.keep = [] := rfl
@[simp] theorem h146_out : h146.out = [] := rfl
@[simp] theorem h146_row : h146.row = [(2, [(some (1, (3, true)))])] := rfl
@[simp] theorem h146_par : h146.par = [] := rfl
@[simp] theorem h146_res : h146.res = [[(some (1, (3, true)))]] := rfl
@[simp] theorem h146_shr : h146.shr = [] := rfl
@[simp] theorem callOk147 : callOk Try.prog 147 = true := by kernel_rfl
@[simp] theorem hint147 : lore.hint 147 = h147 := rfl
@[simp] theorem h147_var : h147.var = [0, 1, 4, 5, 6, 7, 8, 9] := rfl
@[simp] theorem h147_own : h147.own = [4, 5] := rfl
@[simp] theorem h147_keep : h147.keep = [] := rfl
@[simp] theorem h147_out : h147.out = [] := rfl
@[simp] theorem h147_row : h147.row = [] := rfl
@[simp] theorem h147_par : h147.par = [] := rfl
@[simp] theorem h147_res : h147.res = [] := rfl
@[simp] theorem h147_shr : h147.shr = [4, 5] := rfl
@[simp] theorem callOk148 : callOk Try.prog 148 = true := by kernel_rfl
@[simp] theorem hint148 : lore.hint 148 = h148 := rfl
@[simp] theorem h148_var : h148.var = [0, 2] := rfl
@[simp] theorem h148_own : h148.own = [2] := rfl
@[simp] theorem h148_keep : h148.keep = [] := rfl
@[simp] theorem h148_out : h148.out = [] := rfl
@[simp] theorem h148_row : h148.row = [] := rfl
@[simp] theorem h148_par : h148.par = [] := rfl
@[simp] theorem h148_res : h148.res = [] := rfl
@[simp] theorem h148_shr : h148.shr = [2] := rfl
@[simp] theorem callOk149 : callOk Try.prog 149 = true := by kernel_rfl
@[simp] theorem hint149 : lore.hint 149 = h149 := rfl
@[simp] theorem h149_var : h149.var = [0, 1, 2, 4, 5, 6] := rfl
@[simp] theorem h149_own : h149.own = [4] := rfl
@[simp] theorem h149_keep : h149.keep = [] := rfl
@[simp] theorem h149_out : h149.out = [] := rfl
@[simp] theorem h149_row : h149.row = [(2, [(some (6, (58, false)))])] := rfl
@[simp] theorem h149_par : h149.par = [[(some (6, (58, false)))]] := rfl
@[simp] theorem h149_res : h149.res = [] := rfl
@[simp] theorem h149_shr : h149.shr = [4] := rfl
@[simp] theorem callOk150 : callOk Try.prog 150 = true := by kernel_rfl
@[simp] theorem hint150 : lore.hint 150 = h150 := rfl
@[simp] theorem h150_var : h150.var = [0, 1, 4] := rfl
@[simp] theorem h150_own : h150.own = [4] := rfl
@[simp] theorem h150_keep : h150.keep = [] := rfl
@[simp] theorem h150_out : h150.out = [] := rfl
@[simp] theorem h150_row : h150.row = [] := rfl
@[simp] theorem h150_par : h150.par = [] := rfl
@[simp] theorem h150_res : h150.res = [] := rfl
@[simp] theorem h150_shr : h150.shr = [4] := rfl
@[simp] theorem callOk151 : callOk Try.prog 151 = true := by kernel_rfl
@[simp] theorem hint151 : lore.hint 151 = h151 := rfl
@[simp] theorem h151_var : h151.var = [0, 1, 4, 5, 7, 8] := rfl
@[simp] theorem h151_own : h151.own = [4] := rfl
@[simp] theorem h151_keep : h151.keep = [(2, [0, 1, 7, 8])] := rfl
@[simp] theorem h151_out : h151.out = [(2, [4])] := rfl
@[simp] theorem h151_row : h151.row = [] := rfl
@[simp] theorem h151_par : h151.par = [] := rfl
@[simp] theorem h151_res : h151.res = [] := rfl
@[simp] theorem h151_shr : h151.shr = [] := rfl
@[simp] theorem callOk152 : callOk Try.prog 152 = true := by kernel_rfl
@[simp] theorem hint152 : lore.hint 152 = h152 := rfl
@[simp] theorem h152_var : h152.var = [0, 1, 4, 5, 6] := rfl
@[simp] theorem h152_own : h152.own = [4] := rfl
@[simp] theorem h152_keep : h152.keep = [] := rfl
@[simp] theorem h152_out : h152.out = [] := rfl
@[simp] theorem h152_row : h152.row = [] := rfl
@[simp] theorem h152_par : h152.par = [] := rfl
@[simp] theorem h152_res : h152.res = [] := rfl
@[simp] theorem h152_shr : h152.shr = [4] := rfl
@[simp] theorem callOk153 : callOk Try.prog 153 = true := by kernel_rfl
@[simp] theorem hint153 : lore.hint 153 = h153 := rfl
@[simp] theorem h153_var : h153.var = [0, 2] := rfl
@[simp] theorem h153_own : h153.own = [2] := rfl
@[simp] theorem h153_keep : h153.keep = [] := rfl
@[simp] theorem h153_out : h153.out = [] := rfl
@[simp] theorem h153_row : h153.row = [] := rfl
@[simp] theorem h153_par : h153.par = [] := rfl
@[simp] theorem h153_res : h153.res = [] := rfl
@[simp] theorem h153_shr : h153.shr = [2] := rfl
@[simp] theorem callOk154 : callOk Try.prog 154 = true := by kernel_rfl
@[simp] theorem hint154 : lore.hint 154 = h154 := rfl
@[simp] theorem h154_var : h154.var = [0, 1, 4] := rfl
@[simp] theorem h154_own : h154.own = [4] := rfl
@[simp] theorem h154_keep : h154.keep = [] := rfl
@[simp] theorem h154_out : h154.out = [] := rfl
@[simp] theorem h154_row : h154.row = [] := rfl
@[simp] theorem h154_par : h154.par = [] := rfl
@[simp] theorem h154_res : h154.res = [] := rfl
@[simp] theorem h154_shr : h154.shr = [] := rfl
@[simp] theorem callOk155 : callOk Try.prog 155 = true := by kernel_rfl
@[simp] theorem hint155 : lore.hint 155 = h155 := rfl
@[simp] theorem h155_var : h155.var = [0, 1, 3] := rfl
@[simp] theorem h155_own : h155.own = [3] := rfl
@[simp] theorem h155_keep : h155.keep = [] := rfl
@[simp] theorem h155_out : h155.out = [] := rfl
@[simp] theorem h155_row : h155.row = [] := rfl
@[simp] theorem h155_par : h155.par = [] := rfl
@[simp] theorem h155_res : h155.res = [] := rfl
@[simp] theorem h155_shr : h155.shr = [3] := rfl
@[simp] theorem callOk156 : callOk Try.prog 156 = true := by kernel_rfl
@[simp] theorem hint156 : lore.hint 156 = h156 := rfl
@[simp] theorem h156_var : h156.var = [0, 1, 4, 6] := rfl
@[simp] theorem h156_own : h156.own = [4] := rfl
@[simp] theorem h156_keep : h156.keep = [] := rfl
@[simp] theorem h156_out : h156.out = [] := rfl
@[simp] theorem h156_row : h156.row = [] := rfl
@[simp] theorem h156_par : h156.par = [] := rfl
@[simp] theorem h156_res : h156.res = [] := rfl
@[simp] theorem h156_shr : h156.shr = [4] := rfl
@[simp] theorem callOk158 : callOk Try.prog 158 = true := by kernel_rfl
@[simp] theorem hint158 : lore.hint 158 = h158 := rfl
@[simp] theorem h158_var : h158.var = [0, 2, 3, 4] := rfl
@[simp] theorem h158_own : h158.own = [2] := rfl
@[simp] theorem h158_keep : h158.keep = [] := rfl
@[simp] theorem h158_out : h158.out = [] := rfl
@[simp] theorem h158_row : h158.row = [] := rfl
@[simp] theorem h158_par : h158.par = [] := rfl
@[simp] theorem h158_res : h158.res = [] := rfl
@[simp] theorem h158_shr : h158.shr = [2] := rfl
@[simp] theorem callOk159 : callOk Try.prog 159 = true := by kernel_rfl
@[simp] theorem hint159 : lore.hint 159 = h159 := rfl
@[simp] theorem h159_var : h159.var = [0] := rfl
@[simp] theorem h159_own : h159.own = [0] := rfl
@[simp] theorem h159_keep : h159.keep = [] := rfl
@[simp] theorem h159_out : h159.out = [] := rfl
@[simp] theorem h159_row : h159.row = [] := rfl
@[simp] theorem h159_par : h159.par = [] := rfl
@[simp] theorem h159_res : h159.res = [] := rfl
@[simp] theorem h159_shr : h159.shr = [0] := rfl
@[simp] theorem callOk161 : callOk Try.prog 161 = true := by kernel_rfl
@[simp] theorem hint161 : lore.hint 161 = h161 := rfl
@[simp] theorem h161_var : h161.var = [0, 1, 4, 5, 6, 7, 8, 9, 10, 11, 12, 13] := rfl
@[simp] theorem h161_own : h161.own = [4, 5] := rfl
@[simp] theorem h161_keep : h161.keep = [] := rfl
@[simp] theorem h161_out : h161.out = [] := rfl
@[simp] theorem h161_row : h161.row = [] := rfl
@[simp] theorem h161_par : h161.par = [] := rfl
@[simp] theorem h161_res : h161.res = [] := rfl
@[simp] theorem h161_shr : h161.shr = [4, 5] := rfl
@[simp] theorem callOk164 : callOk Try.prog 164 = true := by kernel_rfl
@[simp] theorem hint164 : lore.hint 164 = h164 := rfl
@[simp] theorem h164_var : h164.var = [0, 1, 4, 5, 7, 8] := rfl
@[simp] theorem h164_own : h164.own = [4] := rfl
@[simp] theorem h164_keep : h164.keep = [(2, [0, 1, 7, 8])] := rfl
@[simp] theorem h164_out : h164.out = [(2, [4])] := rfl
@[simp] theorem h164_row : h164.row = [] := rfl
@[simp] theorem h164_par : h164.par = [] := rfl
@[simp] theorem h164_res : h164.res = [] := rfl
@[simp] theorem h164_shr : h164.shr = [] := rfl
@[simp] theorem callOk165 : callOk Try.prog 165 = true := by kernel_rfl
@[simp] theorem hint165 : lore.hint 165 = h165 := rfl
@[simp] theorem h165_var : h165.var = [0, 2] := rfl
@[simp] theorem h165_own : h165.own = [2] := rfl
@[simp] theorem h165_keep : h165.keep = [] := rfl
@[simp] theorem h165_out : h165.out = [] := rfl
@[simp] theorem h165_row : h165.row = [] := rfl
@[simp] theorem h165_par : h165.par = [] := rfl
@[simp] theorem h165_res : h165.res = [] := rfl
@[simp] theorem h165_shr : h165.shr = [2] := rfl
@[simp] theorem callOk168 : callOk Try.prog 168 = true := by kernel_rfl
@[simp] theorem hint168 : lore.hint 168 = h168 := rfl
@[simp] theorem h168_var : h168.var = [0] := rfl
@[simp] theorem h168_own : h168.own = [0] := rfl
@[simp] theorem h168_keep : h168.keep = [] := rfl
@[simp] theorem h168_out : h168.out = [] := rfl
@[simp] theorem h168_row : h168.row = [] := rfl
@[simp] theorem h168_par : h168.par = [] := rfl
@[simp] theorem h168_res : h168.res = [] := rfl
@[simp] theorem h168_shr : h168.shr = [0] := rfl
end Go.Pv

namespace Go.Pv
open Go Go.Proofs
attribute [simp] fr_GObj fr_GState
theorem clone_ev {e sz by_ : Nat} {f : FuncId} (ht : lore.told f = some (cloneS e sz by_)) (hp : (lore.hint f).par = []) (hr : (lore.hint f).res = [[some (sz, e, true)]]) {α : Type} [Enc α] (hn : Enc.n α = sz) (l : List α) (fr : Frames) :
    cO Try.prog lore f [.t (.sl sz (els l))] fr = if l.length * by_ ≤ most then some (.val (.own e sz (els l)), fr) else none := by
  rw [cO_told ht, hp, hr]
  have h1 := els_all l sz hn
  by_cases h : l.length * by_ ≤ most
  · simp only [noOwn, List.map_nil, seamVs, cloneS, els_len, h, h1, and_self, if_true, Option.map_some, wrapThen, Res.seam, seamR, List.headD, seamV, seam1, D.seam]
  · simp only [noOwn, List.map_nil, seamVs, cloneS, els_len, h, false_and, and_false, if_false, Option.map_none, wrapThen]
theorem clone_nil {e sz by_ : Nat} {f : FuncId} (ht : lore.told f = some (cloneS e sz by_)) (hp : (lore.hint f).par = []) (hr : (lore.hint f).res = [[some (sz, e, true)]]) (fr : Frames) :
    cO Try.prog lore f [.t (.sc (.slice none 0 0))] fr = some (.val (.own e sz []), fr) := by
  rw [cO_told ht, hp, hr]
  rfl
@[simp ↓] theorem f_clone94 (l : List GState) (fr : Frames) : cO Try.prog lore 94 [.t (.sl 8 (els l))] fr = if l.length * 80 ≤ most then some (.val (.own 30 8 (els l)), fr) else none := clone_ev rfl rfl rfl rfl l fr
@[simp ↓] theorem f_clone123 (l : List GObj) (fr : Frames) : cO Try.prog lore 123 [.t (.sl 6 (els l))] fr = if l.length * 72 ≤ most then some (.val (.own 58 6 (els l)), fr) else none := clone_ev rfl rfl rfl rfl l fr
@[simp ↓] theorem f_clone146 (l : List Int) (fr : Frames) : cO Try.prog lore 146 [.t (.sl 1 (els l))] fr = if l.length * 8 ≤ most then some (.val (.own 3 1 (els l)), fr) else none := clone_ev rfl rfl rfl rfl l fr
@[simp ↓] theorem f_flt_Canon (b : Int) (fr : Frames) : cO Try.prog lore 153 [.t (.sc (.int .i64 b))] fr = some (.val (I (canonF b)), fr) := by
  rw [cO_told (s := canonS) rfl]
  rfl
theorem run_at {f : FuncId} {args : List D} {r : Res × Frames} (k : Nat) (h : call Try.prog lore k f args [] = some r) : cO Try.prog lore f args [] = some r := cO_iff.2 ⟨k, h⟩
end Go.Pv
