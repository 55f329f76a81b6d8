/- A part of the road: the interpreter of plain data and the proof that it is right. -/
import Derived.Test.YtcomdnpeoicpkaaD
import Derived.Test.YtcomdnpeoicpkaaG
set_option linter.unusedVariables false
set_option linter.unusedSimpArgs false
/- slices.Clone, told: whatever the slice, nil among them. -/
namespace Go.Pv
open Go.RowKit
theorem frs_outer {B : Nat} {G : Gh} {frs : Frames} {w : World} (F : FrS B G frs w) : frs.all (fun b => b.all fun c => c.all D.outer) = true := by
  have noal : ∀ s, ¬ G.al frs.length s := fun s => F.bxn.1 s rfl
  rw [List.all_eq_true]
  intro b hb
  obtain ⟨f, hf⟩ := List.getElem?_of_mem hb
  rw [List.all_eq_true]
  intro c hc
  obtain ⟨s, hs⟩ := List.getElem?_of_mem hc
  rw [List.all_eq_true]
  intro d hd
  obtain ⟨o, ho⟩ := List.getElem?_of_mem hd
  have hne : c ≠ [] := fun e => by subst e; cases hd
  obtain ⟨_, _, _, us, T, _, hsz, _, hv⟩ := F.frs f b hf s c hs hne
  have ho' : o < us.size := by rw [hsz]; exact (List.getElem?_eq_some_iff.1 ho).1
  obtain ⟨u, hu⟩ : ∃ u, us[o]? = some u := ⟨_, Array.getElem?_eq_getElem ho'⟩
  have h := hv o u d hu ho
  cases h with
  | lp p s o ha => exact absurd ha (noal s)
  | clo p f us ds hs2 hno hh =>
    show ds.all _ = true
    rw [List.all_eq_true]
    intro d' hd'
    obtain ⟨j, hj⟩ := List.getElem?_of_mem hd'
    have hj' : j < us.size := by rw [hs2]; exact (List.getElem?_eq_some_iff.1 hj).1
    obtain ⟨u, hu⟩ : ∃ u, us[j]? = some u := ⟨_, Array.getElem?_eq_getElem hj'⟩
    have h2 := hh j u d' hu hj
    cases h2 with
    | lp p s o ha => exact absurd ha (noal s)
    | _ => rfl
  | _ => rfl
/-- What a clone comes to. -/
def cloneS (e sz bytes : Nat) : List D → Option D
  | [.t (.sl sz' els)] => if sz' = sz ∧ els.length * bytes ≤ most ∧ (els.all fun c => c.length == sz) = true then some (.own e sz els) else none
  | [.t (.sc (.slice none 0 0))] => some (.own e sz [])
  | _ => none
/-- How the interpreter answers it, however the slice is told. -/
structure Clones (P : Program) (C : Callee) (f : FuncId) (e sz bytes : Nat) : Prop where
  pos : 0 < sz
  nil : ∀ c frs, frs.all (fun b => b.all fun c => c.all D.outer) = true → C f [.t (.sc (.slice none 0 c))] frs = some (.val (.t (.sc (.slice none 0 0))), frs)
  none0 : ∀ a c frs, frs.all (fun b => b.all fun c => c.all D.outer) = true → C f [.t (.sc (.slice (some a) 0 c))] frs = some (.val (.own e sz []), frs)
  some1 : ∀ x l frs, frs.all (fun b => b.all fun c => c.all D.outer) = true → (x :: l).length * bytes ≤ most → ((x :: l).all fun c => c.length == sz) = true → C f [.t (.sl sz (x :: l))] frs = some (.val (.own e sz (x :: l)), frs)
theorem VD.nilOwn {B fr : Nat} {G : Gh} {vr : Pl → Nat} {w : World} {i : Nat} {e sz : Nat} (h : 0 < sz) : VD B fr G vr w (.pn fr i []) (.slice none 0 0) (.own e sz []) :=
  .own _ _ e sz [] [] (World.ownsRow_nil w B e sz) ⟨by simp, by simp, by simp⟩ h (fun g hg => by cases hg) (fun q _ hq => by cases q <;> cases hq)
theorem clone_told {P : Program} {C : Callee} {f : FuncId} {e sz bytes : Nat} (hC : Good P C) (hc : Clones P C f e sz bytes) : ∀ ds d, cloneS e sz bytes ds = some d → ∀ B G frs w (vs : Array Value), FrS B G frs w → vs.size = ds.length →
    (∀ (i : Nat) u d, vs[i]? = some u → ds[i]? = some d → d.hasOwn = false ∧ VD B frs.length G vr0 w (.pn frs.length i []) u d) →
    d.outOk = true ∧ Calls P f vs w fun out w' => ∃ v G', out = .returned v ∧ FrS B G' frs w' ∧ Step frs.length G w G' w' ∧ VD B frs.length G' vr0 w' (.pn frs.length 0 []) v d := by
  intro ds d hs B G frs w vs F hsz hargs
  have hout := frs_outer F
  -- an answer of the interpreter, for the same value told otherwise
  have use : ∀ {d0 r : D} {u : Value}, vs = #[u] → d0.hasOwn = false → VD B frs.length G vr0 w (.pn frs.length 0 []) u d0 → C f [d0] frs = some (.val r, frs) →
      r.outOk = true ∧ Calls P f vs w fun out w' => ∃ v G', out = .returned v ∧ FrS B G' frs w' ∧ Step frs.length G w G' w' ∧ VD B frs.length G' vr0 w' (.pn frs.length 0 []) v r := by
    intro d0 r u hu ho hv hr
    subst hu
    obtain ⟨r', e1, e2, e3⟩ := hC f [d0] frs _ frs hr B G w #[u] F rfl (fun i x y hx hy => by
      cases i with
      | zero => simp at hx hy; subst hx hy; exact ⟨ho, hv⟩
      | succ i => simp at hx)
    cases e1
    exact ⟨e2, e3.mono fun out w' ⟨v, G', a, _, b, c, d⟩ => ⟨v, G', a, b, c, d⟩⟩
  have nilcase : ∀ {u : Value} {c : Nat}, vs = #[u] → u = .slice none 0 c → (D.own e sz []).outOk = true ∧ Calls P f vs w fun out w' => ∃ v G', out = .returned v ∧ FrS B G' frs w' ∧ Step frs.length G w G' w' ∧ VD B frs.length G' vr0 w' (.pn frs.length 0 []) v (.own e sz []) := by
    intro u c hu he
    subst he
    obtain ⟨_, h2⟩ := use (d0 := .t (.sc (.slice none 0 c))) hu rfl (.t _ _ _ (.sc _ rfl)) (hc.nil c frs hout)
    refine ⟨rfl, h2.mono fun out w' ⟨v, G', a, b, c', d'⟩ => ⟨v, G', a, b, c', ?_⟩⟩
    have := d'.sc
    subst this
    exact VD.nilOwn hc.pos
  unfold cloneS at hs
  split at hs
  · rename_i sz' els
    split at hs
    · rename_i hcond
      obtain ⟨rfl, hb, ha⟩ := hcond
      cases hs
      obtain ⟨u, hu⟩ : ∃ u, vs = #[u] := by
        match vs, hsz with
        | ⟨[u]⟩, _ => exact ⟨u, rfl⟩
      have hv := (hargs 0 u _ (by rw [hu]; rfl) rfl).2
      cases els with
      | nil =>
        cases hv with
        | t p v x hr =>
          cases hr with
          | sl A n cap sz1 els fn hn hcap hz hA hR =>
            have hn0 : n = 0 := hn
            subst hn0
            cases A with
            | none => exact nilcase hu rfl
            | some a => exact use (d0 := .t (.sc (.slice (some a) 0 cap))) hu rfl (.t _ _ _ (.sc _ rfl)) (hc.none0 a cap frs hout)
      | cons x l => exact use (d0 := .t (.sl _ (x :: l))) hu rfl hv (hc.some1 x l frs hout hb ha)
    · cases hs
  · cases hs
    obtain ⟨u, hu⟩ : ∃ u, vs = #[u] := by
      match vs, hsz with
      | ⟨[u]⟩, _ => exact ⟨u, rfl⟩
    have hv := (hargs 0 u _ (by rw [hu]; rfl) rfl).2
    exact nilcase hu hv.sc
  · cases hs
end Go.Pv

/- Floats' bits: what the one word of them comes to that stands for no number. -/
namespace Go.Pv
/-- A float's bits: is that no number? -/
def nanB (b : Int) : Bool := decide (b % 9223372036854775808 / 4503599627370496 = 2047 ∧ b % 4503599627370496 ≠ 0)
def canonF (b : Int) : Int := if nanB b then 9221120237041090561 else w64 b
def canonS : List D → Option D
  | [.t (.sc (.int .i64 b))] => some (I (canonF b))
  | _ => none
end Go.Pv

/- Data of plain Lean, and how it lies in cells. -/
namespace Go.Pv
/-- What lies in cells as data. -/
class Enc (α : Type) where
  n : Nat
  enc : α → List T
  len : ∀ a, (enc a).length = n
  dflt : α
section
variable {α : Type} [Enc α]
/-- The empty list, of a type. -/
abbrev nl (α : Type) : List α := []
/-- Elements. -/
def els (l : List α) : List (List T) := l.map Enc.enc
def atN (l : List α) (i : Nat) : α := l.getD i Enc.dflt
def atI (l : List α) (i : Int) : α := atN l i.toNat
theorem atN_toNat (l : List α) (i : Int) : atN l i.toNat = atI l i := rfl
theorem els_len (l : List α) : (els l).length = l.length := List.length_map ..
theorem els_take (l : List α) (n : Nat) : (els l).take n = els (l.take n) := by unfold els; rw [List.map_take]
theorem els_drop (l : List α) (n : Nat) : (els l).drop n = els (l.drop n) := by unfold els; rw [List.map_drop]
theorem els_tail (l : List α) : (els l).tail = els l.tail := by cases l <;> rfl
theorem els_app (l m : List α) : els l ++ els m = els (l ++ m) := by unfold els; rw [List.map_append]
theorem els_nil : els ([] : List α) = [] := rfl
theorem els_nil_app (l : List α) : ([] : List (List T)) ++ els l = els l := rfl
theorem els_getD (l : List α) (i : Nat) (h : i < l.length) : (els l).getD i [] = Enc.enc (atN l i) := by
  simp [els, atN, h]
theorem els_getD_none (l : List α) (i : Nat) (h : ¬ i < l.length) : (els l).getD i [] = [] := by
  simp [els, h]
theorem els_all (l : List α) (k : Nat) (h : Enc.n α = k) : ((els l).all fun c => c.length == k) = true := by
  simp [els, Enc.len, h]
theorem els_set (l : List α) (i : Nat) (x : α) : (els l).set i (Enc.enc x) = els (l.set i x) := by unfold els; rw [List.map_set]
theorem els_rep (n : Nat) (x : α) : List.replicate n (Enc.enc x) = els (List.replicate n x) := by simp [els]
theorem els_snoc (l : List α) (x : α) : els l ++ [Enc.enc x] = els (l ++ [x]) := by simp [els]
theorem els_cons (l : List α) (x : α) : Enc.enc x :: els l = els (x :: l) := rfl
theorem els_inj (h : ∀ a b : α, Enc.enc a = Enc.enc b → a = b) {l m : List α} (e : els l = els m) : l = m := by
  induction l generalizing m with
  | nil => cases m <;> first | rfl | cases e
  | cons a l ih => cases m with
    | nil => cases e
    | cons b m =>
      unfold els at e
      simp only [List.map_cons, List.cons.injEq] at e
      rw [h a b e.1, ih e.2]
theorem need_false {β : Type} (k : Unit → Prog β) : (need false >>= k) = .fail := rfl
theorem need_true {β : Type} (k : Unit → Prog β) : (need true >>= k) = k () := rfl
theorem ixSl_els (P : Program) (H : Hint) (D0 : Option Tmp) (e : TypeId) (sz : Nat) (l : List α) (i : Int) : ixSl P H D0 e sz (els l) i = (do
    need (sz == szOf P e && decide (0 ≤ i) && decide (i < l.length))
    put H D0 (.t (.pt (Enc.enc (atI l i))))) := by
  unfold ixSl
  rw [els_len]
  by_cases h : 0 ≤ i ∧ i < l.length
  · rw [els_getD l _ (by omega)]; rfl
  · have : (sz == szOf P e && decide (0 ≤ i) && decide (i < l.length)) = false := by
      by_cases h1 : 0 ≤ i
      · have h2 : ¬ i < l.length := fun e => h ⟨h1, e⟩
        simp [h2]
      · simp [h1]
    rw [this, need_false, need_false]
theorem p_iface (P : Program) (H : Hint) (t : TypeId) (x : Operand) (D0 : Option Tmp) (T0 : TypeId) (P0 : String) (A0 : Array Edge) (G0 : Option (Nat × Bool)) : pStep P H ⟨D0, .makeInterface t x, T0, P0, A0, G0⟩ = .fail := rfl
/-- Cells of an element. -/
def cutP (b : Bool) (els : List (List T)) (i o n : Nat) : Prog (List D) := do
  need (b && decide (o + n ≤ (els.getD i []).length))
  return (((els.getD i []).drop o).take n).map .t
def putP (b : Bool) (q : Pl) (e : TypeId) (sz : Nat) (els : List (List T)) (i o : Nat) (xs : List T) : Prog Unit := do
  need (b && decide (o + xs.length ≤ (els.getD i []).length))
  putPl q (.own e sz (els.set i ((els.getD i []).take o ++ xs ++ (els.getD i []).drop (o + xs.length))))
theorem cutP_els (b : Bool) (l : List α) (i o n : Nat) : cutP b (els l) i o (n + 1) = (do
    need (b && (decide (i < l.length) && decide (o + (n + 1) ≤ Enc.n α)))
    return (((Enc.enc (atN l i)).drop o).take (n + 1)).map .t) := by
  unfold cutP
  by_cases h : i < l.length
  · rw [els_getD l i h, Enc.len]; simp [h]
  · rw [els_getD_none l i h]; simp [h, need_false]
theorem putP_els (b : Bool) (q : Pl) (e : TypeId) (sz : Nat) (l : List α) (i o : Nat) (x : T) (xs : List T) : putP b q e sz (els l) i o (x :: xs) = (do
    need (b && (decide (i < l.length) && decide (o + (x :: xs).length ≤ Enc.n α)))
    putPl q (.own e sz ((els l).set i ((Enc.enc (atN l i)).take o ++ (x :: xs) ++ (Enc.enc (atN l i)).drop (o + (x :: xs).length))))) := by
  unfold putP
  by_cases h : i < l.length
  · rw [els_getD l i h, Enc.len]; simp [h]
  · rw [els_getD_none l i h]; simp [h, need_false]
end
theorem loadC_pt (cs : List T) (n : Nat) : loadC (.t (.pt cs)) n = (do need (decide (n ≤ cs.length)); return (cs.take n).map .t) := rfl
theorem loadC_lp (s o n : Nat) : loadC (.lp s o) n = (do let c ← gB s; need (decide (o + n ≤ c.length)); nameL (fun j => .bx s (o + j)) 0 ((c.drop o).take n)) := rfl
theorem loadC_fp (f s o n : Nat) : loadC (.fp f s o) n = (do let c ← gF f s; need (decide (o + n ≤ c.length)); nameL (fun j => .fb f s (o + j)) 0 ((c.drop o).take n)) := rfl
theorem loadC_ept (q : Pl) (k sz i o n : Nat) : loadC (.ept q k sz i o) n = (do let (_, sz', els) ← rowAt q k; cutP (sz == sz') els i o n) := rfl
theorem storeC_ept (H : Hint) (q : Pl) (k sz i o : Nat) (ds : List D) : storeC H (.ept q k sz i o) ds = (do let xs ← shareL ds; let (e, sz', els) ← rowAt q k; putP (sz == sz') q e sz els i o xs) := rfl
theorem storeC_lp (H : Hint) (s o : Nat) (ds : List D) : storeC H (.lp s o) ds = (do
    let ds ← resolveL (H.own.contains s) ds
    let c ← gB s
    need (decide (o + ds.length ≤ c.length))
    bumpL (fun j => .bx s (o + j)) 0 ds
    pB s (splice c o ds)) := rfl
theorem storeC_fp (H : Hint) (f s o : Nat) (ds : List D) : storeC H (.fp f s o) ds = (do
    let ds ← resolveL true ds
    let c ← gF f s
    need (decide (o + ds.length ≤ c.length))
    bumpL (fun j => .fb f s (o + j)) 0 ds
    pF f s (splice c o ds)) := rfl
attribute [simp] D.aliased lift liftL unlift unliftL liftF unliftF T.flat flatL D.ptr D.bare
attribute [simp ↓] els_all
attribute [simp] loadC_pt loadC_lp loadC_fp loadC_ept storeC_ept storeC_lp storeC_fp ixSl_els cutP_els putP_els els_len els_take els_drop els_tail els_app atN_toNat p_iface
/-! ### numbers, bools, strings, lists -/
instance : Enc Int := ⟨1, fun n => [.sc (.int .i64 n)], fun _ => rfl, 0⟩
instance : Enc Bool := ⟨1, fun b => [.sc (.bool b)], fun _ => rfl, false⟩
instance : Enc ByteArray := ⟨1, fun s => [.sc (.string s)], fun _ => rfl, .empty⟩
instance {α : Type} [Enc α] : Enc (List α) := ⟨1, fun l => [.sl (Enc.n α) (els l)], fun _ => rfl, []⟩
instance {α β : Type} [Enc α] [Enc β] : Enc (α × β) := ⟨Enc.n α + Enc.n β, fun p => Enc.enc p.1 ++ Enc.enc p.2, fun p => by simp [Enc.len], (Enc.dflt, Enc.dflt)⟩
@[simp] theorem n_Int : Enc.n Int = 1 := rfl
@[simp] theorem n_Bool : Enc.n Bool = 1 := rfl
@[simp] theorem n_Str : Enc.n ByteArray = 1 := rfl
@[simp] theorem n_List {α : Type} [Enc α] : Enc.n (List α) = 1 := rfl
@[simp] theorem n_Prod {α β : Type} [Enc α] [Enc β] : Enc.n (α × β) = Enc.n α + Enc.n β := rfl
@[simp] theorem enc_Int (n : Int) : Enc.enc n = [T.sc (.int .i64 n)] := rfl
@[simp] theorem enc_Bool (b : Bool) : Enc.enc b = [T.sc (.bool b)] := rfl
@[simp] theorem enc_Str (s : ByteArray) : Enc.enc s = [T.sc (.string s)] := rfl
@[simp] theorem enc_List {α : Type} [Enc α] (l : List α) : Enc.enc l = [T.sl (Enc.n α) (els l)] := rfl
@[simp] theorem enc_Prod {α β : Type} [Enc α] [Enc β] (p : α × β) : Enc.enc p = Enc.enc p.1 ++ Enc.enc p.2 := rfl
section
variable (l : List Int) (n : Int) (i k : Nat)
@[simp] theorem fs_Int : (els l).set i [T.sc (.int .i64 n)] = els (l.set i n) := els_set l i n
@[simp] theorem fa_Int : els l ++ [[T.sc (.int .i64 n)]] = els (l ++ [n]) := els_snoc l n
@[simp] theorem f1_Int : [[T.sc (.int .i64 n)]] = els [n] := rfl
@[simp] theorem fc_Int : [T.sc (.int .i64 n)] :: els l = els (n :: l) := rfl
@[simp] theorem fr_Int : List.replicate k [T.sc (.int .i64 n)] = els (List.replicate k n) := els_rep k n
end
section
variable (l : List Bool) (n : Bool) (i k : Nat)
@[simp] theorem fs_Bool : (els l).set i [T.sc (.bool n)] = els (l.set i n) := els_set l i n
@[simp] theorem fa_Bool : els l ++ [[T.sc (.bool n)]] = els (l ++ [n]) := els_snoc l n
@[simp] theorem f1_Bool : [[T.sc (.bool n)]] = els [n] := rfl
@[simp] theorem fc_Bool : [T.sc (.bool n)] :: els l = els (n :: l) := rfl
@[simp] theorem fr_Bool : List.replicate k [T.sc (.bool n)] = els (List.replicate k n) := els_rep k n
end
section
variable {α : Type} [Enc α] (l : List (List α)) (n : List α) (i k z : Nat)
theorem f1_List (h : Enc.n α = z) : [[T.sl z (els n)]] = els [n] := by subst h; rfl
theorem fs_List (h : Enc.n α = z) : (els l).set i [T.sl z (els n)] = els (l.set i n) := by subst h; exact els_set l i n
theorem fa_List (h : Enc.n α = z) : els l ++ [[T.sl z (els n)]] = els (l ++ [n]) := by subst h; exact els_snoc l n
theorem fc_List (h : Enc.n α = z) : [T.sl z (els n)] :: els l = els (n :: l) := by subst h; rfl
end
section
variable (l : List ByteArray) (n : ByteArray) (i k : Nat)
@[simp] theorem fs_Str : (els l).set i [T.sc (.string n)] = els (l.set i n) := els_set l i n
@[simp] theorem fa_Str : els l ++ [[T.sc (.string n)]] = els (l ++ [n]) := els_snoc l n
@[simp] theorem f1_Str : [[T.sc (.string n)]] = els [n] := rfl
@[simp] theorem fc_Str : [T.sc (.string n)] :: els l = els (n :: l) := rfl
end
attribute [simp] f1_List fs_List fa_List fc_List
theorem canonR_els {α : Type} [Enc α] (ks : List (Option (Nat × TypeId))) (l : List α) (h : ∀ x : α, canonC ks (Enc.enc x) = Enc.enc x) : canonR ks (els l) = els l := by
  unfold canonR els
  rw [List.map_map]
  exact List.map_congr_left fun x _ => h x
attribute [simp] canonR_els
theorem canonR_rep (ks : List (Option (Nat × TypeId))) (n : Nat) (c : List T) : canonR ks (List.replicate n c) = List.replicate n (canonC ks c) := by simp [canonR]
theorem canonR_nil (ks : List (Option (Nat × TypeId))) : canonR ks [] = [] := rfl
theorem canonR_cons (ks : List (Option (Nat × TypeId))) (c : List T) (l : List (List T)) : canonR ks (c :: l) = canonC ks c :: canonR ks l := rfl
section
variable (k : Option (Nat × TypeId)) (x : T)
@[simp] theorem can_none : canon1 none x = x := by cases x <;> rfl
@[simp] theorem can_sl (sz els) : canon1 k (.sl sz els) = .sl sz els := by rcases k with _ | ⟨p, q⟩ <;> rfl
@[simp] theorem can_int (a n) : canon1 k (.sc (.int a n)) = .sc (.int a n) := by rcases k with _ | ⟨p, q⟩ <;> rfl
@[simp] theorem can_bool (b) : canon1 k (.sc (.bool b)) = .sc (.bool b) := by rcases k with _ | ⟨p, q⟩ <;> rfl
@[simp] theorem can_str (s) : canon1 k (.sc (.string s)) = .sc (.string s) := by rcases k with _ | ⟨p, q⟩ <;> rfl
end
attribute [simp] canonR_rep canonR_nil canonR_cons canonC
/-! ### rounds, in these words -/
theorem loop_ob {P : Program} {H : Hint} {C : Callee} {A B : Type} {c : Code} (N : A → St) (E : B → Option (Out × St)) (S : A → Option (A ⊕ B)) (hE : ∀ b, ∃ r, E b = some r ∧ r.1 ≠ .normal)
    (h : ∀ a, roundOf (H.at c) (H.outAt c) (eO P H C c (N a)) = ob (S a) fun x => sm x (fun a' => some (Out.normal, N a')) E) (a : A) (σ : St) (hσ : norm (H.at c) σ = N a) :
    eO P H C (.loop c) σ = ob (iterO S a) E := by
  have hc : ∀ b, E b = some (Classical.choose (hE b)) := fun b => (Classical.choose_spec (hE b)).1
  rw [loop_iter N (fun b => Classical.choose (hE b)) S (fun b => (Classical.choose_spec (hE b)).2) (fun a => ?_) a σ hσ]
  · cases iterO S a with
    | none => rfl
    | some b => exact (hc b).symm
  · rw [h a]
    cases S a with
    | none => rfl
    | some x => cases x with
      | inl a' => rfl
      | inr b => exact hc b
end Go.Pv

/- Loops and lists, in plain words. -/
namespace Go.Pv
section
variable {A B : Type} {S : A → Option (A ⊕ B)}
/-- A loop whose states are known. -/
theorem iter_acc (N : Nat → A) (n : Nat) {b : B} (hs : ∀ k, k < n → S (N k) = some (.inl (N (k + 1)))) (he : S (N n) = some (.inr b)) : iterO S (N 0) = some b := by
  have key : ∀ j, j ≤ n → iterO S (N (n - j)) = some b := by
    intro j
    induction j with
    | zero => intro _; rw [iterO_eq, Nat.sub_zero, he]
    | succ j ih =>
      intro h
      rw [iterO_eq, hs (n - (j + 1)) (by omega)]
      have e : n - (j + 1) + 1 = n - j := by omega
      simp only [e]
      exact ih (by omega)
  simpa using key n (Nat.le_refl n)
/-- A loop that ends, by what gets less; what holds behind it. -/
theorem iter_post (μ : A → Nat) (I : A → Prop) (P : B → Prop) (h : ∀ a, I a → (∃ a', S a = some (.inl a') ∧ I a' ∧ μ a' < μ a) ∨ ∃ b, S a = some (.inr b) ∧ P b) : ∀ a, I a → ∃ b, iterO S a = some b ∧ P b := by
  intro a
  generalize hk : μ a = k
  induction k using Nat.strongRecOn generalizing a with
  | ind k ih =>
    intro ha
    rcases h a ha with ⟨a', h1, h2, h3⟩ | ⟨b, h1, h2⟩
    · obtain ⟨b, h4, h5⟩ := ih (μ a') (by omega) a' rfl h2
      exact ⟨b, by rw [iterO_eq, h1]; exact h4, h5⟩
    · exact ⟨b, by rw [iterO_eq, h1], h2⟩
/-- A loop that ends with what a function says. -/
theorem iter_fun (f : A → B) (μ : A → Nat) (I : A → Prop) (h : ∀ a, I a → (∃ a', S a = some (.inl a') ∧ I a' ∧ μ a' < μ a ∧ f a' = f a) ∨ S a = some (.inr (f a))) : ∀ a, I a → iterO S a = some (f a) := by
  intro a
  generalize hk : μ a = k
  induction k using Nat.strongRecOn generalizing a with
  | ind k ih =>
    intro ha
    rw [iterO_eq]
    rcases h a ha with ⟨a', h1, h2, h3, h4⟩ | h1
    · rw [h1, ← h4]
      exact ih (μ a') (by omega) a' rfl h2
    · rw [h1]
end
theorem atI_nat {α : Type} [Enc α] (l : List α) (k : Nat) (h : k < l.length) : atI l (k : Int) = l[k] := by simp [atI, atN, h]
theorem atI_int {α : Type} [Enc α] (l : List α) (i : Int) (h : i.toNat < l.length) : atI l i = l[i.toNat] := by simp [atI, atN, h]
theorem atI_eq {α : Type} [Enc α] (l : List α) (i : Int) (k : Nat) (e : i = k) (h : k < l.length) : atI l i = l[k] := by subst e; exact atI_nat l k h
/-- Numbers that don't wrap. -/
theorem w64_n {n : Int} (h1 : -9223372036854775808 ≤ n) (h2 : n ≤ 9223372036854775807) : w64 n = n := w64_id h1 h2
theorem w64_nat {n : Nat} (h : n ≤ 9223372036854775807) : w64 (n : Int) = n := w64_id (by omega) (by omega)
theorem take_succ' {α : Type} (l : List α) (k : Nat) (h : k < l.length) : l.take (k + 1) = l.take k ++ [l[k]] := by
  rw [List.take_succ_eq_append_getElem h]
theorem sum_map_take {α : Type} (f : α → Nat) (l : List α) (k : Nat) (h : k < l.length) : ((l.take (k + 1)).map f).sum = ((l.take k).map f).sum + f l[k] := by
  rw [take_succ' l k h, List.map_append, List.sum_append]; simp only [List.map_cons, List.map_nil, List.sum_cons, List.sum_nil, Nat.add_zero]
theorem sum_take_le {α : Type} (f : α → Nat) (l : List α) (k : Nat) : ((l.take k).map f).sum ≤ (l.map f).sum := by
  have h : (l.map f).sum = ((l.take k).map f).sum + ((l.drop k).map f).sum := by
    rw [← List.sum_append, ← List.map_append, List.take_append_drop]
  omega
theorem sum_at_le {α : Type} (f : α → Nat) (l : List α) (k : Nat) (h : k < l.length) : f l[k] ≤ (l.map f).sum := by
  have h1 := sum_map_take f l k h
  have h2 := sum_take_le f l (k + 1)
  omega
/-- Two lists that are the same as far as one looks, and of one length. -/
theorem take_ext {α : Type} {a b : List α} {k : Nat} (h1 : k < a.length) (h2 : k < b.length) (h : a.take k = b.take k) (e : a[k] = b[k]) : a.take (k + 1) = b.take (k + 1) := by
  rw [take_succ' a k h1, take_succ' b k h2, h, e]
/-- A loop that holds two lists against each other. -/
theorem iter_same {α : Type} [DecidableEq α] {a b : List α} {S : Int → Option (Int ⊕ Bool ⊕ Unit)} (hl : a.length = b.length)
    (hS : ∀ (k : Nat) (h : k < a.length) (h' : k < b.length), S (k : Int) = if a[k] = b[k] then some (.inl ((k + 1 : Nat) : Int)) else some (.inr (.inl false))) (he : S (a.length : Int) = some (.inr (.inr ()))) :
    (ob (iterO S 0) fun a => sm a (fun a => some a) fun _ => some true) = some (decide (a = b)) := by
  obtain ⟨r, h1, h2⟩ := iter_post (S := S) (fun i => a.length - i.toNat) (fun i => ∃ k : Nat, i = k ∧ k ≤ a.length ∧ a.take k = b.take k) (fun r => sm r (fun x => x = false ∧ a ≠ b) fun _ => a = b) (fun i hi => by
    obtain ⟨k, rfl, hk, ht⟩ := hi
    rcases Nat.lt_or_ge k a.length with h | h
    · have h' : k < b.length := by omega
      rw [hS k h h']
      by_cases e : a[k] = b[k]
      · exact .inl ⟨_, if_pos e, ⟨k + 1, rfl, h, take_ext h h' ht e⟩, by simp; omega⟩
      · refine .inr ⟨_, if_neg e, rfl, fun e' => e ?_⟩
        subst e'; rfl
    · have : k = a.length := by omega
      subst this
      refine .inr ⟨_, he, ?_⟩
      show a = b
      rw [List.take_length, hl, List.take_length] at ht
      exact ht) 0 ⟨0, rfl, Nat.zero_le _, by simp⟩
  rw [h1]
  cases r with
  | inl x =>
    obtain ⟨rfl, h3⟩ := h2
    simp [ob_some, sm_inl, h3]
  | inr u =>
    have h3 : a = b := h2
    simp [ob_some, sm_inr, h3]
theorem ob_of {α β : Type} {x : Option α} {a : α} (h : x = some a) (f : α → Option β) : ob x f = f a := by rw [h]; rfl
end Go.Pv

namespace Go.Pv
/-- api.Obj -/
structure GObj where
  Class : Int
  Kind : Int
  Slots : (List Int)
  Text : ByteArray
  Bits : Int
  Hash : Int
  deriving DecidableEq
instance : Enc GObj := ⟨6, fun x => [T.sc (.int .i64 x.Class), T.sc (.int .i64 x.Kind), T.sl 1 (els x.Slots), T.sc (.string x.Text), T.sc (.int .i64 x.Bits), T.sc (.int .i64 x.Hash)], fun _ => rfl, ⟨0, 0, [], .empty, 0, 0⟩⟩
@[simp] theorem n_GObj : Enc.n GObj = 6 := rfl
@[simp] theorem enc_GObj (x : GObj) : Enc.enc x = [T.sc (.int .i64 x.Class), T.sc (.int .i64 x.Kind), T.sl 1 (els x.Slots), T.sc (.string x.Text), T.sc (.int .i64 x.Bits), T.sc (.int .i64 x.Hash)] := rfl
@[simp] theorem fs_GObj (l : List GObj) (i : Nat) (a_0 : Int) (a_1 : Int) (a_2 : (List Int)) (a_3 : ByteArray) (a_4 : Int) (a_5 : Int) : (els l).set i [T.sc (.int .i64 a_0), T.sc (.int .i64 a_1), T.sl 1 (els a_2), T.sc (.string a_3), T.sc (.int .i64 a_4), T.sc (.int .i64 a_5)] = els (l.set i ⟨a_0, a_1, a_2, a_3, a_4, a_5⟩) := els_set l i ⟨a_0, a_1, a_2, a_3, a_4, a_5⟩
@[simp] theorem fa_GObj (l : List GObj) (a_0 : Int) (a_1 : Int) (a_2 : (List Int)) (a_3 : ByteArray) (a_4 : Int) (a_5 : Int) : els l ++ [[T.sc (.int .i64 a_0), T.sc (.int .i64 a_1), T.sl 1 (els a_2), T.sc (.string a_3), T.sc (.int .i64 a_4), T.sc (.int .i64 a_5)]] = els (l ++ [⟨a_0, a_1, a_2, a_3, a_4, a_5⟩]) := els_snoc l ⟨a_0, a_1, a_2, a_3, a_4, a_5⟩
@[simp] theorem fc_GObj (l : List GObj) (a_0 : Int) (a_1 : Int) (a_2 : (List Int)) (a_3 : ByteArray) (a_4 : Int) (a_5 : Int) : [T.sc (.int .i64 a_0), T.sc (.int .i64 a_1), T.sl 1 (els a_2), T.sc (.string a_3), T.sc (.int .i64 a_4), T.sc (.int .i64 a_5)] :: els l = els ((⟨a_0, a_1, a_2, a_3, a_4, a_5⟩ : GObj) :: l) := rfl
@[simp] theorem f1_GObj (a_0 : Int) (a_1 : Int) (a_2 : (List Int)) (a_3 : ByteArray) (a_4 : Int) (a_5 : Int) : [[T.sc (.int .i64 a_0), T.sc (.int .i64 a_1), T.sl 1 (els a_2), T.sc (.string a_3), T.sc (.int .i64 a_4), T.sc (.int .i64 a_5)]] = els [(⟨a_0, a_1, a_2, a_3, a_4, a_5⟩ : GObj)] := rfl
theorem fr_GObj (k : Nat) (a_0 : Int) (a_1 : Int) (a_2 : (List Int)) (a_3 : ByteArray) (a_4 : Int) (a_5 : Int) : List.replicate k [T.sc (.int .i64 a_0), T.sc (.int .i64 a_1), T.sl 1 (els a_2), T.sc (.string a_3), T.sc (.int .i64 a_4), T.sc (.int .i64 a_5)] = els (List.replicate k (⟨a_0, a_1, a_2, a_3, a_4, a_5⟩ : GObj)) := els_rep k (⟨a_0, a_1, a_2, a_3, a_4, a_5⟩ : GObj)
/-- api.Heap -/
structure GHeap where
  Objs : (List GObj)
  Cap : Int
  Last : Int
  deriving DecidableEq
instance : Enc GHeap := ⟨3, fun x => [T.sl 6 (els x.Objs), T.sc (.int .i64 x.Cap), T.sc (.int .i64 x.Last)], fun _ => rfl, ⟨[], 0, 0⟩⟩
@[simp] theorem n_GHeap : Enc.n GHeap = 3 := rfl
@[simp] theorem enc_GHeap (x : GHeap) : Enc.enc x = [T.sl 6 (els x.Objs), T.sc (.int .i64 x.Cap), T.sc (.int .i64 x.Last)] := rfl
@[simp] theorem fs_GHeap (l : List GHeap) (i : Nat) (a_0 : (List GObj)) (a_1 : Int) (a_2 : Int) : (els l).set i [T.sl 6 (els a_0), T.sc (.int .i64 a_1), T.sc (.int .i64 a_2)] = els (l.set i ⟨a_0, a_1, a_2⟩) := els_set l i ⟨a_0, a_1, a_2⟩
@[simp] theorem fa_GHeap (l : List GHeap) (a_0 : (List GObj)) (a_1 : Int) (a_2 : Int) : els l ++ [[T.sl 6 (els a_0), T.sc (.int .i64 a_1), T.sc (.int .i64 a_2)]] = els (l ++ [⟨a_0, a_1, a_2⟩]) := els_snoc l ⟨a_0, a_1, a_2⟩
@[simp] theorem fc_GHeap (l : List GHeap) (a_0 : (List GObj)) (a_1 : Int) (a_2 : Int) : [T.sl 6 (els a_0), T.sc (.int .i64 a_1), T.sc (.int .i64 a_2)] :: els l = els ((⟨a_0, a_1, a_2⟩ : GHeap) :: l) := rfl
@[simp] theorem f1_GHeap (a_0 : (List GObj)) (a_1 : Int) (a_2 : Int) : [[T.sl 6 (els a_0), T.sc (.int .i64 a_1), T.sc (.int .i64 a_2)]] = els [(⟨a_0, a_1, a_2⟩ : GHeap)] := rfl
theorem fr_GHeap (k : Nat) (a_0 : (List GObj)) (a_1 : Int) (a_2 : Int) : List.replicate k [T.sl 6 (els a_0), T.sc (.int .i64 a_1), T.sc (.int .i64 a_2)] = els (List.replicate k (⟨a_0, a_1, a_2⟩ : GHeap)) := els_rep k (⟨a_0, a_1, a_2⟩ : GHeap)
/-- api.State -/
structure GState where
  Heap : GHeap
  Proc : Int
  Ready : Int
  Halt : Int
  Steps : Int
  Used : Int
  deriving DecidableEq
instance : Enc GState := ⟨8, fun x => [T.sl 6 (els x.Heap.Objs), T.sc (.int .i64 x.Heap.Cap), T.sc (.int .i64 x.Heap.Last), T.sc (.int .i64 x.Proc), T.sc (.int .i64 x.Ready), T.sc (.int .i64 x.Halt), T.sc (.int .i64 x.Steps), T.sc (.int .i64 x.Used)], fun _ => rfl, ⟨⟨[], 0, 0⟩, 0, 0, 0, 0, 0⟩⟩
@[simp] theorem n_GState : Enc.n GState = 8 := rfl
@[simp] theorem enc_GState (x : GState) : Enc.enc x = [T.sl 6 (els x.Heap.Objs), T.sc (.int .i64 x.Heap.Cap), T.sc (.int .i64 x.Heap.Last), T.sc (.int .i64 x.Proc), T.sc (.int .i64 x.Ready), T.sc (.int .i64 x.Halt), T.sc (.int .i64 x.Steps), T.sc (.int .i64 x.Used)] := rfl
@[simp] theorem fs_GState (l : List GState) (i : Nat) (a_0_0 : (List GObj)) (a_0_1 : Int) (a_0_2 : Int) (a_1 : Int) (a_2 : Int) (a_3 : Int) (a_4 : Int) (a_5 : Int) : (els l).set i [T.sl 6 (els a_0_0), T.sc (.int .i64 a_0_1), T.sc (.int .i64 a_0_2), T.sc (.int .i64 a_1), T.sc (.int .i64 a_2), T.sc (.int .i64 a_3), T.sc (.int .i64 a_4), T.sc (.int .i64 a_5)] = els (l.set i ⟨⟨a_0_0, a_0_1, a_0_2⟩, a_1, a_2, a_3, a_4, a_5⟩) := els_set l i ⟨⟨a_0_0, a_0_1, a_0_2⟩, a_1, a_2, a_3, a_4, a_5⟩
@[simp] theorem fa_GState (l : List GState) (a_0_0 : (List GObj)) (a_0_1 : Int) (a_0_2 : Int) (a_1 : Int) (a_2 : Int) (a_3 : Int) (a_4 : Int) (a_5 : Int) : els l ++ [[T.sl 6 (els a_0_0), T.sc (.int .i64 a_0_1), T.sc (.int .i64 a_0_2), T.sc (.int .i64 a_1), T.sc (.int .i64 a_2), T.sc (.int .i64 a_3), T.sc (.int .i64 a_4), T.sc (.int .i64 a_5)]] = els (l ++ [⟨⟨a_0_0, a_0_1, a_0_2⟩, a_1, a_2, a_3, a_4, a_5⟩]) := els_snoc l ⟨⟨a_0_0, a_0_1, a_0_2⟩, a_1, a_2, a_3, a_4, a_5⟩
@[simp] theorem fc_GState (l : List GState) (a_0_0 : (List GObj)) (a_0_1 : Int) (a_0_2 : Int) (a_1 : Int) (a_2 : Int) (a_3 : Int) (a_4 : Int) (a_5 : Int) : [T.sl 6 (els a_0_0), T.sc (.int .i64 a_0_1), T.sc (.int .i64 a_0_2), T.sc (.int .i64 a_1), T.sc (.int .i64 a_2), T.sc (.int .i64 a_3), T.sc (.int .i64 a_4), T.sc (.int .i64 a_5)] :: els l = els ((⟨⟨a_0_0, a_0_1, a_0_2⟩, a_1, a_2, a_3, a_4, a_5⟩ : GState) :: l) := rfl
@[simp] theorem f1_GState (a_0_0 : (List GObj)) (a_0_1 : Int) (a_0_2 : Int) (a_1 : Int) (a_2 : Int) (a_3 : Int) (a_4 : Int) (a_5 : Int) : [[T.sl 6 (els a_0_0), T.sc (.int .i64 a_0_1), T.sc (.int .i64 a_0_2), T.sc (.int .i64 a_1), T.sc (.int .i64 a_2), T.sc (.int .i64 a_3), T.sc (.int .i64 a_4), T.sc (.int .i64 a_5)]] = els [(⟨⟨a_0_0, a_0_1, a_0_2⟩, a_1, a_2, a_3, a_4, a_5⟩ : GState)] := rfl
theorem fr_GState (k : Nat) (a_0_0 : (List GObj)) (a_0_1 : Int) (a_0_2 : Int) (a_1 : Int) (a_2 : Int) (a_3 : Int) (a_4 : Int) (a_5 : Int) : List.replicate k [T.sl 6 (els a_0_0), T.sc (.int .i64 a_0_1), T.sc (.int .i64 a_0_2), T.sc (.int .i64 a_1), T.sc (.int .i64 a_2), T.sc (.int .i64 a_3), T.sc (.int .i64 a_4), T.sc (.int .i64 a_5)] = els (List.replicate k (⟨⟨a_0_0, a_0_1, a_0_2⟩, a_1, a_2, a_3, a_4, a_5⟩ : GState)) := els_rep k (⟨⟨a_0_0, a_0_1, a_0_2⟩, a_1, a_2, a_3, a_4, a_5⟩ : GState)
/-- api.Points -/
structure GPoints where
  Every : Int
  Most : Int
  L : (List GState)
  deriving DecidableEq
instance : Enc GPoints := ⟨3, fun x => [T.sc (.int .i64 x.Every), T.sc (.int .i64 x.Most), T.sl 8 (els x.L)], fun _ => rfl, ⟨0, 0, []⟩⟩
@[simp] theorem n_GPoints : Enc.n GPoints = 3 := rfl
@[simp] theorem enc_GPoints (x : GPoints) : Enc.enc x = [T.sc (.int .i64 x.Every), T.sc (.int .i64 x.Most), T.sl 8 (els x.L)] := rfl
@[simp] theorem fs_GPoints (l : List GPoints) (i : Nat) (a_0 : Int) (a_1 : Int) (a_2 : (List GState)) : (els l).set i [T.sc (.int .i64 a_0), T.sc (.int .i64 a_1), T.sl 8 (els a_2)] = els (l.set i ⟨a_0, a_1, a_2⟩) := els_set l i ⟨a_0, a_1, a_2⟩
@[simp] theorem fa_GPoints (l : List GPoints) (a_0 : Int) (a_1 : Int) (a_2 : (List GState)) : els l ++ [[T.sc (.int .i64 a_0), T.sc (.int .i64 a_1), T.sl 8 (els a_2)]] = els (l ++ [⟨a_0, a_1, a_2⟩]) := els_snoc l ⟨a_0, a_1, a_2⟩
@[simp] theorem fc_GPoints (l : List GPoints) (a_0 : Int) (a_1 : Int) (a_2 : (List GState)) : [T.sc (.int .i64 a_0), T.sc (.int .i64 a_1), T.sl 8 (els a_2)] :: els l = els ((⟨a_0, a_1, a_2⟩ : GPoints) :: l) := rfl
@[simp] theorem f1_GPoints (a_0 : Int) (a_1 : Int) (a_2 : (List GState)) : [[T.sc (.int .i64 a_0), T.sc (.int .i64 a_1), T.sl 8 (els a_2)]] = els [(⟨a_0, a_1, a_2⟩ : GPoints)] := rfl
theorem fr_GPoints (k : Nat) (a_0 : Int) (a_1 : Int) (a_2 : (List GState)) : List.replicate k [T.sc (.int .i64 a_0), T.sc (.int .i64 a_1), T.sl 8 (els a_2)] = els (List.replicate k (⟨a_0, a_1, a_2⟩ : GPoints)) := els_rep k (⟨a_0, a_1, a_2⟩ : GPoints)
/-- anamnesislaw06.Rooted -/
structure G_anamnesislaw06_Rooted where
  H : GHeap
  R : (List Int)
  deriving DecidableEq
instance : Enc G_anamnesislaw06_Rooted := ⟨4, fun x => [T.sl 6 (els x.H.Objs), T.sc (.int .i64 x.H.Cap), T.sc (.int .i64 x.H.Last), T.sl 1 (els x.R)], fun _ => rfl, ⟨⟨[], 0, 0⟩, []⟩⟩
@[simp] theorem n_G_anamnesislaw06_Rooted : Enc.n G_anamnesislaw06_Rooted = 4 := rfl
@[simp] theorem enc_G_anamnesislaw06_Rooted (x : G_anamnesislaw06_Rooted) : Enc.enc x = [T.sl 6 (els x.H.Objs), T.sc (.int .i64 x.H.Cap), T.sc (.int .i64 x.H.Last), T.sl 1 (els x.R)] := rfl
@[simp] theorem fs_G_anamnesislaw06_Rooted (l : List G_anamnesislaw06_Rooted) (i : Nat) (a_0_0 : (List GObj)) (a_0_1 : Int) (a_0_2 : Int) (a_1 : (List Int)) : (els l).set i [T.sl 6 (els a_0_0), T.sc (.int .i64 a_0_1), T.sc (.int .i64 a_0_2), T.sl 1 (els a_1)] = els (l.set i ⟨⟨a_0_0, a_0_1, a_0_2⟩, a_1⟩) := els_set l i ⟨⟨a_0_0, a_0_1, a_0_2⟩, a_1⟩
@[simp] theorem fa_G_anamnesislaw06_Rooted (l : List G_anamnesislaw06_Rooted) (a_0_0 : (List GObj)) (a_0_1 : Int) (a_0_2 : Int) (a_1 : (List Int)) : els l ++ [[T.sl 6 (els a_0_0), T.sc (.int .i64 a_0_1), T.sc (.int .i64 a_0_2), T.sl 1 (els a_1)]] = els (l ++ [⟨⟨a_0_0, a_0_1, a_0_2⟩, a_1⟩]) := els_snoc l ⟨⟨a_0_0, a_0_1, a_0_2⟩, a_1⟩
@[simp] theorem fc_G_anamnesislaw06_Rooted (l : List G_anamnesislaw06_Rooted) (a_0_0 : (List GObj)) (a_0_1 : Int) (a_0_2 : Int) (a_1 : (List Int)) : [T.sl 6 (els a_0_0), T.sc (.int .i64 a_0_1), T.sc (.int .i64 a_0_2), T.sl 1 (els a_1)] :: els l = els ((⟨⟨a_0_0, a_0_1, a_0_2⟩, a_1⟩ : G_anamnesislaw06_Rooted) :: l) := rfl
@[simp] theorem f1_G_anamnesislaw06_Rooted (a_0_0 : (List GObj)) (a_0_1 : Int) (a_0_2 : Int) (a_1 : (List Int)) : [[T.sl 6 (els a_0_0), T.sc (.int .i64 a_0_1), T.sc (.int .i64 a_0_2), T.sl 1 (els a_1)]] = els [(⟨⟨a_0_0, a_0_1, a_0_2⟩, a_1⟩ : G_anamnesislaw06_Rooted)] := rfl
theorem fr_G_anamnesislaw06_Rooted (k : Nat) (a_0_0 : (List GObj)) (a_0_1 : Int) (a_0_2 : Int) (a_1 : (List Int)) : List.replicate k [T.sl 6 (els a_0_0), T.sc (.int .i64 a_0_1), T.sc (.int .i64 a_0_2), T.sl 1 (els a_1)] = els (List.replicate k (⟨⟨a_0_0, a_0_1, a_0_2⟩, a_1⟩ : G_anamnesislaw06_Rooted)) := els_rep k (⟨⟨a_0_0, a_0_1, a_0_2⟩, a_1⟩ : G_anamnesislaw06_Rooted)
/-- api.Record -/
structure GRecord where
  Kind : Int
  At : Int
  Slot : Int
  Old : Int
  Obj : GObj
  deriving DecidableEq
instance : Enc GRecord := ⟨10, fun x => [T.sc (.int .i64 x.Kind), T.sc (.int .i64 x.At), T.sc (.int .i64 x.Slot), T.sc (.int .i64 x.Old), T.sc (.int .i64 x.Obj.Class), T.sc (.int .i64 x.Obj.Kind), T.sl 1 (els x.Obj.Slots), T.sc (.string x.Obj.Text), T.sc (.int .i64 x.Obj.Bits), T.sc (.int .i64 x.Obj.Hash)], fun _ => rfl, ⟨0, 0, 0, 0, ⟨0, 0, [], .empty, 0, 0⟩⟩⟩
@[simp] theorem n_GRecord : Enc.n GRecord = 10 := rfl
@[simp] theorem enc_GRecord (x : GRecord) : Enc.enc x = [T.sc (.int .i64 x.Kind), T.sc (.int .i64 x.At), T.sc (.int .i64 x.Slot), T.sc (.int .i64 x.Old), T.sc (.int .i64 x.Obj.Class), T.sc (.int .i64 x.Obj.Kind), T.sl 1 (els x.Obj.Slots), T.sc (.string x.Obj.Text), T.sc (.int .i64 x.Obj.Bits), T.sc (.int .i64 x.Obj.Hash)] := rfl
@[simp] theorem fs_GRecord (l : List GRecord) (i : Nat) (a_0 : Int) (a_1 : Int) (a_2 : Int) (a_3 : Int) (a_4_0 : Int) (a_4_1 : Int) (a_4_2 : (List Int)) (a_4_3 : ByteArray) (a_4_4 : Int) (a_4_5 : Int) : (els l).set i [T.sc (.int .i64 a_0), T.sc (.int .i64 a_1), T.sc (.int .i64 a_2), T.sc (.int .i64 a_3), T.sc (.int .i64 a_4_0), T.sc (.int .i64 a_4_1), T.sl 1 (els a_4_2), T.sc (.string a_4_3), T.sc (.int .i64 a_4_4), T.sc (.int .i64 a_4_5)] = els (l.set i ⟨a_0, a_1, a_2, a_3, ⟨a_4_0, a_4_1, a_4_2, a_4_3, a_4_4, a_4_5⟩⟩) := els_set l i ⟨a_0, a_1, a_2, a_3, ⟨a_4_0, a_4_1, a_4_2, a_4_3, a_4_4, a_4_5⟩⟩
@[simp] theorem fa_GRecord (l : List GRecord) (a_0 : Int) (a_1 : Int) (a_2 : Int) (a_3 : Int) (a_4_0 : Int) (a_4_1 : Int) (a_4_2 : (List Int)) (a_4_3 : ByteArray) (a_4_4 : Int) (a_4_5 : Int) : els l ++ [[T.sc (.int .i64 a_0), T.sc (.int .i64 a_1), T.sc (.int .i64 a_2), T.sc (.int .i64 a_3), T.sc (.int .i64 a_4_0), T.sc (.int .i64 a_4_1), T.sl 1 (els a_4_2), T.sc (.string a_4_3), T.sc (.int .i64 a_4_4), T.sc (.int .i64 a_4_5)]] = els (l ++ [⟨a_0, a_1, a_2, a_3, ⟨a_4_0, a_4_1, a_4_2, a_4_3, a_4_4, a_4_5⟩⟩]) := els_snoc l ⟨a_0, a_1, a_2, a_3, ⟨a_4_0, a_4_1, a_4_2, a_4_3, a_4_4, a_4_5⟩⟩
@[simp] theorem fc_GRecord (l : List GRecord) (a_0 : Int) (a_1 : Int) (a_2 : Int) (a_3 : Int) (a_4_0 : Int) (a_4_1 : Int) (a_4_2 : (List Int)) (a_4_3 : ByteArray) (a_4_4 : Int) (a_4_5 : Int) : [T.sc (.int .i64 a_0), T.sc (.int .i64 a_1), T.sc (.int .i64 a_2), T.sc (.int .i64 a_3), T.sc (.int .i64 a_4_0), T.sc (.int .i64 a_4_1), T.sl 1 (els a_4_2), T.sc (.string a_4_3), T.sc (.int .i64 a_4_4), T.sc (.int .i64 a_4_5)] :: els l = els ((⟨a_0, a_1, a_2, a_3, ⟨a_4_0, a_4_1, a_4_2, a_4_3, a_4_4, a_4_5⟩⟩ : GRecord) :: l) := rfl
@[simp] theorem f1_GRecord (a_0 : Int) (a_1 : Int) (a_2 : Int) (a_3 : Int) (a_4_0 : Int) (a_4_1 : Int) (a_4_2 : (List Int)) (a_4_3 : ByteArray) (a_4_4 : Int) (a_4_5 : Int) : [[T.sc (.int .i64 a_0), T.sc (.int .i64 a_1), T.sc (.int .i64 a_2), T.sc (.int .i64 a_3), T.sc (.int .i64 a_4_0), T.sc (.int .i64 a_4_1), T.sl 1 (els a_4_2), T.sc (.string a_4_3), T.sc (.int .i64 a_4_4), T.sc (.int .i64 a_4_5)]] = els [(⟨a_0, a_1, a_2, a_3, ⟨a_4_0, a_4_1, a_4_2, a_4_3, a_4_4, a_4_5⟩⟩ : GRecord)] := rfl
theorem fr_GRecord (k : Nat) (a_0 : Int) (a_1 : Int) (a_2 : Int) (a_3 : Int) (a_4_0 : Int) (a_4_1 : Int) (a_4_2 : (List Int)) (a_4_3 : ByteArray) (a_4_4 : Int) (a_4_5 : Int) : List.replicate k [T.sc (.int .i64 a_0), T.sc (.int .i64 a_1), T.sc (.int .i64 a_2), T.sc (.int .i64 a_3), T.sc (.int .i64 a_4_0), T.sc (.int .i64 a_4_1), T.sl 1 (els a_4_2), T.sc (.string a_4_3), T.sc (.int .i64 a_4_4), T.sc (.int .i64 a_4_5)] = els (List.replicate k (⟨a_0, a_1, a_2, a_3, ⟨a_4_0, a_4_1, a_4_2, a_4_3, a_4_4, a_4_5⟩⟩ : GRecord)) := els_rep k (⟨a_0, a_1, a_2, a_3, ⟨a_4_0, a_4_1, a_4_2, a_4_3, a_4_4, a_4_5⟩⟩ : GRecord)
/-- anamnesislaw05.Ask -/
structure G_anamnesislaw05_Ask where
  T : (List Int)
  V : Int
  deriving DecidableEq
instance : Enc G_anamnesislaw05_Ask := ⟨2, fun x => [T.sl 1 (els x.T), T.sc (.int .i64 x.V)], fun _ => rfl, ⟨[], 0⟩⟩
@[simp] theorem n_G_anamnesislaw05_Ask : Enc.n G_anamnesislaw05_Ask = 2 := rfl
@[simp] theorem enc_G_anamnesislaw05_Ask (x : G_anamnesislaw05_Ask) : Enc.enc x = [T.sl 1 (els x.T), T.sc (.int .i64 x.V)] := rfl
@[simp] theorem fs_G_anamnesislaw05_Ask (l : List G_anamnesislaw05_Ask) (i : Nat) (a_0 : (List Int)) (a_1 : Int) : (els l).set i [T.sl 1 (els a_0), T.sc (.int .i64 a_1)] = els (l.set i ⟨a_0, a_1⟩) := els_set l i ⟨a_0, a_1⟩
@[simp] theorem fa_G_anamnesislaw05_Ask (l : List G_anamnesislaw05_Ask) (a_0 : (List Int)) (a_1 : Int) : els l ++ [[T.sl 1 (els a_0), T.sc (.int .i64 a_1)]] = els (l ++ [⟨a_0, a_1⟩]) := els_snoc l ⟨a_0, a_1⟩
@[simp] theorem fc_G_anamnesislaw05_Ask (l : List G_anamnesislaw05_Ask) (a_0 : (List Int)) (a_1 : Int) : [T.sl 1 (els a_0), T.sc (.int .i64 a_1)] :: els l = els ((⟨a_0, a_1⟩ : G_anamnesislaw05_Ask) :: l) := rfl
@[simp] theorem f1_G_anamnesislaw05_Ask (a_0 : (List Int)) (a_1 : Int) : [[T.sl 1 (els a_0), T.sc (.int .i64 a_1)]] = els [(⟨a_0, a_1⟩ : G_anamnesislaw05_Ask)] := rfl
theorem fr_G_anamnesislaw05_Ask (k : Nat) (a_0 : (List Int)) (a_1 : Int) : List.replicate k [T.sl 1 (els a_0), T.sc (.int .i64 a_1)] = els (List.replicate k (⟨a_0, a_1⟩ : G_anamnesislaw05_Ask)) := els_rep k (⟨a_0, a_1⟩ : G_anamnesislaw05_Ask)
/-- mark.marker -/
structure G_mark_marker where
  objs : (List GObj)
  marked : (List Bool)
  stack : (List Int)
  deriving DecidableEq
instance : Enc G_mark_marker := ⟨3, fun x => [T.sl 6 (els x.objs), T.sl 1 (els x.marked), T.sl 1 (els x.stack)], fun _ => rfl, ⟨[], [], []⟩⟩
@[simp] theorem n_G_mark_marker : Enc.n G_mark_marker = 3 := rfl
@[simp] theorem enc_G_mark_marker (x : G_mark_marker) : Enc.enc x = [T.sl 6 (els x.objs), T.sl 1 (els x.marked), T.sl 1 (els x.stack)] := rfl
@[simp] theorem fs_G_mark_marker (l : List G_mark_marker) (i : Nat) (a_0 : (List GObj)) (a_1 : (List Bool)) (a_2 : (List Int)) : (els l).set i [T.sl 6 (els a_0), T.sl 1 (els a_1), T.sl 1 (els a_2)] = els (l.set i ⟨a_0, a_1, a_2⟩) := els_set l i ⟨a_0, a_1, a_2⟩
@[simp] theorem fa_G_mark_marker (l : List G_mark_marker) (a_0 : (List GObj)) (a_1 : (List Bool)) (a_2 : (List Int)) : els l ++ [[T.sl 6 (els a_0), T.sl 1 (els a_1), T.sl 1 (els a_2)]] = els (l ++ [⟨a_0, a_1, a_2⟩]) := els_snoc l ⟨a_0, a_1, a_2⟩
@[simp] theorem fc_G_mark_marker (l : List G_mark_marker) (a_0 : (List GObj)) (a_1 : (List Bool)) (a_2 : (List Int)) : [T.sl 6 (els a_0), T.sl 1 (els a_1), T.sl 1 (els a_2)] :: els l = els ((⟨a_0, a_1, a_2⟩ : G_mark_marker) :: l) := rfl
@[simp] theorem f1_G_mark_marker (a_0 : (List GObj)) (a_1 : (List Bool)) (a_2 : (List Int)) : [[T.sl 6 (els a_0), T.sl 1 (els a_1), T.sl 1 (els a_2)]] = els [(⟨a_0, a_1, a_2⟩ : G_mark_marker)] := rfl
theorem fr_G_mark_marker (k : Nat) (a_0 : (List GObj)) (a_1 : (List Bool)) (a_2 : (List Int)) : List.replicate k [T.sl 6 (els a_0), T.sl 1 (els a_1), T.sl 1 (els a_2)] = els (List.replicate k (⟨a_0, a_1, a_2⟩ : G_mark_marker)) := els_rep k (⟨a_0, a_1, a_2⟩ : G_mark_marker)
/-- anamnesisref06.Pairing -/
structure G_anamnesisref06_Pairing where
  To : (List Int)
  From : (List Int)
  deriving DecidableEq
instance : Enc G_anamnesisref06_Pairing := ⟨2, fun x => [T.sl 1 (els x.To), T.sl 1 (els x.From)], fun _ => rfl, ⟨[], []⟩⟩
@[simp] theorem n_G_anamnesisref06_Pairing : Enc.n G_anamnesisref06_Pairing = 2 := rfl
@[simp] theorem enc_G_anamnesisref06_Pairing (x : G_anamnesisref06_Pairing) : Enc.enc x = [T.sl 1 (els x.To), T.sl 1 (els x.From)] := rfl
@[simp] theorem fs_G_anamnesisref06_Pairing (l : List G_anamnesisref06_Pairing) (i : Nat) (a_0 : (List Int)) (a_1 : (List Int)) : (els l).set i [T.sl 1 (els a_0), T.sl 1 (els a_1)] = els (l.set i ⟨a_0, a_1⟩) := els_set l i ⟨a_0, a_1⟩
@[simp] theorem fa_G_anamnesisref06_Pairing (l : List G_anamnesisref06_Pairing) (a_0 : (List Int)) (a_1 : (List Int)) : els l ++ [[T.sl 1 (els a_0), T.sl 1 (els a_1)]] = els (l ++ [⟨a_0, a_1⟩]) := els_snoc l ⟨a_0, a_1⟩
@[simp] theorem fc_G_anamnesisref06_Pairing (l : List G_anamnesisref06_Pairing) (a_0 : (List Int)) (a_1 : (List Int)) : [T.sl 1 (els a_0), T.sl 1 (els a_1)] :: els l = els ((⟨a_0, a_1⟩ : G_anamnesisref06_Pairing) :: l) := rfl
@[simp] theorem f1_G_anamnesisref06_Pairing (a_0 : (List Int)) (a_1 : (List Int)) : [[T.sl 1 (els a_0), T.sl 1 (els a_1)]] = els [(⟨a_0, a_1⟩ : G_anamnesisref06_Pairing)] := rfl
theorem fr_G_anamnesisref06_Pairing (k : Nat) (a_0 : (List Int)) (a_1 : (List Int)) : List.replicate k [T.sl 1 (els a_0), T.sl 1 (els a_1)] = els (List.replicate k (⟨a_0, a_1⟩ : G_anamnesisref06_Pairing)) := els_rep k (⟨a_0, a_1⟩ : G_anamnesisref06_Pairing)
/-- nil of 30 -/
@[simp high] theorem ns_30 : D.seam (some (8, 30, false)) (D.t (T.sc (.slice none 0 0))) = D.t (T.sl 8 (els ([] : List GState))) := rfl
@[simp high] theorem no_30 : D.seam (some (8, 30, true)) (D.t (T.sc (.slice none 0 0))) = D.own 30 8 (els ([] : List GState)) := rfl
@[simp high] theorem nc_30 : canon1 (some (8, 30)) (T.sc (.slice none 0 0)) = T.sl 8 (els ([] : List GState)) := rfl
@[simp high] theorem nw_30 : D.own 30 8 [] = D.own 30 8 (els ([] : List GState)) := rfl
/-- nil of 58 -/
@[simp high] theorem ns_58 : D.seam (some (6, 58, false)) (D.t (T.sc (.slice none 0 0))) = D.t (T.sl 6 (els ([] : List GObj))) := rfl
@[simp high] theorem no_58 : D.seam (some (6, 58, true)) (D.t (T.sc (.slice none 0 0))) = D.own 58 6 (els ([] : List GObj)) := rfl
@[simp high] theorem nc_58 : canon1 (some (6, 58)) (T.sc (.slice none 0 0)) = T.sl 6 (els ([] : List GObj)) := rfl
@[simp high] theorem nw_58 : D.own 58 6 [] = D.own 58 6 (els ([] : List GObj)) := rfl
/-- nil of 3 -/
@[simp high] theorem ns_3 : D.seam (some (1, 3, false)) (D.t (T.sc (.slice none 0 0))) = D.t (T.sl 1 (els ([] : List Int))) := rfl
@[simp high] theorem no_3 : D.seam (some (1, 3, true)) (D.t (T.sc (.slice none 0 0))) = D.own 3 1 (els ([] : List Int)) := rfl
@[simp high] theorem nc_3 : canon1 (some (1, 3)) (T.sc (.slice none 0 0)) = T.sl 1 (els ([] : List Int)) := rfl
@[simp high] theorem nw_3 : D.own 3 1 [] = D.own 3 1 (els ([] : List Int)) := rfl
/-- nil of 83 -/
@[simp high] theorem ns_83 : D.seam (some (10, 83, false)) (D.t (T.sc (.slice none 0 0))) = D.t (T.sl 10 (els ([] : List GRecord))) := rfl
@[simp high] theorem no_83 : D.seam (some (10, 83, true)) (D.t (T.sc (.slice none 0 0))) = D.own 83 10 (els ([] : List GRecord)) := rfl
@[simp high] theorem nc_83 : canon1 (some (10, 83)) (T.sc (.slice none 0 0)) = T.sl 10 (els ([] : List GRecord)) := rfl
@[simp high] theorem nw_83 : D.own 83 10 [] = D.own 83 10 (els ([] : List GRecord)) := rfl
/-- nil of 4 -/
@[simp high] theorem ns_4 : D.seam (some (1, 4, false)) (D.t (T.sc (.slice none 0 0))) = D.t (T.sl 1 (els ([] : List Bool))) := rfl
@[simp high] theorem no_4 : D.seam (some (1, 4, true)) (D.t (T.sc (.slice none 0 0))) = D.own 4 1 (els ([] : List Bool)) := rfl
@[simp high] theorem nc_4 : canon1 (some (1, 4)) (T.sc (.slice none 0 0)) = T.sl 1 (els ([] : List Bool)) := rfl
@[simp high] theorem nw_4 : D.own 4 1 [] = D.own 4 1 (els ([] : List Bool)) := rfl
end Go.Pv

namespace Go.Pv
/-- anamnesislaw10.Ask -/
structure G_anamnesislaw10_Ask where
  Class : Int
  Sel : Int
  Flush : Bool
  Other : Bool
  deriving DecidableEq
instance : Enc G_anamnesislaw10_Ask := ⟨4, fun x => [T.sc (.int .i64 x.Class), T.sc (.int .i64 x.Sel), T.sc (.bool x.Flush), T.sc (.bool x.Other)], fun _ => rfl, ⟨0, 0, false, false⟩⟩
@[simp] theorem n_G_anamnesislaw10_Ask : Enc.n G_anamnesislaw10_Ask = 4 := rfl
@[simp] theorem enc_G_anamnesislaw10_Ask (x : G_anamnesislaw10_Ask) : Enc.enc x = [T.sc (.int .i64 x.Class), T.sc (.int .i64 x.Sel), T.sc (.bool x.Flush), T.sc (.bool x.Other)] := rfl
@[simp] theorem fs_G_anamnesislaw10_Ask (l : List G_anamnesislaw10_Ask) (i : Nat) (a_0 : Int) (a_1 : Int) (a_2 : Bool) (a_3 : Bool) : (els l).set i [T.sc (.int .i64 a_0), T.sc (.int .i64 a_1), T.sc (.bool a_2), T.sc (.bool a_3)] = els (l.set i ⟨a_0, a_1, a_2, a_3⟩) := els_set l i ⟨a_0, a_1, a_2, a_3⟩
@[simp] theorem fa_G_anamnesislaw10_Ask (l : List G_anamnesislaw10_Ask) (a_0 : Int) (a_1 : Int) (a_2 : Bool) (a_3 : Bool) : els l ++ [[T.sc (.int .i64 a_0), T.sc (.int .i64 a_1), T.sc (.bool a_2), T.sc (.bool a_3)]] = els (l ++ [⟨a_0, a_1, a_2, a_3⟩]) := els_snoc l ⟨a_0, a_1, a_2, a_3⟩
@[simp] theorem fc_G_anamnesislaw10_Ask (l : List G_anamnesislaw10_Ask) (a_0 : Int) (a_1 : Int) (a_2 : Bool) (a_3 : Bool) : [T.sc (.int .i64 a_0), T.sc (.int .i64 a_1), T.sc (.bool a_2), T.sc (.bool a_3)] :: els l = els ((⟨a_0, a_1, a_2, a_3⟩ : G_anamnesislaw10_Ask) :: l) := rfl
@[simp] theorem f1_G_anamnesislaw10_Ask (a_0 : Int) (a_1 : Int) (a_2 : Bool) (a_3 : Bool) : [[T.sc (.int .i64 a_0), T.sc (.int .i64 a_1), T.sc (.bool a_2), T.sc (.bool a_3)]] = els [(⟨a_0, a_1, a_2, a_3⟩ : G_anamnesislaw10_Ask)] := rfl
theorem fr_G_anamnesislaw10_Ask (k : Nat) (a_0 : Int) (a_1 : Int) (a_2 : Bool) (a_3 : Bool) : List.replicate k [T.sc (.int .i64 a_0), T.sc (.int .i64 a_1), T.sc (.bool a_2), T.sc (.bool a_3)] = els (List.replicate k (⟨a_0, a_1, a_2, a_3⟩ : G_anamnesislaw10_Ask)) := els_rep k (⟨a_0, a_1, a_2, a_3⟩ : G_anamnesislaw10_Ask)
/-- anamnesislaw10.Asks -/
structure G_anamnesislaw10_Asks where
  Size : Int
  L : (List G_anamnesislaw10_Ask)
  deriving DecidableEq
instance : Enc G_anamnesislaw10_Asks := ⟨2, fun x => [T.sc (.int .i64 x.Size), T.sl 4 (els x.L)], fun _ => rfl, ⟨0, []⟩⟩
@[simp] theorem n_G_anamnesislaw10_Asks : Enc.n G_anamnesislaw10_Asks = 2 := rfl
@[simp] theorem enc_G_anamnesislaw10_Asks (x : G_anamnesislaw10_Asks) : Enc.enc x = [T.sc (.int .i64 x.Size), T.sl 4 (els x.L)] := rfl
@[simp] theorem fs_G_anamnesislaw10_Asks (l : List G_anamnesislaw10_Asks) (i : Nat) (a_0 : Int) (a_1 : (List G_anamnesislaw10_Ask)) : (els l).set i [T.sc (.int .i64 a_0), T.sl 4 (els a_1)] = els (l.set i ⟨a_0, a_1⟩) := els_set l i ⟨a_0, a_1⟩
@[simp] theorem fa_G_anamnesislaw10_Asks (l : List G_anamnesislaw10_Asks) (a_0 : Int) (a_1 : (List G_anamnesislaw10_Ask)) : els l ++ [[T.sc (.int .i64 a_0), T.sl 4 (els a_1)]] = els (l ++ [⟨a_0, a_1⟩]) := els_snoc l ⟨a_0, a_1⟩
@[simp] theorem fc_G_anamnesislaw10_Asks (l : List G_anamnesislaw10_Asks) (a_0 : Int) (a_1 : (List G_anamnesislaw10_Ask)) : [T.sc (.int .i64 a_0), T.sl 4 (els a_1)] :: els l = els ((⟨a_0, a_1⟩ : G_anamnesislaw10_Asks) :: l) := rfl
@[simp] theorem f1_G_anamnesislaw10_Asks (a_0 : Int) (a_1 : (List G_anamnesislaw10_Ask)) : [[T.sc (.int .i64 a_0), T.sl 4 (els a_1)]] = els [(⟨a_0, a_1⟩ : G_anamnesislaw10_Asks)] := rfl
theorem fr_G_anamnesislaw10_Asks (k : Nat) (a_0 : Int) (a_1 : (List G_anamnesislaw10_Ask)) : List.replicate k [T.sc (.int .i64 a_0), T.sl 4 (els a_1)] = els (List.replicate k (⟨a_0, a_1⟩ : G_anamnesislaw10_Asks)) := els_rep k (⟨a_0, a_1⟩ : G_anamnesislaw10_Asks)
/-- anamnesisref10.Entry -/
structure G_anamnesisref10_Entry where
  Class : Int
  Sel : Int
  Method : Int
  At : Int
  Full : Bool
  deriving DecidableEq
instance : Enc G_anamnesisref10_Entry := ⟨5, fun x => [T.sc (.int .i64 x.Class), T.sc (.int .i64 x.Sel), T.sc (.int .i64 x.Method), T.sc (.int .i64 x.At), T.sc (.bool x.Full)], fun _ => rfl, ⟨0, 0, 0, 0, false⟩⟩
@[simp] theorem n_G_anamnesisref10_Entry : Enc.n G_anamnesisref10_Entry = 5 := rfl
@[simp] theorem enc_G_anamnesisref10_Entry (x : G_anamnesisref10_Entry) : Enc.enc x = [T.sc (.int .i64 x.Class), T.sc (.int .i64 x.Sel), T.sc (.int .i64 x.Method), T.sc (.int .i64 x.At), T.sc (.bool x.Full)] := rfl
@[simp] theorem fs_G_anamnesisref10_Entry (l : List G_anamnesisref10_Entry) (i : Nat) (a_0 : Int) (a_1 : Int) (a_2 : Int) (a_3 : Int) (a_4 : Bool) : (els l).set i [T.sc (.int .i64 a_0), T.sc (.int .i64 a_1), T.sc (.int .i64 a_2), T.sc (.int .i64 a_3), T.sc (.bool a_4)] = els (l.set i ⟨a_0, a_1, a_2, a_3, a_4⟩) := els_set l i ⟨a_0, a_1, a_2, a_3, a_4⟩
@[simp] theorem fa_G_anamnesisref10_Entry (l : List G_anamnesisref10_Entry) (a_0 : Int) (a_1 : Int) (a_2 : Int) (a_3 : Int) (a_4 : Bool) : els l ++ [[T.sc (.int .i64 a_0), T.sc (.int .i64 a_1), T.sc (.int .i64 a_2), T.sc (.int .i64 a_3), T.sc (.bool a_4)]] = els (l ++ [⟨a_0, a_1, a_2, a_3, a_4⟩]) := els_snoc l ⟨a_0, a_1, a_2, a_3, a_4⟩
@[simp] theorem fc_G_anamnesisref10_Entry (l : List G_anamnesisref10_Entry) (a_0 : Int) (a_1 : Int) (a_2 : Int) (a_3 : Int) (a_4 : Bool) : [T.sc (.int .i64 a_0), T.sc (.int .i64 a_1), T.sc (.int .i64 a_2), T.sc (.int .i64 a_3), T.sc (.bool a_4)] :: els l = els ((⟨a_0, a_1, a_2, a_3, a_4⟩ : G_anamnesisref10_Entry) :: l) := rfl
@[simp] theorem f1_G_anamnesisref10_Entry (a_0 : Int) (a_1 : Int) (a_2 : Int) (a_3 : Int) (a_4 : Bool) : [[T.sc (.int .i64 a_0), T.sc (.int .i64 a_1), T.sc (.int .i64 a_2), T.sc (.int .i64 a_3), T.sc (.bool a_4)]] = els [(⟨a_0, a_1, a_2, a_3, a_4⟩ : G_anamnesisref10_Entry)] := rfl
theorem fr_G_anamnesisref10_Entry (k : Nat) (a_0 : Int) (a_1 : Int) (a_2 : Int) (a_3 : Int) (a_4 : Bool) : List.replicate k [T.sc (.int .i64 a_0), T.sc (.int .i64 a_1), T.sc (.int .i64 a_2), T.sc (.int .i64 a_3), T.sc (.bool a_4)] = els (List.replicate k (⟨a_0, a_1, a_2, a_3, a_4⟩ : G_anamnesisref10_Entry)) := els_rep k (⟨a_0, a_1, a_2, a_3, a_4⟩ : G_anamnesisref10_Entry)
/-- anamnesisref10.Cache -/
structure G_anamnesisref10_Cache where
  L : (List G_anamnesisref10_Entry)
  Hits : Int
  Misses : Int
  deriving DecidableEq
instance : Enc G_anamnesisref10_Cache := ⟨3, fun x => [T.sl 5 (els x.L), T.sc (.int .i64 x.Hits), T.sc (.int .i64 x.Misses)], fun _ => rfl, ⟨[], 0, 0⟩⟩
@[simp] theorem n_G_anamnesisref10_Cache : Enc.n G_anamnesisref10_Cache = 3 := rfl
@[simp] theorem enc_G_anamnesisref10_Cache (x : G_anamnesisref10_Cache) : Enc.enc x = [T.sl 5 (els x.L), T.sc (.int .i64 x.Hits), T.sc (.int .i64 x.Misses)] := rfl
@[simp] theorem fs_G_anamnesisref10_Cache (l : List G_anamnesisref10_Cache) (i : Nat) (a_0 : (List G_anamnesisref10_Entry)) (a_1 : Int) (a_2 : Int) : (els l).set i [T.sl 5 (els a_0), T.sc (.int .i64 a_1), T.sc (.int .i64 a_2)] = els (l.set i ⟨a_0, a_1, a_2⟩) := els_set l i ⟨a_0, a_1, a_2⟩
@[simp] theorem fa_G_anamnesisref10_Cache (l : List G_anamnesisref10_Cache) (a_0 : (List G_anamnesisref10_Entry)) (a_1 : Int) (a_2 : Int) : els l ++ [[T.sl 5 (els a_0), T.sc (.int .i64 a_1), T.sc (.int .i64 a_2)]] = els (l ++ [⟨a_0, a_1, a_2⟩]) := els_snoc l ⟨a_0, a_1, a_2⟩
@[simp] theorem fc_G_anamnesisref10_Cache (l : List G_anamnesisref10_Cache) (a_0 : (List G_anamnesisref10_Entry)) (a_1 : Int) (a_2 : Int) : [T.sl 5 (els a_0), T.sc (.int .i64 a_1), T.sc (.int .i64 a_2)] :: els l = els ((⟨a_0, a_1, a_2⟩ : G_anamnesisref10_Cache) :: l) := rfl
@[simp] theorem f1_G_anamnesisref10_Cache (a_0 : (List G_anamnesisref10_Entry)) (a_1 : Int) (a_2 : Int) : [[T.sl 5 (els a_0), T.sc (.int .i64 a_1), T.sc (.int .i64 a_2)]] = els [(⟨a_0, a_1, a_2⟩ : G_anamnesisref10_Cache)] := rfl
theorem fr_G_anamnesisref10_Cache (k : Nat) (a_0 : (List G_anamnesisref10_Entry)) (a_1 : Int) (a_2 : Int) : List.replicate k [T.sl 5 (els a_0), T.sc (.int .i64 a_1), T.sc (.int .i64 a_2)] = els (List.replicate k (⟨a_0, a_1, a_2⟩ : G_anamnesisref10_Cache)) := els_rep k (⟨a_0, a_1, a_2⟩ : G_anamnesisref10_Cache)
/-- cache.key -/
structure G_cache_key where
  cls : Int
  sel : Int
  deriving DecidableEq
instance : Enc G_cache_key := ⟨2, fun x => [T.sc (.int .i64 x.cls), T.sc (.int .i64 x.sel)], fun _ => rfl, ⟨0, 0⟩⟩
@[simp] theorem n_G_cache_key : Enc.n G_cache_key = 2 := rfl
@[simp] theorem enc_G_cache_key (x : G_cache_key) : Enc.enc x = [T.sc (.int .i64 x.cls), T.sc (.int .i64 x.sel)] := rfl
@[simp] theorem fs_G_cache_key (l : List G_cache_key) (i : Nat) (a_0 : Int) (a_1 : Int) : (els l).set i [T.sc (.int .i64 a_0), T.sc (.int .i64 a_1)] = els (l.set i ⟨a_0, a_1⟩) := els_set l i ⟨a_0, a_1⟩
@[simp] theorem fa_G_cache_key (l : List G_cache_key) (a_0 : Int) (a_1 : Int) : els l ++ [[T.sc (.int .i64 a_0), T.sc (.int .i64 a_1)]] = els (l ++ [⟨a_0, a_1⟩]) := els_snoc l ⟨a_0, a_1⟩
@[simp] theorem fc_G_cache_key (l : List G_cache_key) (a_0 : Int) (a_1 : Int) : [T.sc (.int .i64 a_0), T.sc (.int .i64 a_1)] :: els l = els ((⟨a_0, a_1⟩ : G_cache_key) :: l) := rfl
@[simp] theorem f1_G_cache_key (a_0 : Int) (a_1 : Int) : [[T.sc (.int .i64 a_0), T.sc (.int .i64 a_1)]] = els [(⟨a_0, a_1⟩ : G_cache_key)] := rfl
theorem fr_G_cache_key (k : Nat) (a_0 : Int) (a_1 : Int) : List.replicate k [T.sc (.int .i64 a_0), T.sc (.int .i64 a_1)] = els (List.replicate k (⟨a_0, a_1⟩ : G_cache_key)) := els_rep k (⟨a_0, a_1⟩ : G_cache_key)
/-- cache.entry -/
structure G_cache_entry where
  key : G_cache_key
  method : Int
  at_ : Int
  full_ : Bool
  deriving DecidableEq
instance : Enc G_cache_entry := ⟨5, fun x => [T.sc (.int .i64 x.key.cls), T.sc (.int .i64 x.key.sel), T.sc (.int .i64 x.method), T.sc (.int .i64 x.at_), T.sc (.bool x.full_)], fun _ => rfl, ⟨⟨0, 0⟩, 0, 0, false⟩⟩
@[simp] theorem n_G_cache_entry : Enc.n G_cache_entry = 5 := rfl
@[simp] theorem enc_G_cache_entry (x : G_cache_entry) : Enc.enc x = [T.sc (.int .i64 x.key.cls), T.sc (.int .i64 x.key.sel), T.sc (.int .i64 x.method), T.sc (.int .i64 x.at_), T.sc (.bool x.full_)] := rfl
@[simp] theorem fs_G_cache_entry (l : List G_cache_entry) (i : Nat) (a_0_0 : Int) (a_0_1 : Int) (a_1 : Int) (a_2 : Int) (a_3 : Bool) : (els l).set i [T.sc (.int .i64 a_0_0), T.sc (.int .i64 a_0_1), T.sc (.int .i64 a_1), T.sc (.int .i64 a_2), T.sc (.bool a_3)] = els (l.set i ⟨⟨a_0_0, a_0_1⟩, a_1, a_2, a_3⟩) := els_set l i ⟨⟨a_0_0, a_0_1⟩, a_1, a_2, a_3⟩
@[simp] theorem fa_G_cache_entry (l : List G_cache_entry) (a_0_0 : Int) (a_0_1 : Int) (a_1 : Int) (a_2 : Int) (a_3 : Bool) : els l ++ [[T.sc (.int .i64 a_0_0), T.sc (.int .i64 a_0_1), T.sc (.int .i64 a_1), T.sc (.int .i64 a_2), T.sc (.bool a_3)]] = els (l ++ [⟨⟨a_0_0, a_0_1⟩, a_1, a_2, a_3⟩]) := els_snoc l ⟨⟨a_0_0, a_0_1⟩, a_1, a_2, a_3⟩
@[simp] theorem fc_G_cache_entry (l : List G_cache_entry) (a_0_0 : Int) (a_0_1 : Int) (a_1 : Int) (a_2 : Int) (a_3 : Bool) : [T.sc (.int .i64 a_0_0), T.sc (.int .i64 a_0_1), T.sc (.int .i64 a_1), T.sc (.int .i64 a_2), T.sc (.bool a_3)] :: els l = els ((⟨⟨a_0_0, a_0_1⟩, a_1, a_2, a_3⟩ : G_cache_entry) :: l) := rfl
@[simp] theorem f1_G_cache_entry (a_0_0 : Int) (a_0_1 : Int) (a_1 : Int) (a_2 : Int) (a_3 : Bool) : [[T.sc (.int .i64 a_0_0), T.sc (.int .i64 a_0_1), T.sc (.int .i64 a_1), T.sc (.int .i64 a_2), T.sc (.bool a_3)]] = els [(⟨⟨a_0_0, a_0_1⟩, a_1, a_2, a_3⟩ : G_cache_entry)] := rfl
theorem fr_G_cache_entry (k : Nat) (a_0_0 : Int) (a_0_1 : Int) (a_1 : Int) (a_2 : Int) (a_3 : Bool) : List.replicate k [T.sc (.int .i64 a_0_0), T.sc (.int .i64 a_0_1), T.sc (.int .i64 a_1), T.sc (.int .i64 a_2), T.sc (.bool a_3)] = els (List.replicate k (⟨⟨a_0_0, a_0_1⟩, a_1, a_2, a_3⟩ : G_cache_entry)) := els_rep k (⟨⟨a_0_0, a_0_1⟩, a_1, a_2, a_3⟩ : G_cache_entry)
/-- cache.Cache -/
structure G_cache_Cache where
  entries : (List G_cache_entry)
  hits : Int
  misses : Int
  deriving DecidableEq
instance : Enc G_cache_Cache := ⟨3, fun x => [T.sl 5 (els x.entries), T.sc (.int .i64 x.hits), T.sc (.int .i64 x.misses)], fun _ => rfl, ⟨[], 0, 0⟩⟩
@[simp] theorem n_G_cache_Cache : Enc.n G_cache_Cache = 3 := rfl
@[simp] theorem enc_G_cache_Cache (x : G_cache_Cache) : Enc.enc x = [T.sl 5 (els x.entries), T.sc (.int .i64 x.hits), T.sc (.int .i64 x.misses)] := rfl
@[simp] theorem fs_G_cache_Cache (l : List G_cache_Cache) (i : Nat) (a_0 : (List G_cache_entry)) (a_1 : Int) (a_2 : Int) : (els l).set i [T.sl 5 (els a_0), T.sc (.int .i64 a_1), T.sc (.int .i64 a_2)] = els (l.set i ⟨a_0, a_1, a_2⟩) := els_set l i ⟨a_0, a_1, a_2⟩
@[simp] theorem fa_G_cache_Cache (l : List G_cache_Cache) (a_0 : (List G_cache_entry)) (a_1 : Int) (a_2 : Int) : els l ++ [[T.sl 5 (els a_0), T.sc (.int .i64 a_1), T.sc (.int .i64 a_2)]] = els (l ++ [⟨a_0, a_1, a_2⟩]) := els_snoc l ⟨a_0, a_1, a_2⟩
@[simp] theorem fc_G_cache_Cache (l : List G_cache_Cache) (a_0 : (List G_cache_entry)) (a_1 : Int) (a_2 : Int) : [T.sl 5 (els a_0), T.sc (.int .i64 a_1), T.sc (.int .i64 a_2)] :: els l = els ((⟨a_0, a_1, a_2⟩ : G_cache_Cache) :: l) := rfl
@[simp] theorem f1_G_cache_Cache (a_0 : (List G_cache_entry)) (a_1 : Int) (a_2 : Int) : [[T.sl 5 (els a_0), T.sc (.int .i64 a_1), T.sc (.int .i64 a_2)]] = els [(⟨a_0, a_1, a_2⟩ : G_cache_Cache)] := rfl
theorem fr_G_cache_Cache (k : Nat) (a_0 : (List G_cache_entry)) (a_1 : Int) (a_2 : Int) : List.replicate k [T.sl 5 (els a_0), T.sc (.int .i64 a_1), T.sc (.int .i64 a_2)] = els (List.replicate k (⟨a_0, a_1, a_2⟩ : G_cache_Cache)) := els_rep k (⟨a_0, a_1, a_2⟩ : G_cache_Cache)
/-- nil of 34 -/
@[simp high] theorem ns_34 : D.seam (some (6, 34, false)) (D.t (T.sc (.slice none 0 0))) = D.t (T.sl 6 (els ([] : List GObj))) := rfl
@[simp high] theorem no_34 : D.seam (some (6, 34, true)) (D.t (T.sc (.slice none 0 0))) = D.own 34 6 (els ([] : List GObj)) := rfl
@[simp high] theorem nc_34 : canon1 (some (6, 34)) (T.sc (.slice none 0 0)) = T.sl 6 (els ([] : List GObj)) := rfl
@[simp high] theorem nw_34 : D.own 34 6 [] = D.own 34 6 (els ([] : List GObj)) := rfl
/-- nil of 48 -/
@[simp high] theorem ns_48 : D.seam (some (4, 48, false)) (D.t (T.sc (.slice none 0 0))) = D.t (T.sl 4 (els ([] : List G_anamnesislaw10_Ask))) := rfl
@[simp high] theorem no_48 : D.seam (some (4, 48, true)) (D.t (T.sc (.slice none 0 0))) = D.own 48 4 (els ([] : List G_anamnesislaw10_Ask)) := rfl
@[simp high] theorem nc_48 : canon1 (some (4, 48)) (T.sc (.slice none 0 0)) = T.sl 4 (els ([] : List G_anamnesislaw10_Ask)) := rfl
@[simp high] theorem nw_48 : D.own 48 4 [] = D.own 48 4 (els ([] : List G_anamnesislaw10_Ask)) := rfl
/-- nil of 75 -/
@[simp high] theorem ns_75 : D.seam (some (5, 75, false)) (D.t (T.sc (.slice none 0 0))) = D.t (T.sl 5 (els ([] : List G_anamnesisref10_Entry))) := rfl
@[simp high] theorem no_75 : D.seam (some (5, 75, true)) (D.t (T.sc (.slice none 0 0))) = D.own 75 5 (els ([] : List G_anamnesisref10_Entry)) := rfl
@[simp high] theorem nc_75 : canon1 (some (5, 75)) (T.sc (.slice none 0 0)) = T.sl 5 (els ([] : List G_anamnesisref10_Entry)) := rfl
@[simp high] theorem nw_75 : D.own 75 5 [] = D.own 75 5 (els ([] : List G_anamnesisref10_Entry)) := rfl
/-- nil of 81 -/
@[simp high] theorem ns_81 : D.seam (some (5, 81, false)) (D.t (T.sc (.slice none 0 0))) = D.t (T.sl 5 (els ([] : List G_cache_entry))) := rfl
@[simp high] theorem no_81 : D.seam (some (5, 81, true)) (D.t (T.sc (.slice none 0 0))) = D.own 81 5 (els ([] : List G_cache_entry)) := rfl
@[simp high] theorem nc_81 : canon1 (some (5, 81)) (T.sc (.slice none 0 0)) = T.sl 5 (els ([] : List G_cache_entry)) := rfl
@[simp high] theorem nw_81 : D.own 81 5 [] = D.own 81 5 (els ([] : List G_cache_entry)) := rfl
end Go.Pv
