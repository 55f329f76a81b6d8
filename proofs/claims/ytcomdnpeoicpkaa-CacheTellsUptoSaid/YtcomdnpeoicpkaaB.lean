/- A part of the road: the interpreter of plain data and the proof that it is right. -/
import Derived.Test.YtcomdnpeoicpkaaA
import Derived.Laws.CopyRow
import Derived.MapKept
import Derived.Tactics
/- Values on their way into boxes: retagged, resolved, landed. -/
namespace Go.Pv
open Go.RowKit
variable {P : Program} {B fr : Nat} {G : Gh} {σ σ' : St} {act : Act} {w w' : World} {C : Callee} {K : Act → World → Prop} {Q : Exit → Act → World → Prop} {H : Hint}

/-! ### retagging -/
def Ap.app : Ap → List Nat → Ap
  | .tm f t p, r => .tm f t (p ++ r)
  | .pn f t p, r => .pn f t (p ++ r)
  | .bc f s o, _ => .bc f s o
theorem Ap.sub_app (p : Ap) (i : Nat) (r : List Nat) : (p.sub i).app r = p.app (i :: r) := by cases p <;> simp [Ap.sub, Ap.app]
theorem Ap.app_nil (p : Ap) : p.app [] = p := by cases p <;> simp [Ap.app]
def retag1 (ρ : Ap → Ap) : Tag → Tag
  | .own p => .own (ρ p)
  | τ => τ
def Gh.retag (G : Gh) (ρ : Ap → Ap) : Gh := G.setL fun g => (G.L g).map (retag1 ρ)
theorem retag_none {ρ : Ap → Ap} {g : Nat} : (G.retag ρ).L g = none ↔ G.L g = none := by simp [Gh.retag, Gh.setL]
theorem retag_own {ρ : Ap → Ap} {g : Nat} {p : Ap} (h : G.L g = some (.own p)) : (G.retag ρ).L g = some (.own (ρ p)) := by simp [Gh.retag, Gh.setL, h, retag1]
theorem retag_box {ρ : Ap → Ap} {g f s : Nat} (h : G.L g = some (.box f s)) : (G.retag ρ).L g = some (.box f s) := by simp [Gh.retag, Gh.setL, h, retag1]
theorem VD.repn {ρ : Ap → Ap} {vr : Pl → Nat} {p : Ap} {v : Value} {d : D} (h : VD B fr G vr w p v d) :
    ∀ p', p'.isPn = true → (∀ r, ρ (p.app r) = p'.app r) → VD B fr (G.retag ρ) vr w p' v d := by
  have hok : ∀ b, G.sh b → (G.retag ρ).sh b := fun b hb => retag_none.2 hb
  have hrt : ∀ b, G.sh b → b < w.heap.size → (G.retag ρ).sh b ∧ w.heap[b]? = w.heap[b]? := fun b hb _ => ⟨hok b hb, rfl⟩
  have hsub : ∀ {p p' : Ap} (i : Nat), (∀ r, ρ (p.app r) = p'.app r) → ∀ r, ρ ((p.sub i).app r) = (p'.sub i).app r := fun i h r => by rw [Ap.sub_app, Ap.sub_app]; exact h _
  have hpn : ∀ {p' : Ap} (i : Nat), p'.isPn = true → (p'.sub i).isPn = true := fun i h => by rename_i p'; cases p' <;> first | exact h | cases h
  have hno : ∀ {p' : Ap} (q : Pl), p'.isPn = true → q.abs fr ≠ p' := fun q h e => by subst e; cases q <;> cases h
  have hself : ∀ {p p' : Ap}, (∀ r, ρ (p.app r) = p'.app r) → ρ p = p' := fun h => by have := h []; rwa [Ap.app_nil, Ap.app_nil] at this
  induction h with
  | t p v x h => exact fun _ _ _ => .t _ v x (h.mono hrt)
  | agg p us ds hs h1 h ih => exact fun p' hp hr => .agg _ us ds hs h1 fun j u d hu hd => ih j u d hu hd _ (hpn j hp) (hsub j hr)
  | tup p us ds hs h ih => exact fun p' hp hr => .tup _ us ds hs fun j u d hu hd => ih j u d hu hd _ (hpn j hp) (hsub j hr)
  | own p v e sz els us ho hr hsz hL hq =>
    exact fun p' hp hρ => .own _ v e sz els us ho (hr.mono hrt) hsz (fun g hg => by rw [retag_own (hL g hg), hself hρ]) fun q _ e => absurd e (hno q hp)
  | omap p g es clock kvs hg hm hB hL hq =>
    exact fun p' hp hρ => .omap _ g es clock kvs hg hm hB (by rw [retag_own hL, hself hρ]) fun q _ e => absurd e (hno q hp)
  | alsN p q k sz lo hk hv => exact fun _ _ _ => .alsN _ q k sz lo hk hv
  | als p q k sz lo n g c cap cap' hk hv hn hc o ho => exact fun _ _ _ => .als (G := G.retag ρ) _ q k sz lo n g c cap cap' hk hv hn hc o ho
  | mal p q k hk g hv => exact fun _ _ _ => .mal _ q k hk g hv
  | ept p q k sz i off g c cap hk hv => exact fun _ _ _ => .ept _ q k sz i off g c cap hk hv
  | lp p s o ha => exact fun _ _ _ => .lp (G := G.retag ρ) _ s o ha
  | fp p f s o hf ha => exact fun _ _ _ => .fp (G := G.retag ρ) _ f s o hf ha
  | clo p f us ds hs hno' h ih => exact fun p' hp hr => .clo _ f us ds hs hno' fun j u d hu hd => ih j u d hu hd _ (hpn j hp) (hsub j hr)
  | dead p v => exact fun _ _ _ => .dead _ v
/-- Tags of values on their way are turned; all else stays. -/
theorem Sim.retag {ρ : Ap → Ap} {KP : Ap → Prop} (S : Sim B fr G σ act w) (hK : ∀ p, KP p → ρ p = p) (hf : ∀ p, p.isPn = false → ρ p = p) (hfr : ∀ p f, p.frame = some f → f < fr → ρ p = p) :
    Sim B fr (G.retag ρ) σ act w ∧ Keep fr G σ.verAt w (G.retag ρ) σ.verAt w KP (fun _ _ => True) ∧ Step fr G w (G.retag ρ) w := by
  have K0 : ∀ {KP : Ap → Prop}, (∀ p, KP p → ρ p = p) → Keep fr G σ.verAt w (G.retag ρ) σ.verAt w KP (fun _ _ => True) := fun hK =>
    keep_tags (fun g h => retag_none.2 h) (fun g p h hp => by rw [← hK p hp]; exact retag_own h |>.trans (by rw [hK p hp])) (fun g f s h => retag_box h) S.alt
  refine ⟨?_, K0 hK, step_tags (fun g h => retag_none.2 h) (fun g h => by show (G.L g).map _ = _; rw [h]; rfl) (fun g p f h hf hl => by have := retag_own (ρ := ρ) h; rw [hfr p f hf hl] at this; exact this)⟩
  have hC : Closed fun p => p.isPn = false := fun p i h => by cases p <;> first | rfl | exact h
  refine S.upd (K0 (KP := fun p => p.isPn = false) hf) hC S.len (fun t d hd => .inl ⟨hd, rfl, fun _ => rfl⟩) (fun s c hc hne => .inl ⟨hc, trivial, fun _ _ _ _ => rfl⟩) S.bxn (fun f b hb s c hc hne => .inl ⟨⟨b, hb, hc⟩, trivial, fun _ _ _ _ => rfl⟩)
    S.frl S.alf (fun f s h => retag_box (S.alt f s h)) (fun g τ h => ?_) S.dfs
  simp only [Gh.retag, Gh.setL] at h
  cases hg : G.L g with
  | none => rw [hg] at h; cases h
  | some τ' =>
    obtain ⟨h1, h2⟩ := S.old g τ' hg
    rw [hg] at h
    simp only [Option.map_some, Option.some.injEq] at h
    exact ⟨h1, h2.imp (fun e => by rw [← h, e]; rfl) id⟩

/-! ### the cells of a value, each on its way -/
def Cells (B fr : Nat) (G : Gh) (vr : Pl → Nat) (w : World) (k : Nat) (us : List Value) (ds : List D) : Prop :=
  us.length = ds.length ∧ (∀ u ∈ us, u.oneCell' = true) ∧ ∀ (j : Nat) u d, us[j]? = some u → ds[j]? = some d → VD B fr G vr w (.pn fr (k + j) []) u d
/-- Values on their way, but those from k on, n of them. -/
def PendR (fr k n : Nat) (p : Ap) : Prop := ∃ f j path, p = .pn f j path ∧ ¬ (f = fr ∧ k ≤ j ∧ j < k + n)
theorem PendR.closed (fr k n : Nat) : Closed (PendR fr k n) := by
  rintro p i ⟨f, j, path, rfl, h⟩
  exact ⟨f, j, path ++ [i], rfl, h⟩
theorem PendR.mono {fr k n k' n' : Nat} {p : Ap} (h : PendR fr k' n' p) (hk : k' ≤ k) (hn : k + n ≤ k' + n') : PendR fr k n p := by
  obtain ⟨f, j, path, rfl, h⟩ := h
  exact ⟨f, j, path, rfl, fun ⟨a, b, c⟩ => h ⟨a, by omega, by omega⟩⟩
theorem PendR.pend {fr k n i : Nat} {p : Ap} (h : PendR fr k n p) (hi : k ≤ i) (hn : i < k + n) : Pend fr i p := by
  obtain ⟨f, j, path, rfl, h⟩ := h
  exact ⟨f, j, path, rfl, fun ⟨a, b⟩ => h ⟨a, by omega, by omega⟩⟩
/-- A step of what is told that leaves all but the values k .. k + n - 1 on their way. -/
structure GR (B fr k n : Nat) (G : Gh) (σ : St) (G' : Gh) (σ' : St) (act : Act) (w : World) : Prop where
  sim : Sim B fr G' σ' act w
  keep : Keep fr G σ.verAt w G' σ'.verAt w (PendR fr k n) (fun _ _ => True)
  step : Step fr G w G' w
theorem GR.trans {k n : Nat} {G1 G2 : Gh} {σ1 σ2 : St} (a : GR B fr k n G σ G1 σ1 act w) (b : GR B fr k n G1 σ1 G2 σ2 act w) : GR B fr k n G σ G2 σ2 act w := ⟨b.sim, a.keep.trans b.keep, a.step.trans b.step⟩
theorem GR.widen {k n k' n' : Nat} {G' : Gh} (a : GR B fr k n G σ G' σ' act w) (hk : k' ≤ k) (hn : k + n ≤ k' + n') : GR B fr k' n' G σ G' σ' act w := ⟨a.sim, a.keep.weaken (fun _ h => h.mono hk hn) (fun _ _ h => h), a.step⟩
theorem GS.toGR {i k n : Nat} {G' : Gh} (a : GS B fr i G σ G' σ' act w) (hi : k ≤ i) (hn : i < k + n) : GR B fr k n G σ G' σ' act w := ⟨a.sim, a.keep.weaken (fun _ h => h.pend hi hn) (fun _ _ h => h), a.step⟩
theorem GR.refl (k n : Nat) (S : Sim B fr G σ act w) : GR B fr k n G σ G σ act w := ⟨S, .refl _ _ _ _ _ _, .refl _ _ _⟩
theorem GR.other {k n j : Nat} {G' : Gh} {path : List Nat} {v : Value} {d : D} (a : GR B fr k n G σ G' σ' act w) (hj : j < k ∨ k + n ≤ j) (h : VD B fr G σ.verAt w (.pn fr j path) v d) : VD B fr G' σ'.verAt w (.pn fr j path) v d :=
  h.keep a.keep (PendR.closed fr k n) fun _ => ⟨fr, j, path, rfl, fun e => by omega⟩
theorem GR.free {k n : Nat} {G' : Gh} {p : Ap} {v : Value} {d : D} (a : GR B fr k n G σ G' σ' act w) (h : VD B fr G σ.verAt w p v d) (hno : d.hasOwn = false) : VD B fr G' σ'.verAt w p v d :=
  h.keep a.keep (PendR.closed fr k n) fun e => by rw [hno] at e; cases e

theorem VD.live {vr : Pl → Nat} {p : Ap} {v : Value} {d : D} (h : VD B fr G vr w p v d) (hl : d.live = true) : v.oneCell' = true := by
  cases h with
  | t p v x h => exact h.one
  | own p v e sz els us ho hr hsz hL hq => rcases ownsRow_form ho with ⟨rfl, _⟩ | ⟨g, cap, rfl, _⟩ <;> rfl
  | agg => cases hl
  | tup => cases hl
  | dead => cases hl
  | _ => rfl
theorem one_cells {v : Value} (h : v.oneCell' = true) : v.cells = #[v] := by cases v <;> first | rfl | cases h
/-- Value i's cells, each on its way, from k on. -/
theorem Sim.cells {i k : Nat} {v : Value} {d : D} (S : Sim B fr G σ act w) (hv : VD B fr G σ.verAt w (.pn fr i []) v d) (hl : d.cells.all D.live = true) (_hik : i < k) :
    ∃ G', GS B fr i G σ G' σ act w ∧ Cells B fr G' σ.verAt w k v.cells.toList d.cells := by
  have one : d.cells = [d] → ∃ G', GS B fr i G σ G' σ act w ∧ Cells B fr G' σ.verAt w k v.cells.toList d.cells := by
    intro hc
    rw [hc] at hl ⊢
    have h1 := hv.live (by simpa using hl)
    let ρ : Ap → Ap := fun | .pn f j r => if f = fr ∧ j = i then .pn f k r else .pn f j r | p => p
    obtain ⟨a, b, c⟩ := S.retag (ρ := ρ) (KP := Pend fr i) (fun p hp => by obtain ⟨f, j, path, rfl, h⟩ := hp; exact if_neg h) (fun p hp => by cases p <;> first | rfl | cases hp)
      (fun p f hf hlt => by cases p <;> first | rfl | (simp only [Ap.frame, Option.some.injEq] at hf; exact if_neg (by omega)))
    refine ⟨_, ⟨a, b, c⟩, by rw [one_cells h1]; rfl, by rw [one_cells h1]; simpa using h1, fun j u d' hu hd => ?_⟩
    rw [one_cells h1] at hu
    cases j with
    | zero =>
      cases hu
      cases hd
      exact hv.repn _ rfl (fun r => if_pos ⟨rfl, rfl⟩)
    | succ j => cases hd
  cases hv with
  | agg p us ds hs h1 h =>
    let ρ : Ap → Ap := fun | .pn f j (x :: r) => if f = fr ∧ j = i then .pn f (k + x) r else .pn f j (x :: r) | p => p
    obtain ⟨a, b, c⟩ := S.retag (ρ := ρ) (KP := Pend fr i) (fun p hp => by
        obtain ⟨f, j, path, rfl, h⟩ := hp
        cases path with
        | nil => rfl
        | cons x r => exact if_neg h) (fun p hp => by cases p <;> first | rfl | cases hp)
      (fun p f hf hlt => by
        cases p with
        | pn f' j r =>
          cases r with
          | nil => rfl
          | cons x r => simp only [Ap.frame, Option.some.injEq] at hf; exact if_neg (by omega)
        | _ => rfl)
    refine ⟨_, ⟨a, b, c⟩, by simpa [Value.cells, D.cells] using hs, by simpa [Value.cells] using h1, fun j u d' hu hd => ?_⟩
    simp only [Value.cells, Array.getElem?_toList] at hu
    exact (h j u d' hu hd).repn _ rfl (fun r => if_pos ⟨rfl, rfl⟩)
  | _ => exact one rfl

theorem Sim.resolveL {okk : Bool} {k : Nat} {us : List Value} {ds ds' : List D} (S : Sim B fr G σ act w) (hc : Cells B fr G σ.verAt w k us ds) (h : (Pv.resolveL okk ds).run C σ = some (.ok ds', σ')) :
    ∃ G', GR B fr k ds.length G σ G' σ' act w ∧ Cells B fr G' σ'.verAt w k us ds' ∧ ∀ d ∈ ds', d.bare = true := by
  induction ds generalizing k us ds' G σ with
  | nil =>
    obtain ⟨rfl, rfl⟩ := ret_ok (C := C) h
    exact ⟨G, .refl k _ S, hc, by simp⟩
  | cons d ds ih =>
    obtain ⟨hlen, h1, hall⟩ := hc
    cases us with
    | nil => cases hlen
    | cons u us =>
      simp only [Pv.resolveL] at h
      obtain ⟨x, σ1, h2, h3⟩ := bind_ok h
      obtain ⟨xs, σ2, h4, h5⟩ := bind_ok h3
      obtain ⟨rfl, rfl⟩ := pure_ok h5
      obtain ⟨G1, a1, b1, n1⟩ := S.resolve (hall 0 u d rfl rfl) h2
      have hc' : Cells B fr G1 σ1.verAt w (k + 1) us ds := ⟨by simpa using hlen, fun u hu => h1 u (List.mem_cons_of_mem _ hu), fun j u' d' hu hd => by
        have := hall (j + 1) u' d' hu hd
        rw [show k + (j + 1) = k + 1 + j from by omega] at this
        exact a1.other (by omega) this⟩
      obtain ⟨G2, a2, b2, n3⟩ := ih a1.sim hc' h4
      have hx := a2.other (j := k) (by omega) b1
      refine ⟨G2, (a1.toGR (k := k) (n := ds.length + 1) (by omega) (by omega)).trans (a2.widen (by omega) (by omega)), ⟨by simp [b2.1], h1, fun j u' d' hu hd => ?_⟩, fun d hd => ?_⟩
      · cases j with
        | zero => cases hu; cases hd; exact hx
        | succ j =>
          have := b2.2.2 j u' d' hu hd
          rwa [show k + 1 + j = k + (j + 1) from by omega] at this
      · rcases List.mem_cons.1 hd with rfl | hd
        · exact n1
        · exact n3 d hd
end Go.Pv

/- Values on their way are landed in the cells of boxes. -/
namespace Go.Pv
open Go.RowKit
variable {P : Program} {B fr : Nat} {G : Gh} {σ σ' : St} {act : Act} {w w' : World} {C : Callee} {K : Act → World → Prop} {Q : Exit → Act → World → Prop} {H : Hint}

/-- A place of a box. -/
def St.box (σ : St) : Pl → List D
  | .bx s _ => σ.bx.getD s []
  | .fb f s _ => (σ.fr.getD f []).getD s []
  | .tm _ => []
def Pl.off : Pl → Nat
  | .bx _ o => o
  | .fb _ _ o => o
  | .tm _ => 0
def St.setBox (σ : St) : Pl → List D → St
  | .bx s _, c => { σ with bx := σ.bx.set s c }
  | .fb f s _, c => { σ with fr := σ.fr.set f ((σ.fr.getD f []).set s c) }
  | .tm _, _ => σ
def Pl.at (q : Pl) (o : Nat) : Pl := match q with
  | .bx s _ => .bx s o
  | .fb f s _ => .fb f s o
  | .tm t => .tm t
/-- The block of a place's box. -/
def Gh.blk (G : Gh) (fr : Nat) : Pl → Nat
  | .bx s _ => G.hb fr s
  | .fb f s _ => G.hb f s
  | .tm _ => 0
def Pl.fs (fr : Nat) : Pl → Nat × Nat
  | .bx s _ => (fr, s)
  | .fb f s _ => (f, s)
  | .tm t => (fr, t)

theorem getD_of_getElem? {α : Type} {l : List α} {i : Nat} {a : α} (d : α) (h : l[i]? = some a) : l.getD i d = a := by simp [List.getD_eq_getElem?_getD, h]
theorem getElem?_of_getD {α : Type} {l : List α} {i : Nat} (d : α) (h : i < l.length) : l[i]? = some (l.getD i d) := by simp [List.getD_eq_getElem?_getD, List.getElem?_eq_getElem h]
/-- The box at a place, as far as it is told. -/
theorem Sim.boxOk {q : Pl} (S : Sim B fr G σ act w) (hne : σ.box q ≠ []) : BoxOk B fr G σ.verAt w (q.fs fr).1 (q.fs fr).2 (σ.box q) := by
  cases q with
  | tm t => exact absurd rfl hne
  | bx s o =>
    simp only [St.box] at hne ⊢
    have : s < σ.bx.length := by
      rcases Nat.lt_or_ge s σ.bx.length with h | h
      · exact h
      · simp [List.getD_eq_getElem?_getD, List.getElem?_eq_none h] at hne
    exact S.bxs s _ (getElem?_of_getD [] this) hne
  | fb f s o =>
    simp only [St.box] at hne ⊢
    have hf : f < σ.fr.length := by
      rcases Nat.lt_or_ge f σ.fr.length with h | h
      · exact h
      · simp [List.getD_eq_getElem?_getD, List.getElem?_eq_none h] at hne
    have hs : s < (σ.fr.getD f []).length := by
      rcases Nat.lt_or_ge s (σ.fr.getD f []).length with h | h
      · exact h
      · rw [List.getD_eq_getElem?_getD (l := σ.fr.getD f []), List.getElem?_eq_none h] at hne; exact absurd rfl hne
    exact S.frs f _ (getElem?_of_getD [] hf) s _ (getElem?_of_getD [] hs) hne

/-- The box at a place is told anew. -/
theorem Sim.setBox {G' : Gh} {q : Pl} {c' : List D} {vr' : List (Pl × Nat)} {vg' : Nat} (S : Sim B fr G σ act w) (hq : q.ok fr) (hbox : q.boxed = true) (hne : σ.box q ≠ []) (hne' : c' ≠ [])
    (σ' : St) (hσ : σ' = { σ.setBox q c' with ver := vr', vg := vg' })
    {KP : Ap → Prop} (hC : Closed KP) (K : Keep fr G σ.verAt w G' σ'.verAt w' KP (fun f s => (f, s) ≠ q.fs fr)) (hKP : ∀ p : Ap, p.isPn = false → (∀ o, p ≠ .bc (q.fs fr).1 (q.fs fr).2 o) → KP p)
    (hv : BoxOk B fr G' σ'.verAt w' (q.fs fr).1 (q.fs fr).2 c') (hal : G'.al = G.al) (halt : ∀ f s, G'.al f s → G'.L (G'.hb f s) = some (.box f s))
    (hold : ∀ g τ, G'.L g = some τ → g < w'.heap.size ∧ (τ = .junk ∨ B ≤ g)) : Sim B fr G' σ' act w' := by
  have hbc : ∀ f s o, (f, s) ≠ q.fs fr → KP (.bc f s o) := fun f s o h => hKP _ rfl fun o' e => by simp only [Ap.bc.injEq] at e; exact h (by rw [e.1, e.2.1])
  cases q with
  | tm t => cases hbox
  | bx s o =>
    simp only [St.box, Pl.fs] at *
    have hs : s < σ.bx.length := by
      rcases Nat.lt_or_ge s σ.bx.length with h | h
      · exact h
      · simp [List.getD_eq_getElem?_getD, List.getElem?_eq_none h] at hne
    refine S.upd K hC (by rw [hσ]; exact S.len) (fun t d hd => .inl ⟨by rw [hσ] at hd; exact hd, rfl, fun _ => hKP _ rfl (by simp)⟩) (fun s' c hc hcn => ?_) ⟨fun s' hs' => ?_, fun f b hb s' hs' => by rw [hal]; rw [hσ] at hb; exact S.bxn.2 f b hb s' hs'⟩
      (fun f b hb s' c hc hcn => .inl ⟨⟨b, by rw [hσ] at hb; exact hb, hc⟩, ?_, fun o' d' _ _ => hbc _ _ _ ?_⟩) (by rw [hσ]; exact S.frl) (by rw [hal]; exact S.alf) halt hold S.dfs
    · rw [hσ] at hc
      simp only [St.setBox, List.getElem?_set] at hc
      by_cases e : s = s'
      · subst e
        rw [if_pos rfl, if_pos hs] at hc
        cases hc
        exact .inr hv
      · rw [if_neg e] at hc
        exact .inl ⟨hc, fun h => e (by simpa using (Prod.mk.inj h).2.symm), fun _ _ _ _ => hbc _ _ _ fun h => e (by simpa using (Prod.mk.inj h).2.symm)⟩
    · rw [hal]
      apply S.bxn.1
      rw [hσ] at hs'
      simp only [St.setBox, List.getD_eq_getElem?_getD, List.getElem?_set] at hs' ⊢
      by_cases e : s = s'
      · subst e
        rw [if_pos rfl, if_pos hs] at hs'
        exact absurd hs' hne'
      · rw [if_neg e] at hs'
        exact hs'
    all_goals
      have : f < fr := by rw [hσ] at hb; rw [← S.frl]; exact (List.getElem?_eq_some_iff.1 hb).1
      intro h
      have := (Prod.mk.inj h).1
      omega
  | fb f s o =>
    simp only [St.box, Pl.fs, Pl.ok] at *
    have hf : f < σ.fr.length := by rw [S.frl]; exact hq
    have hs : s < (σ.fr.getD f []).length := by
      rcases Nat.lt_or_ge s (σ.fr.getD f []).length with h | h
      · exact h
      · rw [List.getD_eq_getElem?_getD (l := σ.fr.getD f []), List.getElem?_eq_none h] at hne; exact absurd rfl hne
    refine S.upd K hC (by rw [hσ]; exact S.len) (fun t d hd => .inl ⟨by rw [hσ] at hd; exact hd, rfl, fun _ => hKP _ rfl (by simp)⟩)
      (fun s' c hc hcn => .inl ⟨by rw [hσ] at hc; exact hc, fun h => by have := (Prod.mk.inj h).1; omega, fun o' d' _ _ => hbc _ _ _ fun h => by have := (Prod.mk.inj h).1; omega⟩) ⟨fun s' hs' => ?_, fun f' b hb s' hs' => ?_⟩
      (fun f' b hb s' c hc hcn => ?_) (by rw [hσ]; simpa [St.setBox] using S.frl) (by rw [hal]; exact S.alf) halt hold S.dfs
    · rw [hal]
      exact S.bxn.1 s' (by rw [hσ] at hs'; exact hs')
    · rw [hal]
      rw [hσ] at hb
      simp only [St.setBox, List.getElem?_set] at hb
      by_cases e : f = f'
      · subst e
        rw [if_pos rfl, if_pos hf] at hb
        cases hb
        apply S.bxn.2 f _ (getElem?_of_getD [] hf) s'
        simp only [List.getD_eq_getElem?_getD, List.getElem?_set] at hs' ⊢
        by_cases e : s = s'
        · subst e
          simp only [List.getD_eq_getElem?_getD] at hs
          rw [if_pos rfl, if_pos hs] at hs'
          exact absurd hs' hne'
        · rw [if_neg e] at hs'
          exact hs'
      · rw [if_neg e] at hb
        exact S.bxn.2 f' b hb s' hs'
    · rw [hσ] at hb
      simp only [St.setBox, List.getElem?_set] at hb
      by_cases e : f = f'
      · subst e
        rw [if_pos rfl, if_pos hf] at hb
        cases hb
        simp only [List.getElem?_set] at hc
        by_cases e : s = s'
        · subst e
          rw [if_pos rfl, if_pos hs] at hc
          cases hc
          exact .inr hv
        · rw [if_neg e] at hc
          exact .inl ⟨⟨_, getElem?_of_getD [] hf, hc⟩, fun h => e (by simpa using (Prod.mk.inj h).2.symm), fun _ _ _ _ => hbc _ _ _ fun h => e (by simpa using (Prod.mk.inj h).2.symm)⟩
      · rw [if_neg e] at hb
        exact .inl ⟨⟨b, hb, hc⟩, fun h => e (by simpa using (Prod.mk.inj h).1.symm), fun _ _ _ _ => hbc _ _ _ fun h => e (by simpa using (Prod.mk.inj h).1.symm)⟩
end Go.Pv

/- Cells on their way are landed in a box. -/
namespace Go.Pv
open Go.RowKit
variable {P : Program} {B fr : Nat} {G : Gh} {σ σ' : St} {act : Act} {w w' : World} {C : Callee} {K : Act → World → Prop} {Q : Exit → Act → World → Prop} {H : Hint}

def bumpV (mk : Nat → Pl) : Nat → List D → List (Pl × Nat) → List (Pl × Nat)
  | _, [], l => l
  | j, d :: ds, l => bumpV mk (j + 1) ds (if d.hasOwn = true then (mk j, verOf l (mk j) + 1) :: l else l)
theorem bumpL_ok {mk : Nat → Pl} {j : Nat} {ds : List D} {u : Unit} (h : (bumpL mk j ds).run C σ = some (.ok u, σ')) : σ' = { σ with ver := bumpV mk j ds σ.ver } := by
  induction ds generalizing j σ with
  | nil => exact (ret_ok (C := C) h).2.symm
  | cons d ds ih =>
    simp only [bumpL] at h
    obtain ⟨_, σ1, h1, h2⟩ := bind_ok h
    have e := bumpIf_ok h1
    rw [ih h2]
    subst e
    simp only [bumpV]
    split <;> rfl
theorem verOf_le_cons (q q' : Pl) (l : List (Pl × Nat)) : verOf l q' ≤ verOf ((q, verOf l q + 1) :: l) q' := by
  by_cases h : q' = q
  · subst h; rw [verOf_cons_self]; omega
  · rw [verOf_cons_ne h]; exact Nat.le_refl _
theorem bumpV_le (mk : Nat → Pl) (j : Nat) (ds : List D) (l : List (Pl × Nat)) (q : Pl) : verOf l q ≤ verOf (bumpV mk j ds l) q := by
  induction ds generalizing j l with
  | nil => exact Nat.le_refl _
  | cons d ds ih =>
    simp only [bumpV]
    refine Nat.le_trans ?_ (ih _ _)
    split
    · exact verOf_le_cons _ _ _
    · exact Nat.le_refl _
theorem bumpV_ne (mk : Nat → Pl) (j : Nat) (ds : List D) (l : List (Pl × Nat)) (q : Pl) (h : ∀ i, j ≤ i → i < j + ds.length → q ≠ mk i) : verOf (bumpV mk j ds l) q = verOf l q := by
  induction ds generalizing j l with
  | nil => rfl
  | cons d ds ih =>
    simp only [bumpV]
    simp only [List.length_cons] at h
    rw [ih _ _ fun i h1 h2 => h i (by omega) (by omega)]
    split
    · exact verOf_cons_ne (h j (Nat.le_refl _) (by omega)) _ _
    · rfl
theorem bumpV_lt (mk : Nat → Pl) (j : Nat) (ds : List D) (l : List (Pl × Nat)) (i : Nat) (d : D) (hd : ds[i]? = some d) (ho : d.hasOwn = true) : verOf l (mk (j + i)) < verOf (bumpV mk j ds l) (mk (j + i)) := by
  induction ds generalizing j l i with
  | nil => cases hd
  | cons d0 ds ih =>
    simp only [bumpV]
    cases i with
    | zero =>
      cases hd
      rw [if_pos ho]
      refine Nat.lt_of_lt_of_le ?_ (bumpV_le _ _ _ _ _)
      rw [Nat.add_zero, verOf_cons_self]
      omega
    | succ i =>
      have := ih (j + 1) (if d0.hasOwn = true then (mk j, verOf l (mk j) + 1) :: l else l) i hd
      rw [show j + 1 + i = j + (i + 1) from by omega] at this
      refine Nat.lt_of_le_of_lt ?_ this
      split
      · exact verOf_le_cons _ _ _
      · exact Nat.le_refl _

theorem Pl.abs_at {q : Pl} (hb : q.boxed = true) (o : Nat) : (q.at o).abs fr = .bc (q.fs fr).1 (q.fs fr).2 o := by cases q <;> first | rfl | cases hb
/-- A place is known by where it lies. -/
theorem Pl.of_abs {q q' : Pl} {o : Nat} (hb : q.boxed = true) (hq : q.ok fr) (hq' : q'.ok fr) (h : q'.abs fr = .bc (q.fs fr).1 (q.fs fr).2 o) : q' = q.at o := by
  cases q with
  | tm t => cases hb
  | bx s o0 =>
    cases q' with
    | tm t => cases h
    | bx s' o' => simp only [Pl.abs, Pl.fs, Ap.bc.injEq] at h; obtain ⟨_, rfl, rfl⟩ := h; rfl
    | fb f' s' o' =>
      simp only [Pl.abs, Pl.fs, Ap.bc.injEq, Pl.ok] at h hq'
      omega
  | fb f s o0 =>
    cases q' with
    | tm t => cases h
    | bx s' o' =>
      simp only [Pl.abs, Pl.fs, Ap.bc.injEq, Pl.ok] at h hq
      omega
    | fb f' s' o' => simp only [Pl.abs, Pl.fs, Ap.bc.injEq] at h; obtain ⟨rfl, rfl, rfl⟩ := h; rfl

def landR (fr k n F s o : Nat) : Ap → Ap
  | .pn f i [] => if f = fr ∧ k ≤ i ∧ i < k + n then .bc F s (o + (i - k)) else .pn f i []
  | p => p
def Gh.landB (G : Gh) (fr k n F s o : Nat) (vr : Nat → Nat) (us : List Value) : Gh :=
  { G.retag (landR fr k n F s o) with
    hv := fun p m => match p with
      | .bc f' s' o' => if f' = F ∧ s' = s ∧ o ≤ o' ∧ o' < o + n ∧ vr o' < m then us.getD (o' - o) undef else G.hv p m
      | p => G.hv p m }
/-- Places that stay when cells o .. o + n - 1 of a box are told anew. -/
def LandP (fr k n F s o : Nat) (p : Ap) : Prop := (∀ f i r, p = .pn f i r → ¬ (f = fr ∧ k ≤ i ∧ i < k + n)) ∧ ∀ o', p = .bc F s o' → ¬ (o ≤ o' ∧ o' < o + n)
theorem LandP.closed (fr k n F s o : Nat) : Closed (LandP fr k n F s o) := by
  intro p i h
  cases p with
  | pn f t l => exact ⟨fun f' i' r e => by simp only [Ap.sub, Ap.pn.injEq] at e; obtain ⟨rfl, rfl, _⟩ := e; exact h.1 _ _ _ rfl, fun o' e => by cases e⟩
  | bc f t l => exact h
  | tm f t l => exact ⟨fun f' i' r e => (by cases e), fun o' e => by cases e⟩
theorem LandP.fix {k n F s o : Nat} {p : Ap} (h : LandP fr k n F s o p) : landR fr k n F s o p = p := by
  cases p with
  | pn f t l =>
    cases l with
    | nil => exact if_neg (h.1 _ _ _ rfl)
    | cons x l => rfl
  | _ => rfl

theorem Sim.landCells {q : Pl} {k : Nat} {us : List Value} {ds : List D} {uu : Array Value} {T : TypeId} (S : Sim B fr G σ act w) (hq : q.ok fr) (hbox : q.boxed = true) (hc : Cells B fr G σ.verAt w k us ds)
    (hleaf : ∀ d ∈ ds, d.bare = true) (hlen : q.off + ds.length ≤ (σ.box q).length) (hpos : 0 < ds.length)
    (hb : w.heap[G.hb (q.fs fr).1 (q.fs fr).2]? = some (.cells uu T (0, 0)))
    (hw : w' = w.setRow (G.hb (q.fs fr).1 (q.fs fr).2) (uu.toList.take q.off ++ us ++ uu.toList.drop (q.off + us.length)).toArray)
    (hσ : σ' = { σ.setBox q (splice (σ.box q) q.off ds) with ver := bumpV (fun j => q.at (q.off + j)) 0 ds σ.ver, vg := σ.vg }) :
    ∃ G', Sim B fr G' σ' act w' ∧ Step fr G w G' w' ∧ G'.al = G.al ∧ G'.hb = G.hb := by
  have hne : σ.box q ≠ [] := by intro e; have := congrArg List.length e; simp only [List.length_nil] at this; omega
  have hB := S.boxOk hne
  generalize hF : (q.fs fr).1 = F at *
  generalize hs : (q.fs fr).2 = s at *
  generalize ho : q.off = o at *
  obtain ⟨hal, htag, hbare, uu', T', hg, hsz, h1, hvd⟩ := hB
  rw [hb] at hg
  cases hg
  have hqa : ∀ o', (q.at o').abs fr = .bc F s o' := fun o' => by rw [← hF, ← hs]; exact Pl.abs_at hbox o'
  have hboxed : ∀ o', (q.at o').boxed = true := fun o' => by cases q <;> first | rfl | cases hbox
  let G' := G.landB fr k ds.length F s o (fun o' => σ.verAt (q.at o')) us
  have hver : σ'.ver = bumpV (fun j => q.at (o + j)) 0 ds σ.ver := by rw [hσ]
  have hvg : σ'.vg = σ.vg := by rw [hσ]
  have hvle : ∀ q', σ.verAt q' ≤ σ'.verAt q' := fun q' => by
    simp only [St.verAt, hver, hvg]
    exact Nat.add_le_add_right (bumpV_le _ _ _ _ _) _
  have hinj : ∀ {a b}, q.at a = q.at b → a = b := fun {a b} e => by cases q <;> simp_all [Pl.at, Pl.boxed]
  have hwh : ∀ g, g ≠ G.hb F s → w'.heap[g]? = w.heap[g]? := fun g hg => by rw [hw]; exact setRow_other w _ g _ hg
  have hwb : w'.heap[G.hb F s]? = some (.cells (uu.toList.take o ++ us ++ uu.toList.drop (o + us.length)).toArray T (0, 0)) := by rw [hw]; exact setRow_heap w _ _ _ _ _ hb
  have hws : w'.heap.size = w.heap.size := by rw [hw]; simp [World.setRow]
  have hLn : ∀ g, G'.L g = none ↔ G.L g = none := fun g => retag_none
  have K0 : Keep fr G σ.verAt w G' σ'.verAt w' (LandP fr k ds.length F s o) (fun f' s' => (f', s') ≠ q.fs fr) := by
    refine ⟨by omega, fun g _ h => (hLn g).2 h, fun g h _ => hwh g fun e => (by rw [e, htag] at h; cases h), fun g p h hp => ⟨?_, hwh g fun e => (by rw [e, htag] at h; cases h)⟩, hvle, fun q' h => ?_, fun q' m hok hm => ?_, fun _ _ h => ⟨h, rfl⟩, fun f' s' h hne => ⟨?_, hwh _ fun e => ?_⟩⟩
    · have := retag_own (ρ := landR fr k ds.length F s o) h
      rw [hp.fix] at this
      exact this
    · simp only [St.verAt, hver, hvg]
      rw [bumpV_ne]
      intro i _ hi e
      rw [e, hqa] at h
      exact h.2 _ rfl ⟨by omega, by omega⟩
    · show G'.hv (q'.abs fr) m = _
      generalize hp : q'.abs fr = p
      cases p with
      | bc f' s' o' =>
        show (if _ then _ else _) = _
        rw [if_neg]
        rintro ⟨rfl, rfl, _, _, hlt⟩
        have := Pl.of_abs (fr := fr) hbox hq hok (by rw [hp, hF, hs])
        subst this
        exact Nat.lt_irrefl _ (Nat.lt_of_lt_of_le (show σ.verAt (q.at o') < m from hlt) hm)
      | _ => rfl
    · have h' := S.alt f' s' h
      rw [h']
      exact retag_box h'
    · have h' := S.alt f' s' h
      rw [e, htag] at h'
      simp only [Option.some.injEq, Tag.box.injEq] at h'
      exact hne (by rw [← h'.1, ← h'.2, ← hF, ← hs])
  have hC := LandP.closed fr k ds.length F s o
  have hcl : us.length = ds.length := hc.1
  have hspl : (splice (σ.box q) o ds).length = (σ.box q).length := by simp only [splice, List.length_append, List.length_take, List.length_drop]; omega
  refine ⟨G', S.setBox (G' := G') hq hbox hne (c' := splice (σ.box q) o ds) (by intro e; have := congrArg List.length e; rw [hspl] at this; simp only [List.length_nil] at this; omega) σ' hσ hC K0 (fun p hpn hp => ⟨fun f i r e => (by subst e; cases hpn), fun o' e => absurd e (by rw [hF, hs] at hp; exact hp o')⟩) ?_ rfl (fun f' s' h => retag_box (S.alt f' s' h)) (fun g τ h => ?_), ?_, rfl, rfl⟩
  · rw [hF, hs]
    refine ⟨hal, retag_box htag, fun d hd => ?_, _, T, hwb, ?_, ?_, fun o' u d hu hd => ?_⟩
    · simp only [splice, List.mem_append] at hd
      rcases hd with (hd | hd) | hd
      · exact hbare d (List.mem_of_mem_take hd)
      · exact hleaf d hd
      · exact hbare d (List.mem_of_mem_drop hd)
    · rw [hspl, ← hsz, List.size_toArray]
      simp only [List.length_append, List.length_take, List.length_drop, Array.length_toList]
      omega
    · intro u hu
      rw [List.mem_toArray, List.mem_append, List.mem_append] at hu
      rcases hu with (hu | hu) | hu
      · exact h1 u (by simpa using List.mem_of_mem_take hu)
      · exact hc.2.1 u hu
      · exact h1 u (by simpa using List.mem_of_mem_drop hu)
    · rw [List.getElem?_toArray] at hu
      have huu : uu.toList.length = (σ.box q).length := by simpa using hsz
      rcases Nat.lt_or_ge o' o with hlt | hge
      · have hu' : uu[o']? = some u := by
          rw [List.append_assoc, List.getElem?_append_left (by rw [List.length_take]; omega), List.getElem?_take, if_pos hlt] at hu
          simpa using hu
        have hd' : (σ.box q)[o']? = some d := by
          rw [splice, List.append_assoc, List.getElem?_append_left (by rw [List.length_take]; omega), List.getElem?_take, if_pos hlt] at hd
          exact hd
        exact (hvd o' u d hu' hd').keep K0 hC fun _ => ⟨fun f i r e => (by cases e), fun o2 e => by simp only [Ap.bc.injEq, true_and] at e; omega⟩
      · rcases Nat.lt_or_ge o' (o + ds.length) with hlt | hge2
        · have hu' : us[o' - o]? = some u := by
            rw [List.append_assoc, List.getElem?_append_right (by rw [List.length_take]; omega), List.length_take, Nat.min_eq_left (by omega), List.getElem?_append_left (by omega)] at hu
            exact hu
          have hd' : ds[o' - o]? = some d := by
            rw [splice, List.append_assoc, List.getElem?_append_right (by rw [List.length_take]; omega), List.length_take, Nat.min_eq_left (by omega), List.getElem?_append_left (by omega)] at hd
            exact hd
          have hv := hc.2.2 _ u d hu' hd'
          have hl := hleaf d (List.mem_of_getElem? hd')
          by_cases hown : d.hasOwn = true
          · have hlt' : σ.verAt (q.at o') < σ'.verAt (q.at o') := by
              have := bumpV_lt (fun j => q.at (o + j)) 0 ds σ.ver (o' - o) d hd' hown
              simp only [Nat.zero_add, show o + (o' - o) = o' from by omega] at this
              simp only [St.verAt, hver, hvg]
              omega
            have hhv : ∀ q' : Pl, q'.ok fr → q'.abs fr = .bc F s o' → G'.hv (.bc F s o') (σ'.verAt q') = u := fun q' hok e => by
              have := Pl.of_abs (fr := fr) hbox hq hok (by rw [e, hF, hs])
              subst this
              show (if _ then _ else _) = _
              rw [if_pos ⟨rfl, rfl, hge, hlt, hlt'⟩]
              exact getD_of_getElem? _ hu'
            have htg : ∀ g, G.L g = some (.own (.pn fr (k + (o' - o)) [])) → G'.L g = some (.own (.bc F s o')) := fun g hg => by
              have := retag_own (ρ := landR fr k ds.length F s o) hg
              rw [show landR fr k ds.length F s o (.pn fr (k + (o' - o)) []) = .bc F s o' from by
                show (if _ then _ else _) = _
                rw [if_pos ⟨rfl, by omega, by omega⟩]
                congr 1
                omega] at this
              exact this
            cases hv with
            | own p v e sz els us2 how hr hsz' hL hq' =>
              exact .own _ _ e sz els us2 (ownsRow_same how fun g hg => hwh g fun e => by have := hL g hg; rw [e, htag] at this; cases this) (K0.RTrow hr) hsz' (fun g hg => htg g (hL g hg)) hhv
            | omap p g es clock kvs hg hm hB hL hq' =>
              exact .omap _ g es clock kvs (by rw [hwh g fun e => by rw [e, htag] at hL; cases hL]; exact hg) hm hB (htg g hL) hhv
            | agg => exact (by cases hl)
            | tup => exact (by cases hl)
            | _ => cases hown
          · exact (hv.keep K0 hC fun h => absurd h hown).free _ (by simpa using hown)
        · have hu' : uu[o']? = some u := by
            rw [List.getElem?_append_right (by simp only [List.length_append, List.length_take]; omega), List.getElem?_drop] at hu
            simp only [List.length_append, List.length_take] at hu
            rw [show o + us.length + (o' - (min o uu.toList.length + us.length)) = o' from by omega] at hu
            simpa using hu
          have hd' : (σ.box q)[o']? = some d := by
            rw [splice, List.getElem?_append_right (by simp only [List.length_append, List.length_take]; omega), List.getElem?_drop] at hd
            simp only [List.length_append, List.length_take] at hd
            rwa [show o + ds.length + (o' - (min o (σ.box q).length + ds.length)) = o' from by omega] at hd
          exact (hvd o' u d hu' hd').keep K0 hC fun _ => ⟨fun f i r e => (by cases e), fun o2 e => by simp only [Ap.bc.injEq, true_and] at e; omega⟩
  · have : ∃ τ', G.L g = some τ' ∧ τ = retag1 (landR fr k ds.length F s o) τ' := by
      have h : (G.L g).map _ = some τ := h
      cases hg : G.L g with
      | none => rw [hg] at h; cases h
      | some τ' => rw [hg] at h; exact ⟨τ', rfl, by simpa using h.symm⟩
    obtain ⟨τ', hg, e⟩ := this
    obtain ⟨a, b⟩ := S.old g τ' hg
    exact ⟨by omega, b.imp (fun h => by rw [e, h]; rfl) id⟩
  · refine ⟨by rw [hw]; rfl, by rw [hw]; rfl, by rw [hw]; rfl, by omega, fun g hl h => ⟨(hLn g).2 h, K0.shw g h hl⟩, fun g h => ⟨?_, hwh g fun e => (by rw [e, htag] at h; cases h)⟩, fun g p f h hf hl => ⟨?_, hwh g fun e => (by rw [e, htag] at h; cases h)⟩, fun _ _ _ h => ⟨h, rfl⟩⟩
    · show (G.L g).map _ = _
      rw [h]; rfl
    · have := retag_own (ρ := landR fr k ds.length F s o) h
      rw [show landR fr k ds.length F s o p = p from ?_] at this
      · exact this
      · cases p with
        | pn f' i r =>
          simp only [Ap.frame, Option.some.injEq] at hf
          cases r with
          | nil => exact if_neg (by omega)
          | cons => rfl
        | _ => rfl
end Go.Pv

/- Boxes: made, stored into, read. -/
namespace Go.Pv
open Go.RowKit
variable {P : Program} {B fr : Nat} {G : Gh} {σ σ' : St} {act : Act} {w w' : World} {C : Callee} {K : Act → World → Prop} {Q : Exit → Act → World → Prop} {H : Hint}

theorem isEmpty_ok {α : Type} {l : List α} (h : l.isEmpty = true) : l = [] := by cases l <;> first | rfl | cases h
/-- A box is made, of which nothing is told yet. -/
theorem Sim.newBox {t : Nat} {e : TypeId} {us : Array Value} (S : Sim B fr G σ act w) (h0 : σ.bx.getD t [] = []) (ht : t < σ.bx.length) (hn : 0 < us.size) (h1 : ∀ u ∈ us, u.oneCell' = true) :
    ∃ G', Sim B fr G' { σ with bx := σ.bx.set t (List.replicate us.size .dead) } act (w.alloc (.cells us e)) ∧ G'.al fr t ∧ G'.hb fr t = w.heap.size ∧
      Keep fr G σ.verAt w G' σ.verAt (w.alloc (.cells us e)) (fun _ => True) (fun _ _ => True) ∧ Step fr G w G' (w.alloc (.cells us e)) := by
  have hna := S.bxn.1 t h0
  have hfresh : ∀ g τ, G.L g = some τ → g ≠ w.heap.size := fun g τ h e => by have := (S.old g τ h).1; omega
  let G' : Gh := { G with L := fun g => if g = w.heap.size then some (.box fr t) else G.L g, hb := fun f s => if f = fr ∧ s = t then w.heap.size else G.hb f s, al := fun f s => G.al f s ∨ (f = fr ∧ s = t) }
  have hL : ∀ g, g ≠ w.heap.size → G'.L g = G.L g := fun g h => if_neg h
  have hhb : ∀ f s, G.al f s → G'.hb f s = G.hb f s := fun f s h => if_neg (by rintro ⟨rfl, rfl⟩; exact hna h)
  have hold : ∀ g, g < w.heap.size → (w.alloc (.cells us e)).heap[g]? = w.heap[g]? := fun g h => heap_alloc_old w _ h
  have K0 : Keep fr G σ.verAt w G' σ.verAt (w.alloc (.cells us e)) (fun _ => True) (fun _ _ => True) := by
    refine ⟨by simp, fun g hl h => by rw [hL g (by omega)]; exact h, fun g _ hl => hold g hl, fun g p h _ => ⟨by rw [hL g (hfresh g _ h)]; exact h, hold g (S.old g _ h).1⟩, fun _ => Nat.le_refl _, fun _ _ => rfl, fun _ _ _ _ => rfl, fun f s h => ⟨.inl h, hhb f s h⟩, fun f s h _ => ⟨hL _ (hfresh _ _ (S.alt f s h)), hold _ (S.old _ _ (S.alt f s h)).1⟩⟩
  have hself : G'.hb fr t = w.heap.size := if_pos ⟨rfl, rfl⟩
  refine ⟨G', S.upd (σ' := { σ with bx := σ.bx.set t (List.replicate us.size .dead) }) K0 closed_true S.len (fun t d hd => .inl ⟨hd, rfl, fun _ => trivial⟩) (fun s c hc hne => ?_) ⟨fun s hs => ?_, fun f b hb s hs h => h.elim (S.bxn.2 f b hb s hs) fun e => by have h1 : f < σ.fr.length := (List.getElem?_eq_some_iff.1 hb).1; have := S.frl; omega⟩ (fun f b hb s c hc hne => .inl ⟨⟨b, hb, hc⟩, trivial, fun _ _ _ _ => trivial⟩)
    S.frl (fun f s hl h => ?_) (fun f s h => ?_) (fun g τ h => ?_) S.dfs, .inr ⟨rfl, rfl⟩, hself, K0, ⟨rfl, rfl, rfl, by simp, fun g hl h => ⟨K0.sh g hl h, hold g hl⟩, fun g h => ⟨by rw [hL g (hfresh g _ h)]; exact h, hold g (S.old g _ h).1⟩,
      fun g p f h _ _ => ⟨by rw [hL g (hfresh g _ h)]; exact h, hold g (S.old g _ h).1⟩, fun f s _ h => ⟨.inl h, hhb f s h⟩⟩⟩
  · simp only [List.getElem?_set] at hc
    by_cases e' : t = s
    · subst e'
      rw [if_pos rfl, if_pos ht] at hc
      cases hc
      right
      refine ⟨.inr ⟨rfl, rfl⟩, by rw [hself]; exact if_pos rfl, fun d hd => by rw [List.eq_of_mem_replicate hd]; rfl, us, e, by rw [hself]; exact heap_alloc_new w _, by simp, h1, fun o u d hu hd => ?_⟩
      rw [List.getElem?_replicate] at hd
      split at hd
      · cases hd; exact .dead _ _
      · cases hd
    · rw [if_neg e'] at hc
      exact .inl ⟨hc, trivial, fun _ _ _ _ => trivial⟩
  · simp only [List.getD_eq_getElem?_getD, List.getElem?_set] at hs
    by_cases e' : t = s
    · subst e'
      rw [if_pos rfl, if_pos ht] at hs
      simp only [Option.getD_some] at hs
      have := congrArg List.length hs
      simp only [List.length_replicate, List.length_nil] at this
      omega
    · rw [if_neg e'] at hs
      rintro (h | ⟨_, h⟩)
      · exact S.bxn.1 s (by simpa [List.getD_eq_getElem?_getD] using hs) h
      · exact e' h.symm
  · rcases h with h | ⟨h, _⟩
    · exact S.alf f s hl h
    · omega
  · rcases h with h | ⟨rfl, rfl⟩
    · rw [hhb f s h, hL _ (hfresh _ _ (S.alt f s h))]; exact S.alt f s h
    · rw [hself]; exact if_pos rfl
  · by_cases e' : g = w.heap.size
    · subst e'
      exact ⟨by simp, .inr S.base⟩
    · rw [hL g e'] at h
      have := S.old g τ h
      exact ⟨by simp; omega, this.2⟩

theorem Keep.cells {vr vr' : Pl → Nat} {G' : Gh} {KP : Ap → Prop} {KB : Nat → Nat → Prop} (k : Keep fr G vr w G' vr' w' KP KB) (hC : Closed KP) {i : Nat} {us : List Value} {ds : List D} (h : Cells B fr G vr w i us ds) (hp : ∀ j, j < ds.length → KP (.pn fr (i + j) [])) : Cells B fr G' vr' w' i us ds :=
  ⟨h.1, h.2.1, fun j u d hu hd => (h.2.2 j u d hu hd).keep k hC fun _ => hp j (List.getElem?_eq_some_iff.1 hd).1⟩
theorem splice_all {cs ds : List D} (h : cs.length = ds.length) : splice cs 0 ds = ds := by
  simp only [splice, List.take_zero, List.nil_append, Nat.zero_add]
  rw [List.drop_eq_nil_of_le (by omega), List.append_nil]

/-- A box is made, of values on their way. -/
theorem Sim.makeBox {t k : Nat} {e : TypeId} {us : Array Value} {ds : List D} (S : Sim B fr G σ act w) (hc : Cells B fr G σ.verAt w k us.toList ds) (hleaf : ∀ d ∈ ds, d.bare = true) (hpos : 0 < ds.length)
    (h0 : σ.bx.getD t [] = []) (ht : t < σ.bx.length) (ht' : t < σ.tm.length) (hσ : σ' = { σ with bx := σ.bx.set t ds, ver := bumpV (fun j => .bx t j) 0 ds σ.ver, tm := σ.tm.set t (.lp t 0) }) :
    ∃ G', Sim B fr G' σ' (act.put (some t) (.pointer (some ⟨w.heap.size, 0, none⟩))) (w.alloc (.cells us e)) ∧ Step fr G w G' (w.alloc (.cells us e)) := by
  have hl : us.size = ds.length := by simpa using hc.1
  obtain ⟨G1, S1, hal, hhb, K1, st1⟩ := S.newBox (e := e) (us := us) h0 ht (by omega) (fun u hu => hc.2.1 u (by simpa using hu))
  have hc1 := K1.cells closed_true hc fun _ _ => trivial
  have hbox : St.box { σ with bx := σ.bx.set t (List.replicate us.size .dead) } (.bx t 0) = List.replicate us.size .dead := by
    show (σ.bx.set t _).getD t [] = _
    simp [List.getD_eq_getElem?_getD, ht]
  obtain ⟨G2, S2, st2⟩ := S1.landCells (q := .bx t 0) (w' := w.alloc (.cells us e)) (uu := us) (T := e) trivial rfl hc1 hleaf (by rw [hbox]; simp [Pl.off]; omega) hpos (by rw [show G1.hb (Pl.fs fr (.bx t 0)).1 (Pl.fs fr (.bx t 0)).2 = w.heap.size from hhb]; exact heap_alloc_new w _)
    (by rw [show G1.hb (Pl.fs fr (.bx t 0)).1 (Pl.fs fr (.bx t 0)).2 = w.heap.size from hhb]
        simp only [Pl.off, List.take_zero, List.nil_append, Nat.zero_add]
        rw [List.drop_eq_nil_of_le (by simp), List.append_nil, Array.toArray_toList]
        exact (setRow_self _ _ us e (0, 0) (heap_alloc_new w _)).symm) rfl
  obtain ⟨st2, e1, e2⟩ := st2
  have hlp : ∀ vr, VD B fr G2 vr (w.alloc (.cells us e)) (.pn fr 0 []) (.pointer (some ⟨w.heap.size, 0, none⟩)) (.lp t 0) := fun vr => by
    have := VD.lp (B := B) (fr := fr) (G := G2) (vr := vr) (w := w.alloc (.cells us e)) (.pn fr 0 []) t 0 (by rw [e1]; exact hal)
    rw [e2, hhb] at this
    exact this
  have S3 := S2.land0 (t := t) (hlp _) rfl ht'
  refine ⟨G2, ?_, st1.trans st2⟩
  rw [hσ]
  have e3 : splice (List.replicate us.size D.dead) 0 ds = ds := splice_all (by simp [hl])
  have := S3
  simp only [St.setBox, hbox, Pl.off, e3, List.set_set, Pl.at, Nat.zero_add] at this
  exact this

theorem op_alloc {e : TypeId} {o : Oper} (ho : o.op = .alloc e) (S : Sim B fr G σ act w) (h : (pStep P H o).run C σ = some (.ok (), σ')) (hK : On B fr G w σ' K) : o.wp P act w K Q := by
  simp only [pStep, ho] at h
  obtain ⟨t, σ1, h1, h2⟩ := bind_ok h
  obtain ⟨hd, rfl⟩ := ofOpt_ok h1
  obtain ⟨c, σ1, h3, h4⟩ := bind_ok h2
  obtain ⟨rfl, rfl⟩ := gB_ok h3
  obtain ⟨_, σ1, h5, h6⟩ := bind_ok h4
  obtain ⟨hc, rfl⟩ := need_ok h5
  simp only [Bool.and_eq_true] at hc
  obtain ⟨i, z, d, k⟩ := zOk_ok hc.2
  obtain ⟨_, σ1, h7, h8⟩ := bind_ok h6
  obtain ⟨ht, rfl⟩ := pB_ok h7
  obtain ⟨ht', rfl⟩ := pT_ok h8
  have hno : ∀ d ∈ (zeroOf P e).map (fun v => D.t (.sc v)), d.hasOwn = false := fun d hd => by
    obtain ⟨v, _, rfl⟩ := List.mem_map.1 hd; rfl
  have hcells : Cells B fr G σ.verAt w 0 z.cells.toList ((zeroOf P e).map fun v => D.t (.sc v)) := by
    refine ⟨by rw [k.zof]; simp, fun u hu => k.zone u (by simpa using hu), fun j u d hu hd => ?_⟩
    rw [k.zof, List.getElem?_map, hu] at hd
    cases hd
    exact VD.scal (k.zone u (by rw [Array.getElem?_toList] at hu; exact Array.mem_of_getElem? hu))
  obtain ⟨G', S', st⟩ := S.makeBox (e := e) hcells (fun d hd => by obtain ⟨v, _, rfl⟩ := List.mem_map.1 hd; rfl) (by rw [List.length_map, k.zof, Array.length_toList, k.zsize]; exact k.pos) (isEmpty_ok hc.1) ht ht' rfl
  have hb : ∀ (ds : List D) (mk : Nat → Pl) j l, (∀ d ∈ ds, d.hasOwn = false) → bumpV mk j ds l = l := fun ds => by
    induction ds with
    | nil => intros; rfl
    | cons d ds ih =>
      intro mk j l h
      simp only [bumpV]
      rw [if_neg (by rw [h d (List.mem_cons_self ..)]; simp), ih _ _ _ fun d hd => h d (List.mem_cons_of_mem _ hd)]
  rw [hb _ _ _ _ hno] at S'
  unfold Oper.wp
  rw [show (execOp act.eval o).run P w = .ok (.value (.pointer (some ⟨w.heap.size, 0, none⟩))) (w.alloc (.cells z.cells e)) from by
    simp [execOp, ho, Instr.alloc, zeroValue, typeInfo, k.info, k.zero, newVar, newRow]]
  show K (act.put o.dst _) _
  rw [hd]
  exact hK _ _ _ S' st

theorem op_box {e : TypeId} {x : Operand} {o : Oper} (ho : o.op = .box e x) (S : Sim B fr G σ act w) (h : (pStep P H o).run C σ = some (.ok (), σ')) (hK : On B fr G w σ' K) : o.wp P act w K Q := by
  simp only [pStep, ho] at h
  obtain ⟨t, σ1, h1, h2⟩ := bind_ok h
  obtain ⟨hd, rfl⟩ := ofOpt_ok h1
  obtain ⟨d, σ1, h3, h4⟩ := bind_ok h2
  obtain ⟨G1, a1, hv⟩ := S.takeGS 0 h3
  obtain ⟨_, σ2, h5, h6⟩ := bind_ok h4
  obtain ⟨hc, rfl⟩ := need_ok h5
  simp only [Bool.and_eq_true, beq_iff_eq] at hc
  obtain ⟨i, z, td, k⟩ := zOk_ok hc.2
  obtain ⟨G2, a2, hcells⟩ := a1.sim.cells (k := 1) hv hc.1.2 (by omega)
  obtain ⟨ds, σ2, h7, h8⟩ := bind_ok h6
  obtain ⟨G3, a3, hcells, hleaf⟩ := a2.sim.resolveL hcells h7
  obtain ⟨c, σ3, h9, h10⟩ := bind_ok h8
  obtain ⟨rfl, rfl⟩ := gB_ok h9
  obtain ⟨_, σ3, h11, h12⟩ := bind_ok h10
  obtain ⟨hem, rfl⟩ := need_ok h11
  obtain ⟨_, σ3, h13, h14⟩ := bind_ok h12
  have e1 := bumpL_ok h13
  obtain ⟨_, σ4, h15, h16⟩ := bind_ok h14
  obtain ⟨ht, e2⟩ := pB_ok h15
  obtain ⟨ht', e3⟩ := pT_ok h16
  have hlen : ds.length = szOf P e := by
    have h1 := hcells.1
    have h2 := a2.sim
    rw [← hc.1.1]
    have := (a1.sim.cells (k := 1) hv hc.1.2 (by omega)).choose_spec.2.1
    omega
  obtain ⟨G', S', st⟩ := a3.sim.makeBox (t := t) (e := e) (us := (act.eval x).cells) hcells hleaf (by rw [hlen, k.sz]; exact k.pos) (isEmpty_ok hem) (by rw [e1] at ht; exact ht) (by rw [e2, e1] at ht'; exact ht') rfl
  unfold Oper.wp
  rw [show (execOp act.eval o).run P w = .ok (.value (.pointer (some ⟨w.heap.size, 0, none⟩))) (w.alloc (.cells (act.eval x).cells e)) from by
    simp [execOp, ho, Instr.box, newVar, newRow]]
  show K (act.put o.dst _) _
  rw [hd]
  refine hK _ _ _ ?_ (((a1.step.trans a2.step).trans a3.step).trans st)
  rw [e3, e2, e1]
  skip
  exact S'
end Go.Pv

/- What stands at a place is written into. -/
namespace Go.Pv
open Go.RowKit
variable {P : Program} {B fr : Nat} {G : Gh} {σ σ' : St} {act : Act} {w w' : World} {C : Callee} {K : Act → World → Prop} {Q : Exit → Act → World → Prop} {H : Hint}

def St.setPl (σ : St) : Pl → D → St
  | .tm t, d => { σ with tm := σ.tm.set t d }
  | .bx s o, d => { σ with bx := σ.bx.set s ((σ.bx.getD s []).set o d) }
  | .fb f s o, d => { σ with fr := σ.fr.set f ((σ.fr.getD f []).set s (((σ.fr.getD f []).getD s []).set o d)) }
def St.hasPl (σ : St) : Pl → Prop
  | .tm t => t < σ.tm.length
  | .bx s o => s < σ.bx.length ∧ o < (σ.bx.getD s []).length
  | .fb f s o => o < ((σ.fr.getD f []).getD s []).length
theorem putPl_set {q : Pl} {d : D} {u : Unit} (h : (putPl q d).run C σ = some (.ok u, σ')) : σ.hasPl q ∧ σ' = σ.setPl q d := by
  have := putPl_ok h
  cases q with
  | tm t => exact this
  | bx s o => exact ⟨⟨this.1, this.2.1⟩, this.2.2⟩
  | fb f s o => exact this
theorem putPl_run (C : Callee) {q : Pl} (d : D) (h : σ.hasPl q) : (putPl q d).run C σ = some (.ok (), σ.setPl q d) := by
  cases q with
  | tm t => simp only [St.hasPl] at h; simp [putPl, pT, Prog.run, h, St.setPl]
  | bx s o =>
    obtain ⟨h1, h2⟩ := h
    show (Prog.bind (gB s) fun c => Prog.bind (need (decide (o < c.length))) fun _ => pB s (c.set o d)).run C σ = _
    simp only [gB, Prog.bind, Prog.run, need, h2, decide_true, if_true, pB, h1, St.setPl]
  | fb f s o =>
    show (Prog.bind (gF f s) fun c => Prog.bind (need (decide (o < c.length))) fun _ => pF f s (c.set o d)).run C σ = _
    have h2 : o < ((σ.fr.getD f []).getD s []).length := h
    simp only [gF, Prog.bind, Prog.run, need, h2, decide_true, if_true, pF, St.setPl]
theorem St.fr_in {f s o : Nat} (h : o < ((σ.fr.getD f []).getD s []).length) : f < σ.fr.length ∧ s < (σ.fr.getD f []).length := by
  have hf : f < σ.fr.length := by
    rcases Nat.lt_or_ge f σ.fr.length with h' | h'
    · exact h'
    · simp [List.getD_eq_getElem?_getD, List.getElem?_eq_none h'] at h
  refine ⟨hf, ?_⟩
  rcases Nat.lt_or_ge s (σ.fr.getD f []).length with h' | h'
  · exact h'
  · rw [List.getD_eq_getElem?_getD (l := σ.fr.getD f []), List.getElem?_eq_none h'] at h; simp at h
theorem getD_set_self {α : Type} (l : List α) (i : Nat) (a d : α) (h : i < l.length) : (l.set i a).getD i d = a := by simp [List.getD_eq_getElem?_getD, h]
theorem setPl_has {q : Pl} {d : D} (h : σ.hasPl q) : (σ.setPl q d).hasPl q := by
  cases q with
  | tm t => simpa [St.hasPl, St.setPl] using h
  | bx s o =>
    obtain ⟨h1, h2⟩ := h
    refine ⟨by simpa [St.setPl] using h1, ?_⟩
    show o < ((σ.bx.set s _).getD s []).length
    rw [getD_set_self _ _ _ _ h1, List.length_set]
    exact h2
  | fb f s o =>
    have := St.fr_in h
    show o < (((σ.fr.set f _).getD f []).getD s []).length
    rw [getD_set_self _ _ _ _ this.1, getD_set_self _ _ _ _ this.2, List.length_set]
    exact h
theorem setPl_set {q : Pl} {d d' : D} (h : σ.hasPl q) : (σ.setPl q d).setPl q d' = σ.setPl q d' := by
  cases q with
  | tm t => simp [St.setPl]
  | bx s o =>
    obtain ⟨h1, h2⟩ := h
    simp only [St.setPl]
    rw [getD_set_self _ _ _ _ h1, List.set_set, List.set_set]
  | fb f s o =>
    have := St.fr_in h
    simp only [St.setPl]
    rw [getD_set_self _ _ _ _ this.1, getD_set_self _ _ _ _ this.2, List.set_set, List.set_set, List.set_set]
theorem setPl_ver (q : Pl) (d : D) : (σ.setPl q d).verAt = σ.verAt := by cases q <;> rfl
/-- The machine turns what stands at a place of which nothing is told. -/
theorem Sim.worldAt {q : Pl} (S : Sim B fr G (σ.setPl q .dead) act w) (hq : q.ok fr) (hh : σ.hasPl q) (K0 : Keep fr G σ.verAt w G σ.verAt w' (fun p => p ≠ q.abs fr) (fun _ _ => True)) : Sim B fr G (σ.setPl q .dead) act w' := by
  have K1 : Keep fr G (σ.setPl q .dead).verAt w G (σ.setPl q .dead).verAt w' (fun p => p ≠ q.abs fr) (fun _ _ => True) := by rw [setPl_ver]; exact K0
  have hC := Pl.abs_sub_ne fr q
  have hold : ∀ g τ, G.L g = some τ → g < w'.heap.size ∧ (τ = .junk ∨ B ≤ g) := fun g τ h => ⟨Nat.lt_of_lt_of_le (S.old g τ h).1 K0.size, (S.old g τ h).2⟩
  refine S.upd K1 hC S.len (fun t d hd => .inl ⟨hd, rfl, fun ho e => ?_⟩) (fun s c hc hne => .inl ⟨hc, trivial, fun o d hd ho e => ?_⟩) S.bxn (fun f b hb s c hc hne => .inl ⟨⟨b, hb, hc⟩, trivial, fun o d hd ho e => ?_⟩) S.frl S.alf S.alt hold S.dfs
  · cases q with
    | tm t' =>
      simp only [Pl.abs, Ap.tm.injEq] at e
      obtain ⟨_, rfl, _⟩ := e
      have hh' : t < σ.tm.length := hh
      simp only [St.setPl, List.getElem?_set, if_pos hh'] at hd
      cases hd
      cases ho
    | _ => cases e
  · cases q with
    | tm t' => cases e
    | bx s' o' =>
      simp only [Pl.abs, Ap.bc.injEq] at e
      obtain ⟨_, rfl, rfl⟩ := e
      obtain ⟨h1, h2⟩ := hh
      simp only [St.setPl, List.getElem?_set, if_pos h1] at hc
      cases hc
      rw [List.getElem?_set_self h2] at hd
      cases hd
      cases ho
    | fb f' s' o' =>
      simp only [Pl.abs, Ap.bc.injEq, Pl.ok] at e hq
      omega
  · cases q with
    | tm t' => cases e
    | bx s' o' =>
      have hf : f < fr := by rw [← S.frl]; exact (List.getElem?_eq_some_iff.1 hb).1
      simp only [Pl.abs, Ap.bc.injEq] at e
      omega
    | fb f' s' o' =>
      simp only [Pl.abs, Ap.bc.injEq] at e
      obtain ⟨rfl, rfl, rfl⟩ := e
      have := St.fr_in hh
      simp only [St.setPl, List.getElem?_set, if_pos this.1] at hb
      cases hb
      simp only [List.getElem?_set, if_pos this.2] at hc
      cases hc
      rw [List.getElem?_set_self hh] at hd
      cases hd
      cases ho
/-- What stands at a place is turned by the machine and told anew. -/
theorem Sim.turn {q : Pl} {d : D} {g : Nat} {u : Unit} (S : Sim B fr G σ act w) (hq : q.ok fr) (h : (Pv.putPl q d).run C σ = some (.ok u, σ')) (hbd : d.bare = true) (hg : G.L g = some (.own (q.abs fr)))
    (hos : w'.os = w.os) (htp : w'.tape = w.tape) (hout : w'.output = w.output) (hsz : w'.heap.size = w.heap.size) (hw : ∀ k, k ≠ g → w'.heap[k]? = w.heap[k]?) (hv : ∀ v, At fr G act w' q v → VD B fr G σ.verAt w' (q.abs fr) v d) :
    Sim B fr G σ' act w' ∧ Step fr G w G w' ∧ σ'.verAt = σ.verAt ∧ Keep fr G σ.verAt w G σ.verAt w' (fun p => p ≠ q.abs fr) (fun _ _ => True) := by
  obtain ⟨hh, rfl⟩ := putPl_set h
  have hne : ∀ k, G.L k ≠ some (.own (q.abs fr)) → k ≠ g := fun k h e => h (by rw [e]; exact hg)
  have K0 : Keep fr G σ.verAt w G σ.verAt w' (fun p => p ≠ q.abs fr) (fun _ _ => True) := by
    refine ⟨by omega, fun _ _ h => h, fun k h _ => hw k (hne k (by rw [h]; simp)), fun k p h hp => ⟨h, hw k (hne k (by rw [h]; simpa using hp))⟩, fun _ => Nat.le_refl _, fun _ _ => rfl, fun _ _ _ _ => rfl, fun _ _ h => ⟨h, rfl⟩, fun f s h _ => ⟨rfl, hw _ (hne _ (by rw [S.alt f s h]; simp))⟩⟩
  obtain ⟨S1, e1⟩ := S.putPl (C := C) (d := .dead) (G' := G) rfl (putPl_run C .dead hh) (.refl _ _ _ _ _ _) (fun _ _ => .dead _ _) rfl S.old
  have S2 := S1.worldAt hq hh K0
  obtain ⟨S3, e3⟩ := S2.putPl (C := C) (d := d) (G' := G) hbd (putPl_run C d (setPl_has hh)) (.refl _ _ _ _ _ _) (fun v hat => by rw [setPl_ver]; exact hv v hat) rfl S2.old
  rw [setPl_set hh] at S3
  refine ⟨S3, ⟨hos, htp, hout, by omega, fun k _ h => ⟨h, K0.shw k h (by omega)⟩, fun k h => ⟨h, hw k (hne k (by rw [h]; simp))⟩, fun k p f h hf hl => ⟨h, hw k (hne k (by rw [h]; intro e; simp only [Option.some.injEq, Tag.own.injEq] at e; subst e; rcases Pl.abs_frame (fr := fr) q with h' | h' <;> rw [h'] at hf <;> cases hf; omega))⟩, fun _ _ _ h => ⟨h, rfl⟩⟩, setPl_ver _ _, K0⟩
end Go.Pv

/- Stores. -/
namespace Go.Pv
open Go.RowKit
variable {P : Program} {B fr : Nat} {G : Gh} {σ σ' : St} {act : Act} {w w' : World} {C : Callee} {K : Act → World → Prop} {Q : Exit → Act → World → Prop} {H : Hint}

theorem Keep.RT {vr vr' : Pl → Nat} {G' : Gh} {KP : Ap → Prop} {KB : Nat → Nat → Prop} (k : Keep fr G vr w G' vr' w' KP KB) {v : Value} {x : T} (h : RT G.sh w v x) : RT G'.sh w' v x :=
  h.mono fun b hb hl => ⟨k.sh b hl hb, k.shw b hb hl⟩
theorem Sim.shareL {k : Nat} {us : List Value} {ds : List D} {xs : List T} (S : Sim B fr G σ act w) (hc : Cells B fr G σ.verAt w k us ds) (h : (Pv.shareL ds).run C σ = some (.ok xs, σ')) :
    ∃ G', GR B fr k ds.length G σ G' σ' act w ∧ us.length = xs.length ∧ ∀ (j : Nat) u x, us[j]? = some u → xs[j]? = some x → RT G'.sh w u x := by
  induction ds generalizing k us xs G σ with
  | nil =>
    obtain ⟨rfl, rfl⟩ := ret_ok (C := C) h
    exact ⟨G, .refl k _ S, hc.1, by simp⟩
  | cons d ds ih =>
    obtain ⟨hlen, h1, hall⟩ := hc
    cases us with
    | nil => cases hlen
    | cons u us =>
      simp only [Pv.shareL] at h
      obtain ⟨x, σ1, h2, h3⟩ := bind_ok h
      obtain ⟨xs, σ2, h4, h5⟩ := bind_ok h3
      obtain ⟨rfl, rfl⟩ := pure_ok h5
      obtain ⟨G1, a1, b1⟩ := S.share (hall 0 u d rfl rfl) h2
      have hc' : Cells B fr G1 σ1.verAt w (k + 1) us ds := ⟨by simpa using hlen, fun u hu => h1 u (List.mem_cons_of_mem _ hu), fun j u' d' hu hd => by
        have := hall (j + 1) u' d' hu hd
        rw [show k + (j + 1) = k + 1 + j from by omega] at this
        exact a1.other (by omega) this⟩
      obtain ⟨G2, a2, b2, b3⟩ := ih a1.sim hc' h4
      refine ⟨G2, (a1.toGR (k := k) (n := ds.length + 1) (by omega) (by omega)).trans (a2.widen (by omega) (by omega)), by simp [b2], fun j u' x' hu hx => ?_⟩
      cases j with
      | zero => cases hu; cases hx; exact a2.keep.RT b1
      | succ j => exact b3 j u' x' hu hx

theorem run_storeCell {ty : TypeId} {b o : Nat} {v : Value} {uu : Array Value} {T : TypeId} (hz : zOk P ty = true) (hs : v.cells.size = szOf P ty) (hb : w.heap[b]? = some (.cells uu T (0, 0))) (hfit : o + v.cells.size ≤ uu.size) (h1 : ∀ u ∈ v.cells.toList, u.oneCell' = true) :
    (Instr.storeAt ty (.pointer (some ⟨b, o, none⟩)) v).run P w = .ok () (w.setRow b (uu.toList.take o ++ v.cells.toList ++ uu.toList.drop (o + v.cells.toList.length)).toArray) := by
  have := run_storeCells_at (P := P) b o T v.cells.toList 0 uu w hb (by simpa using hfit) h1
  simp only [Nat.add_zero] at this
  simp [Instr.storeAt, Instr.sureAddr, storeVar, zOk_size hz, hs, this]
theorem getElem?_splice {α : Type} (l us : List α) (a j : Nat) (ha : a + us.length ≤ l.length) : (l.take a ++ us ++ l.drop (a + us.length))[j]? = if j < a then l[j]? else if j < a + us.length then us[j - a]? else l[j]? := by
  rw [List.append_assoc]
  by_cases h : j < a
  · rw [if_pos h, List.getElem?_append_left (by rw [List.length_take]; omega), List.getElem?_take, if_pos h]
  · rw [if_neg h, List.getElem?_append_right (by rw [List.length_take]; omega), List.length_take, Nat.min_eq_left (by omega)]
    by_cases h2 : j < a + us.length
    · rw [if_pos h2, List.getElem?_append_left (by omega)]
    · rw [if_neg h2, List.getElem?_append_right (by omega), List.getElem?_drop]
      congr 1
      omega

theorem Sim.atSame {q : Pl} {d : D} {g : Nat} (S : Sim B fr G σ act w) (h : (Pv.getPl q).run C σ = some (.ok d, σ)) (hd : d ≠ .dead) (hg : G.L g = some (.own (q.abs fr))) (hw : ∀ k, k ≠ g → w'.heap[k]? = w.heap[k]?) :
    ∀ v, At fr G act w' q v → At fr G act w q v := by
  intro v hv
  obtain ⟨_, e⟩ := getPl_ok h
  have key : ∀ {q : Pl} {F s o : Nat}, q.fs fr = (F, s) → σ.box q ≠ [] → G.L g = some (.own (q.abs fr)) → w'.cell? ⟨G.hb F s, o, none⟩ = some v → w.cell? ⟨G.hb F s, o, none⟩ = some v := fun {q F s o} e hne hg hv => by
    have := (S.boxOk hne).tag
    rw [e] at this
    rw [← hv]
    exact (World.cell?_of_block (hw _ fun e => by
      have e : G.hb F s = g := e
      have this : G.L (G.hb F s) = some (.box F s) := this
      rw [e, hg] at this; cases this)).symm
  cases q with
  | tm t => exact hv
  | bx s o => exact key (q := .bx s o) rfl (fun h0 => hd (by rw [e]; show (σ.bx.getD s []).getD o .dead = _; rw [show σ.bx.getD s [] = [] from h0]; rfl)) hg hv
  | fb f s o => exact key (q := .fb f s o) rfl (fun h0 => hd (by rw [e]; show ((σ.fr.getD f []).getD s []).getD o .dead = _; rw [show (σ.fr.getD f []).getD s [] = [] from h0]; rfl)) hg hv

theorem At.same {q : Pl} {v v' : Value} (h : At fr G act w q v) (h' : At fr G act w q v') : v = v' := by
  cases q with
  | tm t => exact h.symm.trans h'
  | bx s o => exact Option.some.inj (h.symm.trans h')
  | fb f s o => exact Option.some.inj (h.symm.trans h')

/-- Cells of an element of a row of the call's own are written. -/
theorem VD.setEl {vr : Pl → Nat} {p : Ap} {g c cap sz i o : Nat} {e : TypeId} {els : List (List T)} {us : List Value} {xs : List T} (h : VD B fr G vr w p (.slice (some ⟨g, 0, none⟩) c cap) (.own e sz els))
    (hx : us.length = xs.length) (hxs : ∀ (j : Nat) u x, us[j]? = some u → xs[j]? = some x → RT G.sh w u x) (hpos : 0 < xs.length) (hfit : o + xs.length ≤ (els.getD i []).length) :
    ∃ cur : Array Value, w.heap[g]? = some (.cells cur e (0, 0)) ∧ i * sz + o + us.length ≤ cur.size ∧
      VD B fr G vr (w.setRow g (cur.toList.take (i * sz + o) ++ us ++ cur.toList.drop (i * sz + o + us.length)).toArray) p (.slice (some ⟨g, 0, none⟩) c cap) (.own e sz (els.set i ((els.getD i []).take o ++ xs ++ (els.getD i []).drop (o + xs.length)))) := by
  have hi : i < els.length := by
    rcases Nat.lt_or_ge i els.length with h | h
    · exact h
    · rw [List.getD_eq_getElem?_getD, List.getElem?_eq_none h] at hfit; simp only [Option.getD_none, List.length_nil] at hfit; omega
  have hgd : els[i]? = some (els.getD i []) := getElem?_of_getD [] hi
  cases h with
  | own p v e sz els us0 ho hr hsz hL hq =>
    have hel := hr.each _ (List.mem_of_getElem? hgd)
    rcases ho.2 with ⟨h', _⟩ | ⟨g', cap', cur, h', hB, hg, hnc, hcm, hcs, htk⟩
    · cases h'
    · cases h'
      have hrow : (i + 1) * sz ≤ els.length * sz := Nat.mul_le_mul_right _ hi
      have hrow2 : els.length * sz ≤ cap * sz := Nat.mul_le_mul_right _ hnc
      rw [Nat.add_mul] at hrow
      have hin : i * sz + o + us.length ≤ els.length * sz := by omega
      have hfit2 : i * sz + o + us.length ≤ cur.size := by omega
      have hgu : ∀ j, j < els.length * sz → us0[j]? = cur.toList[j]? := fun j hj => by rw [← htk, List.getElem?_take, if_pos hj]
      refine ⟨cur, hg, hfit2, ?_⟩
      have hLg := hL g rfl
      have hwh : ∀ k, k ≠ g → (w.setRow g (cur.toList.take (i * sz + o) ++ us ++ cur.toList.drop (i * sz + o + us.length)).toArray).heap[k]? = w.heap[k]? := fun k hk => setRow_other w g k _ hk
      have hrt : ∀ {v x}, RT G.sh w v x → RT G.sh (w.setRow g (cur.toList.take (i * sz + o) ++ us ++ cur.toList.drop (i * sz + o + us.length)).toArray) v x := fun h => h.mono fun b hb _ => ⟨hb, hwh b fun e => by
        have hb' : G.L b = none := hb
        rw [e, hLg] at hb'; cases hb'⟩
      have hcur : cur.toList.length = cur.size := by simp
      refine .own _ _ e sz _ ((cur.toList.take (i * sz + o) ++ us ++ cur.toList.drop (i * sz + o + us.length)).take (els.length * sz)) ?_ ⟨?_, fun e' he => ?_, fun i' e' j x hi' hj => ?_⟩ hsz hL hq
      · rw [List.length_set]
        refine ⟨?_, .inr ⟨g, cap, _, rfl, hB, setRow_heap w g cur _ e _ hg, hnc, hcm, ?_, by simp⟩⟩
        · simp only [List.length_take, List.length_append, List.length_drop, hcur]; omega
        · rw [List.size_toArray]; simp only [List.length_append, List.length_take, List.length_drop, hcur]; omega
      · simp only [List.length_take, List.length_append, List.length_drop, List.length_set, hcur]; omega
      · rcases List.mem_or_eq_of_mem_set he with he | rfl
        · exact hr.each e' he
        · simp only [List.length_append, List.length_take, List.length_drop]; omega
      · have hi2 : i' < els.length := by have := (List.getElem?_eq_some_iff.1 hi').1; simpa using this
        have hj2 : j < sz := by
          have hjl := (List.getElem?_eq_some_iff.1 hj).1
          rw [List.getElem?_set] at hi'
          split at hi'
          · skip
            cases hi'
            simp only [List.length_append, List.length_take, List.length_drop] at hjl; omega
          · rw [hr.each e' (List.mem_of_getElem? hi')] at hjl; exact hjl
        have hrow' : i' * sz + j < els.length * sz := by
          have : (i' + 1) * sz ≤ els.length * sz := Nat.mul_le_mul_right _ hi2
          rw [Nat.add_mul] at this
          omega
        rw [List.getElem?_take, if_pos hrow', getElem?_splice _ _ _ _ (by rw [hcur]; exact hfit2), ← hgu _ hrow']
        rw [List.getElem?_set] at hi'
        split at hi'
        · rename_i hii
          subst hii
          cases hi'
          rw [getElem?_splice _ _ _ _ hfit] at hj
          by_cases h1 : j < o
          · rw [if_pos h1] at hj
            rw [if_pos (by omega)]
            obtain ⟨u, hu, hr'⟩ := hr.cell i _ j x hgd hj
            exact ⟨u, hu, hrt hr'⟩
          · rw [if_neg h1] at hj
            rw [if_neg (by omega)]
            by_cases h2 : j < o + xs.length
            · rw [if_pos h2] at hj
              rw [if_pos (by omega), show i * sz + j - (i * sz + o) = j - o from by omega]
              have hlt : j - o < us.length := by omega
              exact ⟨us[j - o], List.getElem?_eq_getElem hlt, hrt (hxs _ _ _ (List.getElem?_eq_getElem hlt) hj)⟩
            · rw [if_neg h2] at hj
              rw [if_neg (by omega)]
              obtain ⟨u, hu, hr'⟩ := hr.cell i _ j x hgd hj
              exact ⟨u, hu, hrt hr'⟩
        · rename_i hii
          obtain ⟨u, hu, hr'⟩ := hr.cell i' _ j x hi' hj
          refine ⟨u, ?_, hrt hr'⟩
          rcases Nat.lt_or_ge i' i with hlt | hge
          · have : (i' + 1) * sz ≤ i * sz := Nat.mul_le_mul_right _ hlt
            rw [Nat.add_mul] at this
            rw [if_pos (by omega)]
            exact hu
          · have : (i + 1) * sz ≤ i' * sz := Nat.mul_le_mul_right _ (by omega)
            rw [Nat.add_mul] at this
            rw [if_neg (by omega), if_neg (by omega)]
            exact hu
end Go.Pv

/- Stores and loads: the operations. -/
namespace Go.Pv
open Go.RowKit
variable {P : Program} {B fr : Nat} {G : Gh} {σ σ' : St} {act : Act} {w w' : World} {C : Callee} {K : Act → World → Prop} {Q : Exit → Act → World → Prop} {H : Hint}

theorem wp_skip {o : Oper} (ho : o.dst.isNone = true) (h : (execOp act.eval o).run P w = .ok .skip w') (hk : K act w') : o.wp P act w K Q := by
  unfold Oper.wp
  rw [h, Oper.upon_skip]
  have : o.dst = none := by cases hd : o.dst <;> first | rfl | (rw [hd] at ho; cases ho)
  rw [this]
  exact hk
theorem store_run {ty : TypeId} {x v : Operand} {o : Oper} (ho : o.op = .store ty x v) (h : (Instr.storeAt ty (act.eval x) (act.eval v)).run P w = .ok () w') : (execOp act.eval o).run P w = .ok .skip w' := by
  simp [execOp, ho, h]

theorem op_store {ty : TypeId} {x v : Operand} {o : Oper} (ho : o.op = .store ty x v) (S : Sim B fr G σ act w) (h : (pStep P H o).run C σ = some (.ok (), σ')) (hK : On B fr G w σ' K) : o.wp P act w K Q := by
  simp only [pStep, ho] at h
  obtain ⟨_, σ1, h1, h2⟩ := bind_ok h
  obtain ⟨hz, rfl⟩ := need_ok h1
  simp only [Bool.and_eq_true] at hz
  obtain ⟨hz, hdst⟩ := hz
  obtain ⟨a, σ1, h3, h4⟩ := bind_ok h2
  obtain ⟨rfl, p, hva⟩ := S.rd h3
  obtain ⟨d, σ1, h5, h6⟩ := bind_ok h4
  obtain ⟨G1, a1, hv⟩ := S.takeGS 0 h5
  obtain ⟨_, σ2, h7, h8⟩ := bind_ok h6
  obtain ⟨hc, rfl⟩ := need_ok h7
  simp only [Bool.and_eq_true, beq_iff_eq] at hc
  obtain ⟨hlen, hlive⟩ := hc
  obtain ⟨i, z, td, k⟩ := zOk_ok hz
  obtain ⟨G2, a2, hcells⟩ := a1.sim.cells (k := 1) hv hlive (by omega)
  have hpos : 0 < szOf P ty := by rw [k.sz]; exact k.pos
  have hus : (act.eval v).cells.size = szOf P ty := by have := hcells.1; simp only [Array.length_toList] at this; omega
  -- a store into a box
  have box : ∀ {q : Pl} {ok : Bool} {ds : List D} {G3 : Gh} {σ3 : St}, q.ok fr → q.boxed = true → GR B fr 1 d.cells.length G2 σ1 G3 σ3 act w → Cells B fr G3 σ3.verAt w 1 (act.eval v).cells.toList ds → (∀ d ∈ ds, d.bare = true) →
      G3.al (q.fs fr).1 (q.fs fr).2 → act.eval x = .pointer (some ⟨G3.hb (q.fs fr).1 (q.fs fr).2, q.off, none⟩) → q.off + ds.length ≤ (σ3.box q).length →
      σ' = { σ3.setBox q (splice (σ3.box q) q.off ds) with ver := bumpV (fun j => q.at (q.off + j)) 0 ds σ3.ver, vg := σ3.vg } → o.wp P act w K Q := by
    intro q ok ds G3 σ3 hq hb a3 hcl hleaf hal hptr hfit hσ
    have hl : ds.length = szOf P ty := by have := hcl.1; simp only [Array.length_toList] at this; omega
    have hne : σ3.box q ≠ [] := by intro e; have := congrArg List.length e; simp only [List.length_nil] at this; omega
    obtain ⟨_, _, _, uu, T, hg, hsz, _, _⟩ := a3.sim.boxOk hne
    obtain ⟨G4, S4, st4, _, _⟩ := a3.sim.landCells hq hb hcl hleaf hfit (by omega) hg rfl hσ
    refine wp_skip hdst (store_run ho ?_) (hK _ _ _ S4 (((a1.step.trans a2.step).trans a3.step).trans st4))
    rw [hptr]
    exact run_storeCell hz hus hg (by omega) hcl.2.1
  unfold storeC at h8
  split at h8
  · rename_i s off
    obtain ⟨ds, σ3, h9, h10⟩ := bind_ok h8
    obtain ⟨G3, a3, hcl, hleaf⟩ := a2.sim.resolveL hcells h9
    obtain ⟨c, σ4, h11, h12⟩ := bind_ok h10
    obtain ⟨rfl, rfl⟩ := gB_ok h11
    obtain ⟨_, σ4, h13, h14⟩ := bind_ok h12
    obtain ⟨hfit, rfl⟩ := need_ok h13
    obtain ⟨_, σ4, h15, h16⟩ := bind_ok h14
    have e1 := bumpL_ok h15
    obtain ⟨ht, e2⟩ := pB_ok h16
    have hva' := a3.free (a2.free (a1.free hva rfl) rfl) rfl
    generalize hx : act.eval x = vx at hva'
    cases hva' with
    | lp p s o' ha =>
      exact box (q := .bx s off) (ok := true) trivial rfl a3 hcl hleaf ha hx (of_decide_eq_true hfit) (by rw [e2, e1]; rfl)
  · rename_i f s off
    obtain ⟨ds, σ3, h9, h10⟩ := bind_ok h8
    obtain ⟨G3, a3, hcl, hleaf⟩ := a2.sim.resolveL hcells h9
    obtain ⟨c, σ4, h11, h12⟩ := bind_ok h10
    obtain ⟨rfl, rfl⟩ := ret_ok (C := C) h11
    obtain ⟨_, σ4, h13, h14⟩ := bind_ok h12
    obtain ⟨hfit, rfl⟩ := need_ok h13
    obtain ⟨_, σ4, h15, h16⟩ := bind_ok h14
    have e1 := bumpL_ok h15
    have e2 := (ret_ok (C := C) h16).2.symm
    have hva' := a3.free (a2.free (a1.free hva rfl) rfl) rfl
    generalize hx : act.eval x = vx at hva'
    cases hva' with
    | fp p f s o' hf ha =>
      exact box (q := .fb f s off) (ok := true) hf rfl a3 hcl hleaf ha hx (of_decide_eq_true hfit) (by rw [e2, e1]; rfl)
  · rename_i q kk sz i' off
    obtain ⟨xs, σ3, h9, h10⟩ := bind_ok h8
    obtain ⟨G3, a3, hxl, hxs⟩ := a2.sim.shareL hcells h9
    obtain ⟨⟨e, sz', els⟩, σ4, h11, h12⟩ := bind_ok h10
    obtain ⟨hpl, _, d0, hgp, hd0⟩ := rowAt_ok h11
    obtain ⟨rfl, rfl, v0, hat, hown⟩ := a3.sim.rowAt h11
    dsimp only at hown h12 hd0
    obtain ⟨_, σ4, h13, h14⟩ := bind_ok h12
    obtain ⟨hfit, rfl⟩ := need_ok h13
    simp only [Bool.and_eq_true, beq_iff_eq, decide_eq_true_eq] at hfit
    obtain ⟨rfl, hfit⟩ := hfit
    have hva' := a3.free (a2.free (a1.free hva rfl) rfl) rfl
    generalize hx : act.eval x = vx at hva'
    cases hva' with
    | ept p q kk sz i' off g c cap hk hh =>
      have hv0 : v0 = .slice (some ⟨g, 0, none⟩) c cap := by
        rw [← hh]
        generalize hp : q.abs fr = p0 at hown ⊢
        cases hown with
        | own p v e sz els us ho hr hsz hL hq => exact (hq q hk.1 hp).symm
      subst hv0
      have hL := hown.ownTag g rfl
      have hxl' : (act.eval v).cells.toList.length = xs.length := hxl
      have hxpos : 0 < xs.length := by simp only [Array.length_toList] at hxl'; omega
      obtain ⟨cur, hg, hf, hnew⟩ := hown.setEl hxl' hxs hxpos hfit
      have hat' := a3.sim.atSame (w' := w.setRow g (cur.toList.take (i' * sz + off) ++ (act.eval v).cells.toList ++ cur.toList.drop (i' * sz + off + (act.eval v).cells.toList.length)).toArray) hgp (by rw [hd0]; simp) hL (fun k hk => setRow_other w g k _ hk)
      obtain ⟨S4, st4, _, _⟩ := a3.sim.turn (w' := w.setRow g (cur.toList.take (i' * sz + off) ++ (act.eval v).cells.toList ++ cur.toList.drop (i' * sz + off + (act.eval v).cells.toList.length)).toArray) hk.1 h14 rfl hL rfl rfl rfl (by simp [World.setRow]) (fun k hk => setRow_other w g k _ hk) (fun v' hv' => by
        have := (hat' v' hv').same hat
        rw [this]
        exact hnew)
      refine wp_skip hdst (store_run ho ?_) (hK _ _ _ S4 (((a1.step.trans a2.step).trans a3.step).trans st4))
      rw [hx]
      exact run_storeCell hz hus hg (by simpa using hf) hcells.2.1
  · cases h8

/-! ### loads -/
theorem cell_own {vr : Pl → Nat} {p : Ap} {v : Value} {d : D} (h : VD B fr G vr w p v d) (h1 : v.oneCell' = true) (ho : d.hasOwn = true) : (∃ e sz els, d = .own e sz els) ∨ ∃ kvs, d = .omap kvs := by
  cases h with
  | own => exact .inl ⟨_, _, _, rfl⟩
  | omap => exact .inr ⟨_, rfl⟩
  | agg => cases h1
  | tup => cases h1
  | _ => cases ho
theorem Sim.nameL {q : Pl} {j : Nat} {ds ds' : List D} (h : (nameL (fun j => q.at (q.off + j)) j ds).run C σ = some (.ok ds', σ')) (hq : q.ok fr) (hb : q.boxed = true) (us : List Value) (hl : us.length = ds.length)
    (h1 : ∀ u ∈ us, u.oneCell' = true) (hv : ∀ (i : Nat) u d, us[i]? = some u → ds[i]? = some d → VD B fr G σ.verAt w (.bc (q.fs fr).1 (q.fs fr).2 (q.off + (j + i))) u d) :
    σ = σ' ∧ ds'.length = ds.length ∧ ∀ (i : Nat) u d, us[i]? = some u → ds'[i]? = some d → d.hasOwn = false ∧ ∀ p, VD B fr G σ.verAt w p u d := by
  induction ds generalizing j us ds' with
  | nil =>
    obtain ⟨rfl, rfl⟩ := ret_ok (C := C) h
    exact ⟨rfl, rfl, by simp⟩
  | cons d ds ih =>
    cases us with
    | nil => cases hl
    | cons u us =>
      simp only [Pv.nameL] at h
      obtain ⟨x, σ1, h2, h3⟩ := bind_ok h
      obtain ⟨xs, σ2, h4, h5⟩ := bind_ok h3
      obtain ⟨rfl, rfl⟩ := pure_ok h5
      have hv0 := hv 0 u d rfl rfl
      simp only [Nat.add_zero] at hv0
      have hok : (q.at (q.off + j)).ok fr := by cases q <;> first | exact hq | trivial
      have key : σ = σ1 ∧ x.hasOwn = false ∧ ∀ p, VD B fr G σ.verAt w p u x := by
        split at h2
        · rename_i ho
          obtain ⟨kk, σ3, h6, h7⟩ := bind_ok h2
          obtain ⟨rfl, rfl⟩ := gV_ok h6
          obtain ⟨rfl, rfl⟩ := pure_ok h7
          rw [← Pl.abs_at hb] at hv0
          rcases cell_own hv0 (h1 u (List.mem_cons_self ..)) ho with ⟨e, sz, els, rfl⟩ | ⟨kvs, rfl⟩
          · exact ⟨rfl, rfl, fun p => hv0.named hok p⟩
          · exact ⟨rfl, rfl, fun p => hv0.namedMap hok p⟩
        · rename_i ho
          obtain ⟨rfl, rfl⟩ := ret_ok (C := C) h2
          exact ⟨rfl, by simpa using ho, fun p => hv0.free p (by simpa using ho)⟩
      obtain ⟨rfl, hx, hxv⟩ := key
      obtain ⟨rfl, hl2, hr⟩ := ih h4 us (by simpa using hl) (fun u hu => h1 u (List.mem_cons_of_mem _ hu)) (fun i u' d' hu hd => by
        have := hv (i + 1) u' d' hu hd
        rwa [show j + (i + 1) = j + 1 + i from by omega] at this)
      refine ⟨rfl, by simp [hl2], fun i u' d' hu hd => ?_⟩
      cases i with
      | zero => cases hu; cases hd; exact ⟨hx, hxv⟩
      | succ i => exact hr i u' d' hu hd
end Go.Pv

/- Elements are copied into a part of a row. -/
namespace Go.Pv
open Go.RowKit
variable {P : Program} {B fr : Nat} {G : Gh} {σ σ' : St} {act : Act} {w w' : World} {C : Callee} {K : Act → World → Prop} {Q : Exit → Act → World → Prop} {H : Hint}

theorem Sim.rdS0 {x : Operand} {d : D} (S : Sim B fr G σ act w) (h : (Pv.rdS x).run C σ = some (.ok d, σ')) : σ = σ' ∧ ∃ p, VD B fr G σ.verAt w p (act.eval x) d := by
  cases x with
  | tmp t =>
    simp only [Pv.rdS] at h
    obtain ⟨d0, σ1, h1, h2⟩ := bind_ok h
    obtain ⟨e0, rfl⟩ := gT_ok h1
    have hvd := S.tmAt t
    rw [e0] at hvd
    split at h2
    · obtain ⟨k, σ2, h3, h4⟩ := bind_ok h2
      obtain ⟨ek, rfl⟩ := gV_ok h3
      obtain ⟨rfl, rfl⟩ := pure_ok h4
      subst ek
      exact ⟨rfl, .pn fr 0 [], hvd.named (q := .tm t) trivial _⟩
    · obtain ⟨rfl, rfl⟩ := pure_ok h2
      exact ⟨rfl, _, hvd⟩
  | const v => exact S.rd (x := .const v) h
  | func f => exact S.rd (x := .func f) h
  | global g => cases h

/-- A part of a row of the call's own is written. -/
theorem VD.setPart {vr : Pl → Nat} {p : Ap} {g c cap sz lo : Nat} {e : TypeId} {els new : List (List T)} {us : List Value} (h : VD B fr G vr w p (.slice (some ⟨g, 0, none⟩) c cap) (.own e sz els))
    (hx : RTrow G.sh w sz us new) (hfit : lo + new.length ≤ els.length) :
    ∃ cur : Array Value, w.heap[g]? = some (.cells cur e (0, 0)) ∧ lo * sz + us.length ≤ cur.size ∧
      VD B fr G vr (w.setRow g (cur.toList.take (lo * sz) ++ us ++ cur.toList.drop (lo * sz + us.length)).toArray) p (.slice (some ⟨g, 0, none⟩) c cap) (.own e sz (els.take lo ++ new ++ els.drop (lo + new.length))) := by
  cases h with
  | own p v e sz els us0 ho hr hsz hL hq =>
    rcases ho.2 with ⟨h', _⟩ | ⟨g', cap', cur, h', hB, hg, hnc, hcm, hcs, htk⟩
    · cases h'
    · cases h'
      have hul := hx.len
      have hrow : (lo + new.length) * sz ≤ els.length * sz := Nat.mul_le_mul_right _ hfit
      have hrow2 : els.length * sz ≤ cap * sz := Nat.mul_le_mul_right _ hnc
      rw [Nat.add_mul] at hrow
      have hfit2 : lo * sz + us.length ≤ cur.size := by omega
      refine ⟨cur, hg, hfit2, ?_⟩
      have hLg := hL g rfl
      have hwh : ∀ k, k ≠ g → (w.setRow g (cur.toList.take (lo * sz) ++ us ++ cur.toList.drop (lo * sz + us.length)).toArray).heap[k]? = w.heap[k]? := fun k hk => setRow_other w g k _ hk
      have hcur : cur.toList.length = cur.size := by simp
      have h0 := hr.part 0 lo (by omega)
      have h2 := hr.part (lo + new.length) (els.length - (lo + new.length)) (by omega)
      have hall := ((h0.append hx).append h2).mono (ok' := G.sh) (w' := w.setRow g (cur.toList.take (lo * sz) ++ us ++ cur.toList.drop (lo * sz + us.length)).toArray) fun b hb _ => ⟨hb, hwh b fun e => by
        have hb' : G.L b = none := hb
        rw [e, hLg] at hb'; cases hb'⟩
      rw [List.drop_zero, List.take_of_length_le (l := els.drop (lo + new.length)) (by rw [List.length_drop]; omega)] at hall
      refine .own _ _ e sz _ ((cur.toList.take (lo * sz) ++ us ++ cur.toList.drop (lo * sz + us.length)).take (els.length * sz)) ?_ ?_ hsz hL hq
      · have hlen : (els.take lo ++ new ++ els.drop (lo + new.length)).length = els.length := by simp; omega
        rw [hlen]
        refine ⟨?_, .inr ⟨g, cap, _, rfl, hB, setRow_heap w g cur _ e _ hg, hnc, hcm, ?_, by simp⟩⟩
        · simp only [List.length_take, List.length_append, List.length_drop, hcur]; omega
        · rw [List.size_toArray]; simp only [List.length_append, List.length_take, List.length_drop, hcur]; omega
      · have e1 : (cur.toList.take (lo * sz) ++ us ++ cur.toList.drop (lo * sz + us.length)).take (els.length * sz) = (us0.drop (0 * sz)).take (lo * sz) ++ us ++ (us0.drop ((lo + new.length) * sz)).take ((els.length - (lo + new.length)) * sz) := by
          rw [List.append_assoc, List.take_append, List.take_append, List.take_take, Nat.zero_mul, List.drop_zero, ← htk, List.take_take, List.drop_take, List.take_take, List.append_assoc, List.length_take, hcur, Nat.add_mul]
          have m1 : min (els.length * sz) (lo * sz) = lo * sz := by omega
          have m2 : min (lo * sz) (els.length * sz) = lo * sz := by omega
          have m3 : min (lo * sz) cur.size = lo * sz := by omega
          have m4 : (els.length - (lo + new.length)) * sz = els.length * sz - (lo * sz + new.length * sz) := by rw [Nat.sub_mul, Nat.add_mul]
          rw [m1, m2, m3, List.take_of_length_le (l := us) (by omega), m4, hul]
          congr 3
          omega
        rw [e1]
        exact hall

theorem take_min {α : Type} (l : List α) (n : Nat) : l.take n = l.take (min l.length n) := by
  rcases Nat.le_total l.length n with h | h
  · rw [Nat.min_eq_left h, List.take_of_length_le h, List.take_length]
  · rw [Nat.min_eq_right h]
theorem getD_of_lt {α : Type} (l : List α) (i : Nat) (d : α) (h : i < l.length) : l.set i (l.getD i d) = l := by
  rw [List.getD_eq_getElem?_getD, List.getElem?_eq_getElem h, Option.getD_some, List.set_getElem_self]
theorem getD_set {α : Type} (l : List α) (i : Nat) (d : α) : l.set i (l.getD i d) = l := by
  rcases Nat.lt_or_ge i l.length with h | h
  · exact getD_of_lt l i d h
  · exact List.set_eq_of_length_le h
/-- What is laid where it stands changes nothing. -/
theorem putPl_same {q : Pl} {d d' : D} {u : Unit} (hg : (Pv.getPl q).run C σ = some (.ok d', σ)) (hd : d' = d) (h : (Pv.putPl q d).run C σ = some (.ok u, σ')) : σ' = σ := by
  obtain ⟨_, e⟩ := getPl_ok hg
  subst hd
  cases q with
  | tm t =>
    simp only [Pv.putPl, Pv.pT, Prog.run] at h
    split at h
    · cases h
      replace e : d' = σ.tm.getD t .dead := e
      rw [e]
      simp only [getD_set]
    · cases h
  | bx s o =>
    simp only [Pv.putPl] at h
    obtain ⟨c, σ1, h1, h2⟩ := bind_ok h
    obtain ⟨rfl, rfl⟩ := gB_ok h1
    obtain ⟨_, σ1, h3, h4⟩ := bind_ok h2
    obtain ⟨_, rfl⟩ := need_ok h3
    obtain ⟨_, e2⟩ := pB_ok h4
    replace e : d' = (σ.bx.getD s []).getD o .dead := e
    rw [e2, e]
    simp only [getD_set]
  | fb f s o =>
    simp only [Pv.putPl] at h
    obtain ⟨c, σ1, h1, h2⟩ := bind_ok h
    obtain ⟨rfl, rfl⟩ := ret_ok (C := C) h1
    obtain ⟨_, σ1, h3, h4⟩ := bind_ok h2
    obtain ⟨_, rfl⟩ := need_ok h3
    have e2 := (ret_ok (C := C) h4).2.symm
    replace e : d' = ((σ.fr.getD f []).getD s []).getD o .dead := e
    rw [e2, e]
    simp only [getD_set]

theorem run_copyG {t t' ty e : TypeId} {i : TypeInfo} {z : Value} {d : TypeDesc} (ht : P.underlying t = some (.slice e)) (k : Known P e i z d) {vy : Value} {n m dc g lo : Nat} {news : List Value} {cur : Array Value} {T : TypeId}
    (hs : Src w vy n news) (hl : news.length = n * i.size) (h1 : ∀ u ∈ news, u.oneCell' = true) (hg : w.heap[g]? = some (.cells cur T (0, 0))) (hfit : lo + (news.take (min n m * i.size)).length ≤ cur.size) :
    (Builtin.copy_ #[t, t'] ty #[.slice (some ⟨g, lo, none⟩) m dc, vy]).run P w =
      .ok (goInt ((min n m : Nat) : Int)) (w.setRow g (cur.toList.take lo ++ news.take (min n m * i.size) ++ cur.toList.drop (lo + (news.take (min n m * i.size)).length)).toArray) := by
  have hst := run_storeCells_at P g lo T (news.take (min n m * i.size)) 0 cur w hg (by simpa using hfit) (fun v hv => h1 v (List.mem_of_mem_take hv))
  simp only [Nat.add_zero] at hst
  rcases hs with ⟨a, c, rfl, hcell⟩ | ⟨c, rfl, rfl⟩
  · have hle : min n m * i.size ≤ news.length := by rw [hl]; exact Nat.mul_le_mul_right _ (Nat.min_le_left ..)
    have hload := run_loadCells_list (P := P) w a (news.take (min n m * i.size)) (fun j v hj => by
      rw [List.getElem?_take] at hj
      split at hj
      · exact hcell j v hj
      · cases hj)
    rw [List.length_take, Nat.min_eq_left hle] at hload
    simp [Builtin.copy_, run_underlying ht, Builtin.lenOf, Builtin.firstCells, sizeOf, typeInfo, k.info, hload, hst]
  · have hn : news = [] := List.eq_nil_of_length_eq_zero (by simpa using hl)
    subst hn
    have e0 : min 0 m = 0 := by omega
    simp [Builtin.copy_, run_underlying ht, Builtin.lenOf, Builtin.firstCells, sizeOf, typeInfo, k.info, storeCells, e0] at hst ⊢
    exact hst
theorem run_copy0 {t t' ty e : TypeId} {i : TypeInfo} {z : Value} {d : TypeDesc} (ht : P.underlying t = some (.slice e)) (k : Known P e i z d) {vy : Value} {n m dc : Nat} {a : Option Addr} {news : List Value}
    (hs : Src w vy n news) (hm : min n m = 0) : (Builtin.copy_ #[t, t'] ty #[.slice a m dc, vy]).run P w = .ok (goInt 0) w := by
  have hload : ∀ b : Addr, (loadCells b 0).run P w = .ok #[] w := fun b => run_loadCells_list (P := P) w b [] (by simp)
  rcases hs with ⟨b, c, rfl, _⟩ | ⟨c, rfl, rfl⟩
  · cases a <;> simp [Builtin.copy_, run_underlying ht, Builtin.lenOf, Builtin.firstCells, sizeOf, typeInfo, k.info, hload, hm, storeCells]
  · have e0 : min 0 m = 0 := by omega
    cases a <;> simp [Builtin.copy_, run_underlying ht, Builtin.lenOf, Builtin.firstCells, sizeOf, typeInfo, k.info, storeCells, e0]

theorem op_copy {c : Call} {o : Oper} (ho : o.op = .call c) (hc : c.callee = .builtin .copy) (S : Sim B fr G σ act w) (h : (pStep P H o).run C σ = some (.ok (), σ')) (hK : On B fr G w σ' K) : o.wp P act w K Q := by
  simp only [pStep, ho, hc] at h
  split at h
  · rename_i x y t t' hx ht
    have hx := toList_two hx
    have ht := toList_two ht
    obtain ⟨e, σ1, h3, h4⟩ := bind_ok h
    obtain ⟨he, rfl⟩ := ofOpt_ok h3
    obtain ⟨hu, hz⟩ := elOf_ok he
    obtain ⟨i, z, td, k⟩ := zOk_ok hz
    obtain ⟨dy, σ1, h5, h6⟩ := bind_ok h4
    obtain ⟨rfl, p1, hvy⟩ := S.rdS0 h5
    obtain ⟨dx, σ1, h7, h8⟩ := bind_ok h6
    obtain ⟨rfl, p2, hvx⟩ := S.rdS0 h7
    obtain ⟨b, σ3, h9, h10⟩ := bind_ok h8
    obtain ⟨els2, σ4, h11, h12⟩ := bind_ok h10
    obtain ⟨hels, rfl⟩ := ofOpt_ok h11
    obtain ⟨_, σ4, h13, h14⟩ := bind_ok h12
    obtain ⟨hall, rfl⟩ := need_ok h13
    simp only [List.all_eq_true, beq_iff_eq] at hall
    obtain ⟨rfl, news, hrow, hsrc⟩ := S.lendRow hvy h9 hels hall
    have hl : news.length = els2.length * i.size := by rw [hrow.len, k.sz]
    unfold copyD at h14
    split at h14
    · rename_i q kk sz lo n
      obtain ⟨⟨e', sz', els⟩, σ5, h15, h16⟩ := bind_ok h14
      obtain ⟨hpl, _, d0, hgp, hd0⟩ := rowAt_ok h15
      obtain ⟨rfl, rfl, v0, hat, hown⟩ := S.rowAt h15
      dsimp only at hown h16 hd0
      obtain ⟨_, σ5, h17, h18⟩ := bind_ok h16
      obtain ⟨hfit, rfl⟩ := need_ok h17
      simp only [Bool.and_eq_true, beq_iff_eq, decide_eq_true_eq] at hfit
      obtain ⟨⟨hsz, rfl⟩, hfit⟩ := hfit
      have hrun : ∀ {v : Value} {w' : World}, (Builtin.copy_ #[t, t'] o.type #[act.eval x, act.eval y]).run P w = .ok v w' → (execOp act.eval o).run P w = .ok (.value v) w' := fun {v w'} r1 => by
        simp [execOp, ho, hc, hx, ht, Go.resolve, invoke, builtin, r1]
      obtain ⟨_, σ6, h19, h20⟩ := bind_ok h18
      have etake : els2.take n = els2.take (min els2.length n) := by
        exact take_min els2 n
      by_cases hm : min els2.length n = 0
      · have hslice : ∃ a dc, act.eval x = .slice a n dc := by
          generalize act.eval x = vx at hvx
          cases hvx with
          | alsN => exact ⟨_, _, rfl⟩
          | als => exact ⟨_, _, rfl⟩
        obtain ⟨a, dc, hxe⟩ := hslice
        rw [etake, hm, List.take_zero, List.append_nil, Nat.add_zero, List.take_append_drop] at h19
        rw [hm] at h20
        have := putPl_same hgp hd0 h19
        subst this
        refine wp_free S (VD.scal (p := .pn fr 0 []) rfl) rfl h20 (hrun ?_) hK
        rw [hxe]
        exact run_copy0 hu k hsrc hm
      · rw [etake] at h19
        generalize hxe : act.eval x = vx at hvx
        cases hvx with
        | alsN => exact absurd (Nat.min_zero _) hm
        | als p q kk sz lo n g c cap cap' hk hh hn hc' off hoff =>
          have hoff' : off = lo * sz := by
            rcases hoff with h | ⟨h, _⟩
            · exact h
            · exact absurd (by omega) hm
          subst hoff'
          have hv0 : v0 = .slice (some ⟨g, 0, none⟩) c cap := by
            rw [← hh]
            generalize hp : q.abs fr = p0 at hown ⊢
            cases hown with
            | own p v e sz els us ho hr hsz hL hq => exact (hq q hk.1 hp).symm
          subst hv0
          have hL := hown.ownTag g rfl
          have hpart : RTrow G.sh w sz (news.take (min els2.length n * sz)) (els2.take (min els2.length n)) := by
            have := hrow.part 0 (min els2.length n) (by omega)
            rw [← hsz] at this
            simpa using this
          have hlen : (els2.take (min els2.length n)).length = min els2.length n := by rw [List.length_take]; omega
          obtain ⟨cur, hg, hf, hnew⟩ := hown.setPart (lo := lo) hpart (by rw [hlen]; omega)
          rw [hlen] at hnew
          have hat' := S.atSame (w' := w.setRow g (cur.toList.take (lo * sz) ++ news.take (min els2.length n * sz) ++ cur.toList.drop (lo * sz + (news.take (min els2.length n * sz)).length)).toArray) hgp (by rw [hd0]; simp) hL (fun k hk => setRow_other w g k _ hk)
          obtain ⟨S4, st4, _, _⟩ := S.turn (w' := w.setRow g (cur.toList.take (lo * sz) ++ news.take (min els2.length n * sz) ++ cur.toList.drop (lo * sz + (news.take (min els2.length n * sz)).length)).toArray) hk.1 h19 rfl hL rfl rfl rfl (by simp [World.setRow]) (fun k hk => setRow_other w g k _ hk) (fun v' hv' => by
            have := (hat' v' hv').same hat
            rw [this]
            exact hnew)
          obtain ⟨G5, S5, st5⟩ := S4.putFree (VD.scal (p := .pn fr 0 []) (v := .int .i64 (min els2.length n : Nat)) rfl) rfl h20
          have hsz' : i.size = sz := by rw [hsz, k.sz]
          refine wp_value (hrun (v := goInt ((min els2.length n : Nat) : Int)) ?_) (hK _ _ _ S5 (st4.trans st5))
          rw [hxe, ← hsz']
          rw [← hsz'] at hf
          exact run_copyG hu k hsrc hl (one_of hrow) hg hf
    · cases h14
  · cases h
end Go.Pv

/- Loads. -/
namespace Go.Pv
open Go.RowKit
variable {P : Program} {B fr : Nat} {G : Gh} {σ σ' : St} {act : Act} {w w' : World} {C : Callee} {K : Act → World → Prop} {Q : Exit → Act → World → Prop} {H : Hint}

/-- What is read. -/
structure Read (B fr : Nat) (G : Gh) (vr : Pl → Nat) (w : World) (v : Value) (n : Nat) (ds : List D) : Prop where
  ex : ∃ (A : Addr) (us : List Value), v = .pointer (some A) ∧ us.length = n ∧ ds.length = n ∧ (∀ (j : Nat) u, us[j]? = some u → w.cell? (A.add j) = some u) ∧ (∀ u ∈ us, u.oneCell' = true) ∧
    ∀ (j : Nat) u d, us[j]? = some u → ds[j]? = some d → d.hasOwn = false ∧ ∀ p, VD B fr G vr w p u d
theorem Sim.readBox {q : Pl} {n : Nat} {ds : List D} (S : Sim B fr G σ act w) (hq : q.ok fr) (hb : q.boxed = true) (hfit : q.off + n ≤ (σ.box q).length) (hn : 0 < n)
    (h : (Pv.nameL (fun j => q.at (q.off + j)) 0 (((σ.box q).drop q.off).take n)).run C σ = some (.ok ds, σ')) : σ = σ' ∧ Read B fr G σ.verAt w (.pointer (some ⟨G.hb (q.fs fr).1 (q.fs fr).2, q.off, none⟩)) n ds := by
  have hne : σ.box q ≠ [] := by intro e; have := congrArg List.length e; simp only [List.length_nil] at this; omega
  obtain ⟨_, _, _, uu, T, hg, hsz, h1, hv⟩ := S.boxOk hne
  have hul : uu.toList.length = (σ.box q).length := by simpa using hsz
  have hl : ((uu.toList.drop q.off).take n).length = (((σ.box q).drop q.off).take n).length := by simp only [List.length_take, List.length_drop]; omega
  obtain ⟨rfl, hdl, hr⟩ := Sim.nameL (B := B) (fr := fr) (G := G) (w := w) h hq hb ((uu.toList.drop q.off).take n) hl (fun u hu => h1 u (by simpa using List.mem_of_mem_drop (List.mem_of_mem_take hu))) (fun i u d hu hd => by
    rw [List.getElem?_take] at hu hd
    split at hu
    · rename_i hin
      rw [if_pos hin] at hd
      rw [List.getElem?_drop] at hu hd
      rw [Nat.zero_add]
      exact hv _ u d (by simpa using hu) hd
    · cases hu)
  refine ⟨rfl, ⟨_, _, rfl, by rw [hl]; simp only [List.length_take, List.length_drop]; omega, by rw [hdl]; simp only [List.length_take, List.length_drop]; omega, fun j u hu => ?_, fun u hu => h1 u (by simpa using List.mem_of_mem_drop (List.mem_of_mem_take hu)), hr⟩⟩
  rw [List.getElem?_take] at hu
  split at hu
  · rw [List.getElem?_drop] at hu
    rw [add_mid, cell_of_row w _ _ uu T (0, 0) hg]
    simpa using hu
  · cases hu
theorem Sim.loadC {x : Operand} {p : Ap} {a : D} {n : Nat} {ds : List D} (S : Sim B fr G σ act w) (hva : VD B fr G σ.verAt w p (act.eval x) a) (hn : 0 < n) (h : (Pv.loadC a n).run C σ = some (.ok ds, σ')) :
    σ = σ' ∧ Read B fr G σ.verAt w (act.eval x) n ds := by
  generalize act.eval x = vx at hva
  unfold Pv.loadC at h
  split at h
  · rename_i cs
    obtain ⟨_, σ1, h1, h2⟩ := bind_ok h
    obtain ⟨hc, rfl⟩ := need_ok h1
    obtain ⟨rfl, rfl⟩ := pure_ok h2
    have hc : n ≤ cs.length := of_decide_eq_true hc
    refine ⟨rfl, ?_⟩
    cases hva with
    | t p v x hr =>
      cases hr with
      | pt A cs f ho hcell hR =>
        have hget : ∀ j, j < n → ∃ x, cs[j]? = some x := fun j hj => ⟨cs[j], List.getElem?_eq_getElem _⟩
        refine ⟨A, (List.range n).map f, rfl, by simp, by simp; omega, fun j u hu => ?_, fun u hu => ?_, fun j u d hu hd => ?_⟩
        · rw [List.getElem?_map, Option.map_eq_some_iff] at hu
          obtain ⟨j', hj', rfl⟩ := hu
          have hlt : j < n := by have := (List.getElem?_eq_some_iff.1 hj').1; simpa using this
          rw [List.getElem?_range hlt] at hj'
          cases hj'
          obtain ⟨x, hx⟩ := hget j hlt
          exact hcell j x hx
        · obtain ⟨j, hj, rfl⟩ := List.mem_map.1 hu
          obtain ⟨x, hx⟩ := hget j (by simpa using hj)
          exact (hR j x hx).one
        · rw [List.getElem?_map, Option.map_eq_some_iff] at hu hd
          obtain ⟨j', hj', rfl⟩ := hu
          have hlt : j < n := by have := (List.getElem?_eq_some_iff.1 hj').1; simpa using this
          rw [List.getElem?_range hlt] at hj'
          cases hj'
          obtain ⟨x, hx, rfl⟩ := hd
          rw [List.getElem?_take, if_pos hlt] at hx
          exact ⟨rfl, fun p => .t _ _ _ (hR j x hx)⟩
  · rename_i s o
    obtain ⟨c, σ1, h1, h2⟩ := bind_ok h
    obtain ⟨rfl, rfl⟩ := gB_ok h1
    obtain ⟨_, σ1, h3, h4⟩ := bind_ok h2
    obtain ⟨hc, rfl⟩ := need_ok h3
    cases hva with
    | lp p s o ha => exact S.readBox (q := .bx s o) trivial rfl (of_decide_eq_true hc) hn h4
  · rename_i f s o
    obtain ⟨c, σ1, h1, h2⟩ := bind_ok h
    obtain ⟨rfl, rfl⟩ := ret_ok (C := C) h1
    obtain ⟨_, σ1, h3, h4⟩ := bind_ok h2
    obtain ⟨hc, rfl⟩ := need_ok h3
    cases hva with
    | fp p f s o hf ha => exact S.readBox (q := .fb f s o) hf rfl (of_decide_eq_true hc) hn h4
  · rename_i q k sz i o
    obtain ⟨⟨e, sz', els⟩, σ1, h1, h2⟩ := bind_ok h
    obtain ⟨rfl, rfl, v0, hat, hown⟩ := S.rowAt h1
    dsimp only at hown
    obtain ⟨_, σ1, h3, h4⟩ := bind_ok h2
    obtain ⟨hc, rfl⟩ := need_ok h3
    obtain ⟨rfl, rfl⟩ := pure_ok h4
    simp only [Bool.and_eq_true, beq_iff_eq, decide_eq_true_eq] at hc
    obtain ⟨rfl, hc⟩ := hc
    refine ⟨rfl, ?_⟩
    have hi : i < els.length := by
      rcases Nat.lt_or_ge i els.length with h | h
      · exact h
      · rw [List.getD_eq_getElem?_getD, List.getElem?_eq_none h] at hc; simp only [Option.getD_none, List.length_nil] at hc; omega
    have hgd : els[i]? = some (els.getD i []) := getElem?_of_getD [] hi
    cases hva with
    | ept p q k sz i o g c cap hk hh =>
      generalize hp : q.abs fr = p0 at hown
      cases hown with
      | own p v e sz els us ho hr hsz hL hq =>
        have hv0 := hq q hk.1 hp
        rw [← hp, hh] at hv0
        subst hv0
        have hcell := ho.cells (g := g) rfl
        have hu : ∀ j, j < n → ∃ x u, (els.getD i [])[o + j]? = some x ∧ us[i * sz + (o + j)]? = some u ∧ RT G.sh w u x := fun j hj => by
          have hlt : o + j < (els.getD i []).length := by omega
          obtain ⟨u, hu, hr'⟩ := hr.cell i _ (o + j) _ hgd (List.getElem?_eq_getElem hlt)
          exact ⟨_, u, List.getElem?_eq_getElem hlt, hu, hr'⟩
        refine ⟨⟨g, i * sz + o, none⟩, (us.drop (i * sz + o)).take n, rfl, ?_, ?_, fun j u hj => ?_, fun u hm => one_of hr u (List.mem_of_mem_drop (List.mem_of_mem_take hm)), fun j u d hj hd => ?_⟩
        · obtain ⟨x, u, _, hu', _⟩ := hu (n - 1) (by omega)
          have := (List.getElem?_eq_some_iff.1 hu').1
          simp only [List.length_take, List.length_drop]
          omega
        · simp only [List.length_map, List.length_take, List.length_drop]; omega
        · rw [List.getElem?_take] at hj
          split at hj
          · rw [List.getElem?_drop] at hj
            have := hcell _ u hj
            rw [add_mid] at this ⊢
            rwa [Nat.zero_add] at this
          · cases hj
        · rw [List.getElem?_take] at hj
          split at hj
          · rename_i hlt
            rw [List.getElem?_drop] at hj
            rw [List.getElem?_map, Option.map_eq_some_iff] at hd
            obtain ⟨x, hx, rfl⟩ := hd
            rw [List.getElem?_take, if_pos hlt, List.getElem?_drop] at hx
            obtain ⟨x', u', hx', hu', hr'⟩ := hu j hlt
            rw [hx] at hx'
            cases hx'
            rw [← Nat.add_assoc, hj] at hu'
            cases hu'
            exact ⟨rfl, fun p => .t _ _ _ hr'⟩
          · cases hj
  · cases h

theorem op_load {ty : TypeId} {x : Operand} {o : Oper} (ho : o.op = .load ty x) (S : Sim B fr G σ act w) (h : (pStep P H o).run C σ = some (.ok (), σ')) (hK : On B fr G w σ' K) : o.wp P act w K Q := by
  simp only [pStep, ho] at h
  obtain ⟨_, σ1, h1, h2⟩ := bind_ok h
  obtain ⟨hz, rfl⟩ := need_ok h1
  obtain ⟨i, z, td, k⟩ := zOk_ok hz
  have hpos : 0 < szOf P ty := by rw [k.sz]; exact k.pos
  obtain ⟨a, σ1, h3, h4⟩ := bind_ok h2
  obtain ⟨rfl, p, hva⟩ := S.rd h3
  obtain ⟨ds, σ1, h5, h6⟩ := bind_ok h4
  obtain ⟨rfl, ⟨A, us, hx, hul, hdl, hcell, h1', hr⟩⟩ := S.loadC hva hpos h5
  split at h6
  · rename_i ha
    refine wp_free S (v := .agg us.toArray) (d := .agg ds) (p := .pn fr 0 []) (.agg _ _ _ (by simp [hul, hdl]) (by simpa using h1') fun j u d hu hd => (hr j u d (by simpa using hu) hd).2 _) ?_ h6 ?_ hK
    · show hasOwnL ds = false
      have : ∀ d ∈ ds, d.hasOwn = false := fun d hd => by
        obtain ⟨j, hj⟩ := List.getElem?_of_mem hd
        have hlt : j < us.length := by have := (List.getElem?_eq_some_iff.1 hj).1; omega
        exact (hr j _ d (List.getElem?_eq_getElem hlt) hj).1
      clear hdl h5 h6 hr
      induction ds with
      | nil => rfl
      | cons d ds ih => simp [hasOwnL, this d (List.mem_cons_self ..), ih fun d hd => this d (List.mem_cons_of_mem _ hd)]
    · have hl := run_loadCells_list (P := P) w A us hcell
      rw [hul] at hl
      simp [execOp, ho, Instr.loadAt, hx, Instr.sureAddr, loadVar, aggT_run hz, ha, zOk_size hz, hl]
  · rename_i ha
    split at h6
    · rename_i d
      obtain ⟨u, rfl⟩ : ∃ u, us = [u] := by
        cases us with
        | nil => simp at hul hdl; omega
        | cons u us =>
          cases us with
          | nil => exact ⟨u, rfl⟩
          | cons => simp at hul hdl; omega
      obtain ⟨hno, hvd⟩ := hr 0 u d rfl rfl
      have hc0 := hcell 0 u rfl
      have hA : A.add 0 = A := by simp [Addr.add]
      rw [hA] at hc0
      refine wp_free S (hvd (.pn fr 0 [])) hno h6 ?_ hK
      simp [execOp, ho, Instr.loadAt, hx, Instr.sureAddr, loadVar, aggT_run hz, ha, hc0]
    · cases h6
end Go.Pv

/- Maps. -/
namespace Go.Pv
open Go.RowKit
variable {P : Program} {B fr : Nat} {G : Gh} {σ σ' : St} {act : Act} {w w' : World} {C : Callee} {K : Act → World → Prop} {Q : Exit → Act → World → Prop} {H : Hint}

theorem run_getMap {r : Nat} {es : Array MapEntry} {clock : Nat} (hb : w.heap[r]? = some (.map es clock)) : (getObj r).run P w = .ok (.map es clock) w := by
  simp [getObj, Sem.run, hb]
theorem run_setMap {r : Nat} {es : Array MapEntry} {clock : Nat} (o : Obj) (hb : w.heap[r]? = some (.map es clock)) : (setObj r o).run P w = .ok () { w with heap := w.heap.setIfInBounds r o } := by
  simp [setObj, Sem.run, hb]
theorem isIntMap_ok {t : TypeId} (h : isIntMap P t = true) : ∃ k e i, P.underlying t = some (.map k e) ∧ P.underlying k = some (.int .i64) ∧ P.info? e = some i ∧ i.zero = some (.int .i64 0) := by
  unfold isIntMap at h
  split at h
  · rename_i k e hu
    split at h
    · rename_i hk
      unfold zeroI at h
      split at h
      · rename_i hz
        cases hi : P.info? e with
        | none => rw [hi] at hz; cases hz
        | some i => rw [hi] at hz; exact ⟨k, e, i, hu, hk, hi, hz⟩
      · cases h
    · cases h
  · cases h

abbrev ents (l : List MapEntry) : List (Value × Value) := l.map fun e => (e.key, e.val)
abbrev encKV (kvs : List (Int × Int)) : List (Value × Value) := kvs.map fun (a, b) => (Value.int .i64 a, Value.int .i64 b)
theorem findNow_ok {l : List MapEntry} {kvs : List (Int × Int)} (h : ents l = encKV kvs) (n : Int) (b : Nat) :
    (kvs.lookup n = none ∧ Instr.findNow (.int .i64) (.int .i64 n) l b = some none ∧ ∀ m, kvPut n m kvs = kvs ++ [(n, m)]) ∨
    ∃ i e a, kvs.lookup n = some a ∧ Instr.findNow (.int .i64) (.int .i64 n) l b = some (some (b + i, .int .i64 a)) ∧ l[i]? = some e ∧ e.key = .int .i64 n ∧
      ∀ m, ents (l.modify i fun e => { e with key := .int .i64 n, val := .int .i64 m }) = encKV (kvPut n m kvs) := by
  induction l generalizing kvs b with
  | nil =>
    cases kvs with
    | nil => exact .inl ⟨rfl, rfl, fun _ => rfl⟩
    | cons => cases h
  | cons e l ih =>
    cases kvs with
    | nil => cases h
    | cons ab kvs =>
      obtain ⟨a, v⟩ := ab
      simp only [ents, encKV, List.map_cons, List.cons.injEq, Prod.mk.injEq] at h
      obtain ⟨⟨hk, hv⟩, ht⟩ := h
      by_cases hn : a = n
      · subst hn
        refine .inr ⟨0, e, v, by simp [List.lookup], ?_, rfl, hk, fun m => ?_⟩
        · simp [Instr.findNow, Instr.sameNow, hk, hv]
        · simp only [ents, encKV, List.modify, kvPut, if_pos, List.map_cons]
          simpa using ht
      · have hb : (n == a) = false := by simpa using Ne.symm hn
        have hstep : Instr.findNow (.int .i64) (.int .i64 n) (e :: l) b = Instr.findNow (.int .i64) (.int .i64 n) l (b + 1) := by
          simp [Instr.findNow, Instr.sameNow, hk, hb]
        rcases ih (kvs := kvs) ht (b + 1) with ⟨h1, h2, h3⟩ | ⟨i, e', a', h1, h2, h3, h4, h5⟩
        · exact .inl ⟨by simp only [List.lookup, hb]; exact h1, hstep.trans h2, fun m => by simp only [kvPut, if_neg hn, h3]; rfl⟩
        · refine .inr ⟨i + 1, e', a', by simp only [List.lookup, hb]; exact h1, ?_, h3, h4, fun m => ?_⟩
          · rw [hstep, h2]; simp; omega
          · simp only [kvPut, if_neg hn]
            have := h5 m
            simp only [ents, encKV, List.modify_succ_cons, List.map_cons, hk, hv] at this ⊢
            rw [this]
theorem RM.ents {es : Array MapEntry} {kvs : List (Int × Int)} (h : RM es kvs) : Pv.ents es.toList = encKV kvs := h
theorem run_findKey {k : TypeId} (hk : P.underlying k = some (.int .i64)) {n : Int} {l : List MapEntry} {r : Option (Nat × Value)} (h : Instr.findNow (.int .i64) (.int .i64 n) l 0 = some r) : (Instr.findKey k (.int .i64 n) l).run P w = .ok r w := by
  simp [Instr.findKey, run_underlying hk, h]
theorem run_checkKey {b : Bool} {k : TypeId} {n : Int} (hk : P.underlying k = some (.int .i64)) : (Instr.checkKey b 10000 k (.int .i64 n)).run P w = .ok () w := by
  have : ∀ d, (Instr.checkKey b (d + 1) k (.int .i64 n)).run P w = .ok () w := fun d => by
    simp [Instr.checkKey, run_underlying hk]
  exact this 9999

/-- The map that a name means. -/
theorem VD.mapOf {vr : Pl → Nat} {p : Ap} {v v0 : Value} {q : Pl} {kvs : List (Int × Int)} (h : VD B fr G vr w p v (.mal q (vr q))) (ho : VD B fr G vr w (q.abs fr) v0 (.omap kvs)) :
    ∃ g es clock, v = .map (some g) ∧ v0 = .map (some g) ∧ w.heap[g]? = some (.map es clock) ∧ RM es kvs ∧ B ≤ g ∧ G.L g = some (.own (q.abs fr)) ∧ ∀ q' : Pl, q'.ok fr → q'.abs fr = q.abs fr → G.hv (q.abs fr) (vr q') = .map (some g) := by
  generalize hp : q.abs fr = p0 at ho ⊢
  cases ho with
  | omap p g es clock kvs hg hm hB hL hq =>
    have h1 := hq q h.okm hp
    cases h with
    | mal p q k hk g' hv =>
      rw [hp, h1] at hv
      cases hv
      exact ⟨g, es, clock, rfl, rfl, hg, hm, hB, hL, hq⟩

theorem op_lookup {ty : TypeId} {x ix : Operand} {okk : Bool} {o : Oper} (ho : o.op = .lookup ty x ix okk) (S : Sim B fr G σ act w) (h : (pStep P H o).run C σ = some (.ok (), σ')) (hK : On B fr G w σ' K) : o.wp P act w K Q := by
  simp only [pStep, ho] at h
  obtain ⟨_, σ1, h1, h2⟩ := bind_ok h
  obtain ⟨hz, rfl⟩ := need_ok h1
  obtain ⟨kt, e, i, hu, hk, hi, hzero⟩ := isIntMap_ok hz
  obtain ⟨dx, σ1, h3, h4⟩ := bind_ok h2
  obtain ⟨rfl, p, hvx⟩ := S.rd h3
  obtain ⟨di, σ1, h5, h6⟩ := bind_ok h4
  obtain ⟨rfl, p', hvi⟩ := S.rd h5
  split at h6
  · rename_i q k n
    obtain ⟨kvs, σ1, h7, h8⟩ := bind_ok h6
    obtain ⟨rfl, rfl, v0, hat, hom⟩ := S.mapAt h7
    obtain ⟨g, es, clock, hx, rfl, hg, hm, hB, hL, hq⟩ := hvx.mapOf hom
    have hix := hvi.sc
    have run : ∀ {a : Int} {b : Bool}, ((kvs.lookup n = some a ∧ b = true) ∨ (kvs.lookup n = none ∧ a = 0 ∧ b = false)) → (execOp act.eval o).run P w = .ok (.value (if okk then .tuple #[.int .i64 a, .bool b] else .int .i64 a)) w := by
      intro a b hab
      rcases findNow_ok hm.ents n 0 with ⟨l1, l2, _⟩ | ⟨j, e', a', l1, l2, _⟩
      · rcases hab with ⟨h, _⟩ | ⟨_, rfl, rfl⟩
        · rw [l1] at h; cases h
        · simp [execOp, ho, Instr.lookup, run_underlying hu, hx, hix, run_getMap hg, run_checkKey hk, run_findKey hk l2, zeroValue, typeInfo, hi, hzero]
      · rcases hab with ⟨h, rfl⟩ | ⟨h, _⟩
        · rw [l1] at h
          cases h
          simp [execOp, ho, Instr.lookup, run_underlying hu, hx, hix, run_getMap hg, run_checkKey hk, run_findKey hk l2]
        · rw [l1] at h; cases h
    have fin : ∀ {a : Int} {b : Bool}, ((kvs.lookup n = some a ∧ b = true) ∨ (kvs.lookup n = none ∧ a = 0 ∧ b = false)) → (if okk = true then put H o.dst (.tup [I a, Bo b]) else put H o.dst (I a)).run C σ = some (.ok (), σ') → o.wp P act w K Q := by
      intro a b hab hput
      have hr := run hab
      split at hput
      · rename_i hok
        rw [if_pos hok] at hr
        refine wp_free S (v := .tuple #[.int .i64 a, .bool b]) (p := .pn fr 0 []) (.tup _ _ _ rfl fun j u d hu hd => ?_) rfl hput hr hK
        cases j with
        | zero => cases hu; cases hd; exact VD.scal (v := .int .i64 a) rfl
        | succ j =>
          cases j with
          | zero => cases hu; cases hd; exact VD.scal (v := .bool b) rfl
          | succ j => cases hd
      · rename_i hok
        rw [if_neg hok] at hr
        exact wp_free S (v := .int .i64 a) (p := .pn fr 0 []) (VD.scal (v := .int .i64 a) rfl) rfl hput hr hK
    cases hl : kvs.lookup n with
    | none => unfold kvGet at h8; rw [hl] at h8; exact fin (a := 0) (b := false) (.inr ⟨hl, rfl, rfl⟩) h8
    | some a => unfold kvGet at h8; rw [hl] at h8; exact fin (a := a) (b := true) (.inl ⟨hl, rfl⟩) h8
  · cases h6

theorem op_mapUpdate {ty : TypeId} {x ix y : Operand} {o : Oper} (ho : o.op = .mapUpdate ty x ix y) (S : Sim B fr G σ act w) (h : (pStep P H o).run C σ = some (.ok (), σ')) (hK : On B fr G w σ' K) : o.wp P act w K Q := by
  simp only [pStep, ho] at h
  obtain ⟨_, σ1, h1, h2⟩ := bind_ok h
  obtain ⟨hz, rfl⟩ := need_ok h1
  simp only [Bool.and_eq_true] at hz
  obtain ⟨kt, e, i, hu, hk, hi, hzero⟩ := isIntMap_ok hz.1
  obtain ⟨dx, σ1, h3, h4⟩ := bind_ok h2
  obtain ⟨rfl, p, hvx⟩ := S.rd h3
  obtain ⟨di, σ1, h5, h6⟩ := bind_ok h4
  obtain ⟨rfl, p', hvi⟩ := S.rd h5
  obtain ⟨dy, σ1, h9, h10⟩ := bind_ok h6
  obtain ⟨rfl, p'', hvy⟩ := S.rd h9
  split at h10
  · rename_i q k n m
    obtain ⟨kvs, σ1, h7, h8⟩ := bind_ok h10
    obtain ⟨_, _, d0, hgp, hd0⟩ := mapAt_ok h7
    obtain ⟨rfl, rfl, v0, hat, hom⟩ := S.mapAt h7
    have hqok := hvx.okm
    obtain ⟨g, es, clock, hx, rfl, hg, hm, hB, hL, hq⟩ := hvx.mapOf hom
    have hix := hvi.sc
    have hiy := hvy.sc
    have fin : ∀ {es' : Array MapEntry} {clock' : Nat}, (Instr.mapUpdate ty (act.eval x) (act.eval ix) (act.eval y)).run P w = .ok () { w with heap := w.heap.setIfInBounds g (.map es' clock') } → RM es' (kvPut n m kvs) → o.wp P act w K Q := by
      intro es' clock' hr hm'
      have hwh : ∀ k, k ≠ g → ({ w with heap := w.heap.setIfInBounds g (.map es' clock') } : World).heap[k]? = w.heap[k]? := fun k hk => by
        show (w.heap.setIfInBounds g _)[k]? = _
        rw [Array.getElem?_setIfInBounds_ne (Ne.symm hk)]
      have hgl : g < w.heap.size := (Array.getElem?_eq_some_iff.1 hg).1
      have hat' := S.atSame (w' := { w with heap := w.heap.setIfInBounds g (.map es' clock') }) hgp (by rw [hd0]; simp) hL hwh
      obtain ⟨S4, st4, _, _⟩ := S.turn (w' := { w with heap := w.heap.setIfInBounds g (.map es' clock') }) hqok h8 rfl hL rfl rfl rfl (by simp) hwh (fun v' hv' => by
        have := (hat' v' hv').same hat
        rw [this]
        exact .omap _ g es' clock' _ (by show (w.heap.setIfInBounds g _)[g]? = _; simp [hgl]) hm' hB hL hq)
      exact wp_skip hz.2 (by simp [execOp, ho, hr]) (hK _ _ _ S4 st4)
    rcases findNow_ok hm.ents n 0 with ⟨l1, l2, l3⟩ | ⟨j, e', a', l1, l2, l3, l4, l5⟩
    · refine fin (es' := es.push { key := .int .i64 n, val := .int .i64 m, born := clock }) (clock' := clock + 1) ?_ ?_
      · simp [Instr.mapUpdate, run_underlying hu, hx, hix, hiy, run_getMap hg, run_checkKey hk, run_findKey hk l2, run_setMap _ hg]
      · have hm2 := hm.ents
        show Pv.ents _ = encKV _
        rw [l3]
        simp only [Pv.ents, encKV] at hm2 ⊢
        simp [hm2]
    · refine fin (es' := es.modify j fun e => { e with key := .int .i64 n, val := .int .i64 m }) (clock' := clock) ?_ ?_
      · have hj : es[j]? = some e' := by simpa using l3
        have hstay : (Instr.keyThatStays (((es[j]?).map (·.key)).getD (.int .i64 n)) (.int .i64 n)).run P w = .ok (.int .i64 n) w := by
          simp [hj, l4, Instr.keyThatStays, Instr.sameBits]
        simp only [Nat.zero_add] at l2
        simp [Instr.mapUpdate, run_underlying hu, hx, hix, hiy, run_getMap hg, run_checkKey hk, run_findKey hk l2, run_setMap _ hg, hstay]
      · show Pv.ents _ = encKV _
        rw [Array.toList_modify]
        exact l5 m
  · cases h10
end Go.Pv

/- Structs, arrays and slices written out. -/
namespace Go.Pv
open Go.RowKit
variable {P : Program} {B fr : Nat} {G : Gh} {σ σ' : St} {act : Act} {w w' : World} {C : Callee} {K : Act → World → Prop} {Q : Exit → Act → World → Prop} {H : Hint}

theorem foldl_seg (off : Nat) (l : List Value) (k : Nat) (c : Array Value) (h : off + k + l.length ≤ c.size) :
    ((l.zipIdx k).foldl (fun cs (p : Value × Nat) => cs.setIfInBounds (off + p.2) p.1) c).toList = c.toList.take (off + k) ++ l ++ c.toList.drop (off + k + l.length) := by
  induction l generalizing k c with
  | nil => simp
  | cons v l ih =>
    simp only [List.length_cons] at h
    simp only [List.zipIdx_cons, List.foldl_cons]
    rw [ih (k + 1) _ (by simp; omega), Array.toList_setIfInBounds]
    have := list_seg_step c.toList (off + k) v l (by simp; omega)
    simpa [Nat.add_assoc] using this
theorem fill_seg (off : Nat) (vs c : Array Value) (h : off + vs.size ≤ c.size) :
    vs.zipIdx.foldl (fun cs (p : Value × Nat) => cs.setIfInBounds (off + p.2) p.1) c = (c.toList.take off ++ vs.toList ++ c.toList.drop (off + vs.toList.length)).toArray := by
  apply Array.ext'
  rw [← Array.foldl_toList, Array.toList_zipIdx]
  have := foldl_seg off vs.toList 0 c (by simpa using h)
  simpa using this

theorem Sim.partC {k : Nat} {us : List Value} {ds ds' : List D} (S : Sim B fr G σ act w) (hc : Cells B fr G σ.verAt w k us ds) (h : (Pv.partC ds).run C σ = some (.ok ds', σ')) :
    ∃ G', GR B fr k ds.length G σ G' σ' act w ∧ Cells B fr G' σ'.verAt w k us ds' := by
  induction ds generalizing k us ds' G σ with
  | nil =>
    obtain ⟨rfl, rfl⟩ := ret_ok (C := C) h
    exact ⟨G, .refl k _ S, hc⟩
  | cons d ds ih =>
    obtain ⟨hlen, h1, hall⟩ := hc
    cases us with
    | nil => cases hlen
    | cons u us =>
      simp only [Pv.partC] at h
      obtain ⟨x, σ1, h2, h3⟩ := bind_ok h
      obtain ⟨xs, σ2, h4, h5⟩ := bind_ok h3
      obtain ⟨rfl, rfl⟩ := pure_ok h5
      have hv0 := hall 0 u d rfl rfl
      obtain ⟨G1, a1, b1⟩ : ∃ G1, GS B fr k G σ G1 σ1 act w ∧ VD B fr G1 σ1.verAt w (.pn fr k []) u x := by
        split at h2
        · obtain ⟨y, σ3, h6, h7⟩ := bind_ok h2
          obtain ⟨rfl, rfl⟩ := pure_ok h7
          obtain ⟨G1, a, b⟩ := S.share hv0 h6
          exact ⟨G1, a, .t _ _ _ b⟩
        · cases h2
        · cases h2
        · cases h2
        · cases h2
        · obtain ⟨rfl, rfl⟩ := ret_ok (C := C) h2
          exact ⟨G, .refl _ S, hv0⟩
      have hc' : Cells B fr G1 σ1.verAt w (k + 1) us ds := ⟨by simpa using hlen, fun u hu => h1 u (List.mem_cons_of_mem _ hu), fun j u' d' hu hd => by
        have := hall (j + 1) u' d' hu hd
        rw [show k + (j + 1) = k + 1 + j from by omega] at this
        exact a1.other (by omega) this⟩
      obtain ⟨G2, a2, b2⟩ := ih a1.sim hc' h4
      have hx := a2.other (j := k) (by omega) b1
      refine ⟨G2, (a1.toGR (k := k) (n := ds.length + 1) (by omega) (by omega)).trans (a2.widen (by omega) (by omega)), ⟨by simp [b2.1], h1, fun j u' d' hu hd => ?_⟩⟩
      cases j with
      | zero => cases hu; cases hd; exact hx
      | succ j =>
        have := b2.2.2 j u' d' hu hd
        rwa [show k + 1 + j = k + (j + 1) from by omega] at this

/-- Cells on their way take their places among others. -/
theorem Sim.place {k m off : Nat} {us vs : List Value} {cs ds : List D} (S : Sim B fr G σ act w) (hc : Cells B fr G σ.verAt w k us cs) (hd : Cells B fr G σ.verAt w m vs ds) (hm : k + cs.length ≤ m) (hfit : off + ds.length ≤ cs.length) :
    ∃ G', Sim B fr G' σ act w ∧ Step fr G w G' w ∧ Cells B fr G' σ.verAt w k (us.take off ++ vs ++ us.drop (off + vs.length)) (splice cs off ds) := by
  let ρ : Ap → Ap := fun | .pn f j r => if f = fr ∧ m ≤ j ∧ j < m + ds.length then .pn f (k + off + (j - m)) r else .pn f j r | p => p
  obtain ⟨a, b, c⟩ := S.retag (ρ := ρ) (KP := PendR fr m ds.length) (fun p hp => by obtain ⟨f, j, path, rfl, h⟩ := hp; exact if_neg h) (fun p hp => by cases p <;> first | rfl | cases hp)
    (fun p f hf hlt => by cases p <;> first | rfl | (simp only [Ap.frame, Option.some.injEq] at hf; exact if_neg (by omega)))
  have hl := hd.1
  have hl2 := hc.1
  refine ⟨_, a, c, ?_, fun u hu => ?_, fun j u d hu hd' => ?_⟩
  · simp only [splice, List.length_append, List.length_take, List.length_drop]; omega
  · rcases List.mem_append.1 hu with hu | hu
    · rcases List.mem_append.1 hu with hu | hu
      · exact hc.2.1 u (List.mem_of_mem_take hu)
      · exact hd.2.1 u hu
    · exact hc.2.1 u (List.mem_of_mem_drop hu)
  · rw [getElem?_splice _ _ _ _ (by omega)] at hu
    rw [splice, getElem?_splice _ _ _ _ hfit] at hd'
    have old : us[j]? = some u → cs[j]? = some d → VD B fr (G.retag ρ) σ.verAt w (.pn fr (k + j) []) u d := fun h1 h2 => by
      have hj := (List.getElem?_eq_some_iff.1 h2).1
      exact (hc.2.2 j u d h1 h2).keep b (PendR.closed _ _ _) fun _ => ⟨fr, k + j, [], rfl, fun e => by omega⟩
    by_cases h1 : j < off
    · rw [if_pos h1] at hu hd'
      exact old hu hd'
    · rw [if_neg h1] at hu hd'
      by_cases h2 : j < off + ds.length
      · rw [if_pos (by omega)] at hu
        rw [if_pos h2] at hd'
        have := (hd.2.2 _ u d hu hd').repn (ρ := ρ) (.pn fr (k + off + (m + (j - off) - m)) []) rfl (fun r => if_pos ⟨rfl, by omega, by omega⟩)
        rwa [show k + off + (m + (j - off) - m) = k + j from by omega] at this
      · rw [if_neg (by omega)] at hu
        rw [if_neg h2] at hd'
        exact old hu hd'

theorem Sim.fillD {place : Nat → Option (Nat × Nat)} {us : Array Value} {cs cs' : List D} {parts : List (Nat × Operand)} (S : Sim B fr G σ act w) (hc : Cells B fr G σ.verAt w 1 us.toList cs) (h : (Pv.fillD H place cs parts).run C σ = some (.ok cs', σ')) :
    ∃ G' us', Sim B fr G' σ' act w ∧ Step fr G w G' w ∧ Cells B fr G' σ'.verAt w 1 us'.toList cs' ∧ Instr.fill place us (parts.map fun p => (p.1, act.eval p.2)) = some us' := by
  induction parts generalizing cs us G σ with
  | nil =>
    obtain ⟨rfl, rfl⟩ := ret_ok (C := C) h
    exact ⟨G, us, S, .refl _ _ _, hc, rfl⟩
  | cons p parts ih =>
    obtain ⟨i, x⟩ := p
    simp only [Pv.fillD] at h
    obtain ⟨⟨off, n⟩, σ1, h1, h2⟩ := bind_ok h
    obtain ⟨hp, rfl⟩ := ofOpt_ok h1
    obtain ⟨d, σ1, h3, h4⟩ := bind_ok h2
    obtain ⟨G1, a1, hv⟩ := S.takeGS 0 h3
    obtain ⟨_, σ2, h5, h6⟩ := bind_ok h4
    obtain ⟨hl, rfl⟩ := need_ok h5
    obtain ⟨ds, σ2, h7, h8⟩ := bind_ok h6
    obtain ⟨G2, a2, hcl⟩ := a1.sim.cells (k := 1 + cs.length) hv hl (by omega)
    obtain ⟨G3, a3, hcl3⟩ := a2.sim.partC hcl h7
    obtain ⟨_, σ3, h9, h10⟩ := bind_ok h8
    obtain ⟨hn, rfl⟩ := need_ok h9
    simp only [Bool.and_eq_true, beq_iff_eq, decide_eq_true_eq] at hn
    have hc1 := a1.keep.cells (Pend.closed _ _) hc fun j _ => ⟨fr, 1 + j, [], rfl, fun e => by omega⟩
    have hc2 := a2.keep.cells (Pend.closed _ _) hc1 fun j _ => ⟨fr, 1 + j, [], rfl, fun e => by omega⟩
    have hc3 := a3.keep.cells (PendR.closed _ _ _) hc2 fun j hj => ⟨fr, 1 + j, [], rfl, fun e => by omega⟩
    obtain ⟨G4, S4, st4, hc4⟩ := a3.sim.place (off := off) hc3 hcl3 (Nat.le_refl _) (by omega)
    obtain ⟨G5, us', S5, st5, hc5, hf⟩ := ih (us := (us.toList.take off ++ (act.eval x).cells.toList ++ us.toList.drop (off + (act.eval x).cells.toList.length)).toArray) S4 (by simpa using hc4) h10
    refine ⟨G5, us', S5, ((((a1.step.trans a2.step).trans a3.step).trans st4).trans st5), hc5, ?_⟩
    have e1 : (act.eval x).cells.size = n := by have := hcl3.1; simp only [Array.length_toList] at this; omega
    have e2 : us.size = cs.length := by have := hc.1; simpa using this
    simp only [List.map_cons, Instr.fill, hp]
    rw [if_neg (by simp only [Bool.or_eq_true, decide_eq_true_eq, ne_eq]; omega)]
    have := fill_seg off (act.eval x).cells us (by omega)
    rw [← hf, ← this]
end Go.Pv

/- Structs, arrays and slices written out: the operations. -/
namespace Go.Pv
open Go.RowKit
variable {P : Program} {B fr : Nat} {G : Gh} {σ σ' : St} {act : Act} {w w' : World} {C : Callee} {K : Act → World → Prop} {Q : Exit → Act → World → Prop} {H : Hint}

theorem fill_mono {p p' : Nat → Option (Nat × Nat)} (h : ∀ i r, p i = some r → p' i = some r) {us us' : Array Value} {l : List (Nat × Value)} (hf : Instr.fill p us l = some us') : Instr.fill p' us l = some us' := by
  induction l generalizing us with
  | nil => exact hf
  | cons a l ih =>
    obtain ⟨i, v⟩ := a
    simp only [Instr.fill] at hf ⊢
    cases hp : p i with
    | none => rw [hp] at hf; cases hf
    | some r =>
      rw [hp] at hf
      rw [h i r hp]
      obtain ⟨off, n⟩ := r
      simp only at hf ⊢
      split at hf
      · cases hf
      · rename_i hc
        rw [if_neg hc]
        exact ih hf
theorem run_mapM_list {α β : Type} (g : α → Sem β) (r : α → β) (l : List α) (h : ∀ a ∈ l, (g a).run P w = .ok (r a) w) : (l.mapM g).run P w = .ok (l.map r) w := by
  induction l with
  | nil => simp
  | cons a l ih => simp [List.mapM_cons, h a (List.mem_cons_self ..), ih fun b hb => h b (List.mem_cons_of_mem _ hb)]
theorem run_mapM {α β : Type} (g : α → Sem β) (r : α → β) (l : Array α) (h : ∀ a ∈ l, (g a).run P w = .ok (r a) w) : (l.mapM g).run P w = .ok (l.map r) w := by
  have := run_mapM_list (P := P) (w := w) g r l.toList (fun a ha => h a (by simpa using ha))
  rw [Array.mapM_eq_mapM_toList]
  simp [this]
  exact Array.ext' (by simp)

theorem Sim.gather {k : Nat} {us : Array Value} {cs : List D} (S : Sim B fr G σ act w) (hc : Cells B fr G σ.verAt w (k + 1) us.toList cs) :
    ∃ G', Sim B fr G' σ act w ∧ Step fr G w G' w ∧ VD B fr G' σ.verAt w (.pn fr 0 []) (.agg us) (.agg cs) := by
  let ρ : Ap → Ap := fun | .pn f j r => if f = fr ∧ k + 1 ≤ j then .pn f 0 ((j - (k + 1)) :: r) else .pn f j r | p => p
  obtain ⟨a, b, c⟩ := S.retag (ρ := ρ) (KP := fun _ => False) (fun p hp => hp.elim) (fun p hp => by cases p <;> first | rfl | cases hp)
    (fun p f hf hlt => by cases p <;> first | rfl | (simp only [Ap.frame, Option.some.injEq] at hf; exact if_neg (by omega)))
  refine ⟨_, a, c, .agg _ _ _ (by simpa using hc.1) (fun u hu => hc.2.1 u (by simpa using hu)) fun j u d hu hd => ?_⟩
  refine (hc.2.2 j u d (by simpa using hu) hd).repn (ρ := ρ) _ rfl fun r => ?_
  show (if _ then _ else _) = _
  rw [if_pos ⟨rfl, by omega⟩]
  simp [Ap.sub, Ap.app]

theorem zero_cells {vr : Pl → Nat} {k : Nat} {t : TypeId} {i : TypeInfo} {z : Value} {d : TypeDesc} (kn : Known P t i z d) : Cells B fr G vr w k z.cells.toList ((zeroOf P t).map fun v => D.t (.sc v)) := by
  refine ⟨by rw [kn.zof]; simp, fun u hu => kn.zone u (by simpa using hu), fun j u d hu hd => ?_⟩
  rw [kn.zof, List.getElem?_map, hu] at hd
  cases hd
  exact VD.scal (kn.zone u (by rw [Array.getElem?_toList] at hu; exact Array.mem_of_getElem? hu))

theorem op_build {ty : TypeId} {parts : Array (Nat × Operand)} {o : Oper} (ho : o.op = .build ty parts) (S : Sim B fr G σ act w) (h : (pStep P H o).run C σ = some (.ok (), σ')) (hK : On B fr G w σ' K) : o.wp P act w K Q := by
  simp only [pStep, ho] at h
  obtain ⟨_, σ1, h1, h2⟩ := bind_ok h
  obtain ⟨hz, rfl⟩ := need_ok h1
  simp only [Bool.and_eq_true] at hz
  obtain ⟨hz, hb⟩ := hz
  obtain ⟨i, z, td, k⟩ := zOk_ok hz
  obtain ⟨cs, σ1, h3, h4⟩ := bind_ok h2
  obtain ⟨G1, us', S1, st1, hc1, hf⟩ := S.fillD (zero_cells k) h3
  obtain ⟨G2, S2, st2, hv⟩ := S1.gather (k := 0) hc1
  refine wp_put S2 hv h4 ?_ (hK.after (st1.trans st2))
  have hparts : (parts.map fun p => (p.1, act.eval p.2)).toList = parts.toList.map fun p => (p.1, act.eval p.2) := by simp
  unfold buildOk at hb
  split at hb
  · rename_i fs hu
    have hm := run_mapM (P := P) (w := w) (fun f : Field => (do pure (f.offset, ← sizeOf f.type) : Sem (Nat × Nat))) (fun f => (f.offset, szOf P f.type)) fs (fun f hf => by
      have := (Array.all_eq_true_iff_forall_mem.1 hb) f hf
      obtain ⟨i, hi⟩ := Option.isSome_iff_exists.1 this
      simp [sizeOf, typeInfo, hi, szOf])
    have hf' : Instr.fill (fun j => (fs.map fun f : Field => (f.offset, szOf P f.type))[j]?) z.cells (parts.toList.map fun p => (p.1, act.eval p.2)) = some us' := by
      refine fill_mono (fun j r hr => ?_) hf
      have harr : arrOf P ty = none := by simp [arrOf, hu]
      simp only [harr] at hr
      cases ho1 : offOf P ty j with
      | none => simp [ho1] at hr
      | some off =>
        cases hs1 : fszOf P ty j with
        | none => simp [ho1, hs1] at hr
        | some nm =>
          obtain ⟨n, ag⟩ := nm
          obtain ⟨fs1, fl1, hu1, hf1, e1⟩ := offOf_ok ho1
          obtain ⟨fs2, fl2, hu2, hf2, e2, _⟩ := fszOf_ok hs1
          rw [hu] at hu1 hu2
          cases hu1
          cases hu2
          rw [hf1] at hf2
          cases hf2
          simp [ho1, hs1] at hr
          simp [hf1, e1, e2, hr]
    have hrun : (Instr.build ty (parts.map fun p => (p.1, act.eval p.2))).run P w = .ok (.agg us') w := by
      unfold Instr.build
      simp only [Sem.run_bind, show (zeroValue ty).run P w = .ok z w from by simp [zeroValue, typeInfo, k.info, k.zero], Result.andThen_ok, run_underlying hu, hm, hparts, hf', Sem.run_pure]
    simp [execOp, ho, hrun]
  · rename_i n e hu
    have hf' : Instr.fill (fun j => some (j * szOf P e, szOf P e)) z.cells (parts.toList.map fun p => (p.1, act.eval p.2)) = some us' := by
      refine fill_mono (fun j r hr => ?_) hf
      have harr : arrOf P ty = some (n, e) := by simp [arrOf, hu, hb]
      simpa only [harr] using hr
    simp [execOp, ho, Instr.build, zeroValue, typeInfo, k.info, k.zero, run_underlying hu, zOk_size hb, hf']
  · cases hb

theorem RTrow.set {ok : Nat → Prop} {sz i : Nat} {us vs : List Value} {els : List (List T)} {xs : List T} (h : RTrow ok w sz us els) (hi : i < els.length) (hvs : vs.length = sz) (hxs : xs.length = sz)
    (hr : ∀ (j : Nat) u x, vs[j]? = some u → xs[j]? = some x → RT ok w u x) : RTrow ok w sz (us.take (i * sz) ++ vs ++ us.drop (i * sz + vs.length)) (els.set i xs) := by
  have hrow : (i + 1) * sz ≤ els.length * sz := Nat.mul_le_mul_right _ hi
  rw [Nat.add_mul] at hrow
  have hl := h.len
  refine ⟨by simp only [List.length_append, List.length_take, List.length_drop, List.length_set]; omega, fun e he => ?_, fun a e j x ha hj => ?_⟩
  · rcases List.mem_or_eq_of_mem_set he with he | rfl
    · exact h.each e he
    · exact hxs
  · rw [getElem?_splice _ _ _ _ (by omega)]
    rw [List.getElem?_set] at ha
    split at ha
    · rename_i hii
      subst hii
      cases ha
      have hlt : j < vs.length := by have := (List.getElem?_eq_some_iff.1 hj).1; omega
      rw [if_neg (by omega), if_pos (by omega), show i * sz + j - i * sz = j from by omega]
      exact ⟨vs[j], List.getElem?_eq_getElem hlt, hr _ _ _ (List.getElem?_eq_getElem hlt) hj⟩
    · rename_i hii
      obtain ⟨u, hu, hr'⟩ := h.cell a e j x ha hj
      have hj2 : j < sz := by rw [← h.each e (List.mem_of_getElem? ha)]; exact (List.getElem?_eq_some_iff.1 hj).1
      refine ⟨u, ?_, hr'⟩
      rcases Nat.lt_or_ge a i with hlt | hge
      · have : (a + 1) * sz ≤ i * sz := Nat.mul_le_mul_right _ hlt
        rw [Nat.add_mul] at this
        rw [if_pos (by omega)]
        exact hu
      · have : (i + 1) * sz ≤ a * sz := Nat.mul_le_mul_right _ (by omega)
        rw [Nat.add_mul] at this
        rw [if_neg (by omega), if_neg (by omega)]
        exact hu

theorem Sim.fillE {sz : Nat} {us : Array Value} {els els' : List (List T)} {parts : List (Nat × Operand)} (S : Sim B fr G σ act w) (hr : RTrow G.sh w sz us.toList els) (h : (Pv.fillE H sz els parts).run C σ = some (.ok els', σ')) :
    ∃ G' us', Sim B fr G' σ' act w ∧ Step fr G w G' w ∧ RTrow G'.sh w sz us'.toList els' ∧ els'.length = els.length ∧ Instr.fill (fun i => some (i * sz, sz)) us (parts.map fun p => (p.1, act.eval p.2)) = some us' := by
  induction parts generalizing els us G σ with
  | nil =>
    obtain ⟨rfl, rfl⟩ := ret_ok (C := C) h
    exact ⟨G, us, S, .refl _ _ _, hr, rfl, rfl⟩
  | cons p parts ih =>
    obtain ⟨i, x⟩ := p
    simp only [Pv.fillE] at h
    obtain ⟨d, σ1, h3, h4⟩ := bind_ok h
    obtain ⟨G1, a1, hv⟩ := S.takeGS 0 h3
    obtain ⟨_, σ2, h5, h6⟩ := bind_ok h4
    obtain ⟨hl, rfl⟩ := need_ok h5
    obtain ⟨xs, σ2, h7, h8⟩ := bind_ok h6
    obtain ⟨G2, a2, hcl⟩ := a1.sim.cells (k := 1) hv hl (by omega)
    obtain ⟨G3, a3, hxl, hxr⟩ := a2.sim.shareL hcl h7
    obtain ⟨_, σ3, h9, h10⟩ := bind_ok h8
    obtain ⟨hn, rfl⟩ := need_ok h9
    simp only [Bool.and_eq_true, beq_iff_eq, decide_eq_true_eq] at hn
    have hr3 := a3.keep.RTrow (a2.keep.RTrow (a1.keep.RTrow hr))
    have e1 : (act.eval x).cells.size = sz := by simp only [Array.length_toList] at hxl; omega
    have hrow : (i + 1) * sz ≤ els.length * sz := Nat.mul_le_mul_right _ hn.2
    rw [Nat.add_mul] at hrow
    have e2 : us.size = els.length * sz := by have := hr.len; simpa using this
    have hnew := hr3.set hn.2 (vs := (act.eval x).cells.toList) (by simpa using e1) hn.1 hxr
    obtain ⟨G5, us', S5, st5, hr5, hle, hf⟩ := ih (us := (us.toList.take (i * sz) ++ (act.eval x).cells.toList ++ us.toList.drop (i * sz + (act.eval x).cells.toList.length)).toArray) a3.sim (by simpa using hnew) h10
    refine ⟨G5, us', S5, (((a1.step.trans a2.step).trans a3.step).trans st5), hr5, by simpa using hle, ?_⟩
    simp only [List.map_cons, Instr.fill]
    rw [if_neg (by simp only [Bool.or_eq_true, decide_eq_true_eq, ne_eq]; omega)]
    have := fill_seg (i * sz) (act.eval x).cells us (by omega)
    rw [← hf, ← this]

theorem op_buildSlice {ty : TypeId} {len : Nat} {parts : Array (Nat × Operand)} {o : Oper} (ho : o.op = .buildSlice ty len parts) (S : Sim B fr G σ act w) (h : (pStep P H o).run C σ = some (.ok (), σ')) (hK : On B fr G w σ' K) : o.wp P act w K Q := by
  simp only [pStep, ho] at h
  obtain ⟨e, σ1, h1, h2⟩ := bind_ok h
  obtain ⟨he, rfl⟩ := ofOpt_ok h1
  obtain ⟨hu, hz⟩ := elOf_ok he
  obtain ⟨i, z, td, k⟩ := zOk_ok hz
  obtain ⟨_, σ1, h3, h4⟩ := bind_ok h2
  obtain ⟨hlen, rfl⟩ := need_ok h3
  have hlen : len * szOf P e ≤ 2 ^ 24 := of_decide_eq_true hlen
  obtain ⟨els, σ1, h5, h6⟩ := bind_ok h4
  have hrow0 : RTrow G.sh w (szOf P e) (madeCells z.cells (len * i.size)).toList _ := zeros_row k len
  obtain ⟨G1, us', S1, st1, hr1, hle, hf⟩ := S.fillE hrow0 h5
  simp only [List.length_replicate] at hle
  obtain ⟨a, b, c⟩ := S1.grown (i := 0) (b := some w.heap.size) (World.grownBy_alloc w (.cells us' e) none) (fun g hg => by cases hg) (fun g hg => by cases hg; exact .inr ⟨rfl, by simp⟩)
  have hsz : us'.size = len * i.size := by have := hr1.len; rw [hle, k.sz] at this; simpa using this
  have hm : len ≤ maxLen := by
    have : len ≤ len * szOf P e := Nat.le_mul_of_pos_right _ (by rw [k.sz]; exact k.pos)
    simp only [maxLen] at *
    omega
  have hown := World.ownsRow_lit (base := B) (e := e) (size := i.size) w us' len S.base hm hsz
  obtain ⟨G2, S2, st2⟩ := a.put (i := 0) (v := .slice (some ⟨w.heap.size, 0, none⟩) len len) (d := .own e (szOf P e) (canonR (kinds P 8 e) els)) (VD.canon (.own _ _ e _ _ us'.toList (by rw [hle, k.sz]; exact hown) (c.RTrow hr1) (by rw [k.sz]; exact k.pos) (fun g hg => by
    simp only [Value.ownBlock, Option.some.injEq] at hg
    subst hg
    exact mine_self) (fun q _ e => by cases q <;> cases e)) _) h6
  have hfill : Instr.fill (fun i => some (i * szOf P e, szOf P e)) ((Array.range (len * szOf P e)).map (z.cells[· % z.cells.size]!)) (parts.toList.map fun p => (p.1, act.eval p.2)) = some us' := by
    rw [k.sz] at hf ⊢
    exact hf
  unfold Oper.wp
  have hrun : (execOp act.eval o).run P w = .ok (.value (.slice (some ⟨w.heap.size, 0, none⟩) len len)) (w.alloc (.cells us' e)) := by
    by_cases h0 : len * szOf P e = 0
    · have hl0 : len = 0 := by
        rcases Nat.mul_eq_zero.1 h0 with h | h
        · exact h
        · have := k.pos; rw [k.sz] at h; omega
      subst hl0
      have hfill' : Instr.fill (fun i => some (i * szOf P e, szOf P e)) #[] (parts.toList.map fun p => (p.1, act.eval p.2)) = some us' := by
        have e0 : (Array.range (0 * szOf P e)).map (z.cells[· % z.cells.size]!) = #[] := by simp
        rw [← e0]
        exact hfill
      simp [execOp, ho, Instr.buildSlice, run_underlying hu, zOk_size hz, hfill', newRow, show Array.range 0 = #[] from rfl]
    · have hng : ¬ (len * szOf P e > 2 ^ 24) := by omega
      simp only [execOp, ho, Instr.buildSlice, Sem.run_bind, run_underlying hu, zOk_size hz, Result.andThen_ok, hng, if_false, h0]
      simp [zeroValue, typeInfo, k.info, k.zero, hfill, newRow]
  rw [hrun]
  exact hK _ _ _ S2 ((st1.trans b).trans st2)
end Go.Pv

/- Behind a statement: names of places fall away. -/
namespace Go.Pv
open Go.RowKit
variable {P : Program} {B fr : Nat} {G : Gh} {σ σ' : St} {act : Act} {w w' : World} {C : Callee} {K : Act → World → Prop} {Q : Exit → Act → World → Prop} {H : Hint}

/-- The place that an absolute place is, for a frame. -/
def plOf (fr : Nat) : Ap → Pl
  | .tm _ t _ => .tm t
  | .pn _ t _ => .tm t
  | .bc f s o => if f = fr then .bx s o else .fb f s o
theorem plOf_abs {q : Pl} (h : q.ok fr) : plOf fr (q.abs fr) = q := by
  cases q with
  | tm t => rfl
  | bx s o => simp [Pl.abs, plOf]
  | fb f s o =>
    have : f ≠ fr := Nat.ne_of_lt h
    simp [Pl.abs, plOf, this]
/-- Versions start anew. -/
def Gh.anew (G : Gh) (fr : Nat) (vr : Pl → Nat) : Gh := { G with hv := fun p _ => G.hv p (vr (plOf fr p)) }
theorem bare_scrub {d : D} (h : d.bare = true) : scrub d = d := by cases d <;> first | rfl | cases h
theorem ptr_bare {d : D} (h : d.ptr = true) : d.bare = true := by cases d <;> first | rfl | cases h
theorem getElem?_scrubL (ds : List D) (i : Nat) : (scrubL ds)[i]? = (ds[i]?).map scrub := by
  induction ds generalizing i with
  | nil => rfl
  | cons d ds ih => cases i with
    | zero => rfl
    | succ i => exact ih i
theorem length_scrubL (ds : List D) : (scrubL ds).length = ds.length := by induction ds with
  | nil => rfl
  | cons d ds ih => simp [scrubL, ih]
theorem VD.rebase {vr vr0 : Pl → Nat} {p : Ap} {v : Value} {d : D} (h : VD B fr G vr w p v d) : VD B fr (G.anew fr vr) vr0 w p v (scrub d) := by
  induction h with
  | t p v x h => exact .t _ v x h
  | agg p us ds hs h1 h ih =>
    refine .agg _ us _ (by rw [length_scrubL]; exact hs) h1 fun j u d hu hd => ?_
    rw [getElem?_scrubL, Option.map_eq_some_iff] at hd
    obtain ⟨d', hd', rfl⟩ := hd
    exact ih j u d' hu hd'
  | tup p us ds hs h ih =>
    refine .tup _ us _ (by rw [length_scrubL]; exact hs) fun j u d hu hd => ?_
    rw [getElem?_scrubL, Option.map_eq_some_iff] at hd
    obtain ⟨d', hd', rfl⟩ := hd
    exact ih j u d' hu hd'
  | own p v e sz els us ho hr hsz hL hq =>
    exact .own _ v e sz els us ho hr hsz hL fun q hok e => by
      show G.hv p (vr (plOf fr p)) = v
      rw [← e, plOf_abs hok, e]
      exact hq q hok e
  | omap p g es clock kvs hg hm hB hL hq =>
    exact .omap _ g es clock kvs hg hm hB hL fun q hok e => by
      show G.hv p (vr (plOf fr p)) = _
      rw [← e, plOf_abs hok, e]
      exact hq q hok e
  | alsN p q k sz lo hk hv => exact .dead _ _
  | als p q k sz lo n g c cap cap' hk hv hn hc o ho => exact .dead _ _
  | mal p q k hk g hv => exact .dead _ _
  | ept p q k sz i off g c cap hk hv => exact .dead _ _
  | lp p s o ha => exact .lp (G := G.anew fr vr) _ s o ha
  | fp p f s o hf ha => exact .fp (G := G.anew fr vr) _ f s o hf ha
  | clo p f us ds hs hno h ih =>
    exact .clo _ f us ds hs hno fun j u d hu hd => by
      have := ih j u d hu hd
      rwa [bare_scrub (ptr_bare (List.all_eq_true.1 hno d (List.mem_of_getElem? hd)))] at this
  | dead p v => exact .dead _ v
theorem BoxOk.rebase {vr vr0 : Pl → Nat} {f s : Nat} {c : List D} (h : BoxOk B fr G vr w f s c) : BoxOk B fr (G.anew fr vr) vr0 w f s c := by
  obtain ⟨a, b, hb, us, T, hg, hs, h1, hv⟩ := h
  refine ⟨a, b, hb, us, T, hg, hs, h1, fun o u d hu hd => ?_⟩
  have := (hv o u d hu hd).rebase (vr0 := vr0)
  rwa [bare_scrub (hb d (List.mem_of_getElem? hd))] at this
theorem Sim.over (S : Sim B fr G σ act w) : Sim B fr (G.anew fr σ.verAt) σ.over act w where
  len := by simp only [St.over, length_scrubL]; exact S.len
  tms := fun t d hd => by
    simp only [St.over, getElem?_scrubL, Option.map_eq_some_iff] at hd
    obtain ⟨d', hd', rfl⟩ := hd
    exact (S.tms t d' hd').rebase
  bxs := fun s c hc hne => (S.bxs s c hc hne).rebase
  bxn := S.bxn
  frs := fun f b hb s c hc hne => (S.frs f b hb s c hc hne).rebase
  frl := S.frl
  alf := S.alf
  alt := S.alt
  old := S.old
  base := S.base
  dfs := S.dfs
theorem Step.anew (vr : Pl → Nat) : Step fr G w (G.anew fr vr) w := ⟨rfl, rfl, rfl, Nat.le_refl _, fun _ _ h => ⟨h, rfl⟩, fun _ h => ⟨h, rfl⟩, fun _ _ _ h _ _ => ⟨h, rfl⟩, fun _ _ _ h => ⟨h, rfl⟩⟩

/-- Nothing more is told of a slot. -/
theorem Sim.kill {tm' : List D} (S : Sim B fr G σ act w) (hl : tm'.length = σ.tm.length) (h : ∀ t d, tm'[t]? = some d → σ.tm[t]? = some d ∨ VD B fr G σ.verAt w (.tm fr t []) (act.tmps.getD t undef) d) : Sim B fr G { σ with tm := tm' } act w :=
  S.upd (σ' := { σ with tm := tm' }) (KP := fun _ => True) (KB := fun _ _ => True) (.refl _ _ _ _ _ _) closed_true (by rw [hl]; exact S.len) (fun t d hd => (h t d hd).imp (fun h => ⟨h, rfl, fun _ => trivial⟩) id) (fun s c hc hne => .inl ⟨hc, trivial, fun _ _ _ _ => trivial⟩) S.bxn
    (fun f b hb s c hc hne => .inl ⟨⟨b, hb, hc⟩, trivial, fun _ _ _ _ => trivial⟩) S.frl S.alf S.alt S.old S.dfs
end Go.Pv

/- Nil slices, told anew behind a statement. -/
namespace Go.Pv
open Go.RowKit
variable {P : Program} {B fr : Nat} {G : Gh} {σ σ' : St} {act : Act} {w w' : World} {H : Hint}

open Classical in
/-- At these places stands nothing but nil. -/
noncomputable def Gh.nilAt (G : Gh) (S : Ap → Prop) : Gh := { G with hv := fun p k => if S p then .slice none 0 0 else G.hv p k }
theorem nilAt_no {S : Ap → Prop} {p : Ap} {k : Nat} (h : ¬ S p) : (G.nilAt S).hv p k = G.hv p k := if_neg h
theorem nilAt_yes {S : Ap → Prop} {p : Ap} {k : Nat} (h : S p) : (G.nilAt S).hv p k = .slice none 0 0 := if_pos h
theorem scrubL_at {ds : List D} {i : Nat} {d : D} (h : scrubL ds = ds) (hd : ds[i]? = some d) : scrub d = d := by
  have h1 := getElem?_scrubL ds i
  rw [h, hd] at h1
  exact (Option.some.inj h1).symm
theorem hasOwnL_out {ds : List D} {i : Nat} {d : D} (h : hasOwnL ds = false) (hd : ds[i]? = some d) : d.hasOwn = false := by
  cases hb : d.hasOwn with
  | false => rfl
  | true =>
    have := VD.keep.hasOwnL_of hd hb
    rw [h] at this; cases this
theorem VD.nilAt {S : Ap → Prop} (hS : ∀ p i, ¬ S p → ¬ S (p.sub i)) {vr : Pl → Nat} {p : Ap} {v : Value} {d : D} (h : VD B fr G vr w p v d) (hs : scrub d = d) (hne : ¬ S p ∨ d.hasOwn = false) : VD B fr (G.nilAt S) vr w p v d := by
  induction h with
  | t p v x h => exact .t _ v x h
  | agg p us ds hz h1 h ih =>
    refine .agg _ us _ hz h1 fun i u d hu hd => ih i u d hu hd (scrubL_at (by injection hs) hd) (hne.imp (hS p i) fun h => hasOwnL_out h hd)
  | tup p us ds hz h ih =>
    refine .tup _ us _ hz fun i u d hu hd => ih i u d hu hd (scrubL_at (by injection hs) hd) (hne.imp (hS p i) fun h => hasOwnL_out h hd)
  | own p v e sz els us ho hr hsz hL hq =>
    refine .own _ v e sz els us ho hr hsz hL fun q hok e => ?_
    rcases hne with hne | hne
    · rw [nilAt_no hne]; exact hq q hok e
    · cases hne
  | omap p g es clock kvs hg hm hB hL hq =>
    refine .omap _ g es clock kvs hg hm hB hL fun q hok e => ?_
    rcases hne with hne | hne
    · rw [nilAt_no hne]; exact hq q hok e
    · cases hne
  | lp p s o ha => exact .lp (G := G.nilAt S) _ s o ha
  | fp p f s o hf ha => exact .fp (G := G.nilAt S) _ f s o hf ha
  | clo p f us ds hz hno h ih =>
    refine .clo _ f us ds hz hno fun j u d hu hd => ?_
    have hpt := List.all_eq_true.1 hno d (List.mem_of_getElem? hd)
    exact ih j u d hu hd (bare_scrub (ptr_bare hpt)) (.inr (D.ptr_own hpt))
  | dead p v => exact .dead _ v
  | _ => cases hs
theorem VD.nilV {vr : Pl → Nat} {p : Ap} {v : Value} (h : VD B fr G vr w p v (.t (.sc (.slice none 0 0)))) : v = .slice none 0 0 := by
  cases h with
  | t p v x h => cases h; rfl
theorem VD.seamTo {S : Ap → Prop} (hS : ∀ p i, ¬ S p → ¬ S (p.sub i)) {vr : Pl → Nat} {p : Ap} {v : Value} {d : D} (h : VD B fr G vr w p v d) (hs : scrub d = d) (hn : d = nilSl → S p) (hne : ¬ S p ∨ d.hasOwn = false) (m : Mode) :
    VD B fr (G.nilAt S) vr w p v (d.seam m) := by
  unfold D.seam
  split
  · have := h.nilV; subst this
    exact .t _ _ _ (RT.nil0 _)
  · split
    · rename_i e hsz
      have := h.nilV; subst this
      refine .own _ _ _ _ [] [] (World.ownsRow_nil w B _ _) ⟨by simp, by simp, by simp⟩ hsz (fun g hg => by cases hg) fun q _ e => ?_
      rw [nilAt_yes (hn rfl)]
    · exact h.nilAt hS hs hne
  · exact h.nilAt hS hs hne
theorem getElem?_seamL (ms : List Mode) (ds : List D) (i : Nat) : (seamL ms ds)[i]? = (ds[i]?).map (·.seam ((ms[i]?).getD none)) := by
  induction ms generalizing ds i with
  | nil =>
    cases ds with
    | nil => rfl
    | cons d ds => simp only [seamL, List.getElem?_nil, Option.getD_none, D.seam]; cases (d :: ds)[i]? <;> rfl
  | cons m ms ih =>
    cases ds with
    | nil => rfl
    | cons d ds =>
      cases i with
      | zero => rfl
      | succ i => exact ih ds i
theorem length_seamL (ms : List Mode) (ds : List D) : (seamL ms ds).length = ds.length := by
  induction ms generalizing ds with
  | nil => cases ds <;> rfl
  | cons m ms ih => cases ds with
    | nil => rfl
    | cons d ds => simp [seamL, ih]
theorem seamL_nil {ms : List Mode} {c : List D} (h : seamL ms c = []) : c = [] := by
  have := length_seamL ms c
  rw [h] at this
  exact List.length_eq_zero_iff.1 this.symm
theorem seam_bare {m : Mode} {d : D} (h : d.bare = true) : (d.seam m).bare = true := by
  unfold D.seam
  split
  · rfl
  · split <;> rfl
  · exact h
theorem seam_scrub {m : Mode} {d : D} (h : scrub d = d) : scrub (d.seam m) = d.seam m := by
  unfold D.seam
  split
  · rfl
  · split <;> rfl
  · exact h
theorem scrubL_set {ds : List D} {s : Nat} {d : D} (h : scrubL ds = ds) (hd : scrub d = d) : scrubL (ds.set s d) = ds.set s d := by
  apply List.ext_getElem?
  intro i
  rw [getElem?_scrubL, List.getElem?_set]
  split
  · split
    · simp [hd]
    · rfl
  · have := getElem?_scrubL ds i
    rw [h] at this
    exact this.symm
theorem Sim.seamStep (S : Sim B fr G σ act w) (hs : scrubL σ.tm = σ.tm) (s : Nat) (ms : List Mode) :
    ∃ G', Sim B fr G' { σ with tm := σ.tm.set s (seam1 ms (σ.tm.getD s .dead)), bx := σ.bx.set s (seamL ms (σ.bx.getD s [])) } act w ∧ Step fr G w G' w := by
  let X : Ap → Prop := fun p => (p = .tm fr s [] ∧ σ.tm.getD s .dead = nilSl) ∨ ∃ o, p = .bc fr s o ∧ (σ.bx.getD s [])[o]? = some nilSl
  have hX : ∀ p i, ¬ X p → ¬ X (p.sub i) := by
    intro p i hp hq
    cases p with
    | tm f t r => rcases hq with ⟨e, _⟩ | ⟨o, e, _⟩ <;> simp [Ap.sub] at e
    | bc f t o => exact hp hq
    | pn f t r => rcases hq with ⟨e, _⟩ | ⟨o, e, _⟩ <;> simp [Ap.sub] at e
  have hcell : ∀ {f s' : Nat} {c : List D}, BoxOk B fr G σ.verAt w f s' c → (f = fr → s' = s → c = σ.bx.getD s []) → BoxOk B fr (G.nilAt X) σ.verAt w f s' c := by
    rintro f s' c ⟨a, b, hb, us, T, hg, hz, h1, hv⟩ hc
    refine ⟨a, b, hb, us, T, hg, hz, h1, fun o u d hu hd => (hv o u d hu hd).nilAt hX (bare_scrub (hb d (List.mem_of_getElem? hd))) ?_⟩
    by_cases hx : X (.bc f s' o)
    · right
      rcases hx with ⟨e, _⟩ | ⟨o', e, h2⟩
      · cases e
      · cases e
        rw [← hc rfl rfl, hd] at h2
        cases h2; rfl
    · exact .inl hx
  refine ⟨G.nilAt X, ⟨by simp only [List.length_set]; exact S.len, fun t d hd => ?_, fun t c hc hne => ?_, ⟨fun t ht ha => ?_, S.bxn.2⟩, fun f b hb t c hc hne => ?_, S.frl, S.alf, S.alt, S.old, S.base, S.dfs⟩,
    ⟨rfl, rfl, rfl, Nat.le_refl _, fun _ _ h => ⟨h, rfl⟩, fun _ h => ⟨h, rfl⟩, fun _ _ _ h _ _ => ⟨h, rfl⟩, fun _ _ _ h => ⟨h, rfl⟩⟩⟩
  · have hne : ∀ d0, σ.tm[t]? = some d0 → ¬ X (.tm fr t []) ∨ d0.hasOwn = false := fun d0 h0 => by
      by_cases hx : X (.tm fr t [])
      · right
        rcases hx with ⟨e, h2⟩ | ⟨o', e, h2⟩
        · cases e
          rw [List.getD_eq_getElem?_getD, h0] at h2
          cases h2; rfl
        · cases e
      · exact .inl hx
    simp only [List.getElem?_set] at hd
    split at hd
    · rename_i e
      subst e
      split at hd
      · rename_i hlt
        cases hd
        have h0 : σ.tm[s]? = some (σ.tm.getD s .dead) := by rw [List.getD_eq_getElem?_getD, List.getElem?_eq_getElem hlt]; rfl
        exact (S.tms s _ h0).seamTo hX (scrubL_at hs h0) (fun e => .inl ⟨rfl, e⟩) (hne _ h0) _
      · cases hd
    · exact (S.tms t d hd).nilAt hX (scrubL_at hs hd) (hne d hd)
  · simp only [List.getElem?_set] at hc
    split at hc
    · rename_i e
      subst e
      split at hc
      · rename_i hlt
        cases hc
        have h0 : σ.bx[s]? = some (σ.bx.getD s []) := by rw [List.getD_eq_getElem?_getD, List.getElem?_eq_getElem hlt]; rfl
        have hn0 : σ.bx.getD s [] ≠ [] := fun e => hne (by rw [e]; cases ms <;> rfl)
        obtain ⟨a, b, hb, us, T, hg, hz, h1, hv⟩ := S.bxs s _ h0 hn0
        refine ⟨a, b, fun d hd => ?_, us, T, hg, by rw [length_seamL]; exact hz, h1, fun o u d hu hd => ?_⟩
        · obtain ⟨i, hi⟩ := List.getElem?_of_mem hd
          rw [getElem?_seamL, Option.map_eq_some_iff] at hi
          obtain ⟨d', hd', rfl⟩ := hi
          exact seam_bare (hb d' (List.mem_of_getElem? hd'))
        · rw [getElem?_seamL, Option.map_eq_some_iff] at hd
          obtain ⟨d', hd', rfl⟩ := hd
          refine (hv o u d' hu hd').seamTo hX (bare_scrub (hb d' (List.mem_of_getElem? hd'))) (fun e => .inr ⟨o, rfl, by rw [hd', e]⟩) ?_ _
          by_cases hx : X (.bc fr s o)
          · right
            rcases hx with ⟨e, _⟩ | ⟨o', e, h2⟩
            · cases e
            · cases e
              rw [hd'] at h2
              cases h2; rfl
          · exact .inl hx
      · cases hc
    · rename_i hne2
      exact hcell (S.bxs t c hc hne) fun _ e => absurd e.symm hne2
  · refine S.bxn.1 t ?_ ha
    simp only [List.getD_eq_getElem?_getD, List.getElem?_set] at ht ⊢
    split at ht
    · rename_i e
      subst e
      split at ht
      · have := seamL_nil ht
        simpa only [List.getD_eq_getElem?_getD] using this
      · rename_i hlt
        rw [List.getElem?_eq_none (by omega)]; rfl
    · exact ht
  · exact hcell (S.frs f b hb t c hc hne) fun e _ => by
      have hlt : f < fr := by rw [← S.frl]; exact (List.getElem?_eq_some_iff.1 hb).1
      omega
theorem Sim.seamRows (S : Sim B fr G σ act w) (hs : scrubL σ.tm = σ.tm) (rows : List (Nat × List Mode)) : ∃ G', Sim B fr G' { σ with tm := seamT rows σ.tm, bx := seamB rows σ.bx } act w ∧ Step fr G w G' w := by
  induction rows generalizing G σ with
  | nil => exact ⟨G, S, .refl _ _ _⟩
  | cons x rows ih =>
    obtain ⟨s, ms⟩ := x
    obtain ⟨G1, S1, st1⟩ := S.seamStep hs s ms
    have hs1 : scrubL (σ.tm.set s (seam1 ms (σ.tm.getD s .dead))) = σ.tm.set s (seam1 ms (σ.tm.getD s .dead)) := by
      refine scrubL_set hs (seam_scrub ?_)
      rw [List.getD_eq_getElem?_getD]
      cases h : σ.tm[s]? with
      | none => rfl
      | some d => exact scrubL_at hs h
    obtain ⟨G2, S2, st2⟩ := ih S1 hs1
    exact ⟨G2, S2, st1.trans st2⟩
theorem scrub_scrub : ∀ d : D, scrub (scrub d) = scrub d
  | .agg ds => congrArg D.agg (scrubL_scrubL ds)
  | .tup ds => congrArg D.tup (scrubL_scrubL ds)
  | .t _ | .own _ _ _ | .omap _ | .als _ _ _ _ _ | .mal _ _ | .ept _ _ _ _ _ | .lp _ _ | .fp _ _ _ | .clo _ _ | .dead => rfl
where scrubL_scrubL : ∀ ds : List D, scrubL (scrubL ds) = scrubL ds
  | [] => rfl
  | d :: ds => by simp only [scrubL, scrub_scrub d, scrubL_scrubL ds]
theorem Sim.seam (S : Sim B fr G σ.over act w) (H : Hint) : ∃ G', Sim B fr G' (σ.over.seam H) act w ∧ Step fr G w G' w :=
  S.seamRows (scrub_scrub.scrubL_scrubL σ.tm) H.row
end Go.Pv

/- Frames: a value as an inner frame sees it, and back; what a callee promises. -/
namespace Go.Pv
open Go.RowKit
variable {P : Program} {B fr : Nat} {G : Gh} {σ σ' : St} {act : Act} {w w' : World} {C : Callee} {K : Act → World → Prop} {Q : Exit → Act → World → Prop} {H : Hint}

/-- Frames alone. -/
def FrS (B : Nat) (G : Gh) (frs : Frames) (w : World) : Prop := Sim B frs.length G { tm := [], bx := [], fr := frs } { tmps := #[], defers := [] } w
abbrev vr0 : Pl → Nat := fun _ => 0
/-- What a callee promises. -/
def Good (P : Program) (C : Callee) : Prop :=
  ∀ f ds frs r frs', C f ds frs = some (r, frs') → ∀ B G w (vs : Array Value), FrS B G frs w → vs.size = ds.length →
    (∀ (i : Nat) u d, vs[i]? = some u → ds[i]? = some d → d.hasOwn = false ∧ VD B frs.length G vr0 w (.pn frs.length i []) u d) →
    ∃ d, r = .val d ∧ d.outOk = true ∧ Calls P f vs w fun out w' => ∃ v G', out = .returned v ∧ frs'.length = frs.length ∧ FrS B G' frs' w' ∧ Step frs.length G w G' w' ∧ VD B frs.length G' vr0 w' (.pn frs.length 0 []) v d

theorem getElem?_liftL (n : Nat) (ds : List D) (i : Nat) : (liftL n ds)[i]? = (ds[i]?).map (lift n) := by
  induction ds generalizing i with
  | nil => rfl
  | cons d ds ih => cases i with
    | zero => rfl
    | succ i => exact ih i
theorem getElem?_unliftL (n : Nat) (ds : List D) (i : Nat) : (unliftL n ds)[i]? = (ds[i]?).map (unlift n) := by
  induction ds generalizing i with
  | nil => rfl
  | cons d ds ih => cases i with
    | zero => rfl
    | succ i => exact ih i
theorem length_liftL (n : Nat) (ds : List D) : (liftL n ds).length = ds.length := by induction ds with
  | nil => rfl
  | cons d ds ih => simp [liftL, ih]
theorem length_unliftL (n : Nat) (ds : List D) : (unliftL n ds).length = ds.length := by induction ds with
  | nil => rfl
  | cons d ds ih => simp [unliftL, ih]
theorem lift_ptr {n : Nat} {d : D} (h : d.ptr = true) : (lift n d).ptr = true := by cases d <;> first | rfl | cases h
theorem unlift_ptr {n : Nat} {d : D} (h : d.ptr = true) : (unlift n d).ptr = true := by
  cases d with
  | lp s o => rfl
  | fp f s o => simp only [unlift]; split <;> rfl
  | _ => cases h
theorem lift_bare {n : Nat} {d : D} (h : d.bare = true) : (lift n d).bare = true := by cases d <;> first | rfl | cases h
theorem unlift_bare {n : Nat} {d : D} (h : d.bare = true) : (unlift n d).bare = true := by
  cases d with
  | fp f s o => simp only [unlift]; split <;> rfl
  | _ => first | rfl | cases h
theorem all_liftL {n : Nat} {ds : List D} (h : ds.all D.ptr = true) : (liftL n ds).all D.ptr = true := by
  rw [List.all_eq_true] at *
  intro d hd
  obtain ⟨i, hi⟩ := List.getElem?_of_mem hd
  rw [getElem?_liftL, Option.map_eq_some_iff] at hi
  obtain ⟨d', hd', rfl⟩ := hi
  exact lift_ptr (h d' (List.mem_of_getElem? hd'))
theorem all_unliftL {n : Nat} {ds : List D} (h : ds.all D.ptr = true) : (unliftL n ds).all D.ptr = true := by
  rw [List.all_eq_true] at *
  intro d hd
  obtain ⟨i, hi⟩ := List.getElem?_of_mem hd
  rw [getElem?_unliftL, Option.map_eq_some_iff] at hi
  obtain ⟨d', hd', rfl⟩ := hi
  exact unlift_ptr (h d' (List.mem_of_getElem? hd'))

/-- What names no place. -/
def D.plain : D → Bool
  | .als _ _ _ _ _ | .mal _ _ | .ept _ _ _ _ _ => false
  | .agg ds => ds.all D.bare
  | .tup _ => false
  | _ => true
/-- A value of frame fr, as the next inner frame sees it. -/
theorem VD.lift {vr : Pl → Nat} {vr' : Pl → Nat} {p : Ap} {v : Value} {d : D} (h : VD B fr G vr w p v d) : d.plain = true → (d.hasOwn = true → ∃ f s o, p = .bc f s o ∧ f ≤ fr) →
    VD B (fr + 1) (G.anew fr vr) vr' w p v (Pv.lift fr d) := by
  have bareP : ∀ {d : D}, d.bare = true → d.plain = true := fun {d} h => by cases d <;> first | rfl | cases h
  have own : ∀ {p : Ap} {v : Value}, (∃ f s o, p = .bc f s o ∧ f ≤ fr) → (∀ q : Pl, q.ok fr → q.abs fr = p → G.hv p (vr q) = v) → ∀ q : Pl, q.ok (fr + 1) → q.abs (fr + 1) = p → (G.anew fr vr).hv p (vr' q) = v := by
    rintro p v ⟨f, s, o, rfl, hf⟩ hq q hok e
    show G.hv (.bc f s o) (vr (plOf fr (.bc f s o))) = v
    refine hq _ ?_ ?_
    · simp only [plOf]; split
      · trivial
      · show f < fr; omega
    · simp only [plOf]; split
      · rename_i e; subst e; rfl
      · rfl
  have leaf : ∀ {p : Ap} {v : Value} {d : D}, VD B fr G vr w p v d → (∀ ds, d ≠ .agg ds) → d.plain = true → (d.hasOwn = true → ∃ f s o, p = .bc f s o ∧ f ≤ fr) → VD B (fr + 1) (G.anew fr vr) vr' w p v (Pv.lift fr d) := by
    intro p v d h
    induction h with
    | t p v x h => exact fun _ _ _ => .t _ v x h
    | agg p us ds hs h1 h ih => exact fun h => absurd rfl (h ds)
    | tup p us ds hs h ih => exact fun _ h => by cases h
    | own p v e sz els us ho hr hsz hL hq => exact fun _ _ hp => .own _ v e sz els us ho hr hsz hL (own (hp rfl) hq)
    | omap p g es clock kvs hg hm hB hL hq => exact fun _ _ hp => .omap _ g es clock kvs hg hm hB hL (own (hp rfl) hq)
    | alsN p q k sz lo hk hv => exact fun _ h => by cases h
    | als p q k sz lo n g c cap cap' hk hv hn hc o ho => exact fun _ h => by cases h
    | mal p q k hk g hv => exact fun _ h => by cases h
    | ept p q k sz i off g c cap hk hv => exact fun _ h => by cases h
    | lp p s o ha => exact fun _ _ _ => .fp (G := G.anew fr vr) _ fr s o (Nat.lt_succ_self _) ha
    | fp p f s o hf ha => exact fun _ _ _ => .fp (G := G.anew fr vr) _ f s o (Nat.lt_succ_of_lt hf) ha
    | clo p f us ds hs hno h ih =>
      intro _ _ _
      refine .clo _ f us _ (by rw [length_liftL]; exact hs) (all_liftL hno) fun j u d hu hd => ?_
      rw [getElem?_liftL, Option.map_eq_some_iff] at hd
      obtain ⟨d', hd', rfl⟩ := hd
      have hpt := List.all_eq_true.1 hno d' (List.mem_of_getElem? hd')
      exact ih j u d' hu hd' (fun ds e => by subst e; cases hpt) (bareP (ptr_bare hpt)) (fun e => by rw [D.ptr_own hpt] at e; cases e)
    | dead p v => exact fun _ _ _ => .dead _ v
  intro hp ho
  cases h with
  | agg p us ds hs h1 h =>
    refine .agg _ us _ (by rw [length_liftL]; exact hs) h1 fun j u d hu hd => ?_
    rw [getElem?_liftL, Option.map_eq_some_iff] at hd
    obtain ⟨d', hd', rfl⟩ := hd
    have hpl := List.all_eq_true.1 hp d' (List.mem_of_getElem? hd')
    refine leaf (h j u d' hu hd') (fun ds e => by subst e; cases hpl) (by cases d' <;> first | rfl | cases hpl) fun e => ?_
    obtain ⟨f, s, o, rfl, hf⟩ := ho (VD.keep.hasOwnL_of hd' e)
    exact ⟨f, s, o, rfl, hf⟩
  | t p v x h => exact .t _ v x h
  | tup => cases hp
  | own p v e sz els us ho' hr hsz hL hq => exact .own _ v e sz els us ho' hr hsz hL (own (ho rfl) hq)
  | omap p g es clock kvs hg hm hB hL hq => exact .omap _ g es clock kvs hg hm hB hL (own (ho rfl) hq)
  | alsN => cases hp
  | als => cases hp
  | mal => cases hp
  | ept => cases hp
  | lp p s o ha => exact .fp (G := G.anew fr vr) _ fr s o (Nat.lt_succ_self _) ha
  | fp p f s o hf ha => exact .fp (G := G.anew fr vr) _ f s o (Nat.lt_succ_of_lt hf) ha
  | clo p f us ds hs hno h => exact leaf (.clo p f us ds hs hno h) (by simp) rfl (fun e => by cases e)
  | dead => exact .dead _ _
/-- The ghost of a frame whose inner frame is left: what its names mean stays, what stands in boxes is told anew. -/
def Gh.back (G G' : Gh) (fr : Nat) (vr : Pl → Nat) : Gh := { L := G'.L, hb := G'.hb, al := G'.al, hv := fun p n => if n ≤ vr (plOf fr p) then G.hv p n else G'.hv p 0 }
/-- A value that an inner frame leaves, as frame fr sees it. -/
theorem VD.unlift {G' : Gh} {vr vr' : Pl → Nat} {p : Ap} {v : Value} {d : D} (hna : ∀ s, ¬ G'.al (fr + 1) s) (hvr : ∀ q : Pl, q.boxed = true → vr q < vr' q) (h : VD B (fr + 1) G' vr0 w p v d) : d.plain = true →
    (d.hasOwn = true → ∃ f s o, p = .bc f s o ∧ f ≤ fr) → VD B fr (G.back G' fr vr) vr' w p v (Pv.unlift fr d) := by
  have bareP : ∀ {d : D}, d.bare = true → d.plain = true := fun {d} h => by cases d <;> first | rfl | cases h
  have own : ∀ {p : Ap} {v : Value}, (∃ f s o, p = .bc f s o ∧ f ≤ fr) → (∀ q : Pl, q.ok (fr + 1) → q.abs (fr + 1) = p → G'.hv p (vr0 q) = v) → ∀ q : Pl, q.ok fr → q.abs fr = p → (G.back G' fr vr).hv p (vr' q) = v := by
    rintro p v ⟨f, s, o, rfl, hf⟩ hq q hok e
    show (if _ then _ else _) = v
    have hb : q.boxed = true := by cases q <;> first | rfl | cases e
    have hpl : plOf fr (.bc f s o) = q := by rw [← e]; exact plOf_abs hok
    rw [if_neg (by rw [hpl]; exact Nat.not_le.2 (hvr q hb))]
    exact hq (.fb f s o) (Nat.lt_succ_of_le hf) rfl
  have fpc : ∀ {p : Ap} {f s o : Nat}, f < fr + 1 → G'.al f s → VD B fr (G.back G' fr vr) vr' w p (.pointer (some ⟨G'.hb f s, o, none⟩)) (Pv.unlift fr (.fp f s o)) := by
    intro p f s o hf ha
    simp only [Pv.unlift]
    split
    · rename_i e; subst e; exact .lp (G := G.back G' f vr) _ s o ha
    · exact .fp (G := G.back G' fr vr) _ f s o (by omega) ha
  have leaf : ∀ {p : Ap} {v : Value} {d : D}, VD B (fr + 1) G' vr0 w p v d → (∀ ds, d ≠ .agg ds) → d.plain = true → (d.hasOwn = true → ∃ f s o, p = .bc f s o ∧ f ≤ fr) → VD B fr (G.back G' fr vr) vr' w p v (Pv.unlift fr d) := by
    intro p v d h
    induction h with
    | t p v x h => exact fun _ _ _ => .t _ v x h
    | agg p us ds hs h1 h ih => exact fun h => absurd rfl (h ds)
    | tup p us ds hs h ih => exact fun _ h => by cases h
    | own p v e sz els us ho hr hsz hL hq => exact fun _ _ hp => .own _ v e sz els us ho hr hsz hL (own (hp rfl) hq)
    | omap p g es clock kvs hg hm hB hL hq => exact fun _ _ hp => .omap _ g es clock kvs hg hm hB hL (own (hp rfl) hq)
    | alsN p q k sz lo hk hv => exact fun _ h => by cases h
    | als p q k sz lo n g c cap cap' hk hv hn hc o ho => exact fun _ h => by cases h
    | mal p q k hk g hv => exact fun _ h => by cases h
    | ept p q k sz i off g c cap hk hv => exact fun _ h => by cases h
    | lp p s o ha => exact fun _ _ _ => absurd ha (hna s)
    | fp p f s o hf ha => exact fun _ _ _ => fpc hf ha
    | clo p f us ds hs hno h ih =>
      intro _ _ _
      refine .clo _ f us _ (by rw [length_unliftL]; exact hs) (all_unliftL hno) fun j u d hu hd => ?_
      rw [getElem?_unliftL, Option.map_eq_some_iff] at hd
      obtain ⟨d', hd', rfl⟩ := hd
      have hpt := List.all_eq_true.1 hno d' (List.mem_of_getElem? hd')
      exact ih j u d' hu hd' (fun ds e => by subst e; cases hpt) (bareP (ptr_bare hpt)) (fun e => by rw [D.ptr_own hpt] at e; cases e)
    | dead p v => exact fun _ _ _ => .dead _ v
  intro hp ho
  cases h with
  | agg p us ds hs h1 h =>
    refine .agg _ us _ (by rw [length_unliftL]; exact hs) h1 fun j u d hu hd => ?_
    rw [getElem?_unliftL, Option.map_eq_some_iff] at hd
    obtain ⟨d', hd', rfl⟩ := hd
    have hpl := List.all_eq_true.1 hp d' (List.mem_of_getElem? hd')
    refine leaf (h j u d' hu hd') (fun ds e => by subst e; cases hpl) (by cases d' <;> first | rfl | cases hpl) fun e => ?_
    obtain ⟨f, s, o, rfl, hf⟩ := ho (VD.keep.hasOwnL_of hd' e)
    exact ⟨f, s, o, rfl, hf⟩
  | t p v x h => exact .t _ v x h
  | tup => cases hp
  | own p v e sz els us ho' hr hsz hL hq => exact .own _ v e sz els us ho' hr hsz hL (own (ho rfl) hq)
  | omap p g es clock kvs hg hm hB hL hq => exact .omap _ g es clock kvs hg hm hB hL (own (ho rfl) hq)
  | alsN => cases hp
  | als => cases hp
  | mal => cases hp
  | ept => cases hp
  | lp p s o ha => exact absurd ha (hna s)
  | fp p f s o hf ha => exact fpc hf ha
  | clo p f us ds hs hno h => exact leaf (.clo p f us ds hs hno h) (by simp) rfl (fun e => by cases e)
  | dead => exact .dead _ _
end Go.Pv

/- An inner frame is entered, and left. -/
namespace Go.Pv
open Go.RowKit
variable {P : Program} {B fr : Nat} {G : Gh} {σ σ' : St} {act : Act} {w w' : World} {C : Callee} {K : Act → World → Prop} {Q : Exit → Act → World → Prop} {H : Hint}

theorem bare_plain {d : D} (h : d.bare = true) : d.plain = true := by cases d <;> first | rfl | cases h
theorem liftL_nil {n : Nat} {c : List D} (h : liftL n c = []) : c = [] := by cases c <;> first | rfl | cases h
theorem unliftL_nil {n : Nat} {c : List D} (h : unliftL n c = []) : c = [] := by cases c <;> first | rfl | cases h
theorem BoxOk.lift {vr vr' : Pl → Nat} {f s : Nat} {c : List D} (h : BoxOk B fr G vr w f s c) (hf : f ≤ fr) : BoxOk B (fr + 1) (G.anew fr vr) vr' w f s (liftL fr c) := by
  obtain ⟨a, b, hb, us, T, hg, hs, h1, hv⟩ := h
  refine ⟨a, b, fun d hd => ?_, us, T, hg, by rw [length_liftL]; exact hs, h1, fun o u d hu hd => ?_⟩
  · obtain ⟨i, hi⟩ := List.getElem?_of_mem hd
    rw [getElem?_liftL, Option.map_eq_some_iff] at hi
    obtain ⟨d', hd', rfl⟩ := hi
    exact lift_bare (hb d' (List.mem_of_getElem? hd'))
  · rw [getElem?_liftL, Option.map_eq_some_iff] at hd
    obtain ⟨d', hd', rfl⟩ := hd
    exact (hv o u d' hu hd').lift (bare_plain (hb d' (List.mem_of_getElem? hd'))) fun _ => ⟨f, s, o, rfl, hf⟩
theorem BoxOk.unlift {G' : Gh} {vr vr' : Pl → Nat} {f s : Nat} {c : List D} (hna : ∀ s, ¬ G'.al (fr + 1) s) (hvr : ∀ q : Pl, q.boxed = true → vr q < vr' q) (h : BoxOk B (fr + 1) G' vr0 w f s c) (hf : f ≤ fr) :
    BoxOk B fr (G.back G' fr vr) vr' w f s (unliftL fr c) := by
  obtain ⟨a, b, hb, us, T, hg, hs, h1, hv⟩ := h
  refine ⟨a, b, fun d hd => ?_, us, T, hg, by rw [length_unliftL]; exact hs, h1, fun o u d hu hd => ?_⟩
  · obtain ⟨i, hi⟩ := List.getElem?_of_mem hd
    rw [getElem?_unliftL, Option.map_eq_some_iff] at hi
    obtain ⟨d', hd', rfl⟩ := hi
    exact unlift_bare (hb d' (List.mem_of_getElem? hd'))
  · rw [getElem?_unliftL, Option.map_eq_some_iff] at hd
    obtain ⟨d', hd', rfl⟩ := hd
    exact (hv o u d' hu hd').unlift hna hvr (bare_plain (hb d' (List.mem_of_getElem? hd'))) fun _ => ⟨f, s, o, rfl, hf⟩
theorem getElem?_liftF (n : Nat) (fs : Frames) (i : Nat) : (liftF n fs)[i]? = (fs[i]?).map fun b => b.map (liftL n) := by simp [liftF]
theorem getElem?_unliftF (n : Nat) (fs : Frames) (i : Nat) : (unliftF n fs)[i]? = (fs[i]?).map fun b => b.map (unliftL n) := by simp [unliftF]
theorem verAt_new (_ver : List (Pl × Nat)) : St.verAt ({ tm := [], bx := [], fr := [] } : St) = vr0 := by
  funext q; simp [St.verAt, verOf]
theorem verAt_FrS (frs : Frames) : St.verAt ({ tm := [], bx := [], fr := frs } : St) = vr0 := by
  funext q; simp [St.verAt, verOf]

theorem Sim.enterB (S : Sim B fr G σ act w) : FrS B (G.anew fr σ.verAt) (liftF fr (σ.fr ++ [σ.bx])) w ∧ (liftF fr (σ.fr ++ [σ.bx])).length = fr + 1 := by
  have hl : (liftF fr (σ.fr ++ [σ.bx])).length = fr + 1 := by simp [liftF, S.frl]
  refine ⟨?_, hl⟩
  unfold FrS
  rw [hl]
  have hfr : ∀ (f : Nat) b, (liftF fr (σ.fr ++ [σ.bx]))[f]? = some b → (∃ b0, σ.fr[f]? = some b0 ∧ b = b0.map (liftL fr) ∧ f < fr) ∨ (f = fr ∧ b = σ.bx.map (liftL fr)) := fun f b hb => by
    rw [getElem?_liftF, Option.map_eq_some_iff] at hb
    obtain ⟨b0, hb0, rfl⟩ := hb
    rw [List.getElem?_append] at hb0
    split at hb0
    · rename_i hlt
      exact .inl ⟨b0, hb0, rfl, by rw [← S.frl]; exact hlt⟩
    · rename_i hge
      have : f - σ.fr.length = 0 := by
        have := (List.getElem?_eq_some_iff.1 hb0).1
        simp only [List.length_cons, List.length_nil] at this
        omega
      rw [this] at hb0
      cases hb0
      have := S.frl
      exact .inr ⟨by omega, rfl⟩
  have hnil : ∀ (b0 : List (List D)) s, (b0.map (liftL fr)).getD s [] = [] → b0.getD s [] = [] := fun b0 s h => by
    simp only [List.getD_eq_getElem?_getD, List.getElem?_map] at h ⊢
    cases hb : b0[s]? with
    | none => rfl
    | some c => rw [hb] at h; exact liftL_nil h
  have hbox : ∀ (b0 : List (List D)) s c, (b0.map (liftL fr))[s]? = some c → ∃ c0, b0[s]? = some c0 ∧ c = liftL fr c0 := fun b0 s c h => by
    rw [List.getElem?_map, Option.map_eq_some_iff] at h
    obtain ⟨c0, h0, rfl⟩ := h
    exact ⟨c0, h0, rfl⟩
  refine ⟨rfl, fun t d hd => by simp at hd, fun s c hc => by simp at hc, ⟨fun s _ => S.alf _ s (Nat.lt_succ_self _), fun f b hb s hs => ?_⟩, fun f b hb s c hc hne => ?_, hl, fun f s h => S.alf f s (by omega), S.alt, S.old, S.base, rfl⟩
  · rcases hfr f b hb with ⟨b0, h0, rfl, hlt⟩ | ⟨rfl, rfl⟩
    · exact S.bxn.2 f b0 h0 s (hnil _ s hs)
    · exact S.bxn.1 s (hnil _ s hs)
  · rcases hfr f b hb with ⟨b0, h0, rfl, hlt⟩ | ⟨rfl, rfl⟩
    · obtain ⟨c0, hc0, rfl⟩ := hbox _ _ _ hc
      exact (S.frs f b0 h0 s c0 hc0 (fun e => hne (by rw [e]; rfl))).lift (by omega)
    · obtain ⟨c0, hc0, rfl⟩ := hbox _ _ _ hc
      exact (S.bxs s c0 hc0 (fun e => hne (by rw [e]; rfl))).lift (Nat.le_refl _)

theorem Sim.leaveB {G' : Gh} {frs' : Frames} (S : Sim B fr G σ act w) (F : FrS B G' frs' w') (hl : frs'.length = fr + 1) (st : Step (fr + 1) (G.anew fr σ.verAt) w G' w') (hσ : σ' = { fr := (unliftF fr frs').dropLast, bx := (unliftF fr frs').getLastD [], tm := σ.tm, ver := σ.ver, vg := σ.vg + 1 }) :
    Sim B fr (G.back G' fr σ.verAt) σ' act w' ∧ Step fr G w (G.back G' fr σ.verAt) w' := by
  unfold FrS at F
  rw [hl] at F
  have hul : (unliftF fr frs').length = fr + 1 := by simp [unliftF, hl]
  have hna : ∀ s, ¬ G'.al (fr + 1) s := fun s => F.bxn.1 s rfl
  have hvr : ∀ q : Pl, q.boxed = true → σ.verAt q < σ'.verAt q := fun q hq => by rw [hσ]; simp only [St.verAt, hq, if_true]; omega
  have hlast : σ'.bx = ((frs'.getD fr []).map (unliftL fr)) := by
    rw [hσ]
    show (unliftF fr frs').getLastD [] = _
    have h1 : frs'[fr]? = some (frs'.getD fr []) := getElem?_of_getD [] (by omega)
    have h2 : (unliftF fr frs')[fr]? = some ((frs'.getD fr []).map (unliftL fr)) := by rw [getElem?_unliftF, h1]; rfl
    rw [List.getLastD_eq_getLast?, List.getLast?_eq_getElem?, hul, Nat.add_sub_cancel, h2]
    rfl
  have hfr : ∀ (f : Nat) b, σ'.fr[f]? = some b → f < fr ∧ ∃ b0, frs'[f]? = some b0 ∧ b = b0.map (unliftL fr) := fun f b hb => by
    rw [hσ] at hb
    have hb : (unliftF fr frs').dropLast[f]? = some b := hb
    rw [List.getElem?_dropLast] at hb
    split at hb
    · rename_i hlt
      rw [getElem?_unliftF, Option.map_eq_some_iff] at hb
      obtain ⟨b0, h0, rfl⟩ := hb
      exact ⟨by omega, b0, h0, rfl⟩
    · cases hb
  have hlf : frs'[fr]? = some (frs'.getD fr []) := getElem?_of_getD [] (by omega)
  have hnil : ∀ (b0 : List (List D)) s, (b0.map (unliftL fr)).getD s [] = [] → b0.getD s [] = [] := fun b0 s h => by
    simp only [List.getD_eq_getElem?_getD, List.getElem?_map] at h ⊢
    cases hb : b0[s]? with
    | none => rfl
    | some c => rw [hb] at h; exact unliftL_nil h
  have hbox : ∀ (b0 : List (List D)) s c, (b0.map (unliftL fr))[s]? = some c → ∃ c0, b0[s]? = some c0 ∧ c = unliftL fr c0 := fun b0 s c h => by
    rw [List.getElem?_map, Option.map_eq_some_iff] at h
    obtain ⟨c0, h0, rfl⟩ := h
    exact ⟨c0, h0, rfl⟩
  have hale : ∀ f s, G.al f s → f < fr + 1 := fun f s h => by
    rcases Nat.lt_or_ge fr f with hlt | hge
    · exact absurd h (S.alf f s hlt)
    · omega
  have Kp : Keep fr G σ.verAt w (G.back G' fr σ.verAt) σ'.verAt w' (fun p => p.frame = some fr) (fun _ _ => False) := by
    refine ⟨st.size, fun g hg h => (st.sh g hg h).1, fun g h hg => (st.sh g hg h).2, fun g p h hp => st.outer g p fr h hp (Nat.lt_succ_self _), fun q => ?_, fun q h => ?_, fun q k hok hk => ?_, fun f s h => st.al f s (hale f s h) h, fun f s _ h => h.elim⟩
    · rw [hσ]; simp only [St.verAt]; split <;> omega
    · cases q with
      | tm t => rw [hσ]; rfl
      | _ => cases h
    · show (if _ then _ else _) = _
      rw [plOf_abs hok, if_pos hk]
  have hC : Closed fun p => p.frame = some fr := fun p i h => by cases p <;> exact h
  have F_frs : ∀ (f : Nat) b, frs'[f]? = some b → ∀ s c, b[s]? = some c → c ≠ [] → BoxOk B (fr + 1) G' vr0 w' f s c := fun f b hb s c hc hne => by
    have := F.frs f b hb s c hc hne
    rwa [verAt_FrS] at this
  refine ⟨⟨by rw [hσ]; exact S.len, fun t d hd => (S.tms t d (by rw [hσ] at hd; exact hd)).keep Kp hC fun _ => rfl, fun s c hc hne => ?_, ⟨fun s hs => ?_, fun f b hb s hs => ?_⟩, fun f b hb s c hc hne => ?_, ?_, fun f s hf h => ?_, F.alt, F.old, F.base, S.dfs⟩, ⟨st.os, st.tape, st.output, st.size, fun g hg h => st.sh g hg h, fun g h => st.junk g h, fun g p f h hf hlt => st.outer g p f h hf (by omega), fun f s hlt h => st.al f s (by omega) h⟩⟩
  · rw [hlast] at hc
    obtain ⟨c0, hc0, rfl⟩ := hbox _ _ _ hc
    exact (F_frs fr _ hlf s c0 hc0 (fun e => hne (by rw [e]; rfl))).unlift hna hvr (Nat.le_refl _)
  · rw [hlast] at hs
    exact F.bxn.2 fr _ hlf s (hnil _ s hs)
  · obtain ⟨hlt, b0, h0, rfl⟩ := hfr f b hb
    exact F.bxn.2 f b0 h0 s (hnil _ s hs)
  · obtain ⟨hlt, b0, h0, rfl⟩ := hfr f b hb
    obtain ⟨c0, hc0, rfl⟩ := hbox _ _ _ hc
    exact (F_frs f b0 h0 s c0 hc0 (fun e => hne (by rw [e]; rfl))).unlift hna hvr (by omega)
  · rw [hσ]
    simp [hul]
  · rcases Nat.lt_or_ge (fr + 1) f with h' | h'
    · exact F.alf f s h' h
    · have : f = fr + 1 := by omega
      subst this
      exact hna s h
end Go.Pv

/- Calls that may hand on places. -/
namespace Go.Pv
open Go.RowKit
variable {P : Program} {B fr : Nat} {G : Gh} {σ σ' : St} {act : Act} {w w' : World} {C : Callee} {K : Act → World → Prop} {Q : Exit → Act → World → Prop} {H : Hint}

theorem GS.toGR0 {i k n : Nat} {G' : Gh} (a : GS B fr i G σ G' σ' act w) (hi : k ≤ i) (hn : i < k + n) : GR B fr k n G σ G' σ' act w := a.toGR hi hn
theorem Sim.takes {xs : List Operand} {ds : List D} {k : Nat} (S : Sim B fr G σ act w) (h : (Pv.takes H xs).run C σ = some (.ok ds, σ')) :
    ∃ G', GR B fr k xs.length G σ G' σ' act w ∧ xs.length = ds.length ∧ ∀ (i : Nat) x d, xs[i]? = some x → ds[i]? = some d → VD B fr G' σ'.verAt w (.pn fr (k + i) []) (act.eval x) d := by
  induction xs generalizing k ds G σ with
  | nil =>
    obtain ⟨rfl, rfl⟩ := ret_ok (C := C) h
    exact ⟨G, .refl k _ S, rfl, by simp⟩
  | cons x xs ih =>
    simp only [Pv.takes] at h
    obtain ⟨d, σ1, h1, h2⟩ := bind_ok h
    obtain ⟨G1, a1, b1⟩ := S.takeGS k h1
    obtain ⟨ds', σ2, h3, h4⟩ := bind_ok h2
    obtain ⟨rfl, rfl⟩ := pure_ok h4
    obtain ⟨G2, a2, hl, b2⟩ := ih (k := k + 1) a1.sim h3
    refine ⟨G2, (a1.toGR (k := k) (n := xs.length + 1) (by omega) (by omega)).trans (a2.widen (by omega) (by omega)), by simp [hl], fun i y e hy he => ?_⟩
    cases i with
    | zero => cases hy; cases he; exact a2.other (by omega) b1
    | succ i =>
      have := b2 i y e hy he
      rwa [show k + 1 + i = k + (i + 1) from by omega] at this

/-- Values on their way, with numbers under M, but i. -/
def PB (fr i M : Nat) (p : Ap) : Prop := ∃ j path, p = .pn fr j path ∧ j ≠ i ∧ j < M
theorem PB.closed (fr i M : Nat) : Closed (PB fr i M) := by
  rintro p k ⟨j, path, rfl, h⟩
  exact ⟨j, path ++ [k], rfl, h⟩
theorem PB.pend {i M : Nat} {p : Ap} (h : PB fr i M p) : Pend fr i p := by
  obtain ⟨j, path, rfl, h1, _⟩ := h
  exact ⟨fr, j, path, rfl, fun e => h1 e.2⟩
theorem PB.pendR {i M n : Nat} {p : Ap} (h : PB fr i M p) : PendR fr M n p := by
  obtain ⟨j, path, rfl, _, h2⟩ := h
  exact ⟨fr, j, path, rfl, fun e => by omega⟩

theorem Sim.shareC {k : Nat} {us : List Value} {ds ds' : List D} (S : Sim B fr G σ act w) (hc : Cells B fr G σ.verAt w k us ds) (h : (Pv.shareC ds).run C σ = some (.ok ds', σ')) :
    ∃ G', GR B fr k ds.length G σ G' σ' act w ∧ Cells B fr G' σ'.verAt w k us ds' ∧ ∀ d ∈ ds', d.hasOwn = false ∧ d.bare = true := by
  induction ds generalizing k us ds' G σ with
  | nil =>
    obtain ⟨rfl, rfl⟩ := ret_ok (C := C) h
    exact ⟨G, .refl k _ S, hc, by simp⟩
  | cons d ds ih =>
    obtain ⟨hlen, h1, hall⟩ := hc
    cases us with
    | nil => cases hlen
    | cons u us =>
      simp only [Pv.shareC] at h
      obtain ⟨x, σ1, h2, h3⟩ := bind_ok h
      obtain ⟨xs, σ2, h4, h5⟩ := bind_ok h3
      obtain ⟨rfl, rfl⟩ := pure_ok h5
      have hv0 := hall 0 u d rfl rfl
      obtain ⟨G1, a1, b1, n1, n2⟩ : ∃ G1, GS B fr k G σ G1 σ1 act w ∧ VD B fr G1 σ1.verAt w (.pn fr k []) u x ∧ x.hasOwn = false ∧ x.bare = true := by
        have keepIt : (Prog.ret d).run C σ = some (.ok x, σ1) → d.hasOwn = false → d.bare = true → ∃ G1, GS B fr k G σ G1 σ1 act w ∧ VD B fr G1 σ1.verAt w (.pn fr k []) u x ∧ x.hasOwn = false ∧ x.bare = true := fun h a b => by
          obtain ⟨rfl, rfl⟩ := ret_ok (C := C) h
          exact ⟨G, .refl _ S, hv0, a, b⟩
        have shareIt : (Prog.bind (Pv.share d) fun x => pure (D.t x)).run C σ = some (.ok x, σ1) → ∃ G1, GS B fr k G σ G1 σ1 act w ∧ VD B fr G1 σ1.verAt w (.pn fr k []) u x ∧ x.hasOwn = false ∧ x.bare = true := fun h => by
          obtain ⟨y, σ3, h6, h7⟩ := bind_ok h
          obtain ⟨rfl, rfl⟩ := pure_ok h7
          obtain ⟨G1, a, b⟩ := S.share hv0 h6
          exact ⟨G1, a, .t _ _ _ b, rfl, rfl⟩
        cases d with
        | als => exact shareIt h2
        | own => exact shareIt h2
        | t => exact keepIt h2 rfl rfl
        | lp => exact keepIt h2 rfl rfl
        | fp => exact keepIt h2 rfl rfl
        | clo => exact keepIt h2 rfl rfl
        | _ => cases h2
      have hc' : Cells B fr G1 σ1.verAt w (k + 1) us ds := ⟨by simpa using hlen, fun u hu => h1 u (List.mem_cons_of_mem _ hu), fun j u' d' hu hd => by
        have := hall (j + 1) u' d' hu hd
        rw [show k + (j + 1) = k + 1 + j from by omega] at this
        exact a1.other (by omega) this⟩
      obtain ⟨G2, a2, b2, n3⟩ := ih a1.sim hc' h4
      have hx := a2.other (j := k) (by omega) b1
      refine ⟨G2, (a1.toGR (k := k) (n := ds.length + 1) (by omega) (by omega)).trans (a2.widen (by omega) (by omega)), ⟨by simp [b2.1], h1, fun j u' d' hu hd => ?_⟩, fun d' hd' => ?_⟩
      · cases j with
        | zero => cases hu; cases hd; exact hx
        | succ j =>
          have := b2.2.2 j u' d' hu hd
          rwa [show k + 1 + j = k + (j + 1) from by omega] at this
      · rcases List.mem_cons.1 hd' with rfl | hd'
        · exact ⟨n1, n2⟩
        · exact n3 d' hd'
theorem hasOwnL_all {ds : List D} (h : ∀ d ∈ ds, d.hasOwn = false) : hasOwnL ds = false := by
  induction ds with
  | nil => rfl
  | cons d ds ih => simp [hasOwnL, h d (List.mem_cons_self ..), ih fun d hd => h d (List.mem_cons_of_mem _ hd)]
theorem Sim.shareA {i M : Nat} {v : Value} {d a : D} (S : Sim B fr G σ act w) (hi : i < M) (hv : VD B fr G σ.verAt w (.pn fr i []) v d) (h : (Pv.shareA d).run C σ = some (.ok a, σ')) :
    ∃ G', Sim B fr G' σ' act w ∧ Step fr G w G' w ∧ Keep fr G σ.verAt w G' σ'.verAt w (PB fr i M) (fun _ _ => True) ∧ VD B fr G' σ'.verAt w (.pn fr i []) v a ∧ a.hasOwn = false ∧ a.plain = true := by
  have ofGS : ∀ {G1 : Gh} {σ1 : St} {x : T}, GS B fr i G σ G1 σ1 act w → RT G1.sh w v x → ∃ G', Sim B fr G' σ1 act w ∧ Step fr G w G' w ∧ Keep fr G σ.verAt w G' σ1.verAt w (PB fr i M) (fun _ _ => True) ∧ VD B fr G' σ1.verAt w (.pn fr i []) v (.t x) ∧ (D.t x).hasOwn = false ∧ (D.t x).plain = true :=
    fun a b => ⟨_, a.sim, a.step, a.keep.weaken (fun _ h => h.pend) (fun _ _ h => h), .t _ _ _ b, rfl, rfl⟩
  have keepIt : (Prog.ret d).run C σ = some (.ok a, σ') → d.hasOwn = false → d.plain = true → ∃ G', Sim B fr G' σ' act w ∧ Step fr G w G' w ∧ Keep fr G σ.verAt w G' σ'.verAt w (PB fr i M) (fun _ _ => True) ∧ VD B fr G' σ'.verAt w (.pn fr i []) v a ∧ a.hasOwn = false ∧ a.plain = true := fun h x y => by
    obtain ⟨rfl, rfl⟩ := ret_ok (C := C) h
    exact ⟨G, S, .refl _ _ _, .refl _ _ _ _ _ _, hv, x, y⟩
  have shareIt : (Prog.bind (Pv.share d) fun x => pure (D.t x)).run C σ = some (.ok a, σ') → ∃ G', Sim B fr G' σ' act w ∧ Step fr G w G' w ∧ Keep fr G σ.verAt w G' σ'.verAt w (PB fr i M) (fun _ _ => True) ∧ VD B fr G' σ'.verAt w (.pn fr i []) v a ∧ a.hasOwn = false ∧ a.plain = true := fun h => by
    obtain ⟨x, σ1, h1, h2⟩ := bind_ok h
    obtain ⟨rfl, rfl⟩ := pure_ok h2
    obtain ⟨G1, a1, b1⟩ := S.share hv h1
    exact ofGS a1 b1
  cases d with
  | agg ds =>
    simp only [Pv.shareA] at h
    obtain ⟨_, σ1, h1, h2⟩ := bind_ok h
    obtain ⟨hl, rfl⟩ := need_ok h1
    obtain ⟨xs, σ1, h3, h4⟩ := bind_ok h2
    obtain ⟨rfl, rfl⟩ := pure_ok h4
    obtain ⟨G1, a1, hc1⟩ := S.cells (k := M) hv hl hi
    obtain ⟨G2, a2, hc2, hn⟩ := a1.sim.shareC hc1 h3
    refine ⟨G2, a2.sim, a1.step.trans a2.step, (a1.keep.weaken (fun _ h => h.pend) (fun _ _ h => h)).trans (a2.keep.weaken (fun _ h => h.pendR) (fun _ _ h => h)), ?_, hasOwnL_all fun d hd => (hn d hd).1, ?_⟩
    · cases hv with
      | agg p us ds hs h1 hh =>
        refine .agg _ _ _ (by have := hc2.1; simpa [Value.cells] using this) h1 fun j u d hu hd => ?_
        exact (hc2.2.2 j u d (by simpa [Value.cells] using hu) hd).free _ (hn d (List.mem_of_getElem? hd)).1
    · simp only [D.plain, List.all_eq_true]
      exact fun d hd => (hn d hd).2
  | als => exact shareIt h
  | own => exact shareIt h
  | t => exact keepIt h rfl rfl
  | lp => exact keepIt h rfl rfl
  | fp => exact keepIt h rfl rfl
  | clo => exact keepIt h rfl rfl
  | _ => cases h

theorem Sim.shareAs {k M : Nat} {vs : List Value} {ds as : List D} (S : Sim B fr G σ act w) (hM : k + ds.length ≤ M) (hl : vs.length = ds.length) (hv : ∀ (i : Nat) v d, vs[i]? = some v → ds[i]? = some d → VD B fr G σ.verAt w (.pn fr (k + i) []) v d)
    (h : (Pv.shareAs ds).run C σ = some (.ok as, σ')) :
    ∃ G', Sim B fr G' σ' act w ∧ Step fr G w G' w ∧ Keep fr G σ.verAt w G' σ'.verAt w (fun p => p.isPn = true ∧ False) (fun _ _ => True) ∧ vs.length = as.length ∧ ∀ (i : Nat) v a, vs[i]? = some v → as[i]? = some a → VD B fr G' σ'.verAt w (.pn fr (k + i) []) v a ∧ a.hasOwn = false ∧ a.plain = true := by
  induction ds generalizing k vs as G σ with
  | nil =>
    obtain ⟨rfl, rfl⟩ := ret_ok (C := C) h
    exact ⟨G, S, .refl _ _ _, .refl _ _ _ _ _ _, hl, by simp⟩
  | cons d ds ih =>
    cases vs with
    | nil => cases hl
    | cons v vs =>
      simp only [List.length_cons] at hM hl
      simp only [Pv.shareAs] at h
      obtain ⟨x, σ1, h2, h3⟩ := bind_ok h
      obtain ⟨xs, σ2, h4, h5⟩ := bind_ok h3
      obtain ⟨rfl, rfl⟩ := pure_ok h5
      obtain ⟨G1, S1, st1, K1, b1, n1, n2⟩ := S.shareA (M := M) (by omega) (hv 0 v d rfl rfl) h2
      obtain ⟨G2, S2, st2, K2, hl2, b2⟩ := ih (k := k + 1) (vs := vs) S1 (by omega) (by omega) (fun i v' d' hv' hd' => by
        have hi := (List.getElem?_eq_some_iff.1 hd').1
        have := hv (i + 1) v' d' hv' hd'
        rw [show k + (i + 1) = k + 1 + i from by omega] at this
        exact this.keep K1 (PB.closed _ _ _) fun _ => ⟨k + 1 + i, [], rfl, by omega, by omega⟩) h4
      refine ⟨G2, S2, st1.trans st2, (K1.weaken (fun _ h => h.2.elim) (fun _ _ h => h)).trans K2, by simp [hl2], fun i v' a hv' ha => ?_⟩
      cases i with
      | zero => cases hv'; cases ha; exact ⟨b1.keep K2 (fun _ _ h => h.2.elim) fun e => (by rw [n1] at e; cases e), n1, n2⟩
      | succ i =>
        have := b2 i v' a hv' ha
        rwa [show k + 1 + i = k + (i + 1) from by omega] at this
end Go.Pv

/- A call that may hand on places: the machine's. -/
namespace Go.Pv
open Go.RowKit
variable {P : Program} {B fr : Nat} {G : Gh} {σ σ' : St} {act : Act} {w w' : World} {C : Callee} {K : Act → World → Prop} {Q : Exit → Act → World → Prop} {H : Hint}

theorem callF_ok {g : FuncId} {as : List D} {d : D} (h : (Prog.callF g as .ret).run C σ = some (.ok d, σ')) :
    ∃ d0 frs', C g (liftL σ.fr.length as) (liftF σ.fr.length (σ.fr ++ [σ.bx])) = some (.val d0, frs') ∧ d = unlift σ.fr.length d0 ∧
      σ' = { fr := (unliftF σ.fr.length frs').dropLast, bx := (unliftF σ.fr.length frs').getLastD [], tm := σ.tm, ver := σ.ver, vg := σ.vg + 1 } := by
  simp only [Prog.run] at h
  cases hc : C g (liftL σ.fr.length as) (liftF σ.fr.length (σ.fr ++ [σ.bx])) with
  | none => rw [hc] at h; cases h
  | some r =>
    obtain ⟨r, frs'⟩ := r
    rw [hc] at h
    cases r with
    | val d0 =>
      obtain ⟨e1, e2⟩ := Prod.mk.inj (Option.some.inj h)
      exact ⟨d0, frs', rfl, (Except.ok.inj e1).symm, e2.symm⟩
    | pan x =>
      obtain ⟨e1, e2⟩ := Prod.mk.inj (Option.some.inj h)
      cases e1
theorem lift_hasOwn {n : Nat} {d : D} (h : d.plain = true) (ho : d.hasOwn = false) : (lift n d).hasOwn = false := by
  cases d with
  | agg ds =>
    refine hasOwnL_all fun d hd => ?_
    obtain ⟨i, hi⟩ := List.getElem?_of_mem hd
    rw [getElem?_liftL, Option.map_eq_some_iff] at hi
    obtain ⟨d', hd', rfl⟩ := hi
    have h1 := hasOwnL_at ho hd'
    have h2 := List.all_eq_true.1 h d' (List.mem_of_getElem? hd')
    cases d' <;> first | rfl | cases h1 | cases h2
  | tup => cases h
  | _ => first | rfl | cases ho
def backR (fr : Nat) : Ap → Ap
  | .pn f j r => if f = fr + 1 ∧ j = 0 then .pn fr 0 r else .pn f j r
  | p => p
theorem outOkL_at {ds : List D} {i : Nat} {d : D} (h : outOkL ds = true) (hd : ds[i]? = some d) : d.outOk = true := by
  induction ds generalizing i with
  | nil => simp at hd
  | cons a l ih =>
    simp only [outOkL, Bool.and_eq_true] at h
    cases i with
    | zero => cases hd; exact h.1
    | succ i => exact ih h.2 (by simpa using hd)
theorem VD.unliftOut {G' : Gh} {vr vr' : Pl → Nat} {p : Ap} {v : Value} {d : D} (h : VD B (fr + 1) G' vr0 w p v d) : d.outOk = true → ∀ path, p = .pn (fr + 1) 0 path →
    VD B fr ((G.back G' fr vr).retag (backR fr)) vr' w (.pn fr 0 path) v (Pv.unlift fr d) := by
  have hrt : ∀ b, G'.sh b → b < w.heap.size → ((G.back G' fr vr).retag (backR fr)).sh b ∧ w.heap[b]? = w.heap[b]? := fun b hb _ => ⟨retag_none.2 hb, rfl⟩
  have htag : ∀ {g path}, G'.L g = some (.own (.pn (fr + 1) 0 path)) → ((G.back G' fr vr).retag (backR fr)).L g = some (.own (.pn fr 0 path)) := fun {g path} hg => by
    have := retag_own (G := G.back G' fr vr) (ρ := backR fr) (g := g) hg
    rwa [show backR fr (.pn (fr + 1) 0 path) = .pn fr 0 path from if_pos ⟨rfl, rfl⟩] at this
  induction h with
  | t p v x h => exact fun _ path _ => .t _ v x (h.mono hrt)
  | agg p us ds hs h1 h ih =>
    intro ho path e
    refine .agg _ us _ (by rw [length_unliftL]; exact hs) h1 fun j u d hu hd => ?_
    rw [getElem?_unliftL, Option.map_eq_some_iff] at hd
    obtain ⟨d', hd', rfl⟩ := hd
    exact ih j u d' hu hd' (outOkL_at ho hd') (path ++ [j]) (by rw [e]; rfl)
  | tup p us ds hs h ih =>
    intro ho path e
    refine .tup _ us _ (by rw [length_unliftL]; exact hs) fun j u d hu hd => ?_
    rw [getElem?_unliftL, Option.map_eq_some_iff] at hd
    obtain ⟨d', hd', rfl⟩ := hd
    exact ih j u d' hu hd' (outOkL_at ho hd') (path ++ [j]) (by rw [e]; rfl)
  | own p v e sz els us ho hr hsz hL hq =>
    intro _ path ep
    subst ep
    exact .own _ v e sz els us ho (hr.mono hrt) hsz (fun g hg => htag (hL g hg)) (fun q _ e => by cases q <;> cases e)
  | omap p g es clock kvs hg hm hB hL hq =>
    intro _ path ep
    subst ep
    exact .omap _ g es clock kvs hg hm hB (htag hL) (fun q _ e => by cases q <;> cases e)
  | fp p f s o hf ha =>
    intro _ path ep
    simp only [Pv.unlift]
    split
    · rename_i e; subst e; exact .lp (G := (G.back G' f vr).retag (backR f)) _ s o ha
    · exact .fp (G := (G.back G' fr vr).retag (backR fr)) _ f s o (by omega) ha
  | _ => exact fun ho => by cases ho

theorem Sim.callB {g : FuncId} {dst : Option Tmp} {as : List D} {vs : List Value} (hC : Good P C) (S : Sim B fr G σ act w) (hl : vs.length = as.length)
    (hv : ∀ (i : Nat) v a, vs[i]? = some v → as[i]? = some a → VD B fr G σ.verAt w (.pn fr (0 + i) []) v a ∧ a.hasOwn = false ∧ a.plain = true)
    (h : (do let r ← Prog.callF g as .ret; Pv.put H dst r : Prog Unit).run C σ = some (.ok (), σ')) :
    Calls P g vs.toArray w fun out w' => ∃ v G2, out = .returned v ∧ Sim B fr G2 σ' (act.put dst v) w' ∧ Step fr G w G2 w' := by
  obtain ⟨d, σ2, h1, h2⟩ := bind_ok h
  obtain ⟨d0, frs', hCg, rfl, e2⟩ := callF_ok h1
  obtain ⟨F, hFl⟩ := S.enterB
  have hn := S.frl
  rw [hn] at hCg e2 h2
  have hargs : ∀ (i : Nat) u d, vs.toArray[i]? = some u → (liftL fr as)[i]? = some d → d.hasOwn = false ∧ VD B (liftF fr (σ.fr ++ [σ.bx])).length (G.anew fr σ.verAt) vr0 w (.pn (liftF fr (σ.fr ++ [σ.bx])).length i []) u d := fun i u d hu hd => by
    rw [getElem?_liftL, Option.map_eq_some_iff] at hd
    obtain ⟨a, ha, rfl⟩ := hd
    obtain ⟨x, y, z⟩ := hv i u a (by simpa using hu) ha
    refine ⟨lift_hasOwn z y, ?_⟩
    rw [hFl]
    exact (x.lift z fun e => (by rw [y] at e; cases e)).free _ (lift_hasOwn z y)
  obtain ⟨d', hr, hout, hcalls⟩ := hC g _ _ _ _ hCg B (G.anew fr σ.verAt) w vs.toArray F (by rw [length_liftL]; simpa using hl) hargs
  cases hr
  refine hcalls.mono fun out w' ⟨v, G', ho, hfl, hF, st, hvd⟩ => ?_
  rw [hFl] at hfl st hvd
  obtain ⟨S3, st3⟩ := S.leaveB hF hfl st e2
  obtain ⟨S4, _, st4⟩ := S3.retag (ρ := backR fr) (KP := fun _ => False) (fun p hp => hp.elim) (fun p hp => by cases p <;> first | rfl | cases hp)
    (fun p f hf hlt => by cases p <;> first | rfl | (simp only [Ap.frame, Option.some.injEq] at hf; exact if_neg (by omega)))
  obtain ⟨G5, S5, st5⟩ := S4.put (i := 0) (hvd.unliftOut hout [] rfl) h2
  exact ⟨v, G5, ho, S5, (st3.trans st4).trans st5⟩
end Go.Pv

/- Calls on data: what is lent, and the frame behind. -/
namespace Go.Pv
open Go.RowKit
variable {P : Program} {B fr : Nat} {G : Gh} {σ σ' : St} {act : Act} {w w' : World} {C : Callee} {K : Act → World → Prop} {Q : Exit → Act → World → Prop} {H : Hint}

/-! ### places are shared from now on -/
def St.at (σ : St) : Pl → D
  | .tm t => σ.tm.getD t .dead
  | .bx s o => (σ.bx.getD s []).getD o .dead
  | .fb f s o => ((σ.fr.getD f []).getD s []).getD o .dead
theorem getPl_run (C : Callee) (q : Pl) : (getPl q).run C σ = some (.ok (σ.at q), σ) := by cases q <;> rfl
theorem getD_set_ne {α : Type} (l : List α) (i j : Nat) (a d : α) (h : i ≠ j) : (l.set i a).getD j d = l.getD j d := by simp [List.getD_eq_getElem?_getD, List.getElem?_set_ne h]
theorem at_setPl_ne {q q' : Pl} {d : D} (h : q' ≠ q) (hh : σ.hasPl q) : (σ.setPl q d).at q' = σ.at q' := by
  cases q with
  | tm t =>
    cases q' with
    | tm t' => exact getD_set_ne _ _ _ _ _ fun e => h (by rw [e])
    | _ => rfl
  | bx s o =>
    cases q' with
    | bx s' o' =>
      show ((σ.bx.set s _).getD s' []).getD o' .dead = _
      by_cases e : s = s'
      · subst e
        rw [getD_set_self _ _ _ _ hh.1]
        exact getD_set_ne _ _ _ _ _ fun e => h (by rw [e])
      · rw [getD_set_ne _ _ _ _ _ e]; rfl
    | _ => rfl
  | fb f s o =>
    cases q' with
    | fb f' s' o' =>
      have hin := St.fr_in hh
      show (((σ.fr.set f _).getD f' []).getD s' []).getD o' .dead = _
      by_cases e : f = f'
      · subst e
        rw [getD_set_self _ _ _ _ hin.1]
        by_cases e : s = s'
        · subst e
          rw [getD_set_self _ _ _ _ hin.2]
          exact getD_set_ne _ _ _ _ _ fun e => h (by rw [e])
        · rw [getD_set_ne _ _ _ _ _ e]; rfl
      · rw [getD_set_ne _ _ _ _ _ e]; rfl
    | _ => rfl
/-- A block that the row at one of the places has. -/
def LentAt (fr : Nat) (G : Gh) (σ : St) (act : Act) (w : World) (qs : List Pl) (b : Nat) : Prop := ∃ q ∈ qs, ∃ v e sz els, σ.at q = .own e sz els ∧ At fr G act w q v ∧ v.ownBlock = some b
theorem Sim.at (S : Sim B fr G σ act w) (q : Pl) : σ.at q = .dead ∨ ∃ v, At fr G act w q v ∧ VD B fr G σ.verAt w (q.abs fr) v (σ.at q) := (S.getPl (getPl_run (fun _ _ _ => none) q)).2
theorem Sim.demoteL {qs : List Pl} {X : Nat → Prop} (S : Sim B fr G σ act w) (hX : ∀ b, X b → G.L b = none ∨ LentAt fr G σ act w qs b) (h : (Pv.demoteL qs).run C σ = some (.ok (), σ')) :
    ∃ G', Sim B fr G' σ' act w ∧ Step fr G w G' w ∧ (∀ b, X b → G'.L b = none) ∧ (∀ b, G.L b = none → G'.L b = none) ∧ ∀ g i r, G.L g = some (.own (.pn fr i r)) → G'.L g = some (.own (.pn fr i r)) := by
  induction qs generalizing G σ with
  | nil =>
    obtain ⟨_, rfl⟩ := ret_ok (C := C) h
    exact ⟨G, S, .refl _ _ _, fun b hb => (hX b hb).resolve_right (by rintro ⟨q, hq, _⟩; simp at hq), fun _ h => h, fun _ _ _ h => h⟩
  | cons q qs ih =>
    simp only [Pv.demoteL] at h
    obtain ⟨_, σ1, h1, h2⟩ := bind_ok h
    simp only [demote] at h1
    obtain ⟨d, σ2, h3, h4⟩ := bind_ok h1
    rw [getPl_run] at h3
    obtain ⟨e1, e2⟩ := Prod.mk.inj (Option.some.inj h3)
    cases e1
    subst e2
    split at h4
    · rename_i e sz els hd
      obtain ⟨hh, rfl⟩ := putPl_set h4
      rcases S.at q with h0 | ⟨v, hat, hvd⟩
      · rw [hd] at h0; cases h0
      · rw [hd] at hvd
        obtain ⟨S1, e1, K1, st1⟩ := S.shareAt hat hvd h4
        have hfree : ∀ b, v.ownBlock = some b → (G.free v).L b = none := fun b hb => if_pos hb
        have hkeep : ∀ b, G.L b = none → (G.free v).L b = none := fun b hb => free_sh hb
        obtain ⟨G2, S2, st2, x1, x2, x3⟩ := ih S1 (fun b hb => by
          rcases hX b hb with hb | ⟨q', hq', v', e', sz', els', hc, hat', hob⟩
          · exact .inl (hkeep b hb)
          · by_cases hqq : q' = q
            · subst hqq
              exact .inl (hfree b (by rw [hat.same hat']; exact hob))
            · rcases List.mem_cons.1 hq' with rfl | hq'
              · exact absurd rfl hqq
              · exact .inr ⟨q', hq', v', e', sz', els', by rw [at_setPl_ne hqq hh]; exact hc, by cases q' <;> exact hat', hob⟩) h2
        refine ⟨G2, S2, st1.trans st2, x1, fun b hb => x2 b (hkeep b hb), fun g i r hg => x3 g i r ?_⟩
        exact (K1.own g _ hg (by cases q <;> simp [Pl.abs])).1
    · rename_i hno
      obtain ⟨_, rfl⟩ := ret_ok (C := C) h4
      exact ih S (fun b hb => (hX b hb).imp id fun ⟨q', hq', v', e', sz', els', hc, hat', hob⟩ => by
        rcases List.mem_cons.1 hq' with rfl | hq'
        · exact absurd hc (hno _ _ _)
        · exact ⟨q', hq', v', e', sz', els', hc, hat', hob⟩) h2

/-! ### what is lent -/
/-- Blocks that the callee may read beside the shared ones. -/
def Lent (fr : Nat) (G : Gh) (σ : St) (act : Act) (w : World) (qs : List Pl) (b : Nat) : Prop := (∃ i r, G.L b = some (.own (.pn fr i r))) ∨ LentAt fr G σ act w qs b
theorem Sim.lendOk {qs : List Pl} {i : Nat} {path : List Nat} {v : Value} {d : D} {x : T} (S : Sim B fr G σ act w) (hv : VD B fr G σ.verAt w (.pn fr i path) v d) (hq : ∀ q k sz lo n, d = .als q k sz lo n → q ∈ qs) (h : (Pv.lend d).run C σ = some (.ok x, σ')) :
    σ = σ' ∧ RT (fun b => G.sh b ∨ Lent fr G σ act w qs b) w v x := by
  cases d with
  | t y =>
    obtain ⟨rfl, rfl⟩ := ret_ok (C := C) h
    cases hv with
    | t p v x h => exact ⟨rfl, h.mono (fun b hb _ => ⟨.inl hb, rfl⟩)⟩
  | own e sz els =>
    obtain ⟨rfl, rfl⟩ := ret_ok (C := C) h
    exact ⟨rfl, hv.toT (fun b hb => .inl hb) (fun g hg => .inr (.inl ⟨_, _, hv.ownTag g hg⟩))⟩
  | als q k sz lo n =>
    simp only [Pv.lend] at h
    obtain ⟨⟨e, sz', els⟩, σ1, h1, h4⟩ := bind_ok h
    clear h
    obtain ⟨_, _, d0, hgp, hd0⟩ := rowAt_ok h1
    obtain ⟨rfl, rfl, v0, hat, ho⟩ := S.rowAt h1
    obtain ⟨_, σ1, h2, h5⟩ := bind_ok h4
    clear h4
    obtain ⟨hn, rfl⟩ := need_ok h2
    obtain ⟨rfl, rfl⟩ := pure_ok h5
    simp only [Bool.and_eq_true, beq_iff_eq, decide_eq_true_eq] at hn
    have hatq : σ.at q = .own e sz' els := by
      rw [getPl_run] at hgp
      obtain ⟨e1, _⟩ := Prod.mk.inj (Option.some.inj hgp)
      rw [hd0] at e1
      exact Except.ok.inj e1
    exact ⟨rfl, als_RT ho hv hn.1 hn.2 (fun b hb => .inl hb) (fun g hg => .inr (.inr ⟨q, hq q _ _ _ _ rfl, v0, e, sz', els, hatq, hat, hg⟩))⟩
  | _ => cases h
end Go.Pv

/- Calls on data: the machine's. -/
namespace Go.Pv
open Go.RowKit
variable {P : Program} {B fr : Nat} {G : Gh} {σ σ' : St} {act : Act} {w w' : World} {C : Callee} {K : Act → World → Prop} {Q : Exit → Act → World → Prop} {H : Hint}

theorem call_ok {g : FuncId} {as : List D} {d : D} (h : (Prog.call g as .ret).run C σ = some (.ok d, σ')) : ∃ frs', C g as [] = some (.val d, frs') ∧ σ = σ' := by
  simp only [Prog.run] at h
  cases hc : C g as [] with
  | none => rw [hc] at h; cases h
  | some r =>
    obtain ⟨r, frs'⟩ := r
    rw [hc] at h
    cases r with
    | val d0 =>
      obtain ⟨e1, e2⟩ := Prod.mk.inj (Option.some.inj h)
      cases Except.ok.inj e1
      exact ⟨frs', rfl, e2⟩
    | pan x =>
      obtain ⟨e1, e2⟩ := Prod.mk.inj (Option.some.inj h)
      cases e1

open Classical in
/-- What a callee sees that gets data alone. -/
noncomputable def Gh.lock (G : Gh) (lb : Nat → Prop) : Gh := { L := fun g => if G.L g = none ∨ lb g then none else some .junk, hv := fun _ _ => undef, hb := fun _ _ => 0, al := fun _ _ => False }
theorem lock_none {lb : Nat → Prop} {g : Nat} : (G.lock lb).L g = none ↔ G.L g = none ∨ lb g := by
  unfold Gh.lock
  dsimp only
  split <;> simp_all
theorem lock_junk {lb : Nat → Prop} {g : Nat} (h : ¬ (G.L g = none ∨ lb g)) : (G.lock lb).L g = some .junk := by unfold Gh.lock; exact if_neg h
theorem Sim.locked {lb : Nat → Prop} (S : Sim B fr G σ act w) : FrS B (G.lock lb) [] w := by
  refine ⟨rfl, fun t d hd => by simp at hd, fun s c hc => by simp at hc, ⟨fun s _ h => h, fun f b hb => by simp at hb⟩, fun f b hb => by simp at hb, rfl, fun f s _ h => h, fun f s h => h.elim, fun g τ h => ?_, S.base, rfl⟩
  by_cases hc : G.L g = none ∨ lb g
  · rw [lock_none.2 hc] at h; cases h
  · rw [lock_junk hc] at h
    cases h
    have : G.L g ≠ none := fun e => hc (.inl e)
    obtain ⟨τ', hτ⟩ := Option.ne_none_iff_exists'.1 this
    exact ⟨(S.old g τ' hτ).1, .inl rfl⟩

/-- The caller's ghost behind such a call (n: how many blocks there were). -/
def backT (fr : Nat) : Tag → Option Tag
  | .own (.pn f i r) => if f = fr then none else some (.own (.pn f i r))
  | τ => some τ
def newT (fr : Nat) : Tag → Tag
  | .own (.pn 0 0 r) => .own (.pn fr 0 r)
  | _ => .junk
def Gh.behind (G G' : Gh) (fr n : Nat) : Gh := { G with L := fun g => if g < n then (G.L g).bind (backT fr) else (G'.L g).map (newT fr) }

theorem Sim.behind {G' : Gh} {lb : Nat → Prop} {frs' : Frames} (S : Sim B fr G σ act w) (F : FrS B G' frs' w') (st : Step 0 (G.lock lb) w G' w') :
    Sim B fr (G.behind G' fr w.heap.size) σ act w' ∧ Step fr G w (G.behind G' fr w.heap.size) w' := by
  have hw : ∀ g, g < w.heap.size → w'.heap[g]? = w.heap[g]? := fun g hg => by
    by_cases hc : G.L g = none ∨ lb g
    · exact (st.sh g hg (lock_none.2 hc)).2
    · exact (st.junk g (lock_junk hc)).2
  have hlt : ∀ g, g < w.heap.size → (G.behind G' fr w.heap.size).L g = (G.L g).bind (backT fr) := fun g hg => if_pos hg
  have hL : ∀ g τ, G.L g = some τ → (∀ i r, τ ≠ .own (.pn fr i r)) → (G.behind G' fr w.heap.size).L g = some τ := fun g τ h hn => by
    rw [hlt g (S.old g τ h).1, h]
    show backT fr τ = some τ
    cases τ with
    | own p =>
      cases p with
      | pn f i r =>
        show (if _ then _ else _) = _
        rw [if_neg (fun e => hn i r (by rw [e]))]
      | _ => rfl
    | _ => rfl
  have Kp : Keep fr G σ.verAt w (G.behind G' fr w.heap.size) σ.verAt w' (fun p => p.isPn = false) (fun _ _ => True) := by
    refine ⟨st.size, fun g hg h => by rw [hlt g hg, h]; rfl, fun g _ hg => hw g hg, fun g p h hp => ⟨hL g _ h (fun i r e => by cases e; cases hp), hw g (S.old g _ h).1⟩, fun _ => Nat.le_refl _, fun _ _ => rfl, fun _ _ _ _ => rfl, fun _ _ h => ⟨h, rfl⟩, fun f s h _ => ⟨?_, hw _ (S.old _ _ (S.alt f s h)).1⟩⟩
    rw [S.alt f s h]
    exact hL _ _ (S.alt f s h) (by simp)
  have hC : Closed fun p => p.isPn = false := fun p i h => by cases p <;> first | rfl | exact h
  refine ⟨S.upd Kp hC S.len (fun t d hd => .inl ⟨hd, rfl, fun _ => rfl⟩) (fun s c hc hne => .inl ⟨hc, trivial, fun _ _ _ _ => rfl⟩) S.bxn (fun f b hb s c hc hne => .inl ⟨⟨b, hb, hc⟩, trivial, fun _ _ _ _ => rfl⟩)
    S.frl S.alf (fun f s h => hL _ _ (S.alt f s h) (by simp)) (fun g τ h => ?_) S.dfs, ⟨st.os, st.tape, st.output, st.size, fun g hg h => ⟨Kp.sh g hg h, hw g hg⟩, fun g h => ⟨hL g _ h (by simp), hw g (S.old g _ h).1⟩, fun g p f h hf hl => ⟨hL g _ h (fun i r e => ?_), hw g (S.old g _ h).1⟩, fun _ _ _ h => ⟨h, rfl⟩⟩⟩
  · by_cases hg : g < w.heap.size
    · rw [hlt g hg] at h
      cases hτ : G.L g with
      | none => rw [hτ] at h; cases h
      | some τ' =>
        rw [hτ] at h
        have h : backT fr τ' = some τ := h
        have : τ' = τ := by
          cases τ' with
          | own p =>
            cases p with
            | pn f i r =>
              simp only [backT] at h
              split at h
              · cases h
              · exact Option.some.inj h
            | _ => exact Option.some.inj h
          | _ => exact Option.some.inj h
        subst this
        exact ⟨Nat.lt_of_lt_of_le hg st.size, (S.old g _ hτ).2⟩
    · have h : (if g < w.heap.size then _ else _) = some τ := h
      rw [if_neg hg] at h
      cases hτ : G'.L g with
      | none => rw [hτ] at h; cases h
      | some τ' => exact ⟨(F.old g τ' hτ).1, .inr (Nat.le_trans S.base (Nat.le_of_not_lt hg))⟩
  · cases e
    simp only [Ap.frame, Option.some.injEq] at hf
    omega

theorem VD.flatOk {G' : Gh} {fr' : Nat} {vr vr' : Pl → Nat} {p : Ap} {v : Value} {d : D} (h : VD B fr G vr w p v d) : d.flat = true → ∀ p', VD B fr' G' vr' w' p' v d := by
  have flatL_at : ∀ {ds : List D} {i : Nat} {d : D}, flatL ds = true → ds[i]? = some d → d.flat = true := fun {ds} => by
    induction ds with
    | nil => intro i d _ hd; simp at hd
    | cons a l ih =>
      intro i d h hd
      simp only [flatL, Bool.and_eq_true] at h
      cases i with
      | zero => cases hd; exact h.1
      | succ i => exact ih h.2 (by simpa using hd)
  induction h with
  | t p v x h => exact fun hf p' => by
                   cases h with
                   | sc v h => exact .t _ _ _ (.sc _ h)
                   | sl => cases hf
                   | pt => cases hf
  | agg p us ds hs h1 h ih => exact fun hf p' => .agg _ us ds hs h1 fun j u d hu hd => ih j u d hu hd (flatL_at hf hd) _
  | tup p us ds hs h ih => exact fun hf p' => .tup _ us ds hs fun j u d hu hd => ih j u d hu hd (flatL_at hf hd) _
  | dead p v => exact fun _ _ => .dead _ _
  | _ => exact fun hf => by cases hf
/-- A result of a callee that got data alone. -/
theorem VD.export {G' G2 : Gh} {vr vr' : Pl → Nat} {p : Ap} {v : Value} {d : D} (hsh : ∀ b, b < w.heap.size → G'.sh b → G2.sh b) (hown : ∀ g r, G'.L g = some (.own (.pn 0 0 r)) → G2.L g = some (.own (.pn fr 0 r)))
    {z : Nat} (hz : z = 0) (h : VD B z G' vr w p v d) : d.outOk = true → ∀ path, p = .pn 0 0 path → VD B fr G2 vr' w (.pn fr 0 path) v d := by
  have hrt : ∀ b, G'.sh b → b < w.heap.size → G2.sh b ∧ w.heap[b]? = w.heap[b]? := fun b hb hl => ⟨hsh b hl hb, rfl⟩
  induction h with
  | t p v x h => exact fun _ path _ => .t _ v x (h.mono hrt)
  | agg p us ds hs h1 h ih => exact fun ho path e => .agg _ us _ hs h1 fun j u d hu hd => ih j u d hu hd (outOkL_at ho hd) (path ++ [j]) (by rw [e]; rfl)
  | tup p us ds hs h ih => exact fun ho path e => .tup _ us _ hs fun j u d hu hd => ih j u d hu hd (outOkL_at ho hd) (path ++ [j]) (by rw [e]; rfl)
  | own p v e sz els us ho hr hsz hL hq =>
    intro _ path ep
    subst ep
    exact .own _ v e sz els us ho (hr.mono hrt) hsz (fun g hg => hown _ _ (hL g hg)) (fun q _ e => by cases q <;> cases e)
  | omap p g es clock kvs hg hm hB hL hq =>
    intro _ path ep
    subst ep
    exact .omap _ g es clock kvs hg hm hB (hown _ _ hL) (fun q _ e => by cases q <;> cases e)
  | fp p f s o hf ha => omega
  | _ => exact fun ho => by cases ho
end Go.Pv

/- Calls. -/
namespace Go.Pv
open Go.RowKit
variable {P : Program} {B fr : Nat} {G : Gh} {σ σ' : St} {act : Act} {w w' : World} {C : Callee} {K : Act → World → Prop} {Q : Exit → Act → World → Prop} {H : Hint}

theorem Sim.lendL {qs : List Pl} {i j0 : Nat} {us : List Value} {ds : List D} {xs : List T} (S : Sim B fr G σ act w) (hl : us.length = ds.length) (hv : ∀ (j : Nat) u d, us[j]? = some u → ds[j]? = some d → VD B fr G σ.verAt w (.pn fr i [j0 + j]) u d)
    (hq : ∀ q ∈ D.places.placesL ds, q ∈ qs) (h : (Pv.lendL ds).run C σ = some (.ok xs, σ')) :
    σ = σ' ∧ us.length = xs.length ∧ ∀ (j : Nat) u x, us[j]? = some u → xs[j]? = some x → RT (fun b => G.sh b ∨ Lent fr G σ act w qs b) w u x := by
  induction ds generalizing us xs j0 with
  | nil =>
    obtain ⟨rfl, rfl⟩ := ret_ok (C := C) h
    exact ⟨rfl, hl, by simp⟩
  | cons d ds ih =>
    cases us with
    | nil => cases hl
    | cons u us =>
      simp only [Pv.lendL] at h
      obtain ⟨x, σ1, h1, h2⟩ := bind_ok h
      have hsub : ∀ q ∈ D.places.placesL ds, q ∈ D.places.placesL (d :: ds) := fun q hq => by cases d <;> simp_all [D.places.placesL]
      obtain ⟨rfl, hx⟩ := S.lendOk (qs := qs) (hv 0 u d rfl rfl) (fun q k sz lo n e => hq q (by subst e; simp [D.places.placesL])) h1
      obtain ⟨xs', σ2, h3, h4⟩ := bind_ok h2
      obtain ⟨rfl, rfl⟩ := pure_ok h4
      obtain ⟨rfl, hl2, hr⟩ := ih (j0 := j0 + 1) (us := us) (by simpa using hl) (fun j u' d' hu hd => by
        have := hv (j + 1) u' d' hu hd
        rwa [show j0 + (j + 1) = j0 + 1 + j from by omega] at this) (fun q h => hq q (hsub q h)) h3
      refine ⟨rfl, by simp [hl2], fun j u' x' hu hx' => ?_⟩
      cases j with
      | zero => cases hu; cases hx'; exact hx
      | succ j => exact hr j u' x' hu hx'
theorem Sim.lendA {qs : List Pl} {i : Nat} {v : Value} {d a : D} (S : Sim B fr G σ act w) (hv : VD B fr G σ.verAt w (.pn fr i []) v d) (hq : ∀ q ∈ d.places, q ∈ qs) (h : (Pv.lendA d).run C σ = some (.ok a, σ')) :
    σ = σ' ∧ a.hasOwn = false ∧ ∀ p, VD B 0 (G.lock (Lent fr G σ act w qs)) vr0 w p v a := by
  have lock : ∀ {v x}, RT (fun b => G.sh b ∨ Lent fr G σ act w qs b) w v x → RT (G.lock (Lent fr G σ act w qs)).sh w v x := fun h => h.mono fun b hb _ => ⟨lock_none.2 hb, rfl⟩
  have one : (Prog.bind (Pv.lend d) fun x => pure (D.t x)).run C σ = some (.ok a, σ') → (∀ q k sz lo n, d = .als q k sz lo n → q ∈ qs) → σ = σ' ∧ a.hasOwn = false ∧ ∀ p, VD B 0 (G.lock (Lent fr G σ act w qs)) vr0 w p v a := fun h hq => by
    obtain ⟨x, σ1, h1, h2⟩ := bind_ok h
    obtain ⟨rfl, rfl⟩ := pure_ok h2
    obtain ⟨rfl, hx⟩ := S.lendOk (qs := qs) hv hq h1
    exact ⟨rfl, rfl, fun p => .t _ _ _ (lock hx)⟩
  cases d with
  | agg ds =>
    simp only [Pv.lendA] at h
    obtain ⟨xs, σ1, h1, h2⟩ := bind_ok h
    obtain ⟨rfl, rfl⟩ := pure_ok h2
    cases hv with
    | agg p us ds hs h1' hh =>
      obtain ⟨rfl, hl, hr⟩ := S.lendL (qs := qs) (j0 := 0) (us := us.toList) (by simpa using hs) (fun j u d hu hd => by rw [Nat.zero_add]; exact hh j u d (by simpa using hu) hd) hq h1
      refine ⟨rfl, hasOwnL_all fun d hd => by obtain ⟨x, _, rfl⟩ := List.mem_map.1 hd; rfl, fun p => .agg _ _ _ (by simpa using hl) h1' fun j u d hu hd => ?_⟩
      rw [List.getElem?_map, Option.map_eq_some_iff] at hd
      obtain ⟨x, hx, rfl⟩ := hd
      exact .t _ _ _ (lock (hr j u x (by simpa using hu) hx))
  | als q k sz lo n => exact one h fun q' _ _ _ _ e => by cases e; exact hq q (by simp [D.places])
  | _ => exact one h (by intros; contradiction)
theorem Sim.lendAs {qs : List Pl} {k : Nat} {vs : List Value} {ds as : List D} (S : Sim B fr G σ act w) (hl : vs.length = ds.length) (hv : ∀ (i : Nat) v d, vs[i]? = some v → ds[i]? = some d → VD B fr G σ.verAt w (.pn fr (k + i) []) v d)
    (hq : ∀ q ∈ ds.flatMap D.places, q ∈ qs) (h : (Pv.lendAs ds).run C σ = some (.ok as, σ')) :
    σ = σ' ∧ vs.length = as.length ∧ ∀ (i : Nat) v a, vs[i]? = some v → as[i]? = some a → a.hasOwn = false ∧ ∀ p, VD B 0 (G.lock (Lent fr G σ act w qs)) vr0 w p v a := by
  induction ds generalizing vs as k with
  | nil =>
    obtain ⟨rfl, rfl⟩ := ret_ok (C := C) h
    exact ⟨rfl, hl, by simp⟩
  | cons d ds ih =>
    cases vs with
    | nil => cases hl
    | cons v vs =>
      simp only [Pv.lendAs] at h
      obtain ⟨x, σ1, h1, h2⟩ := bind_ok h
      obtain ⟨rfl, hx, hxv⟩ := S.lendA (qs := qs) (hv 0 v d rfl rfl) (fun q hq' => hq q (by simp [hq'])) h1
      obtain ⟨xs', σ2, h3, h4⟩ := bind_ok h2
      obtain ⟨rfl, rfl⟩ := pure_ok h4
      obtain ⟨rfl, hl2, hr⟩ := ih (k := k + 1) (vs := vs) (by simpa using hl) (fun j u' d' hu hd => by
        have := hv (j + 1) u' d' hu hd
        rwa [show k + (j + 1) = k + 1 + j from by omega] at this) (fun q h => hq q (by simp only [List.flatMap_cons, List.mem_append]; exact .inr h)) h3
      refine ⟨rfl, by simp [hl2], fun j u' x' hu hx' => ?_⟩
      cases j with
      | zero => cases hu; cases hx'; exact ⟨hx, hxv⟩
      | succ j => exact hr j u' x' hu hx'

theorem Sim.callA {g : FuncId} {dst : Option Tmp} {ds : List D} {vs : List Value} (hC : Good P C) (S : Sim B fr G σ act w) (hl : vs.length = ds.length) (hv : ∀ (i : Nat) v d, vs[i]? = some v → ds[i]? = some d → VD B fr G σ.verAt w (.pn fr (0 + i) []) v d)
    (h : (do
        let as ← Pv.lendAs ds
        let r ← Prog.call g as .ret
        if r.flat then Prog.ret () else Pv.demoteL (ds.flatMap D.places)
        Pv.put H dst r : Prog Unit).run C σ = some (.ok (), σ')) :
    Calls P g vs.toArray w fun out w' => ∃ v G2, out = .returned v ∧ Sim B fr G2 σ' (act.put dst v) w' ∧ Step fr G w G2 w' := by
  obtain ⟨as, σ1, h1, h2⟩ := bind_ok h
  obtain ⟨rfl, hl2, hargs⟩ := S.lendAs (qs := ds.flatMap D.places) hl hv (fun q h => h) h1
  obtain ⟨d, σ1, h3, h4⟩ := bind_ok h2
  obtain ⟨frs', hCg, rfl⟩ := call_ok h3
  obtain ⟨d', hr, hout, hcalls⟩ := hC g _ _ _ _ hCg B (G.lock (Lent fr G σ act w (ds.flatMap D.places))) w vs.toArray S.locked (by simpa using hl2) (fun i u d hu hd => ⟨(hargs i u d (by simpa using hu) hd).1, (hargs i u d (by simpa using hu) hd).2 _⟩)
  cases hr
  refine hcalls.mono fun out w' ⟨v, G', ho, hfl, hF, st, hvd⟩ => ?_
  obtain ⟨S1, st1⟩ := S.behind hF st
  have hw : ∀ b, b < w.heap.size → w'.heap[b]? = w.heap[b]? := fun g hg => by
    by_cases hc : G.L g = none ∨ Lent fr G σ act w (ds.flatMap D.places) g
    · exact (st.sh g hg (lock_none.2 hc)).2
    · exact (st.junk g (lock_junk hc)).2
  split at h4
  · rename_i hf
    obtain ⟨_, σ1, h5, h6⟩ := bind_ok h4
    obtain ⟨_, rfl⟩ := ret_ok (C := C) h5
    obtain ⟨G5, S5, st5⟩ := S1.put (i := 0) (hvd.flatOk hf (.pn fr 0 [])) h6
    exact ⟨v, G5, ho, S5, st1.trans st5⟩
  · obtain ⟨_, σ1, h5, h6⟩ := bind_ok h4
    have hlt : ∀ g, g < w.heap.size → (G.behind G' fr w.heap.size).L g = (G.L g).bind (backT fr) := fun g hg => if_pos hg
    have hge : ∀ g, ¬ g < w.heap.size → (G.behind G' fr w.heap.size).L g = (G'.L g).map (newT fr) := fun g hg => if_neg hg
    have hX : ∀ b, (b < w'.heap.size ∧ G'.L b = none) → (G.behind G' fr w.heap.size).L b = none ∨ LentAt fr (G.behind G' fr w.heap.size) σ act w' (ds.flatMap D.places) b := by
      rintro b ⟨hb', hb⟩
      by_cases hb2 : b < w.heap.size
      · by_cases hc : G.L b = none ∨ Lent fr G σ act w (ds.flatMap D.places) b
        · rw [hlt b hb2]
          rcases hc with hc | ⟨i, r, hc⟩ | ⟨q, hq, v0, e, sz, els, hat0, hat1, hob⟩
          · rw [hc]; exact .inl rfl
          · rw [hc]; exact .inl (if_pos rfl)
          · refine .inr ⟨q, hq, v0, e, sz, els, hat0, ?_, hob⟩
            have hbox : ∀ {F s o : Nat} {q : Pl}, q.fs fr = (F, s) → σ.box q ≠ [] → w.cell? ⟨G.hb F s, o, none⟩ = some v0 → w'.cell? ⟨G.hb F s, o, none⟩ = some v0 := fun {F s o q} e hne hc => by
              have ht := (S.boxOk hne).tag
              rw [e] at ht
              have hlt : G.hb F s < w.heap.size := (S.old _ _ ht).1
              exact (World.cell?_of_block (hw _ hlt)).trans hc
            cases q with
            | tm t => exact hat1
            | bx s o => exact hbox (q := .bx s o) rfl (fun h0 => by
                have h0 : σ.bx.getD s [] = [] := h0
                have : (σ.bx.getD s []).getD o .dead = .own e sz els := hat0
                rw [h0] at this; cases this) hat1
            | fb f s o => exact hbox (q := .fb f s o) rfl (fun h0 => by
                have h0 : (σ.fr.getD f []).getD s [] = [] := h0
                have : ((σ.fr.getD f []).getD s []).getD o .dead = .own e sz els := hat0
                rw [h0] at this; cases this) hat1
        · have := (st.junk b (lock_junk hc)).1
          rw [hb] at this; cases this
      · rw [hge b hb2, hb]; exact .inl rfl
    obtain ⟨G3, S3, st3, x1, x2, x3⟩ := S1.demoteL hX h5
    have hvd3 := VD.export (fr := fr) (G2 := G3) (vr' := σ1.verAt) (fun b hl hb => x1 b ⟨hl, hb⟩) (fun g r hg => x3 g 0 r (by
      have hnew : ¬ g < w.heap.size := fun hlt' => by
        by_cases hc : G.L g = none ∨ Lent fr G σ act w (ds.flatMap D.places) g
        · have := (st.sh g hlt' (lock_none.2 hc)).1
          rw [hg] at this; cases this
        · have := (st.junk g (lock_junk hc)).1
          rw [hg] at this; cases this
      rw [hge g hnew, hg]; rfl)) rfl hvd hout [] rfl
    obtain ⟨G5, S5, st5⟩ := S3.put (i := 0) hvd3 h6
    exact ⟨v, G5, ho, S5, (st1.trans st3).trans st5⟩
end Go.Pv

/- Calls: the operation; every operation. -/
namespace Go.Pv
open Go.RowKit
variable {P : Program} {B fr : Nat} {G : Gh} {σ σ' : St} {act : Act} {w w' : World} {C : Callee} {K : Act → World → Prop} {Q : Exit → Act → World → Prop} {H : Hint}

theorem callOk_run {g : FuncId} (h : callOk P g = true) (args : Array Value) : (callFunc g args).run P w = .ok (.enter g args) w := by
  unfold callOk at h
  split at h
  · rename_i fn hf
    simp only [Bool.and_eq_true, Bool.not_eq_true'] at h
    have hn : ¬ fn.name = "runtime.NumGoroutine" := by simpa using h.1
    have hb : ¬ fn.body = none := by intro e; rw [e] at h; cases h.2
    simp [callFunc, hf, hn, hb]
  · cases h
theorem wp_calls {o : Oper} {g : FuncId} {args : Array Value} (hr : (execOp act.eval o).run P w = .ok (.enter g args) w)
    (h : Calls P g args w fun out w' => ∃ v G2, out = .returned v ∧ Sim B fr G2 σ' (act.put o.dst v) w' ∧ Step fr G w G2 w') (hK : On B fr G w σ' K) : o.wp P act w K Q := by
  unfold Oper.wp
  rw [hr, Oper.upon_enter]
  refine h.mono fun out w' ⟨v, G2, ho, S, st⟩ => ?_
  subst ho
  exact hK _ _ _ S st
theorem op_callD {g : FuncId} {caps : List D} {us : Array Value} {args : Array Operand} {o : Oper} (hC : Good P C) (S : Sim B fr G σ act w) (hr : (execOp act.eval o).run P w = .ok (.enter g (args.map act.eval ++ us)) w)
    (hs : us.size = caps.length) (hcap : caps.all D.ptr = true) (hv : ∀ (i : Nat) u d, us[i]? = some u → caps[i]? = some d → ∃ p, VD B fr G σ.verAt w p u d) (h : (callD H o.dst g caps args.toList).run C σ = some (.ok (), σ')) (hK : On B fr G w σ' K) : o.wp P act w K Q := by
  simp only [callD] at h
  obtain ⟨ds, σ1, h1, h2⟩ := bind_ok h
  obtain ⟨G1, a1, hl, hds⟩ := S.takes (k := 0) h1
  have hl' : args.size = ds.length := by simpa using hl
  have hvals : ∀ (i : Nat) v d, ((args.map act.eval).toList)[i]? = some v → ds[i]? = some d → VD B fr G1 σ1.verAt w (.pn fr (0 + i) []) v d := fun i v d hv hd => by
    rw [Array.getElem?_toList, Array.getElem?_map, Option.map_eq_some_iff] at hv
    obtain ⟨x, hx, rfl⟩ := hv
    exact hds i x d (by simpa using hx) hd
  split at h2
  · rename_i hc
    simp only [Bool.and_eq_true] at hc
    have hce := isEmpty_ok hc.1.1
    subst hce
    have hu : us = #[] := Array.eq_empty_of_size_eq_zero (by simpa using hs)
    subst hu
    have := a1.sim.callA (g := g) (vs := (args.map act.eval).toList) hC (by simpa using hl') hvals h2
    refine wp_calls (args := args.map act.eval ++ #[]) hr ?_ (hK.after a1.step)
    rw [Array.toArray_toList] at this
    rw [Array.append_empty]
    exact this
  · obtain ⟨as, σ2, h3, h4⟩ := bind_ok h2
    have hl2 : ((args.map act.eval).toList ++ us.toList).length = (ds ++ caps).length := by simp [hs, hl']
    obtain ⟨G2, S2, st2, _, hl3, has⟩ := a1.sim.shareAs (k := 0) (M := (ds ++ caps).length) (vs := (args.map act.eval).toList ++ us.toList) (by omega) hl2 (fun i v d hv' hd => by
      rw [List.getElem?_append] at hv' hd
      simp only [Array.toList_map, List.length_map, Array.length_toList] at hv'
      split at hd
      · rw [if_pos (by omega)] at hv'
        exact hvals i v d (by simpa using hv') hd
      · rw [if_neg (by omega)] at hv'
        have hpt := List.all_eq_true.1 hcap d (List.mem_of_getElem? hd)
        obtain ⟨p, hp⟩ := hv _ v d (by rw [Array.getElem?_toList, hl'] at hv'; exact hv') hd
        exact (a1.free hp (D.ptr_own hpt)).free _ (D.ptr_own hpt)) h3
    have := S2.callB (g := g) (dst := o.dst) hC hl3 has h4
    refine wp_calls (args := args.map act.eval ++ us) hr ?_ (hK.after (a1.step.trans st2))
    have e : ((args.map act.eval).toList ++ us.toList).toArray = args.map act.eval ++ us := by apply Array.ext'; simp
    rwa [e] at this

theorem fnOf_ok {d : D} {g : FuncId} (h : fnOf d = some g) : d = .t (.sc (.func (.func g) #[] #[])) := by
  unfold fnOf at h
  split at h
  · rename_i g' a b
    split at h
    · rename_i hc
      simp only [Bool.and_eq_true, Array.isEmpty_iff] at hc
      obtain ⟨rfl, rfl⟩ := hc
      cases h
      rfl
    · cases h
  · cases h
theorem op_call {c : Call} {f : Operand} {o : Oper} (hC : Good P C) (ho : o.op = .call c) (hc : c.callee = .value f) (S : Sim B fr G σ act w) (h : (pStep P H o).run C σ = some (.ok (), σ')) (hK : On B fr G w σ' K) : o.wp P act w K Q := by
  simp only [pStep, ho, hc] at h
  obtain ⟨d, σ1, h1, h2⟩ := bind_ok h
  obtain ⟨rfl, p, hv⟩ := S.rd h1
  split at h2
  · rename_i g caps
    obtain ⟨_, σ1, h3, h4⟩ := bind_ok h2
    obtain ⟨hk, rfl⟩ := need_ok h3
    generalize hx : act.eval f = v at hv
    cases hv with
    | clo p g us ds hs hno hh =>
      refine op_callD hC S (us := us) (args := c.args) ?_ hs hno (fun i u d hu hd => ⟨_, hh i u d hu hd⟩) h4 hK
      simp [execOp, ho, Go.resolve, hc, hx, Deferred.ofValue, invoke, callOk_run hk]
  · obtain ⟨g, σ1, h3, h4⟩ := bind_ok h2
    obtain ⟨hg, rfl⟩ := ofOpt_ok h3
    have := fnOf_ok hg
    subst this
    obtain ⟨_, σ1, h5, h6⟩ := bind_ok h4
    obtain ⟨hk, rfl⟩ := need_ok h5
    have hx := hv.sc
    refine op_callD hC S (us := #[]) (caps := []) (args := c.args) ?_ rfl rfl (by simp) h6 hK
    simp [execOp, ho, Go.resolve, hc, hx, Deferred.ofValue, invoke, callOk_run hk]

/-- Whatever the interpreter answers, the machine does. -/
theorem op_any {o : Oper} (hC : Good P C) (S : Sim B fr G σ act w) (h : (pStep P H o).run C σ = some (.ok (), σ')) (hK : On B fr G w σ' K) : o.wp P act w K Q := by
  cases ho : o.op with
  | move x =>
    have h' := h
    simp only [pStep, ho] at h'
    exact op_move (x := x) S h' hK (by simp [execOp, ho]) rfl
  | assign x =>
    have h' := h
    simp only [pStep, ho] at h'
    exact op_move (x := x) S h' hK (by simp [execOp, ho]) rfl
  | pick c a b => exact op_pick ho S h hK
  | alloc e => exact op_alloc ho S h hK
  | box e x => exact op_box ho S h hK
  | build ty parts => exact op_build ho S h hK
  | buildSlice ty len parts => exact op_buildSlice ho S h hK
  | load ty x => exact op_load ho S h hK
  | store ty x v => exact op_store ho S h hK
  | nilCheck x => exact op_nilCheck ho S h hK
  | binOp op ty x y t => exact op_binOp ho S h hK
  | unOp op t x => exact op_unOp ho S h hK
  | convert s d x => exact op_convert ho S h hK
  | makeSlice ty l c => exact op_makeSlice ho S h hK
  | makeMap ty r => exact op_makeMap ho S h hK
  | lookup ty x i ok => exact op_lookup ho S h hK
  | mapUpdate ty x i v => exact op_mapUpdate ho S h hK
  | slice ty x lo hi mx => exact op_slice ho S h hK
  | fieldAddr ty x f => exact op_fieldAddr ho S h hK
  | field ty x f => exact op_field ho S h hK
  | indexAddr ty x i => exact op_indexAddr ho S h hK
  | index ty x i => exact op_index ho S h hK
  | extract x i => exact op_extract ho S h hK
  | makeFunc fn first cap =>
    cases fn with
    | func g => exact op_makeFunc ho S h hK
    | _ => simp only [pStep, ho] at h; cases h
  | call c =>
    cases hc : c.callee with
    | builtin b =>
      cases b with
      | len => exact op_len ho hc S h hK
      | cap => exact op_cap ho hc S h hK
      | append => exact op_append ho hc S h hK
      | copy => exact op_copy ho hc S h hK
      | min => exact op_min ho hc S h hK
      | max => exact op_max ho hc S h hK
      | _ => simp only [pStep, ho, hc] at h; cases h
    | value f => exact op_call hC ho hc S h hK
    | _ => simp only [pStep, ho, hc] at h; cases h
  | _ => simp only [pStep, ho] at h; cases h
end Go.Pv

/- Regions in the order of the text. -/
namespace Go.Pv
open Go.RowKit
variable {P : Program} {B fr : Nat} {G : Gh} {σ σ' : St} {act : Act} {w w' : World} {C : Callee} {K : Act → World → Prop} {Q : Exit → Act → World → Prop} {H : Hint} {ops : Array Oper}

theorem eval_tmp {t : Tmp} {d : D} {b : Bool} (S : Sim B fr G σ act w) (h : σ.tm.getD t .dead = d) (hb : d.bool? = some b) : act.tmps[t]? = some (.bool b) := by
  have hv := S.tmAt t
  rw [h, bool?_ok hb] at hv
  have hx := hv.sc
  have ht : t < σ.tm.length := by
    rcases Nat.lt_or_ge t σ.tm.length with hl | hl
    · exact hl
    · rw [List.getD_eq_getElem?_getD, List.getElem?_eq_none hl] at h
      subst h
      cases hb
  have ht' : t < act.tmps.size := by rw [S.len]; exact ht
  have e : act.eval (.tmp t) = act.tmps.getD t undef := rfl
  rw [e] at hx
  rw [← hx]
  simp [ht']
theorem eval_skip {t : Tmp} (S : Sim B fr G σ act w) (h : σ.tm.getD t .dead = .tup []) : act.tmps[t]? = some undef := by
  have hv := S.tmAt t
  rw [h] at hv
  have ht : t < σ.tm.length := by
    rcases Nat.lt_or_ge t σ.tm.length with hl | hl
    · exact hl
    · rw [List.getD_eq_getElem?_getD, List.getElem?_eq_none hl] at h
      cases h
  have ht' : t < act.tmps.size := by rw [S.len]; exact ht
  have e : act.eval (.tmp t) = act.tmps.getD t undef := rfl
  generalize hx : act.eval (.tmp t) = v at hv
  cases hv with
  | tup p us ds hs hh =>
    have : us = #[] := Array.eq_empty_of_size_eq_zero hs
    subst this
    rw [e] at hx
    simp only [Array.getD_eq_getD_getElem?, Array.getElem?_eq_getElem ht', Option.getD_some] at hx
    rw [Array.getElem?_eq_getElem ht', hx]; rfl
/-- Is it wanted? As the machine says. -/
theorem want_ok {t : Tmp} {want b : Bool} {o : Oper} {j : Nat} (S : Sim B fr G σ act w) (hg : o.guard = some (j, want)) (ht : (ops[j]?).bind (·.dst) = some t) (h : (σ.tm.getD t .dead).want? want = some b) :
    Region.wanted o (yielded ops act.tmps) = b := by
  generalize hd : σ.tm.getD t .dead = d at h
  unfold D.want? at h
  split at h
  · rename_i b'
    cases h
    have hy : yielded ops act.tmps j = some b' := by
      simp only [yielded, ht, Option.bind_some, eval_tmp S hd rfl]
    simp [Region.wanted, hg, hy]
  · cases h
    have hy : yielded ops act.tmps j = none := by
      simp only [yielded, ht, Option.bind_some, eval_skip S hd]; rfl
    simp [Region.wanted, hg, hy]
  · cases h
/-- One operation, under its guard. -/
theorem op_guard {o : Oper} (hC : Good P C) (S : Sim B fr G σ act w) (h : (gStep P H ops o).run C σ = some (.ok (), σ')) (hK : On B fr G w σ' K) :
    if Region.wanted o (yielded ops act.tmps) then o.wp P act w K Q else K (act.put o.dst undef) w := by
  unfold gStep at h
  cases hg : o.guard with
  | none =>
    rw [hg] at h
    simp only [Region.wanted, hg, if_true]
    exact op_any hC S h hK
  | some jw =>
    obtain ⟨j, want⟩ := jw
    rw [hg] at h
    simp only at h
    cases ht : (ops[j]?).bind (·.dst) with
    | none => rw [ht] at h; cases h
    | some t =>
      rw [ht] at h
      simp only at h
      obtain ⟨d, σ1, h1, h2⟩ := bind_ok h
      obtain ⟨hd, rfl⟩ := gT_ok h1
      obtain ⟨b, σ1, h3, h4⟩ := bind_ok h2
      obtain ⟨hb, rfl⟩ := ofOpt_ok h3
      have this := want_ok S hg ht (by rw [hd]; exact hb)
      split at h4
      · rename_i hbw
        rw [hbw] at this
        rw [if_pos this]
        exact op_any hC S h4 hK
      · rename_i hbw
        have hbw' : b = false := by simpa using hbw
        rw [hbw'] at this
        rw [if_neg (by rw [this]; simp)]
        cases hdst : o.dst with
        | none =>
          rw [hdst] at h4
          obtain ⟨_, rfl⟩ := ret_ok (C := C) h4
          exact hK _ _ _ S (.refl _ _ _)
        | some t' =>
          rw [hdst] at h4
          obtain ⟨ht', rfl⟩ := pT_ok h4
          exact hK _ _ _ (S.land0 (v := undef) (d := .tup []) (p := .pn fr 0 []) (.tup _ #[] [] rfl (by simp)) rfl ht') (.refl _ _ _)
theorem runOps_normal {l : List Oper} {out : Out} (h : runOps P H C ops l σ = some (out, σ')) : out = .normal := by
  induction l generalizing σ with
  | nil =>
    simp only [runOps, Option.some.injEq, Prod.mk.injEq] at h
    exact h.1.symm
  | cons o l ih =>
    simp only [runOps] at h
    split at h
    · exact ih h
    · cases h
theorem ops_wp {l : List Oper} {out : Out} (hC : Good P C) (S : Sim B fr G σ act w) (h : runOps P H C ops l σ = some (out, σ')) (hK : On B fr G w σ' (Q .normal)) : wpList P ops Q l act w := by
  induction l generalizing σ G act w with
  | nil =>
    simp only [runOps, Option.some.injEq, Prod.mk.injEq] at h
    obtain ⟨rfl, rfl⟩ := h
    exact wpList_nil (hK _ _ _ S (.refl _ _ _))
  | cons o l ih =>
    simp only [runOps] at h
    split at h
    · rename_i u σ1 h1
      exact wpList_step fun K hwp => op_guard hC S h1 fun G' act' w' S' st => hwp _ _ (ih S' h (hK.after st))
    · cases h
/-- A region in the order of the text. -/
theorem region_wp {id : Nat} {out : Out} (hC : Good P C) (S : Sim B fr G σ act w) (h : runOps P H C ops ops.toList σ = some (out, σ')) (hK : On B fr G w (σ'.over.seam H) (Q .normal)) : (Code.region id ops false).wp P Q act w := by
  refine wp_region_list (ops_wp hC S h fun G' act' w' S' st => ?_)
  obtain ⟨G2, S2, st2⟩ := S'.over.seam H
  exact hK _ _ _ S2 ((st.trans (Step.anew _)).trans st2)
end Go.Pv

/- At the head of a loop. -/
namespace Go.Pv
open Go.RowKit
variable {P : Program} {B fr : Nat} {G : Gh} {σ σ' : St} {act : Act} {w w' : World} {C : Callee} {K : Act → World → Prop} {Q : Exit → Act → World → Prop} {H : Hint} {ops : Array Oper} {keep : List Nat}

theorem getElem?_trimL (ds : List D) (i : Nat) : (trimL keep ds)[i]? = (ds[i]?).map (trim keep) := by
  induction ds generalizing i with
  | nil => rfl
  | cons d ds ih => cases i with
    | zero => rfl
    | succ i => exact ih i
theorem length_trimL (ds : List D) : (trimL keep ds).length = ds.length := by induction ds with
  | nil => rfl
  | cons d ds ih => simp [trimL, ih]
theorem trimL_nil {c : List D} (h : trimL keep c = []) : c = [] := by cases c <;> first | rfl | cases h
theorem trim_bare {d : D} (h : d.bare = true) : (trim keep d).bare = true := by
  cases d with
  | lp s o => simp only [trim]; split <;> rfl
  | clo f ds => simp only [trim]; split <;> rfl
  | _ => first | rfl | cases h
theorem trim_own {d : D} (h : d.bare = true) (ho : (trim keep d).hasOwn = true) : d.hasOwn = true := by
  cases d with
  | lp s o => simp only [trim] at ho; split at ho <;> cases ho
  | clo f ds => simp only [trim] at ho; split at ho <;> cases ho
  | _ => first | exact ho | cases h
/-- Boxes that are let go are there no more. -/
def Gh.letGo (G : Gh) (fr : Nat) (keep : List Nat) : Gh := { G with al := fun f s => G.al f s ∧ (f = fr → keep.contains s = true) }
theorem VD.trim {vr : Pl → Nat} {p : Ap} {v : Value} {d : D} (h : VD B fr G vr w p v d) : VD B fr (G.letGo fr keep) vr w p v (Pv.trim keep d) := by
  have lpk : ∀ {p : Ap} {s o : Nat}, G.al fr s → keep.contains s = true → VD B fr (G.letGo fr keep) vr w p (.pointer (some ⟨G.hb fr s, o, none⟩)) (.lp s o) := fun {p s o} ha hk => .lp (G := G.letGo fr keep) p s o ⟨ha, fun _ => hk⟩
  have fpk : ∀ {p : Ap} {f s o : Nat}, f < fr → G.al f s → VD B fr (G.letGo fr keep) vr w p (.pointer (some ⟨G.hb f s, o, none⟩)) (.fp f s o) := fun {p f s o} hf ha => .fp (G := G.letGo fr keep) p f s o hf ⟨ha, fun e => by omega⟩
  induction h with
  | t p v x h => exact .t _ v x h
  | agg p us ds hs h1 h ih =>
    refine .agg _ us _ (by rw [length_trimL]; exact hs) h1 fun j u d hu hd => ?_
    rw [getElem?_trimL, Option.map_eq_some_iff] at hd
    obtain ⟨d', hd', rfl⟩ := hd
    exact ih j u d' hu hd'
  | tup p us ds hs h ih =>
    refine .tup _ us _ (by rw [length_trimL]; exact hs) fun j u d hu hd => ?_
    rw [getElem?_trimL, Option.map_eq_some_iff] at hd
    obtain ⟨d', hd', rfl⟩ := hd
    exact ih j u d' hu hd'
  | own p v e sz els us ho hr hsz hL hq => exact .own _ v e sz els us ho hr hsz hL hq
  | omap p g es clock kvs hg hm hB hL hq => exact .omap _ g es clock kvs hg hm hB hL hq
  | alsN p q k sz lo hk hv => exact .dead _ _
  | als p q k sz lo n g c cap cap' hk hv hn hc o ho => exact .dead _ _
  | mal p q k hk g hv => exact .dead _ _
  | ept p q k sz i off g c cap hk hv => exact .dead _ _
  | lp p s o ha =>
    simp only [Pv.trim]
    split
    · rename_i hk; exact lpk ha hk
    · exact .dead _ _
  | fp p f s o hf ha => exact fpk hf ha
  | clo p f us ds hs hno h ih =>
    simp only [Pv.trim]
    split
    · rename_i hall
      refine .clo _ f us ds hs hno fun j u d hu hd => ?_
      have h1 := ih j u d hu hd
      have hpt := List.all_eq_true.1 hno d (List.mem_of_getElem? hd)
      have hpt2 := List.all_eq_true.1 hall (Pv.trim keep d) (List.mem_of_getElem? (by rw [getElem?_trimL, hd]; rfl))
      cases d with
      | lp s o =>
        simp only [Pv.trim] at hpt2 h1
        split at hpt2
        · rename_i hk
          rw [if_pos hk] at h1
          exact h1
        · cases hpt2
      | fp f' s o => exact h1
      | _ => cases hpt
    · exact .dead _ _
  | dead p v => exact .dead _ v
theorem BoxOk.trim {vr : Pl → Nat} {f s : Nat} {c : List D} (h : BoxOk B fr G vr w f s c) (hk : f = fr → keep.contains s = true) : BoxOk B fr (G.letGo fr keep) vr w f s (trimL keep c) := by
  obtain ⟨a, b, hb, us, T, hg, hs, h1, hv⟩ := h
  refine ⟨⟨a, hk⟩, b, fun d hd => ?_, us, T, hg, by rw [length_trimL]; exact hs, h1, fun o u d hu hd => ?_⟩
  · obtain ⟨i, hi⟩ := List.getElem?_of_mem hd
    rw [getElem?_trimL, Option.map_eq_some_iff] at hi
    obtain ⟨d', hd', rfl⟩ := hi
    exact trim_bare (hb d' (List.mem_of_getElem? hd'))
  · rw [getElem?_trimL, Option.map_eq_some_iff] at hd
    obtain ⟨d', hd', rfl⟩ := hd
    exact (hv o u d' hu hd').trim
theorem Sim.norm (S : Sim B fr G σ act w) : Sim B fr (G.letGo fr keep) (Pv.norm keep σ) act w ∧ Step fr G w (G.letGo fr keep) w := by
  have hver : (Pv.norm keep σ).verAt = σ.verAt := rfl
  have hbx : ∀ (s : Nat) c, (Pv.norm keep σ).bx[s]? = some c → ∃ c0, σ.bx[s]? = some c0 ∧ c = if keep.contains s then trimL keep c0 else [] := fun s c h => by
    simp only [Pv.norm, List.getElem?_mapIdx, Option.map_eq_some_iff] at h
    obtain ⟨c0, h0, rfl⟩ := h
    exact ⟨c0, h0, rfl⟩
  have hfr : ∀ (f : Nat) b, (Pv.norm keep σ).fr[f]? = some b → ∃ b0, σ.fr[f]? = some b0 ∧ b = b0.map (trimL keep) := fun f b h => by
    simp only [Pv.norm, List.getElem?_map, Option.map_eq_some_iff] at h
    obtain ⟨b0, h0, rfl⟩ := h
    exact ⟨b0, h0, rfl⟩
  have hnil : ∀ (b0 : List (List D)) s, (b0.map (trimL keep)).getD s [] = [] → b0.getD s [] = [] := fun b0 s h => by
    simp only [List.getD_eq_getElem?_getD, List.getElem?_map] at h ⊢
    cases hb : b0[s]? with
    | none => rfl
    | some c => rw [hb] at h; exact trimL_nil h
  refine ⟨⟨by simp only [Pv.norm, List.length_mapIdx]; exact S.len, fun t d hd => ?_, fun s c hc hne => ?_, ⟨fun s hs ha => ?_, fun f b hb s hs ha => ?_⟩, fun f b hb s c hc hne => ?_, by simp only [Pv.norm, List.length_map]; exact S.frl, fun f s hf h => S.alf f s hf h.1, fun f s h => S.alt f s h.1, S.old, S.base, S.dfs⟩,
    ⟨rfl, rfl, rfl, Nat.le_refl _, fun _ _ h => ⟨h, rfl⟩, fun _ h => ⟨h, rfl⟩, fun _ _ _ h _ _ => ⟨h, rfl⟩, fun f s hf h => ⟨⟨h, fun e => by omega⟩, rfl⟩⟩⟩
  · simp only [Pv.norm, List.getElem?_mapIdx, Option.map_eq_some_iff] at hd
    obtain ⟨d0, h0, rfl⟩ := hd
    split
    · exact (S.tms t d0 h0).trim
    · exact .dead _ _
  · obtain ⟨c0, h0, rfl⟩ := hbx s c hc
    split at hne
    · rename_i hk
      rw [if_pos hk]
      exact (S.bxs s c0 h0 (fun e => hne (by rw [e]; rfl))).trim fun _ => hk
    · exact absurd rfl hne
  · have hk := ha.2 rfl
    refine S.bxn.1 s ?_ ha.1
    simp only [List.getD_eq_getElem?_getD] at hs ⊢
    cases h0 : σ.bx[s]? with
    | none => rfl
    | some c0 =>
      have : (Pv.norm keep σ).bx[s]? = some (trimL keep c0) := by simp [Pv.norm, h0]; intro h; simp at hk; exact absurd hk h
      rw [this] at hs
      exact trimL_nil hs
  · obtain ⟨b0, h0, rfl⟩ := hfr f b hb
    exact S.bxn.2 f b0 h0 s (hnil _ s hs) ha.1
  · obtain ⟨b0, h0, rfl⟩ := hfr f b hb
    rw [List.getElem?_map, Option.map_eq_some_iff] at hc
    obtain ⟨c0, hc0, rfl⟩ := hc
    have hlt : f < fr := by rw [← S.frl]; exact (List.getElem?_eq_some_iff.1 h0).1
    exact (S.frs f b0 h0 s c0 hc0 (fun e => hne (by rw [e]; rfl))).trim fun e => by omega
end Go.Pv
