/- A part of the road: the interpreter of plain data and the proof that it is right. -/
import Derived.Test.YtnleijomgjhplaaDg
import Derived.Test.YtnleijomgjhplaaGg
import Derived.Test.YtnleijomgjhplaaProg
set_option linter.unusedVariables false
set_option linter.unusedSimpArgs false
/- slices.Clone, told: whatever the slice, nil among them. -/
namespace Go.Pv
open Go.RowKit
theorem frs_outer {B : Nat} {G : Gh} {frs : Frames} {w : World} (F : FrS B G frs w) : frs.all (fun b => b.all fun c => c.all D.outer) = true := by
  have noal : ∀ s, ¬ G.al frs.length s := fun s => F.bxn.1 s rfl
  rw [List.all_eq_true]
  intro b hb
  obtain ⟨f, hf⟩ := List.getElem?_of_mem hb
  rw [List.all_eq_true]
  intro c hc
  obtain ⟨s, hs⟩ := List.getElem?_of_mem hc
  rw [List.all_eq_true]
  intro d hd
  obtain ⟨o, ho⟩ := List.getElem?_of_mem hd
  have hne : c ≠ [] := fun e => by subst e; cases hd
  obtain ⟨_, _, _, us, T, _, hsz, _, hv⟩ := F.frs f b hf s c hs hne
  have ho' : o < us.size := by rw [hsz]; exact (List.getElem?_eq_some_iff.1 ho).1
  obtain ⟨u, hu⟩ : ∃ u, us[o]? = some u := ⟨_, Array.getElem?_eq_getElem ho'⟩
  have h := hv o u d hu ho
  cases h with
  | lp p s o ha => exact absurd ha (noal s)
  | clo p f us ds hs2 hno hh =>
    show ds.all _ = true
    rw [List.all_eq_true]
    intro d' hd'
    obtain ⟨j, hj⟩ := List.getElem?_of_mem hd'
    have hj' : j < us.size := by rw [hs2]; exact (List.getElem?_eq_some_iff.1 hj).1
    obtain ⟨u, hu⟩ : ∃ u, us[j]? = some u := ⟨_, Array.getElem?_eq_getElem hj'⟩
    have h2 := hh j u d' hu hj
    cases h2 with
    | lp p s o ha => exact absurd ha (noal s)
    | _ => rfl
  | _ => rfl
def cloneS (e sz bytes : Nat) : List D → Option D
  | [.t (.sl sz' els)] => if sz' = sz ∧ els.length * bytes ≤ most ∧ (els.all fun c => c.length == sz) = true then some (.own e sz els) else none
  | [.t (.sc (.slice none 0 0))] => some (.own e sz [])
  | _ => none
structure Clones (P : Program) (C : Callee) (f : FuncId) (e sz bytes : Nat) : Prop where
  pos : 0 < sz
  nil : ∀ c frs, frs.all (fun b => b.all fun c => c.all D.outer) = true → C f [.t (.sc (.slice none 0 c))] frs = some (.val (.t (.sc (.slice none 0 0))), frs)
  none0 : ∀ a c frs, frs.all (fun b => b.all fun c => c.all D.outer) = true → C f [.t (.sc (.slice (some a) 0 c))] frs = some (.val (.own e sz []), frs)
  some1 : ∀ x l frs, frs.all (fun b => b.all fun c => c.all D.outer) = true → (x :: l).length * bytes ≤ most → ((x :: l).all fun c => c.length == sz) = true → C f [.t (.sl sz (x :: l))] frs = some (.val (.own e sz (x :: l)), frs)
theorem VD.nilOwn {B fr : Nat} {G : Gh} {vr : Pl → Nat} {w : World} {i : Nat} {e sz : Nat} (h : 0 < sz) : VD B fr G vr w (.pn fr i []) (.slice none 0 0) (.own e sz []) :=
  .own _ _ e sz [] [] (World.ownsRow_nil w B e sz) ⟨by simp, by simp, by simp⟩ h (fun g hg => by cases hg) (fun q _ hq => by cases q <;> cases hq)
theorem clone_told {P : Program} {C : Callee} {f : FuncId} {e sz bytes : Nat} (hC : Good P C) (hc : Clones P C f e sz bytes) : ∀ ds d, cloneS e sz bytes ds = some d → ∀ B G frs w (vs : Array Value), FrS B G frs w → vs.size = ds.length →
    (∀ (i : Nat) u d, vs[i]? = some u → ds[i]? = some d → d.hasOwn = false ∧ VD B frs.length G vr0 w (.pn frs.length i []) u d) →
    d.outOk = true ∧ Calls P f vs w fun out w' => ∃ v G', out = .returned v ∧ FrS B G' frs w' ∧ Step frs.length G w G' w' ∧ VD B frs.length G' vr0 w' (.pn frs.length 0 []) v d := by
  intro ds d hs B G frs w vs F hsz hargs
  have hout := frs_outer F
  have use : ∀ {d0 r : D} {u : Value}, vs = #[u] → d0.hasOwn = false → VD B frs.length G vr0 w (.pn frs.length 0 []) u d0 → C f [d0] frs = some (.val r, frs) →
      r.outOk = true ∧ Calls P f vs w fun out w' => ∃ v G', out = .returned v ∧ FrS B G' frs w' ∧ Step frs.length G w G' w' ∧ VD B frs.length G' vr0 w' (.pn frs.length 0 []) v r := by
    intro d0 r u hu ho hv hr
    subst hu
    obtain ⟨r', e1, e2, e3⟩ := hC f [d0] frs _ frs hr B G w #[u] F rfl (fun i x y hx hy => by
      cases i with
      | zero => simp at hx hy; subst hx hy; exact ⟨ho, hv⟩
      | succ i => simp at hx)
    cases e1
    exact ⟨e2, e3.mono fun out w' ⟨v, G', a, _, b, c, d⟩ => ⟨v, G', a, b, c, d⟩⟩
  have nilcase : ∀ {u : Value} {c : Nat}, vs = #[u] → u = .slice none 0 c → (D.own e sz []).outOk = true ∧ Calls P f vs w fun out w' => ∃ v G', out = .returned v ∧ FrS B G' frs w' ∧ Step frs.length G w G' w' ∧ VD B frs.length G' vr0 w' (.pn frs.length 0 []) v (.own e sz []) := by
    intro u c hu he
    subst he
    obtain ⟨_, h2⟩ := use (d0 := .t (.sc (.slice none 0 c))) hu rfl (.t _ _ _ (.sc _ rfl)) (hc.nil c frs hout)
    refine ⟨rfl, h2.mono fun out w' ⟨v, G', a, b, c', d'⟩ => ⟨v, G', a, b, c', ?_⟩⟩
    have := d'.sc
    subst this
    exact VD.nilOwn hc.pos
  unfold cloneS at hs
  split at hs
  · rename_i sz' els
    split at hs
    · rename_i hcond
      obtain ⟨rfl, hb, ha⟩ := hcond
      cases hs
      obtain ⟨u, hu⟩ : ∃ u, vs = #[u] := by
        match vs, hsz with
        | ⟨[u]⟩, _ => exact ⟨u, rfl⟩
      have hv := (hargs 0 u _ (by rw [hu]; rfl) rfl).2
      cases els with
      | nil =>
        cases hv with
        | t p v x hr =>
          cases hr with
          | sl A n cap sz1 els fn hn hcap hz hA hR =>
            have hn0 : n = 0 := hn
            subst hn0
            cases A with
            | none => exact nilcase hu rfl
            | some a => exact use (d0 := .t (.sc (.slice (some a) 0 cap))) hu rfl (.t _ _ _ (.sc _ rfl)) (hc.none0 a cap frs hout)
      | cons x l => exact use (d0 := .t (.sl _ (x :: l))) hu rfl hv (hc.some1 x l frs hout hb ha)
    · cases hs
  · cases hs
    obtain ⟨u, hu⟩ : ∃ u, vs = #[u] := by
      match vs, hsz with
      | ⟨[u]⟩, _ => exact ⟨u, rfl⟩
    have hv := (hargs 0 u _ (by rw [hu]; rfl) rfl).2
    exact nilcase hu hv.sc
  · cases hs
end Go.Pv

/- Floats' bits: what the one word of them comes to that stands for no number. -/
namespace Go.Pv
def nanB (b : Int) : Bool := decide (b % 9223372036854775808 / 4503599627370496 = 2047 ∧ b % 4503599627370496 ≠ 0)
def canonF (b : Int) : Int := if nanB b then 9221120237041090561 else w64 b
def canonS : List D → Option D
  | [.t (.sc (.int .i64 b))] => some (I (canonF b))
  | _ => none
end Go.Pv

namespace Go.Pv
open Go Go.Proofs
def h30 : Hint := { var := [0, 1, 2, 3, 4, 5, 6, 7, 8, 9], own := [4, 5], keep := [], out := [], row := [(2, [(some (6, (58, false)))]), (3, [none, none, (some (1, (3, false)))]), (5, [(some (6, (58, true)))]), (6, [(some (6, (58, false)))]), (8, [(some (6, (58, false)))])], par := [[(some (6, (58, false)))], [none, none, (some (1, (3, false)))]], res := [], shr := [4] }
def h32 : Hint := { var := [0, 1, 2, 3, 4], own := [2], keep := [(3, [1, 3, 4])], out := [(3, [1, 3])], row := [(1, [(some (6, (58, false)))])], par := [[(some (6, (58, false)))]], res := [], shr := [2] }
def h43 : Hint := { var := [0, 1, 2, 3, 4], own := [4], keep := [], out := [], row := [(2, [(some (6, (58, false)))]), (3, [(some (6, (58, false)))])], par := [[(some (6, (58, false)))], [(some (6, (58, false)))]], res := [], shr := [4] }
def h45 : Hint := { var := [0, 1, 2], own := [2], keep := [], out := [], row := [(1, [(some (6, (58, false)))])], par := [[(some (6, (58, false)))]], res := [], shr := [2] }
def h47 : Hint := { var := [0, 1, 2, 4, 5, 6, 8, 9, 11, 12, 13, 14, 26, 27, 28, 80, 81, 82, 93, 94, 95], own := [4, 5, 6, 12, 25], keep := [(21, [12, 93, 94, 95]), (15, [6, 25, 80, 81, 82]), (10, [6, 25]), (5, [6, 25, 26, 27, 28])], out := [(21, [12]), (15, [6, 25]), (10, [6, 25]), (5, [4, 5, 6, 25])], row := [(2, [(some (6, (58, false)))]), (4, [(some (1, (3, false)))]), (9, [none, none, (some (1, (3, false)))]), (12, [(some (1, (3, true)))]), (25, [(some (6, (58, true))), (some (1, (4, true))), (some (1, (3, true)))]), (26, [(some (1, (3, false)))]), (80, [(some (1, (3, false)))]), (93, [(some (1, (4, false)))])], par := [[(some (6, (58, false)))], [(some (1, (3, false)))]], res := [[(some (1, (3, false)))]], shr := [4, 5] }
def h52 : Hint := { var := [0, 1, 2, 3], own := [2], keep := [(2, [1, 3])], out := [(2, [1, 2])], row := [(1, [(some (6, (58, false)))])], par := [[(some (6, (58, false)))]], res := [], shr := [2] }
def h53 : Hint := { var := [0, 1, 2, 4, 5, 6], own := [4], keep := [], out := [], row := [(2, [(some (6, (58, false)))])], par := [[(some (6, (58, false)))]], res := [], shr := [4] }
def h56 : Hint := { var := [0, 1, 2, 4, 5, 6, 8, 9, 10, 11, 12, 13, 14, 15, 20, 21, 22], own := [4, 5, 6, 11, 13, 48], keep := [(14, [2, 4, 11, 12, 13, 14, 48]), (4, [1, 2, 4, 20, 21, 22])], out := [(14, [4, 12, 13]), (4, [1, 2, 4, 5, 6])], row := [(2, [(some (6, (58, false)))]), (4, [(some (6, (58, true)))]), (5, [(some (1, (3, false)))]), (12, [(some (1, (3, false)))]), (13, [(some (6, (58, true)))]), (15, [none, none, (some (1, (3, false)))]), (20, [(some (1, (3, false)))]), (48, [none, (some (1, (3, true)))])], par := [[(some (6, (58, false)))], [(some (1, (3, false)))]], res := [[(some (6, (58, false)))], [(some (1, (3, false)))]], shr := [4, 5, 6] }
def h58 : Hint := { var := [0, 1, 2, 3, 4, 5], own := [4], keep := [(4, [2, 3, 5])], out := [(4, [4])], row := [(2, [(some (6, (58, false)))]), (3, [(some (6, (58, false)))])], par := [[(some (6, (58, false)))], [(some (6, (58, false)))]], res := [], shr := [4] }
def h59 : Hint := { var := [0, 1, 2, 3, 4, 6, 8, 9, 10, 11, 12, 13, 14], own := [8], keep := [], out := [], row := [(4, [(some (6, (58, false)))]), (6, [(some (6, (58, false)))]), (9, [(some (6, (58, false)))]), (10, [(some (1, (3, false)))]), (12, [(some (6, (58, false)))]), (13, [(some (1, (3, false)))])], par := [[(some (6, (58, false)))], [(some (1, (3, false)))], [(some (6, (58, false)))], [(some (1, (3, false)))]], res := [], shr := [8] }
def h74 : Hint := { var := [0, 1, 2, 4, 5, 6, 7, 8, 9, 10, 25, 26, 27], own := [4, 5, 8], keep := [(6, [8, 25, 26, 27])], out := [(6, [8])], row := [(2, [(some (6, (58, false)))]), (4, [(some (1, (3, false)))]), (6, [(some (1, (3, false)))]), (8, [(some (1, (3, true)))]), (25, [(some (1, (3, false)))])], par := [[(some (6, (58, false)))], [(some (1, (3, false)))]], res := [[(some (1, (3, false)))]], shr := [4, 5] }
def h76 : Hint := { var := [0, 1, 2, 4, 5, 6, 7, 8, 9, 10, 11, 28, 29, 30], own := [4, 5, 6, 9], keep := [(6, [1, 4, 7, 9, 28, 29, 30])], out := [(6, [1, 4, 7, 9])], row := [(2, [(some (6, (58, false)))]), (4, [(some (6, (58, true)))]), (5, [(some (1, (3, false)))]), (7, [(some (1, (3, false)))]), (9, [(some (6, (58, true)))]), (11, [none, none, (some (1, (3, false)))]), (28, [(some (6, (58, false)))])], par := [[(some (6, (58, false)))], [(some (1, (3, false)))]], res := [[(some (6, (58, false)))], [(some (1, (3, false)))]], shr := [4, 5, 6] }
def h78 : Hint := { var := [0, 1, 4, 5, 6, 7], own := [4, 5], keep := [], out := [], row := [], par := [[(some (1, (3, false)))]], res := [], shr := [4, 5] }
def h81 : Hint := { var := [0, 2, 3], own := [2, 3], keep := [], out := [], row := [], par := [], res := [], shr := [2, 3] }
def h82 : Hint := { var := [0, 1, 2, 4, 6], own := [4], keep := [], out := [], row := [(2, [(some (6, (58, false)))])], par := [[(some (6, (58, false)))]], res := [], shr := [4] }
def h83 : Hint := { var := [0, 1, 2, 3, 5, 6], own := [0], keep := [], out := [], row := [(1, [(some (6, (58, false)))]), (2, [(some (6, (58, false)))]), (4, [(some (6, (58, false)))]), (6, [(some (6, (58, false)))])], par := [], res := [], shr := [0] }
def h84 : Hint := { var := [0, 1, 2, 3, 4, 5], own := [2, 3], keep := [], out := [], row := [(1, [(some (6, (58, false)))]), (2, [(some (6, (58, true)))]), (4, [(some (6, (58, false)))]), (5, [(some (1, (3, false)))])], par := [[(some (6, (58, false)))]], res := [[(some (6, (58, false)))]], shr := [2, 3] }
def h86 : Hint := { var := [0, 1, 2], own := [2], keep := [], out := [], row := [(1, [(some (6, (58, false)))])], par := [[(some (6, (58, false)))]], res := [], shr := [2] }
def h87 : Hint := { var := [0, 1, 2, 3, 4, 5, 10], own := [2, 3], keep := [(5, [1, 3, 10])], out := [(5, [1, 3])], row := [(1, [(some (6, (58, false)))]), (2, [(some (1, (3, false)))]), (3, [(some (1, (3, true)))])], par := [[(some (6, (58, false)))]], res := [[(some (1, (3, false)))]], shr := [2] }
def h89 : Hint := { var := [0, 1, 2, 3, 4], own := [4], keep := [], out := [], row := [(2, [(some (6, (58, false)))]), (3, [(some (6, (58, false)))])], par := [[(some (6, (58, false)))], [(some (6, (58, false)))]], res := [], shr := [4] }
def h92 : Hint := { var := [0, 1, 2, 3, 4, 5], own := [2, 3], keep := [(3, [1, 2, 3, 4])], out := [(3, [2, 3])], row := [(1, [(some (6, (58, false)))]), (2, [(some (6, (58, true)))]), (3, [(some (6, (58, true)))]), (5, [none, none, (some (1, (3, false)))])], par := [[(some (6, (58, false)))]], res := [[(some (6, (58, true)))]], shr := [2, 4098] }
def h94 : Hint := { var := [0, 2], own := [2], keep := [], out := [], row := [(2, [(some (8, (30, true)))])], par := [], res := [[(some (8, (30, true)))]], shr := [] }
def h96 : Hint := { var := [0, 1, 2, 3], own := [2, 3], keep := [], out := [], row := [(1, [(some (6, (58, false)))])], par := [[(some (6, (58, false)))]], res := [], shr := [2] }
def h97 : Hint := { var := [0, 1, 4, 5, 6], own := [0, 4], keep := [], out := [], row := [], par := [], res := [], shr := [4] }
def h99 : Hint := { var := [0, 2, 3, 4], own := [2, 3], keep := [], out := [], row := [], par := [], res := [], shr := [2, 3] }
def h101 : Hint := { var := [0, 1, 2, 3, 4, 5], own := [4], keep := [(2, [2, 3, 5])], out := [(2, [2, 3, 4])], row := [(2, [(some (6, (58, false)))]), (3, [none, none, (some (1, (3, false)))])], par := [[(some (6, (58, false)))], [none, none, (some (1, (3, false)))]], res := [], shr := [4] }
def h102 : Hint := { var := [0, 2], own := [2], keep := [], out := [], row := [], par := [], res := [], shr := [2] }
def h103 : Hint := { var := [0, 2, 3], own := [2, 3], keep := [], out := [], row := [], par := [], res := [], shr := [2, 3] }
def h104 : Hint := { var := [0, 2, 4, 6], own := [2], keep := [], out := [], row := [], par := [], res := [], shr := [2] }
def h105 : Hint := { var := [0, 1, 4, 5, 6, 7, 11, 12, 13], own := [0, 4, 5], keep := [(3, [0, 5, 11, 12, 13])], out := [(3, [5])], row := [(4, [(some (1, (3, false)))]), (5, [(some (1, (3, true)))]), (11, [(some (1, (3, false)))])], par := [[], [(some (1, (3, false)))]], res := [[(some (1, (3, false)))]], shr := [4] }
def h106 : Hint := { var := [0, 1, 4, 5, 6, 7, 8], own := [0, 4], keep := [], out := [], row := [], par := [], res := [], shr := [4] }
def h109 : Hint := { var := [0, 1, 2, 3, 4, 5], own := [4], keep := [(4, [2, 3, 5])], out := [(4, [4])], row := [(2, [none, none, (some (1, (3, false)))]), (3, [none, none, (some (1, (3, false)))])], par := [[none, none, (some (1, (3, false)))], [none, none, (some (1, (3, false)))]], res := [], shr := [4] }
def h110 : Hint := { var := [0, 1, 4, 5, 12, 13], own := [4], keep := [(4, [0, 1, 12, 13])], out := [(4, [4])], row := [], par := [], res := [], shr := [] }
def h111 : Hint := { var := [0, 1, 2, 6, 7, 8, 9, 15, 16, 17], own := [6], keep := [(4, [1, 2, 15, 16, 17])], out := [(4, [6])], row := [(8, [none, none, (some (1, (3, false)))]), (9, [none, none, (some (1, (3, false)))]), (15, [(some (6, (58, false)))])], par := [], res := [], shr := [] }
def h112 : Hint := { var := [0, 1, 2, 3, 4], own := [4], keep := [], out := [], row := [(2, [none, none, (some (1, (3, false)))]), (3, [none, none, (some (1, (3, false)))])], par := [[none, none, (some (1, (3, false)))], [none, none, (some (1, (3, false)))]], res := [], shr := [4] }
def h123 : Hint := { var := [0, 2], own := [2], keep := [], out := [], row := [(2, [(some (6, (58, true)))])], par := [], res := [[(some (6, (58, true)))]], shr := [] }
def h127 : Hint := { var := [0, 1, 4, 5, 6, 7, 8], own := [4, 7], keep := [(8, [7, 8])], out := [(8, [7])], row := [(4, [(some (1, (3, true)))]), (7, [(some (1, (3, true)))])], par := [], res := [[(some (1, (3, true)))]], shr := [] }
def h129 : Hint := { var := [0, 1, 4, 5, 6, 7, 11, 12, 13], own := [4, 5], keep := [(3, [0, 5, 11, 12, 13])], out := [(3, [5])], row := [(4, [(some (1, (3, false)))]), (5, [(some (1, (3, true)))]), (11, [(some (1, (3, false)))])], par := [[(some (1, (3, false)))], [(some (1, (3, false)))]], res := [[(some (1, (3, false)))]], shr := [4] }
def h131 : Hint := { var := [0, 2, 3, 4], own := [2, 3], keep := [], out := [], row := [], par := [], res := [], shr := [2, 3] }
def h132 : Hint := { var := [0, 2, 3], own := [2, 3], keep := [], out := [], row := [], par := [], res := [], shr := [2, 3] }
def h134 : Hint := { var := [0, 1, 2], own := [0, 1], keep := [(3, [0, 1, 2])], out := [(3, [0, 1])], row := [(0, [(some (6, (58, true)))]), (1, [(some (6, (58, true)))])], par := [], res := [[(some (6, (58, false)))]], shr := [0] }
def h135 : Hint := { var := [0, 1, 2], own := [2], keep := [], out := [], row := [(1, [(some (6, (58, false)))])], par := [[(some (6, (58, false)))]], res := [], shr := [2] }
def h138 : Hint := { var := [0, 1, 4], own := [4], keep := [], out := [], row := [], par := [], res := [], shr := [4] }
def h139 : Hint := { var := [0, 1, 4], own := [4], keep := [], out := [], row := [], par := [], res := [], shr := [] }
def h140 : Hint := { var := [0, 1, 2, 3], own := [3], keep := [], out := [], row := [(2, [none, none, (some (1, (3, false)))])], par := [[none, none, (some (1, (3, false)))]], res := [], shr := [3] }
def h141 : Hint := { var := [0, 1, 2, 3, 4], own := [2, 4], keep := [], out := [], row := [(3, [none, none, (some (1, (3, false)))])], par := [[], [none, none, (some (1, (3, false)))]], res := [], shr := [4] }
def h142 : Hint := { var := [0, 2], own := [2], keep := [], out := [], row := [], par := [], res := [], shr := [2] }
def h145 : Hint := { var := [0, 2], own := [2], keep := [], out := [], row := [], par := [], res := [], shr := [2] }
def h146 : Hint := { var := [0, 2], own := [2], keep := [], out := [], row := [(2, [(some (1, (3, true)))])], par := [], res := [[(some (1, (3, true)))]], shr := [] }
def h147 : Hint := { var := [0, 1, 4, 5, 6, 7, 8, 9], own := [4, 5], keep := [], out := [], row := [], par := [], res := [], shr := [4, 5] }
def h148 : Hint := { var := [0, 2], own := [2], keep := [], out := [], row := [], par := [], res := [], shr := [2] }
def h149 : Hint := { var := [0, 1, 2, 4, 5, 6], own := [4], keep := [], out := [], row := [(2, [(some (6, (58, false)))])], par := [[(some (6, (58, false)))]], res := [], shr := [4] }
def h150 : Hint := { var := [0, 1, 4], own := [4], keep := [], out := [], row := [], par := [], res := [], shr := [4] }
def h151 : Hint := { var := [0, 1, 4, 5, 7, 8], own := [4], keep := [(2, [0, 1, 7, 8])], out := [(2, [4])], row := [], par := [], res := [], shr := [] }
def h152 : Hint := { var := [0, 1, 4, 5, 6], own := [4], keep := [], out := [], row := [], par := [], res := [], shr := [4] }
def h153 : Hint := { var := [0, 2], own := [2], keep := [], out := [], row := [], par := [], res := [], shr := [2] }
def h154 : Hint := { var := [0, 1, 4], own := [4], keep := [], out := [], row := [], par := [], res := [], shr := [] }
def h155 : Hint := { var := [0, 1, 3], own := [3], keep := [], out := [], row := [], par := [], res := [], shr := [3] }
def h156 : Hint := { var := [0, 1, 4, 6], own := [4], keep := [], out := [], row := [], par := [], res := [], shr := [4] }
def h158 : Hint := { var := [0, 2, 3, 4], own := [2], keep := [], out := [], row := [], par := [], res := [], shr := [2] }
def h159 : Hint := { var := [0], own := [0], keep := [], out := [], row := [], par := [], res := [], shr := [0] }
def h161 : Hint := { var := [0, 1, 4, 5, 6, 7, 8, 9, 10, 11, 12, 13], own := [4, 5], keep := [], out := [], row := [], par := [], res := [], shr := [4, 5] }
def h164 : Hint := { var := [0, 1, 4, 5, 7, 8], own := [4], keep := [(2, [0, 1, 7, 8])], out := [(2, [4])], row := [], par := [], res := [], shr := [] }
def h165 : Hint := { var := [0, 2], own := [2], keep := [], out := [], row := [], par := [], res := [], shr := [2] }
def h168 : Hint := { var := [0], own := [0], keep := [], out := [], row := [], par := [], res := [], shr := [0] }
def hints : FuncId → Hint
  | 30 => h30
  | 32 => h32
  | 43 => h43
  | 45 => h45
  | 47 => h47
  | 52 => h52
  | 53 => h53
  | 56 => h56
  | 58 => h58
  | 59 => h59
  | 74 => h74
  | 76 => h76
  | 78 => h78
  | 81 => h81
  | 82 => h82
  | 83 => h83
  | 84 => h84
  | 86 => h86
  | 87 => h87
  | 89 => h89
  | 92 => h92
  | 94 => h94
  | 96 => h96
  | 97 => h97
  | 99 => h99
  | 101 => h101
  | 102 => h102
  | 103 => h103
  | 104 => h104
  | 105 => h105
  | 106 => h106
  | 109 => h109
  | 110 => h110
  | 111 => h111
  | 112 => h112
  | 123 => h123
  | 127 => h127
  | 129 => h129
  | 131 => h131
  | 132 => h132
  | 134 => h134
  | 135 => h135
  | 138 => h138
  | 139 => h139
  | 140 => h140
  | 141 => h141
  | 142 => h142
  | 145 => h145
  | 146 => h146
  | 147 => h147
  | 148 => h148
  | 149 => h149
  | 150 => h150
  | 151 => h151
  | 152 => h152
  | 153 => h153
  | 154 => h154
  | 155 => h155
  | 156 => h156
  | 158 => h158
  | 159 => h159
  | 161 => h161
  | 164 => h164
  | 165 => h165
  | 168 => h168
  | _ => {}
def lore : Lore := ⟨hints, fun
  | 94 => some (cloneS 30 8 80)
  | 123 => some (cloneS 58 6 72)
  | 146 => some (cloneS 3 1 8)
  | 153 => some canonS
  | _ => none⟩
noncomputable abbrev c0 : Callee := cO Try.prog lore
end Go.Pv
