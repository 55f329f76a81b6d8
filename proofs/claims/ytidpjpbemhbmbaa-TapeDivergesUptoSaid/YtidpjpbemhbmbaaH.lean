/- A part of the road: the interpreter of plain data and the proof that it is right. -/
import Derived.Test.YtidpjpbemhbmbaaD
import Derived.Test.YtidpjpbemhbmbaaG
import Derived.Test.YtidpjpbemhbmbaaProg
/- slices.Clone, told: whatever the slice, nil among them. -/
namespace Go.Pv
open Go.RowKit
theorem frs_outer {B : Nat} {G : Gh} {frs : Frames} {w : World} (F : FrS B G frs w) : frs.all (fun b => b.all fun c => c.all D.outer) = true := by
  have noal : ∀ s, ¬ G.al frs.length s := fun s => F.bxn.1 s rfl
  rw [List.all_eq_true]
  intro b hb
  obtain ⟨f, hf⟩ := List.getElem?_of_mem hb
  rw [List.all_eq_true]
  intro c hc
  obtain ⟨s, hs⟩ := List.getElem?_of_mem hc
  rw [List.all_eq_true]
  intro d hd
  obtain ⟨o, ho⟩ := List.getElem?_of_mem hd
  have hne : c ≠ [] := fun e => by subst e; cases hd
  obtain ⟨_, _, _, us, T, _, hsz, _, hv⟩ := F.frs f b hf s c hs hne
  have ho' : o < us.size := by rw [hsz]; exact (List.getElem?_eq_some_iff.1 ho).1
  obtain ⟨u, hu⟩ : ∃ u, us[o]? = some u := ⟨_, Array.getElem?_eq_getElem ho'⟩
  have h := hv o u d hu ho
  cases h with
  | lp p s o ha => exact absurd ha (noal s)
  | clo p f us ds hs2 hno hh =>
    show ds.all _ = true
    rw [List.all_eq_true]
    intro d' hd'
    obtain ⟨j, hj⟩ := List.getElem?_of_mem hd'
    have hj' : j < us.size := by rw [hs2]; exact (List.getElem?_eq_some_iff.1 hj).1
    obtain ⟨u, hu⟩ : ∃ u, us[j]? = some u := ⟨_, Array.getElem?_eq_getElem hj'⟩
    have h2 := hh j u d' hu hj
    cases h2 with
    | lp p s o ha => exact absurd ha (noal s)
    | _ => rfl
  | _ => rfl
/-- What a clone comes to. -/
def cloneS (e sz bytes : Nat) : List D → Option D
  | [.t (.sl sz' els)] => if sz' = sz ∧ els.length * bytes ≤ most ∧ (els.all fun c => c.length == sz) = true then some (.own e sz els) else none
  | [.t (.sc (.slice none 0 0))] => some (.own e sz [])
  | _ => none
/-- How the interpreter answers it, however the slice is told. -/
structure Clones (P : Program) (C : Callee) (f : FuncId) (e sz bytes : Nat) : Prop where
  pos : 0 < sz
  nil : ∀ c frs, frs.all (fun b => b.all fun c => c.all D.outer) = true → C f [.t (.sc (.slice none 0 c))] frs = some (.val (.t (.sc (.slice none 0 0))), frs)
  none0 : ∀ a c frs, frs.all (fun b => b.all fun c => c.all D.outer) = true → C f [.t (.sc (.slice (some a) 0 c))] frs = some (.val (.own e sz []), frs)
  some1 : ∀ x l frs, frs.all (fun b => b.all fun c => c.all D.outer) = true → (x :: l).length * bytes ≤ most → ((x :: l).all fun c => c.length == sz) = true → C f [.t (.sl sz (x :: l))] frs = some (.val (.own e sz (x :: l)), frs)
theorem VD.nilOwn {B fr : Nat} {G : Gh} {vr : Pl → Nat} {w : World} {i : Nat} {e sz : Nat} (h : 0 < sz) : VD B fr G vr w (.pn fr i []) (.slice none 0 0) (.own e sz []) :=
  .own _ _ e sz [] [] (World.ownsRow_nil w B e sz) ⟨by simp, by simp, by simp⟩ h (fun g hg => by cases hg) (fun q _ hq => by cases q <;> cases hq)
theorem clone_told {P : Program} {C : Callee} {f : FuncId} {e sz bytes : Nat} (hC : Good P C) (hc : Clones P C f e sz bytes) : ∀ ds d, cloneS e sz bytes ds = some d → ∀ B G frs w (vs : Array Value), FrS B G frs w → vs.size = ds.length →
    (∀ (i : Nat) u d, vs[i]? = some u → ds[i]? = some d → d.hasOwn = false ∧ VD B frs.length G vr0 w (.pn frs.length i []) u d) →
    d.outOk = true ∧ Calls P f vs w fun out w' => ∃ v G', out = .returned v ∧ FrS B G' frs w' ∧ Step frs.length G w G' w' ∧ VD B frs.length G' vr0 w' (.pn frs.length 0 []) v d := by
  intro ds d hs B G frs w vs F hsz hargs
  have hout := frs_outer F
  -- an answer of the interpreter, for the same value told otherwise
  have use : ∀ {d0 r : D} {u : Value}, vs = #[u] → d0.hasOwn = false → VD B frs.length G vr0 w (.pn frs.length 0 []) u d0 → C f [d0] frs = some (.val r, frs) →
      r.outOk = true ∧ Calls P f vs w fun out w' => ∃ v G', out = .returned v ∧ FrS B G' frs w' ∧ Step frs.length G w G' w' ∧ VD B frs.length G' vr0 w' (.pn frs.length 0 []) v r := by
    intro d0 r u hu ho hv hr
    subst hu
    obtain ⟨r', e1, e2, e3⟩ := hC f [d0] frs _ frs hr B G w #[u] F rfl (fun i x y hx hy => by
      cases i with
      | zero => simp at hx hy; subst hx hy; exact ⟨ho, hv⟩
      | succ i => simp at hx)
    cases e1
    exact ⟨e2, e3.mono fun out w' ⟨v, G', a, _, b, c, d⟩ => ⟨v, G', a, b, c, d⟩⟩
  have nilcase : ∀ {u : Value} {c : Nat}, vs = #[u] → u = .slice none 0 c → (D.own e sz []).outOk = true ∧ Calls P f vs w fun out w' => ∃ v G', out = .returned v ∧ FrS B G' frs w' ∧ Step frs.length G w G' w' ∧ VD B frs.length G' vr0 w' (.pn frs.length 0 []) v (.own e sz []) := by
    intro u c hu he
    subst he
    obtain ⟨_, h2⟩ := use (d0 := .t (.sc (.slice none 0 c))) hu rfl (.t _ _ _ (.sc _ rfl)) (hc.nil c frs hout)
    refine ⟨rfl, h2.mono fun out w' ⟨v, G', a, b, c', d'⟩ => ⟨v, G', a, b, c', ?_⟩⟩
    have := d'.sc
    subst this
    exact VD.nilOwn hc.pos
  unfold cloneS at hs
  split at hs
  · rename_i sz' els
    split at hs
    · rename_i hcond
      obtain ⟨rfl, hb, ha⟩ := hcond
      cases hs
      obtain ⟨u, hu⟩ : ∃ u, vs = #[u] := by
        match vs, hsz with
        | ⟨[u]⟩, _ => exact ⟨u, rfl⟩
      have hv := (hargs 0 u _ (by rw [hu]; rfl) rfl).2
      cases els with
      | nil =>
        cases hv with
        | t p v x hr =>
          cases hr with
          | sl A n cap sz1 els fn hn hcap hz hA hR =>
            have hn0 : n = 0 := hn
            subst hn0
            cases A with
            | none => exact nilcase hu rfl
            | some a => exact use (d0 := .t (.sc (.slice (some a) 0 cap))) hu rfl (.t _ _ _ (.sc _ rfl)) (hc.none0 a cap frs hout)
      | cons x l => exact use (d0 := .t (.sl _ (x :: l))) hu rfl hv (hc.some1 x l frs hout hb ha)
    · cases hs
  · cases hs
    obtain ⟨u, hu⟩ : ∃ u, vs = #[u] := by
      match vs, hsz with
      | ⟨[u]⟩, _ => exact ⟨u, rfl⟩
    have hv := (hargs 0 u _ (by rw [hu]; rfl) rfl).2
    exact nilcase hu hv.sc
  · cases hs
end Go.Pv

/- slices.Grow of nil, told: an own row without elements. -/
namespace Go.Pv
open Go.RowKit
def growS (e sz by_ : Nat) : List D → Option D
  | [.t (.sc (.slice none 0 0)), .t (.sc (.int .i64 n))] => if 0 ≤ n ∧ n.toNat * by_ ≤ most then some (.own e sz []) else none
  | _ => none
theorem grow_told {P : Program} {f : FuncId} {e sz by_ : Nat} (hsz : 0 < sz) (hz : ∀ w, Calls P f #[.slice none 0 0, .int .i64 0] w fun r w' => r = .returned (.slice none 0 0) ∧ w' = w)
    (hm : ∀ (w : World) (n : Nat), 0 < n → n * by_ ≤ 140737488355328 → Calls P f #[.slice none 0 0, .int .i64 n] w fun r w' => ∃ cs cap, r = .returned (.slice (some ⟨w.heap.size, 0, none⟩) 0 cap) ∧ w' = w.drew.alloc (.cells cs e) ∧ cs.size = cap * sz ∧ cap ≤ maxLen) :
    ∀ ds d, growS e sz by_ ds = some d → ∀ B G frs w (vs : Array Value), FrS B G frs w → vs.size = ds.length →
    (∀ (i : Nat) u d, vs[i]? = some u → ds[i]? = some d → d.hasOwn = false ∧ VD B frs.length G vr0 w (.pn frs.length i []) u d) →
    d.outOk = true ∧ Calls P f vs w fun out w' => ∃ v G', out = .returned v ∧ FrS B G' frs w' ∧ Step frs.length G w G' w' ∧ VD B frs.length G' vr0 w' (.pn frs.length 0 []) v d := by
  intro ds d hs B G frs w vs F hlen hargs
  unfold growS at hs
  split at hs
  · rename_i n
    split at hs
    · rename_i hc
      obtain ⟨h0, hb⟩ := hc
      cases hs
      obtain ⟨N, rfl⟩ : ∃ N : Nat, n = N := ⟨n.toNat, by omega⟩
      obtain ⟨u, v, hv⟩ : ∃ u v, vs = #[u, v] := by
        match vs, hlen with
        | ⟨[u, v]⟩, _ => exact ⟨u, v, rfl⟩
      subst hv
      have e1 := (hargs 0 u _ rfl rfl).2.sc
      have e2 := (hargs 1 v _ rfl rfl).2.sc
      subst e1 e2
      refine ⟨rfl, ?_⟩
      rcases Nat.eq_zero_or_pos N with hN | hN
      · subst hN
        refine (hz w).mono fun r w' ⟨h1, h2⟩ => ?_
        subst h1 h2
        exact ⟨_, G, rfl, F, .refl _ _ _, VD.nilOwn hsz⟩
      · refine (hm w N hN (by simpa [most] using hb)).mono fun r w' ⟨cs, cap, h1, h2, h3, h4⟩ => ?_
        subst h1 h2
        have hg : w.grownBy (w.drew.alloc (.cells cs e)) none := ⟨rfl, rfl, rfl, (World.grownBy_alloc w.drew (.cells cs e) none).size, fun k hk hne => (World.grownBy_alloc w.drew (.cells cs e) none).block k hk hne⟩
        have hnew : (w.drew.alloc (.cells cs e)).heap[w.heap.size]? = some (.cells cs e) := heap_alloc_new w.drew (.cells cs e)
        have hlt : w.heap.size < (w.drew.alloc (.cells cs e)).heap.size := (Array.getElem?_eq_some_iff.1 hnew).1
        obtain ⟨a, b, c⟩ := F.grown (i := 0) (b := some w.heap.size) hg (fun g hg => by cases hg) (fun g hg => by cases hg; exact .inr ⟨rfl, hlt⟩)
        refine ⟨_, _, rfl, a, b, ?_⟩
        refine .own _ _ e _ _ [] ⟨by simp, .inr ⟨_, _, cs, rfl, F.base, hnew, Nat.zero_le _, h4, h3, by simp⟩⟩ ⟨by simp, by simp, by simp⟩ hsz (fun g hg => ?_) (fun q _ e => by cases q <;> cases e)
        simp only [Value.ownBlock, Option.some.injEq] at hg
        subst hg
        exact mine_self
    · cases hs
  · cases hs
end Go.Pv

namespace Go.Pv
open Go Go.Proofs
def h2 : Hint := { var := [], own := [], keep := [], out := [], row := [], par := [], res := [], shr := [] }
def h3 : Hint := { var := [0, 1, 4], own := [4], keep := [], out := [], row := [], par := [], res := [], shr := [4] }
def h4 : Hint := { var := [0, 1, 2, 6, 7, 8, 9], own := [6, 8], keep := [(8, [0, 1, 2, 7, 8, 9])], out := [(8, [0, 1, 2, 7, 8])], row := [(8, [(some (1, (5, true)))])], par := [], res := [], shr := [6] }
def h5 : Hint := { var := [0, 1, 2, 6, 7], own := [6], keep := [], out := [], row := [], par := [], res := [], shr := [6] }
def h6 : Hint := { var := [0, 1, 2, 6, 7, 8], own := [6], keep := [(5, [0, 1, 2, 7, 8])], out := [(5, [0, 1, 2, 7])], row := [], par := [], res := [], shr := [6] }
def h7 : Hint := { var := [0, 1, 2, 4, 5, 6, 7, 8, 9, 10, 11, 12, 13, 14], own := [4], keep := [], out := [], row := [(2, [none, (some (1, (35, false)))]), (5, [none, (some (1, (35, false)))]), (7, [none, (some (1, (35, false)))]), (9, [(some (10, (71, false)))]), (10, [none, (some (1, (35, false)))]), (12, [(some (10, (71, false)))]), (13, [none, (some (1, (35, false)))])], par := [[none, (some (1, (35, false)))], [(some (10, (71, false)))]], res := [], shr := [4] }
def h8 : Hint := { var := [0, 1, 4, 5, 6, 7, 8, 9], own := [4], keep := [(5, [0, 1, 5, 6])], out := [(5, [0, 1, 4, 5])], row := [(5, [none, (some (1, (35, false)))]), (7, [none, (some (1, (35, false)))])], par := [[], [(some (1, (35, false)))]], res := [], shr := [4] }
def h9 : Hint := { var := [0, 1, 2, 4, 5, 6, 7, 8, 9, 10, 11, 13, 14, 17], own := [4], keep := [(13, [8, 11])], out := [(13, [4, 8])], row := [(2, [none, (some (1, (35, false)))]), (5, [none, (some (1, (35, false)))]), (7, [(some (10, (71, false)))]), (8, [none, (some (1, (35, false)))]), (13, [none, (some (1, (35, false)))]), (16, [none, (some (1, (35, false)))])], par := [[none, (some (1, (35, false)))], [(some (10, (71, false)))]], res := [], shr := [4] }
def h10 : Hint := { var := [0, 1, 2, 6, 7, 8, 9, 10, 11, 12, 13, 14], own := [6], keep := [(5, [2, 7, 8, 9])], out := [(5, [6, 7, 8])], row := [(7, [none, (some (1, (35, false)))]), (8, [none, (some (1, (35, false)))]), (10, [none, (some (1, (35, false)))]), (12, [none, (some (1, (35, false)))])], par := [[], [], [(some (1, (35, false)))]], res := [], shr := [6] }
def h11 : Hint := { var := [0, 1, 2, 4, 5, 6, 7, 8, 9, 10, 11, 12, 13, 14], own := [4], keep := [], out := [], row := [(2, [(some (1, (3, false))), (some (1, (3, false)))]), (6, [(some (1, (3, false))), (some (1, (3, false)))]), (9, [(some (1, (3, false))), (some (1, (3, false)))]), (11, [(some (1, (3, false))), (some (1, (3, false)))]), (13, [(some (1, (3, false))), (some (1, (3, false)))])], par := [[(some (1, (3, false))), (some (1, (3, false)))]], res := [], shr := [4] }
def h12 : Hint := { var := [0, 1, 2, 4, 5, 6, 7, 8, 9, 10, 11, 12, 13, 14, 15], own := [4], keep := [(16, [1, 2, 5, 6, 12]), (6, [1, 2, 5, 6, 7])], out := [(16, [1, 2, 4, 6]), (6, [1, 2, 4, 5, 6])], row := [(2, [(some (1, (3, false))), (some (1, (3, false)))]), (5, [(some (1, (3, false)))]), (6, [(some (1, (3, false))), (some (1, (3, false)))]), (9, [(some (1, (3, false))), (some (1, (3, false)))]), (14, [(some (1, (3, false))), (some (1, (3, false)))])], par := [[(some (1, (3, false))), (some (1, (3, false)))]], res := [], shr := [4] }
def h13 : Hint := { var := [0, 1, 2, 4, 5, 6, 7, 8, 9], own := [4], keep := [], out := [], row := [(2, [(some (1, (3, false))), (some (1, (3, false)))]), (5, [(some (1, (3, false))), (some (1, (3, false)))]), (8, [(some (1, (3, false))), (some (1, (3, false)))])], par := [[(some (1, (3, false))), (some (1, (3, false)))]], res := [], shr := [4] }
def h14 : Hint := { var := [0, 1, 2, 4, 5, 6, 7, 9, 10, 11, 12], own := [4], keep := [(17, [11, 12]), (7, [1, 5, 6, 7])], out := [(17, [4]), (7, [1, 4, 5, 6])], row := [(2, [(some (1, (3, false))), (some (1, (3, false)))]), (5, [(some (1, (3, false)))]), (6, [(some (1, (3, false))), (some (1, (3, false)))]), (9, [(some (1, (3, false))), (some (1, (3, false)))]), (11, [(some (1, (3, false)))])], par := [[(some (1, (3, false))), (some (1, (3, false)))]], res := [], shr := [4] }
def h15 : Hint := { var := [0], own := [0], keep := [], out := [], row := [], par := [], res := [], shr := [0] }
def h16 : Hint := { var := [0, 2], own := [2], keep := [], out := [], row := [], par := [], res := [], shr := [2] }
def h17 : Hint := { var := [0, 2], own := [2], keep := [], out := [], row := [], par := [], res := [], shr := [2] }
def h18 : Hint := { var := [0, 1, 4, 5, 6, 7, 16, 17], own := [4], keep := [(6, [1, 5, 6, 16, 17])], out := [(6, [6])], row := [], par := [], res := [], shr := [4] }
def h19 : Hint := { var := [0, 1, 4, 5, 6, 7], own := [4], keep := [(9, [0, 1, 5, 6, 7]), (5, [0, 1, 5])], out := [(9, [0, 1, 5]), (5, [0])], row := [], par := [], res := [], shr := [4] }
def h20 : Hint := { var := [0, 2], own := [2], keep := [], out := [], row := [], par := [], res := [], shr := [2] }
def h21 : Hint := { var := [0, 2], own := [2], keep := [], out := [], row := [], par := [], res := [], shr := [2] }
def h22 : Hint := { var := [0, 2], own := [2], keep := [], out := [], row := [], par := [], res := [], shr := [2] }
def h23 : Hint := { var := [0, 1, 2, 3, 4], own := [2], keep := [(3, [1, 3, 4])], out := [(3, [2, 3])], row := [(1, [none, (some (1, (35, false)))])], par := [[none, (some (1, (35, false)))]], res := [], shr := [2] }
def h24 : Hint := { var := [0, 2, 3, 4], own := [2], keep := [(3, [0, 3, 4])], out := [(3, [3])], row := [], par := [[(some (10, (71, false)))]], res := [], shr := [2] }
def h25 : Hint := { var := [0, 1, 2, 3, 4, 5, 8, 9, 10, 12], own := [0], keep := [(3, [1, 2])], out := [(3, [1])], row := [(1, [none, (some (1, (35, false)))]), (3, [(some (10, (71, false)))]), (4, [none, (some (1, (35, false)))]), (7, [none, (some (1, (35, false)))]), (9, [none, (some (1, (35, false)))]), (11, [none, (some (1, (35, false)))])], par := [], res := [], shr := [0] }
def h26 : Hint := { var := [0, 1, 2, 4, 5, 6, 7], own := [4, 5], keep := [(7, [1, 2, 4, 6, 7])], out := [(7, [1, 2, 4, 7])], row := [(2, [none, (some (1, (35, false)))]), (4, [none, (some (1, (35, true)))])], par := [[none, (some (1, (35, false)))], [(some (10, (71, false)))]], res := [[none, (some (1, (35, false)))]], shr := [4, 5] }
def h27 : Hint := { var := [0, 1, 2, 4, 5, 6], own := [4, 5], keep := [(4, [2, 4, 6])], out := [(4, [4, 6])], row := [(2, [none, (some (1, (35, false)))]), (4, [none, (some (1, (35, true)))]), (6, [none, (some (1, (35, false)))])], par := [[none, (some (1, (35, false)))], [(some (10, (71, false)))]], res := [[none, (some (1, (35, false)))]], shr := [4, 5] }
def h28 : Hint := { var := [0, 1, 2, 3, 4, 5], own := [2, 3, 4], keep := [], out := [], row := [(1, [none, (some (1, (35, false)))]), (2, [(some (10, (71, false)))]), (3, [none, (some (1, (35, true)))])], par := [[none, (some (1, (35, false)))]], res := [[(some (10, (71, false)))], [none, (some (1, (35, false)))]], shr := [2, 3, 4] }
def h29 : Hint := { var := [0, 1, 2, 3, 4, 5], own := [2, 3, 4], keep := [], out := [], row := [(1, [none, (some (1, (35, false)))]), (2, [(some (10, (71, false)))]), (3, [none, (some (1, (35, true)))])], par := [[none, (some (1, (35, false)))]], res := [[(some (10, (71, false)))], [none, (some (1, (35, false)))]], shr := [2, 3, 4] }
def h30 : Hint := { var := [0, 1, 2], own := [2], keep := [], out := [], row := [(1, [none, (some (1, (35, false)))])], par := [[none, (some (1, (35, false)))]], res := [], shr := [2] }
def h31 : Hint := { var := [0, 1, 2], own := [2], keep := [], out := [], row := [(1, [none, (some (1, (35, false)))])], par := [[none, (some (1, (35, false)))]], res := [], shr := [2] }
def h32 : Hint := { var := [0, 1, 2], own := [2], keep := [], out := [], row := [(1, [none, (some (1, (35, false)))])], par := [[none, (some (1, (35, false)))]], res := [], shr := [2] }
def h33 : Hint := { var := [0, 1, 2, 3, 4], own := [2], keep := [(3, [1, 3, 4])], out := [(3, [3])], row := [(1, [none, (some (1, (35, false)))])], par := [[none, (some (1, (35, false)))]], res := [], shr := [2] }
def h34 : Hint := { var := [0, 1, 2, 3, 4, 5], own := [4], keep := [(4, [2, 3, 5])], out := [(4, [4])], row := [(2, [none, (some (1, (35, false)))]), (3, [none, (some (1, (35, false)))])], par := [[none, (some (1, (35, false)))], [none, (some (1, (35, false)))]], res := [], shr := [4] }
def h35 : Hint := { var := [0, 1, 4, 5], own := [4], keep := [(4, [0, 1, 5])], out := [(4, [4])], row := [], par := [[(some (10, (71, false)))], [(some (10, (71, false)))]], res := [], shr := [4] }
def h36 : Hint := { var := [0, 2, 3, 4], own := [2], keep := [(3, [0, 3, 4])], out := [(3, [3])], row := [], par := [[(some (10, (71, false)))]], res := [], shr := [2] }
def h37 : Hint := { var := [0, 1, 2, 3, 4, 5, 6, 7, 8, 9, 10, 13, 14, 15], own := [0], keep := [], out := [], row := [(1, [(some (1, (3, false))), (some (1, (3, false)))]), (3, [(some (1, (3, false))), (some (1, (3, false)))]), (6, [(some (1, (3, false))), (some (1, (3, false)))]), (9, [(some (1, (3, false))), (some (1, (3, false)))]), (12, [(some (1, (3, false))), (some (1, (3, false)))]), (14, [(some (1, (3, false))), (some (1, (3, false)))])], par := [], res := [], shr := [0] }
def h38 : Hint := { var := [0, 1, 2, 4, 5, 6, 7, 8], own := [4, 5, 6], keep := [], out := [], row := [(2, [(some (1, (3, false))), (some (1, (3, false)))]), (5, [(some (1, (3, true))), (some (1, (3, true)))]), (8, [(some (1, (3, false)))])], par := [[(some (1, (3, false))), (some (1, (3, false)))]], res := [[], [(some (1, (3, false))), (some (1, (3, false)))]], shr := [4, 5, 6] }
def h39 : Hint := { var := [0, 1, 2, 4, 5, 6], own := [4, 5, 6], keep := [], out := [], row := [(2, [(some (1, (3, false))), (some (1, (3, false)))]), (5, [(some (1, (3, true))), (some (1, (3, true)))])], par := [[(some (1, (3, false))), (some (1, (3, false)))]], res := [[], [(some (1, (3, false))), (some (1, (3, false)))]], shr := [4, 5, 6] }
def h40 : Hint := { var := [0, 1, 2, 4, 5], own := [4, 5], keep := [], out := [], row := [(2, [(some (1, (3, false))), (some (1, (3, false)))]), (4, [(some (1, (3, true))), (some (1, (3, true)))])], par := [[(some (1, (3, false))), (some (1, (3, false)))]], res := [[(some (1, (3, false))), (some (1, (3, false)))]], shr := [4, 5] }
def h41 : Hint := { var := [0, 1, 2, 4, 5], own := [4, 5], keep := [], out := [], row := [(2, [(some (1, (3, false))), (some (1, (3, false)))]), (4, [(some (1, (3, true))), (some (1, (3, true)))])], par := [[(some (1, (3, false))), (some (1, (3, false)))]], res := [[(some (1, (3, false))), (some (1, (3, false)))]], shr := [4, 5] }
def h42 : Hint := { var := [0, 1, 2, 3, 4], own := [4], keep := [], out := [], row := [(2, [(some (1, (3, false))), (some (1, (3, false)))]), (3, [(some (1, (3, false))), (some (1, (3, false)))])], par := [[(some (1, (3, false))), (some (1, (3, false)))], [(some (1, (3, false))), (some (1, (3, false)))]], res := [], shr := [4] }
def h43 : Hint := { var := [0, 1, 2], own := [2], keep := [], out := [], row := [(1, [(some (1, (3, false))), (some (1, (3, false)))])], par := [[(some (1, (3, false))), (some (1, (3, false)))]], res := [], shr := [2] }
def h44 : Hint := { var := [0, 1, 2, 3, 4, 6], own := [2], keep := [(3, [3, 4])], out := [(3, [2, 3])], row := [(1, [(some (1, (3, false))), (some (1, (3, false)))]), (3, [(some (1, (3, false)))])], par := [[(some (1, (3, false))), (some (1, (3, false)))]], res := [], shr := [2] }
def h45 : Hint := { var := [0, 1, 4, 5], own := [4], keep := [(4, [0, 1, 5])], out := [(4, [4])], row := [], par := [[(some (1, (3, false)))], [(some (1, (3, false)))]], res := [], shr := [4] }
def h46 : Hint := { var := [0, 1, 2], own := [2], keep := [], out := [], row := [(1, [(some (1, (3, false))), (some (1, (3, false)))]), (2, [(some (1, (3, false)))])], par := [[(some (1, (3, false))), (some (1, (3, false)))]], res := [[(some (1, (3, false)))]], shr := [2] }
def h47 : Hint := { var := [0, 1, 2], own := [2], keep := [], out := [], row := [(1, [(some (1, (3, false))), (some (1, (3, false)))]), (2, [(some (1, (3, false)))])], par := [[(some (1, (3, false))), (some (1, (3, false)))]], res := [[(some (1, (3, false)))]], shr := [2] }
def h48 : Hint := { var := [0, 2], own := [2], keep := [], out := [], row := [], par := [], res := [], shr := [2] }
def h49 : Hint := { var := [0, 1, 2, 3, 4, 9], own := [0, 1], keep := [(7, [0, 1, 2, 3, 4, 9]), (3, [0, 1, 4])], out := [(7, [0, 1, 2, 3, 4]), (3, [0, 1])], row := [], par := [], res := [], shr := [0] }
def h50 : Hint := { var := [0, 1, 4], own := [4], keep := [], out := [], row := [], par := [], res := [], shr := [4] }
def h51 : Hint := { var := [0, 1, 2], own := [2], keep := [], out := [], row := [(1, [none, (some (1, (35, false)))])], par := [[none, (some (1, (35, false)))]], res := [], shr := [2] }
def h52 : Hint := { var := [0, 2, 3, 5, 8, 9, 10], own := [2], keep := [(3, [3, 8, 9, 10])], out := [(3, [3])], row := [(5, [(some (10, (71, false)))]), (8, [(some (1, (35, false)))])], par := [[(some (1, (35, false)))]], res := [], shr := [2] }
def h53 : Hint := { var := [0, 2], own := [2], keep := [], out := [], row := [(2, [(some (1, (35, true)))])], par := [], res := [[(some (1, (35, true)))]], shr := [] }
def h54 : Hint := { var := [0, 2], own := [2], keep := [], out := [], row := [(2, [(some (10, (71, true)))])], par := [], res := [[(some (10, (71, true)))]], shr := [] }
def h55 : Hint := { var := [0, 1, 2, 3, 4, 5], own := [4], keep := [(4, [2, 3, 5])], out := [(4, [4])], row := [(2, [none, none, (some (1, (3, false)))]), (3, [none, none, (some (1, (3, false)))])], par := [[none, none, (some (1, (3, false)))], [none, none, (some (1, (3, false)))]], res := [], shr := [4] }
def h56 : Hint := { var := [0, 1, 2, 4], own := [4], keep := [], out := [], row := [(2, [(some (1, (3, false))), (some (1, (3, false)))])], par := [[(some (1, (3, false))), (some (1, (3, false)))]], res := [], shr := [4] }
def h57 : Hint := { var := [0, 2], own := [2], keep := [], out := [], row := [(2, [(some (1, (3, true)))])], par := [], res := [[(some (1, (3, true)))]], shr := [] }
def h58 : Hint := { var := [0, 1, 2], own := [2], keep := [], out := [], row := [(1, [(some (1, (3, false))), (some (1, (3, false)))])], par := [[(some (1, (3, false))), (some (1, (3, false)))]], res := [], shr := [2] }
def h59 : Hint := { var := [0, 2, 3], own := [2, 3], keep := [], out := [], row := [], par := [], res := [], shr := [2, 3] }
def h60 : Hint := { var := [0, 2, 3, 5, 6, 8, 9, 10, 11, 25, 26, 27], own := [2, 6], keep := [(11, [6, 25, 26, 27]), (3, [0, 3, 9, 10, 11])], out := [(11, [6]), (3, [0, 3])], row := [(2, [(some (1, (3, true)))]), (5, [(some (1, (3, false)))]), (6, [(some (1, (3, true)))]), (8, [(some (1, (3, false)))]), (9, [(some (1, (51, false)))]), (25, [(some (1, (51, false)))])], par := [], res := [[(some (1, (3, true)))]], shr := [] }
def h61 : Hint := { var := [0, 2, 3, 5, 8, 9, 10], own := [2], keep := [(3, [3, 8, 9, 10])], out := [(3, [3])], row := [(5, [none, none, none, none, none, none, (some (1, (3, false)))]), (8, [(some (10, (71, false)))])], par := [[(some (10, (71, false)))]], res := [], shr := [2] }
def h62 : Hint := { var := [0, 1, 4], own := [4], keep := [], out := [], row := [], par := [], res := [], shr := [] }
def h63 : Hint := { var := [0, 2, 4], own := [2], keep := [], out := [], row := [], par := [], res := [], shr := [2] }
def h64 : Hint := { var := [0, 1, 4], own := [0, 4], keep := [], out := [], row := [], par := [], res := [[(some (1, (3, true)))]], shr := [] }
def h65 : Hint := { var := [0, 1, 4, 5, 7, 8], own := [4], keep := [(2, [0, 1, 7, 8])], out := [(2, [4])], row := [], par := [], res := [], shr := [] }
def h66 : Hint := { var := [0, 2, 3], own := [2, 3], keep := [], out := [], row := [], par := [], res := [], shr := [2, 3] }
def h67 : Hint := { var := [0, 2], own := [2], keep := [], out := [], row := [], par := [], res := [], shr := [2] }
def hints : FuncId → Hint
  | 2 => h2
  | 3 => h3
  | 4 => h4
  | 5 => h5
  | 6 => h6
  | 7 => h7
  | 8 => h8
  | 9 => h9
  | 10 => h10
  | 11 => h11
  | 12 => h12
  | 13 => h13
  | 14 => h14
  | 15 => h15
  | 16 => h16
  | 17 => h17
  | 18 => h18
  | 19 => h19
  | 20 => h20
  | 21 => h21
  | 22 => h22
  | 23 => h23
  | 24 => h24
  | 25 => h25
  | 26 => h26
  | 27 => h27
  | 28 => h28
  | 29 => h29
  | 30 => h30
  | 31 => h31
  | 32 => h32
  | 33 => h33
  | 34 => h34
  | 35 => h35
  | 36 => h36
  | 37 => h37
  | 38 => h38
  | 39 => h39
  | 40 => h40
  | 41 => h41
  | 42 => h42
  | 43 => h43
  | 44 => h44
  | 45 => h45
  | 46 => h46
  | 47 => h47
  | 48 => h48
  | 49 => h49
  | 50 => h50
  | 51 => h51
  | 52 => h52
  | 53 => h53
  | 54 => h54
  | 55 => h55
  | 56 => h56
  | 57 => h57
  | 58 => h58
  | 59 => h59
  | 60 => h60
  | 61 => h61
  | 62 => h62
  | 63 => h63
  | 64 => h64
  | 65 => h65
  | 66 => h66
  | 67 => h67
  | _ => {}
def lore : Lore := ⟨hints, fun
  | 53 => some (cloneS 35 1 24)
  | 54 => some (cloneS 71 10 104)
  | 57 => some (cloneS 3 1 8)
  | 64 => some (growS 3 1 8)
  | _ => none⟩
noncomputable abbrev c0 : Callee := cO Try.prog lore
end Go.Pv
