/- A part of the road: the interpreter of plain data and the proof that it is right. -/
import Derived.Test.YtcomdnpeoicpkaaND
import Derived.Test.YtcomdnpeoicpkaaUD
import Derived.Test.YtcomdnpeoicpkaaOD
set_option linter.unusedVariables false
set_option linter.unusedSimpArgs false
/- A cache among a caller's frames. -/
namespace Go.Pv
open Go Go.RowKit
set_option linter.unusedVariables false
/-- Entries, as they lie. -/
def RowV (cur : Array Value) (l : List GEn) : Prop := ∀ i e, l[i]? = some e → cur[i * 5]? = some (.int .i64 e.key.cls) ∧ cur[i * 5 + 1]? = some (.int .i64 e.key.sel) ∧ cur[i * 5 + 2]? = some (.int .i64 e.method) ∧ cur[i * 5 + 3]? = some (.int .i64 e.at_) ∧ cur[i * 5 + 4]? = some (.bool e.full_)
structure Held (B : Nat) (G : Gh) (w : World) (f s : Nat) (c : GCa) (Be cap : Nat) (cur : Array Value) (T : TypeId) : Prop where
  al : G.al f s
  tagB : G.L (G.hb f s) = some (.box f s)
  tagE : G.L Be = some (.own (.bc f s 0))
  cw : CacheW w (G.hb f s) Be c.entries.length cap cur T 81 c.hits c.misses
  base : B ≤ Be
  ncap : c.entries.length ≤ cap
  mcap : cap ≤ maxLen
  size : cur.size = cap * 5
  row : RowV cur c.entries
  hv : G.hv (.bc f s 0) 0 = .slice (some ⟨Be, 0, none⟩) c.entries.length cap
theorem Held.ne {B : Nat} {G : Gh} {w : World} {f s : Nat} {c : GCa} {Be cap : Nat} {cur : Array Value} {T : TypeId} (h : Held B G w f s c Be cap cur T) : G.hb f s ≠ Be := fun e => by
  have := h.tagB; rw [e, h.tagE] at this; cases this
theorem verAt0 (frs : Frames) : St.verAt { tm := [], bx := [], fr := frs } = vr0 := by
  funext q
  cases q <;> rfl
theorem getD_some {α : Type} {l : List α} {i : Nat} {d x : α} (h : l.getD i d = x) (hx : x ≠ d) : l[i]? = some x := by
  rw [List.getD_eq_getElem?_getD] at h
  cases e : l[i]? with
  | none => rw [e] at h; exact absurd h.symm hx
  | some y => rw [e] at h; exact congrArg some h
theorem enc_at5 (e : GEn) (j : Nat) (x : T) (h : (Enc.enc e)[j]? = some x) : (j = 0 ∧ x = .sc (.int .i64 e.key.cls)) ∨ (j = 1 ∧ x = .sc (.int .i64 e.key.sel)) ∨ (j = 2 ∧ x = .sc (.int .i64 e.method)) ∨ (j = 3 ∧ x = .sc (.int .i64 e.at_)) ∨ (j = 4 ∧ x = .sc (.bool e.full_)) := by
  match j, h with
  | 0, h => cases h; exact .inl ⟨rfl, rfl⟩
  | 1, h => cases h; exact .inr (.inl ⟨rfl, rfl⟩)
  | 2, h => cases h; exact .inr (.inr (.inl ⟨rfl, rfl⟩))
  | 3, h => cases h; exact .inr (.inr (.inr (.inl ⟨rfl, rfl⟩)))
  | 4, h => cases h; exact .inr (.inr (.inr (.inr ⟨rfl, rfl⟩)))
  | j + 5, h => simp at h
theorem els_at {l : List GEn} {i : Nat} {e : List T} (h : (els l)[i]? = some e) : ∃ x, l[i]? = some x ∧ e = Enc.enc x := by
  unfold els at h
  rw [List.getElem?_map, Option.map_eq_some_iff] at h
  obtain ⟨x, hx, rfl⟩ := h
  exact ⟨x, hx, rfl⟩
theorem take_at (cur : Array Value) (n k : Nat) (hk : k < n) : (cur.toList.take n)[k]? = cur[k]? := by
  rw [List.getElem?_take, if_pos hk, Array.getElem?_toList]
/-- What a box says of its blocks. -/
theorem FrS.held {B : Nat} {G : Gh} {frs : Frames} {w : World} (F : FrS B G frs w) {f s : Nat} {c : GCa} (hb : boxAt frs f s = encC c) (hl : 0 < c.entries.length) :
    f < frs.length ∧ ∃ Be cap cur T, Held B G w f s c Be cap cur T := by
  have h1 : (frs.getD f [])[s]? = some (encC c) := getD_some hb (by simp [encC])
  have h2 : frs[f]? = some (frs.getD f []) := by
    refine getD_some rfl fun e => ?_
    rw [e] at h1; simp at h1
  refine ⟨(List.getElem?_eq_some_iff.1 h2).1, ?_⟩
  obtain ⟨ha, ht, hbare, us, T, hg, hs, h1', hv⟩ := F.frs f _ h2 s _ h1 (by simp [encC])
  obtain ⟨us⟩ := us
  match us, hs with
  | [v, u1, u2], _ =>
    have v0 := hv 0 v _ rfl rfl
    have v1 := (hv 1 u1 _ rfl rfl).sc
    have v2 := (hv 2 u2 _ rfl rfl).sc
    subst v1 v2
    cases v0 with
    | own _ _ _ _ _ us' ho hr hsz hL hq =>
      obtain ⟨hlen, hcase⟩ := ho
      rcases hcase with ⟨_, h0⟩ | ⟨g, cap, cur, rfl, hB, hgc, hn, hm, hsz', htake⟩
      · rw [els_len] at h0; omega
      · rw [els_len] at hn hlen htake
        refine ⟨g, cap, cur, T, ha, ht, hL g rfl, ⟨by simpa [els_len] using hg, hgc⟩, hB, hn, hm, hsz', fun i e he => ?_, ?_⟩
        · have hi := (List.getElem?_eq_some_iff.1 he).1
          have hc : ∀ j x, (Enc.enc e)[j]? = some x → ∃ u, cur[i * 5 + j]? = some u ∧ RT G.sh w u x := fun j x hx => by
            have hj : j < 5 := by have := (List.getElem?_eq_some_iff.1 hx).1; simpa using this
            obtain ⟨u, hu, hr'⟩ := hr.cell i (Enc.enc e) j x (by simp [els, he]) hx
            rw [← htake, take_at _ _ _ (by omega)] at hu
            exact ⟨u, hu, hr'⟩
          obtain ⟨a0, b0, r0⟩ := hc 0 _ rfl
          obtain ⟨a1, b1, r1⟩ := hc 1 _ rfl
          obtain ⟨a2, b2, r2⟩ := hc 2 _ rfl
          obtain ⟨a3, b3, r3⟩ := hc 3 _ rfl
          obtain ⟨a4, b4, r4⟩ := hc 4 _ rfl
          cases r0; cases r1; cases r2; cases r3; cases r4
          exact ⟨b0, b1, b2, b3, b4⟩
        · have := hq (.fb f s 0) (List.getElem?_eq_some_iff.1 h2).1 rfl
          rw [els_len] at this
          exact this
theorem rowV_rt {cur : Array Value} {l : List GEn} {n : Nat} (hn : l.length = n) (hsz : n * 5 ≤ cur.size) (hrow : RowV cur l) (sh : Nat → Prop) (w : World) : RTrow sh w 5 (cur.toList.take (n * 5)) (els l) := by
  have hlen : (cur.toList.take (n * 5)).length = n * 5 := by rw [List.length_take, Array.length_toList]; omega
  refine ⟨by rw [els_len, hn]; exact hlen, fun e he => ?_, fun i e j x hi hj => ?_⟩
  · obtain ⟨x, _, rfl⟩ := List.mem_map.1 he
    exact Enc.len x
  · obtain ⟨y, hy, rfl⟩ := els_at hi
    have hil := (List.getElem?_eq_some_iff.1 hy).1
    obtain ⟨r0, r1, r2, r3, r4⟩ := hrow i y hy
    rcases enc_at5 y j x hj with ⟨rfl, rfl⟩ | ⟨rfl, rfl⟩ | ⟨rfl, rfl⟩ | ⟨rfl, rfl⟩ | ⟨rfl, rfl⟩
    · exact ⟨_, by rw [take_at _ _ _ (by omega)]; exact r0, .sc _ rfl⟩
    · exact ⟨_, by rw [take_at _ _ _ (by omega)]; exact r1, .sc _ rfl⟩
    · exact ⟨_, by rw [take_at _ _ _ (by omega)]; exact r2, .sc _ rfl⟩
    · exact ⟨_, by rw [take_at _ _ _ (by omega)]; exact r3, .sc _ rfl⟩
    · exact ⟨_, by rw [take_at _ _ _ (by omega)]; exact r4, .sc _ rfl⟩
/-- A cache's own row. -/
theorem row_vd {B fr : Nat} {G : Gh} {w : World} {f s Be n cap : Nat} {cur : Array Value} {l : List GEn} (hn : l.length = n) (hg : w.heap[Be]? = some (.cells cur 81 (0, 0))) (hB : B ≤ Be) (hnc : n ≤ cap) (hm : cap ≤ maxLen) (hsz : cur.size = cap * 5) (hrow : RowV cur l)
    (hL : G.L Be = some (.own (.bc f s 0))) (hv : G.hv (.bc f s 0) 0 = .slice (some ⟨Be, 0, none⟩) n cap) : VD B fr G vr0 w (.bc f s 0) (.slice (some ⟨Be, 0, none⟩) n cap) (.own 81 5 (els l)) := by
  have hle : n * 5 ≤ cap * 5 := Nat.mul_le_mul_right _ hnc
  have hlen : (cur.toList.take (n * 5)).length = n * 5 := by rw [List.length_take, Array.length_toList]; omega
  refine .own _ _ 81 5 _ (cur.toList.take (n * 5)) ⟨by rw [els_len, hn]; exact hlen, .inr ⟨Be, cap, cur, by rw [els_len, hn], hB, hg, by rw [els_len, hn]; exact hnc, hm, hsz, by rw [els_len, hn]⟩⟩ ?_ (by omega) (fun g hg => by cases hg; exact hL) (fun q _ _ => hv)
  refine ⟨by rw [els_len, hn]; exact hlen, fun e he => ?_, fun i e j x hi hj => ?_⟩
  · obtain ⟨x, _, rfl⟩ := List.mem_map.1 he
    exact Enc.len x
  · obtain ⟨y, hy, rfl⟩ := els_at hi
    have hil := (List.getElem?_eq_some_iff.1 hy).1
    obtain ⟨r0, r1, r2, r3, r4⟩ := hrow i y hy
    rcases enc_at5 y j x hj with ⟨rfl, rfl⟩ | ⟨rfl, rfl⟩ | ⟨rfl, rfl⟩ | ⟨rfl, rfl⟩ | ⟨rfl, rfl⟩
    · exact ⟨_, by rw [take_at _ _ _ (by omega)]; exact r0, .sc _ rfl⟩
    · exact ⟨_, by rw [take_at _ _ _ (by omega)]; exact r1, .sc _ rfl⟩
    · exact ⟨_, by rw [take_at _ _ _ (by omega)]; exact r2, .sc _ rfl⟩
    · exact ⟨_, by rw [take_at _ _ _ (by omega)]; exact r3, .sc _ rfl⟩
    · exact ⟨_, by rw [take_at _ _ _ (by omega)]; exact r4, .sc _ rfl⟩
theorem encC_box {B fr : Nat} {G : Gh} {w : World} {f s Be n cap : Nat} {cur : Array Value} {T : TypeId} {c : GCa} (ha : G.al f s) (hT : G.L (G.hb f s) = some (.box f s)) (cw : CacheW w (G.hb f s) Be n cap cur T 81 c.hits c.misses)
    (hv0 : VD B fr G vr0 w (.bc f s 0) (.slice (some ⟨Be, 0, none⟩) n cap) (.own 81 5 (els c.entries))) : BoxOk B fr G vr0 w f s (encC c) := by
  refine ⟨ha, hT, fun d hd => ?_, _, T, cw.box, rfl, fun u hu => ?_, fun o u d hu hd => ?_⟩
  · simp only [encC, List.mem_cons, List.not_mem_nil, or_false] at hd
    rcases hd with rfl | rfl | rfl <;> rfl
  · simp only [List.mem_toArray, List.mem_cons, List.not_mem_nil, or_false] at hu
    rcases hu with rfl | rfl | rfl <;> rfl
  · match o, hu, hd with
    | 0, hu, hd => cases hu; cases hd; exact hv0
    | 1, hu, hd => cases hu; cases hd; exact VD.scal rfl
    | 2, hu, hd => cases hu; cases hd; exact VD.scal rfl
    | o + 3, hu, hd => simp [encC] at hd
theorem setBox_at {frs : Frames} {f s f' s' : Nat} {b : List (List D)} {c c' : List D} (h1 : (setBox frs f s c)[f']? = some b) (h2 : b[s']? = some c') : (f' = f ∧ s' = s ∧ c' = c) ∨ ((f' ≠ f ∨ s' ≠ s) ∧ ∃ b', frs[f']? = some b' ∧ b'[s']? = some c') := by
  unfold setBox at h1
  rw [List.getElem?_set] at h1
  by_cases e : f = f'
  · subst e
    rw [if_pos rfl] at h1
    split at h1
    · rename_i hf
      cases h1
      rw [List.getElem?_set] at h2
      by_cases e : s = s'
      · subst e
        rw [if_pos rfl] at h2
        split at h2
        · cases h2; exact .inl ⟨rfl, rfl, rfl⟩
        · cases h2
      · rw [if_neg e] at h2
        exact .inr ⟨.inr (Ne.symm e), frs.getD f [], by rw [List.getD_eq_getElem?_getD, List.getElem?_eq_getElem hf]; rfl, h2⟩
    · cases h1
  · rw [if_neg e] at h1
    exact .inr ⟨.inl (Ne.symm e), b, h1, h2⟩
/-- A cache is turned. -/
theorem FrS.turn {B : Nat} {G : Gh} {frs : Frames} {w w' : World} (F : FrS B G frs w) {f s : Nat} {c : GCa} {Be cap : Nat} {cur cur' : Array Value} {T : TypeId} (h : Held B G w f s c Be cap cur T) (c' : GCa) (hne' : boxAt frs f s ≠ [])
    (hO : Oth w w' (G.hb f s) Be) (cw : CacheW w' (G.hb f s) Be c.entries.length cap cur' T 81 c'.hits c'.misses) (hl : c'.entries.length = c.entries.length) (hsz : cur'.size = cur.size) (hrow : RowV cur' c'.entries) :
    FrS B G (setBox frs f s (encC c')) w' ∧ Step frs.length G w G w' ∧ (setBox frs f s (encC c')).length = frs.length := by
  have lenE : (setBox frs f s (encC c')).length = frs.length := by unfold setBox; rw [List.length_set]
  have tag : ∀ g τ, G.L g = some τ → τ ≠ .box f s → τ ≠ .own (.bc f s 0) → w'.heap[g]? = w.heap[g]? := fun g τ hg h1 h2 => hO.block g (F.old g τ hg).1 (fun e => by subst e; rw [h.tagB] at hg; cases hg; exact h1 rfl) (fun e => by subst e; rw [h.tagE] at hg; cases hg; exact h2 rfl)
  have shr : ∀ g, G.L g = none → g < w.heap.size → w'.heap[g]? = w.heap[g]? := fun g hg hlt => hO.block g hlt (fun e => by subst e; rw [h.tagB] at hg; cases hg) (fun e => by subst e; rw [h.tagE] at hg; cases hg)
  have K : Keep frs.length G (St.verAt { tm := [], bx := [], fr := frs }) w G (St.verAt { tm := [], bx := [], fr := setBox frs f s (encC c') }) w' (fun p => p ≠ .bc f s 0) (fun f' s' => f' ≠ f ∨ s' ≠ s) :=
    ⟨hO.size, fun _ _ h => h, fun g hg hl => shr g hg hl, fun g p hg hp => ⟨hg, tag g _ hg (by simp) (fun e => by cases e; exact hp rfl)⟩, fun _ => Nat.le_refl _, fun _ _ => rfl, fun _ _ _ _ => rfl, fun _ _ ha => ⟨ha, rfl⟩,
      fun f' s' ha hb => ⟨rfl, tag _ _ (F.alt f' s' ha) (fun e => by cases e; rcases hb with h | h <;> exact h rfl) (by simp)⟩⟩
  have hC : Closed fun p => p ≠ .bc f s 0 := fun p i hp => by cases p <;> simp_all [Ap.sub]
  have box := encC_box (B := B) (fr := frs.length) h.al h.tagB cw (row_vd hl cw.row h.base h.ncap h.mcap (hsz.trans h.size) hrow h.tagE h.hv)
  have F' : Sim B frs.length G { tm := [], bx := [], fr := setBox frs f s (encC c') } { tmps := #[], defers := [] } w' := by
   refine F.upd (σ' := { tm := [], bx := [], fr := setBox frs f s (encC c') }) (act' := { tmps := #[], defers := [] }) K hC rfl (fun t d e => by simp at e) (fun s c e => by simp at e) ⟨fun s' _ => F.bxn.1 s' rfl, fun f' b hb s' he => ?_⟩ (fun f' b hb s' c0 hc0 hne => ?_) lenE F.alf F.alt (fun g τ e => ⟨Nat.lt_of_lt_of_le (F.old g τ e).1 hO.size, (F.old g τ e).2⟩) rfl
   · -- a box that is not there was not there
     by_cases hfs : f' = f ∧ s' = s
     · obtain ⟨rfl, rfl⟩ := hfs
       exfalso
       unfold setBox at hb
       rw [List.getElem?_set, if_pos rfl] at hb
       split at hb
       · cases hb
         have h1 : s' < (frs.getD f' []).length := by
           rcases Nat.lt_or_ge s' (frs.getD f' []).length with h | h
           · exact h
           · exact absurd (by unfold boxAt; rw [List.getD_eq_getElem?_getD, List.getElem?_eq_none h]; rfl) hne'
         rw [List.getD_eq_getElem?_getD, List.getElem?_set, if_pos rfl, if_pos h1] at he
         simp [encC] at he
       · cases hb
     · have hb' : ∃ b', frs[f']? = some b' ∧ b'.getD s' [] = [] := by
         unfold setBox at hb
         rw [List.getElem?_set] at hb
         by_cases e : f = f'
         · subst e
           rw [if_pos rfl] at hb
           split at hb
           · rename_i hf
             cases hb
             refine ⟨frs.getD f [], by rw [List.getD_eq_getElem?_getD, List.getElem?_eq_getElem hf]; rfl, ?_⟩
             rw [List.getD_eq_getElem?_getD, List.getElem?_set, if_neg (fun e => hfs ⟨rfl, e.symm⟩), ← List.getD_eq_getElem?_getD] at he
             exact he
           · cases hb
         · rw [if_neg e] at hb
           exact ⟨b, hb, he⟩
       obtain ⟨b', h1, h2⟩ := hb'
       exact F.bxn.2 f' b' h1 s' h2
   · rcases setBox_at hb hc0 with ⟨rfl, rfl, rfl⟩ | ⟨h1, b', h2, h3⟩
     · refine .inr ?_
       rw [verAt0]
       exact box
     · exact .inl ⟨⟨b', h2, h3⟩, h1, fun o d _ _ => fun e => by cases e; rcases h1 with h | h <;> exact h rfl⟩
  refine ⟨?_, ?_, lenE⟩
  · unfold FrS; rw [lenE]; exact F'
  · exact ⟨hO.os, hO.tape, hO.output, hO.size, fun g hl e => ⟨e, shr g e hl⟩, fun g e => ⟨e, tag g _ e (by simp) (by simp)⟩, fun g p f' e hf' _ => ⟨e, tag g _ e (by simp) (fun e' => by cases e'; cases hf')⟩, fun _ _ _ ha => ⟨ha, rfl⟩⟩
/-- A box more, of a cache, in a frame. -/
def Gh.more (G : Gh) (N f s : Nat) (v : Value) : Gh where
  L := fun g => if g = N then some (.own (.bc f s 0)) else if g = N + 1 then some (.box f s) else G.L g
  hv := fun p k => if p = .bc f s 0 then v else G.hv p k
  hb := fun f' s' => if f' = f ∧ s' = s then N + 1 else G.hb f' s'
  al := fun f' s' => (f' = f ∧ s' = s) ∨ G.al f' s'
theorem more_L {G : Gh} {N f s g : Nat} {v : Value} (h : g < N) : (G.more N f s v).L g = G.L g := by
  show (if g = N then _ else if g = N + 1 then _ else G.L g) = _
  rw [if_neg (by omega), if_neg (by omega)]
theorem more_hb {G : Gh} {N f s f' s' : Nat} {v : Value} (h : ¬ (f' = f ∧ s' = s)) : (G.more N f s v).hb f' s' = G.hb f' s' := if_neg h
theorem more_hv {G : Gh} {N f s k : Nat} {v : Value} {p : Ap} (h : p ≠ .bc f s 0) : (G.more N f s v).hv p k = G.hv p k := if_neg h
theorem VD.morePtr {B fr f s N : Nat} {G : Gh} {w w' : World} {v0 : Value} (hna : ¬ G.al f s) (hnl : ∀ s, ¬ G.al fr s) {p : Ap} {v : Value} {d : D} (hp : d.ptr = true) (h : VD B fr G vr0 w p v d) : VD B fr (G.more N f s v0) vr0 w' p v d := by
  cases h with
  | lp p s' o ha => exact absurd ha (hnl s')
  | fp p f' s' o hf ha =>
    have hne : ¬ (f' = f ∧ s' = s) := fun e => by obtain ⟨rfl, rfl⟩ := e; exact hna ha
    rw [← more_hb (G := G) (N := N) (v := v0) hne]
    exact .fp _ f' s' o hf (.inr ha)
  | _ => cases hp
theorem VD.moreBare {B fr f s : Nat} {G : Gh} {w w' : World} {v0 : Value} (hold : ∀ g τ, G.L g = some τ → g < w.heap.size) (hna : ¬ G.al f s) (hnl : ∀ s, ¬ G.al fr s) (hb : Below w.heap.size w w') {p : Ap} {v : Value} {d : D} (hd : d.bare = true) (hpne : p ≠ .bc f s 0) (h : VD B fr G vr0 w p v d) : VD B fr (G.more w.heap.size f s v0) vr0 w' p v d := by
  have hsh : ∀ b, G.sh b → b < w.heap.size → (G.more w.heap.size f s v0).sh b ∧ w'.heap[b]? = w.heap[b]? := fun b h1 h2 => ⟨(more_L h2).trans h1, hb.block b h2⟩
  cases h with
  | t p v x h => exact .t _ _ _ (h.mono hsh)
  | own p v e sz els us ho hr hsz hL hq =>
    refine .own _ _ e sz els us (ownsRow_same ho fun g hg => hb.block g (hold g _ (hL g hg))) (hr.mono hsh) hsz (fun g hg => (more_L (hold g _ (hL g hg))).trans (hL g hg)) (fun q hok e => ?_)
    rw [more_hv hpne]
    exact hq q hok e
  | omap p g es clock kvs hg hm hB hL hq =>
    refine .omap _ g es clock kvs (by rw [hb.block g (hold g _ hL)]; exact hg) hm hB ((more_L (hold g _ hL)).trans hL) (fun q hok e => ?_)
    rw [more_hv hpne]
    exact hq q hok e
  | lp p s' o ha => exact VD.morePtr (w := w) hna hnl rfl (.lp p s' o ha)
  | fp p f' s' o hf ha => exact VD.morePtr (w := w) hna hnl rfl (.fp p f' s' o hf ha)
  | clo p f' us ds hs hno h =>
    exact .clo _ f' us ds hs hno fun i u d hu hd => VD.morePtr hna hnl (List.all_eq_true.1 hno d (List.mem_of_getElem? hd)) (h i u d hu hd)
  | dead p v => exact .dead _ _
  | agg => cases hd
  | tup => cases hd
  | alsN => cases hd
  | als => cases hd
  | mal => cases hd
  | ept => cases hd
theorem FrS.fresh {B : Nat} {G : Gh} {frs : Frames} {w : World} (F : FrS B G frs w) {f s : Nat} (hf : f < frs.length) (hs : s < (frs.getD f []).length) (he : boxAt frs f s = []) (n : Nat) (hn : 0 < n) (hn2 : n ≤ 64) (cur : Array Value) (hsz : cur.size = n * 5) (eT bT : TypeId) (l0 : List (List T)) (hl0 : l0.length = n) (hrow : ∀ sh w, RTrow sh w 5 (cur.toList.take (n * 5)) l0) (w' : World)
    (hw' : w' = (w.alloc (.cells cur eT)).alloc (.cells #[.slice (some ⟨w.heap.size, 0, none⟩) n n, .int .i64 0, .int .i64 0] bT)) :
    ∃ G', FrS B G' (setBox frs f s (newC eT l0)) w' ∧ Step frs.length G w G' w' ∧ (setBox frs f s (newC eT l0)).length = frs.length ∧ G'.al f s ∧ G'.hb f s = w.heap.size + 1 := by
  have lenE : (setBox frs f s (newC eT l0)).length = frs.length := by unfold setBox; rw [List.length_set]
  have hsize : w'.heap.size = w.heap.size + 2 := by rw [hw', World.size_alloc, World.size_alloc]
  have hb : Below w.heap.size w w' := by rw [hw']; exact ((Below.refl _ w).alloc (Nat.le_refl _) _).trans ((Below.refl _ _).alloc (by rw [World.size_alloc]; omega) _)
  have h2 : frs[f]? = some (frs.getD f []) := by rw [List.getD_eq_getElem?_getD, List.getElem?_eq_getElem hf]; rfl
  have hna : ¬ G.al f s := F.bxn.2 f _ h2 s he
  have hnl : ∀ s, ¬ G.al frs.length s := fun s => F.bxn.1 s rfl
  have hold : ∀ g τ, G.L g = some τ → g < w.heap.size := fun g τ h => (F.old g τ h).1
  obtain ⟨v0, hv0⟩ : ∃ v0, Value.slice (some ⟨w.heap.size, 0, none⟩) n n = v0 := ⟨_, rfl⟩
  have hrow' : w'.heap[w.heap.size]? = some (.cells cur eT (0, 0)) := by
    have h1 := World.alloc_heap_new w (.cells cur eT)
    rw [hw', ← h1]
    exact ((Below.refl _ _).alloc (Nat.le_refl _) _).block _ (by rw [World.size_alloc]; omega)
  have hbox' : w'.heap[w.heap.size + 1]? = some (.cells #[.slice (some ⟨w.heap.size, 0, none⟩) n n, .int .i64 0, .int .i64 0] bT (0, 0)) := by
    have h1 := World.alloc_heap_new (w.alloc (.cells cur eT)) (.cells #[.slice (some ⟨w.heap.size, 0, none⟩) n n, .int .i64 0, .int .i64 0] bT)
    rw [World.size_alloc] at h1
    rw [hw']; exact h1
  obtain ⟨G', hG'⟩ : ∃ G', G.more w.heap.size f s v0 = G' := ⟨_, rfl⟩
  have a1 : G'.al f s := by rw [← hG']; exact .inl ⟨rfl, rfl⟩
  have a2 : G'.hb f s = w.heap.size + 1 := by rw [← hG']; exact if_pos ⟨rfl, rfl⟩
  have a3 : G'.L w.heap.size = some (.own (.bc f s 0)) := by rw [← hG']; exact if_pos rfl
  have a4 : G'.L (w.heap.size + 1) = some (.box f s) := by rw [← hG']; exact (if_neg (by omega)).trans (if_pos rfl)
  have a5 : G'.hv (.bc f s 0) 0 = .slice (some ⟨w.heap.size, 0, none⟩) n n := by rw [← hG', hv0]; exact if_pos rfl
  have a6 : ∀ g, g < w.heap.size → G'.L g = G.L g := fun g hg => by rw [← hG']; exact more_L hg
  have a7 : ∀ f' s', ¬ (f' = f ∧ s' = s) → G'.hb f' s' = G.hb f' s' := fun f' s' h => by rw [← hG']; exact more_hb h
  have a8 : ∀ f' s', G'.al f' s' → (f' = f ∧ s' = s) ∨ G.al f' s' := fun f' s' h => by rw [← hG'] at h; exact h
  have a9 : ∀ f' s', G.al f' s' → G'.al f' s' := fun f' s' h => by rw [← hG']; exact .inr h
  have hlen : (cur.toList.take (n * 5)).length = n * 5 := by rw [List.length_take, Array.length_toList]; omega
  have vd0 : VD B frs.length G' vr0 w' (.bc f s 0) (.slice (some ⟨w.heap.size, 0, none⟩) n n) (.own eT 5 l0) :=
    .own _ _ eT 5 _ (cur.toList.take (n * 5)) ⟨by rw [hl0]; exact hlen, .inr ⟨w.heap.size, n, cur, by rw [hl0], F.base, hrow', by omega, by unfold maxLen; omega, hsz, by rw [hl0]⟩⟩ (hrow _ _) (by omega) (fun g hg => by cases hg; exact a3) (fun q _ _ => a5)
  have box : BoxOk B frs.length G' vr0 w' f s (newC eT l0) := by
    refine ⟨a1, by rw [a2]; exact a4, fun d hd => ?_, _, bT, by rw [a2]; exact hbox', rfl, fun u hu => ?_, fun o u d hu hd => ?_⟩
    · simp only [newC, List.mem_cons, List.not_mem_nil, or_false] at hd
      rcases hd with rfl | rfl | rfl <;> rfl
    · simp only [List.mem_toArray, List.mem_cons, List.not_mem_nil, or_false] at hu
      rcases hu with rfl | rfl | rfl <;> rfl
    · match o, hu, hd with
      | 0, hu, hd => cases hu; cases hd; exact vd0
      | 1, hu, hd => cases hu; cases hd; exact VD.scal rfl
      | 2, hu, hd => cases hu; cases hd; exact VD.scal rfl
      | o + 3, hu, hd => simp [newC] at hd
  have oldbox : ∀ f' b', frs[f']? = some b' → ∀ s' c', b'[s']? = some c' → c' ≠ [] → (f' ≠ f ∨ s' ≠ s) → BoxOk B frs.length G' vr0 w' f' s' c' := fun f' b' hb' s' c' hc' hne hd => by
    have hnn : ¬ (f' = f ∧ s' = s) := fun e => by rcases hd with h | h; exact h e.1; exact h e.2
    obtain ⟨ha, ht, hbare, us, T, hg, hs', h1, hv⟩ := F.frs f' b' hb' s' c' hc' hne
    have hlt := hold _ _ ht
    refine ⟨a9 _ _ ha, by rw [a7 _ _ hnn, a6 _ hlt]; exact ht, hbare, us, T, by rw [a7 _ _ hnn, hb.block _ hlt]; exact hg, hs', h1, fun o u d hu hd' => ?_⟩
    have := hv o u d hu hd'
    rw [verAt0] at this
    rw [← hG']
    exact VD.moreBare hold hna hnl hb (hbare d (List.mem_of_getElem? hd')) (fun e => by cases e; exact hnn ⟨rfl, rfl⟩) this
  refine ⟨G', ?_, ⟨hb.os, hb.tape, hb.output, hb.size, fun g hg e => ⟨(a6 g hg).trans e, hb.block g hg⟩, fun g e => ⟨(a6 g (hold g _ e)).trans e, hb.block g (hold g _ e)⟩, fun g p f' e _ _ => ⟨(a6 g (hold g _ e)).trans e, hb.block g (hold g _ e)⟩, fun f' s' _ ha => ⟨a9 _ _ ha, a7 _ _ fun e => by obtain ⟨rfl, rfl⟩ := e; exact hna ha⟩⟩, lenE, a1, a2⟩
  unfold FrS
  rw [lenE]
  refine ⟨rfl, fun t d e => by simp at e, fun s c e => by simp at e, ⟨fun s' _ ha => ?_, fun f' b' hb' s' he' ha => ?_⟩, fun f' b' hb' s' c' hc' hne => ?_, lenE, fun f' s' hlt ha => ?_, fun f' s' ha => ?_, fun g τ e => ?_, Nat.le_trans F.base hb.size, rfl⟩
  · rcases a8 _ _ ha with ⟨e, _⟩ | h
    · omega
    · exact hnl s' h
  · -- no box of which nothing is told
    by_cases hfs : f' = f ∧ s' = s
    · obtain ⟨rfl, rfl⟩ := hfs
      unfold setBox at hb'
      rw [List.getElem?_set, if_pos rfl, if_pos hf] at hb'
      cases hb'
      rw [List.getD_eq_getElem?_getD, List.getElem?_set, if_pos rfl, if_pos hs] at he'
      simp [newC] at he'
    · have hb0 : ∃ b0, frs[f']? = some b0 ∧ b0.getD s' [] = [] := by
        unfold setBox at hb'
        rw [List.getElem?_set] at hb'
        by_cases e : f = f'
        · subst e
          rw [if_pos rfl, if_pos hf] at hb'
          cases hb'
          refine ⟨frs.getD f [], h2, ?_⟩
          rw [List.getD_eq_getElem?_getD, List.getElem?_set, if_neg (fun e => hfs ⟨rfl, e.symm⟩), ← List.getD_eq_getElem?_getD] at he'
          exact he'
        · rw [if_neg e] at hb'
          exact ⟨b', hb', he'⟩
      obtain ⟨b0, h3, h4⟩ := hb0
      rcases a8 _ _ ha with e | h
      · exact hfs e
      · exact F.bxn.2 f' b0 h3 s' h4 h
  · rw [verAt0]
    rcases setBox_at hb' hc' with ⟨rfl, rfl, rfl⟩ | ⟨h1, b0, h3, h4⟩
    · exact box
    · exact oldbox f' b0 h3 s' c' h4 hne h1
  · rcases a8 _ _ ha with ⟨e, _⟩ | h
    · omega
    · exact F.alf f' s' hlt h
  · by_cases hfs : f' = f ∧ s' = s
    · obtain ⟨rfl, rfl⟩ := hfs
      rw [a2]; exact a4
    · have hal := (a8 _ _ ha).resolve_left hfs
      rw [a7 _ _ hfs, a6 _ (hold _ _ (F.alt f' s' hal))]
      exact F.alt f' s' hal
  · by_cases h1 : g < w.heap.size
    · rw [a6 g h1] at e
      exact ⟨by omega, (F.old g τ e).2⟩
    · rw [← hG'] at e
      have e : (if g = w.heap.size then some (Tag.own (.bc f s 0)) else if g = w.heap.size + 1 then some (.box f s) else G.L g) = some τ := e
      have hB := F.base
      by_cases h2 : g = w.heap.size
      · exact ⟨by omega, .inr (by omega)⟩
      · by_cases h3 : g = w.heap.size + 1
        · exact ⟨by omega, .inr (by omega)⟩
        · rw [if_neg h2, if_neg h3] at e
          exact absurd (hold g τ e) h1
end Go.Pv

/- cache's functions: what is told of them is so. -/
namespace Go.Pv
open Go Go.Proofs Go.RowKit
set_option linter.unusedVariables false
theorem put5_at (cur : Array Value) (o k' : Nat) (k s m a : Int) (hlt : o + 4 < cur.size) : (put5 cur o k s m a)[k']? = if k' = o then some (.int .i64 k) else if k' = o + 1 then some (.int .i64 s) else if k' = o + 2 then some (.int .i64 m) else if k' = o + 3 then some (.int .i64 a) else if k' = o + 4 then some (.bool true) else cur[k']? := by
  unfold put5
  simp only [Array.getElem?_setIfInBounds, Array.size_setIfInBounds]
  by_cases h4 : o + 4 = k'
  · subst h4
    rw [if_pos rfl, if_pos (by omega), if_neg (by omega), if_neg (by omega), if_neg (by omega), if_neg (by omega), if_pos rfl]
  · rw [if_neg h4]
    by_cases h3 : o + 3 = k'
    · subst h3
      rw [if_pos rfl, if_pos (by omega), if_neg (by omega), if_neg (by omega), if_neg (by omega), if_pos rfl]
    · rw [if_neg h3]
      by_cases h2 : o + 2 = k'
      · subst h2
        rw [if_pos rfl, if_pos (by omega), if_neg (by omega), if_neg (by omega), if_pos rfl]
      · rw [if_neg h2]
        by_cases h1 : o + 1 = k'
        · subst h1
          rw [if_pos rfl, if_pos (by omega), if_neg (by omega), if_pos rfl]
        · rw [if_neg h1]
          by_cases h0 : o = k'
          · subst h0
            rw [if_pos rfl, if_pos (by omega), if_pos rfl]
          · rw [if_neg h0, if_neg (Ne.symm h0), if_neg (Ne.symm h1), if_neg (Ne.symm h2), if_neg (Ne.symm h3), if_neg (Ne.symm h4)]
theorem put5_size (cur : Array Value) (o : Nat) (k s m a : Int) : (put5 cur o k s m a).size = cur.size := by simp [put5]
theorem RowV.put {cur : Array Value} {l : List GEn} (h : RowV cur l) (i : Nat) (hi : i < l.length) (hsz : l.length * 5 ≤ cur.size) (k s m a : Int) : RowV (put5 cur (i * 5) k s m a) (l.set i ⟨⟨k, s⟩, m, a, true⟩) := by
  intro i' e he
  have hlt : i * 5 + 4 < cur.size := by omega
  rw [List.getElem?_set] at he
  by_cases hii : i = i'
  · subst hii
    rw [if_pos rfl, if_pos hi] at he
    cases he
    refine ⟨?_, ?_, ?_, ?_, ?_⟩ <;> rw [put5_at _ _ _ _ _ _ _ hlt]
    · rw [if_pos rfl]
    · rw [if_neg (by omega), if_pos rfl]
    · rw [if_neg (by omega), if_neg (by omega), if_pos rfl]
    · rw [if_neg (by omega), if_neg (by omega), if_neg (by omega), if_pos rfl]
    · rw [if_neg (by omega), if_neg (by omega), if_neg (by omega), if_neg (by omega), if_pos rfl]
  · rw [if_neg hii] at he
    obtain ⟨h0, h1, h2, h3, h4⟩ := h i' e he
    refine ⟨?_, ?_, ?_, ?_, ?_⟩ <;> rw [put5_at _ _ _ _ _ _ _ hlt, if_neg (by omega), if_neg (by omega), if_neg (by omega), if_neg (by omega), if_neg (by omega)] <;> assumption
abbrev zc : Array Value := #[.int .i64 0, .int .i64 0, .int .i64 0, .int .i64 0, .bool false]
theorem made_at (m x : Nat) (hx : x < m) : (madeCells zc m)[x]? = some (zc[x % 5]!) := by
  unfold madeCells
  rw [Array.getElem?_map, show (Array.range m)[x]? = some x by simp [hx]]
  rfl
theorem made_row (n : Nat) (cur : Array Value) (h : ∀ x, x < n * 5 → cur[x]? = (madeCells zc (n * 5))[x]?) : RowV cur (List.replicate n zeroE) := by
  intro i e he
  rw [List.getElem?_replicate] at he
  split at he
  · rename_i hi
    cases he
    refine ⟨?_, ?_, ?_, ?_, ?_⟩ <;> rw [h _ (by omega), made_at _ _ (by omega)]
    · rw [show i * 5 % 5 = 0 by omega]; rfl
    · rw [show (i * 5 + 1) % 5 = 1 by omega]; rfl
    · rw [show (i * 5 + 2) % 5 = 2 by omega]; rfl
    · rw [show (i * 5 + 3) % 5 = 3 by omega]; rfl
    · rw [show (i * 5 + 4) % 5 = 4 by omega]; rfl
  · cases he
def setL (cur : Array Value) : Nat → List Value → Array Value
  | _, [] => cur
  | o, v :: r => setL (cur.setIfInBounds o v) (o + 1) r
theorem setL_size (vs : List Value) : ∀ (cur : Array Value) (o : Nat), (setL cur o vs).size = cur.size := by
  induction vs with
  | nil => intro cur o; rfl
  | cons v r ih => intro cur o; rw [setL, ih, Array.size_setIfInBounds]
theorem setL_at (vs : List Value) : ∀ (cur : Array Value) (o : Nat), o + vs.length ≤ cur.size → ∀ x, (setL cur o vs)[x]? = if o ≤ x ∧ x < o + vs.length then vs[x - o]? else cur[x]? := by
  induction vs with
  | nil => intro cur o _ x; rw [if_neg (by simp only [List.length_nil, Nat.add_zero]; omega)]; rfl
  | cons v r ih =>
    intro cur o hl x
    simp only [List.length_cons] at hl ⊢
    rw [setL, ih _ _ (by rw [Array.size_setIfInBounds]; omega), Array.getElem?_setIfInBounds]
    by_cases h1 : o + 1 ≤ x ∧ x < o + 1 + r.length
    · rw [if_pos h1, if_pos (by omega), show x - o = (x - (o + 1)) + 1 by omega, List.getElem?_cons_succ]
    · rw [if_neg h1]
      by_cases h2 : o = x
      · subst h2
        rw [if_pos rfl, if_pos (by omega), if_pos (by omega), Nat.sub_self]; rfl
      · rw [if_neg h2, if_neg (by omega)]
theorem setCells_row (Be : Nat) (T : TypeId) (vs : List Value) : ∀ (w : World) (cur : Array Value) (o : Nat), w.heap[Be]? = some (.cells cur T (0, 0)) → (w.setCells Be o vs).heap[Be]? = some (.cells (setL cur o vs) T (0, 0)) := by
  induction vs with
  | nil => intro w cur o h; exact h
  | cons v r ih => intro w cur o h; exact ih _ _ _ (heap_setCell_same w Be o _ _ v h)
theorem setCells_oth (Bc Be : Nat) (vs : List Value) : ∀ (w : World) (o : Nat), Oth w (w.setCells Be o vs) Bc Be := by
  induction vs with
  | nil => intro w o; exact Oth.of (Below.refl _ w)
  | cons v r ih => intro w o; exact (Oth.set Be o v (.inr rfl)).trans (ih _ _)
theorem setCells_other (Bc Be : Nat) (hne : Bc ≠ Be) (vs : List Value) : ∀ (w : World) (o : Nat), (w.setCells Be o vs).heap[Bc]? = w.heap[Bc]? := by
  induction vs with
  | nil => intro w o; rfl
  | cons v r ih => intro w o; exact (ih _ _).trans (heap_setCell_other w ⟨Be, o, none⟩ Bc v hne)
/-- look.Find, at a heap's value. -/
theorem look_at {V : World} {u0 : Value} {h : GHeap} (H : Bs.HA V (.agg #[u0, .int .i64 h.Cap, .int .i64 h.Last]) h) (hs : Slim h) (k t : Int) : Calls Try.prog 14 #[.agg #[u0, .int .i64 h.Cap, .int .i64 h.Last], .int .i64 k, .int .i64 t] V fun r V' =>
    r = .returned (.tuple #[.int .i64 (findP h k t).1, .int .i64 (findP h k t).2.1, .int .i64 (findP h k t).2.2]) ∧ Below V.heap.size V V' := by
  obtain ⟨b1, b2, b3, b4, b5⟩ := base_calls H hs
  refine (find_in u0 _ _ k t V (okHeapB h) (clsP h) (slotP h 0) (slotP h 1) topP (fun v => (prP h v).1) b1 b2 b3 b4 (prP_len hs) b5).mono ?_
  rintro out w' ⟨p, rfl, rfl, hb⟩
  exact ⟨rfl, hb⟩
theorem heap_sh {B fr : Nat} {G : Gh} {vr : Pl → Nat} {w : World} {p : Ap} {u : Value} {h : GHeap} (hv : VD B fr G vr w p u (.agg [.t (.sl 6 (els h.Objs)), I h.Cap, I h.Last])) :
    ∃ u0, u = .agg #[u0, .int .i64 h.Cap, .int .i64 h.Last] ∧ RT G.sh w u0 (.sl 6 (els h.Objs)) := by
  cases hv with
  | agg _ us _ hs h1 hh =>
    obtain ⟨us⟩ := us
    match us, hs with
    | [a, b, c], _ =>
      have h0 := hh 0 a _ rfl rfl
      have h1 := (hh 1 b _ rfl rfl).sc
      have h2 := (hh 2 c _ rfl rfl).sc
      subst h1 h2
      cases h0 with
      | t _ _ _ h0 => exact ⟨a, rfl, h0⟩
theorem tup3 {B fr : Nat} {G : Gh} {vr : Pl → Nat} {w : World} {p : Ap} (a b c : Int) : VD B fr G vr w p (.tuple #[.int .i64 a, .int .i64 b, .int .i64 c]) (.tup [I a, I b, I c]) := by
  refine .tup _ _ _ rfl fun i u d hu hd => ?_
  match i, hu, hd with
  | 0, hu, hd => cases hu; cases hd; exact vd_int _
  | 1, hu, hd => cases hu; cases hd; exact vd_int _
  | 2, hu, hd => cases hu; cases hd; exact vd_int _
  | i + 3, hu, hd => simp at hd
theorem tup2 {B fr : Nat} {G : Gh} {vr : Pl → Nat} {w : World} {p : Ap} (a b : Int) : VD B fr G vr w p (.tuple #[.int .i64 a, .int .i64 b]) (.tup [I a, I b]) := by
  refine .tup _ _ _ rfl fun i u d hu hd => ?_
  match i, hu, hd with
  | 0, hu, hd => cases hu; cases hd; exact vd_int _
  | 1, hu, hd => cases hu; cases hd; exact vd_int _
  | i + 2, hu, hd => simp at hd
theorem args4 {B fr : Nat} {G : Gh} {w : World} {vs : Array Value} {a b : D} {c s : Int} (hlen : vs.size = 4)
    (hargs : ∀ (i : Nat) u d, vs[i]? = some u → [a, b, I c, I s][i]? = some d → d.hasOwn = false ∧ VD B fr G vr0 w (.pn fr i []) u d) : ∃ u v, vs = #[u, v, .int .i64 c, .int .i64 s] ∧ VD B fr G vr0 w (.pn fr 0 []) u a ∧ VD B fr G vr0 w (.pn fr 1 []) v b := by
  obtain ⟨vs⟩ := vs
  match vs, hlen with
  | [x, y, z, u], _ =>
    have h0 := (hargs 0 x _ rfl rfl).2
    have h1 := (hargs 1 y _ rfl rfl).2
    have h2 := (hargs 2 z _ rfl rfl).2.sc
    have h3 := (hargs 3 u _ rfl rfl).2.sc
    subst h2 h3
    exact ⟨x, y, rfl, h0, h1⟩
theorem args1 {B fr : Nat} {G : Gh} {w : World} {vs : Array Value} {a : D} (hlen : vs.size = 1)
    (hargs : ∀ (i : Nat) u d, vs[i]? = some u → [a][i]? = some d → d.hasOwn = false ∧ VD B fr G vr0 w (.pn fr i []) u d) : ∃ u, vs = #[u] ∧ VD B fr G vr0 w (.pn fr 0 []) u a := by
  obtain ⟨vs⟩ := vs
  match vs, hlen with
  | [x], _ => exact ⟨x, rfl, (hargs 0 x _ rfl rfl).2⟩
abbrev TellsF (f : FuncId) (s : List D → Frames → Option (D × Frames)) : Prop := ∀ ds frs d frs', s ds frs = some (d, frs') → ∀ B G w (vs : Array Value), FrS B G frs w → vs.size = ds.length →
    (∀ (i : Nat) u d, vs[i]? = some u → ds[i]? = some d → d.hasOwn = false ∧ VD B frs.length G vr0 w (.pn frs.length i []) u d) →
    d.outOk = true ∧ Calls Try.prog f vs w fun out w' => ∃ v G', out = .returned v ∧ frs'.length = frs.length ∧ FrS B G' frs' w' ∧ Step frs.length G w G' w' ∧ VD B frs.length G' vr0 w' (.pn frs.length 0 []) v d
theorem cNew_told : TellsF 21 cNewS := by
  intro ds frs d frs' hs B G w vs F hlen hargs
  unfold cNewS at hs
  split at hs
  · rename_i _ n
    obtain ⟨u, rfl, hu⟩ := args1 hlen hargs
    have hu := hu.sc
    subst hu
    split at hs
    · rename_i hn
      split at hs
      · cases hs
      · rename_i hf0
        split at hs
        · rename_i s hfree
          cases hs
          have hsl : s < (frs.getD (frs.length - 1) []).length ∧ boxAt frs (frs.length - 1) s = [] := by
            unfold freeBox at hfree
            split at hfree
            · cases hfree
            · split at hfree
              · rename_i he; cases hfree; exact ⟨by omega, he⟩
              · split at hfree
                · rename_i he; cases hfree; exact ⟨by omega, he⟩
                · cases hfree
          refine ⟨rfl, (new_in w n hn.1 hn.2).mono ?_⟩
          rintro out w' ⟨rfl, hw'⟩
          obtain ⟨G', F', S', hl, h1, h2⟩ := F.fresh (show frs.length - 1 < frs.length by omega) hsl.1 hsl.2 n.toNat (by omega) (by omega) (madeCells zc (n.toNat * 5)) (size_madeCells _ _) 81 73 (els (List.replicate n.toNat zeroE)) (by rw [els_len, List.length_replicate]) (rowV_rt (List.length_replicate ..) (by rw [size_madeCells]; omega) (made_row _ _ fun _ _ => rfl)) w' hw'
          refine ⟨_, G', rfl, hl, F', S', ?_⟩
          rw [← h2]
          exact .fp _ _ _ _ (by omega) h1
        · cases hs
    · rename_i hn
      cases hs
      refine ⟨rfl, (new_nil w n hn).mono ?_⟩
      rintro out w' ⟨rfl, rfl⟩
      exact ⟨_, G, rfl, rfl, F, .refl _ _ _, VD.scal rfl⟩
  · cases hs
theorem rNew_told : TellsF 22 rNewS := by
  intro ds frs d frs' hs B G w vs F hlen hargs
  unfold rNewS at hs
  split at hs
  · rename_i _ n
    obtain ⟨u, rfl, hu⟩ := args1 hlen hargs
    have hu := hu.sc
    subst hu
    split at hs
    · rename_i hn
      split at hs
      · cases hs
      · rename_i hf0
        split at hs
        · rename_i s hfree
          cases hs
          have hsl : s < (frs.getD (frs.length - 1) []).length ∧ boxAt frs (frs.length - 1) s = [] := by
            unfold freeBox at hfree
            split at hfree
            · cases hfree
            · split at hfree
              · rename_i he; cases hfree; exact ⟨by omega, he⟩
              · split at hfree
                · rename_i he; cases hfree; exact ⟨by omega, he⟩
                · cases hfree
          refine ⟨rfl, (rnew_in w n hn.1 hn.2).mono ?_⟩
          rintro out w' ⟨rfl, hw'⟩
          have hel : els (List.replicate n.toNat zeroR) = els (List.replicate n.toNat zeroE) := by unfold els; rw [List.map_replicate, List.map_replicate]; rfl
          obtain ⟨G', F', S', hl, h1, h2⟩ := F.fresh (show frs.length - 1 < frs.length by omega) hsl.1 hsl.2 n.toNat (by omega) (by omega) (madeCells zc (n.toNat * 5)) (size_madeCells _ _) 75 53 (els (List.replicate n.toNat zeroR)) (by rw [els_len, List.length_replicate]) (by rw [hel]; exact rowV_rt (List.length_replicate ..) (by rw [size_madeCells]; omega) (made_row _ _ fun _ _ => rfl)) w' hw'
          refine ⟨_, G', rfl, hl, F', S', ?_⟩
          rw [← h2]
          exact .fp _ _ _ _ (by omega) h1
        · cases hs
    · cases hs
  · cases hs
theorem r9_told : ∀ ds d, r9S ds = some d → ∀ B G frs w (vs : Array Value), FrS B G frs w → vs.size = ds.length →
    (∀ (i : Nat) u d, vs[i]? = some u → ds[i]? = some d → d.hasOwn = false ∧ VD B frs.length G vr0 w (.pn frs.length i []) u d) →
    d.outOk = true ∧ Calls Try.prog 28 vs w fun out w' => ∃ v G', out = .returned v ∧ FrS B G' frs w' ∧ Step frs.length G w G' w' ∧ VD B frs.length G' vr0 w' (.pn frs.length 0 []) v d := by
  intro ds d hs B G frs w vs F hlen hargs
  unfold r9S at hs
  split at hs
  · rename_i hd c s
    split at hs
    · rename_i h he
      split at hs
      · rename_i hbits
        cases hs
        obtain ⟨rfl, hsl⟩ := decH_ok he
        obtain ⟨u, rfl, hu⟩ := args3 hlen hargs
        obtain ⟨u0, rfl, H⟩ := HA.of hu
        refine ⟨rfl, (call_data Bs.goodB (Bs.R09_Find_eq h hsl hbits c s) rfl (fun i x d hx hd => ?_)).mono ?_⟩
        · match i, hx, hd with
          | 0, hx, hd => cases hx; cases hd; exact ⟨rfl, H.vd⟩
          | 1, hx, hd => cases hx; cases hd; exact ⟨rfl, vd_int _⟩
          | 2, hx, hd => cases hx; cases hd; exact ⟨rfl, vd_int _⟩
          | i + 3, hx, hd => simp at hd
        · rintro e w' ⟨v, G', rfl, hb, hv⟩
          obtain ⟨F', S'⟩ := frs_below F hb
          refine ⟨v, G, rfl, F', S', ?_⟩
          cases hv with
          | tup _ us _ hs hh =>
            obtain ⟨us⟩ := us
            match us, hs with
            | [a, b, c], _ =>
              have h0 := (hh 0 a _ rfl rfl).sc
              have h1 := (hh 1 b _ rfl rfl).sc
              have h2 := (hh 2 c _ rfl rfl).sc
              subst h0 h1 h2
              exact tup3 _ _ _
      · cases hs
    · cases hs
  · cases hs
theorem cHits_told : TellsF 27 cHitsS := by
  intro ds frs d frs' hs B G w vs F hlen hargs
  unfold cHitsS at hs
  split at hs
  · rename_i _ f s
    split at hs
    · rename_i c hc
      cases hs
      obtain ⟨he, hl, hl2⟩ := decC_ok hc
      obtain ⟨u, rfl, hu⟩ := args1 hlen hargs
      obtain ⟨hf, Be, cap, cur, T, hh⟩ := F.held he hl
      cases hu with
      | fp _ _ _ _ _ ha =>
        refine ⟨rfl, (hits_in hh.cw).mono ?_⟩
        rintro out w' ⟨rfl, hb⟩
        obtain ⟨F', S'⟩ := frs_below F hb
        exact ⟨_, G, rfl, rfl, F', S', tup2 _ _⟩
    · cases hs
  · cases hs
    obtain ⟨u, rfl, hu⟩ := args1 hlen hargs
    have hu := hu.sc
    subst hu
    refine ⟨rfl, (hits_nil w).mono ?_⟩
    rintro out w' ⟨rfl, hb⟩
    obtain ⟨F', S'⟩ := frs_below F hb
    exact ⟨_, G, rfl, rfl, F', S', tup2 _ _⟩
  · cases hs
theorem cFlush_told : TellsF 23 cFlushS := by
  intro ds frs d frs' hs B G w vs F hlen hargs
  unfold cFlushS at hs
  split at hs
  · rename_i _ f s
    split at hs
    · rename_i c hc
      cases hs
      obtain ⟨he, hl, hl2⟩ := decC_ok hc
      obtain ⟨u, rfl, hu⟩ := args1 hlen hargs
      obtain ⟨hf, Be, cap, cur, T, hh⟩ := F.held he hl
      cases hu with
      | fp _ _ _ _ _ ha =>
        have hsz := hh.size
        have hnc := hh.ncap
        refine ⟨rfl, (flush_in hh.cw hl (by omega)).mono ?_⟩
        rintro out w' ⟨rfl, rfl⟩
        have hln : (madeCells zc (c.entries.length * 5)).toList.length = c.entries.length * 5 := by rw [Array.length_toList, size_madeCells]
        obtain ⟨F', S', hl'⟩ := F.turn hh (cFlush c) (by rw [he]; simp [encC]) (setCells_oth _ _ _ w 0) ⟨(setCells_other _ _ hh.ne _ w 0).trans hh.cw.box, setCells_row _ _ _ w cur 0 hh.cw.row⟩ (List.length_replicate ..) (setL_size _ _ _) (made_row _ _ fun x hx => by
          rw [setL_at _ _ _ (by rw [hln]; omega), if_pos (by rw [hln]; omega), Nat.sub_zero, Array.getElem?_toList])
        exact ⟨_, G, rfl, hl', F', S', .tup _ _ _ rfl fun i u d hu hd => by simp at hd⟩
    · cases hs
  · cases hs
    obtain ⟨u, rfl, hu⟩ := args1 hlen hargs
    have hu := hu.sc
    subst hu
    refine ⟨rfl, (flush_nil w).mono ?_⟩
    rintro out w' ⟨rfl, rfl⟩
    exact ⟨_, G, rfl, rfl, F, .refl _ _ _, .tup _ _ _ rfl fun i u d hu hd => by simp at hd⟩
  · cases hs
theorem cFind_told : TellsF 25 cFindS := by
  intro ds frs d frs' hs B G w vs F hlen hargs
  unfold cFindS at hs
  split at hs
  · rename_i _ f s hd k t
    split at hs
    · rename_i h hh0
      split at hs
      · rename_i c hc
        cases hs
        obtain ⟨rfl, hsl⟩ := decH_ok hh0
        obtain ⟨he, hl, hl2⟩ := decC_ok hc
        obtain ⟨u, v, rfl, hu, hv⟩ := args4 hlen hargs
        obtain ⟨hf, Be, cap, cur, T, hh⟩ := F.held he hl
        obtain ⟨u0, rfl, hsh⟩ := heap_sh hv
        have hsz := hh.size
        have hnc := hh.ncap
        have hi := placeN_lt c.entries.length k t hl
        obtain ⟨r0, r1, r2, r3, r4⟩ := hh.row _ _ (show c.entries[placeN c.entries.length k t]? = some (atN c.entries (placeN c.entries.length k t)) by rw [atN, List.getD_eq_getElem?_getD, List.getElem?_eq_getElem hi]; rfl)
        have cell : ∀ x u, cur[x]? = some u → w.cell? ⟨Be, x, none⟩ = some u := fun x u hx => by simp [World.cell?, hh.cw.row, hx]
        cases hu with
        | fp _ _ _ _ _ ha =>
          by_cases hit : (atN c.entries (placeN c.entries.length k t)).full_ = true ∧ (atN c.entries (placeN c.entries.length k t)).key.cls = k ∧ (atN c.entries (placeN c.entries.length k t)).key.sel = t
          · have e0 : cFind c h k t = (((atN c.entries (placeN c.entries.length k t)).method, (atN c.entries (placeN c.entries.length k t)).at_, 0), ⟨c.entries, RowKit.wrap64 (c.hits + 1), c.misses⟩) := if_pos hit
            rw [e0]
            rw [hit.1] at r4
            rw [hit.2.1] at r0
            rw [hit.2.2] at r1
            refine ⟨rfl, (find_hit hh.cw hh.ne k t hl hl2 u0 _ _ _ _ (cell _ _ r0) (cell _ _ r1) (cell _ _ r2) (cell _ _ r3) (cell _ _ r4)).mono ?_⟩
            rintro out w' ⟨rfl, hO, cw⟩
            obtain ⟨F', S', hl'⟩ := F.turn hh ⟨c.entries, RowKit.wrap64 (c.hits + 1), c.misses⟩ (by rw [he]; simp [encC]) hO cw rfl rfl hh.row
            exact ⟨_, G, rfl, hl', F', S', tup3 _ _ _⟩
          · have e0 : cFind c h k t = (findP h k t, ⟨if (findP h k t).2.2 = 0 then c.entries.set (placeN c.entries.length k t) ⟨⟨k, t⟩, (findP h k t).1, (findP h k t).2.1, true⟩ else c.entries, c.hits, RowKit.wrap64 (c.misses + 1)⟩) := if_neg hit
            rw [e0]
            refine ⟨rfl, (find_miss hh.cw hh.ne k t hl hl2 u0 _ _ _ _ _ _ _ (cell _ _ r0) (cell _ _ r1) (cell _ _ r2) (cell _ _ r3) (cell _ _ r4) (by omega) ?_ (findP h k t).1 (findP h k t).2.1 (findP h k t).2.2 _ rfl ?_).mono ?_⟩
            · cases hfu : (atN c.entries (placeN c.entries.length k t)).full_ with
              | false => rfl
              | true =>
                rw [Bool.true_and, Bool.and_eq_false_iff]
                by_cases h1 : (atN c.entries (placeN c.entries.length k t)).key.cls = k
                · exact .inr (decide_eq_false fun h2 => hit ⟨hfu, h1, h2⟩)
                · exact .inl (decide_eq_false h1)
            · intro V hO
              refine look_at ⟨u0, rfl, hsh.mono fun b hb hlt => ⟨trivial, hO.block b hlt (fun e => ?_) (fun e => ?_)⟩⟩ hsl k t
              · subst e; have := hh.tagB; rw [hb] at this; cases this
              · subst e; have := hh.tagE; rw [hb] at this; cases this
            · rintro out w' ⟨rfl, hO, cw⟩
              obtain ⟨F', S', hl'⟩ := F.turn hh ⟨if (findP h k t).2.2 = 0 then c.entries.set (placeN c.entries.length k t) ⟨⟨k, t⟩, (findP h k t).1, (findP h k t).2.1, true⟩ else c.entries, c.hits, RowKit.wrap64 (c.misses + 1)⟩ (by rw [he]; simp [encC]) hO cw (by
                split
                · exact List.length_set ..
                · rfl) (by
                split
                · exact put5_size _ _ _ _ _ _
                · rfl) (by
                split
                · exact hh.row.put _ hi (by omega) _ _ _ _
                · exact hh.row)
              exact ⟨_, G, rfl, hl', F', S', tup3 _ _ _⟩
      · cases hs
    · cases hs
  · rename_i _ hd k t
    split at hs
    · rename_i h hh0
      cases hs
      obtain ⟨rfl, hsl⟩ := decH_ok hh0
      obtain ⟨u, v, rfl, hu, hv⟩ := args4 hlen hargs
      have hu := hu.sc
      subst hu
      obtain ⟨u0, rfl, H⟩ := HA.of hv
      refine ⟨rfl, (find_nil k t u0 _ _ _ _ _ fun V hb => look_at (H.below hb) hsl k t).mono ?_⟩
      rintro out w' ⟨rfl, hb⟩
      obtain ⟨F', S'⟩ := frs_below F hb
      exact ⟨_, G, rfl, rfl, F', S', tup3 _ _ _⟩
    · cases hs
  · cases hs
theorem allTold : ToldOk Try.prog lore.told := by
  intro f s h
  unfold lore at h
  simp only at h
  split at h
  · cases h; exact plain_ok Bs.canon_told
  · cases h; exact plain_ok find_told
  · cases h; exact plain_ok under_told
  · cases h; exact cNew_told
  · cases h; exact rNew_told
  · cases h; exact cFlush_told
  · cases h; exact cFind_told
  · cases h; exact cHits_told
  · cases h; exact plain_ok r9_told
  · cases h
theorem good : Pv.Good Try.prog (cO Try.prog lore) := cO_good Bs.mixed0 allTold
end Go.Pv
