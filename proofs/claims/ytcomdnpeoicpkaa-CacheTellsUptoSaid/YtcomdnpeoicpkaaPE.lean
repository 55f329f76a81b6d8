/- A part of the road: the interpreter of plain data and the proof that it is right. -/
import Derived.Test.YtcomdnpeoicpkaaUE
import Derived.Test.YtcomdnpeoicpkaaPD
import Derived.Test.YtcomdnpeoicpkaaFD
set_option linter.unusedVariables false
set_option linter.unusedSimpArgs false
/- CacheTells: both caches, side by side, and what the law's calls leave. -/
namespace Go.Pv
open Go Go.Proofs Go.RowKit
set_option linter.unusedVariables false
set_option maxRecDepth 100000
/-- A cache, as it lies. -/
structure CW (W : World) (Bc Be n : Nat) (Tc Te : TypeId) (c : GCa) : Prop where
  len : c.entries.length = n
  ex : ∃ cur, CacheW W Bc Be n n cur Tc Te c.hits c.misses ∧ cur.size = n * 5 ∧ RowV cur c.entries
theorem CW.other {W W' : World} {Bc Be Rc Re n : Nat} {Tc Te : TypeId} {c : GCa} (h : CW W Rc Re n Tc Te c) (hO : Oth W W' Bc Be) (h1 : Bc ≠ Rc) (h2 : Bc ≠ Re) (h3 : Be ≠ Rc) (h4 : Be ≠ Re) : CW W' Rc Re n Tc Te c := by
  obtain ⟨hl, cur, cw, hs, hr⟩ := h
  exact ⟨hl, cur, ⟨(hO.block _ cw.lt.1 (Ne.symm h1) (Ne.symm h3)).trans cw.box, (hO.block _ cw.lt.2 (Ne.symm h2) (Ne.symm h4)).trans cw.row⟩, hs, hr⟩
theorem CW.on {W W' : World} {Rc Re n : Nat} {Tc Te : TypeId} {c : GCa} (h : CW W Rc Re n Tc Te c) (hb : Below W.heap.size W W') : CW W' Rc Re n Tc Te c := by
  obtain ⟨hl, cur, cw, hs, hr⟩ := h
  exact ⟨hl, cur, cw.on hb, hs, hr⟩
/-- Both caches. -/
structure Two (w W : World) (n Bc Be Rc Re : Nat) (c d : GCa) : Prop where
  below : Below w.heap.size w W
  lo : w.heap.size ≤ Bc ∧ w.heap.size ≤ Be ∧ w.heap.size ≤ Rc ∧ w.heap.size ≤ Re
  ne : Bc ≠ Be ∧ Rc ≠ Re ∧ Bc ≠ Rc ∧ Bc ≠ Re ∧ Be ≠ Rc ∧ Be ≠ Re
  a : CW W Bc Be n 73 81 c
  b : CW W Rc Re n 53 75 d
section
variable {w W W' : World} {n Bc Be Rc Re : Nat} {c d : GCa}
theorem Two.step (S : Two w W n Bc Be Rc Re c d) (hb : Below W.heap.size W W') : Two w W' n Bc Be Rc Re c d :=
  ⟨S.below.trans (hb.mono S.below.size), S.lo, S.ne, S.a.on hb, S.b.on hb⟩
theorem below_oth (hb : Below w.heap.size w W) (hO : Oth W W' Bc Be) (h1 : w.heap.size ≤ Bc) (h2 : w.heap.size ≤ Be) : Below w.heap.size w W' :=
  hb.trans ⟨hO.os, hO.tape, hO.output, hO.size, fun k hk => hO.block k (Nat.lt_of_lt_of_le hk hb.size) (by omega) (by omega)⟩
theorem Two.setA (S : Two w W n Bc Be Rc Re c d) (hO : Oth W W' Bc Be) {c' : GCa} (h : CW W' Bc Be n 73 81 c') : Two w W' n Bc Be Rc Re c' d :=
  ⟨below_oth S.below hO S.lo.1 S.lo.2.1, S.lo, S.ne, h, S.b.other hO S.ne.2.2.1 S.ne.2.2.2.1 S.ne.2.2.2.2.1 S.ne.2.2.2.2.2⟩
theorem Two.setB (S : Two w W n Bc Be Rc Re c d) (hO : Oth W W' Rc Re) {d' : GCa} (h : CW W' Rc Re n 53 75 d') : Two w W' n Bc Be Rc Re c d' :=
  ⟨below_oth S.below hO S.lo.2.2.1 S.lo.2.2.2, S.lo, S.ne, S.a.other hO (Ne.symm S.ne.2.2.1) (Ne.symm S.ne.2.2.2.2.1) (Ne.symm S.ne.2.2.2.1) (Ne.symm S.ne.2.2.2.2.2), h⟩
/-- What a call leaves of both. -/
def TwP (w W : World) (n Bc Be Rc Re : Nat) (v : Value) (c d : GCa) (e : Ending) (W' : World) : Prop := e = .returned v ∧ Two w W' n Bc Be Rc Re c d ∧ W.heap.size ≤ W'.heap.size ∧ ∀ k, k < W.heap.size → k ≠ Bc → k ≠ Be → k ≠ Rc → k ≠ Re → W'.heap[k]? = W.heap[k]?
theorem othA (h : Oth W W' Bc Be) : W.heap.size ≤ W'.heap.size ∧ ∀ k, k < W.heap.size → k ≠ Bc → k ≠ Be → k ≠ Rc → k ≠ Re → W'.heap[k]? = W.heap[k]? := ⟨h.size, fun k hk a b _ _ => h.block k hk a b⟩
theorem othB (h : Oth W W' Rc Re) : W.heap.size ≤ W'.heap.size ∧ ∀ k, k < W.heap.size → k ≠ Bc → k ≠ Be → k ≠ Rc → k ≠ Re → W'.heap[k]? = W.heap[k]? := ⟨h.size, fun k hk _ _ a b => h.block k hk a b⟩
theorem two_hits (S : Two w W n Bc Be Rc Re c d) : Calls Try.prog 27 #[.pointer (some ⟨Bc, 0, none⟩)] W (TwP w W n Bc Be Rc Re (.tuple #[.int .i64 c.hits, .int .i64 c.misses]) c d) := by
  obtain ⟨cur, cw, _, _⟩ := S.a.ex
  refine (hits_in cw).mono ?_
  rintro e W' ⟨rfl, hb⟩
  exact ⟨rfl, S.step hb, othA (Oth.of hb)⟩
theorem two_flush (S : Two w W n Bc Be Rc Re c d) (hn : 0 < n) : Calls Try.prog 23 #[.pointer (some ⟨Bc, 0, none⟩)] W (TwP w W n Bc Be Rc Re (.tuple #[]) (cFlush c) d) := by
  obtain ⟨cur, cw, hs, hr⟩ := S.a.ex
  refine (flush_in cw hn (by omega)).mono ?_
  rintro e W' ⟨rfl, rfl⟩
  have hln : (madeCells zc (n * 5)).toList.length = n * 5 := by rw [Array.length_toList, size_madeCells]
  refine ⟨rfl, S.setA (setCells_oth _ _ _ _ 0) (c' := cFlush c) ⟨by show (List.replicate _ _).length = n; rw [List.length_replicate]; exact S.a.len, _, ⟨(setCells_other _ _ S.ne.1 _ _ 0).trans cw.box, setCells_row _ _ _ _ cur 0 cw.row⟩, (setL_size _ _ _).trans hs, ?_⟩, othA (setCells_oth _ _ _ _ 0)⟩
  show RowV _ (List.replicate c.entries.length zeroE)
  rw [S.a.len]
  exact made_row _ _ fun x hx => by rw [setL_at _ _ _ (by rw [hln]; omega), if_pos (by rw [hln]; omega), Nat.sub_zero, Array.getElem?_toList]
theorem TwP.box {v : Value} {e : Ending} (h : TwP w W n Bc Be Rc Re v c d e W') {W0 : World} (hW : Below W0.heap.size W0 W) (hc : Bc < W0.heap.size) (he : Be < W0.heap.size) (hrc : Rc < W0.heap.size) (hre : Re < W0.heap.size) (k : Nat) (hk : W0.heap.size ≤ k) {o : Obj} (ho : W.heap[k]? = some o) : W'.heap[k]? = some o :=
  (h.2.2.2 k (Array.getElem?_eq_some_iff.1 ho).1 (by omega) (by omega) (by omega) (by omega)).trans ho
theorem empt_row {cur : Array Value} (h : Empt cur n) : RowV cur (List.replicate n zeroE) := by
  intro i e he
  rw [List.getElem?_replicate] at he
  split at he
  · rename_i hi
    cases he
    exact h i hi
  · cases he
theorem two_rflush (S : Two w W n Bc Be Rc Re c d) (hn : n ≤ 64) : Calls Try.prog 24 #[.pointer (some ⟨Rc, 0, none⟩)] W (TwP w W n Bc Be Rc Re (.tuple #[]) c (cFlush d)) := by
  obtain ⟨cur, cw, hs, hr⟩ := S.b.ex
  refine (rflush_in cw S.ne.2.1 hn (by omega)).mono ?_
  rintro e W' ⟨rfl, hO, cur', cw', hs', hE⟩
  refine ⟨rfl, S.setB hO ⟨by show (List.replicate _ _).length = n; rw [List.length_replicate]; exact S.b.len, cur', cw', hs'.trans hs, ?_⟩, othB hO⟩
  show RowV _ (List.replicate d.entries.length zeroE)
  rw [S.b.len]
  exact empt_row hE
abbrev hv3 (u : Value) (h : GHeap) : Value := .agg #[u, .int .i64 h.Cap, .int .i64 h.Last]
abbrev HB (W : World) (u : Value) (h : GHeap) : Prop := RA W u (.sl 6 (els h.Objs))
theorem HB.ha {u : Value} {h : GHeap} (H : HB W u h) : Bs.HA W (hv3 u h) h := ⟨u, rfl, H⟩
/-- What a cache answers. -/
abbrev fval (x : Int × Int × Int) : Value := .tuple #[.int .i64 x.1, .int .i64 x.2.1, .int .i64 x.2.2]
theorem cell_of {Bc Be m cap : Nat} {cur : Array Value} {Tc Te : TypeId} {hi mi : Int} (h : CacheW W Bc Be m cap cur Tc Te hi mi) (x : Nat) (u : Value) (hx : cur[x]? = some u) : W.cell? ⟨Be, x, none⟩ = some u := by simp [World.cell?, h.row, hx]
theorem row_place {l : List GEn} {cur : Array Value} (hr : RowV cur l) (i : Nat) (hi : i < l.length) : cur[i * 5]? = some (.int .i64 (atN l i).key.cls) ∧ cur[i * 5 + 1]? = some (.int .i64 (atN l i).key.sel) ∧ cur[i * 5 + 2]? = some (.int .i64 (atN l i).method) ∧ cur[i * 5 + 3]? = some (.int .i64 (atN l i).at_) ∧ cur[i * 5 + 4]? = some (.bool (atN l i).full_) :=
  hr _ _ (by rw [atN, List.getD_eq_getElem?_getD, List.getElem?_eq_getElem hi]; rfl)
theorem two_find (S : Two w W n Bc Be Rc Re c d) (hn : 0 < n) (hn2 : n ≤ 64) {u : Value} {h : GHeap} (H : HB w u h) (hs : Slim h) (k t : Int) :
    Calls Try.prog 25 #[.pointer (some ⟨Bc, 0, none⟩), hv3 u h, .int .i64 k, .int .i64 t] W (TwP w W n Bc Be Rc Re (fval (cFind c h k t).1) (cFind c h k t).2 d) := by
  obtain ⟨cur, cw, hsz, hr⟩ := S.a.ex
  have hl := S.a.len
  have hi := placeN_lt n k t hn
  obtain ⟨r0, r1, r2, r3, r4⟩ := row_place hr (placeN n k t) (by omega)
  by_cases hit : (atN c.entries (placeN n k t)).full_ = true ∧ (atN c.entries (placeN n k t)).key.cls = k ∧ (atN c.entries (placeN n k t)).key.sel = t
  · have e0 : cFind c h k t = (((atN c.entries (placeN n k t)).method, (atN c.entries (placeN n k t)).at_, 0), ⟨c.entries, RowKit.wrap64 (c.hits + 1), c.misses⟩) := by
      unfold cFind; rw [hl]; exact if_pos hit
    rw [e0]
    rw [hit.1] at r4
    rw [hit.2.1] at r0
    rw [hit.2.2] at r1
    refine (find_hit cw S.ne.1 k t hn hn2 u _ _ _ _ (cell_of cw _ _ r0) (cell_of cw _ _ r1) (cell_of cw _ _ r2) (cell_of cw _ _ r3) (cell_of cw _ _ r4)).mono ?_
    rintro out w' ⟨rfl, hO, cw'⟩
    exact ⟨rfl, S.setA hO ⟨hl, cur, cw', hsz, hr⟩, othA hO⟩
  · have e0 : cFind c h k t = (findP h k t, ⟨if (findP h k t).2.2 = 0 then c.entries.set (placeN n k t) ⟨⟨k, t⟩, (findP h k t).1, (findP h k t).2.1, true⟩ else c.entries, c.hits, RowKit.wrap64 (c.misses + 1)⟩) := by
      unfold cFind; rw [hl]; exact if_neg hit
    rw [e0]
    refine (find_miss cw S.ne.1 k t hn hn2 u _ _ _ _ _ _ _ (cell_of cw _ _ r0) (cell_of cw _ _ r1) (cell_of cw _ _ r2) (cell_of cw _ _ r3) (cell_of cw _ _ r4) (by omega) ?_ (findP h k t).1 (findP h k t).2.1 (findP h k t).2.2 _ rfl ?_).mono ?_
    · cases hfu : (atN c.entries (placeN n k t)).full_ with
      | false => rfl
      | true =>
        rw [Bool.true_and, Bool.and_eq_false_iff]
        by_cases h1 : (atN c.entries (placeN n k t)).key.cls = k
        · exact .inr (decide_eq_false fun h2 => hit ⟨hfu, h1, h2⟩)
        · exact .inl (decide_eq_false h1)
    · intro V hO
      exact look_at (HB.ha (H.below (below_oth S.below hO S.lo.1 S.lo.2.1))) hs k t
    · rintro out w' ⟨rfl, hO, cw'⟩
      refine ⟨rfl, S.setA hO ⟨?_, _, cw', ?_, ?_⟩, othA hO⟩
      · show (if _ then _ else _ : List GEn).length = n
        split
        · rw [List.length_set]; exact hl
        · exact hl
      · split
        · rw [put5_size]; exact hsz
        · exact hsz
      · show RowV _ (if _ then _ else _ : List GEn)
        split
        · exact hr.put _ (by omega) (by omega) _ _ _ _
        · exact hr
theorem r9_at {V : World} {u : Value} {h : GHeap} (H : HB V u h) (hs : Slim h) (hb : BitsOk h) (k t : Int) : Calls Try.prog 28 #[hv3 u h, .int .i64 k, .int .i64 t] V (R9Post V (findP h k t).1 (findP h k t).2.1 (findP h k t).2.2) := by
  refine (call_data Bs.goodB (Bs.R09_Find_eq h hs hb k t) rfl (fun i x d hx hd => ?_)).mono ?_
  · match i, hx, hd with
    | 0, hx, hd => cases hx; cases hd; exact ⟨rfl, (HB.ha H).vd⟩
    | 1, hx, hd => cases hx; cases hd; exact ⟨rfl, vd_int _⟩
    | 2, hx, hd => cases hx; cases hd; exact ⟨rfl, vd_int _⟩
    | i + 3, hx, hd => simp at hd
  · rintro e w' ⟨v, G', rfl, hb, hv⟩
    cases hv with
    | tup _ us _ hs hh =>
      obtain ⟨us⟩ := us
      match us, hs with
      | [a, b, c], _ =>
        have h0 := (hh 0 a _ rfl rfl).sc
        have h1 := (hh 1 b _ rfl rfl).sc
        have h2 := (hh 2 c _ rfl rfl).sc
        subst h0 h1 h2
        exact ⟨rfl, hb⟩
theorem two_rfind (S : Two w W n Bc Be Rc Re c d) (hn : 0 < n) (hn2 : n ≤ 64) {u : Value} {h : GHeap} (H : HB w u h) (hs : Slim h) (hbt : BitsOk h) (k t : Int) :
    Calls Try.prog 26 #[.pointer (some ⟨Rc, 0, none⟩), hv3 u h, .int .i64 k, .int .i64 t] W (TwP w W n Bc Be Rc Re (fval (cFind d h k t).1) c (cFind d h k t).2) := by
  obtain ⟨cur, cw, hsz, hr⟩ := S.b.ex
  have hl := S.b.len
  have hi := placeN_lt n k t hn
  have hp := placeR_eq n k t hn hn2
  obtain ⟨r0, r1, r2, r3, r4⟩ := row_place hr (placeN n k t) (by omega)
  by_cases hit : (atN d.entries (placeN n k t)).full_ = true ∧ (atN d.entries (placeN n k t)).key.cls = k ∧ (atN d.entries (placeN n k t)).key.sel = t
  · have e0 : cFind d h k t = (((atN d.entries (placeN n k t)).method, (atN d.entries (placeN n k t)).at_, 0), ⟨d.entries, RowKit.wrap64 (d.hits + 1), d.misses⟩) := by
      unfold cFind; rw [hl]; exact if_pos hit
    rw [e0]
    rw [hit.1] at r4
    rw [hit.2.1] at r0
    rw [hit.2.2] at r1
    refine (rfind_hit cw S.ne.2.1 k t hn hn2 u _ _ (placeN n k t) hi _ _ hp (by omega) (cell_of cw _ _ r0) (cell_of cw _ _ r1) (cell_of cw _ _ r2) (cell_of cw _ _ r3) (cell_of cw _ _ r4)).mono ?_
    rintro out w' ⟨rfl, hO, cw'⟩
    exact ⟨rfl, S.setB hO ⟨hl, cur, cw', hsz, hr⟩, othB hO⟩
  · have e0 : cFind d h k t = (findP h k t, ⟨if (findP h k t).2.2 = 0 then d.entries.set (placeN n k t) ⟨⟨k, t⟩, (findP h k t).1, (findP h k t).2.1, true⟩ else d.entries, d.hits, RowKit.wrap64 (d.misses + 1)⟩) := by
      unfold cFind; rw [hl]; exact if_neg hit
    rw [e0]
    refine (rfind_miss cw S.ne.2.1 k t hn hn2 u _ _ (placeN n k t) hi hp (by omega) _ _ _ _ _ (cell_of cw _ _ r0) (cell_of cw _ _ r1) (cell_of cw _ _ r2) (cell_of cw _ _ r3) (cell_of cw _ _ r4) ?_ (findP h k t).1 (findP h k t).2.1 (findP h k t).2.2 _ (show Hid _ from rfl) ?_).mono ?_
    · cases hfu : (atN d.entries (placeN n k t)).full_ with
      | false => exact .inl rfl
      | true =>
        by_cases h1 : (atN d.entries (placeN n k t)).key.cls = k
        · exact .inr (.inr ⟨rfl, h1, fun h2 => hit ⟨hfu, h1, h2⟩⟩)
        · exact .inr (.inl ⟨rfl, h1⟩)
    · intro V hO
      exact r9_at (H.below (below_oth S.below hO S.lo.2.2.1 S.lo.2.2.2)) hs hbt k t
    · rintro out w' ⟨rfl, hO, cw'⟩
      refine ⟨rfl, S.setB hO ⟨?_, _, cw', ?_, ?_⟩, othB hO⟩
      · show (if _ then _ else _ : List GEn).length = n
        split
        · rw [List.length_set]; exact hl
        · exact hl
      · split
        · rw [put5_size]; exact hsz
        · exact hsz
      · show RowV _ (if _ then _ else _ : List GEn)
        split
        · exact hr.put _ (by omega) (by omega) _ _ _ _
        · exact hr
theorem smallC {W : World} {u : Value} {h : GHeap} {b : Bool} (H : HB W u h) (e : Bs.F_R03_Small h = some b) : Calls Try.prog 12 #[hv3 u h] W fun e W' => e = .returned (.bool b) ∧ Below W.heap.size W W' := by
  have g := Bs.f_R03_Small h.Objs h.Cap h.Last
  rw [show ({ Objs := h.Objs, Cap := h.Cap, Last := h.Last : GHeap }) = h from rfl, e, ob_some] at g
  refine (call_data Bs.goodB g rfl (fun i x d hx hd => ?_)).mono ?_
  · match i, hx, hd with
    | 0, hx, hd => cases hx; cases hd; exact ⟨rfl, (HB.ha H).vd⟩
    | i + 1, hx, hd => simp at hd
  · rintro e w' ⟨v, G', rfl, hb, hv⟩
    exact ⟨by rw [hv.sc], hb⟩
theorem fixedC (W : World) : Calls Try.prog 20 #[] W fun e W' => e = .returned (.bool true) ∧ Below W.heap.size W W' := by
  refine (call_data good f_law10_fixed rfl (fun i x d hx hd => by simp at hd)).mono ?_
  rintro e w' ⟨v, G', rfl, hb, hv⟩
  exact ⟨by rw [hv.sc], hb⟩
end
end Go.Pv

/- CacheTells: walked. -/
namespace Go.Pv
open Go Go.Proofs Go.RowKit
set_option maxHeartbeats 20000000
set_option maxRecDepth 100000
set_option linter.unusedVariables false
set_option linter.unusedSimpArgs false
abbrev GAsk := G_anamnesislaw10_Ask
abbrev GAsks := G_anamnesislaw10_Asks
theorem dup {T G : Prop} (t : T) (h : T → G) : G := h t
/-- The law's three arguments, in cells. -/
structure B3 (W : World) (k : Nat) (u ug av : Value) (h g : GHeap) (n : Int) : Prop where
  b0 : W.heap[k]? = some (.cells #[u, .int .i64 h.Cap, .int .i64 h.Last] 24 (0, 0))
  b1 : W.heap[k + 1]? = some (.cells #[ug, .int .i64 g.Cap, .int .i64 g.Last] 24 (0, 0))
  b2 : W.heap[k + 2]? = some (.cells #[.int .i64 n, av] 42 (0, 0))
section
variable {W W' : World} {k : Nat} {u ug av : Value} {h g : GHeap} {n : Int}
theorem B3.to (S : B3 W k u ug av h g n) (hb : Below W.heap.size W W') : B3 W' k u ug av h g n :=
  ⟨(hb.block _ (Array.getElem?_eq_some_iff.1 S.b0).1).trans S.b0, (hb.block _ (Array.getElem?_eq_some_iff.1 S.b1).1).trans S.b1, (hb.block _ (Array.getElem?_eq_some_iff.1 S.b2).1).trans S.b2⟩
theorem B3.cells (S : B3 W k u ug av h g n) : W.cell? ⟨k, 0, none⟩ = some u ∧ W.cell? ⟨k, 1, none⟩ = some (.int .i64 h.Cap) ∧ W.cell? ⟨k, 2, none⟩ = some (.int .i64 h.Last) ∧
    W.cell? ⟨k + 1, 0, none⟩ = some ug ∧ W.cell? ⟨k + 1, 1, none⟩ = some (.int .i64 g.Cap) ∧ W.cell? ⟨k + 1, 2, none⟩ = some (.int .i64 g.Last) ∧ W.cell? ⟨k + 2, 0, none⟩ = some (.int .i64 n) ∧ W.cell? ⟨k + 2, 1, none⟩ = some av := by
  refine ⟨?_, ?_, ?_, ?_, ?_, ?_, ?_, ?_⟩
  · rw [Lib.cell_of_heap S.b0]; rfl
  · rw [Lib.cell_of_heap S.b0]; rfl
  · rw [Lib.cell_of_heap S.b0]; rfl
  · rw [Lib.cell_of_heap S.b1]; rfl
  · rw [Lib.cell_of_heap S.b1]; rfl
  · rw [Lib.cell_of_heap S.b1]; rfl
  · rw [Lib.cell_of_heap S.b2]; rfl
  · rw [Lib.cell_of_heap S.b2]; rfl
end
theorem sliceOf {W : World} {v : Value} {α : Type} [Enc α] {n : Nat} {l : List α} (H : RA W v (.sl n (els l))) : ∃ A c, v = .slice A l.length c := by
  cases H with
  | sl A m cap _ _ _ hn _ _ _ _ => rw [els_len] at hn; subst hn; exact ⟨_, _, rfl⟩
/-- A row of asks. -/
def AskRow (W : World) (A : Option Addr) (l : List GAsk) : Prop := l ≠ [] → ∃ q o, A = some ⟨q, o, none⟩ ∧ ∀ k a, l[k]? = some a →
  W.cell? ⟨q, o + k * 4, none⟩ = some (.int .i64 a.Class) ∧ W.cell? ⟨q, o + k * 4 + 1, none⟩ = some (.int .i64 a.Sel) ∧ W.cell? ⟨q, o + k * 4 + 2, none⟩ = some (.bool a.Flush) ∧ W.cell? ⟨q, o + k * 4 + 3, none⟩ = some (.bool a.Other)
theorem ask_row {W : World} {A : Option Addr} {l : List GAsk} {n c : Nat} (H : RA W (.slice A n c) (.sl 4 (els l))) : AskRow W A l := by
  intro hne
  cases H with
  | sl A n cap sz es f hn hc hz hA hR =>
    obtain ⟨a, rfl, _, hcell⟩ := hA (by cases l with | nil => exact absurd rfl hne | cons _ _ => exact fun e => by cases e)
    have hx : ∀ k x j v, l[k]? = some x → (Enc.enc x)[j]? = some (T.sc v) → W.cell? (a.add (k * 4 + j)) = some v := fun k x j v hk hj => by
      have h1 := hcell k _ j _ (by show (els l)[k]? = some (Enc.enc x); simp [els, hk]) hj
      have h2 := hR k _ j _ (by show (els l)[k]? = some (Enc.enc x); simp [els, hk]) hj
      generalize f k j = u at h1 h2
      cases h2 with
      | sc v h => exact h1
    obtain ⟨b, o, s⟩ := a
    have hs : s = none := by
      cases l with
      | nil => exact absurd rfl hne
      | cons x r => exact World.cell?_spot (hx 0 x 0 _ rfl rfl)
    subst hs
    refine ⟨b, o, rfl, fun k x hk => ?_⟩
    have e0 := hx k x 0 _ hk rfl
    have e1 := hx k x 1 _ hk rfl
    have e2 := hx k x 2 _ hk rfl
    have e3 := hx k x 3 _ hk rfl
    rw [add_flat] at e0 e1 e2 e3
    exact ⟨e0, e1, e2, e3⟩
def RetP (W : World) (v : Value) (e : Ending) (W' : World) : Prop := e = .returned v ∧ Below W.heap.size W W'
def TellsPost (w : World) (e : Ending) (w' : World) : Prop := e = .returned (.bool true) ∧ Below w.heap.size w w'
abbrev put3 (w : World) (u ug av : Value) (h g : GHeap) (n : Int) : World :=
  ((w.alloc (.cells #[u, .int .i64 h.Cap, .int .i64 h.Last] 24)).alloc (.cells #[ug, .int .i64 g.Cap, .int .i64 g.Last] 24)).alloc (.cells #[.int .i64 n, av] 42)
theorem put3_below (w : World) (u ug av : Value) (h g : GHeap) (n : Int) : Below w.heap.size w (put3 w u ug av h g n) :=
  ((Below.refl _ w).alloc (Nat.le_refl _) _).trans (((Below.refl _ _).alloc (by rw [World.size_alloc]; omega) _).trans ((Below.refl _ _).alloc (by rw [World.size_alloc, World.size_alloc]; omega) _))
theorem put3_box (w : World) (u ug av : Value) (h g : GHeap) (n : Int) : B3 (put3 w u ug av h g n) w.heap.size u ug av h g n := by
  have s1 : (w.alloc (.cells #[u, .int .i64 h.Cap, .int .i64 h.Last] 24)).heap.size = w.heap.size + 1 := World.size_alloc _ _
  have s2 : ((w.alloc (.cells #[u, .int .i64 h.Cap, .int .i64 h.Last] 24)).alloc (.cells #[ug, .int .i64 g.Cap, .int .i64 g.Last] 24)).heap.size = w.heap.size + 2 := by rw [World.size_alloc, s1]
  refine ⟨?_, ?_, ?_⟩
  · rw [Lib.alloc_old _ _ _ (by rw [s2]; omega), Lib.alloc_old _ _ _ (by rw [s1]; omega)]; exact heap_alloc_new w _
  · rw [Lib.alloc_old _ _ _ (by rw [s2]; omega)]
    have := heap_alloc_new (w.alloc (.cells #[u, .int .i64 h.Cap, .int .i64 h.Last] 24)) (.cells #[ug, .int .i64 g.Cap, .int .i64 g.Last] 24)
    rwa [s1] at this
  · have := heap_alloc_new ((w.alloc (.cells #[u, .int .i64 h.Cap, .int .i64 h.Last] 24)).alloc (.cells #[ug, .int .i64 g.Cap, .int .i64 g.Last] 24)) (.cells #[.int .i64 n, av] 42)
    rwa [s2] at this
end Go.Pv

/- CacheTells: walked. -/
namespace Go.Pv
open Go Go.Proofs Go.RowKit
set_option maxHeartbeats 20000000
set_option maxRecDepth 100000
set_option linter.unusedVariables false
set_option linter.unusedSimpArgs false
theorem tells_no (u ug av : Value) (h g : GHeap) (x : GAsks) (w : World) (H : HB w u h) (G : HB w ug g) (A : RA w av (.sl 4 (els x.L))) (hs : Slim h) (gs : Slim g)
    (hno : Bs.F_R03_Small h = some false ∨ (Bs.F_R03_Small h = some true ∧ Bs.F_R03_Small g = some false)) :
    Calls Try.prog 6 #[hv3 u h, hv3 ug g, .agg #[.int .i64 x.Size, av]] w (TellsPost w) := by
  obtain ⟨A1, c1, rfl⟩ := sliceOf A
  obtain ⟨Au, cu, rfl⟩ := sliceOf H
  obtain ⟨Ag, cg, rfl⟩ := sliceOf G
  have b0 := put3_below w (.slice Au h.Objs.length cu) (.slice Ag g.Objs.length cg) (.slice A1 x.L.length c1) h g x.Size
  have S0 := put3_box w (.slice Au h.Objs.length cu) (.slice Ag g.Objs.length cg) (.slice A1 x.L.length c1) h g x.Size
  obtain ⟨q0, q1, q2, q3, q4, q5, q6, q7⟩ := S0.cells
  rcases hno with e1 | ⟨e1, e2⟩
  · have C1 : Calls Try.prog 12 _ _ (RetP _ (.bool false)) := smallC (RA.below H b0) e1
    go_enter Try.func6, Try.ntmps6
    go_wp2_with (go_at_call 12; go_loud (refine C1.mono ?_))
    rintro e w1 ⟨rfl, b1⟩
    have B1 := b0.trans (b1.mono b0.size)
    have C9 : Calls Try.prog 20 _ _ (RetP w1 (.bool true)) := fixedC w1
    go_wp2_with (go_at_call 20; go_loud (refine C9.mono ?_))
    rintro e w2 ⟨rfl, b2⟩
    go_wp2
    go_ret
    exact ⟨rfl, B1.trans (b2.mono B1.size)⟩
  · have C1 : Calls Try.prog 12 _ _ (RetP _ (.bool true)) := smallC (RA.below H b0) e1
    go_enter Try.func6, Try.ntmps6
    go_wp2_with (go_at_call 12; go_loud (refine C1.mono ?_))
    rintro e w1 ⟨rfl, b1⟩
    have B1 := b0.trans (b1.mono b0.size)
    have C2 : Calls Try.prog 12 _ w1 (RetP _ (.bool false)) := smallC (RA.below G B1) e2
    obtain ⟨q0, q1, q2, q3, q4, q5, q6, q7⟩ := (S0.to b1).cells
    go_wp2_with (go_at_call 12; go_loud (refine C2.mono ?_))
    rintro e w2 ⟨rfl, b2⟩
    have B2 := B1.trans (b2.mono B1.size)
    have C9 : Calls Try.prog 20 _ _ (RetP w2 (.bool true)) := fixedC w2
    go_wp2_with (go_at_call 20; go_loud (refine C9.mono ?_))
    rintro e w3 ⟨rfl, b3⟩
    go_wp2
    go_ret
    exact ⟨rfl, B2.trans (b3.mono B2.size)⟩
end Go.Pv

/- CacheTells: walked, where there is too much. -/
namespace Go.Pv
open Go Go.Proofs Go.RowKit
set_option maxHeartbeats 20000000
set_option maxRecDepth 100000
set_option linter.unusedVariables false
set_option linter.unusedSimpArgs false
theorem tells_much (u ug av : Value) (h g : GHeap) (x : GAsks) (w : World) (H : HB w u h) (G : HB w ug g) (A : RA w av (.sl 4 (els x.L))) (hs : Slim h) (gs : Slim g)
    (e1 : Bs.F_R03_Small h = some true) (e2 : Bs.F_R03_Small g = some true)
    (hno : ¬ ((h.Objs.length : Int) ≤ 40 ∧ (g.Objs.length : Int) ≤ 40 ∧ (x.L.length : Int) ≤ 30 ∧ 1 ≤ x.Size ∧ x.Size ≤ 64)) :
    Calls Try.prog 6 #[hv3 u h, hv3 ug g, .agg #[.int .i64 x.Size, av]] w (TellsPost w) := by
  obtain ⟨A1, c1, rfl⟩ := sliceOf A
  obtain ⟨Au, cu, rfl⟩ := sliceOf H
  obtain ⟨Ag, cg, rfl⟩ := sliceOf G
  have b0 := put3_below w (.slice Au h.Objs.length cu) (.slice Ag g.Objs.length cg) (.slice A1 x.L.length c1) h g x.Size
  have S0 := put3_box w (.slice Au h.Objs.length cu) (.slice Ag g.Objs.length cg) (.slice A1 x.L.length c1) h g x.Size
  obtain ⟨q0, q1, q2, q3, q4, q5, q6, q7⟩ := S0.cells
  have C1 : Calls Try.prog 12 _ _ (RetP _ (.bool true)) := smallC (RA.below H b0) e1
  go_enter Try.func6, Try.ntmps6
  go_wp2_with (go_at_call 12; go_loud (refine C1.mono ?_))
  rintro e w1 ⟨rfl, b1⟩
  have B1 := b0.trans (b1.mono b0.size)
  have C2 : Calls Try.prog 12 _ w1 (RetP _ (.bool true)) := smallC (RA.below G B1) e2
  clear q0 q1 q2 q3 q4 q5 q6 q7
  have S1 := S0.to b1
  obtain ⟨q0, q1, q2, q3, q4, q5, q6, q7⟩ := S1.cells
  clear C1
  go_wp2_with (go_at_call 12; go_loud (refine C2.mono ?_))
  rintro e w2 ⟨rfl, b2⟩
  have S2 := S1.to b2
  have B2 := B1.trans (b2.mono B1.size)
  clear S0 S1 b1 B1 b0 b2 q0 q1 q2 q3 q4 q5 q6 q7 C2
  obtain ⟨q0, q1, q2, q3, q4, q5, q6, q7⟩ := S2.cells
  have C9 : Calls Try.prog 20 _ _ (RetP w2 (.bool true)) := fixedC w2
  by_cases h0 : (40 : Int) < h.Objs.length
  · have d0 : decide ((40 : Int) < h.Objs.length) = true := decide_eq_true h0
    go_wp2_with (go_at_call 20; go_loud (refine C9.mono ?_))
    rintro e w3 ⟨rfl, b3⟩
    go_wp2
    go_ret
    exact ⟨rfl, B2.trans (b3.mono B2.size)⟩
  have d0 : decide ((40 : Int) < h.Objs.length) = false := decide_eq_false h0
  by_cases h1 : (40 : Int) < g.Objs.length
  · have d1 : decide ((40 : Int) < g.Objs.length) = true := decide_eq_true h1
    go_wp2_with (go_at_call 20; go_loud (refine C9.mono ?_))
    rintro e w3 ⟨rfl, b3⟩
    go_wp2
    go_ret
    exact ⟨rfl, B2.trans (b3.mono B2.size)⟩
  have d1 : decide ((40 : Int) < g.Objs.length) = false := decide_eq_false h1
  by_cases h2 : (30 : Int) < x.L.length
  · have d2 : decide ((30 : Int) < x.L.length) = true := decide_eq_true h2
    go_wp2_with (go_at_call 20; go_loud (refine C9.mono ?_))
    rintro e w3 ⟨rfl, b3⟩
    go_wp2
    go_ret
    exact ⟨rfl, B2.trans (b3.mono B2.size)⟩
  have d2 : decide ((30 : Int) < x.L.length) = false := decide_eq_false h2
  by_cases h3 : x.Size < 1
  · have d3 : decide (x.Size < 1) = true := decide_eq_true h3
    go_wp2_with (go_at_call 20; go_loud (refine C9.mono ?_))
    rintro e w3 ⟨rfl, b3⟩
    go_wp2
    go_ret
    exact ⟨rfl, B2.trans (b3.mono B2.size)⟩
  have d3 : decide (x.Size < 1) = false := decide_eq_false h3
  by_cases h4 : (64 : Int) < x.Size
  · have d4 : decide ((64 : Int) < x.Size) = true := decide_eq_true h4
    go_wp2_with (go_at_call 20; go_loud (refine C9.mono ?_))
    rintro e w3 ⟨rfl, b3⟩
    go_wp2
    go_ret
    exact ⟨rfl, B2.trans (b3.mono B2.size)⟩
  have d4 : decide ((64 : Int) < x.Size) = false := decide_eq_false h4
  exact absurd ⟨by omega, by omega, by omega, by omega, by omega⟩ hno
end Go.Pv

/- CacheTells: walked. -/
namespace Go.Pv
open Go Go.Proofs Go.RowKit
set_option maxHeartbeats 20000000
set_option maxRecDepth 100000
set_option linter.unusedVariables false
set_option linter.unusedSimpArgs false
theorem CW.lt {W : World} {Bc Be n : Nat} {Tc Te : TypeId} {c : GCa} (h : CW W Bc Be n Tc Te c) : Bc < W.heap.size ∧ Be < W.heap.size := by
  obtain ⟨_, cur, cw, _, _⟩ := h
  exact cw.lt
theorem box1 (w : World) (a b : Obj) : ((w.alloc a).alloc b).heap[w.heap.size]? = some a := by
  rw [Lib.alloc_old _ _ _ (by rw [World.size_alloc]; exact Nat.lt_succ_self _)]; exact heap_alloc_new _ _
theorem box2 (w : World) (a b : Obj) : ((w.alloc a).alloc b).heap[w.heap.size + 1]? = some b := by
  have := heap_alloc_new (w.alloc a) b
  rwa [World.size_alloc] at this
theorem two_new (w : World) (s : Int) (h1 : 1 ≤ s) : Two w ((((w.alloc (.cells (madeCells zc (s.toNat * 5)) 81)).alloc (.cells #[.slice (some ⟨w.heap.size, 0, none⟩) s.toNat s.toNat, .int .i64 0, .int .i64 0] 73)).alloc (.cells (madeCells zc (s.toNat * 5)) 75)).alloc (.cells #[.slice (some ⟨w.heap.size + 1 + 1, 0, none⟩) s.toNat s.toNat, .int .i64 0, .int .i64 0] 53)).drew s.toNat (w.heap.size + 1) w.heap.size (w.heap.size + 1 + 1 + 1) (w.heap.size + 1 + 1) (cNew s) (cNew s) := by
  obtain ⟨o1, ho1⟩ : ∃ o1, Obj.cells (madeCells zc (s.toNat * 5)) 81 = o1 := ⟨_, rfl⟩
  obtain ⟨o2, ho2⟩ : ∃ o2, Obj.cells #[.slice (some ⟨w.heap.size, 0, none⟩) s.toNat s.toNat, .int .i64 0, .int .i64 0] 73 = o2 := ⟨_, rfl⟩
  obtain ⟨o3, ho3⟩ : ∃ o3, Obj.cells (madeCells zc (s.toNat * 5)) 75 = o3 := ⟨_, rfl⟩
  obtain ⟨o4, ho4⟩ : ∃ o4, Obj.cells #[.slice (some ⟨w.heap.size + 1 + 1, 0, none⟩) s.toNat s.toNat, .int .i64 0, .int .i64 0] 53 = o4 := ⟨_, rfl⟩
  rw [ho1, ho2, ho3, ho4]
  have s1 : (w.alloc o1).heap.size = w.heap.size + 1 := World.size_alloc _ _
  have s2 : ((w.alloc o1).alloc o2).heap.size = w.heap.size + 1 + 1 := by rw [World.size_alloc, s1]
  have s3 : (((w.alloc o1).alloc o2).alloc o3).heap.size = w.heap.size + 1 + 1 + 1 := by rw [World.size_alloc, s2]
  have bl : Below w.heap.size w ((((w.alloc o1).alloc o2).alloc o3).alloc o4) := ((((Below.refl _ w).alloc (Nat.le_refl _) _).alloc (by rw [s1]; omega) _).alloc (by rw [s2]; omega) _).alloc (by rw [s3]; omega) _
  have e1 : ((((w.alloc o1).alloc o2).alloc o3).alloc o4).heap[w.heap.size]? = some o1 := by
    rw [Lib.alloc_old _ _ _ (by rw [s3]; omega), Lib.alloc_old _ _ _ (by rw [s2]; omega), Lib.alloc_old _ _ _ (by rw [s1]; omega)]; exact heap_alloc_new _ _
  have e2 : ((((w.alloc o1).alloc o2).alloc o3).alloc o4).heap[w.heap.size + 1]? = some o2 := by
    rw [Lib.alloc_old _ _ _ (by rw [s3]; omega), Lib.alloc_old _ _ _ (by rw [s2]; omega)]
    have := heap_alloc_new (w.alloc o1) o2
    rwa [s1] at this
  have e3 : ((((w.alloc o1).alloc o2).alloc o3).alloc o4).heap[w.heap.size + 1 + 1]? = some o3 := by
    rw [Lib.alloc_old _ _ _ (by rw [s3]; omega)]
    have := heap_alloc_new ((w.alloc o1).alloc o2) o3
    rwa [s2] at this
  have e4 : ((((w.alloc o1).alloc o2).alloc o3).alloc o4).heap[w.heap.size + 1 + 1 + 1]? = some o4 := by
    have := heap_alloc_new (((w.alloc o1).alloc o2).alloc o3) o4
    rwa [s3] at this
  subst ho1 ho2 ho3 ho4
  have hr : RowV (madeCells zc (s.toNat * 5)) (cNew s).entries := made_row _ _ fun _ _ => rfl
  refine ⟨Below.drew bl, ⟨by omega, by omega, by omega, by omega⟩, ⟨by omega, by omega, by omega, by omega, by omega, by omega⟩, ⟨List.length_replicate .., _, ⟨e2, e1⟩, size_madeCells _ _, hr⟩, ⟨List.length_replicate .., _, ⟨e4, e3⟩, size_madeCells _ _, hr⟩⟩
theorem tells_main (u ug av : Value) (h g : GHeap) (x : GAsks) (w : World) (H : HB w u h) (G : HB w ug g) (A : RA w av (.sl 4 (els x.L))) (hs : Slim h) (hb : BitsOk h) (gs : Slim g) (gb : BitsOk g)
    (e1 : Bs.F_R03_Small h = some true) (e2 : Bs.F_R03_Small g = some true)
    (h1 : (h.Objs.length : Int) ≤ 40) (h2 : (g.Objs.length : Int) ≤ 40) (h3 : (x.L.length : Int) ≤ 30) (h4 : 1 ≤ x.Size) (h5 : x.Size ≤ 64) :
    Calls Try.prog 6 #[hv3 u h, hv3 ug g, .agg #[.int .i64 x.Size, av]] w (TellsPost w) := by
  obtain ⟨A1, c1, rfl⟩ := sliceOf A
  obtain ⟨Au, cu, rfl⟩ := sliceOf H
  obtain ⟨Ag, cg, rfl⟩ := sliceOf G
  have b0 := put3_below w (.slice Au h.Objs.length cu) (.slice Ag g.Objs.length cg) (.slice A1 x.L.length c1) h g x.Size
  have S0 := put3_box w (.slice Au h.Objs.length cu) (.slice Ag g.Objs.length cg) (.slice A1 x.L.length c1) h g x.Size
  obtain ⟨q0, q1, q2, q3, q4, q5, q6, q7⟩ := S0.cells
  have C1 : Calls Try.prog 12 _ _ (RetP _ (.bool true)) := smallC (RA.below H b0) e1
  have d0 : decide ((40 : Int) < h.Objs.length) = false := decide_eq_false (by omega)
  have d1 : decide ((40 : Int) < g.Objs.length) = false := decide_eq_false (by omega)
  have d2 : decide ((30 : Int) < x.L.length) = false := decide_eq_false (by omega)
  have d3 : decide (x.Size < 1) = false := decide_eq_false (by omega)
  have d4 : decide ((64 : Int) < x.Size) = false := decide_eq_false (by omega)
  go_enter Try.func6, Try.ntmps6
  go_wp2_with (go_at_call 12; go_loud (refine C1.mono ?_))
  rintro e w1 ⟨rfl, b1⟩
  have B1 := b0.trans (b1.mono b0.size)
  have C2 : Calls Try.prog 12 _ w1 (RetP _ (.bool true)) := smallC (RA.below G B1) e2
  clear q0 q1 q2 q3 q4 q5 q6 q7
  have S1 := S0.to b1
  obtain ⟨q0, q1, q2, q3, q4, q5, q6, q7⟩ := S1.cells
  clear C1
  go_wp2_with (go_at_call 12; go_loud (refine C2.mono ?_))
  rintro e w2 ⟨rfl, b2⟩
  have S2 := S1.to b2
  have B2 := B1.trans (b2.mono B1.size)
  clear S0 S1 b1 B1 b0 b2 q0 q1 q2 q3 q4 q5 q6 q7 C2
  obtain ⟨q0, q1, q2, q3, q4, q5, q6, q7⟩ := S2.cells
  go_wp2
  have p6 : w2.drew.cell? ⟨w.heap.size + 1 + 1, 0, none⟩ = some (.int .i64 x.Size) := q6
  have n6 : ∀ a b, ((w2.alloc a).alloc b).drew.cell? ⟨w.heap.size + 1 + 1, 0, none⟩ = some (.int .i64 x.Size) := fun a b => by
    have hb : Below w2.heap.size w2 ((w2.alloc a).alloc b) := ((Below.refl _ _).alloc (Nat.le_refl _) _).alloc (by rw [World.size_alloc]; exact Nat.le_succ _) _
    exact (hb.cell (p := ⟨w.heap.size + 1 + 1, 0, none⟩) (Array.getElem?_eq_some_iff.1 S2.b2).1).trans q6
  apply dup
  rotate_left
  · intro tail
    refine wp_region_any (by kernel_rfl) ?_
    change wpAny _ _ _ _ _ _ _ (World.drew _)
    refine wpAny_take (i := 0) (v := (.pointer (some ⟨w.heap.size + 1 + 1, 0, none⟩))) rfl (by kernel_rfl) (by kernel_rfl) (by kernel_rfl) (fun c a w h => h) (Or.inl ⟨by rfl, ?_⟩) ?_
    · intro w
      go_simp
    refine wpAny_take (i := 3) (v := (.pointer (some ⟨w.heap.size + 1 + 1, 0, none⟩))) rfl (by kernel_rfl) (by kernel_rfl) (by kernel_rfl) (fun c a w h => h) (Or.inl ⟨by rfl, ?_⟩) ?_
    · intro w
      go_simp
    refine wpAny_ready (rs := [1, 4]) (by kernel_rfl) (by simp) ?_
    refine AllReady.cons rfl (fun K hK => ?_) (AllReady.cons rfl (fun K hK => ?_) AllReady.nil)
    · go_simp
      refine hK _ _ ?_
      clear hK K
      refine wpAny_ready (rs := [2, 4]) (by kernel_rfl) (by simp) ?_
      refine AllReady.cons rfl (fun K hK => ?_) (AllReady.cons rfl (fun K hK => ?_) AllReady.nil)
      · go_simp
        refine (new_in w2.drew x.Size h4 h5).mono ?_
        rintro e W ⟨rfl, rfl⟩
        refine hK _ _ ?_
        clear hK K
        refine wpAny_ready (rs := [4]) (by kernel_rfl) (by simp) ?_
        refine AllReady.cons rfl (fun K hK => ?_) AllReady.nil
        go_simp
        refine hK _ _ ?_
        clear hK K
        refine wpAny_ready (rs := [5]) (by kernel_rfl) (by simp) ?_
        refine AllReady.cons rfl (fun K hK => ?_) AllReady.nil
        go_simp
        refine (rnew_in _ x.Size h4 h5).mono ?_
        rintro e W ⟨rfl, rfl⟩
        refine hK _ _ ?_
        clear hK K
        refine wpAny_ready (rs := [6]) (by kernel_rfl) (by simp) ?_
        refine AllReady.cons rfl (fun K hK => ?_) AllReady.nil
        go_simp
        refine hK _ _ ?_
        clear hK K
        refine wpAny_ready (rs := [7]) (by kernel_rfl) (by simp) ?_
        refine AllReady.cons rfl (fun K hK => ?_) AllReady.nil
        go_simp
        refine hK _ _ ?_
        clear hK K
        refine wpAny_done (by kernel_rfl) ?_ _
        exact tail
      · go_simp
        refine hK _ _ ?_
        clear hK K
        refine wpAny_ready (rs := [2]) (by kernel_rfl) (by simp) ?_
        refine AllReady.cons rfl (fun K hK => ?_) AllReady.nil
        go_simp
        refine (new_in w2.drew x.Size h4 h5).mono ?_
        rintro e W ⟨rfl, rfl⟩
        refine hK _ _ ?_
        clear hK K
        refine wpAny_ready (rs := [5]) (by kernel_rfl) (by simp) ?_
        refine AllReady.cons rfl (fun K hK => ?_) AllReady.nil
        go_simp
        refine (rnew_in _ x.Size h4 h5).mono ?_
        rintro e W ⟨rfl, rfl⟩
        refine hK _ _ ?_
        clear hK K
        refine wpAny_ready (rs := [6]) (by kernel_rfl) (by simp) ?_
        refine AllReady.cons rfl (fun K hK => ?_) AllReady.nil
        go_simp
        refine hK _ _ ?_
        clear hK K
        refine wpAny_ready (rs := [7]) (by kernel_rfl) (by simp) ?_
        refine AllReady.cons rfl (fun K hK => ?_) AllReady.nil
        go_simp
        refine hK _ _ ?_
        clear hK K
        refine wpAny_done (by kernel_rfl) ?_ _
        exact tail
    · go_simp
      refine hK _ _ ?_
      clear hK K
      refine wpAny_ready (rs := [1]) (by kernel_rfl) (by simp) ?_
      refine AllReady.cons rfl (fun K hK => ?_) AllReady.nil
      go_simp
      refine hK _ _ ?_
      clear hK K
      refine wpAny_ready (rs := [2]) (by kernel_rfl) (by simp) ?_
      refine AllReady.cons rfl (fun K hK => ?_) AllReady.nil
      go_simp
      refine (new_in w2.drew x.Size h4 h5).mono ?_
      rintro e W ⟨rfl, rfl⟩
      refine hK _ _ ?_
      clear hK K
      refine wpAny_ready (rs := [5]) (by kernel_rfl) (by simp) ?_
      refine AllReady.cons rfl (fun K hK => ?_) AllReady.nil
      go_simp
      refine (rnew_in _ x.Size h4 h5).mono ?_
      rintro e W ⟨rfl, rfl⟩
      refine hK _ _ ?_
      clear hK K
      refine wpAny_ready (rs := [6]) (by kernel_rfl) (by simp) ?_
      refine AllReady.cons rfl (fun K hK => ?_) AllReady.nil
      go_simp
      refine hK _ _ ?_
      clear hK K
      refine wpAny_ready (rs := [7]) (by kernel_rfl) (by simp) ?_
      refine AllReady.cons rfl (fun K hK => ?_) AllReady.nil
      go_simp
      refine hK _ _ ?_
      clear hK K
      refine wpAny_done (by kernel_rfl) ?_ _
      exact tail
  have T0 := two_new w2 x.Size h4
  generalize (World.drew _) = W4 at T0 ⊢
  have hn : 0 < x.Size.toNat := by omega
  have hn2 : x.Size.toNat ≤ 64 := by omega
  generalize x.Size.toNat = n at *
  have H2 := RA.below H B2
  have G2 := RA.below G B2
  have A2 := RA.below A B2
  generalize cNew x.Size = c0 at *
  generalize hk3 : w2.heap.size + 1 + 1 + 1 = k3 at *
  generalize hk2 : w2.heap.size + 1 + 1 = k2 at *
  generalize hk1 : w2.heap.size + 1 = k1 at *
  generalize hk0 : w2.heap.size = k0 at T0 ⊢
  clear hk0 hk1 hk2 hk3 p6 n6
  clear d0 d1 d2 d3 d4 e1 e2 H G A
  go_wp2
  go_loopw [9] (fun j wr => ∃ (i : Nat) (c : GCa), j = .int .i64 i ∧ i ≤ x.L.length ∧ Two w2 wr n k1 k0 k3 k2 c c) (fun j _ => (x.L.length - RowKit.intOf j).toNat)
  case atStart => exact ⟨0, c0, rfl, Nat.zero_le _, T0⟩
  case round =>
    obtain ⟨i, c, rfl, hin, T⟩ := hrel
    clear q0 q1 q2 q3 q4 q5 q6 q7
    have SB := S2.to T.below
    obtain ⟨q0, q1, q2, q3, q4, q5, q6, q7⟩ := SB.cells
    by_cases hik : i < x.L.length
    · have hlt : (i : Int) < (x.L.length : Int) := by omega
      have hdl : decide ((i : Int) < (x.L.length : Int)) = true := decide_eq_true hlt
      have hw : w64 ((i : Int) + 1) = ((i + 1 : Nat) : Int) := by rw [w64_id (by omega) (by omega)]; omega
      obtain ⟨q, o, rfl, hq⟩ := ask_row (RA.below A2 T.below) (fun e => by rw [e] at hik; simp at hik)
      obtain ⟨z0, z1, z2, z3⟩ := hq i _ (List.getElem?_eq_getElem hik)
      generalize x.L[i] = a at z0 z1 z2 z3
      obtain ⟨aC, aS, aF, aO⟩ := a
      dsimp only at z0 z1 z2 z3
      clear hq
      have b1 : Below wr.heap.size wr (wr.alloc (Obj.cells #[.int .i64 aC, .int .i64 aS, .bool aF, .bool aO] 48)) := (Below.refl _ wr).alloc (Nat.le_refl _) _
      have T1 := T.step b1
      have L1 := T.a.lt
      have L2 := T.b.lt
      cases aF with
      | true =>
        have C23 := two_flush T1 hn
        go_wp2_with (go_at_call 23; go_loud (refine C23.mono ?_))
        rintro e W5 ⟨rfl, T5, K5⟩
        have C24 := two_rflush T5 hn2
        clear T1 b1 T C23
        go_wp2_with (go_at_call 24; go_loud (refine C24.mono ?_))
        rintro e W6 ⟨rfl, T6, K6⟩
        go_wp2
        exact ⟨⟨i + 1, _, rfl, by omega, T6⟩, by simp only [RowKit.intOf]; omega⟩
      | false =>
        have R1 := SB.to b1
        obtain ⟨r0, r1, r2, r3, r4, r5, r6, r7⟩ := R1.cells
        have b2 : ∀ u' h', Below wr.heap.size wr ((wr.alloc (Obj.cells #[.int .i64 aC, .int .i64 aS, .bool false, .bool aO] 48)).alloc (.cells #[u', .int .i64 (GHeap.Cap h'), .int .i64 (GHeap.Last h')] 24)) := fun u' h' => b1.alloc b1.size _
        cases aO with
        | false =>
          have T2 := T.step (b2 (.slice Au h.Objs.length cu) h)
          have C25 := two_find T2 hn hn2 H2 hs aC aS
          go_wp2_with (go_at_call 25; go_loud (refine C25.mono ?_))
          rintro e W5 ⟨he, T5, K5⟩
          have P5 : TwP w2 _ n k1 k0 k3 k2 _ _ _ _ W5 := ⟨he, T5, K5⟩
          subst he
          have x1 := P5.box (b2 (.slice Au h.Objs.length cu) h) L1.1 L1.2 L2.1 L2.2 wr.heap.size (Nat.le_refl _) (box1 wr _ _)
          have x2 := P5.box (b2 (.slice Au h.Objs.length cu) h) L1.1 L1.2 L2.1 L2.2 (wr.heap.size + 1) (Nat.le_succ _) (box2 wr _ _)
          clear P5 K5 C25 T2 b2 T1 b1 T r0 r1 r2 r3 r4 r5 r6 r7 R1
          have y0 : W5.cell? ⟨wr.heap.size, 0, none⟩ = some (.int .i64 aC) := by rw [Lib.cell_of_heap x1]; rfl
          have y1 : W5.cell? ⟨wr.heap.size, 1, none⟩ = some (.int .i64 aS) := by rw [Lib.cell_of_heap x1]; rfl
          have y2 : W5.cell? ⟨wr.heap.size + 1, 0, none⟩ = some (.slice Au h.Objs.length cu) := by rw [Lib.cell_of_heap x2]; rfl
          have y3 : W5.cell? ⟨wr.heap.size + 1, 1, none⟩ = some (.int .i64 h.Cap) := by rw [Lib.cell_of_heap x2]; rfl
          have y4 : W5.cell? ⟨wr.heap.size + 1, 2, none⟩ = some (.int .i64 h.Last) := by rw [Lib.cell_of_heap x2]; rfl
          clear x1 x2
          have C26 := two_rfind T5 hn hn2 H2 hs hb aC aS
          generalize cFind c h aC aS = z at T5 C26 ⊢
          obtain ⟨⟨zm, za, ze⟩, c'⟩ := z
          dsimp only at T5 C26 ⊢
          go_wp2_with (go_at_call 26; go_loud (refine C26.mono ?_))
          rintro e W6 ⟨rfl, T6, K6⟩
          clear C26 T5 K6 y0 y1 y2 y3 y4
          go_wp2
          exact ⟨⟨i + 1, c', rfl, by omega, T6⟩, by simp only [RowKit.intOf]; omega⟩
        | true =>
          have T2 := T.step (b2 (.slice Ag g.Objs.length cg) g)
          have R2 := SB.to (b2 (.slice Au h.Objs.length cu) h)
          obtain ⟨s0, s1, s2, s3, s4, s5, s6, s7⟩ := R2.cells
          have C25 := two_find T2 hn hn2 G2 gs aC aS
          go_wp2_with (go_at_call 25; go_loud (refine C25.mono ?_))
          rintro e W5 ⟨he, T5, K5⟩
          have P5 : TwP w2 _ n k1 k0 k3 k2 _ _ _ _ W5 := ⟨he, T5, K5⟩
          subst he
          have x1 := P5.box (b2 (.slice Ag g.Objs.length cg) g) L1.1 L1.2 L2.1 L2.2 wr.heap.size (Nat.le_refl _) (box1 wr _ _)
          have x2 := P5.box (b2 (.slice Ag g.Objs.length cg) g) L1.1 L1.2 L2.1 L2.2 (wr.heap.size + 1) (Nat.le_succ _) (box2 wr _ _)
          clear s0 s1 s2 s3 s4 s5 s6 s7 R2 P5 K5 C25 T2 b2 T1 b1 T r0 r1 r2 r3 r4 r5 r6 r7 R1
          have y0 : W5.cell? ⟨wr.heap.size, 0, none⟩ = some (.int .i64 aC) := by rw [Lib.cell_of_heap x1]; rfl
          have y1 : W5.cell? ⟨wr.heap.size, 1, none⟩ = some (.int .i64 aS) := by rw [Lib.cell_of_heap x1]; rfl
          have y2 : W5.cell? ⟨wr.heap.size + 1, 0, none⟩ = some (.slice Ag g.Objs.length cg) := by rw [Lib.cell_of_heap x2]; rfl
          have y3 : W5.cell? ⟨wr.heap.size + 1, 1, none⟩ = some (.int .i64 g.Cap) := by rw [Lib.cell_of_heap x2]; rfl
          have y4 : W5.cell? ⟨wr.heap.size + 1, 2, none⟩ = some (.int .i64 g.Last) := by rw [Lib.cell_of_heap x2]; rfl
          clear x1 x2
          have C26 := two_rfind T5 hn hn2 G2 gs gb aC aS
          generalize cFind c g aC aS = z at T5 C26 ⊢
          obtain ⟨⟨zm, za, ze⟩, c'⟩ := z
          dsimp only at T5 C26 ⊢
          go_wp2_with (go_at_call 26; go_loud (refine C26.mono ?_))
          rintro e W6 ⟨rfl, T6, K6⟩
          clear C26 T5 K6 y0 y1 y2 y3 y4
          go_wp2
          exact ⟨⟨i + 1, c', rfl, by omega, T6⟩, by simp only [RowKit.intOf]; omega⟩
    · have : i = x.L.length := by omega
      subst this
      have hdl : decide ((x.L.length : Int) < (x.L.length : Int)) = false := decide_eq_false (by omega)
      have C27 := two_hits T
      clear S2 SB
      go_wp2_with (go_at_call 27; go_loud (refine C27.mono ?_))
      rintro e W5 ⟨rfl, T5, K5⟩
      clear C27 T K5 q0 q1 q2 q3 q4 q5 q6 q7
      have B5 := B2.trans (T5.below.mono B2.size)
      have C20 : Calls Try.prog 20 _ _ (RetP W5 (.bool true)) := fixedC W5
      go_wp2_with (go_at_call 20; go_loud (refine C20.mono ?_))
      rintro e W6 ⟨rfl, b6⟩
      have T6 := T5.step b6
      obtain ⟨cur, cw, _, _⟩ := T6.b.ex
      obtain ⟨v0, v1, v2, v3, v4⟩ := cw.c0
      clear cw T6 T5 C20
      go_wp2
      go_ret
      exact ⟨rfl, B5.trans (b6.mono B5.size)⟩
end Go.Pv
