/- A part of the road: the interpreter of plain data and the proof that it is right. -/
import Derived.Test.YtcomdnpeoicpkaaOC
import Derived.Test.YtcomdnpeoicpkaaSC
import Derived.Test.YtcomdnpeoicpkaaNC
import Derived.Test.YtcomdnpeoicpkaaLC
import Derived.Test.YtcomdnpeoicpkaaG
import Derived.Test.YtcomdnpeoicpkaaPC
set_option linter.unusedVariables false
set_option linter.unusedSimpArgs false
/- Heaps: the document's functions in plain words (layers 3 and 9). -/
namespace Go.Pv
open Go.Pv.Bs
def inR (b : Int) : Prop := -9223372036854775808 ≤ b ∧ b ≤ 9223372036854775807
/-- All bits are a machine's. -/
def BitsR (h : GHeap) : Prop := ∀ o ∈ h.Objs, inR o.Bits
theorem R03_Small_ex (h : GHeap) (hl : h.Objs.length ≤ big) : ∃ b, F_R03_Small h = some b := by
  unfold big at hl
  unfold F_R03_Small
  obtain ⟨r, e, _⟩ := iter_post (S := fun p : Int × Int => s0_R03_Small h.Objs h.Cap h.Last p.fst p.snd) (fun p => h.Objs.length - p.2.toNat) (fun p => ∃ k : Nat, p.2 = k ∧ k ≤ h.Objs.length) (fun _ => True) (fun p hp => by
    obtain ⟨n, i⟩ := p
    obtain ⟨k, hk, hle⟩ := hp
    simp only at hk
    subst hk
    simp only [s0_R03_Small]
    by_cases h1 : (k : Int) < h.Objs.length
    · rw [if_pos h1]
      by_cases h2 : n < 5000
      · rw [if_pos h2, if_pos (by omega), if_pos (by omega), w64_id (n := (k : Int) + 1) (by omega) (by omega)]
        exact .inl ⟨_, rfl, ⟨k + 1, rfl, by omega⟩, by simp; omega⟩
      · rw [if_neg h2]; exact .inr ⟨_, rfl, trivial⟩
    · rw [if_neg h1]; exact .inr ⟨_, rfl, trivial⟩) ((0 : Int), (0 : Int)) ⟨0, rfl, Nat.zero_le _⟩
  rw [e, ob_some]
  split <;> exact ⟨_, rfl⟩
end Go.Pv

/- Caches in plain words. -/
namespace Go.Pv
open Go
/-- A cache has what is asked. -/
def FullC (l : List GEn) (k s : Int) : Prop := (atN l (placeN l.length k s)).full_ = true ∧ (atN l (placeN l.length k s)).key.cls = k ∧ (atN l (placeN l.length k s)).key.sel = s
theorem tmod_in (a : Int) (n : Nat) (hn : 0 < n) : -(n : Int) < a.tmod n ∧ a.tmod n < n := by
  have h1 := Int.tmod_lt_of_pos a (show (0 : Int) < n by omega)
  refine ⟨?_, h1⟩
  have h2 := Int.tmod_lt_of_pos (-a) (show (0 : Int) < n by omega)
  rw [Int.neg_tmod] at h2
  omega
theorem placeN_in (n : Nat) (k s : Int) (hn : 0 < n) : placeN n k s < n := by
  have := tmod_in (RowKit.wrap64 (RowKit.wrap64 (31 * k) + s)) n hn
  unfold placeN
  split <;> omega
theorem wrap_small (a : Int) (h1 : 0 ≤ a) (h2 : a ≤ 1000000) : RowKit.wrap64 (a + 1) = a + 1 := by unfold RowKit.wrap64; omega
theorem cFind_hit {c : GCa} {h : GHeap} {k s : Int} (hf : FullC c.entries k s) : cFind c h k s = (((atN c.entries (placeN c.entries.length k s)).method, (atN c.entries (placeN c.entries.length k s)).at_, 0), ⟨c.entries, RowKit.wrap64 (c.hits + 1), c.misses⟩) := if_pos hf
theorem cFind_miss {c : GCa} {h : GHeap} {k s : Int} (hf : ¬ FullC c.entries k s) : cFind c h k s = (findP h k s, ⟨if (findP h k s).2.2 = 0 then c.entries.set (placeN c.entries.length k s) ⟨⟨k, s⟩, (findP h k s).1, (findP h k s).2.1, true⟩ else c.entries, c.hits, RowKit.wrap64 (c.misses + 1)⟩) := if_neg hf
theorem cFind_len (c : GCa) (h : GHeap) (k s : Int) : (cFind c h k s).2.entries.length = c.entries.length := by
  by_cases hf : FullC c.entries k s
  · rw [cFind_hit hf]
  · rw [cFind_miss hf]
    dsimp only
    split
    · exact List.length_set ..
    · rfl
theorem atN_set {l : List GEn} {i : Nat} (e : GEn) (hi : i < l.length) : atN (l.set i e) i = e := by
  simp [atN, List.getD_eq_getElem?_getD, hi]
/-- What was found is there. -/
theorem cFind_ok {c : GCa} {h : GHeap} {k s : Int} (hl : 0 < c.entries.length) (he : (cFind c h k s).1.2.2 = 0) : FullC (cFind c h k s).2.entries k s := by
  by_cases hf : FullC c.entries k s
  · rw [cFind_hit hf]; exact hf
  · rw [cFind_miss hf] at he ⊢
    dsimp only at he ⊢
    rw [if_pos he]
    unfold FullC
    rw [List.length_set, atN_set _ (placeN_in _ _ _ hl)]
    exact ⟨rfl, rfl, rfl⟩
/-- What is not found was not there, and is not laid. -/
theorem cFind_bad {c : GCa} {h : GHeap} {k s : Int} (he : (cFind c h k s).1.2.2 ≠ 0) : ¬ FullC c.entries k s ∧ (cFind c h k s).2.entries = c.entries := by
  by_cases hf : FullC c.entries k s
  · rw [cFind_hit hf] at he; exact absurd rfl he
  · refine ⟨hf, ?_⟩
    rw [cFind_miss hf] at he ⊢
    dsimp only at he ⊢
    rw [if_neg he]
theorem flush_empty (l : List GEn) (k s : Int) : ¬ FullC (List.replicate l.length zeroE) k s := by
  rintro ⟨h, _⟩
  rw [atN, List.getD_eq_getElem?_getD, List.getElem?_replicate] at h
  split at h <;> cases h
/-- What a cache has is what is found. -/
def ValidC (l : List GEn) (h : GHeap) : Prop := ∀ e ∈ l, e.full_ = true → findP h e.key.cls e.key.sel = (e.method, e.at_, 0)
theorem valid_zero (n : Nat) (h : GHeap) : ValidC (List.replicate n zeroE) h := by
  intro e he hf
  rw [List.eq_of_mem_replicate he] at hf
  cases hf
theorem cFind_valid {c : GCa} {h : GHeap} {k s : Int} (hl : 0 < c.entries.length) (hv : ValidC c.entries h) : (cFind c h k s).1 = findP h k s ∧ ValidC (cFind c h k s).2.entries h := by
  by_cases hf : FullC c.entries k s
  · rw [cFind_hit hf]
    have hm : atN c.entries (placeN c.entries.length k s) ∈ c.entries := by
      rw [atN, List.getD_eq_getElem?_getD, List.getElem?_eq_getElem (placeN_in _ _ _ hl)]; exact List.getElem_mem _
    refine ⟨?_, hv⟩
    have := hv _ hm hf.1
    rw [hf.2.1, hf.2.2] at this
    exact this.symm
  · rw [cFind_miss hf]
    refine ⟨rfl, ?_⟩
    dsimp only
    split
    · rename_i he
      intro e hm hfe
      rcases List.mem_or_eq_of_mem_set hm with hm | rfl
      · exact hv e hm hfe
      · show findP h k s = _
        rw [← he]
    · exact hv
/-- How often a cache was asked, and what it counted. -/
theorem cFind_counts (c : GCa) (h : GHeap) (k s : Int) (h1 : 0 ≤ c.hits ∧ c.hits ≤ 1000000) (h2 : 0 ≤ c.misses ∧ c.misses ≤ 1000000) :
    (FullC c.entries k s ∧ (cFind c h k s).2.hits = c.hits + 1 ∧ (cFind c h k s).2.misses = c.misses) ∨ (¬ FullC c.entries k s ∧ (cFind c h k s).2.hits = c.hits ∧ (cFind c h k s).2.misses = c.misses + 1) := by
  by_cases hf : FullC c.entries k s
  · refine .inl ⟨hf, ?_⟩
    rw [cFind_hit hf]
    exact ⟨wrap_small _ h1.1 h1.2, rfl⟩
  · refine .inr ⟨hf, ?_⟩
    rw [cFind_miss hf]
    exact ⟨rfl, wrap_small _ h2.1 h2.2⟩
end Go.Pv

/- CacheFlushed: the law. -/
namespace Go.Pv
open Go Go.Pv.Bs
theorem find_ev {c : GCa} {h : GHeap} (hs : Slim h) (hl : 0 < c.entries.length ∧ c.entries.length ≤ 64) (k s : Int) : F_cache_Find c h k s = some (cFind c h k s) := if_pos ⟨hs, hl⟩
theorem hits_ev {c : GCa} (hl : 0 < c.entries.length ∧ c.entries.length ≤ 64) : F_cache_Hits c = some (c.hits, c.misses) := if_pos hl
theorem flush_ev {c : GCa} (hl : 0 < c.entries.length ∧ c.entries.length ≤ 64) : F_cache_Flush c = some (cFlush c) := if_pos hl
theorem flushed_loop (h : GHeap) (hs : Slim h) (x : G_anamnesislaw10_Asks) (hx : x.L.length ≤ 30) (n : Nat) (hn : 0 < n ∧ n ≤ 64) :
    ∃ r, iterO (fun p : Int × List GEn × Int × Int => s0_L10_CacheFlushed h.Objs h.Cap h.Last h.Objs h.Cap h.Last x.Size x.L p.fst p.snd.fst p.snd.snd.fst p.snd.snd.snd) ((0 : Int), List.replicate n zeroE, (0 : Int), (0 : Int)) = some r ∧ sm r (fun t => t.1 = true) fun _ => True := by
  refine iter_post (S := fun p : Int × List GEn × Int × Int => s0_L10_CacheFlushed h.Objs h.Cap h.Last h.Objs h.Cap h.Last x.Size x.L p.fst p.snd.fst p.snd.snd.fst p.snd.snd.snd) (fun p => x.L.length - p.1.toNat)
    (fun p => ∃ k : Nat, p.1 = k ∧ k ≤ x.L.length ∧ p.2.1.length = n ∧ 0 ≤ p.2.2.1 ∧ 0 ≤ p.2.2.2 ∧ p.2.2.1 + p.2.2.2 = 2 * (k : Int)) _ (fun p hp => ?_) _ ⟨0, rfl, Nat.zero_le _, List.length_replicate .., by simp, by simp, by simp⟩
  obtain ⟨i, l, a, b⟩ := p
  obtain ⟨k, hk, hk1, hk2, hk3, hk4, hk5⟩ := hp
  dsimp only at hk hk2 hk3 hk4 hk5
  subst hk
  simp only [s0_L10_CacheFlushed]
  by_cases hlt : (k : Int) < (x.L.length : Int)
  · rw [if_pos hlt, if_pos (by omega), if_pos (by omega)]
    rw [show ({ Objs := h.Objs, Cap := h.Cap, Last := h.Last } : GHeap) = h from rfl]
    generalize (atI x.L (k : Int)).Class = K
    generalize (atI x.L (k : Int)).Sel = S
    rw [find_ev hs (c := ⟨l, a, b⟩) (by dsimp only; omega), ob_some]
    have l1 := cFind_len ⟨l, a, b⟩ h K S
    have n1 := cFind_counts ⟨l, a, b⟩ h K S ⟨hk3, by dsimp only; omega⟩ ⟨hk4, by dsimp only; omega⟩
    generalize (cFind ⟨l, a, b⟩ h K S) = r1 at l1 n1 ⊢
    obtain ⟨q1, c1⟩ := r1
    dsimp only at l1 n1 ⊢
    rw [hits_ev (c := ⟨c1.entries, c1.hits, c1.misses⟩) (by dsimp only; omega), ob_some]
    rw [flush_ev (c := ⟨c1.entries, c1.hits, c1.misses⟩) (by dsimp only; omega), ob_some]
    have l2 : (cFlush ⟨c1.entries, c1.hits, c1.misses⟩).entries.length = n := by unfold cFlush; rw [List.length_replicate]; dsimp only; omega
    rw [hits_ev (c := ⟨(cFlush ⟨c1.entries, c1.hits, c1.misses⟩).entries, _, _⟩) (by dsimp only; omega), ob_some]
    rw [if_pos (by omega), if_pos (by omega)]
    rw [find_ev hs (c := ⟨(cFlush ⟨c1.entries, c1.hits, c1.misses⟩).entries, _, _⟩) (by dsimp only; omega), ob_some]
    have e2 : (⟨(cFlush ⟨c1.entries, c1.hits, c1.misses⟩).entries, (cFlush ⟨c1.entries, c1.hits, c1.misses⟩).hits, (cFlush ⟨c1.entries, c1.hits, c1.misses⟩).misses⟩ : GCa) = ⟨List.replicate c1.entries.length zeroE, c1.hits, c1.misses⟩ := rfl
    rw [e2]
    have l3 := cFind_len ⟨List.replicate c1.entries.length zeroE, c1.hits, c1.misses⟩ h K S
    have n3 := (cFind_counts ⟨List.replicate c1.entries.length zeroE, c1.hits, c1.misses⟩ h K S ⟨by dsimp only; omega, by dsimp only; omega⟩ ⟨by dsimp only; omega, by dsimp only; omega⟩).resolve_left (fun e => flush_empty c1.entries K S e.1)
    generalize (cFind ⟨List.replicate c1.entries.length zeroE, c1.hits, c1.misses⟩ h K S) = r3 at l3 n3 ⊢
    obtain ⟨q3, c3⟩ := r3
    dsimp only at l3 n3 ⊢
    rw [List.length_replicate] at l3
    rw [hits_ev (c := ⟨c3.entries, c3.hits, c3.misses⟩) (by dsimp only; omega), ob_some]
    dsimp only [cFlush]
    have e5 : w64 (c1.misses + 1) = c1.misses + 1 := w64_id (by omega) (by omega)
    have e6 : w64 (c1.hits + c1.misses) = c1.hits + c1.misses := w64_id (by omega) (by omega)
    have e7 : w64 (2 * (k : Int)) = 2 * (k : Int) := w64_id (by omega) (by omega)
    have e8 : w64 (2 * (k : Int) + 1) = 2 * (k : Int) + 1 := w64_id (by omega) (by omega)
    have e9 : w64 ((k : Int) + 1) = ((k + 1 : Nat) : Int) := by rw [w64_id (by omega) (by omega)]; omega
    rw [if_pos rfl, if_pos rfl, if_pos n3.2.1, e5, if_pos n3.2.2, e6, e7, e8, if_pos (by omega), e9]
    exact .inl ⟨_, rfl, ⟨k + 1, rfl, by omega, by dsimp only; omega, by dsimp only; omega, by dsimp only; omega, by dsimp only; omega⟩, by dsimp only; omega⟩
  · rw [if_neg hlt]
    exact .inr ⟨_, rfl, trivial⟩
theorem cacheFlushed (h : GHeap) (x : G_anamnesislaw10_Asks) (hs : Slim h) : F_L10_CacheFlushed h x = some true := by
  unfold F_L10_CacheFlushed
  obtain ⟨t, hb1⟩ := R03_Small_ex h hs.1
  rw [hb1, ob_some]
  cases t with
  | false => rfl
  | true =>
  rw [if_pos rfl]
  by_cases h1 : (h.Objs.length : Int) ≤ 40
  case neg => rw [if_neg h1]
  rw [if_pos h1]
  by_cases h2 : (x.L.length : Int) ≤ 30
  case neg => rw [if_neg h2]
  rw [if_pos h2]
  by_cases h3 : (1 : Int) ≤ x.Size
  case neg => rw [if_neg h3]
  rw [if_pos h3]
  by_cases h4 : (64 : Int) < x.Size
  case pos => rw [if_pos h4]
  rw [if_neg h4, if_pos ⟨h3, by omega⟩]
  obtain ⟨r, hr, hp⟩ := flushed_loop h hs x (by omega) x.Size.toNat ⟨by omega, by omega⟩
  rw [hr, ob_some]
  cases r with
  | inl t =>
    rw [sm_inl]
    have : t.1 = true := hp
    rw [this]
  | inr u => rfl
end Go.Pv

/- CacheCounts, CacheSizes: the laws. -/
namespace Go.Pv
open Go Go.Pv.Bs
theorem counts_loop (h : GHeap) (hs : Slim h) (x : G_anamnesislaw10_Asks) (hx : x.L.length ≤ 30) (n : Nat) (hn : 0 < n ∧ n ≤ 64) :
    ∃ r, iterO (fun p : Int × Int × List GEn × Int × Int => s0_L10_CacheCounts h.Objs h.Cap h.Last h.Objs h.Cap h.Last x.Size x.L p.fst p.snd.fst p.snd.snd.fst p.snd.snd.snd.fst p.snd.snd.snd.snd) ((0 : Int), (0 : Int), List.replicate n zeroE, (0 : Int), (0 : Int)) = some r ∧ sm r (fun t => t.1 = true) fun _ => True := by
  refine iter_post (S := fun p : Int × Int × List GEn × Int × Int => s0_L10_CacheCounts h.Objs h.Cap h.Last h.Objs h.Cap h.Last x.Size x.L p.fst p.snd.fst p.snd.snd.fst p.snd.snd.snd.fst p.snd.snd.snd.snd) (fun p => x.L.length - p.2.1.toNat)
    (fun p => ∃ k : Nat, p.1 = 2 * (k : Int) ∧ p.2.1 = k ∧ k ≤ x.L.length ∧ p.2.2.1.length = n ∧ 0 ≤ p.2.2.2.1 ∧ 0 ≤ p.2.2.2.2 ∧ p.2.2.2.1 + p.2.2.2.2 = 2 * (k : Int)) _ (fun p hp => ?_) _ ⟨0, rfl, rfl, Nat.zero_le _, List.length_replicate .., by simp, by simp, by simp⟩
  obtain ⟨m, i, l, a, b⟩ := p
  obtain ⟨k, hm, hk, hk1, hk2, hk3, hk4, hk5⟩ := hp
  dsimp only at hm hk hk2 hk3 hk4 hk5
  subst hk hm
  simp only [s0_L10_CacheCounts]
  by_cases hlt : (k : Int) < (x.L.length : Int)
  · rw [if_pos hlt, if_pos (by omega), if_pos (by omega)]
    rw [show ({ Objs := h.Objs, Cap := h.Cap, Last := h.Last } : GHeap) = h from rfl]
    generalize (atI x.L (k : Int)).Class = K
    generalize (atI x.L (k : Int)).Sel = S
    rw [find_ev hs (c := ⟨l, a, b⟩) (by dsimp only; omega), ob_some]
    have l1 := cFind_len ⟨l, a, b⟩ h K S
    have n1 := cFind_counts ⟨l, a, b⟩ h K S ⟨hk3, by dsimp only; omega⟩ ⟨hk4, by dsimp only; omega⟩
    have o1 := cFind_ok (c := ⟨l, a, b⟩) (h := h) (k := K) (s := S) (by dsimp only; omega)
    have o2 := cFind_bad (c := ⟨l, a, b⟩) (h := h) (k := K) (s := S)
    generalize (cFind ⟨l, a, b⟩ h K S) = r1 at l1 n1 o1 o2 ⊢
    obtain ⟨⟨q0, q1, e⟩, c1⟩ := r1
    obtain ⟨l', a', b'⟩ := c1
    dsimp only at l1 n1 o1 o2 ⊢
    rw [hits_ev (c := ⟨l', a', b'⟩) (by dsimp only; omega), ob_some]
    rw [if_pos (by omega), if_pos (by omega)]
    rw [find_ev hs (c := ⟨l', a', b'⟩) (by dsimp only; omega), ob_some]
    have l3 := cFind_len ⟨l', a', b'⟩ h K S
    have n3 := cFind_counts ⟨l', a', b'⟩ h K S ⟨by dsimp only; omega, by dsimp only; omega⟩ ⟨by dsimp only; omega, by dsimp only; omega⟩
    generalize (cFind ⟨l', a', b'⟩ h K S) = r3 at l3 n3 ⊢
    obtain ⟨q3, ⟨l3', a3, b3⟩⟩ := r3
    dsimp only at l3 n3 ⊢
    rw [hits_ev (c := ⟨l3', a3, b3⟩) (by dsimp only; omega), ob_some]
    dsimp only
    have hsum : a3 + b3 = 2 * (k : Int) + 2 := by omega
    have e5 : w64 (a3 + b3) = 2 * (k : Int) + 2 := by rw [hsum]; exact w64_id (by omega) (by omega)
    have e6 : w64 (2 * (k : Int) + 2) = 2 * (k : Int) + 2 := w64_id (by omega) (by omega)
    have e7 : w64 (a' + 1) = a' + 1 := w64_id (by omega) (by omega)
    have e8 : w64 (b' + 1) = b' + 1 := w64_id (by omega) (by omega)
    have e9 : w64 ((k : Int) + 1) = ((k + 1 : Nat) : Int) := by rw [w64_id (by omega) (by omega)]; omega
    rw [e5, e6, e7, e8, e9, if_pos rfl]
    have goes : ∃ z, (some (Sum.inl (2 * (k : Int) + 2, ((k + 1 : Nat) : Int), l3', a3, b3)) : Option (Int × Int × List GEn × Int × Int ⊕ (Bool × List G_cache_entry × Int × Int ⊕ List GEn × Int × Int))) = some (Sum.inl z) ∧
        (∃ k' : Nat, z.1 = 2 * (k' : Int) ∧ z.2.1 = k' ∧ k' ≤ x.L.length ∧ z.2.2.1.length = n ∧ 0 ≤ z.2.2.2.1 ∧ 0 ≤ z.2.2.2.2 ∧ z.2.2.2.1 + z.2.2.2.2 = 2 * (k' : Int)) ∧ x.L.length - z.2.1.toNat < x.L.length - (k : Int).toNat :=
      ⟨_, rfl, ⟨k + 1, by dsimp only; omega, rfl, by omega, by dsimp only; omega, by dsimp only; omega, by dsimp only; omega, by dsimp only; omega⟩, by dsimp only; omega⟩
    by_cases he : e = 0
    · have hf := o1 he
      obtain ⟨_, g1, g2⟩ := n3.resolve_right (fun h => h.1 hf)
      rw [if_pos he, if_pos g1, if_pos g2, if_pos he]
      exact .inl goes
    · obtain ⟨hf, hl⟩ := o2 he
      obtain ⟨_, g1, g2⟩ := n3.resolve_left (fun h => by rw [hl] at h; exact hf h.1)
      rw [if_neg he, if_neg he, if_pos g1, if_pos g2]
      exact .inl goes
  · rw [if_neg hlt]
    exact .inr ⟨_, rfl, trivial⟩
theorem cacheCounts (h : GHeap) (x : G_anamnesislaw10_Asks) (hs : Slim h) : F_L10_CacheCounts h x = some true := by
  unfold F_L10_CacheCounts
  obtain ⟨t, hb1⟩ := R03_Small_ex h hs.1
  rw [hb1, ob_some]
  cases t with
  | false => rfl
  | true =>
  rw [if_pos rfl]
  by_cases h1 : (h.Objs.length : Int) ≤ 40
  case neg => rw [if_neg h1]
  rw [if_pos h1]
  by_cases h2 : (x.L.length : Int) ≤ 30
  case neg => rw [if_neg h2]
  rw [if_pos h2]
  by_cases h3 : (1 : Int) ≤ x.Size
  case neg => rw [if_neg h3]
  rw [if_pos h3]
  by_cases h4 : (64 : Int) < x.Size
  case pos => rw [if_pos h4]
  rw [if_neg h4, if_pos ⟨h3, by omega⟩]
  obtain ⟨r, hr, hp⟩ := counts_loop h hs x (by omega) x.Size.toNat ⟨by omega, by omega⟩
  rw [hr, ob_some]
  cases r with
  | inl t =>
    rw [sm_inl]
    have : t.1 = true := hp
    rw [this]
  | inr u => rfl
theorem sizes_loop (h : GHeap) (hs : Slim h) (x : G_anamnesislaw10_Asks) (hx : x.L.length ≤ 30) (n m : Nat) (hn : 0 < n ∧ n ≤ 64) (hm : 0 < m ∧ m ≤ 64) :
    ∃ r, iterO (fun p : Int × Int × List GEn × Int × Int × List GEn × Int × Int => s0_L10_CacheSizes h.Objs h.Cap h.Last x.Size x.L h.Objs h.Cap h.Last x.Size x.L p.fst p.snd.fst p.snd.snd.fst p.snd.snd.snd.fst p.snd.snd.snd.snd.fst p.snd.snd.snd.snd.snd.fst p.snd.snd.snd.snd.snd.snd.fst p.snd.snd.snd.snd.snd.snd.snd) ((0 : Int), (0 : Int), List.replicate n zeroE, (0 : Int), (0 : Int), List.replicate m zeroE, (0 : Int), (0 : Int)) = some r ∧ sm r (fun t => t.1 = true) fun _ => True := by
  refine iter_post (S := fun p : Int × Int × List GEn × Int × Int × List GEn × Int × Int => s0_L10_CacheSizes h.Objs h.Cap h.Last x.Size x.L h.Objs h.Cap h.Last x.Size x.L p.fst p.snd.fst p.snd.snd.fst p.snd.snd.snd.fst p.snd.snd.snd.snd.fst p.snd.snd.snd.snd.snd.fst p.snd.snd.snd.snd.snd.snd.fst p.snd.snd.snd.snd.snd.snd.snd) (fun p => x.L.length - p.2.1.toNat)
    (fun p => ∃ k : Nat, p.1 = p.2.2.2.1 ∧ p.2.1 = k ∧ k ≤ x.L.length ∧ (p.2.2.1.length = n ∧ ValidC p.2.2.1 h) ∧ (0 ≤ p.2.2.2.1 ∧ 0 ≤ p.2.2.2.2.1 ∧ p.2.2.2.1 + p.2.2.2.2.1 ≤ (k : Int)) ∧ (p.2.2.2.2.2.1.length = m ∧ ValidC p.2.2.2.2.2.1 h)) _ (fun p hp => ?_) _ ⟨0, rfl, rfl, Nat.zero_le _, ⟨List.length_replicate .., valid_zero _ _⟩, ⟨by simp, by simp, by simp⟩, List.length_replicate .., valid_zero _ _⟩
  obtain ⟨a, i, l, a0, b, l2, a2, b2⟩ := p
  obtain ⟨k, hlast, hk, hk1, ⟨hk2, hv⟩, ⟨hk3, hk4, hk5⟩, hk6, hv2⟩ := hp
  dsimp only at hlast hk hk2 hk3 hk4 hk5 hk6 hv hv2
  subst hk hlast
  simp only [s0_L10_CacheSizes]
  by_cases hlt : (k : Int) < (x.L.length : Int)
  · rw [if_pos hlt, if_pos (by omega), if_pos (by omega)]
    rw [show ({ Objs := h.Objs, Cap := h.Cap, Last := h.Last } : GHeap) = h from rfl]
    generalize (atI x.L (k : Int)).Class = K
    generalize (atI x.L (k : Int)).Sel = S
    rw [find_ev hs (c := ⟨l, a, b⟩) (by dsimp only; omega), ob_some, if_pos (by omega), if_pos (by omega)]
    rw [find_ev hs (c := ⟨l2, a2, b2⟩) (by dsimp only; omega), ob_some]
    have l1 := cFind_len ⟨l, a, b⟩ h K S
    have n1 := cFind_counts ⟨l, a, b⟩ h K S ⟨by dsimp only; omega, by dsimp only; omega⟩ ⟨by dsimp only; omega, by dsimp only; omega⟩
    have v1 := cFind_valid (c := ⟨l, a, b⟩) (h := h) (k := K) (s := S) (by dsimp only; omega) hv
    have l3 := cFind_len ⟨l2, a2, b2⟩ h K S
    have v3 := cFind_valid (c := ⟨l2, a2, b2⟩) (h := h) (k := K) (s := S) (by dsimp only; omega) hv2
    generalize (cFind ⟨l, a, b⟩ h K S) = r1 at l1 n1 v1 ⊢
    generalize (cFind ⟨l2, a2, b2⟩ h K S) = r3 at l3 v3 ⊢
    obtain ⟨q1, ⟨l1', a1, b1⟩⟩ := r1
    obtain ⟨q3, ⟨l3', a3, b3⟩⟩ := r3
    dsimp only at l1 n1 v1 l3 v3 ⊢
    obtain ⟨rfl, v1⟩ := v1
    obtain ⟨rfl, v3⟩ := v3
    rw [hits_ev (c := ⟨l1', a1, b1⟩) (by dsimp only; omega), ob_some]
    dsimp only
    have e7 : w64 (a + 1) = a + 1 := w64_id (by omega) (by omega)
    have e9 : w64 ((k : Int) + 1) = ((k + 1 : Nat) : Int) := by rw [w64_id (by omega) (by omega)]; omega
    rw [if_pos rfl, if_pos rfl, if_pos rfl, if_pos (by omega), e7, if_neg (by omega), e9]
    exact .inl ⟨_, rfl, ⟨k + 1, rfl, rfl, by omega, ⟨by dsimp only; omega, v1⟩, ⟨by dsimp only; omega, by dsimp only; omega, by dsimp only; omega⟩, by dsimp only; omega, v3⟩, by dsimp only; omega⟩
  · rw [if_neg hlt]
    exact .inr ⟨_, rfl, trivial⟩
theorem cacheSizes (h : GHeap) (x : G_anamnesislaw10_Asks) (size : Int) (hs : Slim h) : F_L10_CacheSizes h x size = some true := by
  unfold F_L10_CacheSizes
  obtain ⟨t, hb1⟩ := R03_Small_ex h hs.1
  rw [hb1, ob_some]
  cases t with
  | false => rfl
  | true =>
  rw [if_pos rfl]
  by_cases h1 : (h.Objs.length : Int) ≤ 40
  case neg => rw [if_neg h1]
  rw [if_pos h1]
  by_cases h2 : (x.L.length : Int) ≤ 30
  case neg => rw [if_neg h2]
  rw [if_pos h2]
  by_cases h3 : (1 : Int) ≤ x.Size
  case neg => rw [if_neg h3]
  rw [if_pos h3]
  by_cases h4 : x.Size ≤ (64 : Int)
  case neg => rw [if_neg h4]
  rw [if_pos h4]
  by_cases h5 : (1 : Int) ≤ size
  case neg => rw [if_neg h5]
  rw [if_pos h5]
  by_cases h6 : (64 : Int) < size
  case pos => rw [if_pos h6]
  rw [if_neg h6, if_pos ⟨h3, h4⟩, if_pos ⟨h5, by omega⟩]
  obtain ⟨r, hr, hp⟩ := sizes_loop h hs x (by omega) x.Size.toNat size.toNat ⟨by omega, by omega⟩ ⟨by omega, by omega⟩
  rw [hr, ob_some]
  cases r with
  | inl t =>
    rw [sm_inl]
    have : t.1 = true := hp
    rw [this]
  | inr u => rfl
end Go.Pv

/- Heaps: from the laws' arguments to plain data. -/
namespace Go.Pv
open Go Go.Proofs
abbrev iT : Ty := .int .i64
abbrev objT : Ty := .pair iT (.pair iT (.pair (.sl iT) (.pair .str (.pair iT (.pair iT .unit)))))
abbrev heapT : Ty := .pair (.sl objT) (.pair iT (.pair iT .unit))
def toObj (x : objT.den) : GObj := ⟨x.1, x.2.1, x.2.2.1, x.2.2.2.1, x.2.2.2.2.1, x.2.2.2.2.2.1⟩
def toObjs (l : (Ty.sl objT).den) : List GObj := List.map toObj l
def toHeap (x : heapT.den) : GHeap := ⟨toObjs x.1, x.2.1, x.2.2.1⟩
theorem map_enc {α β : Type} [Enc β] (e : α → List T) (f : α → β) (h : ∀ x, e x = Enc.enc (f x)) (l : List α) : List.map e l = els (List.map f l) := by
  unfold els
  rw [List.map_map]
  exact List.map_congr_left fun x _ => h x
theorem objT_enc (x : objT.den) : objT.enc x = Enc.enc (toObj x) := rfl
theorem objs_enc (l : (Ty.sl objT).den) : List.map (α := objT.den) objT.enc l = els (toObjs l) := map_enc objT.enc toObj objT_enc l
theorem ones {α : Type} (f : α → Nat) (hf : ∀ x, f x = 1) (l : List α) : (l.map f).sum = l.length := by
  induction l with
  | nil => rfl
  | cons a l ih => simp only [List.map_cons, List.sum_cons, List.length_cons, ih, hf]; omega
theorem sum_mem {α : Type} (f : α → Nat) : ∀ (l : List α) (x : α), x ∈ l → f x ≤ (l.map f).sum
  | a :: l, x, h => by
    rw [List.map_cons, List.sum_cons]
    rcases List.mem_cons.1 h with rfl | h
    · omega
    · have := sum_mem f l x h; omega
theorem sum_len {α : Type} (f : α → Nat) (hf : ∀ x, 1 ≤ f x) (l : List α) : l.length ≤ (l.map f).sum := by
  induction l with
  | nil => exact Nat.le_refl _
  | cons a l ih => have := hf a; simp only [List.map_cons, List.sum_cons, List.length_cons]; omega
theorem obj_bulk (x : objT.den) : (toObj x).Slots.length + (toObj x).Text.size + 1 ≤ objT.bulk x := by
  obtain ⟨c, kd, sl, tx, b, h, u⟩ := x
  have hs := ones (Ty.bulk iT) (fun _ => rfl) sl
  show List.length (α := iT.den) sl + ByteArray.size tx + 1 ≤ 1 + (1 + ((List.map (α := iT.den) (Ty.bulk iT) sl).sum + 1 + (ByteArray.size tx + 1 + (1 + (1 + 0)))))
  rw [hs]; omega
theorem int_wf {n : Int} (h : (Lit.int .i64 n).wf = true) : inR n := by
  simp only [Lit.wf, IntKind.min, IntKind.max, IntKind.signed, IntKind.bits, Bool.and_eq_true, decide_eq_true_eq, if_true] at h
  unfold inR
  constructor <;> omega
theorem objs_small (l : (Ty.sl objT).den) (hw : (Ty.sl objT).wf l) (hk : (Ty.sl objT).bulk l ≤ 1048576) (c la : Int) : Slim ⟨toObjs l, c, la⟩ ∧ BitsR ⟨toObjs l, c, la⟩ := by
  have h1 : (List.map (α := objT.den) objT.bulk l).sum + 1 ≤ 1048576 := hk
  have h2 := sum_len (α := objT.den) objT.bulk (fun x => by have := obj_bulk x; omega) l
  refine ⟨⟨?_, fun o ho => ?_⟩, fun o ho => ?_⟩
  · refine Nat.le_trans (Nat.le_of_eq (List.length_map (α := objT.den) toObj)) ?_
    unfold big; omega
  · obtain ⟨x, hx, rfl⟩ := List.mem_map.1 ho
    have h3 := sum_mem (α := objT.den) objT.bulk l x hx
    have h4 := obj_bulk x
    unfold big; omega
  · obtain ⟨x, hx, rfl⟩ := List.mem_map.1 ho
    have := hw.2 x hx
    obtain ⟨c, kd, sl, tx, b, h, u⟩ := x
    exact int_wf this.2.2.2.2.1
def hpD (h : GHeap) : D := .agg [.t (.sl 6 (els h.Objs)), I h.Cap, I h.Last]
theorem argD_heap (x : heapT.den) : argD heapT x = hpD (toHeap x) := by
  obtain ⟨l, c, la, u⟩ := x
  exact congrArg (fun e => D.agg [.t (.sl 6 e), I c, I la]) (objs_enc l)
theorem heap_slim (x : heapT.den) (hw : heapT.wf x) (hk : heapT.bulk x ≤ 1048576) : Slim (toHeap x) ∧ BitsR (toHeap x) := by
  obtain ⟨l, c, la, u⟩ := x
  have h1 : (Ty.sl objT).bulk l + (1 + (1 + 0)) ≤ 1048576 := hk
  exact objs_small l hw.1 (by omega) c la
theorem ints_len (l : (Ty.sl iT).den) (hk : (Ty.sl iT).bulk l ≤ 1048576) : List.length (α := Int) l ≤ 1048576 := by
  have h1 : (List.map (α := iT.den) (Ty.bulk iT) l).sum + 1 ≤ 1048576 := hk
  have h2 := ones (α := iT.den) (Ty.bulk iT) (fun _ => rfl) l
  have h3 : List.length (α := iT.den) l ≤ 1048576 := by omega
  exact h3
theorem argD_ints (l : (Ty.sl iT).den) : argD (.sl iT) l = .t (.sl 1 (els (α := Int) l)) := rfl
end Go.Pv

/- Caches' laws, of data. -/
namespace Go.Pv
open Go Go.Proofs
abbrev askT : Ty := .pair iT (.pair iT (.pair .bool (.pair .bool .unit)))
abbrev asksT : Ty := .pair iT (.pair (.sl askT) .unit)
abbrev cacheT : Ty := .pair heapT (.pair asksT .unit)
abbrev cacheNT : Ty := .pair heapT (.pair asksT (.pair iT .unit))
def toAsk (x : askT.den) : G_anamnesislaw10_Ask := ⟨x.1, x.2.1, x.2.2.1, x.2.2.2.1⟩
def toAsks (x : asksT.den) : G_anamnesislaw10_Asks := ⟨x.1, List.map (α := askT.den) toAsk x.2.1⟩
theorem askT_enc (x : askT.den) : askT.enc x = Enc.enc (toAsk x) := rfl
theorem argD_asks (x : asksT.den) : argD asksT x = .agg [I (toAsks x).Size, .t (.sl 4 (els (toAsks x).L))] := by
  obtain ⟨n, l, u⟩ := x
  exact congrArg (fun e => D.agg [I n, .t (.sl 4 e)]) (map_enc askT.enc toAsk askT_enc l)
theorem law_cacheFlushed (x : cacheT.den) (hx : cacheT.wf x) (hk : cacheT.bulk x ≤ 1048576) : cO Try.prog lore 10 (argDs cacheT x) [] = some (.val (Bo true), []) := by
  obtain ⟨h, a, u⟩ := x
  have h3 : heapT.bulk h + (asksT.bulk a + 0) ≤ 1048576 := hk
  obtain ⟨a1, a2⟩ := heap_slim h hx.1 (by omega)
  have e := f_L10_CacheFlushed (toHeap h).Objs (toHeap h).Cap (toHeap h).Last (toAsks a).Size (toAsks a).L
  rw [show ({ Objs := (toHeap h).Objs, Cap := (toHeap h).Cap, Last := (toHeap h).Last : GHeap }) = toHeap h from rfl, show ({ Size := (toAsks a).Size, L := (toAsks a).L : G_anamnesislaw10_Asks }) = toAsks a from rfl, cacheFlushed _ _ a1, ob_some] at e
  show cO Try.prog lore 10 [argD heapT h, argD asksT a] [] = _
  rw [argD_heap, argD_asks]
  exact e
theorem law_cacheCounts (x : cacheT.den) (hx : cacheT.wf x) (hk : cacheT.bulk x ≤ 1048576) : cO Try.prog lore 8 (argDs cacheT x) [] = some (.val (Bo true), []) := by
  obtain ⟨h, a, u⟩ := x
  have h3 : heapT.bulk h + (asksT.bulk a + 0) ≤ 1048576 := hk
  obtain ⟨a1, a2⟩ := heap_slim h hx.1 (by omega)
  have e := f_L10_CacheCounts (toHeap h).Objs (toHeap h).Cap (toHeap h).Last (toAsks a).Size (toAsks a).L
  rw [show ({ Objs := (toHeap h).Objs, Cap := (toHeap h).Cap, Last := (toHeap h).Last : GHeap }) = toHeap h from rfl, show ({ Size := (toAsks a).Size, L := (toAsks a).L : G_anamnesislaw10_Asks }) = toAsks a from rfl, cacheCounts _ _ a1, ob_some] at e
  show cO Try.prog lore 8 [argD heapT h, argD asksT a] [] = _
  rw [argD_heap, argD_asks]
  exact e
theorem law_cacheSizes (x : cacheNT.den) (hx : cacheNT.wf x) (hk : cacheNT.bulk x ≤ 1048576) : cO Try.prog lore 9 (argDs cacheNT x) [] = some (.val (Bo true), []) := by
  obtain ⟨h, a, n, u⟩ := x
  have h3 : heapT.bulk h + (asksT.bulk a + (1 + 0)) ≤ 1048576 := hk
  obtain ⟨a1, a2⟩ := heap_slim h hx.1 (by omega)
  have e := f_L10_CacheSizes (toHeap h).Objs (toHeap h).Cap (toHeap h).Last (toAsks a).Size (toAsks a).L n
  rw [show ({ Objs := (toHeap h).Objs, Cap := (toHeap h).Cap, Last := (toHeap h).Last : GHeap }) = toHeap h from rfl, show ({ Size := (toAsks a).Size, L := (toAsks a).L : G_anamnesislaw10_Asks }) = toAsks a from rfl, cacheSizes _ _ n a1, ob_some] at e
  show cO Try.prog lore 9 [argD heapT h, argD asksT a, I n] [] = _
  rw [argD_heap, argD_asks]
  exact e
end Go.Pv
