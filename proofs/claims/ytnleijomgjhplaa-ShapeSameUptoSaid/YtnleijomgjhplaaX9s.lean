/- A part of the road: the interpreter of plain data and the proof that it is right. -/
import Derived.Test.YtnleijomgjhplaaM9s
import Derived.Test.YtnleijomgjhplaaS9s
import Derived.Test.YtnleijomgjhplaaQ9s
set_option linter.unusedVariables false
set_option linter.unusedSimpArgs false
/- Pairing objects: the document's sameness but for numbers is the program's. -/
namespace Go.Pv
theorem none_eq (n : Nat) (hn : n ≤ 1048576) : F_R06_none (n : Int) = some (List.replicate n (-1)) := by
  unfold F_R06_none
  have loop := iter_acc (S := fun p : List Int × Int => s0_R06_none (n : Int) p.fst p.snd) (fun k => (List.replicate k (-1), (k : Int))) n (b := List.replicate n (-1)) (fun k hk => by
    simp only [s0_R06_none]
    rw [if_pos (by omega), if_pos (by simp; unfold most; omega), w64_id (by omega) (by omega), ← List.replicate_succ']
    rfl) (by
    simp only [s0_R06_none]
    rw [if_neg (by omega)])
  have loop' : iterO (fun p : List Int × Int => s0_R06_none (n : Int) p.fst p.snd) ([], (0 : Int)) = some (List.replicate n (-1)) := by simpa using loop
  rw [loop', ob_some]
theorem getD_getI {l : List Int} {i : Nat} (h : i < l.length) : l.getD i 0 = l[i] := by
  rw [List.getD_eq_getElem?_getD, List.getElem?_eq_getElem h, Option.getD_some]
section
variable (h g : GHeap)
theorem pair_eq (v w : Int) (P : PS) (hP : PBj h.n g.n P) (hv : hasB h.n v = true) (hw : hasB g.n w = true) (a : List GObj) (b c : Int) (d : List GObj) (e f : Int) :
    F_R06_Pairing_pair_u0 h.Objs h.Cap h.Last g.Objs g.Cap g.Last v w a b c d e f P.1 P.2 = some ((pairM P v w).1, (pairM P v w).2.1, (pairM P v w).2.2) := by
  unfold F_R06_Pairing_pair_u0
  rw [R03_Ref_eq, ob_some, R03_Ref_eq, ob_some]
  have l1 := hP.l1
  have l2 := hP.l2
  rcases ref_cases hv with ⟨h1, h2⟩ | ⟨i, h1, h2, h3⟩
  · have h2' : refI (GHeap.n { Objs := h.Objs, Cap := h.Cap, Last := h.Last }) v = -1 := h2
    have hn : (n? v).isSome = true := by
      rcases hasB_iff.1 hv with h3 | ⟨i, h3, _⟩
      · exact h3
      · rw [h1] at h3; cases h3
    rw [h2', if_neg (by omega), R01_N_eq, ob_some, nP_snd, hn, if_pos rfl]
    unfold pairM
    rw [h1]
    cases e2 : at? w with
    | none => rfl
    | some k =>
      have hne : v ≠ w := fun e => by rw [e, e2] at h1; cases h1
      simp [hne]
  · have h3' : refI (GHeap.n { Objs := h.Objs, Cap := h.Cap, Last := h.Last }) v = (i : Int) := h3
    rw [h3', if_pos (by omega)]
    rcases ref_cases hw with ⟨k1, k2⟩ | ⟨k, k1, k2, k3⟩
    · have k2' : refI (GHeap.n { Objs := g.Objs, Cap := g.Cap, Last := g.Last }) w = -1 := k2
      rw [k2', if_pos (by omega), R01_N_eq, ob_some, nP_snd, n_at h1, if_neg (by simp)]
      unfold pairM
      rw [h1, k1]
    · have k3' : refI (GHeap.n { Objs := g.Objs, Cap := g.Cap, Last := g.Last }) w = (k : Int) := k3
      have hi : i < P.1.length := by omega
      have hk : k < P.2.length := by omega
      have ei : (i : Int).toNat = i := Int.toNat_natCast i
      have ek : (k : Int).toNat = k := Int.toNat_natCast k
      have b1 : (0 : Int) ≤ (i : Int) ∧ (i : Int) < (P.1.length : Int) := by omega
      have b2 : (0 : Int) ≤ (k : Int) ∧ (k : Int) < (P.2.length : Int) := by omega
      have s1 : atI (P.1.set i (k : Int)) (i : Int) = k := by rw [atI_nat _ i (by simpa using hi)]; simp
      have s2 : atI (P.2.set k (i : Int)) (k : Int) = i := by rw [atI_nat _ k (by simpa using hk)]; simp
      have g1 : P.1.getD i 0 = P.1[i] := getD_getI hi
      have g2 : P.2.getD k 0 = P.2[k] := getD_getI hk
      unfold pairM
      rw [h1, k1, k3', if_neg (by omega)]
      simp only [ei, ek, b1, b2, hi, hk, if_true, and_self, s1, s2, atI_nat P.1 i hi, atI_nat P.2 k hk, g1, g2]
      by_cases c1 : P.1[i] = -1
      · by_cases c2 : P.2[k] = -1
        · have t1 : (P.1.set i (k : Int)).getD i 0 = k := by rw [getD_getI (by simpa using hi)]; simp
          have t2 : (P.2.set k (i : Int)).getD k 0 = i := by rw [getD_getI (by simpa using hk)]; simp
          simp only [c1, c2, if_true, and_self, t1, t2]
          simp
        · by_cases c3 : (-1 : Int) = (k : Int)
          · omega
          · simp only [c1, c2, and_false, if_false, if_true, g1, g2, c3, false_and]
            simp
      · by_cases c3 : P.1[i] = (k : Int)
        · have c4 : ¬ (k : Int) = -1 := by omega
          simp only [c3, c4, false_and, if_false, g1, g2, true_and, if_true]
          rfl
        · simp only [c1, false_and, if_false, g1, g2, c3]
          simp
theorem pair_eq1 (v w : Int) (P : PS) (hP : PBj h.n g.n P) (hv : hasB h.n v = true) (hw : hasB g.n w = true) (a : List GObj) (b c : Int) (d : List GObj) (e f : Int) (a' : List GObj) (b' c' : Int) (d' : List GObj) (e' f' : Int) (x0 x1 : Int) (x2 : List Int) (x3 : ByteArray) (x4 x5 y0 y1 : Int) (y2 : List Int) (y3 : ByteArray) (y4 y5 : Int) :
    F_R06_Pairing_pair_u1 h.Objs h.Cap h.Last g.Objs g.Cap g.Last v w a b c d e f P.1 P.2 a' b' c' d' e' f' x0 x1 x2 x3 x4 x5 y0 y1 y2 y3 y4 y5 = some ((pairM P v w).1, (pairM P v w).2.1, (pairM P v w).2.2) := pair_eq h g v w P hP hv hw a b c d e f
/-- What a loop of pairings comes to. -/
def Comes (o : Option PS) : (Bool × List Int × List Int) ⊕ (List Int × List Int) → Prop
  | .inl r => o = none ∧ r.1 = false
  | .inr r => o = some r
theorem pair_loop {S : Int × List Int × List Int → Option ((Int × List Int × List Int) ⊕ (Bool × List Int × List Int) ⊕ (List Int × List Int))} (xs ys : List Int) (hl : xs.length = ys.length) (hx : ∀ v ∈ xs, hasB h.n v = true) (hy : ∀ v ∈ ys, hasB g.n v = true)
    (hs : ∀ (k : Nat) (P : PS), PBj h.n g.n P → (h1 : k < xs.length) → (h2 : k < ys.length) → S ((k : Int), P.1, P.2) = if (pairM P xs[k] ys[k]).1 = true then some (.inl (((k + 1 : Nat) : Int), (pairM P xs[k] ys[k]).2.1, (pairM P xs[k] ys[k]).2.2)) else some (.inr (.inl (false, (pairM P xs[k] ys[k]).2.1, (pairM P xs[k] ys[k]).2.2))))
    (he : ∀ P : PS, S ((xs.length : Int), P.1, P.2) = some (.inr (.inr (P.1, P.2)))) : ∀ (d k : Nat) (P : PS), k + d = xs.length → PBj h.n g.n P → ∃ r, iterO S ((k : Int), P.1, P.2) = some r ∧ Comes (pairL (xs.drop k) (ys.drop k) P) r := by
  intro d
  induction d with
  | zero =>
    intro k P hk _
    have : k = xs.length := by omega
    subst this
    refine ⟨.inr (P.1, P.2), by rw [iterO_eq, he P], ?_⟩
    rw [List.drop_length]
    exact rfl
  | succ d ih =>
    intro k P hk hP
    have h1 : k < xs.length := by omega
    have h2 : k < ys.length := by omega
    have hv := hx _ (List.getElem_mem h1)
    have hw := hy _ (List.getElem_mem h2)
    rw [List.drop_eq_getElem_cons h1, List.drop_eq_getElem_cons h2]
    unfold pairL
    rw [iterO_eq, hs k P hP h1 h2]
    by_cases hc : (pairM P xs[k] ys[k]).1 = true
    · rw [if_pos hc, if_pos hc]
      exact ih (k + 1) (pairM P xs[k] ys[k]).2 (by omega) (pair_sound hP hv hw).1.ok
    · rw [if_neg hc, if_neg hc]
      exact ⟨_, rfl, rfl, rfl⟩
variable (o : OkHeap h) (o' : OkHeap g)
include o o'
theorem fits_loop : ∀ (d i : Nat) (P : PS), i + d = h.n → PBj h.n g.n P →
    ∃ r, iterO (fun p : Int × List Int × List Int => s0_R06_Pairing_fits_u0 h.Objs h.Cap h.Last g.Objs g.Cap g.Last h.Objs h.Cap h.Last g.Objs g.Cap g.Last p.fst p.snd.fst p.snd.snd) ((i : Int), P.1, P.2) = some r ∧ Comes (fitsF h.vals g.vals h.dat g.dat d i P) r := by
  intro d
  have hn := o.small
  have gn := o'.small
  induction d with
  | zero =>
    intro i P hi hP
    have l1 := hP.l1
    refine ⟨.inr (P.1, P.2), ?_, rfl⟩
    rw [iterO_eq]
    simp only [s0_R06_Pairing_fits_u0]
    rw [if_neg (by omega)]
  | succ d ih =>
    intro i P hi hP
    have l1 := hP.l1
    have l2 := hP.l2
    have hin : i < h.n := by omega
    have hio : i < h.Objs.length := hin
    have hiP : i < P.1.length := by omega
    have e1 : atI P.1 (i : Int) = P.1.getD i 0 := by rw [atI_nat _ i hiP, getD_getI hiP]
    have ei : (i : Int).toNat = i := Int.toNat_natCast i
    unfold fitsF fitI
    rw [iterO_eq]
    simp only [s0_R06_Pairing_fits_u0, e1, ei]
    rw [if_pos (by omega), if_pos (by omega), if_pos hiP, w64_id (by omega) (by omega)]
    by_cases hneg : P.1.getD i 0 < 0
    · rw [if_pos hneg, if_pos hneg]
      exact ih (i + 1) P (by omega) hP
    rw [if_neg hneg, if_neg hneg]
    rcases hP.to i _ (getD_of hiP) with h3 | ⟨k, h3, h4⟩
    · omega
    have hkP := (List.getElem?_eq_some_iff.1 h4).1
    have hk : k < g.n := by omega
    have hko : k < g.Objs.length := hk
    have ek : (P.1.getD i 0).toNat = k := by omega
    have ev : h.vals i = h.Objs[i].Class :: h.Objs[i].Slots := vals_obj h i hio
    have ew : g.vals k = g.Objs[k].Class :: g.Objs[k].Slots := vals_obj g k hko
    have ed : h.dat i = (h.Objs[i].Kind, h.Objs[i].Text, h.Objs[i].Bits, h.Objs[i].Hash) := by unfold GHeap.dat; rw [atN_get _ i hio]; rfl
    have ee : g.dat k = (g.Objs[k].Kind, g.Objs[k].Text, g.Objs[k].Bits, g.Objs[k].Hash) := by unfold GHeap.dat; rw [atN_get _ k hko]; rfl
    have ho := o.objs _ (List.getElem_mem hio)
    have ho' := o'.objs _ (List.getElem_mem hko)
    rw [ek, ev, ew, ed, ee, h3, if_pos (by omega), if_pos (by omega), if_pos hiP, if_pos (by omega), atI_nat h.Objs i hio, atI_nat g.Objs k hko]
    have bad : ∀ (A B : List Int), Comes none (.inl (false, A, B)) := fun A B => ⟨rfl, rfl⟩
    by_cases c1 : h.Objs[i].Kind = g.Objs[k].Kind
    case neg => rw [if_neg c1, if_neg (by simp [c1])]; exact ⟨_, rfl, bad _ _⟩
    by_cases c2 : h.Objs[i].Text = g.Objs[k].Text
    case neg => rw [if_pos c1, if_neg c2, if_neg (by simp [c2])]; exact ⟨_, rfl, bad _ _⟩
    by_cases c3 : h.Objs[i].Bits = g.Objs[k].Bits
    case neg => rw [if_pos c1, if_pos c2, if_neg c3, if_neg (by simp [c3])]; exact ⟨_, rfl, bad _ _⟩
    by_cases c4 : h.Objs[i].Hash = g.Objs[k].Hash
    case neg => rw [if_pos c1, if_pos c2, if_pos c3, if_neg c4, if_neg (by simp [c4])]; exact ⟨_, rfl, bad _ _⟩
    by_cases c5 : h.Objs[i].Slots.length = g.Objs[k].Slots.length
    case neg => rw [if_pos c1, if_pos c2, if_pos c3, if_pos c4, if_neg (by omega), if_neg (by simp [c5])]; exact ⟨_, rfl, bad _ _⟩
    have hcl : hasB h.n h.Objs[i].Class = true := ho.vals _ (List.mem_cons_self ..)
    have hcl' : hasB g.n g.Objs[k].Class = true := ho'.vals _ (List.mem_cons_self ..)
    rw [if_pos c1, if_pos c2, if_pos c3, if_pos c4, if_pos (by omega), if_pos (by simp [c1, c2, c3, c4, c5]), pair_eq1 h g _ _ P hP hcl hcl', ob_some]
    unfold pairL
    by_cases c6 : (pairM P h.Objs[i].Class g.Objs[k].Class).1 = true
    case neg =>
      rw [if_neg c6]
      simp only [Bool.not_eq_true] at c6
      simp only [c6, if_true]
      exact ⟨_, rfl, bad _ _⟩
    have hP' := (pair_sound hP hcl hcl').1.ok
    obtain ⟨r, hr, hc⟩ := pair_loop h g (S := fun p : Int × List Int × List Int => s1_R06_Pairing_fits_u0 (i : Int) h.Objs h.Cap h.Last g.Objs g.Cap g.Last h.Objs[i].Class h.Objs[i].Kind h.Objs[i].Slots h.Objs[i].Text h.Objs[i].Bits h.Objs[i].Hash g.Objs[k].Class g.Objs[k].Kind g.Objs[k].Slots g.Objs[k].Text g.Objs[k].Bits g.Objs[k].Hash h.Objs h.Cap h.Last g.Objs g.Cap g.Last p.fst p.snd.fst p.snd.snd)
      h.Objs[i].Slots g.Objs[k].Slots c5 ho.slots ho'.slots (fun t Q hQ t1 t2 => by
        have hs := ho.nslots
        simp only [s1_R06_Pairing_fits_u0, atI_nat _ t t1, atI_nat _ t t2]
        rw [if_pos (by omega), if_pos (by omega), if_pos (by omega), pair_eq1 h g _ _ Q hQ (ho.slots _ (List.getElem_mem t1)) (ho'.slots _ (List.getElem_mem t2)), ob_some, w64_id (by omega) (by omega)]
        cases (pairM Q h.Objs[i].Slots[t] g.Objs[k].Slots[t]).1 <;> rfl) (fun Q => by
        simp only [s1_R06_Pairing_fits_u0]
        rw [if_neg (by omega)]) h.Objs[i].Slots.length 0 (pairM P h.Objs[i].Class g.Objs[k].Class).2 (by omega) hP'
    simp only [c6, Bool.true_eq_false, if_false, if_true]
    rw [show iterO (fun p : Int × List Int × List Int => s1_R06_Pairing_fits_u0 (i : Int) h.Objs h.Cap h.Last g.Objs g.Cap g.Last h.Objs[i].Class h.Objs[i].Kind h.Objs[i].Slots h.Objs[i].Text h.Objs[i].Bits h.Objs[i].Hash g.Objs[k].Class g.Objs[k].Kind g.Objs[k].Slots g.Objs[k].Text g.Objs[k].Bits g.Objs[k].Hash h.Objs h.Cap h.Last g.Objs g.Cap g.Last p.fst p.snd.fst p.snd.snd) ((0 : Int), (pairM P h.Objs[i].Class g.Objs[k].Class).2.1, (pairM P h.Objs[i].Class g.Objs[k].Class).2.2) = some r from hr, ob_some]
    rw [List.drop_zero, List.drop_zero] at hc
    cases r with
    | inl x =>
      obtain ⟨h5, h6⟩ := hc
      rw [h5]
      exact ⟨_, rfl, rfl, h6⟩
    | inr x =>
      have h5 : pairL h.Objs[i].Slots g.Objs[k].Slots (pairM P h.Objs[i].Class g.Objs[k].Class).2 = some x := hc
      have hPx := (pairL_sound hP' c5 ho.slots ho'.slots h5).1.ok
      rw [h5]
      exact ih (i + 1) x (by omega) hPx
theorem fits_eq (P : PS) (hP : PBj h.n g.n P) : ∃ A B b, F_R06_Pairing_fits_u0 h.Objs h.Cap h.Last g.Objs g.Cap g.Last h.Objs h.Cap h.Last g.Objs g.Cap g.Last P.1 P.2 = some (b, A, B) ∧
    ((b = false ∧ fitsF h.vals g.vals h.dat g.dat h.n 0 P = none) ∨ (b = true ∧ fitsF h.vals g.vals h.dat g.dat h.n 0 P = some (A, B))) := by
  unfold F_R06_Pairing_fits_u0
  obtain ⟨r, hr, hc⟩ := fits_loop h g o o' h.n 0 P (by omega) hP
  rw [show iterO (fun p : Int × List Int × List Int => s0_R06_Pairing_fits_u0 h.Objs h.Cap h.Last g.Objs g.Cap g.Last h.Objs h.Cap h.Last g.Objs g.Cap g.Last p.fst p.snd.fst p.snd.snd) ((0 : Int), P.1, P.2) = some r from hr, ob_some]
  cases r with
  | inl x => exact ⟨_, _, _, rfl, .inl ⟨hc.2, hc.1⟩⟩
  | inr x => exact ⟨_, _, _, rfl, .inr ⟨rfl, hc⟩⟩
theorem rounds_loop : ∀ (d k : Nat) (P : PS), k + d = h.n + 1 → PBj h.n g.n P →
    ∃ r, iterO (fun p : Int × List Int × List Int => s1_R06_Same h.Objs h.Cap h.Last g.Objs g.Cap g.Last p.fst p.snd.fst p.snd.snd) ((k : Int), P.1, P.2) = some r ∧ (r = .inl false ∧ (roundsF h.vals g.vals h.dat g.dat h.n d P).isSome = false ∨ r = .inr () ∧ (roundsF h.vals g.vals h.dat g.dat h.n d P).isSome = true) := by
  intro d
  have hn := o.small
  have en : GHeap.n h = h.Objs.length := rfl
  induction d with
  | zero =>
    intro k P hk _
    refine ⟨.inr (), ?_, .inr ⟨rfl, rfl⟩⟩
    rw [iterO_eq]
    simp only [s1_R06_Same]
    rw [if_neg (by omega)]
  | succ d ih =>
    intro k P hk hP
    obtain ⟨A, B, b, e, hc⟩ := fits_eq h g o o' P hP
    rw [iterO_eq]
    simp only [s1_R06_Same]
    unfold roundsF
    rw [if_pos (by omega), e, ob_some, w64_id (by omega) (by omega)]
    rcases hc with ⟨rfl, hc⟩ | ⟨rfl, hc⟩
    · rw [hc]
      exact ⟨.inl false, rfl, .inl ⟨rfl, rfl⟩⟩
    · rw [hc]
      exact ih (k + 1) (A, B) (by omega) (fitsF_sound o.fits o'.fits h.n 0 hP (by omega) hc).1.ok
end
/-- Cut down to what there is. -/
theorem iso_cut {h g : GHeap} {rs qs : List Int} {R : Nat → Nat → Prop} (o : OkHeap h) (r : Roots h rs) (o' : OkHeap g) (r' : Roots g qs) (h2 : Iso h.vals g.vals h.dat g.dat rs qs R) : SameH h rs g qs := by
  refine ⟨fun i k => R i k ∧ i < h.n ∧ k < g.n, fun _ _ h => h.2, ⟨fun a b => h2.bij.fn a.1 b.1, fun a b => h2.bij.inj a.1 b.1⟩, ?_, ?_⟩
  all_goals
    have one : ∀ {vs ws : List Int}, (∀ v ∈ vs, hasB h.n v = true) → (∀ v ∈ ws, hasB g.n v = true) → L2 (VR R) vs ws → L2 (VR fun i k => R i k ∧ i < h.n ∧ k < g.n) vs ws := fun hv hw hl =>
      hl.mono fun v w h1 h3 hvw => by
        cases hvw with
        | n e => exact .n e
        | r e e' hr => exact .r e e' ⟨hr, hasB_at (hv _ h1) e, hasB_at (hw _ h3) e'⟩
  · exact one r r' h2.roots
  · rintro i k ⟨hr, hi, hk⟩
    exact ⟨(h2.step i k hr).1, one (o.fits i hi) (o'.fits k hk) (h2.step i k hr).2⟩
theorem pairing_same {h g : GHeap} {rs qs : List Int} (o : OkHeap h) (r : rootsB h rs = true) (o' : OkHeap g) (r' : rootsB g qs = true) : pairing h.vals g.vals h.dat g.dat h.n g.n rs qs = sameC h rs g qs := by
  rw [Bool.eq_iff_iff, sameC_same o r o' r', pairing_iso o.fits o'.fits (rootsB_iff.1 r) (rootsB_iff.1 r')]
  constructor
  · rintro ⟨R, hR⟩; exact iso_cut o (rootsB_iff.1 r) o' (rootsB_iff.1 r') hR
  · rintro ⟨R, _, hR⟩; exact ⟨R, hR⟩
theorem R06_Same_eq (x : GHeap) (p : List Int) (y : GHeap) (q : List Int) (hx : Slim x) (bx : BitsR x) (hy : Slim y) (by_ : BitsR y) (hp : p.length ≤ 1048576) (hq : q.length ≤ 1048576) : F_R06_Same x p y q = some (sameC x p y q) := by
  unfold F_R06_Same
  rw [R04_Live_eq x p hx bx (by unfold big; omega), ob_some, R04_Live_eq y q hy by_ (by unfold big; omega), ob_some]
  have no : ∀ (hh : ¬ SameC x p y q), sameC x p y q = false := fun hh => by
    cases e : sameC x p y q with
    | false => rfl
    | true => exact absurd (sameC_iff.1 e) hh
  by_cases h1 : (liveS x p).2 = 0
  case neg =>
    rw [if_neg h1, no fun h => h1 (by rw [← ofS_live]; exact h.1)]
  by_cases h2 : (liveS y q).2 = 0
  case neg =>
    rw [if_pos h1, if_neg h2, no fun h => h2 (by rw [← ofS_live]; exact h.2.1)]
  obtain ⟨o, r⟩ := liveS_zero h1
  obtain ⟨o', r'⟩ := liveS_zero h2
  have hn := o.small
  have hn' := o'.small
  have en : GHeap.n x = x.Objs.length := rfl
  have en' : GHeap.n y = y.Objs.length := rfl
  rw [if_pos h1, if_pos h2, ← pairing_same o r o' r']
  unfold pairing
  by_cases h3 : p.length = q.length
  case neg => rw [if_neg (by omega), decide_eq_false h3]; rfl
  rw [if_pos (by omega), decide_eq_true h3, Bool.true_and, none_eq _ (by omega), ob_some, none_eq _ (by omega), ob_some]
  obtain ⟨s, hs, hc⟩ := pair_loop x y (S := fun p_1 : Int × List Int × List Int => s0_R06_Same p q x.Objs x.Cap x.Last y.Objs y.Cap y.Last p_1.fst p_1.snd.fst p_1.snd.snd) p q h3 (rootsB_iff.1 r) (rootsB_iff.1 r') (fun k P hP k1 k2 => by
    simp only [s0_R06_Same, atI_nat _ k k1, atI_nat _ k k2]
    rw [if_pos (by omega), if_pos (by omega), if_pos (by omega), pair_eq x y _ _ P hP (rootsB_iff.1 r _ (List.getElem_mem k1)) (rootsB_iff.1 r' _ (List.getElem_mem k2)), ob_some, w64_id (by omega) (by omega)]
    cases (pairM P p[k] q[k]).1 <;> rfl) (fun P => by
    simp only [s0_R06_Same]
    rw [if_neg (by omega)]) p.length 0 (none2 x.n y.n) (by omega) (none2_ok _ _)
  rw [show iterO (fun p_1 : Int × List Int × List Int => s0_R06_Same p q x.Objs x.Cap x.Last y.Objs y.Cap y.Last p_1.fst p_1.snd.fst p_1.snd.snd) ((0 : Int), List.replicate x.Objs.length (-1), List.replicate y.Objs.length (-1)) = some s from hs, ob_some]
  rw [List.drop_zero, List.drop_zero] at hc
  cases s with
  | inl a =>
    obtain ⟨h5, h6⟩ := hc
    rw [h5, sm_inl, h6]
  | inr P =>
    have h5 : pairL p q (none2 x.n y.n) = some P := hc
    have hP := (pairL_sound (none2_ok x.n y.n) h3 (rootsB_iff.1 r) (rootsB_iff.1 r') h5).1.ok
    rw [h5, sm_inr]
    obtain ⟨t, ht, hh⟩ := rounds_loop x y o o' (x.n + 1) 0 P (by omega) hP
    rw [show iterO (fun p : Int × List Int × List Int => s1_R06_Same x.Objs x.Cap x.Last y.Objs y.Cap y.Last p.fst p.snd.fst p.snd.snd) ((0 : Int), P.1, P.2) = some t from ht, ob_some]
    rcases hh with ⟨rfl, hh⟩ | ⟨rfl, hh⟩
    · simp only [hh]; rfl
    · simp only [hh]; rfl
end Go.Pv

/- States: the document's sameness. -/
namespace Go.Pv
theorem R15_Same_eq (a b : GState) (ha : Slim a.Heap) (ba : BitsR a.Heap) (hb : Slim b.Heap) (bb : BitsR b.Heap) : F_R15_Same a b = some (sameTB a b) := by
  unfold F_R15_Same
  rw [R15_Check_eq a ha ba, ob_some]
  by_cases o : OkState a
  case neg => rw [if_neg fun e => o (stateE_zero.1 e), sameTB_no fun h => o h.oka]
  rw [if_pos (stateE_zero.2 o), R15_Check_eq b hb bb, ob_some]
  by_cases o' : OkState b
  case neg => rw [if_neg fun e => o' (stateE_zero.1 e), sameTB_no fun h => o' h.okb]
  rw [if_pos (stateE_zero.2 o')]
  by_cases k1 : a.Halt = b.Halt
  case neg => rw [if_neg k1, sameTB_no fun h => k1 h.halt]
  by_cases k2 : a.Steps = b.Steps
  case neg => rw [if_pos k1, if_neg k2, sameTB_no fun h => k2 h.steps]
  by_cases k3 : a.Used = b.Used
  case neg => rw [if_pos k1, if_pos k2, if_neg k3, sameTB_no fun h => k3 h.used]
  rw [if_pos k1, if_pos k2, if_pos k3, R15_Roots_eq a ha ba, ob_some, R15_Roots_eq b hb bb, ob_some, dec_true o, dec_true o', if_pos rfl, if_pos rfl, R06_Same_eq _ _ _ _ ha ba hb bb (by simp [rootsT, firsts]) (by simp [rootsT, firsts]), ob_some, sameC_sameT o o' k1 k2 k3]
end Go.Pv

namespace Go.Pv
open Go Go.Proofs
set_option maxRecDepth 100000
set_option maxHeartbeats 0
set_option linter.unusedSimpArgs false
set_option linter.unusedVariables false
theorem ssame0 (a_0 : List GObj) (a_1 a_2 : Int) (a_3 a_4 a_5 a_6 a_7 : Int) (b_0 : List GObj) (b_1 b_2 : Int) (b_3 b_4 b_5 b_6 b_7 : Int) (g1 : F_R03_Small ({ Objs := a_0, Cap := a_1, Last := a_2 : GHeap }) = some false) :
    cO Try.prog lore 27 [D.agg [D.t (T.sl 6 (els a_0)), I a_1, I a_2, I a_3, I a_4, I a_5, I a_6, I a_7], D.agg [D.t (T.sl 6 (els b_0)), I b_1, I b_2, I b_3, I b_4, I b_5, I b_6, I b_7]] [] = some (.val (Bo true), []) := by
  rw [cO_eq (R := lore) rfl Try.func27 rfl]
  show wrapThen h27.res (endThen Try.prog h27.shr _ (eO Try.prog h27 (cO Try.prog lore) _ _)) = _
  simp (decide := true) (maxSteps := 10000000) [Try.f27, g1]
theorem ssame1 (a_0 : List GObj) (a_1 a_2 : Int) (a_3 a_4 a_5 a_6 a_7 : Int) (b_0 : List GObj) (b_1 b_2 : Int) (b_3 b_4 b_5 b_6 b_7 : Int) (g1 : F_R03_Small ({ Objs := a_0, Cap := a_1, Last := a_2 : GHeap }) = some true) (g2 : F_R03_Small ({ Objs := b_0, Cap := b_1, Last := b_2 : GHeap }) = some false) :
    cO Try.prog lore 27 [D.agg [D.t (T.sl 6 (els a_0)), I a_1, I a_2, I a_3, I a_4, I a_5, I a_6, I a_7], D.agg [D.t (T.sl 6 (els b_0)), I b_1, I b_2, I b_3, I b_4, I b_5, I b_6, I b_7]] [] = some (.val (Bo true), []) := by
  rw [cO_eq (R := lore) rfl Try.func27 rfl]
  show wrapThen h27.res (endThen Try.prog h27.shr _ (eO Try.prog h27 (cO Try.prog lore) _ _)) = _
  simp (decide := true) (maxSteps := 10000000) [Try.f27, g1, g2]
theorem ssame2 (a_0 : List GObj) (a_1 a_2 : Int) (a_3 a_4 a_5 a_6 a_7 : Int) (b_0 : List GObj) (b_1 b_2 : Int) (b_3 b_4 b_5 b_6 b_7 : Int) (g1 : F_R03_Small ({ Objs := a_0, Cap := a_1, Last := a_2 : GHeap }) = some true) (g2 : F_R03_Small ({ Objs := b_0, Cap := b_1, Last := b_2 : GHeap }) = some true) (g3 : ¬ (a_0.length : Int) ≤ 60) :
    cO Try.prog lore 27 [D.agg [D.t (T.sl 6 (els a_0)), I a_1, I a_2, I a_3, I a_4, I a_5, I a_6, I a_7], D.agg [D.t (T.sl 6 (els b_0)), I b_1, I b_2, I b_3, I b_4, I b_5, I b_6, I b_7]] [] = some (.val (Bo true), []) := by
  rw [cO_eq (R := lore) rfl Try.func27 rfl]
  show wrapThen h27.res (endThen Try.prog h27.shr _ (eO Try.prog h27 (cO Try.prog lore) _ _)) = _
  simp (decide := true) (maxSteps := 10000000) [Try.f27, g1, g2, g3]
theorem ssame3 (a_0 : List GObj) (a_1 a_2 : Int) (a_3 a_4 a_5 a_6 a_7 : Int) (b_0 : List GObj) (b_1 b_2 : Int) (b_3 b_4 b_5 b_6 b_7 : Int) (g1 : F_R03_Small ({ Objs := a_0, Cap := a_1, Last := a_2 : GHeap }) = some true) (g2 : F_R03_Small ({ Objs := b_0, Cap := b_1, Last := b_2 : GHeap }) = some true) (g3 : (a_0.length : Int) ≤ 60) (g4 : ¬ (b_0.length : Int) ≤ 60) :
    cO Try.prog lore 27 [D.agg [D.t (T.sl 6 (els a_0)), I a_1, I a_2, I a_3, I a_4, I a_5, I a_6, I a_7], D.agg [D.t (T.sl 6 (els b_0)), I b_1, I b_2, I b_3, I b_4, I b_5, I b_6, I b_7]] [] = some (.val (Bo true), []) := by
  rw [cO_eq (R := lore) rfl Try.func27 rfl]
  show wrapThen h27.res (endThen Try.prog h27.shr _ (eO Try.prog h27 (cO Try.prog lore) _ _)) = _
  simp (decide := true) (maxSteps := 10000000) [Try.f27, g1, g2, g3, g4]
theorem ssameM (a_0 : List GObj) (a_1 a_2 : Int) (a_3 a_4 a_5 a_6 a_7 : Int) (b_0 : List GObj) (b_1 b_2 : Int) (b_3 b_4 b_5 b_6 b_7 : Int) (u : Bool) (g1 : F_R03_Small ({ Objs := a_0, Cap := a_1, Last := a_2 : GHeap }) = some true) (g2 : F_R03_Small ({ Objs := b_0, Cap := b_1, Last := b_2 : GHeap }) = some true) (g3 : (a_0.length : Int) ≤ 60) (g4 : (b_0.length : Int) ≤ 60) (g5 : F_shape_Same ({ Heap := ({ Objs := a_0, Cap := a_1, Last := a_2 : GHeap }), Proc := a_3, Ready := a_4, Halt := a_5, Steps := a_6, Used := a_7 : GState }) ({ Heap := ({ Objs := b_0, Cap := b_1, Last := b_2 : GHeap }), Proc := b_3, Ready := b_4, Halt := b_5, Steps := b_6, Used := b_7 : GState }) = some u) (g6 : F_R15_Same ({ Heap := ({ Objs := a_0, Cap := a_1, Last := a_2 : GHeap }), Proc := a_3, Ready := a_4, Halt := a_5, Steps := a_6, Used := a_7 : GState }) ({ Heap := ({ Objs := b_0, Cap := b_1, Last := b_2 : GHeap }), Proc := b_3, Ready := b_4, Halt := b_5, Steps := b_6, Used := b_7 : GState }) = some u) :
    cO Try.prog lore 27 [D.agg [D.t (T.sl 6 (els a_0)), I a_1, I a_2, I a_3, I a_4, I a_5, I a_6, I a_7], D.agg [D.t (T.sl 6 (els b_0)), I b_1, I b_2, I b_3, I b_4, I b_5, I b_6, I b_7]] [] = some (.val (Bo true), []) := by
  rw [cO_eq (R := lore) rfl Try.func27 rfl]
  show wrapThen h27.res (endThen Try.prog h27.shr _ (eO Try.prog h27 (cO Try.prog lore) _ _)) = _
  simp (decide := true) (maxSteps := 10000000) [Try.f27, g1, g2, g3, g4, g5, g6]
end Go.Pv

/- States: sameness. -/
namespace Go.Pv
open Go Go.Proofs
theorem shapeSame (a b : GState) (ha : Slim a.Heap) (ba : BitsR a.Heap) (hb : Slim b.Heap) (bb : BitsR b.Heap) : cO Try.prog lore 27 [stateD a, stateD b] [] = some (.val (Bo true), []) := by
  obtain ⟨x, e1⟩ := R03_Small_ex a.Heap ha.1
  cases x with
  | false => exact ssame0 _ _ _ _ _ _ _ _ _ _ _ _ _ _ _ _ e1
  | true =>
  obtain ⟨x, e2⟩ := R03_Small_ex b.Heap hb.1
  cases x with
  | false => exact ssame1 _ _ _ _ _ _ _ _ _ _ _ _ _ _ _ _ e1 e2
  | true =>
  by_cases h1 : (a.Heap.Objs.length : Int) ≤ 60
  case neg => exact ssame2 _ _ _ _ _ _ _ _ _ _ _ _ _ _ _ _ e1 e2 h1
  by_cases h2 : (b.Heap.Objs.length : Int) ≤ 60
  case neg => exact ssame3 _ _ _ _ _ _ _ _ _ _ _ _ _ _ _ _ e1 e2 h1 h2
  exact ssameM _ _ _ _ _ _ _ _ _ _ _ _ _ _ _ _ (sameTB a b) e1 e2 h1 h2 (shape_Same_eq a b ha hb) (R15_Same_eq a b ha ba hb bb)
end Go.Pv

/- The law, of data. -/
namespace Go.Pv
open Go Go.Proofs
theorem law_shapeSame (x : shsT.den) (hx : shsT.wf x) (hk : shsT.bulk x ≤ 1048576) : cO Try.prog lore 27 (argDs shsT x) [] = some (.val (Bo true), []) := by
  obtain ⟨s, t, u⟩ := x
  have h3 : stateT.bulk s + (stateT.bulk t + 0) ≤ 1048576 := hk
  obtain ⟨a1, a2⟩ := state_small s hx.1 (by omega)
  obtain ⟨b1, b2⟩ := state_small t hx.2.1 (by omega)
  exact cs2 (argD_state s) (argD_state t) (shapeSame _ _ a1 a2 b1 b2)
end Go.Pv
