/- A part of the road: the interpreter of plain data and the proof that it is right. -/
import Derived.Test.YtakdpnelbnbkgaaF
import Derived.Test.YtakdpnelbnbkgaaJ
import Derived.Test.YtakdpnelbnbkgaaM
import Derived.Test.YtakdpnelbnbkgaaP
set_option linter.unusedVariables false
set_option linter.unusedSimpArgs false
/- The document's reader and the program's: alike where both say that all is well. -/
namespace Go.Pv
open Go Go.Pv.Bs
theorem takeR_of {n : Int} {s t r : ByteArray} (h : takeB n s = some (t, r)) : takeR n s false = (t, r, false) := by
  unfold takeB at h
  split at h
  · rename_i h1
    cases h
    unfold takeR
    rw [if_neg]
    rintro (h | h | h)
    · cases h
    · omega
    · omega
  · cases h
theorem numR_of {s r : ByteArray} {n : Int} (h : numB s = some (n, r)) : numR s false = (n, r, false) := by
  unfold numB at h
  split at h
  · rename_i t r' ht
    cases h
    have hd := (takeB_data ht).1
    have hv := valN_lt (nbs t) (nbs_lt t)
    rw [nbs_length, show t.size = 4 by omega] at hv
    unfold numR
    rw [takeR_of ht]
    dsimp only
    have hp : plainV t = (valN (nbs t) : Int) := by
      unfold plainV
      rw [w64_id (by omega) (by omega)]
    rw [hp]
    refine Prod.ext ?_ rfl
    dsimp only
    generalize valN (nbs t) = v at hv
    simp only [IntKind.wrap, IntKind.signed, IntKind.bits]
    simp
    split <;> split <;> omega
  · cases h
theorem manyR_of {α : Type} {f : ByteArray → Option (α × ByteArray)} {g : ByteArray → Bool → α × ByteArray × Bool} (hf : ∀ s x r, f s = some (x, r) → g s false = (x, r, false)) :
    ∀ (n : Nat) (s r : ByteArray) (l : List α), manyB f n s = some (l, r) → manyR g n s false = (l, r, false)
  | 0, s, r, l, h => by cases h; rfl
  | n + 1, s, r, l, h => by
    rw [manyB] at h
    split at h
    · cases h
    · rename_i x r1 h1
      split at h
      · cases h
      · rename_i l' r2 h2
        cases h
        rw [manyR, if_neg (by simp), hf _ _ _ h1]
        dsimp only
        rw [manyR_of hf n _ _ _ h2]
theorem cntR_of {k : Nat} {s r : ByteArray} {n : Nat} (h : cntB k s = some (n, r)) : numR s false = ((n : Int), r, false) := by
  unfold cntB at h
  split at h
  · rename_i m r' h'
    split at h
    · rename_i hm
      cases h
      rw [numR_of h', Int.toNat_of_nonneg hm.1]
    · cases h
  · cases h
theorem listR_of {s r : ByteArray} {l : List Int} (h : listB s = some (l, r)) : listR s false = (l, r, false) := by
  unfold listB at h
  split at h
  · rename_i n r1 h1
    unfold listR
    rw [cntR_of h1]
    dsimp only
    rw [Int.toNat_natCast, show (false || decide ((n : Int) < 0)) = false by simp]
    exact manyR_of (fun s x r e => numR_of e) _ _ _ _ h
  · cases h
theorem bitsR_of {s r : ByteArray} {b : Int} (h : bitsB s = some (b, r)) : ∃ t, takeR 8 s false = (t, r, false) ∧ plainV t = b := by
  unfold bitsB at h
  split at h
  · rename_i t r' ht
    cases h
    exact ⟨t, takeR_of ht, (wrap_w64 _).symm⟩
  · cases h
theorem objQ_of {s r : ByteArray} {o : GObj} (h : objR s = some (o, r)) : objQ s false = (o, r, false) := by
  unfold objR at h
  split at h
  · cases h
  · rename_i c s1 h1
    split at h
    · cases h
    · rename_i k s2 h2
      split at h
      · cases h
      · rename_i hh s3 h3
        unfold objQ
        rw [numR_of h1]
        dsimp only
        rw [numR_of h2]
        dsimp only
        rw [numR_of h3]
        dsimp only
        split at h
        · rename_i e0
          rw [if_pos e0]
          split at h
          · cases h
          · rename_i l r' h4
            cases h
            rw [listR_of h4]
            rfl
        · rename_i e0
          rw [if_neg e0]
          split at h
          · rename_i e1
            rw [if_pos e1]
            split at h
            · cases h
            · rename_i n s4 h4
              split at h
              · cases h
              · rename_i t r' h5
                cases h
                rw [numR_of h4]
                dsimp only
                rw [takeR_of h5]
          · rename_i e1
            rw [if_neg e1]
            split at h
            · rename_i e2
              rw [if_pos e2]
              split at h
              · cases h
              · rename_i b r' h4
                cases h
                obtain ⟨t, ht, hb⟩ := bitsR_of h4
                rw [ht, ← hb]
                rfl
            · rename_i e2
              rw [if_neg e2]
              cases h
              rfl
theorem decQ_eq (s : ByteArray) (hs : s.size ≤ big) : decQ s = decP s := by
  unfold decQ
  by_cases h1 : s.size < 23
  · unfold decP; rw [if_pos h1, if_pos h1]
  rw [if_neg h1]
  by_cases h2 : sumT (s.extract 0 (s.size - 4)) = s.extract (s.size - 4) s.size
  · rw [if_pos h2]
    cases hr : readP (s.extract 0 (s.size - 4)) with
    | some p =>
      obtain ⟨h, r⟩ := p
      have hP : decP s = if encP h r = s then (h, r, 0) else (noH, [], 82) := by
        unfold decP; rw [if_neg h1, if_pos h2, hr]
      rw [hP]
      unfold readP at hr
      split at hr
      · cases hr
      · rename_i m s0 g0
        split at hr
        · split at hr
          · cases hr
          · rename_i c s1 g1
            split at hr
            · cases hr
            · rename_i l s2 g2
              split at hr
              · cases hr
              · rename_i n s3 g3
                split at hr
                · cases hr
                · rename_i os s4 g4
                  split at hr
                  · cases hr
                  · rename_i r' s5 g5
                    split at hr
                    · cases hr
                      rw [takeR_of g0]
                      dsimp only
                      rw [numR_of g1]
                      dsimp only
                      rw [numR_of g2]
                      dsimp only
                      rw [cntR_of g3]
                      dsimp only
                      rw [Int.toNat_natCast, manyR_of (fun s x r e => objQ_of e) _ _ _ _ g4]
                      dsimp only
                      rw [listR_of g5]
                      dsimp only
                      by_cases he : encP ⟨os, c, l⟩ r = s
                      · rw [if_neg (by rintro (h | h); cases h; exact h he), if_pos he]
                      · rw [if_pos (.inr he), if_neg he]
                    · cases hr
        · cases hr
    | none =>
      have hP : decP s = (noH, [], 82) := by
        unfold decP; rw [if_neg h1, if_pos h2, hr]
      rw [hP]
      have hz : (s.extract 0 (s.size - 4)).size ≤ big := by rw [ByteArray.size_extract]; unfold big at *; omega
      obtain ⟨_, zt, _⟩ := takeR_size 3 (s.extract 0 (s.size - 4)) false
      generalize takeR 3 (s.extract 0 (s.size - 4)) false = x at zt ⊢
      obtain ⟨m, s0, b0⟩ := x
      dsimp only at zt ⊢
      obtain ⟨z1, _⟩ := numR_size s0 b0
      generalize numR s0 b0 = x at z1 ⊢
      obtain ⟨cap, s1, b1⟩ := x
      dsimp only at z1 ⊢
      obtain ⟨z2, _⟩ := numR_size s1 b1
      generalize numR s1 b1 = x at z2 ⊢
      obtain ⟨last, s2, b2⟩ := x
      dsimp only at z2 ⊢
      obtain ⟨z3, _⟩ := numR_size s2 b2
      generalize numR s2 b2 = x at z3 ⊢
      obtain ⟨n, s3, b3⟩ := x
      dsimp only at z3 ⊢
      obtain ⟨p1, _⟩ := manyR_size (f := objQ) (Q := FitO) (k := 12) (B := big) (fun s b hb => objQ_size s b hb) n.toNat s3 b3 (by omega)
      generalize manyR objQ n.toNat s3 b3 = x at p1 ⊢
      obtain ⟨os, s4, b4⟩ := x
      dsimp only at p1 ⊢
      generalize listR s4 b4 = x
      obtain ⟨r, s5, b5⟩ := x
      dsimp only
      by_cases hq : b5 = true ∨ encP ⟨os, cap, last⟩ r ≠ s
      · rw [if_pos hq]
      · exfalso
        have he : encP ⟨os, cap, last⟩ r = s := Decidable.not_not.1 fun e => hq (.inr e)
        have hm : mayP ⟨os, cap, last⟩ r = true := by
          by_cases hm : mayP ⟨os, cap, last⟩ r = true
          · exact hm
          · rw [encP_not hm] at he
            rw [← he] at h1
            exact absurd (by decide : ByteArray.empty.size < 23) h1
        have hd := dec_enc hm (fun o ho => (p1 o ho).2)
        rw [he, hP] at hd
        have hd' : (82 : Int) = 0 := congrArg (fun p => p.2.2) hd
        omega
  · rw [if_neg h2]
    unfold decP; rw [if_neg h1, if_neg h2]
end Go.Pv

/- SnapTells: told of data. -/
namespace Go.Pv
open Go Go.Proofs
theorem dec_law : DecLaw := fun s hs W => by
  have h := decode_q enc_law s hs W
  rw [decQ_eq s hs] at h
  refine h.mono ?_
  rintro e W' ⟨hb, u, rv, rfl, hO, hI⟩
  exact ⟨u, rv, rfl, hb, hO.rt.mono fun _ _ _ => ⟨trivial, rfl⟩, hI.rt.mono fun _ _ _ => ⟨trivial, rfl⟩⟩
open Classical in
noncomputable def tellsS (ds : List D) : Option D :=
  if ∃ (h : GHeap) (r : List Int) (s : ByteArray), ds = [hpD h, .t (.sl 1 (els r)), .t (.sc (.string s))] ∧ Slim h ∧ BitsR h ∧ r.length ≤ big ∧ s.size ≤ big then some (Bo true) else none
theorem args3d {B fr : Nat} {G : Gh} {w : World} {vs : Array Value} {a b c : D} (hlen : vs.size = 3)
    (hargs : ∀ (i : Nat) u d, vs[i]? = some u → [a, b, c][i]? = some d → d.hasOwn = false ∧ VD B fr G vr0 w (.pn fr i []) u d) : ∃ u v x, vs = #[u, v, x] ∧ VD B fr G vr0 w (.pn fr 0 []) u a ∧ VD B fr G vr0 w (.pn fr 1 []) v b ∧ VD B fr G vr0 w (.pn fr 2 []) x c := by
  obtain ⟨vs⟩ := vs
  match vs, hlen with
  | [x, y, z], _ => exact ⟨x, y, z, rfl, (hargs 0 x _ rfl rfl).2, (hargs 1 y _ rfl rfl).2, (hargs 2 z _ rfl rfl).2⟩
theorem tells_told : TellsP 3 tellsS := by
  intro ds d hs B G frs w vs F hlen hargs
  unfold tellsS at hs
  split at hs
  · rename_i hx
    cases hs
    obtain ⟨h, r, s, rfl, a1, a2, a3, a4⟩ := hx
    obtain ⟨u, v, z, rfl, hu, hv, hz⟩ := args3d hlen hargs
    obtain ⟨u0, rfl, H⟩ := heap_data hu
    have hv := VD.data hv
    have hz := hz.sc
    subst hz
    refine ⟨rfl, (tells_walk dec_law u0 v h r s w H hv a1 a2 a3 a4).mono ?_⟩
    rintro e w' ⟨rfl, hbw⟩
    obtain ⟨F', S'⟩ := frs_below F hbw
    exact ⟨_, G, rfl, F', S', VD.scal rfl⟩
  · cases hs
noncomputable def loreT : Lore := ⟨fun _ => {}, fun
  | 3 => some (plainT tellsS)
  | _ => none⟩
theorem toldT : ToldOk Try.prog loreT.told := by
  intro f s h
  unfold loreT at h
  simp only at h
  split at h
  · cases h; exact plain_ok tells_told
  · cases h
theorem tells_D (h : GHeap) (r : List Int) (s : ByteArray) (a1 : Slim h) (a2 : BitsR h) (hr : r.length ≤ big) (hs : s.size ≤ big) : cO Try.prog loreT 3 [hpD h, .t (.sl 1 (els r)), .t (.sc (.string s))] [] = some (.val (Bo true), []) := by
  rw [cO_told (s := tellsS) rfl]
  have e : tellsS [hpD h, .t (.sl 1 (els r)), .t (.sc (.string s))] = some (Bo true) := by
    unfold tellsS
    rw [if_pos ⟨h, r, s, rfl, a1, a2, hr, hs⟩]
  show wrapThen _ ((tellsS [hpD h, .t (.sl 1 (els r)), .t (.sc (.string s))]).map _) = _
  rw [e]
  rfl
abbrev stellsT : Ty := .pair heapT (.pair (.sl iT) (.pair .str .unit))
theorem bigOf {n : Nat} (h : n ≤ 1048576) : n ≤ big := by unfold big; omega
theorem law_snapTells (x : stellsT.den) (hx : stellsT.wf x) (hk : stellsT.bulk x ≤ 1048576) : cO Try.prog loreT 3 (argDs stellsT x) [] = some (.val (Bo true), []) := by
  obtain ⟨h, r, s, u⟩ := x
  have h3 : heapT.bulk h + ((Ty.sl iT).bulk r + ((ByteArray.size s + 1) + 0)) ≤ 1048576 := hk
  obtain ⟨a1, a2⟩ := heap_slim h hx.1 (by omega)
  have r1 := ints_len r (by omega)
  show cO Try.prog loreT 3 [argD heapT h, argD (.sl iT) r, .t (.sc (.string s))] [] = _
  rw [argD_heap, argD_ints]
  exact tells_D (toHeap h) r s a1 a2 (bigOf r1) (bigOf (show ByteArray.size s ≤ 1048576 by omega))
end Go.Pv
