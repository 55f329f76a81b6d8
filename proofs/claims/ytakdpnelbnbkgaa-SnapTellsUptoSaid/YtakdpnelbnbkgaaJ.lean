/- A part of the road: the interpreter of plain data and the proof that it is right. -/
import Derived.Test.YtakdpnelbnbkgaaE
set_option linter.unusedVariables false
set_option linter.unusedSimpArgs false
/- The document's writer, in plain words. -/
namespace Go.Pv
open Go Go.Pv.Bs
theorem enc_size2 {h : GHeap} {r : List Int} (hm : mayP h r = true) : (encP h r).size = (bodyB h r).length + 4 := by
  rw [encP_may hm, ofL_size, List.length_append, sumB_len]
theorem enc_big2 {h : GHeap} {r : List Int} (hm : mayP h r = true) : (encP h r).size ≤ big := by
  rw [enc_size2 hm]
  obtain ⟨ok, hr, _⟩ := mayP_iff.1 hm
  have k1 := ok.cap; have k2 := ok.len
  have key : ∀ l : List GObj, (∀ o ∈ l, OkObj h.Objs.length o) → (l.flatMap objB).length ≤ 400 * l.length := by
    intro l
    induction l with
    | nil => intro _; simp
    | cons a l ih =>
      intro hl
      have h1 := objB_len (hl a (List.mem_cons_self ..))
      have h2 := (hl a (List.mem_cons_self ..)).nslots
      have h3 := (hl a (List.mem_cons_self ..)).ntext
      have h4 := ih fun o ho => hl o (List.mem_cons_of_mem _ ho)
      rw [List.flatMap_cons, List.length_append, List.length_cons, h1]
      split <;> omega
  have := key h.Objs ok.objs
  unfold bodyB
  simp only [List.length_append, leB_len, lstB_len, List.length_cons, List.length_nil]
  unfold big
  omega
theorem bAnd_32 (v : Int) : bAnd .i64 v 4294967295 = v % 4294967296 := by
  have h : (BitVec.ofInt IntKind.i64.bits v &&& BitVec.ofInt IntKind.i64.bits 4294967295).toNat = (v % 4294967296).toNat := by
    show (BitVec.ofInt 64 v &&& BitVec.ofInt 64 4294967295).toNat = _
    rw [BitVec.toNat_and, BitVec.toNat_ofInt, BitVec.toNat_ofInt]
    show (v % ((2 ^ 64 : Nat) : Int)).toNat &&& (2 ^ 32 - 1) = _
    rw [Nat.and_two_pow_sub_one_eq_mod]
    omega
  unfold bAnd
  rw [h, wrap_w64, w64_id (by omega) (by omega)]
  omega
theorem iShr_32 (v : Int) : iShr .i64 v 32 = v / 4294967296 := by
  show v.fdiv (2 ^ (min (32 : Int).toNat 64)) = v / 4294967296
  rw [show (2 : Int) ^ (min (32 : Int).toNat 64) = 4294967296 from rfl, Int.fdiv_eq_ediv_of_nonneg _ (by omega)]
theorem leB_mod (n : Int) : leB 4 (n % 4294967296) = leB 4 n := by
  simp only [leB, Int.ediv_ediv_of_nonneg (show (0 : Int) ≤ 256 by omega)]
  simp only [List.cons.injEq, and_true]
  refine ⟨?_, ?_, ?_, ?_⟩ <;> congr 2 <;> omega
theorem leB_8 (n : Int) : leB 8 n = leB 4 n ++ leB 4 (n / 4294967296) := by
  have e : n / 4294967296 = n / 256 / 256 / 256 / 256 := by omega
  rw [e]
  rfl
theorem R08_num_eq (n : Int) : F_R08_num n = some (bytesOfL (leB 4 n)) := by
  unfold F_R08_num
  have h := R07_Bytes_eq (BitVec.ofInt 32 n)
  rw [BitVec.toNat_ofInt] at h
  have e : (((n % ((2 ^ 32 : Nat) : Int)).toNat : Nat) : Int) = n % 4294967296 := by
    show (((n % 4294967296).toNat : Nat) : Int) = _
    omega
  rw [e] at h
  rw [bAnd_32, h, ob_some, leB_mod]
theorem ofL_app (a b : List UInt8) : bytesOfL a ++ bytesOfL b = bytesOfL (a ++ b) := by
  apply ByteArray.ext
  apply Array.ext'
  rw [ByteArray.data_append]
  simp [bytesOfL]
theorem cat_loop {α : Type} (N : Nat) (l : List α) (f : α → List UInt8) (S : ByteArray × Int → Option (ByteArray × Int ⊕ ByteArray))
    (hS : ∀ acc (k : Nat) (hk : k < l.length), acc.length + (f l[k]).length ≤ N → S (bytesOfL acc, (k : Int)) = some (.inl (bytesOfL (acc ++ f l[k]), ((k + 1 : Nat) : Int))))
    (hE : ∀ acc, S (bytesOfL acc, (l.length : Int)) = some (.inr (bytesOfL acc))) :
    ∀ (m k : Nat) (acc : List UInt8), k + m = l.length → acc.length + ((l.drop k).flatMap f).length ≤ N → iterO S (bytesOfL acc, (k : Int)) = some (bytesOfL (acc ++ (l.drop k).flatMap f)) := by
  intro m
  induction m with
  | zero =>
    intro k acc hk _
    have : k = l.length := by omega
    subst this
    rw [iterO_stop (hE acc), List.drop_eq_nil_of_le (Nat.le_refl _)]
    simp
  | succ m ih =>
    intro k acc hk hN
    have hlt : k < l.length := by omega
    rw [List.drop_eq_getElem_cons hlt, List.flatMap_cons, List.length_append] at hN
    rw [iterO_step (hS acc k hlt (by omega)), ih (k + 1) _ (by omega) (by rw [List.length_append]; omega), List.drop_eq_getElem_cons hlt, List.flatMap_cons, List.append_assoc]
theorem flat4 (l : List Int) : (l.flatMap (leB 4)).length = 4 * l.length := by
  induction l with
  | nil => rfl
  | cons a l ih => rw [List.flatMap_cons, List.length_append, leB_len, ih, List.length_cons]; omega
theorem R08_list_eq (l : List Int) (hl : l.length ≤ big) : F_R08_list l = some (bytesOfL (lstB l)) := by
  unfold big at hl
  unfold F_R08_list
  rw [R08_num_eq, ob_some]
  have h := cat_loop 9007199254740992 l (leB 4) (fun p => s0_R08_list l p.fst p.snd) (fun acc k hk hN => by
    simp only [s0_R08_list, atI_nat _ k hk]
    rw [leB_len] at hN
    have e : w64 ((k : Int) + 1) = ((k + 1 : Nat) : Int) := by rw [w64_id] <;> omega
    rw [if_pos (by omega), if_pos (by omega), R08_num_eq, ob_some, if_neg (by rw [ofL_size, ofL_size, leB_len]; omega), ofL_app, e]) (fun acc => by simp [s0_R08_list]) l.length 0 (leB 4 (l.length : Int)) (by omega) (by rw [leB_len, List.drop_zero, flat4]; omega)
  rw [List.drop_zero] at h
  rw [show ((0 : Nat) : Int) = 0 from rfl] at h
  rw [h, ob_some]
  rfl
theorem R08_object_eq {n : Nat} {o : GObj} (h : OkObj n o) : F_R08_object o = some (bytesOfL (objB o)) := by
  have k1 := h.kind
  have k2 := h.nslots
  have k3 := h.ntext
  have sz : ∀ n : Int, (bytesOfL (leB 4 n)).size = 4 := fun n => by rw [ofL_size, leB_len]
  unfold F_R08_object objB
  rw [R08_num_eq, ob_some, R08_num_eq, ob_some, if_neg (by rw [sz, sz]; omega), R08_num_eq, ob_some, if_neg (by rw [sz, sz, sz]; omega)]
  by_cases e0 : o.Kind = 0
  · have hz : (bytesOfL (lstB o.Slots)).size = 4 + 4 * o.Slots.length := by rw [ofL_size, lstB_len]
    rw [if_pos e0, if_pos e0, R08_list_eq _ (by unfold big; omega), ob_some, if_neg (by rw [sz, sz, sz, hz]; omega), ofL_app, ofL_app, ofL_app]
    simp only [List.append_assoc]
  · rw [if_neg e0, if_neg e0]
    by_cases e1 : o.Kind = 1
    · have ht : o.Text = bytesOfL o.Text.data.toList := rfl
      rw [if_pos e1, if_pos e1, R08_num_eq, ob_some, if_neg (by rw [sz, sz, sz, sz]; omega), if_neg (by rw [sz, sz, sz, sz]; omega)]
      refine congrArg some ?_
      conv => lhs; rw [ht]
      rw [ofL_app, ofL_app, ofL_app, ofL_app]
      simp only [List.append_assoc]
      rfl
    · have e2 : o.Kind = 2 := by omega
      rw [if_neg e1, if_neg e1, if_pos e2, R08_num_eq, ob_some, if_neg (by rw [sz, sz, sz, sz]; omega), iShr_32, R08_num_eq, ob_some, if_neg (by rw [sz, sz, sz, sz, sz]; omega), ofL_app, ofL_app, ofL_app, ofL_app, leB_8]
      simp only [List.append_assoc]
theorem R08_Encode_eq (h : GHeap) (r : List Int) (hs : Slim h) (hb : BitsR h) (hr : r.length ≤ big) : F_R08_Encode h r = some (encP h r) := by
  unfold F_R08_Encode
  rw [R08_May_eq h r hs hb hr, ob_some]
  by_cases hm : mayP h r = true
  · rw [if_neg (by rw [hm]; simp)]
    have hbig : (encP h r).size ≤ big := enc_big2 hm
    rw [encP_may hm, ofL_size, List.length_append, sumB_len] at hbig
    rw [encP_may hm]
    have hbb : (bodyB h r).length ≤ 1099511627776 := by unfold big at hbig; omega
    have hbl := hbb
    unfold bodyB at hbl
    simp only [List.length_append, leB_len, lstB_len, List.length_cons, List.length_nil] at hbl
    obtain ⟨ok, h64, _⟩ := mayP_iff.1 hm
    have k1 := ok.cap
    have k2 := ok.len
    have sz : ∀ n : Int, (bytesOfL (leB 4 n)).size = 4 := fun n => by rw [ofL_size, leB_len]
    have s3 : (⟨#[65, 78, 49]⟩ : ByteArray).size = 3 := rfl
    have m3 : (⟨#[65, 78, 49]⟩ : ByteArray) = bytesOfL [65, 78, 49] := rfl
    rw [R08_num_eq, ob_some, if_neg (by rw [sz, s3]; omega), R08_num_eq, ob_some, if_neg (by rw [sz, sz, s3]; omega), R08_num_eq, ob_some, if_neg (by rw [sz, sz, sz, s3]; omega)]
    have hl := cat_loop 9007199254740992 h.Objs objB (fun p => s0_R08_Encode r h.Objs h.Cap h.Last p.fst p.snd) (fun acc k hk hN => by
      simp only [s0_R08_Encode, atI_nat _ k hk]
      have e : w64 ((k : Int) + 1) = ((k + 1 : Nat) : Int) := by rw [w64_id] <;> omega
      have eo : F_R08_object ⟨h.Objs[k].Class, h.Objs[k].Kind, h.Objs[k].Slots, h.Objs[k].Text, h.Objs[k].Bits, h.Objs[k].Hash⟩ = some (bytesOfL (objB h.Objs[k])) := R08_object_eq (ok.objs _ (List.getElem_mem hk))
      rw [if_pos (by omega), if_pos (by omega), eo, ob_some, if_neg (by rw [ofL_size, ofL_size]; omega), ofL_app, e]) (fun acc => by simp [s0_R08_Encode]) h.Objs.length 0 ([65, 78, 49] ++ leB 4 h.Cap ++ leB 4 h.Last ++ leB 4 (h.Objs.length : Int)) (by omega) (by simp only [List.length_append, leB_len, List.drop_zero, List.length_cons, List.length_nil]; omega)
    rw [List.drop_zero, show ((0 : Nat) : Int) = 0 from rfl] at hl
    rw [m3, ofL_app, ofL_app, ofL_app, hl, ob_some, R08_list_eq r hr, ob_some]
    have eb : ([65, 78, 49] ++ leB 4 h.Cap ++ leB 4 h.Last ++ leB 4 (h.Objs.length : Int) ++ h.Objs.flatMap objB) ++ lstB r = bodyB h r := by unfold bodyB; simp only [List.append_assoc]
    have el : ([65, 78, 49] ++ leB 4 h.Cap ++ leB 4 h.Last ++ leB 4 (h.Objs.length : Int) ++ h.Objs.flatMap objB).length + (lstB r).length = (bodyB h r).length := by rw [← eb, List.length_append (bs := lstB r)]
    rw [if_neg (by rw [ofL_size, ofL_size]; omega), ofL_app, eb, R07_Of_eq _ (by rw [ofL_size]; unfold big; omega), ob_some, R07_Bytes_eq, ob_some, if_neg (by rw [ofL_size, ofL_size, ofL_size, leB_len]; omega), ofL_app]
    rfl
  · rw [if_pos (by simpa using hm), encP_not hm]
    rfl
end Go.Pv

/- The document's writer, called. -/
namespace Go.Pv
open Go Go.Proofs Go.RowKit Go.Pv.Bs
theorem enc_law : EncLaw := fun B W u rv h r hB hs hb hr hu hv => by
  obtain ⟨os, cap, last⟩ := h
  have g := f_R08_Encode os cap last r
  rw [R08_Encode_eq _ r hs hb hr, ob_some] at g
  have r0 : RT gAll.sh W u (.sl 6 (els os)) := hu.rt.mono fun b hb hl => ⟨rfl, rfl⟩
  have r1 : RT gAll.sh W rv (.sl 1 (els r)) := hv.rt.mono fun b hb hl => ⟨rfl, rfl⟩
  refine (call_data goodL g rfl (fun i x d hx hd => ?_)).mono ?_
  · match i, hx, hd with
    | 0, hx, hd =>
      cases hx; cases hd
      refine ⟨rfl, .agg _ _ _ rfl ?_ ?_⟩
      · intro x hx
        simp at hx
        rcases hx with rfl | rfl | rfl
        · exact r0.one
        · rfl
        · rfl
      · intro j x d hx hd
        match j, hx, hd with
        | 0, hx, hd => cases hx; cases hd; exact .t _ _ _ r0
        | 1, hx, hd => cases hx; cases hd; exact .t _ _ _ (.sc _ rfl)
        | 2, hx, hd => cases hx; cases hd; exact .t _ _ _ (.sc _ rfl)
        | j + 3, hx, hd => simp at hd
    | 1, hx, hd => cases hx; cases hd; exact ⟨rfl, .t _ _ _ r1⟩
    | i + 2, hx, hd => simp at hd
  · rintro e w' ⟨v, G', rfl, hb, hv⟩
    exact ⟨by rw [hv.sc], hb⟩
end Go.Pv

/- SnapTells: what its calls answer. -/
namespace Go.Pv
open Go Go.Proofs Go.RowKit Go.Pv.Bs
set_option linter.unusedVariables false
set_option linter.unusedSimpArgs false
abbrev hpV (u : Value) (h : GHeap) : Value := .agg #[u, .int .i64 h.Cap, .int .i64 h.Last]
abbrev HA (W : World) (u : Value) (h : GHeap) : Prop := RA W u (.sl 6 (els h.Objs))
abbrev IA (W : World) (v : Value) (r : List Int) : Prop := RA W v (.sl 1 (els r))
theorem hp_vd {B fr : Nat} {vr : Pl → Nat} {W : World} {p : Ap} {u : Value} {h : GHeap} (H : HA W u h) : VD B fr gAll vr W p (hpV u h) (.agg [.t (.sl 6 (els h.Objs)), I h.Cap, I h.Last]) := by
  refine .agg _ _ _ rfl ?_ ?_
  · intro x hx
    simp at hx
    rcases hx with rfl | rfl | rfl
    · exact RT.one H
    · rfl
    · rfl
  · intro j x d hx hd
    match j, hx, hd with
    | 0, hx, hd => cases hx; cases hd; exact RA.vd H
    | 1, hx, hd => cases hx; cases hd; exact .t _ _ _ (.sc _ rfl)
    | 2, hx, hd => cases hx; cases hd; exact .t _ _ _ (.sc _ rfl)
    | j + 3, hx, hd => simp at hd
theorem small_c {W : World} {u : Value} {h : GHeap} {b : Bool} (H : HA W u h) (e : F_R03_Small h = some b) : Calls Try.prog 8 #[hpV u h] W fun e W' => e = .returned (.bool b) ∧ Below W.heap.size W W' := by
  have g := f_R03_Small h.Objs h.Cap h.Last
  rw [show ({ Objs := h.Objs, Cap := h.Cap, Last := h.Last : GHeap }) = h from rfl, e, ob_some] at g
  refine (call_data goodL g rfl (fun i x d hx hd => ?_)).mono ?_
  · match i, hx, hd with
    | 0, hx, hd => cases hx; cases hd; exact ⟨rfl, hp_vd H⟩
    | i + 1, hx, hd => simp at hd
  · rintro e w' ⟨v, G', rfl, hb, hv⟩
    exact ⟨by rw [hv.sc], hb⟩
theorem fixed_c (W : World) : Calls Try.prog 9 #[] W fun e W' => e = .returned (.bool true) ∧ Below W.heap.size W W' := by
  have g := f_L08_fixed
  rw [fixed_eq, ob_some] at g
  refine (call_data goodL g rfl (fun i x d hx hd => by simp at hd)).mono ?_
  rintro e w' ⟨v, G', rfl, hb, hv⟩
  exact ⟨by rw [hv.sc], hb⟩
theorem enc_c {W : World} {u v : Value} {h : GHeap} {r : List Int} (H : HA W u h) (I : IA W v r) (hs : Slim h) (hr : r.length ≤ big) : Calls Try.prog 12 #[hpV u h, v] W fun e W' => e = .returned (.string (encP h r)) ∧ Below W.heap.size W W' := by
  have g := f_snap_Encode h.Objs h.Cap h.Last r []
  rw [show ({ Objs := h.Objs, Cap := h.Cap, Last := h.Last : GHeap }) = h from rfl, Encode_eq h r hs hr, ob_some] at g
  refine (call_data goodL g rfl (fun i x d hx hd => ?_)).mono ?_
  · match i, hx, hd with
    | 0, hx, hd => cases hx; cases hd; exact ⟨rfl, hp_vd H⟩
    | 1, hx, hd => cases hx; cases hd; exact ⟨rfl, RA.vd I⟩
    | i + 2, hx, hd => simp at hd
  · rintro e w' ⟨v, G', rfl, hb, hv⟩
    exact ⟨by rw [hv.sc], hb⟩
theorem encq_c {W : World} {u v : Value} {h : GHeap} {r : List Int} (H : HA W u h) (I : IA W v r) (hs : Slim h) (hb : BitsR h) (hr : r.length ≤ big) : Calls Try.prog 13 #[hpV u h, v] W fun e W' => e = .returned (.string (encP h r)) ∧ Below W.heap.size W W' := by
  have g := f_R08_Encode h.Objs h.Cap h.Last r
  rw [show ({ Objs := h.Objs, Cap := h.Cap, Last := h.Last : GHeap }) = h from rfl, R08_Encode_eq h r hs hb hr, ob_some] at g
  refine (call_data goodL g rfl (fun i x d hx hd => ?_)).mono ?_
  · match i, hx, hd with
    | 0, hx, hd => cases hx; cases hd; exact ⟨rfl, hp_vd H⟩
    | 1, hx, hd => cases hx; cases hd; exact ⟨rfl, RA.vd I⟩
    | i + 2, hx, hd => simp at hd
  · rintro e w' ⟨v, G', rfl, hb, hv⟩
    exact ⟨by rw [hv.sc], hb⟩
theorem same_c {W : World} {u v : Value} {a b : GHeap} (A : HA W u a) (B : HA W v b) (hs : Slim a) : Calls Try.prog 14 #[hpV u a, hpV v b] W fun e W' => e = .returned (.bool (decide (a = b))) ∧ Below W.heap.size W W' := by
  have g := f_R03_Same a.Objs a.Cap a.Last b.Objs b.Cap b.Last
  rw [show ({ Objs := a.Objs, Cap := a.Cap, Last := a.Last : GHeap }) = a from rfl, show ({ Objs := b.Objs, Cap := b.Cap, Last := b.Last : GHeap }) = b from rfl, R03_Same_eq a b hs, ob_some] at g
  refine (call_data goodL g rfl (fun i x d hx hd => ?_)).mono ?_
  · match i, hx, hd with
    | 0, hx, hd => cases hx; cases hd; exact ⟨rfl, hp_vd A⟩
    | 1, hx, hd => cases hx; cases hd; exact ⟨rfl, hp_vd B⟩
    | i + 2, hx, hd => simp at hd
  · rintro e w' ⟨v, G', rfl, hb, hv⟩
    exact ⟨by rw [hv.sc], hb⟩
theorem ints_c {W : World} {u v : Value} {a b : List Int} (A : IA W u a) (B : IA W v b) (hs : a.length ≤ big) : Calls Try.prog 15 #[u, v] W fun e W' => e = .returned (.bool (decide (a = b))) ∧ Below W.heap.size W W' := by
  have g := f_R03_Ints a b
  rw [R03_Ints_eq a b hs, ob_some] at g
  refine (call_data goodL g rfl (fun i x d hx hd => ?_)).mono ?_
  · match i, hx, hd with
    | 0, hx, hd => cases hx; cases hd; exact ⟨rfl, RA.vd A⟩
    | 1, hx, hd => cases hx; cases hd; exact ⟨rfl, RA.vd B⟩
    | i + 2, hx, hd => simp at hd
  · rintro e w' ⟨v, G', rfl, hb, hv⟩
    exact ⟨by rw [hv.sc], hb⟩
/-- What a decoding hands back. -/
def DecPost (W : World) (o : GHeap × List Int × Int) (e : Ending) (W' : World) : Prop := ∃ u v, e = .returned (.tuple #[hpV u o.1, v, .int .i64 o.2.2]) ∧ Below W.heap.size W W' ∧ HA W' u o.1 ∧ IA W' v o.2.1
theorem dec_c (s : ByteArray) (hs : s.size ≤ big) (W : World) : Calls Try.prog 10 #[.string s] W (DecPost W (decP s)) := by
  have g := f_snap_Decode s
  rw [snap_Decode_eq s hs, ob_some] at g
  refine (call_data goodL g rfl (fun i x d hx hd => ?_)).mono ?_
  · match i, hx, hd with
    | 0, hx, hd => cases hx; cases hd; exact ⟨rfl, .t _ _ _ (.sc _ rfl)⟩
    | i + 1, hx, hd => simp at hd
  · rintro e w' ⟨v, G', rfl, hb, hv⟩
    cases hv with
    | tup _ us _ hs hh =>
      obtain ⟨us⟩ := us
      match us, hs with
      | [a, b, c], _ =>
        have h0 := hh 0 a _ rfl rfl
        have h1 := hh 1 b _ rfl rfl
        have h2 := (hh 2 c _ rfl rfl).sc
        obtain ⟨u0, rfl, H⟩ := heap_data (h := (decP s).1) h0
        subst h2
        exact ⟨u0, b, rfl, hb, H, VD.data h1⟩
theorem fixed_any (W : World) : Hid (∀ W, Calls Try.prog 9 #[] W fun e W' => e = .returned (.bool true) ∧ Below W.heap.size W W') := fun W => fixed_c W
end Go.Pv

/- SnapTells, walked. -/
namespace Go.Pv
open Go Go.Proofs Go.RowKit Go.Pv.Bs
set_option maxHeartbeats 20000000
set_option maxRecDepth 100000
set_option linter.unusedVariables false
set_option linter.unusedSimpArgs false
/-- What decoding by the document's reader hands back. -/
def DecLaw : Prop := ∀ s : ByteArray, s.size ≤ big → ∀ W, Calls Try.prog 11 #[.string s] W (DecPost W (decP s))
/-- A heap in a cell. -/
structure BX (W : World) (k : Nat) (u : Value) (h : GHeap) : Prop where
  heap : W.heap[k]? = some (.cells #[u, .int .i64 h.Cap, .int .i64 h.Last] 24 (0, 0))
  ha : HA W u h
theorem BX.to {W W' : World} {k : Nat} {u : Value} {h : GHeap} (S : BX W k u h) (hb : Below W.heap.size W W') : BX W' k u h :=
  ⟨(hb.block k (Array.getElem?_eq_some_iff.1 S.heap).1).trans S.heap, RA.below S.ha hb⟩
theorem BX.cells {W : World} {k : Nat} {u : Value} {h : GHeap} (S : BX W k u h) : W.cell? ⟨k, 0, none⟩ = some u ∧ W.cell? ⟨k, 1, none⟩ = some (.int .i64 h.Cap) ∧ W.cell? ⟨k, 2, none⟩ = some (.int .i64 h.Last) := by
  refine ⟨?_, ?_, ?_⟩ <;> · rw [Lib.cell_of_heap S.heap]; rfl
abbrev zG : Array Value := #[.slice none 0 0, .int .i64 0, .int .i64 0]
abbrev putH (W : World) (u : Value) (h : GHeap) : World := W.alloc (.cells #[u, .int .i64 h.Cap, .int .i64 h.Last] 24)
theorem putH_below (W : World) (u : Value) (h : GHeap) : Below W.heap.size W (putH W u h) := (Below.refl _ W).alloc (Nat.le_refl _) _
theorem putH_box {W : World} {u : Value} {h : GHeap} (H : HA W u h) : BX (putH W u h) W.heap.size u h :=
  ⟨heap_alloc_new W _, RA.below H (putH_below W u h)⟩
structure TV (w : World) (k3 k7 k10 : Nat) (u rv ua va ub vb : Value) (h : GHeap) (r : List Int) (a : GHeap) (p : List Int) (W : World) : Prop where
  below : Below w.heap.size w W
  b3 : BX W k3 u h
  ro : IA W rv r
  b7 : BX W k7 ua a
  pa : IA W va p
  b10 : BX W k10 ub a
  pb : IA W vb p
section
variable {w : World} {k3 k7 k10 : Nat} {u rv ua va ub vb : Value} {h : GHeap} {r : List Int} {a : GHeap} {p : List Int} {W W' : World}
theorem TV.to (S : TV w k3 k7 k10 u rv ua va ub vb h r a p W) (hb : Below W.heap.size W W') : TV w k3 k7 k10 u rv ua va ub vb h r a p W' :=
  ⟨S.below.trans (hb.mono S.below.size), S.b3.to hb, RA.below S.ro hb, S.b7.to hb, RA.below S.pa hb, S.b10.to hb, RA.below S.pb hb⟩
end
theorem RA.slice {W : World} {v : Value} {α : Type} [Enc α] {n : Nat} {l : List α} (H : RA W v (.sl n (els l))) : ∃ A c, v = .slice A l.length c := by
  cases H with
  | sl A m cap _ _ _ hn _ _ _ _ => rw [els_len] at hn; subst hn; exact ⟨_, _, rfl⟩
def RetP (W : World) (v : Value) (e : Ending) (W' : World) : Prop := e = .returned v ∧ Below W.heap.size W W'
def TellsPost (w : World) (e : Ending) (w' : World) : Prop := e = .returned (.bool true) ∧ Below w.heap.size w w'
theorem t_facts {w : World} {k3 k7 k10 : Nat} {u rv ua va ub vb : Value} {h : GHeap} {r : List Int} {a : GHeap} {p : List Int} {W5 : World} (S : TV w k3 k7 k10 u rv ua va ub vb h r a p W5.drew)
    (hs : Slim h) (hb : BitsR h) (hr : r.length ≤ big) (ha : Slim a) (hp : p.length ≤ big) : ∃ (T : World → Prop) (es : ByteArray), T W5.drew ∧ (∀ W, T W → Calls Try.prog 9 #[] W fun e W' => e = .returned (.bool true) ∧ T W') ∧
      (∀ W, T W → Calls Try.prog 12 #[.agg #[u, .int .i64 h.Cap, .int .i64 h.Last], rv] W fun e W' => e = .returned (.string es) ∧ T W') ∧
      (∀ W, T W → Calls Try.prog 13 #[.agg #[u, .int .i64 h.Cap, .int .i64 h.Last], rv] W fun e W' => e = .returned (.string es) ∧ T W') ∧
      (∀ W, T W → Calls Try.prog 14 #[.agg #[ua, .int .i64 a.Cap, .int .i64 a.Last], .agg #[ub, .int .i64 a.Cap, .int .i64 a.Last]] W fun e W' => e = .returned (.bool true) ∧ T W') ∧
      (∀ W, T W → Calls Try.prog 15 #[va, vb] W fun e W' => e = .returned (.bool true) ∧ T W') ∧
      (∀ W, T W → W.cell? ⟨k3, 0, none⟩ = some u) ∧ (∀ W, T W → W.cell? ⟨k3, 1, none⟩ = some (.int .i64 h.Cap)) ∧ (∀ W, T W → W.cell? ⟨k3, 2, none⟩ = some (.int .i64 h.Last)) ∧
      (∀ W, T W → W.cell? ⟨k7, 0, none⟩ = some ua) ∧ (∀ W, T W → W.cell? ⟨k7, 1, none⟩ = some (.int .i64 a.Cap)) ∧ (∀ W, T W → W.cell? ⟨k7, 2, none⟩ = some (.int .i64 a.Last)) ∧
      (∀ W, T W → W.cell? ⟨k10, 0, none⟩ = some ub) ∧ (∀ W, T W → W.cell? ⟨k10, 1, none⟩ = some (.int .i64 a.Cap)) ∧ (∀ W, T W → W.cell? ⟨k10, 2, none⟩ = some (.int .i64 a.Last)) ∧
      (∀ W, T W → Below w.heap.size w W) :=
  ⟨TV w k3 k7 k10 u rv ua va ub vb h r a p, encP h r, S, fun W t => (fixed_c W).mono fun _ _ ⟨e, b⟩ => ⟨e, t.to b⟩, fun W t => (enc_c t.b3.ha t.ro hs hr).mono fun _ _ ⟨e, b⟩ => ⟨e, t.to b⟩,
    fun W t => (encq_c t.b3.ha t.ro hs hb hr).mono fun _ _ ⟨e, b⟩ => ⟨e, t.to b⟩, fun W t => (same_c t.b7.ha t.b10.ha ha).mono fun _ _ ⟨e, b⟩ => ⟨by rw [e, decide_eq_true rfl], t.to b⟩,
    fun W t => (ints_c t.pa t.pb hp).mono fun _ _ ⟨e, b⟩ => ⟨by rw [e, decide_eq_true rfl], t.to b⟩,
    fun W t => t.b3.cells.1, fun W t => t.b3.cells.2.1, fun W t => t.b3.cells.2.2, fun W t => t.b7.cells.1, fun W t => t.b7.cells.2.1, fun W t => t.b7.cells.2.2, fun W t => t.b10.cells.1, fun W t => t.b10.cells.2.1, fun W t => t.b10.cells.2.2, fun W t => t.below⟩
theorem tells_walk (HQ : DecLaw) (u v : Value) (h : GHeap) (r : List Int) (s : ByteArray) (w : World) (H : HA w u h) (I : IA w v r) (hs : Slim h) (hb : BitsR h) (hr : r.length ≤ big) (hsz : s.size ≤ big) :
    Calls Try.prog 3 #[hpV u h, v, .string s] w (TellsPost w) := by
  obtain ⟨A, c, rfl⟩ := RA.slice I
  obtain ⟨Au, cu, rfl⟩ := RA.slice H
  have b0 : Below w.heap.size w (w.alloc (.cells #[.slice Au h.Objs.length cu, .int .i64 h.Cap, .int .i64 h.Last] 24)) := (Below.refl _ w).alloc (Nat.le_refl _) _
  have S0 : BX (w.alloc (.cells #[.slice Au h.Objs.length cu, .int .i64 h.Cap, .int .i64 h.Last] 24)) w.heap.size (.slice Au h.Objs.length cu) h := ⟨heap_alloc_new w _, RA.below H b0⟩
  have I0 := RA.below I b0
  clear H I
  obtain ⟨b, eb⟩ := R03_Small_ex h hs.1
  have C1 : Calls Try.prog 8 _ _ (RetP _ (.bool b)) := small_c S0.ha eb
  obtain ⟨q0, q1, q2⟩ := S0.cells
  cases b with
  | false =>
    go_enter Try.func3, Try.ntmps3
    go_wp2_with (go_at_call 8; go_loud (refine C1.mono ?_))
    rintro e w1 ⟨rfl, b1⟩
    have B1 := b0.trans (b1.mono b0.size)
    have C9 : Calls Try.prog 9 _ _ (RetP w1 (.bool true)) := fixed_c w1
    go_wp2_with (go_at_call 9; go_loud (refine C9.mono ?_))
    rintro e w2 ⟨rfl, b2⟩
    go_wp2
    go_ret
    exact ⟨rfl, B1.trans (b2.mono B1.size)⟩
  | true =>
    by_cases h1 : (r.length : Int) ≤ 100
    · have d1 : decide ((100 : Int) < r.length) = false := decide_eq_false (by omega)
      have h1' : ¬ (100 : Int) < r.length := by omega
      by_cases h2 : (s.size : Int) ≤ 3000
      · have d2 : decide ((3000 : Int) < s.size) = false := decide_eq_false (by omega)
        have h2' : ¬ (3000 : Int) < s.size := by omega
        go_enter Try.func3, Try.ntmps3
        go_wp2_with (go_at_call 8; go_loud (refine C1.mono ?_))
        rintro e w1 ⟨rfl, b1⟩
        have S1 := S0.to b1
        have I1 := RA.below I0 b1
        have B1 := b0.trans (b1.mono b0.size)
        clear S0 C1 b1 b0 I0 q0 q1 q2
        have C10 := dec_c s hsz w1
        have C11 := HQ s hsz
        generalize hg : decP s = g at C10 C11
        obtain ⟨g, p, k⟩ := g
        have hgs : Slim g ∧ p.length ≤ big := by
          rcases dec_cases s with ⟨h', r', e⟩ | ⟨k', e, _⟩
          · have := may_slim (dec_ok e).2
            rw [hg] at e; cases e; exact this
          · rw [hg] at e; cases e
            exact ⟨⟨by show 0 ≤ _; omega, fun o ho => by cases ho⟩, by show 0 ≤ _; omega⟩
        clear hg
        go_wp2_with (go_at_call 10; go_loud (refine C10.mono ?_))
        rintro e w2 ⟨ua, va, rfl, b2, H2, I2⟩
        obtain ⟨A2, c2, rfl⟩ := RA.slice I2
        obtain ⟨Au2, cu2, rfl⟩ := RA.slice H2
        have P2 := putH_below w2 (.slice Au2 g.Objs.length cu2) g
        have X2 := putH_box H2
        have I2 := RA.below I2 P2
        have S2 := (S1.to b2).to P2
        have I1 := RA.below (RA.below I1 b2) P2
        have B2 := B1.trans (b2.mono B1.size)
        have B3 := B2.trans (P2.mono B2.size)
        clear S1 B1 B2 H2 b2 C10 P2
        have C11' := C11 (putH w2 (.slice Au2 g.Objs.length cu2) g)
        go_wp2_with (go_at_call 11; go_loud (refine C11'.mono ?_))
        rintro e w3 ⟨ub, vb, rfl, b3, H3, I3⟩
        obtain ⟨A3, c3, rfl⟩ := RA.slice I3
        obtain ⟨Au3, cu3, rfl⟩ := RA.slice H3
        have P3 := putH_below w3 (.slice Au3 g.Objs.length cu3) g
        have X3 := putH_box H3
        have I3 := RA.below I3 P3
        have B4 := B3.trans (b3.mono B3.size)
        have TV0 : TV w w.heap.size w2.heap.size w3.heap.size _ _ _ _ _ _ h r g p (w3.alloc (Obj.cells #[Value.slice Au3 g.Objs.length cu3, Value.int IntKind.i64 g.Cap, Value.int IntKind.i64 g.Last] 24)) :=
          ⟨B4.trans (P3.mono B4.size), (S2.to b3).to P3, RA.below (RA.below I1 b3) P3, (X2.to b3).to P3, RA.below (RA.below I2 b3) P3, X3, I3⟩
        have TV1 := TV0.to (W' := World.drew _) (Below.drew (Below.refl _ _))
        clear S2 I1 I2 I3 X2 X3 B3 B4 P3 b3 H3 C11 C11'
        have F9 := t_facts TV1 hs hb hr hgs.1 hgs.2
        clear TV0 TV1
        go_wp2
        generalize (w3.alloc (Obj.cells #[Value.slice Au3 g.Objs.length cu3, Value.int IntKind.i64 g.Cap, Value.int IntKind.i64 g.Last] 24)) = W5 at F9 ⊢
        obtain ⟨T, es, TD, t9, t12, t13, t14, t15, c30, c31, c32, c70, c71, c72, cA0, cA1, cA2, tE⟩ := F9
        generalize w2.heap.size = k7 at *
        generalize w3.heap.size = k10 at *
        clear hs hb hr hsz hgs HQ eb
        have heq : (es.toList == es.toList) = true := by simp
        have hT := TD
        refine wp_region_any (by kernel_rfl) ?_
        change wpAny _ _ _ _ _ _ _ (World.drew _)
        refine wpAny_ready (rs := [0]) (by kernel_rfl) (by simp) ?_
        refine AllReady.cons rfl (fun K hK => ?_) AllReady.nil
        go_simp
        refine (t9 _ hT).mono ?_
        rintro e W ⟨rfl, hT⟩
        refine hK _ _ ?_
        clear hK K
        refine wpAny_ready (rs := [1]) (by kernel_rfl) (by simp) ?_
        refine AllReady.cons rfl (fun K hK => ?_) AllReady.nil
        go_simp
        refine hK _ _ ?_
        clear hK K
        refine wpAny_take (i := 3) (v := (.slice A r.length c)) rfl (by kernel_rfl) (by kernel_rfl) (by kernel_rfl) (fun c a w h => h) (Or.inl ⟨by rfl, ?_⟩) ?_
        · intro w
          go_simp
        refine wpAny_take (i := 6) (v := (.slice A r.length c)) rfl (by kernel_rfl) (by kernel_rfl) (by kernel_rfl) (fun c a w h => h) (Or.inl ⟨by rfl, ?_⟩) ?_
        · intro w
          go_simp
        refine wpAny_ready (rs := [2, 5]) (by kernel_rfl) (by simp) ?_
        refine AllReady.cons rfl (fun K hK => ?_) (AllReady.cons rfl (fun K hK => ?_) AllReady.nil)
        · have q30 := c30 _ hT
          have q31 := c31 _ hT
          have q32 := c32 _ hT
          have q70 := c70 _ hT
          have q71 := c71 _ hT
          have q72 := c72 _ hT
          have qA0 := cA0 _ hT
          have qA1 := cA1 _ hT
          have qA2 := cA2 _ hT
          go_simp
          refine hK _ _ ?_
          clear hK K
          clear q30 q31 q32 q70 q71 q72 qA0 qA1 qA2
          refine wpAny_ready (rs := [4, 5]) (by kernel_rfl) (by simp) ?_
          refine AllReady.cons rfl (fun K hK => ?_) (AllReady.cons rfl (fun K hK => ?_) AllReady.nil)
          · go_simp
            refine (t12 _ hT).mono ?_
            rintro e W ⟨rfl, hT⟩
            refine hK _ _ ?_
            clear hK K
            refine wpAny_ready (rs := [5]) (by kernel_rfl) (by simp) ?_
            refine AllReady.cons rfl (fun K hK => ?_) AllReady.nil
            have q30 := c30 _ hT
            have q31 := c31 _ hT
            have q32 := c32 _ hT
            have q70 := c70 _ hT
            have q71 := c71 _ hT
            have q72 := c72 _ hT
            have qA0 := cA0 _ hT
            have qA1 := cA1 _ hT
            have qA2 := cA2 _ hT
            go_simp
            refine hK _ _ ?_
            clear hK K
            clear q30 q31 q32 q70 q71 q72 qA0 qA1 qA2
            refine wpAny_ready (rs := [7]) (by kernel_rfl) (by simp) ?_
            refine AllReady.cons rfl (fun K hK => ?_) AllReady.nil
            go_simp
            refine (t13 _ hT).mono ?_
            rintro e W ⟨rfl, hT⟩
            refine hK _ _ ?_
            clear hK K
            refine wpAny_ready (rs := [8]) (by kernel_rfl) (by simp) ?_
            refine AllReady.cons rfl (fun K hK => ?_) AllReady.nil
            go_simp
            refine hK _ _ ?_
            clear hK K
            refine wpAny_ready (rs := [9]) (by kernel_rfl) (by simp) ?_
            refine AllReady.cons rfl (fun K hK => ?_) AllReady.nil
            go_simp
            refine hK _ _ ?_
            clear hK K
            refine wpAny_ready (rs := [10]) (by kernel_rfl) (by simp) ?_
            refine AllReady.cons rfl (fun K hK => ?_) AllReady.nil
            go_simp
            refine hK _ _ ?_
            clear hK K
            refine wpAny_ready (rs := [11, 12]) (by kernel_rfl) (by simp) ?_
            refine AllReady.cons rfl (fun K hK => ?_) (AllReady.cons rfl (fun K hK => ?_) AllReady.nil)
            · have q30 := c30 _ hT
              have q31 := c31 _ hT
              have q32 := c32 _ hT
              have q70 := c70 _ hT
              have q71 := c71 _ hT
              have q72 := c72 _ hT
              have qA0 := cA0 _ hT
              have qA1 := cA1 _ hT
              have qA2 := cA2 _ hT
              go_simp
              refine hK _ _ ?_
              clear hK K
              clear q30 q31 q32 q70 q71 q72 qA0 qA1 qA2
              refine wpAny_ready (rs := [12]) (by kernel_rfl) (by simp) ?_
              refine AllReady.cons rfl (fun K hK => ?_) AllReady.nil
              have q30 := c30 _ hT
              have q31 := c31 _ hT
              have q32 := c32 _ hT
              have q70 := c70 _ hT
              have q71 := c71 _ hT
              have q72 := c72 _ hT
              have qA0 := cA0 _ hT
              have qA1 := cA1 _ hT
              have qA2 := cA2 _ hT
              go_simp
              refine hK _ _ ?_
              clear hK K
              clear q30 q31 q32 q70 q71 q72 qA0 qA1 qA2
              refine wpAny_ready (rs := [13]) (by kernel_rfl) (by simp) ?_
              refine AllReady.cons rfl (fun K hK => ?_) AllReady.nil
              go_simp
              refine (t14 _ hT).mono ?_
              rintro e W ⟨rfl, hT⟩
              refine hK _ _ ?_
              clear hK K
              refine wpAny_ready (rs := [14]) (by kernel_rfl) (by simp) ?_
              refine AllReady.cons rfl (fun K hK => ?_) AllReady.nil
              go_simp
              refine hK _ _ ?_
              clear hK K
              refine wpAny_ready (rs := [15]) (by kernel_rfl) (by simp) ?_
              refine AllReady.cons rfl (fun K hK => ?_) AllReady.nil
              go_simp
              refine hK _ _ ?_
              clear hK K
              refine wpAny_take (i := 16) (v := (.slice A2 p.length c2)) rfl (by kernel_rfl) (by kernel_rfl) (by kernel_rfl) (fun c a w h => h) (Or.inl ⟨by rfl, ?_⟩) ?_
              · intro w
                go_simp
              refine wpAny_take (i := 17) (v := (.slice A3 p.length c3)) rfl (by kernel_rfl) (by kernel_rfl) (by kernel_rfl) (fun c a w h => h) (Or.inl ⟨by rfl, ?_⟩) ?_
              · intro w
                go_simp
              refine wpAny_ready (rs := [18]) (by kernel_rfl) (by simp) ?_
              refine AllReady.cons rfl (fun K hK => ?_) AllReady.nil
              go_simp
              refine (t15 _ hT).mono ?_
              rintro e W ⟨rfl, hT⟩
              refine hK _ _ ?_
              clear hK K
              refine wpAny_ready (rs := [19]) (by kernel_rfl) (by simp) ?_
              refine AllReady.cons rfl (fun K hK => ?_) AllReady.nil
              go_simp
              refine hK _ _ ?_
              clear hK K
              refine wpAny_ready (rs := [20]) (by kernel_rfl) (by simp) ?_
              refine AllReady.cons rfl (fun K hK => ?_) AllReady.nil
              go_simp
              refine hK _ _ ?_
              clear hK K
              refine wpAny_take (i := 21) (v := (.int .i64 k)) rfl (by kernel_rfl) (by kernel_rfl) (by kernel_rfl) (fun c a w h => h) (Or.inl ⟨by rfl, ?_⟩) ?_
              · intro w
                go_simp
              refine wpAny_take (i := 22) (v := (.int .i64 k)) rfl (by kernel_rfl) (by kernel_rfl) (by kernel_rfl) (fun c a w h => h) (Or.inl ⟨by rfl, ?_⟩) ?_
              · intro w
                go_simp
              refine wpAny_ready (rs := [23]) (by kernel_rfl) (by simp) ?_
              refine AllReady.cons rfl (fun K hK => ?_) AllReady.nil
              go_simp
              refine hK _ _ ?_
              clear hK K
              refine wpAny_ready (rs := [24]) (by kernel_rfl) (by simp) ?_
              refine AllReady.cons rfl (fun K hK => ?_) AllReady.nil
              go_simp
              refine hK _ _ ?_
              clear hK K
              refine wpAny_ready (rs := [25]) (by kernel_rfl) (by simp) ?_
              refine AllReady.cons rfl (fun K hK => ?_) AllReady.nil
              go_simp
              refine hK _ _ ?_
              clear hK K
              refine wpAny_done (by kernel_rfl) ?_ _
              go_wp2
              go_ret
              exact ⟨rfl, tE _ hT⟩
            · have q30 := c30 _ hT
              have q31 := c31 _ hT
              have q32 := c32 _ hT
              have q70 := c70 _ hT
              have q71 := c71 _ hT
              have q72 := c72 _ hT
              have qA0 := cA0 _ hT
              have qA1 := cA1 _ hT
              have qA2 := cA2 _ hT
              go_simp
              refine hK _ _ ?_
              clear hK K
              clear q30 q31 q32 q70 q71 q72 qA0 qA1 qA2
              refine wpAny_ready (rs := [11]) (by kernel_rfl) (by simp) ?_
              refine AllReady.cons rfl (fun K hK => ?_) AllReady.nil
              have q30 := c30 _ hT
              have q31 := c31 _ hT
              have q32 := c32 _ hT
              have q70 := c70 _ hT
              have q71 := c71 _ hT
              have q72 := c72 _ hT
              have qA0 := cA0 _ hT
              have qA1 := cA1 _ hT
              have qA2 := cA2 _ hT
              go_simp
              refine hK _ _ ?_
              clear hK K
              clear q30 q31 q32 q70 q71 q72 qA0 qA1 qA2
              refine wpAny_ready (rs := [13]) (by kernel_rfl) (by simp) ?_
              refine AllReady.cons rfl (fun K hK => ?_) AllReady.nil
              go_simp
              refine (t14 _ hT).mono ?_
              rintro e W ⟨rfl, hT⟩
              refine hK _ _ ?_
              clear hK K
              refine wpAny_ready (rs := [14]) (by kernel_rfl) (by simp) ?_
              refine AllReady.cons rfl (fun K hK => ?_) AllReady.nil
              go_simp
              refine hK _ _ ?_
              clear hK K
              refine wpAny_ready (rs := [15]) (by kernel_rfl) (by simp) ?_
              refine AllReady.cons rfl (fun K hK => ?_) AllReady.nil
              go_simp
              refine hK _ _ ?_
              clear hK K
              refine wpAny_take (i := 16) (v := (.slice A2 p.length c2)) rfl (by kernel_rfl) (by kernel_rfl) (by kernel_rfl) (fun c a w h => h) (Or.inl ⟨by rfl, ?_⟩) ?_
              · intro w
                go_simp
              refine wpAny_take (i := 17) (v := (.slice A3 p.length c3)) rfl (by kernel_rfl) (by kernel_rfl) (by kernel_rfl) (fun c a w h => h) (Or.inl ⟨by rfl, ?_⟩) ?_
              · intro w
                go_simp
              refine wpAny_ready (rs := [18]) (by kernel_rfl) (by simp) ?_
              refine AllReady.cons rfl (fun K hK => ?_) AllReady.nil
              go_simp
              refine (t15 _ hT).mono ?_
              rintro e W ⟨rfl, hT⟩
              refine hK _ _ ?_
              clear hK K
              refine wpAny_ready (rs := [19]) (by kernel_rfl) (by simp) ?_
              refine AllReady.cons rfl (fun K hK => ?_) AllReady.nil
              go_simp
              refine hK _ _ ?_
              clear hK K
              refine wpAny_ready (rs := [20]) (by kernel_rfl) (by simp) ?_
              refine AllReady.cons rfl (fun K hK => ?_) AllReady.nil
              go_simp
              refine hK _ _ ?_
              clear hK K
              refine wpAny_take (i := 21) (v := (.int .i64 k)) rfl (by kernel_rfl) (by kernel_rfl) (by kernel_rfl) (fun c a w h => h) (Or.inl ⟨by rfl, ?_⟩) ?_
              · intro w
                go_simp
              refine wpAny_take (i := 22) (v := (.int .i64 k)) rfl (by kernel_rfl) (by kernel_rfl) (by kernel_rfl) (fun c a w h => h) (Or.inl ⟨by rfl, ?_⟩) ?_
              · intro w
                go_simp
              refine wpAny_ready (rs := [23]) (by kernel_rfl) (by simp) ?_
              refine AllReady.cons rfl (fun K hK => ?_) AllReady.nil
              go_simp
              refine hK _ _ ?_
              clear hK K
              refine wpAny_ready (rs := [24]) (by kernel_rfl) (by simp) ?_
              refine AllReady.cons rfl (fun K hK => ?_) AllReady.nil
              go_simp
              refine hK _ _ ?_
              clear hK K
              refine wpAny_ready (rs := [25]) (by kernel_rfl) (by simp) ?_
              refine AllReady.cons rfl (fun K hK => ?_) AllReady.nil
              go_simp
              refine hK _ _ ?_
              clear hK K
              refine wpAny_done (by kernel_rfl) ?_ _
              go_wp2
              go_ret
              exact ⟨rfl, tE _ hT⟩
          · have q30 := c30 _ hT
            have q31 := c31 _ hT
            have q32 := c32 _ hT
            have q70 := c70 _ hT
            have q71 := c71 _ hT
            have q72 := c72 _ hT
            have qA0 := cA0 _ hT
            have qA1 := cA1 _ hT
            have qA2 := cA2 _ hT
            go_simp
            refine hK _ _ ?_
            clear hK K
            clear q30 q31 q32 q70 q71 q72 qA0 qA1 qA2
            refine wpAny_ready (rs := [4]) (by kernel_rfl) (by simp) ?_
            refine AllReady.cons rfl (fun K hK => ?_) AllReady.nil
            go_simp
            refine (t12 _ hT).mono ?_
            rintro e W ⟨rfl, hT⟩
            refine hK _ _ ?_
            clear hK K
            refine wpAny_ready (rs := [7]) (by kernel_rfl) (by simp) ?_
            refine AllReady.cons rfl (fun K hK => ?_) AllReady.nil
            go_simp
            refine (t13 _ hT).mono ?_
            rintro e W ⟨rfl, hT⟩
            refine hK _ _ ?_
            clear hK K
            refine wpAny_ready (rs := [8]) (by kernel_rfl) (by simp) ?_
            refine AllReady.cons rfl (fun K hK => ?_) AllReady.nil
            go_simp
            refine hK _ _ ?_
            clear hK K
            refine wpAny_ready (rs := [9]) (by kernel_rfl) (by simp) ?_
            refine AllReady.cons rfl (fun K hK => ?_) AllReady.nil
            go_simp
            refine hK _ _ ?_
            clear hK K
            refine wpAny_ready (rs := [10]) (by kernel_rfl) (by simp) ?_
            refine AllReady.cons rfl (fun K hK => ?_) AllReady.nil
            go_simp
            refine hK _ _ ?_
            clear hK K
            refine wpAny_ready (rs := [11, 12]) (by kernel_rfl) (by simp) ?_
            refine AllReady.cons rfl (fun K hK => ?_) (AllReady.cons rfl (fun K hK => ?_) AllReady.nil)
            · have q30 := c30 _ hT
              have q31 := c31 _ hT
              have q32 := c32 _ hT
              have q70 := c70 _ hT
              have q71 := c71 _ hT
              have q72 := c72 _ hT
              have qA0 := cA0 _ hT
              have qA1 := cA1 _ hT
              have qA2 := cA2 _ hT
              go_simp
              refine hK _ _ ?_
              clear hK K
              clear q30 q31 q32 q70 q71 q72 qA0 qA1 qA2
              refine wpAny_ready (rs := [12]) (by kernel_rfl) (by simp) ?_
              refine AllReady.cons rfl (fun K hK => ?_) AllReady.nil
              have q30 := c30 _ hT
              have q31 := c31 _ hT
              have q32 := c32 _ hT
              have q70 := c70 _ hT
              have q71 := c71 _ hT
              have q72 := c72 _ hT
              have qA0 := cA0 _ hT
              have qA1 := cA1 _ hT
              have qA2 := cA2 _ hT
              go_simp
              refine hK _ _ ?_
              clear hK K
              clear q30 q31 q32 q70 q71 q72 qA0 qA1 qA2
              refine wpAny_ready (rs := [13]) (by kernel_rfl) (by simp) ?_
              refine AllReady.cons rfl (fun K hK => ?_) AllReady.nil
              go_simp
              refine (t14 _ hT).mono ?_
              rintro e W ⟨rfl, hT⟩
              refine hK _ _ ?_
              clear hK K
              refine wpAny_ready (rs := [14]) (by kernel_rfl) (by simp) ?_
              refine AllReady.cons rfl (fun K hK => ?_) AllReady.nil
              go_simp
              refine hK _ _ ?_
              clear hK K
              refine wpAny_ready (rs := [15]) (by kernel_rfl) (by simp) ?_
              refine AllReady.cons rfl (fun K hK => ?_) AllReady.nil
              go_simp
              refine hK _ _ ?_
              clear hK K
              refine wpAny_take (i := 16) (v := (.slice A2 p.length c2)) rfl (by kernel_rfl) (by kernel_rfl) (by kernel_rfl) (fun c a w h => h) (Or.inl ⟨by rfl, ?_⟩) ?_
              · intro w
                go_simp
              refine wpAny_take (i := 17) (v := (.slice A3 p.length c3)) rfl (by kernel_rfl) (by kernel_rfl) (by kernel_rfl) (fun c a w h => h) (Or.inl ⟨by rfl, ?_⟩) ?_
              · intro w
                go_simp
              refine wpAny_ready (rs := [18]) (by kernel_rfl) (by simp) ?_
              refine AllReady.cons rfl (fun K hK => ?_) AllReady.nil
              go_simp
              refine (t15 _ hT).mono ?_
              rintro e W ⟨rfl, hT⟩
              refine hK _ _ ?_
              clear hK K
              refine wpAny_ready (rs := [19]) (by kernel_rfl) (by simp) ?_
              refine AllReady.cons rfl (fun K hK => ?_) AllReady.nil
              go_simp
              refine hK _ _ ?_
              clear hK K
              refine wpAny_ready (rs := [20]) (by kernel_rfl) (by simp) ?_
              refine AllReady.cons rfl (fun K hK => ?_) AllReady.nil
              go_simp
              refine hK _ _ ?_
              clear hK K
              refine wpAny_take (i := 21) (v := (.int .i64 k)) rfl (by kernel_rfl) (by kernel_rfl) (by kernel_rfl) (fun c a w h => h) (Or.inl ⟨by rfl, ?_⟩) ?_
              · intro w
                go_simp
              refine wpAny_take (i := 22) (v := (.int .i64 k)) rfl (by kernel_rfl) (by kernel_rfl) (by kernel_rfl) (fun c a w h => h) (Or.inl ⟨by rfl, ?_⟩) ?_
              · intro w
                go_simp
              refine wpAny_ready (rs := [23]) (by kernel_rfl) (by simp) ?_
              refine AllReady.cons rfl (fun K hK => ?_) AllReady.nil
              go_simp
              refine hK _ _ ?_
              clear hK K
              refine wpAny_ready (rs := [24]) (by kernel_rfl) (by simp) ?_
              refine AllReady.cons rfl (fun K hK => ?_) AllReady.nil
              go_simp
              refine hK _ _ ?_
              clear hK K
              refine wpAny_ready (rs := [25]) (by kernel_rfl) (by simp) ?_
              refine AllReady.cons rfl (fun K hK => ?_) AllReady.nil
              go_simp
              refine hK _ _ ?_
              clear hK K
              refine wpAny_done (by kernel_rfl) ?_ _
              go_wp2
              go_ret
              exact ⟨rfl, tE _ hT⟩
            · have q30 := c30 _ hT
              have q31 := c31 _ hT
              have q32 := c32 _ hT
              have q70 := c70 _ hT
              have q71 := c71 _ hT
              have q72 := c72 _ hT
              have qA0 := cA0 _ hT
              have qA1 := cA1 _ hT
              have qA2 := cA2 _ hT
              go_simp
              refine hK _ _ ?_
              clear hK K
              clear q30 q31 q32 q70 q71 q72 qA0 qA1 qA2
              refine wpAny_ready (rs := [11]) (by kernel_rfl) (by simp) ?_
              refine AllReady.cons rfl (fun K hK => ?_) AllReady.nil
              have q30 := c30 _ hT
              have q31 := c31 _ hT
              have q32 := c32 _ hT
              have q70 := c70 _ hT
              have q71 := c71 _ hT
              have q72 := c72 _ hT
              have qA0 := cA0 _ hT
              have qA1 := cA1 _ hT
              have qA2 := cA2 _ hT
              go_simp
              refine hK _ _ ?_
              clear hK K
              clear q30 q31 q32 q70 q71 q72 qA0 qA1 qA2
              refine wpAny_ready (rs := [13]) (by kernel_rfl) (by simp) ?_
              refine AllReady.cons rfl (fun K hK => ?_) AllReady.nil
              go_simp
              refine (t14 _ hT).mono ?_
              rintro e W ⟨rfl, hT⟩
              refine hK _ _ ?_
              clear hK K
              refine wpAny_ready (rs := [14]) (by kernel_rfl) (by simp) ?_
              refine AllReady.cons rfl (fun K hK => ?_) AllReady.nil
              go_simp
              refine hK _ _ ?_
              clear hK K
              refine wpAny_ready (rs := [15]) (by kernel_rfl) (by simp) ?_
              refine AllReady.cons rfl (fun K hK => ?_) AllReady.nil
              go_simp
              refine hK _ _ ?_
              clear hK K
              refine wpAny_take (i := 16) (v := (.slice A2 p.length c2)) rfl (by kernel_rfl) (by kernel_rfl) (by kernel_rfl) (fun c a w h => h) (Or.inl ⟨by rfl, ?_⟩) ?_
              · intro w
                go_simp
              refine wpAny_take (i := 17) (v := (.slice A3 p.length c3)) rfl (by kernel_rfl) (by kernel_rfl) (by kernel_rfl) (fun c a w h => h) (Or.inl ⟨by rfl, ?_⟩) ?_
              · intro w
                go_simp
              refine wpAny_ready (rs := [18]) (by kernel_rfl) (by simp) ?_
              refine AllReady.cons rfl (fun K hK => ?_) AllReady.nil
              go_simp
              refine (t15 _ hT).mono ?_
              rintro e W ⟨rfl, hT⟩
              refine hK _ _ ?_
              clear hK K
              refine wpAny_ready (rs := [19]) (by kernel_rfl) (by simp) ?_
              refine AllReady.cons rfl (fun K hK => ?_) AllReady.nil
              go_simp
              refine hK _ _ ?_
              clear hK K
              refine wpAny_ready (rs := [20]) (by kernel_rfl) (by simp) ?_
              refine AllReady.cons rfl (fun K hK => ?_) AllReady.nil
              go_simp
              refine hK _ _ ?_
              clear hK K
              refine wpAny_take (i := 21) (v := (.int .i64 k)) rfl (by kernel_rfl) (by kernel_rfl) (by kernel_rfl) (fun c a w h => h) (Or.inl ⟨by rfl, ?_⟩) ?_
              · intro w
                go_simp
              refine wpAny_take (i := 22) (v := (.int .i64 k)) rfl (by kernel_rfl) (by kernel_rfl) (by kernel_rfl) (fun c a w h => h) (Or.inl ⟨by rfl, ?_⟩) ?_
              · intro w
                go_simp
              refine wpAny_ready (rs := [23]) (by kernel_rfl) (by simp) ?_
              refine AllReady.cons rfl (fun K hK => ?_) AllReady.nil
              go_simp
              refine hK _ _ ?_
              clear hK K
              refine wpAny_ready (rs := [24]) (by kernel_rfl) (by simp) ?_
              refine AllReady.cons rfl (fun K hK => ?_) AllReady.nil
              go_simp
              refine hK _ _ ?_
              clear hK K
              refine wpAny_ready (rs := [25]) (by kernel_rfl) (by simp) ?_
              refine AllReady.cons rfl (fun K hK => ?_) AllReady.nil
              go_simp
              refine hK _ _ ?_
              clear hK K
              refine wpAny_done (by kernel_rfl) ?_ _
              go_wp2
              go_ret
              exact ⟨rfl, tE _ hT⟩
        · have q30 := c30 _ hT
          have q31 := c31 _ hT
          have q32 := c32 _ hT
          have q70 := c70 _ hT
          have q71 := c71 _ hT
          have q72 := c72 _ hT
          have qA0 := cA0 _ hT
          have qA1 := cA1 _ hT
          have qA2 := cA2 _ hT
          go_simp
          refine hK _ _ ?_
          clear hK K
          clear q30 q31 q32 q70 q71 q72 qA0 qA1 qA2
          refine wpAny_ready (rs := [2]) (by kernel_rfl) (by simp) ?_
          refine AllReady.cons rfl (fun K hK => ?_) AllReady.nil
          have q30 := c30 _ hT
          have q31 := c31 _ hT
          have q32 := c32 _ hT
          have q70 := c70 _ hT
          have q71 := c71 _ hT
          have q72 := c72 _ hT
          have qA0 := cA0 _ hT
          have qA1 := cA1 _ hT
          have qA2 := cA2 _ hT
          go_simp
          refine hK _ _ ?_
          clear hK K
          clear q30 q31 q32 q70 q71 q72 qA0 qA1 qA2
          refine wpAny_ready (rs := [4]) (by kernel_rfl) (by simp) ?_
          refine AllReady.cons rfl (fun K hK => ?_) AllReady.nil
          go_simp
          refine (t12 _ hT).mono ?_
          rintro e W ⟨rfl, hT⟩
          refine hK _ _ ?_
          clear hK K
          refine wpAny_ready (rs := [7]) (by kernel_rfl) (by simp) ?_
          refine AllReady.cons rfl (fun K hK => ?_) AllReady.nil
          go_simp
          refine (t13 _ hT).mono ?_
          rintro e W ⟨rfl, hT⟩
          refine hK _ _ ?_
          clear hK K
          refine wpAny_ready (rs := [8]) (by kernel_rfl) (by simp) ?_
          refine AllReady.cons rfl (fun K hK => ?_) AllReady.nil
          go_simp
          refine hK _ _ ?_
          clear hK K
          refine wpAny_ready (rs := [9]) (by kernel_rfl) (by simp) ?_
          refine AllReady.cons rfl (fun K hK => ?_) AllReady.nil
          go_simp
          refine hK _ _ ?_
          clear hK K
          refine wpAny_ready (rs := [10]) (by kernel_rfl) (by simp) ?_
          refine AllReady.cons rfl (fun K hK => ?_) AllReady.nil
          go_simp
          refine hK _ _ ?_
          clear hK K
          refine wpAny_ready (rs := [11, 12]) (by kernel_rfl) (by simp) ?_
          refine AllReady.cons rfl (fun K hK => ?_) (AllReady.cons rfl (fun K hK => ?_) AllReady.nil)
          · have q30 := c30 _ hT
            have q31 := c31 _ hT
            have q32 := c32 _ hT
            have q70 := c70 _ hT
            have q71 := c71 _ hT
            have q72 := c72 _ hT
            have qA0 := cA0 _ hT
            have qA1 := cA1 _ hT
            have qA2 := cA2 _ hT
            go_simp
            refine hK _ _ ?_
            clear hK K
            clear q30 q31 q32 q70 q71 q72 qA0 qA1 qA2
            refine wpAny_ready (rs := [12]) (by kernel_rfl) (by simp) ?_
            refine AllReady.cons rfl (fun K hK => ?_) AllReady.nil
            have q30 := c30 _ hT
            have q31 := c31 _ hT
            have q32 := c32 _ hT
            have q70 := c70 _ hT
            have q71 := c71 _ hT
            have q72 := c72 _ hT
            have qA0 := cA0 _ hT
            have qA1 := cA1 _ hT
            have qA2 := cA2 _ hT
            go_simp
            refine hK _ _ ?_
            clear hK K
            clear q30 q31 q32 q70 q71 q72 qA0 qA1 qA2
            refine wpAny_ready (rs := [13]) (by kernel_rfl) (by simp) ?_
            refine AllReady.cons rfl (fun K hK => ?_) AllReady.nil
            go_simp
            refine (t14 _ hT).mono ?_
            rintro e W ⟨rfl, hT⟩
            refine hK _ _ ?_
            clear hK K
            refine wpAny_ready (rs := [14]) (by kernel_rfl) (by simp) ?_
            refine AllReady.cons rfl (fun K hK => ?_) AllReady.nil
            go_simp
            refine hK _ _ ?_
            clear hK K
            refine wpAny_ready (rs := [15]) (by kernel_rfl) (by simp) ?_
            refine AllReady.cons rfl (fun K hK => ?_) AllReady.nil
            go_simp
            refine hK _ _ ?_
            clear hK K
            refine wpAny_take (i := 16) (v := (.slice A2 p.length c2)) rfl (by kernel_rfl) (by kernel_rfl) (by kernel_rfl) (fun c a w h => h) (Or.inl ⟨by rfl, ?_⟩) ?_
            · intro w
              go_simp
            refine wpAny_take (i := 17) (v := (.slice A3 p.length c3)) rfl (by kernel_rfl) (by kernel_rfl) (by kernel_rfl) (fun c a w h => h) (Or.inl ⟨by rfl, ?_⟩) ?_
            · intro w
              go_simp
            refine wpAny_ready (rs := [18]) (by kernel_rfl) (by simp) ?_
            refine AllReady.cons rfl (fun K hK => ?_) AllReady.nil
            go_simp
            refine (t15 _ hT).mono ?_
            rintro e W ⟨rfl, hT⟩
            refine hK _ _ ?_
            clear hK K
            refine wpAny_ready (rs := [19]) (by kernel_rfl) (by simp) ?_
            refine AllReady.cons rfl (fun K hK => ?_) AllReady.nil
            go_simp
            refine hK _ _ ?_
            clear hK K
            refine wpAny_ready (rs := [20]) (by kernel_rfl) (by simp) ?_
            refine AllReady.cons rfl (fun K hK => ?_) AllReady.nil
            go_simp
            refine hK _ _ ?_
            clear hK K
            refine wpAny_take (i := 21) (v := (.int .i64 k)) rfl (by kernel_rfl) (by kernel_rfl) (by kernel_rfl) (fun c a w h => h) (Or.inl ⟨by rfl, ?_⟩) ?_
            · intro w
              go_simp
            refine wpAny_take (i := 22) (v := (.int .i64 k)) rfl (by kernel_rfl) (by kernel_rfl) (by kernel_rfl) (fun c a w h => h) (Or.inl ⟨by rfl, ?_⟩) ?_
            · intro w
              go_simp
            refine wpAny_ready (rs := [23]) (by kernel_rfl) (by simp) ?_
            refine AllReady.cons rfl (fun K hK => ?_) AllReady.nil
            go_simp
            refine hK _ _ ?_
            clear hK K
            refine wpAny_ready (rs := [24]) (by kernel_rfl) (by simp) ?_
            refine AllReady.cons rfl (fun K hK => ?_) AllReady.nil
            go_simp
            refine hK _ _ ?_
            clear hK K
            refine wpAny_ready (rs := [25]) (by kernel_rfl) (by simp) ?_
            refine AllReady.cons rfl (fun K hK => ?_) AllReady.nil
            go_simp
            refine hK _ _ ?_
            clear hK K
            refine wpAny_done (by kernel_rfl) ?_ _
            go_wp2
            go_ret
            exact ⟨rfl, tE _ hT⟩
          · have q30 := c30 _ hT
            have q31 := c31 _ hT
            have q32 := c32 _ hT
            have q70 := c70 _ hT
            have q71 := c71 _ hT
            have q72 := c72 _ hT
            have qA0 := cA0 _ hT
            have qA1 := cA1 _ hT
            have qA2 := cA2 _ hT
            go_simp
            refine hK _ _ ?_
            clear hK K
            clear q30 q31 q32 q70 q71 q72 qA0 qA1 qA2
            refine wpAny_ready (rs := [11]) (by kernel_rfl) (by simp) ?_
            refine AllReady.cons rfl (fun K hK => ?_) AllReady.nil
            have q30 := c30 _ hT
            have q31 := c31 _ hT
            have q32 := c32 _ hT
            have q70 := c70 _ hT
            have q71 := c71 _ hT
            have q72 := c72 _ hT
            have qA0 := cA0 _ hT
            have qA1 := cA1 _ hT
            have qA2 := cA2 _ hT
            go_simp
            refine hK _ _ ?_
            clear hK K
            clear q30 q31 q32 q70 q71 q72 qA0 qA1 qA2
            refine wpAny_ready (rs := [13]) (by kernel_rfl) (by simp) ?_
            refine AllReady.cons rfl (fun K hK => ?_) AllReady.nil
            go_simp
            refine (t14 _ hT).mono ?_
            rintro e W ⟨rfl, hT⟩
            refine hK _ _ ?_
            clear hK K
            refine wpAny_ready (rs := [14]) (by kernel_rfl) (by simp) ?_
            refine AllReady.cons rfl (fun K hK => ?_) AllReady.nil
            go_simp
            refine hK _ _ ?_
            clear hK K
            refine wpAny_ready (rs := [15]) (by kernel_rfl) (by simp) ?_
            refine AllReady.cons rfl (fun K hK => ?_) AllReady.nil
            go_simp
            refine hK _ _ ?_
            clear hK K
            refine wpAny_take (i := 16) (v := (.slice A2 p.length c2)) rfl (by kernel_rfl) (by kernel_rfl) (by kernel_rfl) (fun c a w h => h) (Or.inl ⟨by rfl, ?_⟩) ?_
            · intro w
              go_simp
            refine wpAny_take (i := 17) (v := (.slice A3 p.length c3)) rfl (by kernel_rfl) (by kernel_rfl) (by kernel_rfl) (fun c a w h => h) (Or.inl ⟨by rfl, ?_⟩) ?_
            · intro w
              go_simp
            refine wpAny_ready (rs := [18]) (by kernel_rfl) (by simp) ?_
            refine AllReady.cons rfl (fun K hK => ?_) AllReady.nil
            go_simp
            refine (t15 _ hT).mono ?_
            rintro e W ⟨rfl, hT⟩
            refine hK _ _ ?_
            clear hK K
            refine wpAny_ready (rs := [19]) (by kernel_rfl) (by simp) ?_
            refine AllReady.cons rfl (fun K hK => ?_) AllReady.nil
            go_simp
            refine hK _ _ ?_
            clear hK K
            refine wpAny_ready (rs := [20]) (by kernel_rfl) (by simp) ?_
            refine AllReady.cons rfl (fun K hK => ?_) AllReady.nil
            go_simp
            refine hK _ _ ?_
            clear hK K
            refine wpAny_take (i := 21) (v := (.int .i64 k)) rfl (by kernel_rfl) (by kernel_rfl) (by kernel_rfl) (fun c a w h => h) (Or.inl ⟨by rfl, ?_⟩) ?_
            · intro w
              go_simp
            refine wpAny_take (i := 22) (v := (.int .i64 k)) rfl (by kernel_rfl) (by kernel_rfl) (by kernel_rfl) (fun c a w h => h) (Or.inl ⟨by rfl, ?_⟩) ?_
            · intro w
              go_simp
            refine wpAny_ready (rs := [23]) (by kernel_rfl) (by simp) ?_
            refine AllReady.cons rfl (fun K hK => ?_) AllReady.nil
            go_simp
            refine hK _ _ ?_
            clear hK K
            refine wpAny_ready (rs := [24]) (by kernel_rfl) (by simp) ?_
            refine AllReady.cons rfl (fun K hK => ?_) AllReady.nil
            go_simp
            refine hK _ _ ?_
            clear hK K
            refine wpAny_ready (rs := [25]) (by kernel_rfl) (by simp) ?_
            refine AllReady.cons rfl (fun K hK => ?_) AllReady.nil
            go_simp
            refine hK _ _ ?_
            clear hK K
            refine wpAny_done (by kernel_rfl) ?_ _
            go_wp2
            go_ret
            exact ⟨rfl, tE _ hT⟩
      · have d2 : decide ((3000 : Int) < s.size) = true := decide_eq_true (by omega)
        have h2' : (3000 : Int) < s.size := by omega
        go_enter Try.func3, Try.ntmps3
        go_wp2_with (go_at_call 8; go_loud (refine C1.mono ?_))
        rintro e w1 ⟨rfl, b1⟩
        have B1 := b0.trans (b1.mono b0.size)
        have C9 : Calls Try.prog 9 _ _ (RetP w1 (.bool true)) := fixed_c w1
        go_wp2_with (go_at_call 9; go_loud (refine C9.mono ?_))
        rintro e w2 ⟨rfl, b2⟩
        go_wp2
        go_ret
        exact ⟨rfl, B1.trans (b2.mono B1.size)⟩
    · have d1 : decide ((100 : Int) < r.length) = true := decide_eq_true (by omega)
      have h1' : (100 : Int) < r.length := by omega
      go_enter Try.func3, Try.ntmps3
      go_wp2_with (go_at_call 8; go_loud (refine C1.mono ?_))
      rintro e w1 ⟨rfl, b1⟩
      have B1 := b0.trans (b1.mono b0.size)
      have C9 : Calls Try.prog 9 _ _ (RetP w1 (.bool true)) := fixed_c w1
      go_wp2_with (go_at_call 9; go_loud (refine C9.mono ?_))
      rintro e w2 ⟨rfl, b2⟩
      go_wp2
      go_ret
      exact ⟨rfl, B1.trans (b2.mono B1.size)⟩
end Go.Pv
