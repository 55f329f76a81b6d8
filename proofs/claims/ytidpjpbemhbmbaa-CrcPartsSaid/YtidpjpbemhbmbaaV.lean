/- A part of the road: the interpreter of plain data and the proof that it is right. -/
import Derived.Test.YtidpjpbemhbmbaaS
import Derived.Test.YtidpjpbemhbmbaaG
open Go Go.Proofs Go.Pv
namespace Go.Proofs.Ytidpjpbemhbmbaa
theorem i64_max : IntKind.i64.max = 9223372036854775807 := by rfl
theorem nbs_append (a b : ByteArray) : nbs (a ++ b) = nbs a ++ nbs b := by
  unfold nbs
  rw [ByteArray.data_append]
  simp
theorem nbs_extract (s : ByteArray) (i j : Nat) : nbs (s.extract i j) = ((nbs s).take j).drop i := by
  unfold nbs
  have e : (s.extract i j).data = s.data.extract i j := by simp
  rw [e]
  rw [Array.toList_extract, List.extract_eq_take_drop, List.map_take, List.map_drop, List.drop_take]
theorem ofNat_xor (a b : Nat) : BitVec.ofNat 32 (a ^^^ b) = BitVec.ofNat 32 a ^^^ BitVec.ofNat 32 b := by
  apply BitVec.eq_of_toNat_eq
  simp [BitVec.toNat_ofNat]
theorem byteV_injB {x : V} {a b : Nat} (ha : a < 256) (hb : b < 256) (h : byteV x a = byteV x b) : a = b := by
  unfold byteV at h
  have : stepN 8 ((x ^^^ BitVec.ofNat 32 a) ^^^ (x ^^^ BitVec.ofNat 32 b)) = 0#32 := by rw [stepN_xor, h, BitVec.xor_self]
  have h1 := xor_zero_iff (stepN_zero 8 _ this)
  have h2 : x ^^^ (x ^^^ BitVec.ofNat 32 a) = x ^^^ (x ^^^ BitVec.ofNat 32 b) := by rw [h1]
  rw [← BitVec.xor_assoc, ← BitVec.xor_assoc, BitVec.xor_self, BitVec.zero_xor, BitVec.zero_xor] at h2
  have := congrArg BitVec.toNat h2
  simp only [BitVec.toNat_ofNat] at this
  omega
/-- Four bytes behind a sum. -/
theorem byteV_two (y : V) (j : Nat) (c : V) (b : Nat) (hj : j ≤ 24) (hb : b < 256) :
    byteV (stepN j (y ^^^ c)) b = stepN (j + 8) (y ^^^ c ^^^ (BitVec.ofNat 32 b <<< j)) := by
  unfold byteV
  rw [stepN_add, stepN_xor j (y ^^^ c)]
  congr 2
  rw [stepN_low j]
  · apply BitVec.eq_of_toNat_eq
    rw [BitVec.toNat_ushiftRight, BitVec.toNat_shiftLeft, BitVec.toNat_ofNat]
    have hp : 2 ^ j ≤ 2 ^ 24 := Nat.pow_le_pow_right (by omega) hj
    have hp0 : 0 < 2 ^ j := Nat.pos_of_ne_zero (by simp)
    have hlt : b * 2 ^ j < 2 ^ 32 := by
      calc b * 2 ^ j ≤ 255 * 2 ^ 24 := Nat.mul_le_mul (by omega) hp
        _ < 2 ^ 32 := by decide
    have hbm : b % 2 ^ 32 = b := Nat.mod_eq_of_lt (by omega)
    rw [hbm, Nat.shiftLeft_eq, Nat.mod_eq_of_lt hlt, Nat.shiftRight_eq_div_pow, Nat.mul_div_cancel _ hp0]
  · intro i hi
    simp [hi]
theorem nbs_bytes (v : V) : nbs (bytesI v.toNat) = [v.toNat % 256, v.toNat / 256 % 256, v.toNat / 65536 % 256, v.toNat / 16777216 % 256] := by
  unfold nbs
  rw [bytesI_V]
  simp
theorem four (v : V) : BitVec.ofNat 32 (v.toNat % 256) ^^^ (BitVec.ofNat 32 (v.toNat / 256 % 256) <<< 8) ^^^ (BitVec.ofNat 32 (v.toNat / 65536 % 256) <<< 16) ^^^ (BitVec.ofNat 32 (v.toNat / 16777216 % 256) <<< 24) = v := by
  apply BitVec.eq_of_getLsbD_eq
  intro i hi
  have e0 : (BitVec.ofNat 32 (v.toNat % 256)).getLsbD i = (decide (i < 8) && v.getLsbD i) := by
    rw [BitVec.getLsbD_ofNat, show (256 : Nat) = 2 ^ 8 from rfl, Nat.testBit_mod_two_pow]
    simp [hi, BitVec.getLsbD]
  have e1 : ∀ k j : Nat, k = 2 ^ j → (BitVec.ofNat 32 (v.toNat / k % 256) <<< j).getLsbD i = (!decide (i < j) && decide (i < j + 8) && v.getLsbD i) := by
    rintro k j rfl
    rw [BitVec.getLsbD_shiftLeft, BitVec.getLsbD_ofNat, show (256 : Nat) = 2 ^ 8 from rfl, Nat.testBit_mod_two_pow, Nat.testBit_div_two_pow]
    by_cases h : j ≤ i
    · have h2 : i - j < 32 := by omega
      have h3 : i - j + j = i := by omega
      have h4 : decide (i - j < 8) = decide (i < j + 8) := by
        by_cases h5 : i < j + 8
        · simp [h5]; omega
        · simp [h5]; omega
      simp [hi, h2, h3, h4, BitVec.getLsbD, Nat.not_lt.2 h]
    · simp [Nat.lt_of_not_le h]
  rw [BitVec.getLsbD_xor, BitVec.getLsbD_xor, BitVec.getLsbD_xor, e0, e1 256 8 rfl, e1 65536 16 rfl, e1 16777216 24 rfl]
  cases v.getLsbD i
  · simp
  · by_cases h1 : i < 8
    · simp [h1, show i < 16 by omega, show i < 24 by omega]
    · by_cases h2 : i < 16
      · simp [h1, h2, show i < 24 by omega]
      · by_cases h3 : i < 24
        · simp [h1, h2, h3]
        · simp [h1, h2, h3, hi]
theorem fold4 (y v : V) : (nbs (bytesI v.toNat)).foldl byteV y = stepN 32 (y ^^^ v) := by
  rw [nbs_bytes]
  simp only [List.foldl_cons, List.foldl_nil]
  have h0 : byteV y (v.toNat % 256) = stepN 8 (y ^^^ BitVec.ofNat 32 (v.toNat % 256)) := rfl
  rw [h0, byteV_two y 8 _ _ (by omega) (by omega), BitVec.xor_assoc y, byteV_two y 16 _ _ (by omega) (by omega), BitVec.xor_assoc y, byteV_two y 24 _ _ (by omega) (by omega), BitVec.xor_assoc y]
  rw [four v]
theorem residue (s : ByteArray) : sumV 0#32 (s ++ bytesI (sumV 0#32 s).toNat) = sumV 0#32 (bytesI ((0#32 : V).toNat : Int)) := by
  unfold sumV
  rw [nbs_append, List.foldl_append]
  generalize hy : (nbs s).foldl byteV (~~~ 0#32) = y
  rw [fold4 y (~~~ y), fold4 (~~~ 0#32) 0#32]
  congr 2
  rw [BitVec.xor_zero]
  apply BitVec.eq_of_getLsbD_eq
  intro i hi
  rw [BitVec.getLsbD_xor, BitVec.getLsbD_not, BitVec.getLsbD_not]
  cases y.getLsbD i <;> simp [hi]
theorem of_V (s : ByteArray) : moreI 0 s = ((sumV 0#32 s).toNat : Int) := moreI_V 0#32 s
end Go.Proofs.Ytidpjpbemhbmbaa

open Go Go.Proofs Go.Pv
namespace Go.Proofs.Ytidpjpbemhbmbaa
def xb (s t u : ByteArray) (i : Nat) : Int := bXor .u8 (bXor .u8 ((s.data[i]?.getD 0).toNat : Int) ((t.data[i]?.getD 0).toNat : Int)) ((u.data[i]?.getD 0).toNat : Int)
def xrow (s t u : ByteArray) (i : Nat) : List (List T) := (List.range i).map fun j => [T.sc (.int .u8 (xb s t u j))]
def d8 (s t u : ByteArray) : Nat → D
  | 0 => .t (.sc (.slice none 0 0))
  | i + 1 => .own 5 1 (xrow s t u (i + 1))
theorem d8_0 (s t u : ByteArray) : d8 s t u 0 = .t (.sc (.slice none 0 0)) := rfl
theorem d8_s (s t u : ByteArray) (i : Nat) : d8 s t u (i + 1) = .own 5 1 (xrow s t u (i + 1)) := rfl
theorem xrow_len (s t u : ByteArray) (i : Nat) : (xrow s t u i).length = i := by simp [xrow]
theorem xrow_all (s t u : ByteArray) (i : Nat) : (xrow s t u i).all (fun c => c.length == 1) = true := by simp [xrow]
theorem l4 (s t u : ByteArray) (n : Nat) (h1 : n ≤ s.size) (h2 : n ≤ t.size) (h3 : n ≤ u.size) (hs : s.size ≤ 1000) (C : Pv.Callee) (c : Code) (hc : c = loopN Try.f4 0) (σ : St)
    (hσ : norm (h4.at c) σ = mkS 81 [(0, .t (.sc (.string s))), (1, .t (.sc (.string t))), (2, .t (.sc (.string u))), (7, I n), (8, d8 s t u 0), (9, I 0)] []) :
    eO Try.prog h4 C (.loop c) σ = some (.exit 0, mkS 81 [(0, .t (.sc (.string s))), (1, .t (.sc (.string t))), (2, .t (.sc (.string u))), (7, I n), (8, d8 s t u n), (9, I n), (44, I n), (45, I n), (46, Bo false)] []) := by
  subst hc
  refine loop_step (A := Nat) (fun i => mkS 81 [(0, .t (.sc (.string s))), (1, .t (.sc (.string t))), (2, .t (.sc (.string u))), (7, I n), (8, d8 s t u i), (9, I i)] [])
    (fun _ => (.exit 0, mkS 81 [(0, .t (.sc (.string s))), (1, .t (.sc (.string t))), (2, .t (.sc (.string u))), (7, I n), (8, d8 s t u n), (9, I n), (44, I n), (45, I n), (46, Bo false)] [])) (fun i => n - i) (fun i => i ≤ n) ?_ (fun _ => by simp) 0 (by omega) σ hσ
  intro i hi
  by_cases h : i < n
  · have e1 : ((i : Int) < n) = True := by simp; omega
    have e2 : w64 ((i : Int) + 1) = (i : Int) + 1 := by rw [w64_id] <;> omega
    have a1 : i < s.size := by omega
    have a2 : i < t.size := by omega
    have a3 : i < u.size := by omega
    cases i with
    | zero =>
      have w1 : w64 1 = 1 := by rw [w64_id] <;> omega
      simp [Try.f4, d8_0, h, a1, a2, a3, most, w1]
      refine ⟨by kernel_rfl, 1, ⟨?_, rfl⟩, by omega, by omega⟩
      simp [d8_s, xrow, xb, a1, a2, a3]
    | succ i =>
      have c1 : ((i : Int) + 1 < n) = True := by simp; omega
      have c2 : ((i : Int) + 1 < s.size) = True := by simp; omega
      have c3 : ((i : Int) + 1 < t.size) = True := by simp; omega
      have c4 : ((i : Int) + 1 < u.size) = True := by simp; omega
      have c5 : ((0 : Int) ≤ (i : Int) + 1) = True := by simp; omega
      have c6 : w64 ((i : Int) + 1 + 1) = (i : Int) + 1 + 1 := by rw [w64_id] <;> omega
      simp [Try.f4, d8_s, c1, c2, c3, c4, c5, c6, a1, a2, a3, most, xrow_len]
      refine ⟨by omega, by kernel_rfl, i + 2, ⟨?_, by omega⟩, by omega, by omega⟩
      rw [d8_s, List.take_of_length_le (by rw [xrow_len]; exact Nat.le_refl _)]
      simp [xrow, List.range_succ, xb, a1, a2, a3]
  · have : i = n := by omega
    subst this
    cases i with
    | zero => simp [Try.f4, d8_0]
    | succ i => simp [Try.f4, d8_s]

theorem d8_el (s t u : ByteArray) (n : Nat) : bytesT (xrow s t u n) = some ((List.range n).map fun j => UInt8.ofNat (xb s t u j).toNat) := by
  unfold xrow
  have : ∀ l : List Nat, bytesT (l.map fun j => [T.sc (.int .u8 (xb s t u j))]) = some (l.map fun j => UInt8.ofNat (xb s t u j).toNat) := by
    intro l
    induction l with
    | nil => rfl
    | cons a l ih => simp only [List.map_cons, bytesT, ih]; rfl
  exact this _
/-- The text of the exclusive ors. -/
def xtext (s t u : ByteArray) (n : Nat) : ByteArray := ⟨((List.range n).map fun j => UInt8.ofNat (xb s t u j).toNat).toArray⟩

theorem take_range (s : ByteArray) (n : Nat) (h : n ≤ s.size) : (nbs s).take n = (List.range n).map fun j => (s.data[j]?.getD 0).toNat := by
  apply List.ext_getElem?
  intro i
  have hl : (nbs s).length = s.size := by simp [nbs]
  rw [List.getElem?_take, List.getElem?_map]
  by_cases hi : i < n
  · have h2 : s.data[i]? = some (s.data[i]'(by show i < s.size; omega)) := Array.getElem?_eq_getElem _
    simp [hi, nbs, h2]
  · simp [hi]
theorem xb_nat (s t u : ByteArray) (j : Nat) : (xb s t u j).toNat = (s.data[j]?.getD 0).toNat ^^^ (t.data[j]?.getD 0).toNat ^^^ (u.data[j]?.getD 0).toNat ∧ (xb s t u j).toNat < 256 := by
  have key : ∀ a b : Nat, a < 256 → b < 256 → bXor .u8 (a : Int) (b : Int) = ((a ^^^ b : Nat) : Int) ∧ a ^^^ b < 256 := by
    intro a b ha hb
    have hlt : a ^^^ b < 2 ^ 8 := Nat.xor_lt_two_pow ha hb
    refine ⟨?_, hlt⟩
    show IntKind.u8.wrap ((BitVec.ofInt 8 (a : Int) ^^^ BitVec.ofInt 8 (b : Int) : BitVec 8).toNat : Int) = _
    rw [BitVec.ofInt_natCast, BitVec.ofInt_natCast, BitVec.toNat_xor, BitVec.toNat_ofNat, BitVec.toNat_ofNat, Nat.mod_eq_of_lt ha, Nat.mod_eq_of_lt hb, u8_wrap]
    omega
  obtain ⟨h1, h2⟩ := key _ _ (s.data[j]?.getD 0).toNat_lt (t.data[j]?.getD 0).toNat_lt
  obtain ⟨h3, h4⟩ := key _ _ h2 (u.data[j]?.getD 0).toNat_lt
  unfold xb
  rw [h1, h3]
  exact ⟨by simp, by simpa using h4⟩
theorem byteV_xor3 (x y z : V) (a b c : Nat) : byteV (x ^^^ y ^^^ z) (a ^^^ b ^^^ c) = byteV x a ^^^ byteV y b ^^^ byteV z c := by
  unfold byteV
  rw [ofNat_xor, ofNat_xor, ← stepN_xor, ← stepN_xor]
  congr 1
  apply BitVec.eq_of_getLsbD_eq
  intro i hi
  simp only [BitVec.getLsbD_xor]
  cases x.getLsbD i <;> cases y.getLsbD i <;> cases z.getLsbD i <;> cases (BitVec.ofNat 32 a).getLsbD i <;> cases (BitVec.ofNat 32 b).getLsbD i <;> cases (BitVec.ofNat 32 c).getLsbD i <;> rfl
theorem fold_xor3 (f g h : Nat → Nat) (l : List Nat) : ∀ x y z : V, (l.map fun j => f j ^^^ g j ^^^ h j).foldl byteV (x ^^^ y ^^^ z) = (l.map f).foldl byteV x ^^^ (l.map g).foldl byteV y ^^^ (l.map h).foldl byteV z := by
  induction l with
  | nil => intro x y z; rfl
  | cons j l ih => intro x y z; simp only [List.map_cons, List.foldl_cons, byteV_xor3, ih]
theorem xor3_not (p q r : V) : ~~~ p ^^^ ~~~ q ^^^ ~~~ r = ~~~ (p ^^^ q ^^^ r) := by
  apply BitVec.eq_of_getLsbD_eq
  intro i hi
  simp only [BitVec.getLsbD_xor, BitVec.getLsbD_not]
  cases p.getLsbD i <;> cases q.getLsbD i <;> cases r.getLsbD i <;> simp [hi]
theorem parts_pure (s t u : ByteArray) (n : Nat) (h1 : n ≤ s.size) (h2 : n ≤ t.size) (h3 : n ≤ u.size) :
    sumV 0#32 (s.extract 0 n) ^^^ sumV 0#32 (t.extract 0 n) ^^^ sumV 0#32 (u.extract 0 n) = sumV 0#32 (xtext s t u n) := by
  unfold sumV
  rw [xor3_not]
  congr 1
  have ex : nbs (xtext s t u n) = (List.range n).map fun j => (s.data[j]?.getD 0).toNat ^^^ (t.data[j]?.getD 0).toNat ^^^ (u.data[j]?.getD 0).toNat := by
    unfold nbs xtext
    simp only [List.map_map]
    apply List.map_congr_left
    intro j _
    obtain ⟨e1, e2⟩ := xb_nat s t u j
    simp only [Function.comp]
    rw [UInt8.toNat_ofNat_of_lt' (by exact e2), e1]
  rw [ex, nbs_extract, nbs_extract, nbs_extract, List.drop_zero, List.drop_zero, List.drop_zero, take_range s n h1, take_range t n h2, take_range u n h3]
  have h0 : (~~~ 0#32 : V) = ~~~ 0#32 ^^^ ~~~ 0#32 ^^^ ~~~ 0#32 := by decide
  conv => rhs; rw [h0]
  rw [fold_xor3]
theorem xor64 (a b : V) : bXor .i64 (a.toNat : Int) (b.toNat : Int) = ((a ^^^ b).toNat : Int) := by
  show IntKind.i64.wrap ((BitVec.ofInt 64 (a.toNat : Int) ^^^ BitVec.ofInt 64 (b.toNat : Int) : BitVec 64).toNat : Int) = _
  have ha := a.isLt
  have hb := b.isLt
  rw [BitVec.ofInt_natCast, BitVec.ofInt_natCast, BitVec.toNat_xor, BitVec.toNat_xor, BitVec.toNat_ofNat, BitVec.toNat_ofNat, Nat.mod_eq_of_lt (by omega), Nat.mod_eq_of_lt (by omega)]
  have : a.toNat ^^^ b.toNat < 2 ^ 32 := Nat.xor_lt_two_pow ha hb
  exact w64_id (by omega) (by omega)
theorem xtext_size (s t u : ByteArray) (n : Nat) : (xtext s t u n).size = n := by
  show Array.size _ = _
  simp
set_option maxHeartbeats 2000000 in
theorem f4 (s t u : ByteArray) : c0 4 [.t (.sc (.string s)), .t (.sc (.string t)), .t (.sc (.string u))] [] = some (.val (Bo true), []) := by
  rw [c0, cO_eq (R := lore) rfl Try.func4 rfl]
  show endThen _ _ (eO Try.prog h4 _ _ _) = _
  by_cases h1 : 1000 < s.size
  · have e1 : ((1000 : Int) < s.size) = True := by simp; omega
    simp [Try.f4, f15, e1]
  have e1 : ((1000 : Int) < s.size) = False := by simp; omega
  by_cases h2 : 1000 < t.size
  · have e2 : ((1000 : Int) < t.size) = True := by simp; omega
    simp [Try.f4, f15, e1, e2]
  have e2 : ((1000 : Int) < t.size) = False := by simp; omega
  by_cases h3 : 1000 < u.size
  · have e3 : ((1000 : Int) < u.size) = True := by simp; omega
    simp [Try.f4, f15, e1, e2, e3]
  have e3 : ((1000 : Int) < u.size) = False := by simp; omega
  have z1 : (s.size : Int) ≤ 9223372036854775807 := by omega
  have z2 : (t.size : Int) ≤ 9223372036854775807 := by omega
  have z3 : ((s ++ t).size : Int) ≤ 9223372036854775807 := by rw [ByteArray.size_append]; omega
  have z4 : ((9223372036854775807 : Int) < (s.size : Int) + t.size) = False := by simp; omega
  have p1 : moreI (moreI 0 s) t = moreI 0 (s ++ t) := by
    rw [of_V, of_V, moreI_V]
    congr 2
    unfold sumV
    rw [nbs_append, List.foldl_append, BitVec.not_not]
  simp [Try.f4, f15, e1, e2, e3, f16 _ z1, f18 _ _ z2, f16 _ z3, z4, p1]
  have hn : (min (s.size : Int) (min (t.size : Int) (u.size : Int))) = ((min s.size (min t.size u.size) : Nat) : Int) := by omega
  have n1 : min s.size (min t.size u.size) ≤ s.size := by omega
  have n2 : min s.size (min t.size u.size) ≤ t.size := by omega
  have n3 : min s.size (min t.size u.size) ≤ u.size := by omega
  rw [hn]
  generalize min s.size (min t.size u.size) = n at n1 n2 n3
  rw [l4 s t u n n1 n2 n3 (by omega) _ _ (by simp [Try.f4]) _ (by simp [d8_0])]
  have m1 : ((s.extract 0 n).size : Int) ≤ 9223372036854775807 := by rw [ByteArray.size_extract]; omega
  have m2 : ((t.extract 0 n).size : Int) ≤ 9223372036854775807 := by rw [ByteArray.size_extract]; omega
  have m3 : ((u.extract 0 n).size : Int) ≤ 9223372036854775807 := by rw [ByteArray.size_extract]; omega
  have m4 : ((xtext s t u n).size : Int) ≤ 9223372036854775807 := by rw [xtext_size]; omega
  have q1 : ((n : Int) ≤ s.size) = True := by simp; omega
  have q2 : ((n : Int) ≤ t.size) = True := by simp; omega
  have q3 : ((n : Int) ≤ u.size) = True := by simp; omega
  have pp := parts_pure s t u n n1 n2 n3
  have r1 : ∀ x : ByteArray, moreI 0 x = ((sumV 0#32 x).toNat : Int) := of_V
  have pp2 : bXor .i64 (((sumV 0#32 (s.extract 0 n)).toNat ^^^ (sumV 0#32 (t.extract 0 n)).toNat : Nat) : Int) ((sumV 0#32 (u.extract 0 n)).toNat : Int) = ((sumV 0#32 (xtext s t u n)).toNat : Int) := by
    rw [← BitVec.toNat_xor, xor64, pp]
  have hx : (⟨((List.range n).map fun j => UInt8.ofNat (xb s t u j).toNat).toArray⟩ : ByteArray) = xtext s t u n := rfl
  rcases (show (d8 s t u n = .t (.sc (.slice none 0 0)) ∧ n = 0) ∨ d8 s t u n = .own 5 1 (xrow s t u n) by cases n <;> simp [d8_0, d8_s]) with ⟨hd, h0⟩ | hd
  · have hx0 : (⟨#[]⟩ : ByteArray) = xtext s t u n := by rw [h0]; rfl
    rw [hd]
    simp [q1, q2, q3, f16 _ m1, f16 _ m2, f16 _ m3, hx0, f16 _ m4, r1, xor64]
    exact ⟨by kernel_rfl, pp2⟩
  · rw [hd]
    simp [q1, q2, q3, f16 _ m1, f16 _ m2, f16 _ m3, xrow_len, List.take_of_length_le (Nat.le_of_eq (xrow_len s t u n)), d8_el, hx, f16 _ m4, r1, xor64]
    exact ⟨by kernel_rfl, pp2⟩
theorem law_crcParts (x : (Ty.pair .str (.pair .str (.pair .str .unit))).den) (_ : (Ty.pair .str (.pair .str (.pair .str .unit))).wf x) :
    cO Try.prog lore 4 (argDs (.pair .str (.pair .str (.pair .str .unit))) x) [] = some (.val (Bo true), []) := by
  obtain ⟨a, b, c, u⟩ := x
  exact f4 a b c
theorem told : ToldOk Try.prog lore.told := by
  intro f s h
  cases h
end Go.Proofs.Ytidpjpbemhbmbaa
