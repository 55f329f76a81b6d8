/- A part of the road: the interpreter of plain data and the proof that it is right. -/
import Derived.Test.YtidpjpbemhbmbaaS
import Derived.Test.YtidpjpbemhbmbaaG
open Go Go.Proofs Go.Pv
namespace Go.Proofs.Ytidpjpbemhbmbaa
theorem i64_max : IntKind.i64.max = 9223372036854775807 := by rfl
theorem nbs_append (a b : ByteArray) : nbs (a ++ b) = nbs a ++ nbs b := by
  unfold nbs
  rw [ByteArray.data_append]
  simp
theorem nbs_extract (s : ByteArray) (i j : Nat) : nbs (s.extract i j) = ((nbs s).take j).drop i := by
  unfold nbs
  have e : (s.extract i j).data = s.data.extract i j := by simp
  rw [e]
  rw [Array.toList_extract, List.extract_eq_take_drop, List.map_take, List.map_drop, List.drop_take]
theorem ofNat_xor (a b : Nat) : BitVec.ofNat 32 (a ^^^ b) = BitVec.ofNat 32 a ^^^ BitVec.ofNat 32 b := by
  apply BitVec.eq_of_toNat_eq
  simp [BitVec.toNat_ofNat]
theorem byteV_injB {x : V} {a b : Nat} (ha : a < 256) (hb : b < 256) (h : byteV x a = byteV x b) : a = b := by
  unfold byteV at h
  have : stepN 8 ((x ^^^ BitVec.ofNat 32 a) ^^^ (x ^^^ BitVec.ofNat 32 b)) = 0#32 := by rw [stepN_xor, h, BitVec.xor_self]
  have h1 := xor_zero_iff (stepN_zero 8 _ this)
  have h2 : x ^^^ (x ^^^ BitVec.ofNat 32 a) = x ^^^ (x ^^^ BitVec.ofNat 32 b) := by rw [h1]
  rw [← BitVec.xor_assoc, ← BitVec.xor_assoc, BitVec.xor_self, BitVec.zero_xor, BitVec.zero_xor] at h2
  have := congrArg BitVec.toNat h2
  simp only [BitVec.toNat_ofNat] at this
  omega
/-- Four bytes behind a sum. -/
theorem byteV_two (y : V) (j : Nat) (c : V) (b : Nat) (hj : j ≤ 24) (hb : b < 256) :
    byteV (stepN j (y ^^^ c)) b = stepN (j + 8) (y ^^^ c ^^^ (BitVec.ofNat 32 b <<< j)) := by
  unfold byteV
  rw [stepN_add, stepN_xor j (y ^^^ c)]
  congr 2
  rw [stepN_low j]
  · apply BitVec.eq_of_toNat_eq
    rw [BitVec.toNat_ushiftRight, BitVec.toNat_shiftLeft, BitVec.toNat_ofNat]
    have hp : 2 ^ j ≤ 2 ^ 24 := Nat.pow_le_pow_right (by omega) hj
    have hp0 : 0 < 2 ^ j := Nat.pos_of_ne_zero (by simp)
    have hlt : b * 2 ^ j < 2 ^ 32 := by
      calc b * 2 ^ j ≤ 255 * 2 ^ 24 := Nat.mul_le_mul (by omega) hp
        _ < 2 ^ 32 := by decide
    have hbm : b % 2 ^ 32 = b := Nat.mod_eq_of_lt (by omega)
    rw [hbm, Nat.shiftLeft_eq, Nat.mod_eq_of_lt hlt, Nat.shiftRight_eq_div_pow, Nat.mul_div_cancel _ hp0]
  · intro i hi
    simp [hi]
theorem nbs_bytes (v : V) : nbs (bytesI v.toNat) = [v.toNat % 256, v.toNat / 256 % 256, v.toNat / 65536 % 256, v.toNat / 16777216 % 256] := by
  unfold nbs
  rw [bytesI_V]
  simp
theorem four (v : V) : BitVec.ofNat 32 (v.toNat % 256) ^^^ (BitVec.ofNat 32 (v.toNat / 256 % 256) <<< 8) ^^^ (BitVec.ofNat 32 (v.toNat / 65536 % 256) <<< 16) ^^^ (BitVec.ofNat 32 (v.toNat / 16777216 % 256) <<< 24) = v := by
  apply BitVec.eq_of_getLsbD_eq
  intro i hi
  have e0 : (BitVec.ofNat 32 (v.toNat % 256)).getLsbD i = (decide (i < 8) && v.getLsbD i) := by
    rw [BitVec.getLsbD_ofNat, show (256 : Nat) = 2 ^ 8 from rfl, Nat.testBit_mod_two_pow]
    simp [hi, BitVec.getLsbD]
  have e1 : ∀ k j : Nat, k = 2 ^ j → (BitVec.ofNat 32 (v.toNat / k % 256) <<< j).getLsbD i = (!decide (i < j) && decide (i < j + 8) && v.getLsbD i) := by
    rintro k j rfl
    rw [BitVec.getLsbD_shiftLeft, BitVec.getLsbD_ofNat, show (256 : Nat) = 2 ^ 8 from rfl, Nat.testBit_mod_two_pow, Nat.testBit_div_two_pow]
    by_cases h : j ≤ i
    · have h2 : i - j < 32 := by omega
      have h3 : i - j + j = i := by omega
      have h4 : decide (i - j < 8) = decide (i < j + 8) := by
        by_cases h5 : i < j + 8
        · simp [h5]; omega
        · simp [h5]; omega
      simp [hi, h2, h3, h4, BitVec.getLsbD, Nat.not_lt.2 h]
    · simp [Nat.lt_of_not_le h]
  rw [BitVec.getLsbD_xor, BitVec.getLsbD_xor, BitVec.getLsbD_xor, e0, e1 256 8 rfl, e1 65536 16 rfl, e1 16777216 24 rfl]
  cases v.getLsbD i
  · simp
  · by_cases h1 : i < 8
    · simp [h1, show i < 16 by omega, show i < 24 by omega]
    · by_cases h2 : i < 16
      · simp [h1, h2, show i < 24 by omega]
      · by_cases h3 : i < 24
        · simp [h1, h2, h3]
        · simp [h1, h2, h3, hi]
theorem fold4 (y v : V) : (nbs (bytesI v.toNat)).foldl byteV y = stepN 32 (y ^^^ v) := by
  rw [nbs_bytes]
  simp only [List.foldl_cons, List.foldl_nil]
  have h0 : byteV y (v.toNat % 256) = stepN 8 (y ^^^ BitVec.ofNat 32 (v.toNat % 256)) := rfl
  rw [h0, byteV_two y 8 _ _ (by omega) (by omega), BitVec.xor_assoc y, byteV_two y 16 _ _ (by omega) (by omega), BitVec.xor_assoc y, byteV_two y 24 _ _ (by omega) (by omega), BitVec.xor_assoc y]
  rw [four v]
theorem residue (s : ByteArray) : sumV 0#32 (s ++ bytesI (sumV 0#32 s).toNat) = sumV 0#32 (bytesI ((0#32 : V).toNat : Int)) := by
  unfold sumV
  rw [nbs_append, List.foldl_append]
  generalize hy : (nbs s).foldl byteV (~~~ 0#32) = y
  rw [fold4 y (~~~ y), fold4 (~~~ 0#32) 0#32]
  congr 2
  rw [BitVec.xor_zero]
  apply BitVec.eq_of_getLsbD_eq
  intro i hi
  rw [BitVec.getLsbD_xor, BitVec.getLsbD_not, BitVec.getLsbD_not]
  cases y.getLsbD i <;> simp [hi]
theorem of_V (s : ByteArray) : moreI 0 s = ((sumV 0#32 s).toNat : Int) := moreI_V 0#32 s
end Go.Proofs.Ytidpjpbemhbmbaa

open Go Go.Proofs Go.Pv
namespace Go.Proofs.Ytidpjpbemhbmbaa
theorem sees_pure (s : ByteArray) (i : Nat) (hi : i < s.size) (m : Nat) (hm : 1 ≤ m) (hm2 : m ≤ 255) (c : UInt8) (hc : c.toNat = (s.data[i]?.getD 0).toNat ^^^ m) :
    sumV 0#32 s ≠ sumV 0#32 (s.extract 0 i ++ ⟨#[c]⟩ ++ s.extract (i + 1) s.size) := by
  intro h
  unfold sumV at h
  have h := not_inj h
  have hl : (nbs s).length = s.size := by simp [nbs]
  rw [nbs_append, nbs_append, nbs_extract, nbs_extract] at h
  have e1 : nbs s = (nbs s).take i ++ (s.data[i]?.getD 0).toNat :: (nbs s).drop (i + 1) := by
    rw [← nbs_at s i hi, List.take_append_drop]
  have e2 : nbs (⟨#[c]⟩ : ByteArray) = [c.toNat] := rfl
  rw [e2, List.drop_zero, List.take_of_length_le (by omega : (nbs s).length ≤ s.size)] at h
  conv at h => lhs; rw [e1]
  simp only [List.foldl_append, List.foldl_cons, List.foldl_nil] at h
  have h := fold_inj _ h
  have hlt := (s.data[i]?.getD 0).toNat_lt
  have := byteV_injB (by omega) c.toNat_lt h
  rw [hc] at this
  have h2 : (s.data[i]?.getD 0).toNat ^^^ (s.data[i]?.getD 0).toNat = (s.data[i]?.getD 0).toNat ^^^ ((s.data[i]?.getD 0).toNat ^^^ m) := by rw [← this]
  rw [Nat.xor_self, ← Nat.xor_assoc, Nat.xor_self, Nat.zero_xor] at h2
  omega
theorem bytesI_size (n : Int) : (bytesI n).size = 4 := rfl
set_option maxHeartbeats 2000000 in
theorem f5 (s : ByteArray) (at_ mask : Int) : c0 5 [.t (.sc (.string s)), I at_, I mask] [] = some (.val (Bo true), []) := by
  rw [c0, cO_eq (R := lore) rfl Try.func5 rfl]
  show endThen _ _ (eO Try.prog h5 _ _ _) = _
  by_cases hs1 : s.size < 1
  · have h1 : ((s.size : Int) < 1) = True := by simp; omega
    simp [Try.f5, f15, h1]
  have h1 : ((s.size : Int) < 1) = False := by simp; omega
  by_cases hs2 : 1000 < s.size
  · have h2 : ((1000 : Int) < s.size) = True := by simp; omega
    simp [Try.f5, f15, h1, h2]
  have h2 : ((1000 : Int) < s.size) = False := by simp; omega
  by_cases ha : at_ < 0
  · simp [Try.f5, f15, h1, h2, ha]
  by_cases hb : s.size ≤ at_
  · simp [Try.f5, f15, h1, h2, ha, hb]
  by_cases hm : mask < 1
  · simp [Try.f5, f15, h1, h2, ha, hb, hm]
  by_cases hm2 : 255 < mask
  · simp [Try.f5, f15, h1, h2, ha, hb, hm, hm2]
  obtain ⟨i, rfl⟩ : ∃ i : Nat, at_ = i := ⟨at_.toNat, by omega⟩
  obtain ⟨m, rfl⟩ : ∃ m : Nat, mask = m := ⟨mask.toNat, by omega⟩
  have hi : i < s.size := by omega
  have h3 : w64 ((i : Int) + 1) = (i : Int) + 1 := by rw [w64_id] <;> omega
  have h4 : ((i : Int) + 1).toNat = i + 1 := by omega
  have h5 : ((i : Int) + 1 ≤ s.size) = True := by simp; omega
  have h6 : ((i : Int) ≤ s.size) = True := by simp; omega
  have h7 : ((s.size : Int) ≤ i) = False := by simp; omega
  simp [Try.f5, f15, h1, h2, h7, hm, hm2, h3, h4, h5, h6, hi, ba_size]
  have hx : bXor .u8 ((s.data[i]'hi).toNat : Int) (IntKind.u8.wrap m) = ((s.data[i]'hi).toNat ^^^ m : Nat) := by
    show IntKind.u8.wrap ((BitVec.ofInt 8 ((s.data[i]'hi).toNat : Int) ^^^ BitVec.ofInt 8 (IntKind.u8.wrap m) : BitVec 8).toNat : Int) = _
    have e0 : IntKind.u8.wrap (m : Int) = (m : Int) := by rw [u8_wrap]; omega
    have e1 : BitVec.ofInt 8 ((s.data[i]'hi).toNat : Int) = BitVec.ofNat 8 (s.data[i]'hi).toNat := BitVec.ofInt_natCast 8 _
    have e2 : BitVec.ofInt 8 (m : Int) = BitVec.ofNat 8 m := BitVec.ofInt_natCast 8 _
    have hlt := (s.data[i]'hi).toNat_lt
    rw [e0, e1, e2, BitVec.toNat_xor, BitVec.toNat_ofNat, BitVec.toNat_ofNat, Nat.mod_eq_of_lt (a := (s.data[i]'hi).toNat) (by omega), Nat.mod_eq_of_lt (a := m) (by omega), u8_wrap]
    have : (s.data[i]'hi).toNat ^^^ m < 2 ^ 8 := Nat.xor_lt_two_pow (by omega) (by omega)
    omega
  refine ⟨by omega, by omega, by omega, by kernel_rfl, ?_⟩
  generalize ht : s.extract 0 i ++ ({ data := #[UInt8.ofNat (bXor IntKind.u8 ((s.data[i]'hi).toNat : Int) (IntKind.u8.wrap m)).toNat] } : ByteArray) ++ s.extract (i + 1) s.size = t
  have hts : t.size = s.size := by
    rw [← ht]
    simp [ba_size]
    omega
  have hz : (s.size : Int) ≤ 9223372036854775807 := by omega
  have hzt : (t.size : Int) ≤ 9223372036854775807 := by omega
  have hne : sumV 0#32 s ≠ sumV 0#32 t := by
    rw [← ht]
    refine sees_pure s i hi m (by omega) (by omega) _ ?_
    rw [hx]
    have : (s.data[i]'hi).toNat ^^^ m < 2 ^ 8 := Nat.xor_lt_two_pow (s.data[i]'hi).toNat_lt (by omega)
    have hm3 : m % 256 = m := Nat.mod_eq_of_lt (by omega)
    simp [hi, hm3]
  have hne2 : ¬ (((sumV 0#32 s).toNat : Int) = (sumV 0#32 t).toNat) := fun e => hne (toNat_iff.1 e)
  have k1 : ∀ x : ByteArray, x.size ≤ 1000 → ((x ++ bytesI (sumV 0#32 x).toNat).size : Int) ≤ 9223372036854775807 := by
    intro x hx
    rw [ByteArray.size_append, bytesI_size]
    omega
  have r0 : ∀ x : ByteArray, ((sumV 0#32 (x ++ bytesI (sumV 0#32 x).toNat)).toNat : Int) = (sumV 0#32 (bytesI 0)).toNat := fun x => by rw [residue x]; rfl
  have ok0 : okSum 0 = true := by rfl
  have a1 : ((9223372036854775807 : Int) < (s.size : Int) + 4) = False := by simp; omega
  simp [f16 _ hz, f16 _ hzt, of_V, f20, okSum_toNat, hne2, bytesI_size, hts, a1, f16 _ (k1 s (by omega)), f16 _ (k1 t (by omega)), ok0, f16 (bytesI 0) (by rw [bytesI_size]; omega), r0]
end Go.Proofs.Ytidpjpbemhbmbaa
namespace Go.Proofs.Ytidpjpbemhbmbaa
theorem told : ToldOk Try.prog lore.told := by
  intro f s h
  cases h
theorem law_crcTells (x : (Ty.pair (.int .i64) (.pair .str .unit)).den) (hx : (Ty.pair (.int .i64) (.pair .str .unit)).wf x) :
    cO Try.prog lore 3 (argDs (.pair (.int .i64) (.pair .str .unit)) x) [] = some (.val (Bo true), []) := by
  obtain ⟨a, s, u⟩ := x
  refine f3 a s ?_
  have h : s.size ≤ maxLen := hx.2.1
  have h2 : maxLen ≤ 9223372036854775807 := by decide
  omega
theorem law_crcSees (x : (Ty.pair .str (.pair (.int .i64) (.pair (.int .i64) .unit))).den) (_ : (Ty.pair .str (.pair (.int .i64) (.pair (.int .i64) .unit))).wf x) :
    cO Try.prog lore 5 (argDs (.pair .str (.pair (.int .i64) (.pair (.int .i64) .unit))) x) [] = some (.val (Bo true), []) := by
  obtain ⟨s, a, b, u⟩ := x
  exact f5 s a b
theorem law_crcTurns (x : (Ty.pair (.int .i64) (.pair (.int .i64) (.pair .str .unit))).den) (_ : (Ty.pair (.int .i64) (.pair (.int .i64) (.pair .str .unit))).wf x) :
    cO Try.prog lore 6 (argDs (.pair (.int .i64) (.pair (.int .i64) (.pair .str .unit))) x) [] = some (.val (Bo true), []) := by
  obtain ⟨a, b, s, u⟩ := x
  exact f6 a b s
end Go.Proofs.Ytidpjpbemhbmbaa
