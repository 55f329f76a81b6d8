/- A part of the road: the interpreter of plain data and the proof that it is right. -/
import Derived.Test.YtidpjpbemhbmbaaD
import Derived.Test.YtidpjpbemhbmbaaProg
import Derived.Test.YtidpjpbemhbmbaaT
/- Sums: the program's and the document's are one. -/
namespace Go.Pv
theorem u8_wrap (n : Int) : IntKind.u8.wrap n = n % 256 := by simp [IntKind.wrap, IntKind.signed, IntKind.bits]
theorem u32_wrap (n : Int) : IntKind.u32.wrap n = n % 4294967296 := by simp [IntKind.wrap, IntKind.signed, IntKind.bits]
/-- One step of a sum, as the loop has it. -/
def stI (x : Int) : Int := if bAnd .u32 x 1 = 1 then bXor .u32 (iShr .u32 x 1) 3988292384 else iShr .u32 x 1
def itI : Nat → Int → Int
  | 0, x => x
  | k + 1, x => itI k (stI x)
/-- What a byte makes of a sum. -/
def stepB (x b : Int) : Int := bXor .u32 (iShr .u32 x 8) (itI 8 (IntKind.u32.wrap (bXor .u8 (IntKind.u8.wrap x) b).toNat))
def bitI (a b : Int) : Int := if a.tmod 2 = b then w64 (a.tdiv 2) else bXor .i64 (w64 (a.tdiv 2)) 3988292384
def itR : Nat → Int → Int → Int
  | 0, x, _ => x
  | k + 1, x, c => itR k (bitI x (c.tmod 2)) (w64 (c.tdiv 2))

abbrev V := BitVec 32
def stepV (x : V) : V := if x.getLsbD 0 then (x >>> 1) ^^^ 3988292384#32 else x >>> 1
def stepN : Nat → V → V
  | 0, x => x
  | k + 1, x => stepN k (stepV x)
theorem stepV_xor (a b : V) : stepV (a ^^^ b) = stepV a ^^^ stepV b := by
  unfold stepV
  simp only [BitVec.getLsbD_xor, BitVec.ushiftRight_xor_distrib]
  cases a.getLsbD 0 <;> cases b.getLsbD 0 <;> simp
  · rw [BitVec.xor_assoc]
  · rw [BitVec.xor_assoc, BitVec.xor_comm (b >>> 1), ← BitVec.xor_assoc]
  · rw [BitVec.xor_assoc (a >>> 1), BitVec.xor_comm (b >>> 1), ← BitVec.xor_assoc 3988292384#32, BitVec.xor_self, BitVec.zero_xor]
theorem stepN_xor (k : Nat) : ∀ a b : V, stepN k (a ^^^ b) = stepN k a ^^^ stepN k b := by
  induction k with
  | zero => intro a b; rfl
  | succ k ih => intro a b; simp only [stepN, stepV_xor, ih]
theorem stepN_succ (k : Nat) : ∀ a : V, stepN (k + 1) a = stepV (stepN k a) := by
  induction k with
  | zero => intro a; rfl
  | succ k ih => intro a; rw [stepN, ih]; rfl
theorem stepN_add (j k : Nat) : ∀ a : V, stepN (j + k) a = stepN k (stepN j a) := by
  induction j with
  | zero => intro a; rw [Nat.zero_add]; rfl
  | succ j ih => intro a; rw [show j + 1 + k = (j + k) + 1 by omega, stepN, ih]; rfl
/-- Where the lowest bits are not set they are shifted out. -/
theorem stepN_low (k : Nat) (a : V) (h : ∀ i, i < k → a.getLsbD i = false) : stepN k a = a >>> k := by
  induction k with
  | zero => simp [stepN]
  | succ k ih =>
    rw [stepN_succ, ih fun i hi => h i (by omega)]
    have : (a >>> k).getLsbD 0 = false := by simp [h k (by omega)]
    unfold stepV
    rw [this]
    simp only [Bool.false_eq_true, if_false, BitVec.shiftRight_add]

/-! ### numbers as they are kept -/
theorem toInt_ofInt (v : V) : BitVec.ofInt 32 (v.toNat : Int) = v := by simp
theorem bXor32 (a b : V) : bXor .u32 a.toNat b.toNat = (a ^^^ b).toNat := by
  show IntKind.u32.wrap ((BitVec.ofInt 32 (a.toNat : Int) ^^^ BitVec.ofInt 32 (b.toNat : Int) : V).toNat : Int) = _
  rw [toInt_ofInt, toInt_ofInt, u32_wrap]
  have := (a ^^^ b).isLt
  omega
theorem bAnd32 (a b : V) : bAnd .u32 a.toNat b.toNat = (a &&& b).toNat := by
  show IntKind.u32.wrap ((BitVec.ofInt 32 (a.toNat : Int) &&& BitVec.ofInt 32 (b.toNat : Int) : V).toNat : Int) = _
  rw [toInt_ofInt, toInt_ofInt, u32_wrap]
  have := (a &&& b).isLt
  omega
theorem iShr32 (a : V) (n : Nat) (h : n ≤ 32) : iShr .u32 a.toNat n = (a >>> n).toNat := by
  unfold iShr
  have : min ((n : Int)).toNat (IntKind.bits .u32) = n := by show min n 32 = n; omega
  rw [this, BitVec.toNat_ushiftRight, Nat.shiftRight_eq_div_pow]
  rw [Int.fdiv_eq_ediv_of_nonneg _ (by exact Int.le_of_lt (Int.pow_pos (by decide)))]
  norm_cast
theorem stI_V (a : V) : stI a.toNat = (stepV a).toNat := by
  have h1 : bAnd .u32 a.toNat 1 = (a &&& 1#32).toNat := bAnd32 a 1#32
  have h2 : iShr .u32 a.toNat 1 = (a >>> 1).toNat := iShr32 a 1 (by omega)
  have h3 : bXor .u32 ((a >>> 1).toNat : Int) 3988292384 = ((a >>> 1) ^^^ 3988292384#32).toNat := bXor32 (a >>> 1) 3988292384#32
  have h4 : a.getLsbD 0 = decide (a.toNat % 2 = 1) := by simp [BitVec.getLsbD, Nat.testBit_zero]
  have h5 : (a &&& 1#32).toNat = a.toNat % 2 := by rw [BitVec.toNat_and]; exact Nat.and_one_is_mod _
  unfold stI stepV
  rw [h1, h2, h3, h4, h5]
  by_cases h : a.toNat % 2 = 1
  · rw [if_pos (by omega), if_pos (by simpa using h)]
  · rw [if_neg (by omega), if_neg (by simpa using h)]
theorem itI_V (k : Nat) : ∀ a : V, itI k a.toNat = (stepN k a).toNat := by
  induction k with
  | zero => intro a; rfl
  | succ k ih => intro a; rw [itI, stI_V, ih]; rfl

/-! ### a byte -/
def byteV (x : V) (b : Nat) : V := stepN 8 (x ^^^ BitVec.ofNat 32 b)
theorem split8 (y : V) : y = (y &&& 0xffffff00#32) ^^^ (y &&& 0xff#32) := by
  have h : ∀ i, i < 32 → (0xffffff00#32 : V).getLsbD i = !(0xff#32 : V).getLsbD i := by decide
  apply BitVec.eq_of_getLsbD_eq
  intro i hi
  rw [BitVec.getLsbD_xor, BitVec.getLsbD_and, BitVec.getLsbD_and, h i hi]
  cases y.getLsbD i <;> cases (0xff#32 : V).getLsbD i <;> rfl
theorem byteV_tab (x : V) (b : Nat) (hb : b < 256) : byteV x b = (x >>> 8) ^^^ stepN 8 ((x ^^^ BitVec.ofNat 32 b) &&& 0xff#32) := by
  unfold byteV
  generalize hy : x ^^^ BitVec.ofNat 32 b = y
  have h1 : (y &&& 0xffffff00#32) >>> 8 = x >>> 8 := by
    have hm : ∀ i, i < 24 → (0xffffff00#32 : V).getLsbD (8 + i) = true := by decide
    have hbz : (BitVec.ofNat 32 b) >>> 8 = 0#32 := by
      apply BitVec.eq_of_toNat_eq
      rw [BitVec.toNat_ushiftRight, Nat.shiftRight_eq_div_pow]
      simp
      omega
    have h2 : y >>> 8 = x >>> 8 := by rw [← hy, BitVec.ushiftRight_xor_distrib, hbz, BitVec.xor_zero]
    rw [← h2]
    apply BitVec.eq_of_getLsbD_eq
    intro i hi
    rw [BitVec.getLsbD_ushiftRight, BitVec.getLsbD_ushiftRight, BitVec.getLsbD_and]
    by_cases h : i < 24
    · rw [hm i h, Bool.and_true]
    · have : y.getLsbD (8 + i) = false := BitVec.getLsbD_of_ge _ _ (by omega)
      rw [this]; rfl
  conv => lhs; rw [split8 y]
  rw [stepN_xor, stepN_low 8 (y &&& 0xffffff00#32), h1]
  intro i hi
  have hm : ∀ i, i < 8 → (0xffffff00#32 : V).getLsbD i = false := by decide
  rw [BitVec.getLsbD_and, hm i hi, Bool.and_false]
theorem stepB_V (x : V) (b : Nat) (hb : b < 256) : stepB x.toNat b = (byteV x b).toNat := by
  have h1 : iShr .u32 x.toNat 8 = (x >>> 8).toNat := iShr32 x 8 (by omega)
  have h2 : bXor .u8 (IntKind.u8.wrap x.toNat) b = (((x ^^^ BitVec.ofNat 32 b) &&& 0xff#32).toNat : Int) := by
    show IntKind.u8.wrap ((BitVec.ofInt 8 (IntKind.u8.wrap x.toNat) ^^^ BitVec.ofInt 8 (b : Int) : BitVec 8).toNat : Int) = _
    rw [u8_wrap, u8_wrap]
    have e1 : BitVec.ofInt 8 ((x.toNat : Int) % 256) = BitVec.ofNat 8 x.toNat := by
      apply BitVec.eq_of_toNat_eq
      rw [BitVec.toNat_ofInt, BitVec.toNat_ofNat]
      omega
    have e2 : BitVec.ofInt 8 (b : Int) = BitVec.ofNat 8 b := by simp
    rw [e1, e2]
    have e3 : (BitVec.ofNat 8 x.toNat ^^^ BitVec.ofNat 8 b).toNat = ((x ^^^ BitVec.ofNat 32 b) &&& 0xff#32).toNat := by
      rw [BitVec.toNat_xor, BitVec.toNat_and, BitVec.toNat_xor, BitVec.toNat_ofNat, BitVec.toNat_ofNat, BitVec.toNat_ofNat, Nat.mod_eq_of_lt hb, Nat.mod_eq_of_lt (a := b) (b := 2 ^ 32) (by omega)]
      show _ = (x.toNat ^^^ b) &&& 255
      rw [show (255 : Nat) = 2 ^ 8 - 1 from rfl, Nat.and_two_pow_sub_one_eq_mod, Nat.xor_mod_two_pow, Nat.mod_eq_of_lt (a := b) (b := 2 ^ 8) hb]
    rw [e3]
    have : ((x ^^^ BitVec.ofNat 32 b) &&& 0xff#32).toNat ≤ 255 := by
      rw [BitVec.toNat_and]; exact Nat.and_le_right
    omega
  have h3 : ∀ z : V, IntKind.u32.wrap ((z.toNat : Int).toNat : Int) = z.toNat := by
    intro z
    rw [u32_wrap]
    have := z.isLt
    omega
  unfold stepB
  rw [h1, h2, h3, itI_V, bXor32, byteV_tab x b hb]
/-! ### bit by bit -/
theorem bitI_V (x : V) (b : Nat) (hb : b < 2) : bitI x.toNat b = (stepV (x ^^^ BitVec.ofNat 32 b)).toNat := by
  have hx := x.isLt
  have h1 : ((x.toNat : Int).tmod 2) = ((x.toNat % 2 : Nat) : Int) := by rw [Int.tmod_eq_emod_of_nonneg (by omega)]; norm_cast
  have h2 : w64 ((x.toNat : Int).tdiv 2) = ((x >>> 1).toNat : Int) := by
    rw [Int.tdiv_eq_ediv_of_nonneg (by omega), BitVec.toNat_ushiftRight, Nat.shiftRight_eq_div_pow]
    rw [w64_id] <;> omega
  have h3 : bXor .i64 ((x >>> 1).toNat : Int) 3988292384 = (((x >>> 1) ^^^ 3988292384#32).toNat : Int) := by
    show IntKind.i64.wrap ((BitVec.ofInt 64 ((x >>> 1).toNat : Int) ^^^ BitVec.ofInt 64 3988292384 : BitVec 64).toNat : Int) = _
    have e1 : BitVec.ofInt 64 ((x >>> 1).toNat : Int) = BitVec.ofNat 64 (x >>> 1).toNat := BitVec.ofInt_natCast 64 _
    rw [e1, BitVec.toNat_xor, BitVec.toNat_xor, BitVec.toNat_ofNat, Nat.mod_eq_of_lt (by have := (x >>> 1).isLt; omega)]
    have hlt : ((x >>> 1) ^^^ 3988292384#32).toNat < 4294967296 := ((x >>> 1) ^^^ 3988292384#32).isLt
    rw [BitVec.toNat_xor] at hlt
    have e2 : (BitVec.ofInt 64 3988292384).toNat = (3988292384#32 : V).toNat := by decide
    rw [e2]
    exact w64_id (by omega) (by omega)
  have h4 : (x ^^^ BitVec.ofNat 32 b).getLsbD 0 = decide (x.toNat % 2 ≠ b) := by
    rw [BitVec.getLsbD_xor]
    simp only [BitVec.getLsbD, Nat.testBit_zero, BitVec.toNat_ofNat]
    rcases (show b = 0 ∨ b = 1 by omega) with rfl | rfl <;> rcases Nat.mod_two_eq_zero_or_one x.toNat with h | h <;> simp [h]
  have h5 : (x ^^^ BitVec.ofNat 32 b) >>> 1 = x >>> 1 := by
    have : (BitVec.ofNat 32 b) >>> 1 = 0#32 := by
      rcases (show b = 0 ∨ b = 1 by omega) with rfl | rfl <;> decide
    rw [BitVec.ushiftRight_xor_distrib, this, BitVec.xor_zero]
  unfold bitI stepV
  rw [h1, h2, h3, h4, h5]
  by_cases h : x.toNat % 2 = b
  · rw [if_pos (by omega), if_neg (by simpa using h)]
  · rw [if_neg (by omega), if_pos (by simpa using h)]
theorem itR_V (k : Nat) : ∀ (x : V) (b : Nat), b < 2 ^ k → k ≤ 31 → itR k x.toNat b = (stepN k (x ^^^ BitVec.ofNat 32 b)).toNat := by
  induction k with
  | zero =>
    intro x b hb _
    have : b = 0 := by omega
    subst this
    simp [itR, stepN]
  | succ k ih =>
    intro x b hb hk
    have hp : 2 ^ (k + 1) ≤ 2 ^ 31 := Nat.pow_le_pow_right (by omega) hk
    rw [itR]
    have h1 : ((b : Int).tmod 2) = ((b % 2 : Nat) : Int) := by rw [Int.tmod_eq_emod_of_nonneg (by omega)]; norm_cast
    have h2 : w64 ((b : Int).tdiv 2) = ((b / 2 : Nat) : Int) := by
      rw [Int.tdiv_eq_ediv_of_nonneg (by omega)]
      rw [w64_id] <;> omega
    rw [h1, h2, bitI_V x (b % 2) (by omega), ih _ (b / 2) (by rw [Nat.pow_succ] at hb; omega) (by omega)]
    have h3 : BitVec.ofNat 32 b = BitVec.ofNat 32 (b % 2) ^^^ BitVec.ofNat 32 (2 * (b / 2)) := by
      apply BitVec.eq_of_toNat_eq
      have a1 : b % 2 ^ 32 = b := Nat.mod_eq_of_lt (by omega)
      have a2 : b % 2 % 2 ^ 32 = b % 2 := Nat.mod_eq_of_lt (by omega)
      have a3 : 2 * (b / 2) % 2 ^ 32 = 2 * (b / 2) := Nat.mod_eq_of_lt (by omega)
      rw [BitVec.toNat_xor, BitVec.toNat_ofNat, BitVec.toNat_ofNat, BitVec.toNat_ofNat, a1, a2, a3]
      apply Nat.eq_of_testBit_eq
      intro i
      rw [Nat.testBit_xor]
      cases i with
      | zero => simp [Nat.testBit_zero]
      | succ i =>
        have e : (b % 2) / 2 = 0 := by omega
        simp [Nat.testBit_succ, e]
    have h4 : stepV (BitVec.ofNat 32 (2 * (b / 2))) = BitVec.ofNat 32 (b / 2) := by
      unfold stepV
      have e : (BitVec.ofNat 32 (2 * (b / 2))).getLsbD 0 = false := by
        simp only [BitVec.getLsbD, Nat.testBit_zero, BitVec.toNat_ofNat]
        simp
      rw [e]
      apply BitVec.eq_of_toNat_eq
      simp only [Bool.false_eq_true, if_false]
      rw [BitVec.toNat_ushiftRight, Nat.shiftRight_eq_div_pow, BitVec.toNat_ofNat, BitVec.toNat_ofNat]
      omega
    rw [stepN, h3, ← BitVec.xor_assoc, stepV_xor (x ^^^ BitVec.ofNat 32 (b % 2)), h4]
theorem itR8_V (x : V) (b : Nat) (hb : b < 256) : itR 8 x.toNat b = (byteV x b).toNat := itR_V 8 x b hb (by omega)
theorem fold_V {f : Int → Int → Int} (hf : ∀ (x : V) (b : Nat), b < 256 → f x.toNat b = (byteV x b).toNat) : ∀ (l : List Nat) (x : V), (∀ b ∈ l, b < 256) → (l.map fun b : Nat => (b : Int)).foldl f x.toNat = ((l.foldl byteV x).toNat : Int) := by
  intro l
  induction l with
  | nil => intro x _; rfl
  | cons b l ih =>
    intro x h
    rw [List.map_cons, List.foldl_cons, hf x b (h b List.mem_cons_self), ih _ fun b' hb' => h b' (List.mem_cons_of_mem _ hb')]
    rfl
end Go.Pv

open Go Go.Proofs Go.Pv
namespace Go.Proofs.Ytidpjpbemhbmbaa
def lore : Lore := ⟨hints, fun _ => none⟩
noncomputable abbrev c0 : Pv.Callee := cO Try.prog lore
/-- A sum? -/
def okSum (n : Int) : Bool := decide (0 ≤ n) && decide (n ≤ 4294967295)
theorem f48 (n : Int) : c0 48 [I n] [] = some (.val (Bo (okSum n)), []) := by
  rw [c0, cO_eq (R := lore) rfl Try.func48 rfl]
  show endThen _ _ (eO Try.prog h48 _ _ _) = _
  simp [Try.f48, okSum]
  split <;> simp_all <;> omega
theorem f22 (n : Int) : c0 22 [I n] [] = some (.val (Bo (okSum n)), []) := by
  rw [c0, cO_eq (R := lore) rfl Try.func22 rfl]
  show endThen _ _ (eO Try.prog h22 _ _ _) = _
  simp [Try.f22, okSum]
  split
  · simp_all; omega
  · simp_all; omega
theorem f50 (a b : Int) : c0 50 [I a, I b] [] = some (.val (I (bitI a b)), []) := by
  rw [c0, cO_eq (R := lore) rfl Try.func50 rfl]
  show endThen _ _ (eO Try.prog h50 _ _ _) = _
  simp [Try.f50, bitI]
  split <;> rfl

def bytesI (a : Int) : ByteArray := ⟨#[UInt8.ofNat (IntKind.u8.wrap a).toNat, UInt8.ofNat (IntKind.u8.wrap (iShr IntKind.i64 a 8)).toNat, UInt8.ofNat (IntKind.u8.wrap (iShr IntKind.i64 a 16)).toNat, UInt8.ofNat (IntKind.u8.wrap (iShr IntKind.i64 a 24)).toNat]⟩
theorem f20 (a : Int) : c0 20 [I a] [] = some (.val (.t (.sc (.string (if okSum a then bytesI a else ⟨#[]⟩)))), []) := by
  rw [c0, cO_eq (R := lore) rfl Try.func20 rfl]
  show endThen _ _ (eO Try.prog h20 _ _ _) = _
  simp [Try.f20, f48, bytesI]
  cases okSum a <;> rfl
def bytesR (a : Int) : ByteArray := ⟨#[UInt8.ofNat (IntKind.u8.wrap (a.tmod 256)).toNat, UInt8.ofNat (IntKind.u8.wrap ((w64 (a.tdiv 256)).tmod 256)).toNat, UInt8.ofNat (IntKind.u8.wrap ((w64 (a.tdiv 65536)).tmod 256)).toNat, UInt8.ofNat (IntKind.u8.wrap (w64 (a.tdiv 16777216))).toNat]⟩
theorem f21 (a : Int) : c0 21 [I a] [] = some (.val (.t (.sc (.string (if okSum a then bytesR a else ⟨#[]⟩)))), []) := by
  rw [c0, cO_eq (R := lore) rfl Try.func21 rfl]
  show endThen _ _ (eO Try.prog h21 _ _ _) = _
  simp [Try.f21, f22, bytesR]
  cases okSum a <;> rfl
def zb : List T := List.replicate 256 (.sc (.int .u32 0))
abbrev tU (n : Int) : T := .sc (.int .u32 n)
theorem l49i (C : Pv.Callee) (i : Nat) (l : List T) (k : Nat) (x : Int) (hk : k ≤ 8) (c : Code) (hc : c = loopN Try.f49 1) (σ : St) (hσ : norm (h49.at c) σ = mkS 25 [(0, .lp 0 0), (1, .lp 1 0), (2, I i), (3, .t (tU x)), (4, I i), (9, I k)] [(0, dts zb), (1, dts l)]) :
    eO Try.prog h49 C (.loop c) σ = some (.exit 2, mkS 25 [(0, .lp 0 0), (1, .lp 1 0), (2, I i), (3, .t (tU (itI (8 - k) x))), (4, I i), (9, I 8), (10, .t (.sc (.bool false)))] [(0, dts zb), (1, dts l)]) := by
  subst hc
  refine loop_step (A := Nat × Int) (fun a => mkS 25 [(0, .lp 0 0), (1, .lp 1 0), (2, I i), (3, .t (tU a.2)), (4, I i), (9, I a.1)] [(0, dts zb), (1, dts l)])
    (fun a => (.exit 2, mkS 25 [(0, .lp 0 0), (1, .lp 1 0), (2, I i), (3, .t (tU (itI (8 - a.1) a.2))), (4, I i), (9, I 8), (10, .t (.sc (.bool false)))] [(0, dts zb), (1, dts l)])) (fun a => 8 - a.1) (fun a => a.1 ≤ 8) ?_ (fun _ => by simp) (k, x) hk σ hσ
  rintro ⟨k, x⟩ hk
  by_cases h : k < 8
  · have h1 : ((k : Int) < 8) = True := by simp; omega
    have h2 : w64 ((k : Int) + 1) = (k : Int) + 1 := by rw [w64_id] <;> omega
    have h3 : itI (7 - k) (stI x) = itI (8 - k) x := by
      rw [show 8 - k = 7 - k + 1 by omega]; rfl
    simp only at hk
    simp [Try.f49, h1, h2]
    split
    · refine ⟨k + 1, stI x, ?_⟩
      have hs : bXor .u32 (iShr .u32 x 1) 3988292384 = stI x := by simp [stI, *]
      exact ⟨⟨hs, by omega⟩, by omega, by omega, by rw [show 8 - (k + 1) = 7 - k by omega]; exact h3⟩
    · refine ⟨k + 1, stI x, ?_⟩
      have hs : iShr .u32 x 1 = stI x := by simp [stI, *]
      exact ⟨⟨hs, by omega⟩, by omega, by omega, by rw [show 8 - (k + 1) = 7 - k by omega]; exact h3⟩
  · have : k = 8 := by simp only at hk; omega
    subst this
    simp [Try.f49, itI]
def tE (i : Nat) : T := tU (itI 8 (IntKind.u32.wrap i))
def tbl (i : Nat) : List T := (List.range i).map tE ++ List.replicate (256 - i) (tU 0)
theorem tbl_len (i : Nat) (h : i ≤ 256) : (tbl i).length = 256 := by simp [tbl]; omega
theorem tbl_set (i : Nat) (h : i < 256) : (tbl i).take i ++ tE i :: (tbl i).drop (i + 1) = tbl (i + 1) := by
  unfold tbl
  rw [List.take_append_of_le_length (by simp), List.take_of_length_le (by simp), List.drop_append]
  rw [List.drop_eq_nil_of_le (by simp)]
  simp [List.range_succ]
  rw [show 256 - i - 1 = 255 - i by omega]
theorem l49o (C : Pv.Callee) (c : Code) (hc : c = loopN Try.f49 0) (σ : St) (hσ : norm (h49.at c) σ = mkS 25 [(0, .lp 0 0), (1, .lp 1 0), (4, I 0)] [(0, dts zb), (1, dts (tbl 0))]) :
    eO Try.prog h49 C (.loop c) σ = some (.exit 0, mkS 25 [(0, .lp 0 0), (1, .lp 1 0), (4, I 256), (5, .t (.sc (.bool false)))] [(0, dts zb), (1, dts (tbl 256))]) := by
  subst hc
  refine loop_step (A := Nat) (fun i => mkS 25 [(0, .lp 0 0), (1, .lp 1 0), (4, I i)] [(0, dts zb), (1, dts (tbl i))])
    (fun _ => (.exit 0, mkS 25 [(0, .lp 0 0), (1, .lp 1 0), (4, I 256), (5, .t (.sc (.bool false)))] [(0, dts zb), (1, dts (tbl 256))])) (fun a => 256 - a) (fun a => a ≤ 256) ?_ (fun _ => by simp) 0 (by omega) σ hσ
  intro i hi
  by_cases h : i < 256
  · have h1 : ((i : Int) < 256) = True := by simp; omega
    have h2 : w64 ((i : Int) + 1) = ((i + 1 : Nat) : Int) := by rw [w64_id] <;> omega
    simp [Try.f49, h1]
    rw [l49i C i (tbl i) 0 (IntKind.u32.wrap i) (by omega) _ (by simp [Try.f49]) _ (by simp)]
    simp [h1, h2, tbl_len i hi]
    exact ⟨by omega, i + 1, ⟨by omega, by rw [← tbl_set i h]; rfl⟩, by omega, by omega⟩
  · have : i = 256 := by omega
    subst this
    simp [Try.f49]


theorem zb_len : zb.length = 256 := by simp only [zb, List.length_replicate]
theorem zero64 : (Go.Pv.zeroOf Try.prog 64).map (fun v => D.t (T.sc v)) = dts zb := by rw [zeroOf64, List.map_replicate]; exact dts_rep _ _
theorem f49 : c0 49 [] [] = some (.val (.agg (dts (tbl 256))), []) := by
  rw [c0, cO_eq (R := lore) rfl Try.func49 rfl]
  show endThen _ _ (eO Try.prog h49 _ _ _) = _
  simp [Try.f49, zero64]
  rw [l49o _ _ (by simp [Try.f49]) _ (by simp; rfl)]
  have e : List.take 256 (tbl 256) = tbl 256 := List.take_of_length_le (by rw [tbl_len 256 (Nat.le_refl _)]; exact Nat.le_refl _)
  have e2 : List.drop 256 zb = [] := List.drop_eq_nil_of_le (by rw [zb_len]; exact Nat.le_refl _)
  simp [tbl_len, zb_len, e, e2]
def nbs (s : ByteArray) : List Nat := s.data.toList.map (·.toNat)
def bts (s : ByteArray) : List Int := (nbs s).map fun b : Nat => (b : Int)
theorem bXor8_ge (a b : Int) : (0 ≤ bXor .u8 a b) = True := by simp only [bXor, u8_wrap, eq_iff_iff, iff_true]; omega
theorem bXor8_lt (a b : Int) : (bXor .u8 a b < 256) = True := by simp only [bXor, u8_wrap, eq_iff_iff, iff_true]; omega
theorem bXor8_nat (a b : Int) : ((bXor .u8 a b).toNat + 1 ≤ 256) = True := by simp only [bXor, u8_wrap, eq_iff_iff, iff_true]; omega
theorem tb1 (o : Nat) (h : o + 1 ≤ 256) : (List.drop o (tbl 256)).take 1 = [tE o] := by
  have hl : o < (tbl 256).length := by rw [tbl_len 256 (Nat.le_refl _)]; omega
  rw [List.drop_eq_getElem_cons hl, List.take_succ_cons, List.take_zero]
  simp [tbl]
theorem bts_at (s : ByteArray) (i : Nat) (h : i < s.size) : (bts s).drop i = ((s.data[i]?.getD 0).toNat : Int) :: (bts s).drop (i + 1) := by
  have hl : i < (bts s).length := by simpa [bts, nbs] using h
  rw [List.drop_eq_getElem_cons hl]
  have : s.data[i]? = some (s.data[i]'h) := Array.getElem?_eq_getElem h
  simp [bts, nbs, this]
theorem bts_len (s : ByteArray) : (bts s).length = s.size := by simp [bts, nbs]
theorem l18 (C : Pv.Callee) (s : ByteArray) (hs : (s.size : Int) ≤ 9223372036854775807) (x : Int) (c : Code) (hc : c = loopN Try.f18 0) (σ : St) (hσ : norm (h18.at c) σ = mkS 35 [(1, .t (.sc (.string s))), (5, .lp 5 0), (6, .t (tU x)), (16, I s.size), (17, I 0)] [(5, dts (tbl 256))]) :
    eO Try.prog h18 C (.loop c) σ = some (.exit 0, mkS 35 [(1, .t (.sc (.string s))), (5, .lp 5 0), (6, .t (tU ((bts s).foldl stepB x))), (16, I s.size), (17, I s.size), (18, Bo false)] [(5, dts (tbl 256))]) := by
  subst hc
  refine loop_step (A := Nat × Int) (fun a => mkS 35 [(1, .t (.sc (.string s))), (5, .lp 5 0), (6, .t (tU a.2)), (16, I s.size), (17, I a.1)] [(5, dts (tbl 256))])
    (fun a => (.exit 0, mkS 35 [(1, .t (.sc (.string s))), (5, .lp 5 0), (6, .t (tU (((bts s).drop a.1).foldl stepB a.2))), (16, I s.size), (17, I s.size), (18, Bo false)] [(5, dts (tbl 256))])) (fun a => s.size - a.1) (fun a => a.1 ≤ s.size) ?_ (fun _ => by simp) (0, x) (by simp) σ hσ
  rintro ⟨i, x⟩ hi
  simp only at hi
  by_cases h : i < s.size
  · have h1 : ((i : Int) < s.size) = True := by simp; omega
    have h2 : w64 ((i : Int) + 1) = (i : Int) + 1 := by rw [w64_id] <;> omega
    simp [Try.f18, h1, h2, bXor8_ge, bXor8_lt, bXor8_nat, tbl_len, tb1, h, tE]
    refine ⟨i + 1, stepB x (s.data[i]?.getD 0).toNat, ?_⟩
    rw [bts_at s i h, List.foldl_cons]
    exact ⟨⟨by simp [stepB, h], by omega⟩, by omega, by omega, rfl⟩
  · have : i = s.size := by omega
    subst this
    have e : (bts s).drop s.size = [] := List.drop_eq_nil_of_le (by rw [bts_len]; exact Nat.le_refl _)
    simp [Try.f18, e]
end Go.Proofs.Ytidpjpbemhbmbaa

open Go Go.Proofs Go.Pv
namespace Go.Proofs.Ytidpjpbemhbmbaa

theorem u32_max : (if IntKind.u32.signed = true then -1 else IntKind.u32.max) = 4294967295 := by rfl
def moreI (a : Int) (s : ByteArray) : Int := if okSum a then w64 (bXor .u32 4294967295 ((bts s).foldl stepB (bXor .u32 4294967295 (IntKind.u32.wrap a)))) else 0
theorem f18 (a : Int) (s : ByteArray) (hs : (s.size : Int) ≤ 9223372036854775807) : c0 18 [I a, .t (.sc (.string s))] [] = some (.val (I (moreI a s)), []) := by
  rw [c0, cO_eq (R := lore) rfl Try.func18 rfl]
  show endThen _ _ (eO Try.prog h18 _ _ _) = _
  simp [Try.f18, f48, f49, zero64, tbl_len, zb_len, u32_max]
  cases ho : okSum a with
  | false => simp [moreI, ho]
  | true =>
    have e : List.drop 256 zb = [] := List.drop_eq_nil_of_le (by rw [zb_len]; exact Nat.le_refl _)
    rw [if_neg (by simp), l18 _ s hs _ _ (by simp [Try.f18]) _ (by simp [e]; rfl)]
    simp [moreI, ho, u32_max]
theorem f16 (s : ByteArray) (hs : (s.size : Int) ≤ 9223372036854775807) : c0 16 [.t (.sc (.string s))] [] = some (.val (I (moreI 0 s)), []) := by
  rw [c0, cO_eq (R := lore) rfl Try.func16 rfl]
  show endThen _ _ (eO Try.prog h16 _ _ _) = _
  simp [Try.f16, f18, hs]

def itC : Nat → Int → Int
  | 0, c => c
  | k + 1, c => itC k (w64 (c.tdiv 2))
theorem l19i (i : Nat) (s : ByteArray) (x b : Int) (c : Code) (hc : c = loopN Try.f19 1) (σ : St) (hσ : norm (h19.at c) σ = mkS 35 [(0, I x), (1, .t (.sc (.string s))), (5, I i), (6, I b), (7, I 0)] []) :
    eO Try.prog h19 c0 (.loop c) σ = some (.exit 2, mkS 35 [(0, I (itR 8 x b)), (1, .t (.sc (.string s))), (5, I i), (6, I (itC 8 b)), (7, I 8), (23, I 8), (24, Bo false)] []) := by
  subst hc
  refine loop_step (A := Nat × Int × Int) (fun a => mkS 35 [(0, I a.2.1), (1, .t (.sc (.string s))), (5, I i), (6, I a.2.2), (7, I a.1)] [])
    (fun a => (.exit 2, mkS 35 [(0, I (itR (8 - a.1) a.2.1 a.2.2)), (1, .t (.sc (.string s))), (5, I i), (6, I (itC (8 - a.1) a.2.2)), (7, I 8), (23, I 8), (24, Bo false)] [])) (fun a => 8 - a.1) (fun a => a.1 ≤ 8) ?_ (fun _ => by simp) (0, x, b) (by simp) σ hσ
  rintro ⟨k, x, b⟩ hi
  simp only at hi
  by_cases h : k < 8
  · have h1 : ((k : Int) < 8) = True := by simp; omega
    have h2 : w64 ((k : Int) + 1) = (k : Int) + 1 := by rw [w64_id] <;> omega
    simp [Try.f19, h1, h2, f50]
    refine ⟨k + 1, bitI x (b.tmod 2), w64 (b.tdiv 2), ?_⟩
    rw [show 8 - k = 8 - (k + 1) + 1 by omega]
    exact ⟨⟨rfl, rfl, by omega⟩, by omega, by omega, rfl, rfl⟩
  · have : k = 8 := by omega
    subst this
    simp [Try.f19, itR, itC]
theorem l19o (s : ByteArray) (hs : (s.size : Int) ≤ 9223372036854775807) (x : Int) (c : Code) (hc : c = loopN Try.f19 0) (σ : St) (hσ : norm (h19.at c) σ = mkS 35 [(0, I x), (1, .t (.sc (.string s))), (5, I 0)] []) :
    eO Try.prog h19 c0 (.loop c) σ = some (.exit 0, mkS 35 [(0, I ((bts s).foldl (itR 8) x)), (1, .t (.sc (.string s))), (5, I s.size), (13, I s.size), (14, .t (.sc (.string s))), (15, I s.size), (16, Bo false)] []) := by
  subst hc
  refine loop_step (A := Nat × Int) (fun a => mkS 35 [(0, I a.2), (1, .t (.sc (.string s))), (5, I a.1)] [])
    (fun a => (.exit 0, mkS 35 [(0, I (((bts s).drop a.1).foldl (itR 8) a.2)), (1, .t (.sc (.string s))), (5, I s.size), (13, I s.size), (14, .t (.sc (.string s))), (15, I s.size), (16, Bo false)] [])) (fun a => s.size - a.1) (fun a => a.1 ≤ s.size) ?_ (fun _ => by simp) (0, x) (by simp) σ hσ
  rintro ⟨i, x⟩ hi
  simp only at hi
  by_cases h : i < s.size
  · have h1 : ((i : Int) < s.size) = True := by simp; omega
    have h2 : w64 ((i : Int) + 1) = (i : Int) + 1 := by rw [w64_id] <;> omega
    have h3 : w64 ((s.data[i]?.getD 0).toNat : Int) = ((s.data[i]?.getD 0).toNat : Int) := by
      have := (s.data[i]?.getD 0).toNat_lt
      rw [w64_id] <;> omega
    simp [Try.f19, h1, h]
    rw [l19i i s x (s.data[i]?.getD 0).toNat _ (by simp [Try.f19]) _ (by simp [h]; simpa [h] using h3)]
    simp [h2]
    refine ⟨i + 1, itR 8 x (s.data[i]?.getD 0).toNat, ?_⟩
    rw [bts_at s i h, List.foldl_cons]
    exact ⟨⟨rfl, by omega⟩, by omega, by omega, rfl⟩
  · have : i = s.size := by omega
    subst this
    have e : (bts s).drop s.size = [] := List.drop_eq_nil_of_le (by rw [bts_len]; exact Nat.le_refl _)
    simp [Try.f19, e]
def moreR (a : Int) (s : ByteArray) : Int := if okSum a then w64 (4294967295 - (bts s).foldl (itR 8) (w64 (4294967295 - a))) else 0
theorem f19 (a : Int) (s : ByteArray) (hs : (s.size : Int) ≤ 9223372036854775807) : c0 19 [I a, .t (.sc (.string s))] [] = some (.val (I (moreR a s)), []) := by
  rw [c0, cO_eq (R := lore) rfl Try.func19 rfl]
  show endThen _ _ (eO Try.prog h19 _ _ _) = _
  simp [Try.f19, f22]
  cases ho : okSum a with
  | false => simp [moreR, ho]
  | true =>
    rw [if_neg (by simp), l19o s hs _ _ (by simp [Try.f19]) _ (by simp; rfl)]
    simp [moreR, ho]
theorem f17 (s : ByteArray) (hs : (s.size : Int) ≤ 9223372036854775807) : c0 17 [.t (.sc (.string s))] [] = some (.val (I (moreR 0 s)), []) := by
  rw [c0, cO_eq (R := lore) rfl Try.func17 rfl]
  show endThen _ _ (eO Try.prog h17 _ _ _) = _
  simp [Try.f17, f19, hs]

theorem nbs_lt (s : ByteArray) : ∀ b ∈ nbs s, b < 256 := by
  intro b hb
  simp only [nbs, List.mem_map] at hb
  obtain ⟨c, _, rfl⟩ := hb
  exact c.toNat_lt
/-- A sum behind a text, as bits. -/
def sumV (x : V) (s : ByteArray) : V := ~~~ ((nbs s).foldl byteV (~~~ x))
theorem okSum_V {a : Int} (h : okSum a = true) : ∃ v : V, a = v.toNat := by
  simp [okSum] at h
  refine ⟨BitVec.ofInt 32 a, ?_⟩
  rw [BitVec.toNat_ofInt]
  omega
theorem not_V (v : V) : bXor .u32 4294967295 v.toNat = ((~~~ v).toNat : Int) := by
  have := bXor32 4294967295#32 v
  rw [show ((4294967295#32 : V).toNat : Int) = 4294967295 by decide] at this
  rw [this]
  congr 2
theorem moreI_V (v : V) (s : ByteArray) : moreI v.toNat s = ((sumV v s).toNat : Int) := by
  have hok : okSum (v.toNat : Int) = true := by have := v.isLt; simp [okSum]; omega
  have hw : IntKind.u32.wrap (v.toNat : Int) = v.toNat := by rw [u32_wrap]; have := v.isLt; omega
  unfold moreI sumV
  rw [if_pos hok, hw, not_V, bts, fold_V stepB_V _ _ (nbs_lt s), not_V]
  have := (~~~ ((nbs s).foldl byteV (~~~ v))).isLt
  rw [w64_id] <;> omega
theorem sub_V (v : V) : (4294967295 : Int) - v.toNat = ((~~~ v).toNat : Int) := by
  rw [BitVec.toNat_not]
  have := v.isLt
  omega
theorem moreR_V (v : V) (s : ByteArray) : moreR v.toNat s = ((sumV v s).toNat : Int) := by
  have hok : okSum (v.toNat : Int) = true := by have := v.isLt; simp [okSum]; omega
  have hw : ∀ z : V, w64 (z.toNat : Int) = z.toNat := by intro z; have := z.isLt; rw [w64_id] <;> omega
  unfold moreR sumV
  rw [if_pos hok, sub_V, hw, bts, fold_V itR8_V _ _ (nbs_lt s), sub_V, hw]
theorem more_eq (a : Int) (s : ByteArray) : moreI a s = moreR a s := by
  cases h : okSum a with
  | false => simp [moreI, moreR, h]
  | true =>
    obtain ⟨v, rfl⟩ := okSum_V h
    rw [moreI_V, moreR_V]
theorem bytes_eq (a : Int) (h : okSum a = true) : bytesI a = bytesR a := by
  obtain ⟨v, rfl⟩ := okSum_V h
  have hv := v.isLt
  have h1 : ∀ n : Nat, n ≤ 24 → iShr .i64 (v.toNat : Int) n = (v.toNat : Int) / 2 ^ n := by
    intro n hn
    unfold iShr
    have : min ((n : Int)).toNat (IntKind.bits .i64) = n := by show min n 64 = n; omega
    rw [this, Int.fdiv_eq_ediv_of_nonneg _ (by exact Int.le_of_lt (Int.pow_pos (by decide)))]
  have e8 := h1 8 (by omega)
  have e16 := h1 16 (by omega)
  have e24 := h1 24 (by omega)
  have t : ∀ d : Int, 0 < d → (v.toNat : Int).tdiv d = (v.toNat : Int) / d := fun d _ => Int.tdiv_eq_ediv_of_nonneg (by omega)
  have m : ∀ z : Int, 0 ≤ z → z.tmod 256 = z % 256 := fun z hz => Int.tmod_eq_emod_of_nonneg hz
  unfold bytesI bytesR
  rw [show (8 : Int) = ((8 : Nat) : Int) from rfl, show (16 : Int) = ((16 : Nat) : Int) from rfl, show (24 : Int) = ((24 : Nat) : Int) from rfl, e8, e16, e24,
    t 256 (by omega), t 65536 (by omega), t 16777216 (by omega), w64_id (by omega) (by omega), w64_id (by omega) (by omega), w64_id (by omega) (by omega), m _ (by omega), m _ (by omega), m _ (by omega)]
  simp only [u8_wrap, Int.emod_emod]
  rfl
theorem ba_size (a : Array UInt8) : (⟨a⟩ : ByteArray).size = a.size := rfl
theorem f15 : c0 15 [] [] = some (.val (Bo true), []) := by
  rw [c0, cO_eq (R := lore) rfl Try.func15 rfl]
  show endThen _ _ (eO Try.prog h15 _ _ _) = _
  have k1 : moreI 0 ⟨#[49, 50, 51, 52, 53, 54, 55, 56, 57]⟩ = 3421780262 := by kernel_rfl
  have k2 : moreI 0 ⟨#[]⟩ = 0 := by kernel_rfl
  have k3 : bytesI 3421780262 = ⟨#[38, 57, 244, 203]⟩ := by kernel_rfl
  have k4 : okSum 3421780262 = true := by kernel_rfl
  have k5 : okSum (-1) = false := by kernel_rfl
  have k6 : moreI 4294967296 ⟨#[97]⟩ = 0 := by kernel_rfl
  have k7 : moreI (moreI 0 ⟨#[49, 50, 51, 52, 53]⟩) ⟨#[54, 55, 56, 57]⟩ = 3421780262 := by kernel_rfl
  simp [Try.f15, f16, f18, f20, ba_size, k1, k2, k3, k4, k5, k6, k7]
theorem f3 (a : Int) (s : ByteArray) (hs : (s.size : Int) ≤ 9223372036854775807) : c0 3 [I a, .t (.sc (.string s))] [] = some (.val (Bo true), []) := by
  rw [c0, cO_eq (R := lore) rfl Try.func3 rfl]
  show endThen _ _ (eO Try.prog h3 _ _ _) = _
  simp [Try.f3, f15, f16, f17, f18, f19, f20, f21, hs, more_eq]
  cases h : okSum a with
  | false => simp
  | true => simp [bytes_eq a h]
end Go.Proofs.Ytidpjpbemhbmbaa

open Go Go.Proofs Go.Pv
namespace Go.Proofs.Ytidpjpbemhbmbaa
theorem okSum_toNat (v : V) : okSum (v.toNat : Int) = true := by have := v.isLt; simp [okSum]; omega
theorem ext_one (s : ByteArray) (i : Nat) (h : i < s.size) : nbs (s.extract i (i + 1)) = [(s.data[i]?.getD 0).toNat] := by
  have e : (s.extract i (i + 1)).data = s.data.extract i (i + 1) := by simp
  unfold nbs
  rw [e]
  have : s.data.extract i (i + 1) = #[s.data[i]'h] := by
    apply Array.ext
    · simp; omega
    · intro j h1 h2
      simp at h2
      subst h2
      simp
  have h2 : s.data[i]? = some (s.data[i]'h) := Array.getElem?_eq_getElem h
  rw [this, h2]
  rfl
theorem nbs_at (s : ByteArray) (i : Nat) (h : i < s.size) : (nbs s).drop i = (s.data[i]?.getD 0).toNat :: (nbs s).drop (i + 1) := by
  have hl : i < (nbs s).length := by simpa [nbs] using h
  rw [List.drop_eq_getElem_cons hl]
  have : s.data[i]? = some (s.data[i]'h) := Array.getElem?_eq_getElem h
  simp [nbs, this]
/-- Bit by bit: behind a byte. -/
def nxtV (x : V) (b : Nat) : V := ~~~ byteV (~~~ x) b
theorem sumV_nxt (l : List Nat) : ∀ x : V, l.foldl nxtV x = ~~~ (l.foldl byteV (~~~ x)) := by
  induction l with
  | nil => intro x; simp
  | cons b l ih => intro x; rw [List.foldl_cons, ih, List.foldl_cons, nxtV, BitVec.not_not]
theorem sumV_eq (x : V) (s : ByteArray) : sumV x s = (nbs s).foldl nxtV x := (sumV_nxt _ _).symm
theorem l6 (a b : Int) (s : ByteArray) (hs : s.size ≤ 500) (v : V) (c : Code) (hc : c = loopN Try.f6 0) (σ : St) (hσ : norm (h6.at c) σ = mkS 74 [(0, I a), (1, I b), (2, .t (.sc (.string s))), (7, I v.toNat), (8, I 0)] []) :
    eO Try.prog h6 c0 (.loop c) σ = some (.exit 0, mkS 74 [(0, I a), (1, I b), (2, .t (.sc (.string s))), (7, I (sumV v s).toNat), (8, I s.size), (28, I s.size), (29, .t (.sc (.string s))), (30, I s.size), (31, Bo false)] []) := by
  subst hc
  rw [sumV_eq]
  refine loop_step (A := Nat × V) (fun p => mkS 74 [(0, I a), (1, I b), (2, .t (.sc (.string s))), (7, I p.2.toNat), (8, I p.1)] [])
    (fun p => (.exit 0, mkS 74 [(0, I a), (1, I b), (2, .t (.sc (.string s))), (7, I (((nbs s).drop p.1).foldl nxtV p.2).toNat), (8, I s.size), (28, I s.size), (29, .t (.sc (.string s))), (30, I s.size), (31, Bo false)] [])) (fun p => s.size - p.1) (fun p => p.1 ≤ s.size) ?_ (fun _ => by simp) (0, v) (by simp) σ hσ
  rintro ⟨i, x⟩ hi
  simp only at hi
  by_cases h : i < s.size
  · have h1 : ((i : Int) < s.size) = True := by simp; omega
    have h2 : w64 ((i : Int) + 1) = (i : Int) + 1 := by rw [w64_id] <;> omega
    have h3 : ((i : Int) + 1).toNat = i + 1 := by omega
    have h4 : ((i : Int) ≤ (i : Int) + 1) = True := by simp; omega
    have h5 : ((i : Int) + 1 ≤ s.size) = True := by simp; omega
    have h6 : moreI (x.toNat : Int) (s.extract i (i + 1)) = ((nxtV x (s.data[i]?.getD 0).toNat).toNat : Int) := by
      rw [moreI_V, sumV_eq, ext_one s i h]; rfl
    have h7 : ((s.extract i (i + 1)).size : Int) ≤ 9223372036854775807 := by
      rw [ByteArray.size_extract]; omega
    simp [Try.f6, h1, h2, h3, h4, h5, f18 _ _ h7, h6]
    exact ⟨i + 1, nxtV x (s.data[i]?.getD 0).toNat, ⟨rfl, by omega⟩, by omega, by omega, by rw [nbs_at s i h]; rfl⟩
  · have : i = s.size := by omega
    subst this
    have e : (nbs s).drop s.size = [] := List.drop_eq_nil_of_le (by simp [nbs])
    simp [Try.f6, e]

theorem stepV_zero {x : V} (h : stepV x = 0#32) : x = 0#32 := by
  unfold stepV at h
  cases hb : x.getLsbD 0 with
  | true =>
    rw [hb, if_pos rfl] at h
    have := congrArg (fun z : V => z.getLsbD 31) h
    simp only [BitVec.getLsbD_xor, BitVec.getLsbD_ushiftRight] at this
    have h1 : x.getLsbD (1 + 31) = false := BitVec.getLsbD_of_ge _ _ (by omega)
    rw [h1] at this
    exact absurd this (by decide)
  | false =>
    rw [hb] at h
    simp only [Bool.false_eq_true, if_false] at h
    apply BitVec.eq_of_getLsbD_eq
    intro i hi
    cases i with
    | zero => rw [hb]; simp
    | succ i =>
      have := congrArg (fun z : V => z.getLsbD i) h
      simp only [BitVec.getLsbD_ushiftRight] at this
      rw [show i + 1 = 1 + i by omega, this]
      simp
theorem stepN_zero (k : Nat) : ∀ x : V, stepN k x = 0#32 → x = 0#32 := by
  induction k with
  | zero => exact fun _ h => h
  | succ k ih => exact fun x h => stepV_zero (ih _ h)
theorem xor_zero_iff {a b : V} (h : a ^^^ b = 0#32) : a = b := by
  have : (a ^^^ b) ^^^ b = 0#32 ^^^ b := by rw [h]
  rwa [BitVec.xor_assoc, BitVec.xor_self, BitVec.xor_zero, BitVec.zero_xor] at this
theorem byteV_inj {x y : V} {b : Nat} (h : byteV x b = byteV y b) : x = y := by
  unfold byteV at h
  have : stepN 8 ((x ^^^ BitVec.ofNat 32 b) ^^^ (y ^^^ BitVec.ofNat 32 b)) = 0#32 := by rw [stepN_xor, h, BitVec.xor_self]
  have := xor_zero_iff (stepN_zero 8 _ this)
  have h2 : (x ^^^ BitVec.ofNat 32 b) ^^^ BitVec.ofNat 32 b = (y ^^^ BitVec.ofNat 32 b) ^^^ BitVec.ofNat 32 b := by rw [this]
  rwa [BitVec.xor_assoc, BitVec.xor_self, BitVec.xor_zero, BitVec.xor_assoc, BitVec.xor_self, BitVec.xor_zero] at h2
theorem not_inj {x y : V} (h : ~~~ x = ~~~ y) : x = y := by
  have := congrArg (fun z : V => ~~~ z) h
  simpa using this
theorem fold_inj (l : List Nat) : ∀ {x y : V}, l.foldl byteV x = l.foldl byteV y → x = y := by
  induction l with
  | nil => exact fun h => h
  | cons b l ih => exact fun h => byteV_inj (ih h)
theorem sumV_inj {x y : V} {s : ByteArray} (h : sumV x s = sumV y s) : x = y := by
  unfold sumV at h
  exact not_inj (fold_inj _ (not_inj h))
theorem toNat_iff {x y : V} : ((x.toNat : Int) = (y.toNat : Int)) ↔ x = y := by
  constructor
  · intro h; exact BitVec.eq_of_toNat_eq (by omega)
  · intro h; rw [h]
theorem bytesI_V (v : V) : (bytesI v.toNat).data.toList = [UInt8.ofNat (v.toNat % 256), UInt8.ofNat (v.toNat / 256 % 256), UInt8.ofNat (v.toNat / 65536 % 256), UInt8.ofNat (v.toNat / 16777216 % 256)] := by
  have h1 : ∀ n : Nat, n ≤ 24 → iShr .i64 (v.toNat : Int) n = (v.toNat : Int) / 2 ^ n := by
    intro n hn
    unfold iShr
    have : min ((n : Int)).toNat (IntKind.bits .i64) = n := by show min n 64 = n; omega
    rw [this, Int.fdiv_eq_ediv_of_nonneg _ (by exact Int.le_of_lt (Int.pow_pos (by decide)))]
  have e8 : iShr .i64 (v.toNat : Int) 8 = (v.toNat : Int) / 256 := h1 8 (by omega)
  have e16 : iShr .i64 (v.toNat : Int) 16 = (v.toNat : Int) / 65536 := h1 16 (by omega)
  have e24 : iShr .i64 (v.toNat : Int) 24 = (v.toNat : Int) / 16777216 := h1 24 (by omega)
  unfold bytesI
  rw [e8, e16, e24, u8_wrap, u8_wrap, u8_wrap, u8_wrap]
  have a1 : ((v.toNat : Int) % 256).toNat = v.toNat % 256 := by omega
  have a2 : ((v.toNat : Int) / 256 % 256).toNat = v.toNat / 256 % 256 := by omega
  have a3 : ((v.toNat : Int) / 65536 % 256).toNat = v.toNat / 65536 % 256 := by omega
  have a4 : ((v.toNat : Int) / 16777216 % 256).toNat = v.toNat / 16777216 % 256 := by omega
  rw [a1, a2, a3, a4]
theorem bytesI_inj {x y : V} (h : (bytesI x.toNat).data.toList = (bytesI y.toNat).data.toList) : x = y := by
  rw [bytesI_V, bytesI_V] at h
  simp only [List.cons.injEq, and_true] at h
  obtain ⟨h1, h2, h3, h4⟩ := h
  have e : ∀ a b : Nat, a < 256 → b < 256 → UInt8.ofNat a = UInt8.ofNat b → a = b := by
    intro a b ha hb h
    have := congrArg UInt8.toNat h
    simpa [Nat.mod_eq_of_lt ha, Nat.mod_eq_of_lt hb] using this
  have k1 := e _ _ (by omega) (by omega) h1
  have k2 := e _ _ (by omega) (by omega) h2
  have k3 := e _ _ (by omega) (by omega) h3
  have k4 := e _ _ (by omega) (by omega) h4
  have hx := x.isLt
  have hy := y.isLt
  apply BitVec.eq_of_toNat_eq
  omega
theorem f6 (a b : Int) (s : ByteArray) : c0 6 [I a, I b, .t (.sc (.string s))] [] = some (.val (Bo true), []) := by
  rw [c0, cO_eq (R := lore) rfl Try.func6 rfl]
  show endThen _ _ (eO Try.prog h6 _ _ _) = _
  by_cases hs : s.size ≤ 500
  · have h1 : ((500 : Int) < s.size) = False := by simp; omega
    cases ha : okSum a with
    | false => simp [Try.f6, f15, h1, f22, ha]
    | true =>
      cases hb : okSum b with
      | false => simp [Try.f6, f15, h1, f22, ha, hb]
      | true =>
        obtain ⟨v, rfl⟩ := okSum_V ha
        obtain ⟨u, rfl⟩ := okSum_V hb
        simp [Try.f6, f15, h1, f22, ha, hb]
        rw [l6 v.toNat u.toNat s hs v _ (by simp [Try.f6]) _ (by simp)]
        have hsz : (s.size : Int) ≤ 9223372036854775807 := by omega
        simp [f18 _ _ hsz, moreI_V, f20, f22, okSum_toNat]
        by_cases h : v = u
        · subst h; simp
        · have e1 : ¬ ((v.toNat : Int) = u.toNat) := fun e => h (toNat_iff.1 e)
          have e2 : ¬ (((sumV v s).toNat : Int) = (sumV u s).toNat) := fun e => h (sumV_inj (toNat_iff.1 e))
          have e3 : ¬ (bytesI v.toNat = bytesI u.toNat) := fun e => h (bytesI_inj (by rw [e]))
          simp [beq_eq_false_iff_ne.2 e1, beq_eq_false_iff_ne.2 e2, e3]
  · have h1 : ((500 : Int) < s.size) = True := by simp; omega
    simp [Try.f6, f15, h1]
end Go.Proofs.Ytidpjpbemhbmbaa
