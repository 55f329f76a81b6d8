/- A part of the road: the interpreter of plain data and the proof that it is right. -/
import Derived.Test.YtcomdnpeoicpkaaProg
import Derived.WalkKit
import Derived.Lib.Walk
import Derived.Shelf.RegionOpenPlain
set_option linter.unusedVariables false
set_option linter.unusedSimpArgs false
/- flt.Canon: a float's bits; those of what is no number are one word. -/
namespace Go.Pv
open Go Go.Proofs Go.Shelf Go.RowKit Go.Lib
set_option maxHeartbeats 4000000
set_option maxRecDepth 100000
theorem x167_n : Extern.findNext Try.f70 = none := by kernel_rfl
theorem x167_f : Extern.find Try.f70 = some Extern.MathFloatBits.float64frombits := by kernel_rfl
theorem x166_n : Extern.findNext Try.f69 = none := by kernel_rfl
theorem x166_f : Extern.find Try.f69 = some Extern.MathFloatBits.float64bits := by kernel_rfl
theorem b167 : Try.f70.body = none := by kernel_rfl
theorem b166 : Try.f69.body = none := by kernel_rfl
theorem n167 : (Try.f70.name == "runtime.NumGoroutine") = false := by kernel_rfl
theorem n166 : (Try.f69.name == "runtime.NumGoroutine") = false := by kernel_rfl
theorem n167' : ¬ Try.f70.name = "runtime.NumGoroutine" := fun h => by
  have := n167
  simp [h] at this
theorem n166' : ¬ Try.f69.name = "runtime.NumGoroutine" := fun h => by
  have := n166
  simp [h] at this
theorem frombits (n : Int) (w : World) : (callFunc 70 #[.int .u64 n]).run Try.prog w = .ok (.value (.float .f64 n.toNat)) w := by
  simp [callFunc, go_sem, Try.func70, x167_n, x167_f, b167, n167', show Extern.MathFloatBits.float64frombits #[.int .u64 n] = pure (.float .f64 n.toNat) from rfl]
theorem tobits (b : Nat) (w : World) : (callFunc 69 #[.float .f64 b]).run Try.prog w = .ok (.value (.int .u64 b)) w := by
  simp [callFunc, go_sem, Try.func69, x166_n, x166_f, b166, n166', show Extern.MathFloatBits.float64bits #[.float .f64 b] = pure (.int .u64 b) from rfl]
theorem number_any (b : Int) (w : World) : Calls Try.prog 66 #[.int .i64 b] w fun e w' => e = .returned (.float .f64 (IntKind.u64.wrap b).toNat) ∧ w' = w := by
  go_enter Try.func66, Try.ntmps66
  go_wp2_with (simp only [frombits])
  go_ret
  exact ⟨rfl, rfl⟩
/-- Is a word that of no number? -/
def nanW (n : Nat) : Bool := FloatKind.f64.format.order n n != some .eq
theorem bits_any (n : Nat) (w : World) : Calls Try.prog 65 #[.float .f64 n] w fun e w' => e = .returned (.int .i64 (if nanW n = true then 9221120237041090561 else wrap64 n)) ∧ w' = w := by
  cases h : nanW n with
  | true =>
    have hc : (binOp .neq 94 (.float .f64 n) (.float .f64 n)).run Try.prog w = .ok (.bool true) w := by
      unfold nanW at h
      simp [binOp, Op.floatCmp, h]
    go_enter Try.func65, Try.ntmps65
    go_wp2_with (first | simp only [tobits] | simp only [hc])
    go_ret
    exact ⟨rfl, rfl⟩
  | false =>
    have hc : (binOp .neq 94 (.float .f64 n) (.float .f64 n)).run Try.prog w = .ok (.bool false) w := by
      unfold nanW at h
      simp [binOp, Op.floatCmp, h]
    go_enter Try.func65, Try.ntmps65
    go_wp2_with (first | simp only [tobits] | simp only [hc])
    go_ret
    exact ⟨rfl, rfl⟩
theorem canon_any (b : Int) (w : World) : Calls Try.prog 60 #[.int .i64 b] w fun e w' =>
    e = .returned (.int .i64 (if nanW (IntKind.u64.wrap b).toNat = true then 9221120237041090561 else wrap64 (IntKind.u64.wrap b).toNat)) ∧ w' = w := by
  go_enter Try.func60, Try.ntmps60
  go_wp2_with (first | (refine (number_any _ _).mono ?_; rintro e w' ⟨rfl, rfl⟩) | (refine (bits_any _ _).mono ?_; rintro e w' ⟨rfl, rfl⟩))
  all_goals (go_ret; exact ⟨rfl, rfl⟩)
theorem order_self (d : Ieee.Datum) : (d.order d != some .eq) = d.isNaN := by
  cases d with
  | number s m e => simp [Ieee.Datum.order, Ieee.Datum.isNaN]
  | infinity s => cases s <;> rfl
  | nan s f => rfl
theorem nanW_eq (n : Nat) : nanW n = decide (9218868437227405312 < n % 9223372036854775808) := by
  have h1 : Ieee.double.signWeight = 9223372036854775808 := by decide
  have h2 : Ieee.double.binade = 4503599627370496 := by decide
  have h3 : Ieee.double.infRung = 9218868437227405312 := by decide
  show (Ieee.double.order n n != some .eq) = _
  unfold Ieee.Format.order
  rw [order_self]
  unfold Ieee.Format.read
  simp only [h1, h2, h3]
  split
  · rename_i h; simp [Ieee.Datum.isNaN]; omega
  · split
    · simp [Ieee.Datum.isNaN]; omega
    · split
      · simp [Ieee.Datum.isNaN]; omega
      · simp [Ieee.Datum.isNaN]; omega
theorem canon_val (b : Int) : (if nanW (IntKind.u64.wrap b).toNat = true then 9221120237041090561 else wrap64 (IntKind.u64.wrap b).toNat) =
    if b % 9223372036854775808 / 4503599627370496 = 2047 ∧ b % 4503599627370496 ≠ 0 then 9221120237041090561 else wrap64 b := by
  have hu : IntKind.u64.wrap b = b % 18446744073709551616 := by simp [IntKind.wrap, IntKind.bits, IntKind.signed]
  rw [hu, nanW_eq]
  have e : (9218868437227405312 < (b % 18446744073709551616).toNat % 9223372036854775808) ↔ (b % 9223372036854775808 / 4503599627370496 = 2047 ∧ b % 4503599627370496 ≠ 0) := by omega
  by_cases h : b % 9223372036854775808 / 4503599627370496 = 2047 ∧ b % 4503599627370496 ≠ 0
  · rw [if_pos h, if_pos (by simpa using e.2 h)]
  · rw [if_neg h, if_neg (by simpa using fun h' => h (e.1 h'))]
    unfold wrap64
    omega
end Go.Pv
