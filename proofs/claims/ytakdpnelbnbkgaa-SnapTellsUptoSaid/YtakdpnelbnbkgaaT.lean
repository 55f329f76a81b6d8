/- A part of the road: the interpreter of plain data and the proof that it is right. -/
import Derived.Test.YtakdpnelbnbkgaaProg
import Derived.Test.YtakdpnelbnbkgaaD
import Derived.Test.YtakdpnelbnbkgaaH
import Derived.Test.YtakdpnelbnbkgaaN
import Derived.KernelRfl
set_option linter.unusedVariables false
set_option linter.unusedSimpArgs false
namespace Go.Pv
open Go Go.Proofs
def h8 : Hint := { var := [0, 1, 2, 3, 4], own := [2], keep := [(3, [1, 3, 4])], out := [(3, [1, 3])], row := [(1, [(some (6, (41, false)))])], par := [[(some (6, (41, false)))]], res := [], shr := [2], far := [] }
def h9 : Hint := { var := [0, 1, 2, 3, 4, 5, 8, 11, 12, 15], own := [0], keep := [], out := [], row := [(1, [(some (6, (41, false)))]), (3, [(some (6, (41, false)))]), (4, [(some (1, (3, false)))]), (6, [(some (6, (41, false)))]), (9, [(some (6, (41, false)))]), (13, [(some (6, (41, false)))])], par := [], res := [], shr := [0], far := [] }
def h10 : Hint := { var := [0, 2, 3, 4, 5, 6, 7, 8, 9], own := [2, 3, 4], keep := [], out := [], row := [(2, [(some (6, (41, true)))]), (3, [(some (1, (3, false)))]), (7, [(some (6, (41, false)))]), (8, [(some (1, (3, false)))])], par := [], res := [[(some (6, (41, false)))], [(some (1, (3, false)))]], shr := [2, 3, 4], far := [] }
def h12 : Hint := { var := [0, 1, 2, 4, 5, 7, 32, 33, 34], own := [4, 5, 13], keep := [(9, [1, 5, 13, 32, 33, 34])], out := [(9, [1, 5, 13])], row := [(2, [(some (6, (41, false)))]), (7, [none, none, (some (1, (3, false)))]), (13, [none, (some (1, (5, true)))]), (32, [(some (6, (41, false)))])], par := [[(some (6, (41, false)))], [(some (1, (3, false)))]], res := [], shr := [4], far := [] }
def h13 : Hint := { var := [0, 1, 2, 4, 5, 6], own := [4], keep := [(5, [1, 2, 5, 6])], out := [(5, [1, 5])], row := [(2, [(some (6, (41, false)))])], par := [[(some (6, (41, false)))], [(some (1, (3, false)))]], res := [], shr := [4], far := [] }
def h14 : Hint := { var := [0, 1, 2, 3, 4, 5], own := [4], keep := [(4, [2, 3, 5])], out := [(4, [4])], row := [(2, [(some (6, (41, false)))]), (3, [(some (6, (41, false)))])], par := [[(some (6, (41, false)))], [(some (6, (41, false)))]], res := [], shr := [4], far := [] }
def h15 : Hint := { var := [0, 1, 4, 5], own := [4], keep := [(4, [0, 1, 5])], out := [(4, [4])], row := [], par := [[(some (1, (3, false)))], [(some (1, (3, false)))]], res := [], shr := [4], far := [] }
def h16 : Hint := { var := [0, 1, 2, 4, 5], own := [4], keep := [(2, [1, 2, 5])], out := [(2, [1, 2, 4])], row := [(2, [(some (6, (41, false)))])], par := [[(some (6, (41, false)))], [(some (1, (3, false)))]], res := [], shr := [4], far := [] }
def h17 : Hint := { var := [0, 1, 2, 3], own := [2], keep := [(2, [1, 3])], out := [(2, [1, 2])], row := [(1, [(some (6, (41, false)))])], par := [[(some (6, (41, false)))]], res := [], shr := [2], far := [] }
def h18 : Hint := { var := [0, 2], own := [2], keep := [], out := [], row := [], par := [], res := [], shr := [2], far := [] }
def h19 : Hint := { var := [0, 2], own := [2], keep := [], out := [], row := [], par := [], res := [], shr := [2], far := [] }
def h20 : Hint := { var := [0, 2], own := [2], keep := [], out := [], row := [], par := [], res := [], shr := [2], far := [] }
def h21 : Hint := { var := [0, 2], own := [2], keep := [], out := [], row := [], par := [], res := [], shr := [2], far := [] }
def h22 : Hint := { var := [0, 2, 3, 4, 5, 22, 23], own := [2, 3, 4, 5, 9], keep := [(7, [2, 3, 4, 5, 9, 22, 23])], out := [(7, [2, 3, 4, 5, 9])], row := [(2, [(some (6, (41, true)))]), (3, [(some (1, (3, true)))])], par := [], res := [[(some (6, (41, false)))], [(some (1, (3, false)))]], shr := [2, 3, 4], far := [] }
def h27 : Hint := { var := [0, 1, 2, 4, 6, 7, 8, 17, 18, 19], own := [4], keep := [(4, [2, 17, 18, 19])], out := [(4, [4])], row := [(2, [(some (6, (41, false)))]), (17, [(some (1, (3, false)))])], par := [[(some (6, (41, false)))], [(some (1, (3, false)))]], res := [], shr := [4], far := [] }
def h33 : Hint := { var := [0, 2], own := [2], keep := [], out := [], row := [], par := [], res := [], shr := [2], far := [] }
def h34 : Hint := { var := [0, 1, 2, 3], own := [2], keep := [], out := [], row := [(1, [none, none, (some (1, (3, false)))])], par := [[none, none, (some (1, (3, false)))]], res := [], shr := [2], far := [] }
def h35 : Hint := { var := [0, 2, 3, 4], own := [2], keep := [(3, [0, 3, 4])], out := [(3, [3])], row := [], par := [[(some (1, (3, false)))]], res := [], shr := [2], far := [] }
def h36 : Hint := { var := [0, 1, 2, 3, 4, 5], own := [4], keep := [(4, [2, 3, 5])], out := [(4, [4])], row := [(2, [none, none, (some (1, (3, false)))]), (3, [none, none, (some (1, (3, false)))])], par := [[none, none, (some (1, (3, false)))], [none, none, (some (1, (3, false)))]], res := [], shr := [4], far := [] }
def h37 : Hint := { var := [0, 1, 2, 4, 6], own := [4], keep := [], out := [], row := [(2, [(some (6, (41, false)))])], par := [[(some (6, (41, false)))]], res := [], shr := [4], far := [] }
def h38 : Hint := { var := [0, 1, 2, 3, 4, 5], own := [4], keep := [(2, [2, 3, 5])], out := [(2, [2, 3, 4])], row := [(2, [(some (6, (41, false)))]), (3, [none, none, (some (1, (3, false)))])], par := [[(some (6, (41, false)))], [none, none, (some (1, (3, false)))]], res := [], shr := [4], far := [] }
def h39 : Hint := { var := [0, 2], own := [2], keep := [], out := [], row := [], par := [], res := [], shr := [2], far := [] }
def h40 : Hint := { var := [0, 2], own := [2], keep := [], out := [], row := [], par := [], res := [], shr := [2], far := [] }
def h41 : Hint := { var := [0, 1, 4, 5, 6, 7], own := [4], keep := [(9, [0, 1, 5, 6, 7]), (5, [0, 1, 5])], out := [(9, [0, 1, 5]), (5, [0])], row := [], par := [], res := [], shr := [4], far := [] }
def h42 : Hint := { var := [0, 2], own := [2], keep := [], out := [], row := [], par := [], res := [], shr := [2], far := [] }
def h43 : Hint := { var := [0, 1, 4, 5, 6, 7, 16, 17], own := [4], keep := [(6, [1, 5, 6, 16, 17])], out := [(6, [6])], row := [], par := [], res := [], shr := [4], far := [] }
def h50 : Hint := { var := [0, 2, 3, 4], own := [2], keep := [(3, [0, 3, 4])], out := [(3, [3])], row := [], par := [], res := [], shr := [2], far := [] }
def h51 : Hint := { var := [0, 1, 2, 3], own := [2, 3], keep := [], out := [], row := [(1, [(some (6, (41, false)))])], par := [[(some (6, (41, false)))]], res := [], shr := [2], far := [] }
def h52 : Hint := { var := [0, 2, 3, 4], own := [2, 3], keep := [], out := [], row := [], par := [], res := [], shr := [2, 3], far := [] }
def h53 : Hint := { var := [0, 2, 4, 6], own := [2], keep := [], out := [], row := [], par := [], res := [], shr := [2], far := [] }
def h56 : Hint := { var := [0, 2, 3], own := [2, 3], keep := [], out := [], row := [], par := [], res := [], shr := [2, 3], far := [] }
def h57 : Hint := { var := [0, 1, 2, 4, 5, 6], own := [4], keep := [], out := [], row := [(2, [(some (6, (41, false)))])], par := [[(some (6, (41, false)))]], res := [], shr := [4], far := [] }
def h58 : Hint := { var := [0, 2], own := [2], keep := [], out := [], row := [], par := [], res := [], shr := [2], far := [] }
def h59 : Hint := { var := [0, 1, 4], own := [4], keep := [], out := [], row := [], par := [], res := [], shr := [4], far := [] }
def h60 : Hint := { var := [0, 1, 2, 3, 4, 9], own := [0, 1], keep := [(7, [0, 1, 2, 3, 4, 9]), (3, [0, 1, 4])], out := [(7, [0, 1, 2, 3, 4]), (3, [0, 1])], row := [], par := [], res := [], shr := [0], far := [] }
def h62 : Hint := { var := [0, 1, 4], own := [4], keep := [], out := [], row := [], par := [], res := [], shr := [4], far := [] }
def h63 : Hint := { var := [0, 1, 4], own := [4], keep := [], out := [], row := [], par := [], res := [], shr := [], far := [] }
def h64 : Hint := { var := [0, 1, 2, 3], own := [3], keep := [], out := [], row := [(2, [none, none, (some (1, (3, false)))])], par := [[none, none, (some (1, (3, false)))]], res := [], shr := [3], far := [] }
def h65 : Hint := { var := [0, 1, 2, 3, 4], own := [2, 4], keep := [], out := [], row := [(3, [none, none, (some (1, (3, false)))])], par := [[], [none, none, (some (1, (3, false)))]], res := [], shr := [4], far := [] }
def h66 : Hint := { var := [0, 2], own := [2], keep := [], out := [], row := [], par := [], res := [], shr := [2], far := [] }
def h67 : Hint := { var := [0, 2, 3, 4], own := [2, 3], keep := [], out := [], row := [], par := [], res := [], shr := [2, 3], far := [] }
def h69 : Hint := { var := [0, 2, 3], own := [2, 3], keep := [], out := [], row := [], par := [], res := [], shr := [2, 3], far := [] }
def h70 : Hint := { var := [0, 2, 3, 4], own := [2], keep := [], out := [], row := [], par := [], res := [], shr := [2], far := [] }
def h71 : Hint := { var := [0], own := [0], keep := [], out := [], row := [], par := [], res := [], shr := [0], far := [] }
def h72 : Hint := { var := [0, 1, 4, 5, 7, 8], own := [4], keep := [(2, [0, 1, 7, 8])], out := [(2, [4])], row := [], par := [], res := [], shr := [], far := [] }
def h73 : Hint := { var := [0, 1, 4, 5, 6], own := [4], keep := [], out := [], row := [], par := [], res := [], shr := [4], far := [] }
def h74 : Hint := { var := [0, 2], own := [2], keep := [], out := [], row := [], par := [], res := [], shr := [2], far := [] }
def h75 : Hint := { var := [0, 1, 4], own := [4], keep := [], out := [], row := [], par := [], res := [], shr := [], far := [] }
def h76 : Hint := { var := [0, 1, 3], own := [3], keep := [], out := [], row := [], par := [], res := [], shr := [3], far := [] }
def h77 : Hint := { var := [0, 1, 4, 6], own := [4], keep := [], out := [], row := [], par := [], res := [], shr := [4], far := [] }
def h78 : Hint := { var := [0, 2], own := [2], keep := [], out := [], row := [], par := [], res := [], shr := [2], far := [] }
def h79 : Hint := { var := [0, 2], own := [2], keep := [], out := [], row := [], par := [], res := [], shr := [2], far := [] }
def h82 : Hint := { var := [0, 1, 4, 5, 7, 8], own := [4], keep := [(2, [0, 1, 7, 8])], out := [(2, [4])], row := [], par := [], res := [], shr := [], far := [] }
def h83 : Hint := { var := [0], own := [0], keep := [], out := [], row := [], par := [], res := [], shr := [0], far := [] }
def hints : FuncId → Hint
  | 8 => h8
  | 9 => h9
  | 10 => h10
  | 12 => h12
  | 13 => h13
  | 14 => h14
  | 15 => h15
  | 16 => h16
  | 17 => h17
  | 18 => h18
  | 19 => h19
  | 20 => h20
  | 21 => h21
  | 22 => h22
  | 27 => h27
  | 33 => h33
  | 34 => h34
  | 35 => h35
  | 36 => h36
  | 37 => h37
  | 38 => h38
  | 39 => h39
  | 40 => h40
  | 41 => h41
  | 42 => h42
  | 43 => h43
  | 50 => h50
  | 51 => h51
  | 52 => h52
  | 53 => h53
  | 56 => h56
  | 57 => h57
  | 58 => h58
  | 59 => h59
  | 60 => h60
  | 62 => h62
  | 63 => h63
  | 64 => h64
  | 65 => h65
  | 66 => h66
  | 67 => h67
  | 69 => h69
  | 70 => h70
  | 71 => h71
  | 72 => h72
  | 73 => h73
  | 74 => h74
  | 75 => h75
  | 76 => h76
  | 77 => h77
  | 78 => h78
  | 79 => h79
  | 82 => h82
  | 83 => h83
  | _ => {}
def lore : Lore := ⟨hints, fun
  | 12 => some (plainT encS)
  | 21 => some (plainT crcS)
  | 22 => some (plainT readS)
  | 74 => some (plainT canonS)
  | _ => none⟩
noncomputable abbrev c0 : Callee := cO Try.prog lore
end Go.Pv

namespace Go.Pv
open Go Go.Proofs
@[simp] theorem zOk3 : zOk Try.prog 3 = true := by kernel_rfl
@[simp] theorem szOf3 : szOf Try.prog 3 = 1 := by kernel_rfl
@[simp] theorem kinds3 : kinds Try.prog 8 3 = [none] := by kernel_rfl
@[simp] theorem isSliceT3 : isSliceT Try.prog 3 = false := by kernel_rfl
@[simp] theorem isPtrT3 : isPtrT Try.prog 3 = false := by kernel_rfl
@[simp] theorem intOfT3 : intOfT Try.prog 3 = some .i64 := by kernel_rfl
@[simp] theorem szOf5 : szOf Try.prog 5 = 1 := by kernel_rfl
@[simp] theorem kinds5 : kinds Try.prog 8 5 = [none] := by kernel_rfl
@[simp] theorem isSliceT5 : isSliceT Try.prog 5 = false := by kernel_rfl
@[simp] theorem isPtrT5 : isPtrT Try.prog 5 = false := by kernel_rfl
@[simp] theorem intOfT5 : intOfT Try.prog 5 = some .u8 := by kernel_rfl
@[simp] theorem zOk9 : zOk Try.prog 9 = true := by kernel_rfl
@[simp] theorem szOf9 : szOf Try.prog 9 = 1 := by kernel_rfl
@[simp] theorem elOf9 : elOf Try.prog 9 = none := by kernel_rfl
@[simp] theorem arrOf9 : arrOf Try.prog 9 = none := by kernel_rfl
@[simp] theorem isStr9 : isStr Try.prog 9 = true := by kernel_rfl
@[simp] theorem zOk22 : zOk Try.prog 22 = true := by kernel_rfl
@[simp] theorem szOf22 : szOf Try.prog 22 = 1 := by kernel_rfl
@[simp] theorem elOf22 : elOf Try.prog 22 = some 41 := by kernel_rfl
@[simp] theorem arrOf22 : arrOf Try.prog 22 = none := by kernel_rfl
@[simp] theorem isSliceT22 : isSliceT Try.prog 22 = true := by kernel_rfl
@[simp] theorem zOk24 : zOk Try.prog 24 = true := by kernel_rfl
@[simp] theorem szOf24 : szOf Try.prog 24 = 3 := by kernel_rfl
@[simp] theorem zeroOf24 : zeroOf Try.prog 24 = [.slice none 0 0, .int .i64 0, .int .i64 0] := by kernel_rfl
@[simp] theorem buildOk24 : buildOk Try.prog 24 = true := by kernel_rfl
@[simp] theorem offOf24_0 : offOf Try.prog 24 0 = some 0 := by kernel_rfl
@[simp] theorem fszOf24_0 : fszOf Try.prog 24 0 = some (1, false) := by kernel_rfl
@[simp] theorem offOf24_1 : offOf Try.prog 24 1 = some 1 := by kernel_rfl
@[simp] theorem fszOf24_1 : fszOf Try.prog 24 1 = some (1, false) := by kernel_rfl
@[simp] theorem offOf24_2 : offOf Try.prog 24 2 = some 2 := by kernel_rfl
@[simp] theorem fszOf24_2 : fszOf Try.prog 24 2 = some (1, false) := by kernel_rfl
@[simp] theorem arrOf24 : arrOf Try.prog 24 = none := by kernel_rfl
@[simp] theorem zOk25 : zOk Try.prog 25 = true := by kernel_rfl
@[simp] theorem szOf25 : szOf Try.prog 25 = 1 := by kernel_rfl
@[simp] theorem elOf25 : elOf Try.prog 25 = some 3 := by kernel_rfl
@[simp] theorem arrOf25 : arrOf Try.prog 25 = none := by kernel_rfl
@[simp] theorem isSliceT25 : isSliceT Try.prog 25 = true := by kernel_rfl
@[simp] theorem elOf36 : elOf Try.prog 36 = some 5 := by kernel_rfl
@[simp] theorem isBytes36 : isBytes Try.prog 36 = true := by kernel_rfl
@[simp] theorem zOk41 : zOk Try.prog 41 = true := by kernel_rfl
@[simp] theorem szOf41 : szOf Try.prog 41 = 6 := by kernel_rfl
@[simp] theorem zeroOf41 : zeroOf Try.prog 41 = [.int .i64 0, .int .i64 0, .slice none 0 0, .string ⟨#[]⟩, .int .i64 0, .int .i64 0] := by kernel_rfl
@[simp] theorem kinds41 : kinds Try.prog 8 41 = [none, none, some (1, 3), none, none, none] := by kernel_rfl
@[simp] theorem buildOk41 : buildOk Try.prog 41 = true := by kernel_rfl
@[simp] theorem offOf41_0 : offOf Try.prog 41 0 = some 0 := by kernel_rfl
@[simp] theorem fszOf41_0 : fszOf Try.prog 41 0 = some (1, false) := by kernel_rfl
@[simp] theorem offOf41_1 : offOf Try.prog 41 1 = some 1 := by kernel_rfl
@[simp] theorem fszOf41_1 : fszOf Try.prog 41 1 = some (1, false) := by kernel_rfl
@[simp] theorem offOf41_2 : offOf Try.prog 41 2 = some 2 := by kernel_rfl
@[simp] theorem fszOf41_2 : fszOf Try.prog 41 2 = some (1, false) := by kernel_rfl
@[simp] theorem offOf41_3 : offOf Try.prog 41 3 = some 3 := by kernel_rfl
@[simp] theorem fszOf41_3 : fszOf Try.prog 41 3 = some (1, false) := by kernel_rfl
@[simp] theorem offOf41_4 : offOf Try.prog 41 4 = some 4 := by kernel_rfl
@[simp] theorem fszOf41_4 : fszOf Try.prog 41 4 = some (1, false) := by kernel_rfl
@[simp] theorem offOf41_5 : offOf Try.prog 41 5 = some 5 := by kernel_rfl
@[simp] theorem fszOf41_5 : fszOf Try.prog 41 5 = some (1, false) := by kernel_rfl
@[simp] theorem arrOf41 : arrOf Try.prog 41 = none := by kernel_rfl
@[simp] theorem zOk87 : zOk Try.prog 87 = true := by kernel_rfl
@[simp] theorem szOf87 : szOf Try.prog 87 = 1 := by kernel_rfl
@[simp] theorem aggT87 : aggT Try.prog 87 = false := by kernel_rfl
@[simp] theorem isBoolT87 : isBoolT Try.prog 87 = false := by kernel_rfl
@[simp] theorem isSliceT87 : isSliceT Try.prog 87 = false := by kernel_rfl
@[simp] theorem isPtrT87 : isPtrT Try.prog 87 = false := by kernel_rfl
@[simp] theorem intOfT87 : intOfT Try.prog 87 = some .u32 := by kernel_rfl
@[simp] theorem zOk88 : zOk Try.prog 88 = true := by kernel_rfl
@[simp] theorem szOf88 : szOf Try.prog 88 = 256 := by kernel_rfl
@[simp] theorem aggT88 : aggT Try.prog 88 = true := by kernel_rfl
@[simp] theorem arrOf88 : arrOf Try.prog 88 = some (256, 87) := by kernel_rfl
@[simp] theorem zOk91 : zOk Try.prog 91 = true := by kernel_rfl
@[simp] theorem szOf91 : szOf Try.prog 91 = 1 := by kernel_rfl
@[simp] theorem zeroOf91 : zeroOf Try.prog 91 = [.int .i64 0] := by kernel_rfl
@[simp] theorem hint8 : lore.hint 8 = h8 := rfl
@[simp] theorem h8_var : h8.var = [0, 1, 2, 3, 4] := rfl
@[simp] theorem h8_own : h8.own = [2] := rfl
@[simp] theorem h8_keep : h8.keep = [(3, [1, 3, 4])] := rfl
@[simp] theorem h8_out : h8.out = [(3, [1, 3])] := rfl
@[simp] theorem h8_row : h8.row = [(1, [(some (6, (41, false)))])] := rfl
@[simp] theorem h8_par : h8.par = [[(some (6, (41, false)))]] := rfl
@[simp] theorem h8_res : h8.res = [] := rfl
@[simp] theorem h8_shr : h8.shr = [2] := rfl
@[simp] theorem h8_far : h8.far = [] := rfl
@[simp] theorem hint9 : lore.hint 9 = h9 := rfl
@[simp] theorem h9_var : h9.var = [0, 1, 2, 3, 4, 5, 8, 11, 12, 15] := rfl
@[simp] theorem h9_own : h9.own = [0] := rfl
@[simp] theorem h9_keep : h9.keep = [] := rfl
@[simp] theorem h9_out : h9.out = [] := rfl
@[simp] theorem h9_row : h9.row = [(1, [(some (6, (41, false)))]), (3, [(some (6, (41, false)))]), (4, [(some (1, (3, false)))]), (6, [(some (6, (41, false)))]), (9, [(some (6, (41, false)))]), (13, [(some (6, (41, false)))])] := rfl
@[simp] theorem h9_par : h9.par = [] := rfl
@[simp] theorem h9_res : h9.res = [] := rfl
@[simp] theorem h9_shr : h9.shr = [0] := rfl
@[simp] theorem h9_far : h9.far = [] := rfl
@[simp] theorem callOk10 : callOk Try.prog 10 = true := by kernel_rfl
@[simp] theorem hint10 : lore.hint 10 = h10 := rfl
@[simp] theorem h10_var : h10.var = [0, 2, 3, 4, 5, 6, 7, 8, 9] := rfl
@[simp] theorem h10_own : h10.own = [2, 3, 4] := rfl
@[simp] theorem h10_keep : h10.keep = [] := rfl
@[simp] theorem h10_out : h10.out = [] := rfl
@[simp] theorem h10_row : h10.row = [(2, [(some (6, (41, true)))]), (3, [(some (1, (3, false)))]), (7, [(some (6, (41, false)))]), (8, [(some (1, (3, false)))])] := rfl
@[simp] theorem h10_par : h10.par = [] := rfl
@[simp] theorem h10_res : h10.res = [[(some (6, (41, false)))], [(some (1, (3, false)))]] := rfl
@[simp] theorem h10_shr : h10.shr = [2, 3, 4] := rfl
@[simp] theorem h10_far : h10.far = [] := rfl
@[simp] theorem callOk12 : callOk Try.prog 12 = true := by kernel_rfl
@[simp] theorem hint12 : lore.hint 12 = h12 := rfl
@[simp] theorem h12_var : h12.var = [0, 1, 2, 4, 5, 7, 32, 33, 34] := rfl
@[simp] theorem h12_own : h12.own = [4, 5, 13] := rfl
@[simp] theorem h12_keep : h12.keep = [(9, [1, 5, 13, 32, 33, 34])] := rfl
@[simp] theorem h12_out : h12.out = [(9, [1, 5, 13])] := rfl
@[simp] theorem h12_row : h12.row = [(2, [(some (6, (41, false)))]), (7, [none, none, (some (1, (3, false)))]), (13, [none, (some (1, (5, true)))]), (32, [(some (6, (41, false)))])] := rfl
@[simp] theorem h12_par : h12.par = [[(some (6, (41, false)))], [(some (1, (3, false)))]] := rfl
@[simp] theorem h12_res : h12.res = [] := rfl
@[simp] theorem h12_shr : h12.shr = [4] := rfl
@[simp] theorem h12_far : h12.far = [] := rfl
@[simp] theorem hint13 : lore.hint 13 = h13 := rfl
@[simp] theorem h13_var : h13.var = [0, 1, 2, 4, 5, 6] := rfl
@[simp] theorem h13_own : h13.own = [4] := rfl
@[simp] theorem h13_keep : h13.keep = [(5, [1, 2, 5, 6])] := rfl
@[simp] theorem h13_out : h13.out = [(5, [1, 5])] := rfl
@[simp] theorem h13_row : h13.row = [(2, [(some (6, (41, false)))])] := rfl
@[simp] theorem h13_par : h13.par = [[(some (6, (41, false)))], [(some (1, (3, false)))]] := rfl
@[simp] theorem h13_res : h13.res = [] := rfl
@[simp] theorem h13_shr : h13.shr = [4] := rfl
@[simp] theorem h13_far : h13.far = [] := rfl
@[simp] theorem callOk14 : callOk Try.prog 14 = true := by kernel_rfl
@[simp] theorem hint14 : lore.hint 14 = h14 := rfl
@[simp] theorem h14_var : h14.var = [0, 1, 2, 3, 4, 5] := rfl
@[simp] theorem h14_own : h14.own = [4] := rfl
@[simp] theorem h14_keep : h14.keep = [(4, [2, 3, 5])] := rfl
@[simp] theorem h14_out : h14.out = [(4, [4])] := rfl
@[simp] theorem h14_row : h14.row = [(2, [(some (6, (41, false)))]), (3, [(some (6, (41, false)))])] := rfl
@[simp] theorem h14_par : h14.par = [[(some (6, (41, false)))], [(some (6, (41, false)))]] := rfl
@[simp] theorem h14_res : h14.res = [] := rfl
@[simp] theorem h14_shr : h14.shr = [4] := rfl
@[simp] theorem h14_far : h14.far = [] := rfl
@[simp] theorem hint15 : lore.hint 15 = h15 := rfl
@[simp] theorem h15_var : h15.var = [0, 1, 4, 5] := rfl
@[simp] theorem h15_own : h15.own = [4] := rfl
@[simp] theorem h15_keep : h15.keep = [(4, [0, 1, 5])] := rfl
@[simp] theorem h15_out : h15.out = [(4, [4])] := rfl
@[simp] theorem h15_row : h15.row = [] := rfl
@[simp] theorem h15_par : h15.par = [[(some (1, (3, false)))], [(some (1, (3, false)))]] := rfl
@[simp] theorem h15_res : h15.res = [] := rfl
@[simp] theorem h15_shr : h15.shr = [4] := rfl
@[simp] theorem h15_far : h15.far = [] := rfl
@[simp] theorem callOk16 : callOk Try.prog 16 = true := by kernel_rfl
@[simp] theorem hint16 : lore.hint 16 = h16 := rfl
@[simp] theorem h16_var : h16.var = [0, 1, 2, 4, 5] := rfl
@[simp] theorem h16_own : h16.own = [4] := rfl
@[simp] theorem h16_keep : h16.keep = [(2, [1, 2, 5])] := rfl
@[simp] theorem h16_out : h16.out = [(2, [1, 2, 4])] := rfl
@[simp] theorem h16_row : h16.row = [(2, [(some (6, (41, false)))])] := rfl
@[simp] theorem h16_par : h16.par = [[(some (6, (41, false)))], [(some (1, (3, false)))]] := rfl
@[simp] theorem h16_res : h16.res = [] := rfl
@[simp] theorem h16_shr : h16.shr = [4] := rfl
@[simp] theorem h16_far : h16.far = [] := rfl
@[simp] theorem callOk17 : callOk Try.prog 17 = true := by kernel_rfl
@[simp] theorem hint17 : lore.hint 17 = h17 := rfl
@[simp] theorem h17_var : h17.var = [0, 1, 2, 3] := rfl
@[simp] theorem h17_own : h17.own = [2] := rfl
@[simp] theorem h17_keep : h17.keep = [(2, [1, 3])] := rfl
@[simp] theorem h17_out : h17.out = [(2, [1, 2])] := rfl
@[simp] theorem h17_row : h17.row = [(1, [(some (6, (41, false)))])] := rfl
@[simp] theorem h17_par : h17.par = [[(some (6, (41, false)))]] := rfl
@[simp] theorem h17_res : h17.res = [] := rfl
@[simp] theorem h17_shr : h17.shr = [2] := rfl
@[simp] theorem h17_far : h17.far = [] := rfl
@[simp] theorem callOk18 : callOk Try.prog 18 = true := by kernel_rfl
@[simp] theorem hint18 : lore.hint 18 = h18 := rfl
@[simp] theorem h18_var : h18.var = [0, 2] := rfl
@[simp] theorem h18_own : h18.own = [2] := rfl
@[simp] theorem h18_keep : h18.keep = [] := rfl
@[simp] theorem h18_out : h18.out = [] := rfl
@[simp] theorem h18_row : h18.row = [] := rfl
@[simp] theorem h18_par : h18.par = [] := rfl
@[simp] theorem h18_res : h18.res = [] := rfl
@[simp] theorem h18_shr : h18.shr = [2] := rfl
@[simp] theorem h18_far : h18.far = [] := rfl
@[simp] theorem callOk19 : callOk Try.prog 19 = true := by kernel_rfl
@[simp] theorem hint19 : lore.hint 19 = h19 := rfl
@[simp] theorem h19_var : h19.var = [0, 2] := rfl
@[simp] theorem h19_own : h19.own = [2] := rfl
@[simp] theorem h19_keep : h19.keep = [] := rfl
@[simp] theorem h19_out : h19.out = [] := rfl
@[simp] theorem h19_row : h19.row = [] := rfl
@[simp] theorem h19_par : h19.par = [] := rfl
@[simp] theorem h19_res : h19.res = [] := rfl
@[simp] theorem h19_shr : h19.shr = [2] := rfl
@[simp] theorem h19_far : h19.far = [] := rfl
@[simp] theorem callOk20 : callOk Try.prog 20 = true := by kernel_rfl
@[simp] theorem hint20 : lore.hint 20 = h20 := rfl
@[simp] theorem h20_var : h20.var = [0, 2] := rfl
@[simp] theorem h20_own : h20.own = [2] := rfl
@[simp] theorem h20_keep : h20.keep = [] := rfl
@[simp] theorem h20_out : h20.out = [] := rfl
@[simp] theorem h20_row : h20.row = [] := rfl
@[simp] theorem h20_par : h20.par = [] := rfl
@[simp] theorem h20_res : h20.res = [] := rfl
@[simp] theorem h20_shr : h20.shr = [2] := rfl
@[simp] theorem h20_far : h20.far = [] := rfl
@[simp] theorem callOk21 : callOk Try.prog 21 = true := by kernel_rfl
@[simp] theorem hint21 : lore.hint 21 = h21 := rfl
@[simp] theorem h21_var : h21.var = [0, 2] := rfl
@[simp] theorem h21_own : h21.own = [2] := rfl
@[simp] theorem h21_keep : h21.keep = [] := rfl
@[simp] theorem h21_out : h21.out = [] := rfl
@[simp] theorem h21_row : h21.row = [] := rfl
@[simp] theorem h21_par : h21.par = [] := rfl
@[simp] theorem h21_res : h21.res = [] := rfl
@[simp] theorem h21_shr : h21.shr = [2] := rfl
@[simp] theorem h21_far : h21.far = [] := rfl
@[simp] theorem callOk22 : callOk Try.prog 22 = true := by kernel_rfl
@[simp] theorem hint22 : lore.hint 22 = h22 := rfl
@[simp] theorem h22_var : h22.var = [0, 2, 3, 4, 5, 22, 23] := rfl
@[simp] theorem h22_own : h22.own = [2, 3, 4, 5, 9] := rfl
@[simp] theorem h22_keep : h22.keep = [(7, [2, 3, 4, 5, 9, 22, 23])] := rfl
@[simp] theorem h22_out : h22.out = [(7, [2, 3, 4, 5, 9])] := rfl
@[simp] theorem h22_row : h22.row = [(2, [(some (6, (41, true)))]), (3, [(some (1, (3, true)))])] := rfl
@[simp] theorem h22_par : h22.par = [] := rfl
@[simp] theorem h22_res : h22.res = [[(some (6, (41, false)))], [(some (1, (3, false)))]] := rfl
@[simp] theorem h22_shr : h22.shr = [2, 3, 4] := rfl
@[simp] theorem h22_far : h22.far = [] := rfl
@[simp] theorem hint27 : lore.hint 27 = h27 := rfl
@[simp] theorem h27_var : h27.var = [0, 1, 2, 4, 6, 7, 8, 17, 18, 19] := rfl
@[simp] theorem h27_own : h27.own = [4] := rfl
@[simp] theorem h27_keep : h27.keep = [(4, [2, 17, 18, 19])] := rfl
@[simp] theorem h27_out : h27.out = [(4, [4])] := rfl
@[simp] theorem h27_row : h27.row = [(2, [(some (6, (41, false)))]), (17, [(some (1, (3, false)))])] := rfl
@[simp] theorem h27_par : h27.par = [[(some (6, (41, false)))], [(some (1, (3, false)))]] := rfl
@[simp] theorem h27_res : h27.res = [] := rfl
@[simp] theorem h27_shr : h27.shr = [4] := rfl
@[simp] theorem h27_far : h27.far = [] := rfl
@[simp] theorem callOk33 : callOk Try.prog 33 = true := by kernel_rfl
@[simp] theorem hint33 : lore.hint 33 = h33 := rfl
@[simp] theorem h33_var : h33.var = [0, 2] := rfl
@[simp] theorem h33_own : h33.own = [2] := rfl
@[simp] theorem h33_keep : h33.keep = [] := rfl
@[simp] theorem h33_out : h33.out = [] := rfl
@[simp] theorem h33_row : h33.row = [] := rfl
@[simp] theorem h33_par : h33.par = [] := rfl
@[simp] theorem h33_res : h33.res = [] := rfl
@[simp] theorem h33_shr : h33.shr = [2] := rfl
@[simp] theorem h33_far : h33.far = [] := rfl
@[simp] theorem callOk34 : callOk Try.prog 34 = true := by kernel_rfl
@[simp] theorem hint34 : lore.hint 34 = h34 := rfl
@[simp] theorem h34_var : h34.var = [0, 1, 2, 3] := rfl
@[simp] theorem h34_own : h34.own = [2] := rfl
@[simp] theorem h34_keep : h34.keep = [] := rfl
@[simp] theorem h34_out : h34.out = [] := rfl
@[simp] theorem h34_row : h34.row = [(1, [none, none, (some (1, (3, false)))])] := rfl
@[simp] theorem h34_par : h34.par = [[none, none, (some (1, (3, false)))]] := rfl
@[simp] theorem h34_res : h34.res = [] := rfl
@[simp] theorem h34_shr : h34.shr = [2] := rfl
@[simp] theorem h34_far : h34.far = [] := rfl
@[simp] theorem callOk35 : callOk Try.prog 35 = true := by kernel_rfl
@[simp] theorem hint35 : lore.hint 35 = h35 := rfl
@[simp] theorem h35_var : h35.var = [0, 2, 3, 4] := rfl
@[simp] theorem h35_own : h35.own = [2] := rfl
@[simp] theorem h35_keep : h35.keep = [(3, [0, 3, 4])] := rfl
@[simp] theorem h35_out : h35.out = [(3, [3])] := rfl
@[simp] theorem h35_row : h35.row = [] := rfl
@[simp] theorem h35_par : h35.par = [[(some (1, (3, false)))]] := rfl
@[simp] theorem h35_res : h35.res = [] := rfl
@[simp] theorem h35_shr : h35.shr = [2] := rfl
@[simp] theorem h35_far : h35.far = [] := rfl
@[simp] theorem callOk36 : callOk Try.prog 36 = true := by kernel_rfl
@[simp] theorem hint36 : lore.hint 36 = h36 := rfl
@[simp] theorem h36_var : h36.var = [0, 1, 2, 3, 4, 5] := rfl
@[simp] theorem h36_own : h36.own = [4] := rfl
@[simp] theorem h36_keep : h36.keep = [(4, [2, 3, 5])] := rfl
@[simp] theorem h36_out : h36.out = [(4, [4])] := rfl
@[simp] theorem h36_row : h36.row = [(2, [none, none, (some (1, (3, false)))]), (3, [none, none, (some (1, (3, false)))])] := rfl
@[simp] theorem h36_par : h36.par = [[none, none, (some (1, (3, false)))], [none, none, (some (1, (3, false)))]] := rfl
@[simp] theorem h36_res : h36.res = [] := rfl
@[simp] theorem h36_shr : h36.shr = [4] := rfl
@[simp] theorem h36_far : h36.far = [] := rfl
@[simp] theorem callOk37 : callOk Try.prog 37 = true := by kernel_rfl
@[simp] theorem hint37 : lore.hint 37 = h37 := rfl
@[simp] theorem h37_var : h37.var = [0, 1, 2, 4, 6] := rfl
@[simp] theorem h37_own : h37.own = [4] := rfl
@[simp] theorem h37_keep : h37.keep = [] := rfl
@[simp] theorem h37_out : h37.out = [] := rfl
@[simp] theorem h37_row : h37.row = [(2, [(some (6, (41, false)))])] := rfl
@[simp] theorem h37_par : h37.par = [[(some (6, (41, false)))]] := rfl
@[simp] theorem h37_res : h37.res = [] := rfl
@[simp] theorem h37_shr : h37.shr = [4] := rfl
@[simp] theorem h37_far : h37.far = [] := rfl
@[simp] theorem callOk38 : callOk Try.prog 38 = true := by kernel_rfl
@[simp] theorem hint38 : lore.hint 38 = h38 := rfl
@[simp] theorem h38_var : h38.var = [0, 1, 2, 3, 4, 5] := rfl
@[simp] theorem h38_own : h38.own = [4] := rfl
@[simp] theorem h38_keep : h38.keep = [(2, [2, 3, 5])] := rfl
@[simp] theorem h38_out : h38.out = [(2, [2, 3, 4])] := rfl
@[simp] theorem h38_row : h38.row = [(2, [(some (6, (41, false)))]), (3, [none, none, (some (1, (3, false)))])] := rfl
@[simp] theorem h38_par : h38.par = [[(some (6, (41, false)))], [none, none, (some (1, (3, false)))]] := rfl
@[simp] theorem h38_res : h38.res = [] := rfl
@[simp] theorem h38_shr : h38.shr = [4] := rfl
@[simp] theorem h38_far : h38.far = [] := rfl
@[simp] theorem callOk39 : callOk Try.prog 39 = true := by kernel_rfl
@[simp] theorem hint39 : lore.hint 39 = h39 := rfl
@[simp] theorem h39_var : h39.var = [0, 2] := rfl
@[simp] theorem h39_own : h39.own = [2] := rfl
@[simp] theorem h39_keep : h39.keep = [] := rfl
@[simp] theorem h39_out : h39.out = [] := rfl
@[simp] theorem h39_row : h39.row = [] := rfl
@[simp] theorem h39_par : h39.par = [] := rfl
@[simp] theorem h39_res : h39.res = [] := rfl
@[simp] theorem h39_shr : h39.shr = [2] := rfl
@[simp] theorem h39_far : h39.far = [] := rfl
@[simp] theorem callOk40 : callOk Try.prog 40 = true := by kernel_rfl
@[simp] theorem hint40 : lore.hint 40 = h40 := rfl
@[simp] theorem h40_var : h40.var = [0, 2] := rfl
@[simp] theorem h40_own : h40.own = [2] := rfl
@[simp] theorem h40_keep : h40.keep = [] := rfl
@[simp] theorem h40_out : h40.out = [] := rfl
@[simp] theorem h40_row : h40.row = [] := rfl
@[simp] theorem h40_par : h40.par = [] := rfl
@[simp] theorem h40_res : h40.res = [] := rfl
@[simp] theorem h40_shr : h40.shr = [2] := rfl
@[simp] theorem h40_far : h40.far = [] := rfl
@[simp] theorem callOk41 : callOk Try.prog 41 = true := by kernel_rfl
@[simp] theorem hint41 : lore.hint 41 = h41 := rfl
@[simp] theorem h41_var : h41.var = [0, 1, 4, 5, 6, 7] := rfl
@[simp] theorem h41_own : h41.own = [4] := rfl
@[simp] theorem h41_keep : h41.keep = [(9, [0, 1, 5, 6, 7]), (5, [0, 1, 5])] := rfl
@[simp] theorem h41_out : h41.out = [(9, [0, 1, 5]), (5, [0])] := rfl
@[simp] theorem h41_row : h41.row = [] := rfl
@[simp] theorem h41_par : h41.par = [] := rfl
@[simp] theorem h41_res : h41.res = [] := rfl
@[simp] theorem h41_shr : h41.shr = [4] := rfl
@[simp] theorem h41_far : h41.far = [] := rfl
@[simp] theorem callOk42 : callOk Try.prog 42 = true := by kernel_rfl
@[simp] theorem hint42 : lore.hint 42 = h42 := rfl
@[simp] theorem h42_var : h42.var = [0, 2] := rfl
@[simp] theorem h42_own : h42.own = [2] := rfl
@[simp] theorem h42_keep : h42.keep = [] := rfl
@[simp] theorem h42_out : h42.out = [] := rfl
@[simp] theorem h42_row : h42.row = [] := rfl
@[simp] theorem h42_par : h42.par = [] := rfl
@[simp] theorem h42_res : h42.res = [] := rfl
@[simp] theorem h42_shr : h42.shr = [2] := rfl
@[simp] theorem h42_far : h42.far = [] := rfl
@[simp] theorem callOk43 : callOk Try.prog 43 = true := by kernel_rfl
@[simp] theorem hint43 : lore.hint 43 = h43 := rfl
@[simp] theorem h43_var : h43.var = [0, 1, 4, 5, 6, 7, 16, 17] := rfl
@[simp] theorem h43_own : h43.own = [4] := rfl
@[simp] theorem h43_keep : h43.keep = [(6, [1, 5, 6, 16, 17])] := rfl
@[simp] theorem h43_out : h43.out = [(6, [6])] := rfl
@[simp] theorem h43_row : h43.row = [] := rfl
@[simp] theorem h43_par : h43.par = [] := rfl
@[simp] theorem h43_res : h43.res = [] := rfl
@[simp] theorem h43_shr : h43.shr = [4] := rfl
@[simp] theorem h43_far : h43.far = [] := rfl
@[simp] theorem hint50 : lore.hint 50 = h50 := rfl
@[simp] theorem h50_var : h50.var = [0, 2, 3, 4] := rfl
@[simp] theorem h50_own : h50.own = [2] := rfl
@[simp] theorem h50_keep : h50.keep = [(3, [0, 3, 4])] := rfl
@[simp] theorem h50_out : h50.out = [(3, [3])] := rfl
@[simp] theorem h50_row : h50.row = [] := rfl
@[simp] theorem h50_par : h50.par = [] := rfl
@[simp] theorem h50_res : h50.res = [] := rfl
@[simp] theorem h50_shr : h50.shr = [2] := rfl
@[simp] theorem h50_far : h50.far = [] := rfl
@[simp] theorem callOk51 : callOk Try.prog 51 = true := by kernel_rfl
@[simp] theorem hint51 : lore.hint 51 = h51 := rfl
@[simp] theorem h51_var : h51.var = [0, 1, 2, 3] := rfl
@[simp] theorem h51_own : h51.own = [2, 3] := rfl
@[simp] theorem h51_keep : h51.keep = [] := rfl
@[simp] theorem h51_out : h51.out = [] := rfl
@[simp] theorem h51_row : h51.row = [(1, [(some (6, (41, false)))])] := rfl
@[simp] theorem h51_par : h51.par = [[(some (6, (41, false)))]] := rfl
@[simp] theorem h51_res : h51.res = [] := rfl
@[simp] theorem h51_shr : h51.shr = [2] := rfl
@[simp] theorem h51_far : h51.far = [] := rfl
@[simp] theorem callOk52 : callOk Try.prog 52 = true := by kernel_rfl
@[simp] theorem hint52 : lore.hint 52 = h52 := rfl
@[simp] theorem h52_var : h52.var = [0, 2, 3, 4] := rfl
@[simp] theorem h52_own : h52.own = [2, 3] := rfl
@[simp] theorem h52_keep : h52.keep = [] := rfl
@[simp] theorem h52_out : h52.out = [] := rfl
@[simp] theorem h52_row : h52.row = [] := rfl
@[simp] theorem h52_par : h52.par = [] := rfl
@[simp] theorem h52_res : h52.res = [] := rfl
@[simp] theorem h52_shr : h52.shr = [2, 3] := rfl
@[simp] theorem h52_far : h52.far = [] := rfl
@[simp] theorem callOk53 : callOk Try.prog 53 = true := by kernel_rfl
@[simp] theorem hint53 : lore.hint 53 = h53 := rfl
@[simp] theorem h53_var : h53.var = [0, 2, 4, 6] := rfl
@[simp] theorem h53_own : h53.own = [2] := rfl
@[simp] theorem h53_keep : h53.keep = [] := rfl
@[simp] theorem h53_out : h53.out = [] := rfl
@[simp] theorem h53_row : h53.row = [] := rfl
@[simp] theorem h53_par : h53.par = [] := rfl
@[simp] theorem h53_res : h53.res = [] := rfl
@[simp] theorem h53_shr : h53.shr = [2] := rfl
@[simp] theorem h53_far : h53.far = [] := rfl
@[simp] theorem callOk56 : callOk Try.prog 56 = true := by kernel_rfl
@[simp] theorem hint56 : lore.hint 56 = h56 := rfl
@[simp] theorem h56_var : h56.var = [0, 2, 3] := rfl
@[simp] theorem h56_own : h56.own = [2, 3] := rfl
@[simp] theorem h56_keep : h56.keep = [] := rfl
@[simp] theorem h56_out : h56.out = [] := rfl
@[simp] theorem h56_row : h56.row = [] := rfl
@[simp] theorem h56_par : h56.par = [] := rfl
@[simp] theorem h56_res : h56.res = [] := rfl
@[simp] theorem h56_shr : h56.shr = [2, 3] := rfl
@[simp] theorem h56_far : h56.far = [] := rfl
@[simp] theorem callOk57 : callOk Try.prog 57 = true := by kernel_rfl
@[simp] theorem hint57 : lore.hint 57 = h57 := rfl
@[simp] theorem h57_var : h57.var = [0, 1, 2, 4, 5, 6] := rfl
@[simp] theorem h57_own : h57.own = [4] := rfl
@[simp] theorem h57_keep : h57.keep = [] := rfl
@[simp] theorem h57_out : h57.out = [] := rfl
@[simp] theorem h57_row : h57.row = [(2, [(some (6, (41, false)))])] := rfl
@[simp] theorem h57_par : h57.par = [[(some (6, (41, false)))]] := rfl
@[simp] theorem h57_res : h57.res = [] := rfl
@[simp] theorem h57_shr : h57.shr = [4] := rfl
@[simp] theorem h57_far : h57.far = [] := rfl
@[simp] theorem callOk58 : callOk Try.prog 58 = true := by kernel_rfl
@[simp] theorem hint58 : lore.hint 58 = h58 := rfl
@[simp] theorem h58_var : h58.var = [0, 2] := rfl
@[simp] theorem h58_own : h58.own = [2] := rfl
@[simp] theorem h58_keep : h58.keep = [] := rfl
@[simp] theorem h58_out : h58.out = [] := rfl
@[simp] theorem h58_row : h58.row = [] := rfl
@[simp] theorem h58_par : h58.par = [] := rfl
@[simp] theorem h58_res : h58.res = [] := rfl
@[simp] theorem h58_shr : h58.shr = [2] := rfl
@[simp] theorem h58_far : h58.far = [] := rfl
@[simp] theorem callOk59 : callOk Try.prog 59 = true := by kernel_rfl
@[simp] theorem hint59 : lore.hint 59 = h59 := rfl
@[simp] theorem h59_var : h59.var = [0, 1, 4] := rfl
@[simp] theorem h59_own : h59.own = [4] := rfl
@[simp] theorem h59_keep : h59.keep = [] := rfl
@[simp] theorem h59_out : h59.out = [] := rfl
@[simp] theorem h59_row : h59.row = [] := rfl
@[simp] theorem h59_par : h59.par = [] := rfl
@[simp] theorem h59_res : h59.res = [] := rfl
@[simp] theorem h59_shr : h59.shr = [4] := rfl
@[simp] theorem h59_far : h59.far = [] := rfl
@[simp] theorem callOk60 : callOk Try.prog 60 = true := by kernel_rfl
@[simp] theorem hint60 : lore.hint 60 = h60 := rfl
@[simp] theorem h60_var : h60.var = [0, 1, 2, 3, 4, 9] := rfl
@[simp] theorem h60_own : h60.own = [0, 1] := rfl
@[simp] theorem h60_keep : h60.keep = [(7, [0, 1, 2, 3, 4, 9]), (3, [0, 1, 4])] := rfl
@[simp] theorem h60_out : h60.out = [(7, [0, 1, 2, 3, 4]), (3, [0, 1])] := rfl
@[simp] theorem h60_row : h60.row = [] := rfl
@[simp] theorem h60_par : h60.par = [] := rfl
@[simp] theorem h60_res : h60.res = [] := rfl
@[simp] theorem h60_shr : h60.shr = [0] := rfl
@[simp] theorem h60_far : h60.far = [] := rfl
@[simp] theorem callOk62 : callOk Try.prog 62 = true := by kernel_rfl
@[simp] theorem hint62 : lore.hint 62 = h62 := rfl
@[simp] theorem h62_var : h62.var = [0, 1, 4] := rfl
@[simp] theorem h62_own : h62.own = [4] := rfl
@[simp] theorem h62_keep : h62.keep = [] := rfl
@[simp] theorem h62_out : h62.out = [] := rfl
@[simp] theorem h62_row : h62.row = [] := rfl
@[simp] theorem h62_par : h62.par = [] := rfl
@[simp] theorem h62_res : h62.res = [] := rfl
@[simp] theorem h62_shr : h62.shr = [4] := rfl
@[simp] theorem h62_far : h62.far = [] := rfl
@[simp] theorem callOk63 : callOk Try.prog 63 = true := by kernel_rfl
@[simp] theorem hint63 : lore.hint 63 = h63 := rfl
@[simp] theorem h63_var : h63.var = [0, 1, 4] := rfl
@[simp] theorem h63_own : h63.own = [4] := rfl
@[simp] theorem h63_keep : h63.keep = [] := rfl
@[simp] theorem h63_out : h63.out = [] := rfl
@[simp] theorem h63_row : h63.row = [] := rfl
@[simp] theorem h63_par : h63.par = [] := rfl
@[simp] theorem h63_res : h63.res = [] := rfl
@[simp] theorem h63_shr : h63.shr = [] := rfl
@[simp] theorem h63_far : h63.far = [] := rfl
@[simp] theorem callOk64 : callOk Try.prog 64 = true := by kernel_rfl
@[simp] theorem hint64 : lore.hint 64 = h64 := rfl
@[simp] theorem h64_var : h64.var = [0, 1, 2, 3] := rfl
@[simp] theorem h64_own : h64.own = [3] := rfl
@[simp] theorem h64_keep : h64.keep = [] := rfl
@[simp] theorem h64_out : h64.out = [] := rfl
@[simp] theorem h64_row : h64.row = [(2, [none, none, (some (1, (3, false)))])] := rfl
@[simp] theorem h64_par : h64.par = [[none, none, (some (1, (3, false)))]] := rfl
@[simp] theorem h64_res : h64.res = [] := rfl
@[simp] theorem h64_shr : h64.shr = [3] := rfl
@[simp] theorem h64_far : h64.far = [] := rfl
@[simp] theorem callOk65 : callOk Try.prog 65 = true := by kernel_rfl
@[simp] theorem hint65 : lore.hint 65 = h65 := rfl
@[simp] theorem h65_var : h65.var = [0, 1, 2, 3, 4] := rfl
@[simp] theorem h65_own : h65.own = [2, 4] := rfl
@[simp] theorem h65_keep : h65.keep = [] := rfl
@[simp] theorem h65_out : h65.out = [] := rfl
@[simp] theorem h65_row : h65.row = [(3, [none, none, (some (1, (3, false)))])] := rfl
@[simp] theorem h65_par : h65.par = [[], [none, none, (some (1, (3, false)))]] := rfl
@[simp] theorem h65_res : h65.res = [] := rfl
@[simp] theorem h65_shr : h65.shr = [4] := rfl
@[simp] theorem h65_far : h65.far = [] := rfl
@[simp] theorem callOk66 : callOk Try.prog 66 = true := by kernel_rfl
@[simp] theorem hint66 : lore.hint 66 = h66 := rfl
@[simp] theorem h66_var : h66.var = [0, 2] := rfl
@[simp] theorem h66_own : h66.own = [2] := rfl
@[simp] theorem h66_keep : h66.keep = [] := rfl
@[simp] theorem h66_out : h66.out = [] := rfl
@[simp] theorem h66_row : h66.row = [] := rfl
@[simp] theorem h66_par : h66.par = [] := rfl
@[simp] theorem h66_res : h66.res = [] := rfl
@[simp] theorem h66_shr : h66.shr = [2] := rfl
@[simp] theorem h66_far : h66.far = [] := rfl
@[simp] theorem callOk67 : callOk Try.prog 67 = true := by kernel_rfl
@[simp] theorem hint67 : lore.hint 67 = h67 := rfl
@[simp] theorem h67_var : h67.var = [0, 2, 3, 4] := rfl
@[simp] theorem h67_own : h67.own = [2, 3] := rfl
@[simp] theorem h67_keep : h67.keep = [] := rfl
@[simp] theorem h67_out : h67.out = [] := rfl
@[simp] theorem h67_row : h67.row = [] := rfl
@[simp] theorem h67_par : h67.par = [] := rfl
@[simp] theorem h67_res : h67.res = [] := rfl
@[simp] theorem h67_shr : h67.shr = [2, 3] := rfl
@[simp] theorem h67_far : h67.far = [] := rfl
@[simp] theorem callOk69 : callOk Try.prog 69 = true := by kernel_rfl
@[simp] theorem hint69 : lore.hint 69 = h69 := rfl
@[simp] theorem h69_var : h69.var = [0, 2, 3] := rfl
@[simp] theorem h69_own : h69.own = [2, 3] := rfl
@[simp] theorem h69_keep : h69.keep = [] := rfl
@[simp] theorem h69_out : h69.out = [] := rfl
@[simp] theorem h69_row : h69.row = [] := rfl
@[simp] theorem h69_par : h69.par = [] := rfl
@[simp] theorem h69_res : h69.res = [] := rfl
@[simp] theorem h69_shr : h69.shr = [2, 3] := rfl
@[simp] theorem h69_far : h69.far = [] := rfl
@[simp] theorem callOk70 : callOk Try.prog 70 = true := by kernel_rfl
@[simp] theorem hint70 : lore.hint 70 = h70 := rfl
@[simp] theorem h70_var : h70.var = [0, 2, 3, 4] := rfl
@[simp] theorem h70_own : h70.own = [2] := rfl
@[simp] theorem h70_keep : h70.keep = [] := rfl
@[simp] theorem h70_out : h70.out = [] := rfl
@[simp] theorem h70_row : h70.row = [] := rfl
@[simp] theorem h70_par : h70.par = [] := rfl
@[simp] theorem h70_res : h70.res = [] := rfl
@[simp] theorem h70_shr : h70.shr = [2] := rfl
@[simp] theorem h70_far : h70.far = [] := rfl
@[simp] theorem callOk71 : callOk Try.prog 71 = true := by kernel_rfl
@[simp] theorem hint71 : lore.hint 71 = h71 := rfl
@[simp] theorem h71_var : h71.var = [0] := rfl
@[simp] theorem h71_own : h71.own = [0] := rfl
@[simp] theorem h71_keep : h71.keep = [] := rfl
@[simp] theorem h71_out : h71.out = [] := rfl
@[simp] theorem h71_row : h71.row = [] := rfl
@[simp] theorem h71_par : h71.par = [] := rfl
@[simp] theorem h71_res : h71.res = [] := rfl
@[simp] theorem h71_shr : h71.shr = [0] := rfl
@[simp] theorem h71_far : h71.far = [] := rfl
@[simp] theorem callOk72 : callOk Try.prog 72 = true := by kernel_rfl
@[simp] theorem hint72 : lore.hint 72 = h72 := rfl
@[simp] theorem h72_var : h72.var = [0, 1, 4, 5, 7, 8] := rfl
@[simp] theorem h72_own : h72.own = [4] := rfl
@[simp] theorem h72_keep : h72.keep = [(2, [0, 1, 7, 8])] := rfl
@[simp] theorem h72_out : h72.out = [(2, [4])] := rfl
@[simp] theorem h72_row : h72.row = [] := rfl
@[simp] theorem h72_par : h72.par = [] := rfl
@[simp] theorem h72_res : h72.res = [] := rfl
@[simp] theorem h72_shr : h72.shr = [] := rfl
@[simp] theorem h72_far : h72.far = [] := rfl
@[simp] theorem callOk73 : callOk Try.prog 73 = true := by kernel_rfl
@[simp] theorem hint73 : lore.hint 73 = h73 := rfl
@[simp] theorem h73_var : h73.var = [0, 1, 4, 5, 6] := rfl
@[simp] theorem h73_own : h73.own = [4] := rfl
@[simp] theorem h73_keep : h73.keep = [] := rfl
@[simp] theorem h73_out : h73.out = [] := rfl
@[simp] theorem h73_row : h73.row = [] := rfl
@[simp] theorem h73_par : h73.par = [] := rfl
@[simp] theorem h73_res : h73.res = [] := rfl
@[simp] theorem h73_shr : h73.shr = [4] := rfl
@[simp] theorem h73_far : h73.far = [] := rfl
@[simp] theorem callOk74 : callOk Try.prog 74 = true := by kernel_rfl
@[simp] theorem hint74 : lore.hint 74 = h74 := rfl
@[simp] theorem h74_var : h74.var = [0, 2] := rfl
@[simp] theorem h74_own : h74.own = [2] := rfl
@[simp] theorem h74_keep : h74.keep = [] := rfl
@[simp] theorem h74_out : h74.out = [] := rfl
@[simp] theorem h74_row : h74.row = [] := rfl
@[simp] theorem h74_par : h74.par = [] := rfl
@[simp] theorem h74_res : h74.res = [] := rfl
@[simp] theorem h74_shr : h74.shr = [2] := rfl
@[simp] theorem h74_far : h74.far = [] := rfl
@[simp] theorem callOk75 : callOk Try.prog 75 = true := by kernel_rfl
@[simp] theorem hint75 : lore.hint 75 = h75 := rfl
@[simp] theorem h75_var : h75.var = [0, 1, 4] := rfl
@[simp] theorem h75_own : h75.own = [4] := rfl
@[simp] theorem h75_keep : h75.keep = [] := rfl
@[simp] theorem h75_out : h75.out = [] := rfl
@[simp] theorem h75_row : h75.row = [] := rfl
@[simp] theorem h75_par : h75.par = [] := rfl
@[simp] theorem h75_res : h75.res = [] := rfl
@[simp] theorem h75_shr : h75.shr = [] := rfl
@[simp] theorem h75_far : h75.far = [] := rfl
@[simp] theorem callOk76 : callOk Try.prog 76 = true := by kernel_rfl
@[simp] theorem hint76 : lore.hint 76 = h76 := rfl
@[simp] theorem h76_var : h76.var = [0, 1, 3] := rfl
@[simp] theorem h76_own : h76.own = [3] := rfl
@[simp] theorem h76_keep : h76.keep = [] := rfl
@[simp] theorem h76_out : h76.out = [] := rfl
@[simp] theorem h76_row : h76.row = [] := rfl
@[simp] theorem h76_par : h76.par = [] := rfl
@[simp] theorem h76_res : h76.res = [] := rfl
@[simp] theorem h76_shr : h76.shr = [3] := rfl
@[simp] theorem h76_far : h76.far = [] := rfl
@[simp] theorem callOk77 : callOk Try.prog 77 = true := by kernel_rfl
@[simp] theorem hint77 : lore.hint 77 = h77 := rfl
@[simp] theorem h77_var : h77.var = [0, 1, 4, 6] := rfl
@[simp] theorem h77_own : h77.own = [4] := rfl
@[simp] theorem h77_keep : h77.keep = [] := rfl
@[simp] theorem h77_out : h77.out = [] := rfl
@[simp] theorem h77_row : h77.row = [] := rfl
@[simp] theorem h77_par : h77.par = [] := rfl
@[simp] theorem h77_res : h77.res = [] := rfl
@[simp] theorem h77_shr : h77.shr = [4] := rfl
@[simp] theorem h77_far : h77.far = [] := rfl
@[simp] theorem callOk78 : callOk Try.prog 78 = true := by kernel_rfl
@[simp] theorem hint78 : lore.hint 78 = h78 := rfl
@[simp] theorem h78_var : h78.var = [0, 2] := rfl
@[simp] theorem h78_own : h78.own = [2] := rfl
@[simp] theorem h78_keep : h78.keep = [] := rfl
@[simp] theorem h78_out : h78.out = [] := rfl
@[simp] theorem h78_row : h78.row = [] := rfl
@[simp] theorem h78_par : h78.par = [] := rfl
@[simp] theorem h78_res : h78.res = [] := rfl
@[simp] theorem h78_shr : h78.shr = [2] := rfl
@[simp] theorem h78_far : h78.far = [] := rfl
@[simp] theorem callOk79 : callOk Try.prog 79 = true := by kernel_rfl
@[simp] theorem hint79 : lore.hint 79 = h79 := rfl
@[simp] theorem h79_var : h79.var = [0, 2] := rfl
@[simp] theorem h79_own : h79.own = [2] := rfl
@[simp] theorem h79_keep : h79.keep = [] := rfl
@[simp] theorem h79_out : h79.out = [] := rfl
@[simp] theorem h79_row : h79.row = [] := rfl
@[simp] theorem h79_par : h79.par = [] := rfl
@[simp] theorem h79_res : h79.res = [] := rfl
@[simp] theorem h79_shr : h79.shr = [2] := rfl
@[simp] theorem h79_far : h79.far = [] := rfl
@[simp] theorem callOk82 : callOk Try.prog 82 = true := by kernel_rfl
@[simp] theorem hint82 : lore.hint 82 = h82 := rfl
@[simp] theorem h82_var : h82.var = [0, 1, 4, 5, 7, 8] := rfl
@[simp] theorem h82_own : h82.own = [4] := rfl
@[simp] theorem h82_keep : h82.keep = [(2, [0, 1, 7, 8])] := rfl
@[simp] theorem h82_out : h82.out = [(2, [4])] := rfl
@[simp] theorem h82_row : h82.row = [] := rfl
@[simp] theorem h82_par : h82.par = [] := rfl
@[simp] theorem h82_res : h82.res = [] := rfl
@[simp] theorem h82_shr : h82.shr = [] := rfl
@[simp] theorem h82_far : h82.far = [] := rfl
@[simp] theorem callOk83 : callOk Try.prog 83 = true := by kernel_rfl
@[simp] theorem hint83 : lore.hint 83 = h83 := rfl
@[simp] theorem h83_var : h83.var = [0] := rfl
@[simp] theorem h83_own : h83.own = [0] := rfl
@[simp] theorem h83_keep : h83.keep = [] := rfl
@[simp] theorem h83_out : h83.out = [] := rfl
@[simp] theorem h83_row : h83.row = [] := rfl
@[simp] theorem h83_par : h83.par = [] := rfl
@[simp] theorem h83_res : h83.res = [] := rfl
@[simp] theorem h83_shr : h83.shr = [0] := rfl
@[simp] theorem h83_far : h83.far = [] := rfl
end Go.Pv

namespace Go.Pv
open Go Go.Proofs
attribute [simp] fr_GObj
@[simp ↓] theorem f_flt_Canon (b : Int) (fr : Frames) : cO Try.prog lore 74 [.t (.sc (.int .i64 b))] fr = some (.val (I (canonF b)), fr) := by
  rw [cO_told (s := canonS) rfl]
  rfl
open Classical in
noncomputable def F_snap_Encode (h : GHeap) (r : List Int) : Option ByteArray := if Slim h ∧ r.length ≤ big then some (encP h r) else none
noncomputable def F_crc_Of (s : ByteArray) : Option Int := if s.size ≤ big then some ((sumV 0#32 s).toNat : Int) else none
@[simp ↓] theorem f_crc_Of (s : ByteArray) (fr : Frames) : cO Try.prog lore 21 [D.t (T.sc (Value.string s))] fr = ob (F_crc_Of s) fun r => some (Res.val (D.t (T.sc (Value.int IntKind.i64 r))), fr) := by
  rw [cO_told (s := crcS) rfl]
  unfold F_crc_Of
  by_cases h : s.size ≤ big
  · rw [if_pos h]
    simp [h21, crcS, h, ob_some]
  · rw [if_neg h]
    simp [h21, crcS, h]
noncomputable def F_snap_read (s : ByteArray) : Option (GHeap × List Int × Bool) := if s.size ≤ big then some (readR s) else none
@[simp ↓] theorem f_snap_Encode (x_0 : List GObj) (x_1 x_2 : Int) (r : List Int) (fr : Frames) : cO Try.prog lore 12 [D.agg [D.t (T.sl 6 (els x_0)), D.t (T.sc (Value.int IntKind.i64 x_1)), D.t (T.sc (Value.int IntKind.i64 x_2))], D.t (T.sl 1 (els r))] fr =
    ob (F_snap_Encode ⟨x_0, x_1, x_2⟩ r) fun s => some (Res.val (D.t (T.sc (Value.string s))), fr) := by
  rw [cO_told (s := encS) rfl]
  unfold F_snap_Encode
  by_cases h : Slim ⟨x_0, x_1, x_2⟩
  · by_cases hr : r.length ≤ big
    · rw [if_pos ⟨h, hr⟩]
      simp [h12, encS, decH_els ⟨x_0, x_1, x_2⟩ h, decIs_els, hr, ob_some]
    · rw [if_neg fun e => hr e.2]
      simp [h12, encS, decH_els ⟨x_0, x_1, x_2⟩ h, decIs_els, hr]
  · rw [if_neg fun e => h e.1]
    simp [h12, encS, decH_fat ⟨x_0, x_1, x_2⟩ h]
@[simp ↓] theorem f_snap_Encode_nil (x_0 : List GObj) (x_1 x_2 : Int) (fr : Frames) : cO Try.prog lore 12 [D.agg [D.t (T.sl 6 (els x_0)), D.t (T.sc (Value.int IntKind.i64 x_1)), D.t (T.sc (Value.int IntKind.i64 x_2))], D.t (T.sc (.slice none 0 0))] fr =
    ob (F_snap_Encode ⟨x_0, x_1, x_2⟩ []) fun s => some (Res.val (D.t (T.sc (Value.string s))), fr) := by
  rw [← f_snap_Encode, cO_told (s := encS) rfl, cO_told (s := encS) rfl]
  simp [h12]
@[simp ↓] theorem f_snap_read (s : ByteArray) (fr : Frames) : cO Try.prog lore 22 [D.t (T.sc (Value.string s))] fr =
    ob (F_snap_read s) fun r => some (Res.val (D.tup [D.agg [D.t (T.sl 6 (els r.1.Objs)), D.t (T.sc (Value.int IntKind.i64 r.1.Cap)), D.t (T.sc (Value.int IntKind.i64 r.1.Last))], D.t (T.sl 1 (els r.2.1)), D.t (T.sc (Value.bool r.2.2))]), fr) := by
  rw [cO_told (s := readS) rfl]
  unfold F_snap_read
  by_cases h : s.size ≤ big
  · rw [if_pos h]
    simp [h22, readS, h, ob_some]
  · rw [if_neg h]
    simp [h22, readS, h]
theorem run_at {f : FuncId} {args : List D} {r : Res × Frames} (k : Nat) (h : call Try.prog lore k f args [] = some r) : cO Try.prog lore f args [] = some r := cO_iff.2 ⟨k, h⟩
end Go.Pv

namespace Go.Pv
open Go Go.Proofs
@[simp ↓] theorem f_snap_Encode_h0 (x_1 x_2 : Int) (fr : Frames) : cO Try.prog lore 12 [D.agg [D.t (T.sc (.slice none 0 0)), D.t (T.sc (Value.int IntKind.i64 x_1)), D.t (T.sc (Value.int IntKind.i64 x_2))], D.t (T.sc (.slice none 0 0))] fr =
    ob (F_snap_Encode ⟨[], x_1, x_2⟩ []) fun s => some (Res.val (D.t (T.sc (Value.string s))), fr) := by
  rw [← f_snap_Encode, cO_told (s := encS) rfl, cO_told (s := encS) rfl]
  simp [h12]
@[simp ↓] theorem f_snap_Encode_h1 (x_1 x_2 : Int) (r : List Int) (fr : Frames) : cO Try.prog lore 12 [D.agg [D.t (T.sc (.slice none 0 0)), D.t (T.sc (Value.int IntKind.i64 x_1)), D.t (T.sc (Value.int IntKind.i64 x_2))], D.t (T.sl 1 (els r))] fr =
    ob (F_snap_Encode ⟨[], x_1, x_2⟩ r) fun s => some (Res.val (D.t (T.sc (Value.string s))), fr) := by
  rw [← f_snap_Encode, cO_told (s := encS) rfl, cO_told (s := encS) rfl]
  simp [h12]
end Go.Pv

/- A base lore: flt.Canon alone is told. -/
namespace Go.Pv
open Go Go.Proofs
def loreB : Lore := ⟨hints, fun
  | 74 => some (plainT canonS)
  | _ => none⟩
/-- A loop, by what gets less; where it ends all that is told is what the first state says. -/
theorem loop_stepB {P : Program} {H : Hint} {C : Callee} {c : Code} {A : Type} (N : A → St) (R : A → Out × St) (μ : A → Nat) (I : A → Prop)
    (h : ∀ a, I a → (∃ a', roundOf (H.at c) (H.outAt c) (eO P H C c (N a)) = some (.normal, N a') ∧ I a' ∧ μ a' < μ a ∧ R a' = R a) ∨ roundOf (H.at c) (H.outAt c) (eO P H C c (N a)) = some (R a)) (hR : ∀ a, (R a).1 ≠ .normal) :
    ∀ a, I a → ∀ σ, norm (H.at c) σ = N a → eO P H C (.loop c) σ = some (R a) := by
  intro a
  generalize hk : μ a = k
  induction k using Nat.strongRecOn generalizing a with
  | ind k ih =>
    intro ha σ hσ
    rw [eO_loop, hσ]
    rcases h a ha with ⟨a', h1, h2, h3, h4⟩ | h1
    · rcases hx : eO P H C c (N a) with _ | ⟨o, σ1⟩
      · rw [hx] at h1; cases h1
      · rw [hx] at h1
        cases o with
        | normal =>
          simp only [roundOf, Option.some.injEq, Prod.mk.injEq, true_and] at h1
          simp only [loopThen]
          rw [ih (μ a') (by omega) a' rfl h2 σ1 h1, h4]
        | exit i => simp [roundOf] at h1
        | ret => simp [roundOf] at h1
        | panic x => simp [roundOf] at h1
    · rcases hx : eO P H C c (N a) with _ | ⟨o, σ1⟩
      · rw [hx] at h1; cases h1
      · rw [hx] at h1
        cases o with
        | normal =>
          simp only [roundOf, Option.some.injEq] at h1
          exact absurd (congrArg Prod.fst h1).symm (hR a)
        | exit i => exact h1
        | ret => exact h1
        | panic x => exact h1
namespace Bs
@[simp] theorem hint8 : loreB.hint 8 = h8 := rfl
@[simp] theorem hint9 : loreB.hint 9 = h9 := rfl
@[simp] theorem hint10 : loreB.hint 10 = h10 := rfl
@[simp] theorem hint12 : loreB.hint 12 = h12 := rfl
@[simp] theorem hint13 : loreB.hint 13 = h13 := rfl
@[simp] theorem hint14 : loreB.hint 14 = h14 := rfl
@[simp] theorem hint15 : loreB.hint 15 = h15 := rfl
@[simp] theorem hint16 : loreB.hint 16 = h16 := rfl
@[simp] theorem hint17 : loreB.hint 17 = h17 := rfl
@[simp] theorem hint18 : loreB.hint 18 = h18 := rfl
@[simp] theorem hint19 : loreB.hint 19 = h19 := rfl
@[simp] theorem hint20 : loreB.hint 20 = h20 := rfl
@[simp] theorem hint21 : loreB.hint 21 = h21 := rfl
@[simp] theorem hint22 : loreB.hint 22 = h22 := rfl
@[simp] theorem hint27 : loreB.hint 27 = h27 := rfl
@[simp] theorem hint33 : loreB.hint 33 = h33 := rfl
@[simp] theorem hint34 : loreB.hint 34 = h34 := rfl
@[simp] theorem hint35 : loreB.hint 35 = h35 := rfl
@[simp] theorem hint36 : loreB.hint 36 = h36 := rfl
@[simp] theorem hint37 : loreB.hint 37 = h37 := rfl
@[simp] theorem hint38 : loreB.hint 38 = h38 := rfl
@[simp] theorem hint39 : loreB.hint 39 = h39 := rfl
@[simp] theorem hint40 : loreB.hint 40 = h40 := rfl
@[simp] theorem hint41 : loreB.hint 41 = h41 := rfl
@[simp] theorem hint42 : loreB.hint 42 = h42 := rfl
@[simp] theorem hint43 : loreB.hint 43 = h43 := rfl
@[simp] theorem hint50 : loreB.hint 50 = h50 := rfl
@[simp] theorem hint51 : loreB.hint 51 = h51 := rfl
@[simp] theorem hint52 : loreB.hint 52 = h52 := rfl
@[simp] theorem hint53 : loreB.hint 53 = h53 := rfl
@[simp] theorem hint56 : loreB.hint 56 = h56 := rfl
@[simp] theorem hint57 : loreB.hint 57 = h57 := rfl
@[simp] theorem hint58 : loreB.hint 58 = h58 := rfl
@[simp] theorem hint59 : loreB.hint 59 = h59 := rfl
@[simp] theorem hint60 : loreB.hint 60 = h60 := rfl
@[simp] theorem hint62 : loreB.hint 62 = h62 := rfl
@[simp] theorem hint63 : loreB.hint 63 = h63 := rfl
@[simp] theorem hint64 : loreB.hint 64 = h64 := rfl
@[simp] theorem hint65 : loreB.hint 65 = h65 := rfl
@[simp] theorem hint66 : loreB.hint 66 = h66 := rfl
@[simp] theorem hint67 : loreB.hint 67 = h67 := rfl
@[simp] theorem hint69 : loreB.hint 69 = h69 := rfl
@[simp] theorem hint70 : loreB.hint 70 = h70 := rfl
@[simp] theorem hint71 : loreB.hint 71 = h71 := rfl
@[simp] theorem hint72 : loreB.hint 72 = h72 := rfl
@[simp] theorem hint73 : loreB.hint 73 = h73 := rfl
@[simp] theorem hint74 : loreB.hint 74 = h74 := rfl
@[simp] theorem hint75 : loreB.hint 75 = h75 := rfl
@[simp] theorem hint76 : loreB.hint 76 = h76 := rfl
@[simp] theorem hint77 : loreB.hint 77 = h77 := rfl
@[simp] theorem hint78 : loreB.hint 78 = h78 := rfl
@[simp] theorem hint79 : loreB.hint 79 = h79 := rfl
@[simp] theorem hint82 : loreB.hint 82 = h82 := rfl
@[simp] theorem hint83 : loreB.hint 83 = h83 := rfl
@[simp ↓] theorem f_flt_Canon (b : Int) (fr : Frames) : cO Try.prog loreB 74 [.t (.sc (.int .i64 b))] fr = some (.val (I (canonF b)), fr) := by
  rw [cO_told (s := canonS) rfl]
  rfl
end Bs
end Go.Pv
