/- A part of the road: the interpreter of plain data and the proof that it is right. -/
import Derived.Test.YtcomdnpeoicpkaaProg
import Derived.Test.YtcomdnpeoicpkaaD
import Derived.Test.YtcomdnpeoicpkaaHY
import Derived.Test.YtcomdnpeoicpkaaNY
import Derived.KernelRfl
set_option linter.unusedVariables false
set_option linter.unusedSimpArgs false
namespace Go.Pv
open Go Go.Proofs
def h5 : Hint := { var := [0, 1, 2, 3, 5, 6, 7, 8, 9, 10, 11, 12, 13, 14, 15, 16, 17, 18, 19, 20], own := [6, 10], keep := [(7, [1, 3, 5, 7, 8])], out := [(7, [1, 3, 5, 6, 7])], row := [(3, [(some (6, (34, false)))]), (9, [(some (1, (3, false)))]), (10, [(some (6, (34, true)))])], par := [[(some (6, (34, false)))]], res := [], shr := [6] }
def h11 : Hint := { var := [0, 1, 2, 3, 4, 5, 6, 7, 10, 13, 14, 15, 16, 17, 19], own := [0], keep := [], out := [], row := [(1, [(some (6, (34, false)))])], par := [], res := [], shr := [0] }
def h12 : Hint := { var := [0, 1, 2, 3, 4], own := [2], keep := [(3, [1, 3, 4])], out := [(3, [1, 3])], row := [(1, [(some (6, (34, false)))])], par := [[(some (6, (34, false)))]], res := [], shr := [2] }
def h13 : Hint := { var := [0, 1, 2, 3], own := [2], keep := [(2, [1, 3])], out := [(2, [1, 2])], row := [(1, [(some (6, (34, false)))])], par := [[(some (6, (34, false)))]], res := [], shr := [2] }
def h14 : Hint := { var := [0, 1, 2, 3, 5, 6, 7, 8, 9, 10, 11, 13], own := [6, 7, 8], keep := [], out := [], row := [(3, [(some (6, (34, false)))]), (11, [(some (1, (3, false)))])], par := [[(some (6, (34, false)))]], res := [], shr := [6, 7, 8] }
def h15 : Hint := { var := [0, 1, 2, 3, 5, 6, 7, 8], own := [6], keep := [], out := [], row := [(3, [(some (6, (34, false)))])], par := [[(some (6, (34, false)))]], res := [], shr := [6] }
def h16 : Hint := { var := [0, 1, 2, 4, 5, 6, 8, 9, 10], own := [4], keep := [], out := [], row := [(2, [(some (6, (34, false)))]), (6, [(some (1, (3, false)))])], par := [[(some (6, (34, false)))]], res := [], shr := [4] }
def h17 : Hint := { var := [0, 1, 2, 4, 5, 6], own := [4], keep := [], out := [], row := [(2, [(some (6, (34, false)))])], par := [[(some (6, (34, false)))]], res := [], shr := [4] }
def h18 : Hint := { var := [0, 1, 2, 4, 6], own := [4], keep := [], out := [], row := [(2, [(some (6, (34, false)))])], par := [[(some (6, (34, false)))]], res := [], shr := [4] }
def h19 : Hint := { var := [0, 1, 2, 3, 4, 5], own := [2, 3], keep := [(3, [1, 2, 3, 4])], out := [(3, [2, 3])], row := [(1, [(some (6, (34, false)))]), (2, [(some (6, (34, true)))]), (3, [(some (6, (34, true)))]), (5, [none, none, (some (1, (3, false)))])], par := [[(some (6, (34, false)))]], res := [[(some (6, (34, true)))]], shr := [2, 4098] }
def h32 : Hint := { var := [0, 1, 2, 3, 4, 5], own := [4], keep := [(2, [2, 3, 5])], out := [(2, [2, 3, 4])], row := [(2, [(some (6, (34, false)))]), (3, [none, none, (some (1, (3, false)))])], par := [[(some (6, (34, false)))], [none, none, (some (1, (3, false)))]], res := [], shr := [4] }
def h33 : Hint := { var := [0, 2], own := [2], keep := [], out := [], row := [], par := [], res := [], shr := [2] }
def h34 : Hint := { var := [0, 1, 2, 3], own := [2, 3], keep := [], out := [], row := [(1, [(some (6, (34, false)))])], par := [[(some (6, (34, false)))]], res := [], shr := [2] }
def h35 : Hint := { var := [0, 1, 2, 3, 4], own := [2, 3, 4], keep := [], out := [], row := [(2, [(some (6, (34, true)))])], par := [[(some (6, (34, false)))]], res := [], shr := [4] }
def h36 : Hint := { var := [0, 1, 2, 4, 5, 6, 7], own := [4, 5], keep := [], out := [], row := [(2, [(some (6, (34, false)))]), (4, [(some (1, (3, false)))])], par := [[(some (6, (34, false)))]], res := [[(some (1, (3, false)))]], shr := [4, 5] }
def h37 : Hint := { var := [0, 1, 2, 4, 5, 6], own := [4], keep := [], out := [], row := [(2, [(some (6, (34, false)))])], par := [[(some (6, (34, false)))]], res := [], shr := [4] }
def h38 : Hint := { var := [0, 1, 2, 4, 5, 6], own := [4, 5], keep := [], out := [], row := [(2, [(some (6, (34, false)))]), (4, [(some (1, (3, false)))])], par := [[(some (6, (34, false)))]], res := [[(some (1, (3, false)))]], shr := [4, 5] }
def h39 : Hint := { var := [0, 2, 3], own := [2, 3], keep := [], out := [], row := [], par := [], res := [], shr := [2, 3] }
def h40 : Hint := { var := [0, 2, 3], own := [2, 3], keep := [], out := [], row := [], par := [], res := [], shr := [2, 3] }
def h44 : Hint := { var := [0, 2, 3, 4], own := [2, 3], keep := [], out := [], row := [], par := [], res := [], shr := [2, 3] }
def h46 : Hint := { var := [0, 1, 2, 4, 5, 7, 8, 9], own := [4], keep := [], out := [], row := [(2, [(some (6, (34, false)))])], par := [[(some (6, (34, false)))]], res := [], shr := [4] }
def h47 : Hint := { var := [0, 2], own := [2], keep := [], out := [], row := [], par := [], res := [], shr := [2] }
def h48 : Hint := { var := [0, 1, 4], own := [4], keep := [], out := [], row := [], par := [], res := [], shr := [4] }
def h49 : Hint := { var := [0, 1, 4], own := [4], keep := [], out := [], row := [], par := [], res := [], shr := [] }
def h50 : Hint := { var := [0, 1, 2, 3], own := [3], keep := [], out := [], row := [(2, [none, none, (some (1, (3, false)))])], par := [[none, none, (some (1, (3, false)))]], res := [], shr := [3] }
def h51 : Hint := { var := [0, 1, 2, 3, 4], own := [2, 4], keep := [], out := [], row := [(3, [none, none, (some (1, (3, false)))])], par := [[], [none, none, (some (1, (3, false)))]], res := [], shr := [4] }
def h52 : Hint := { var := [0, 1, 2, 4, 5], own := [], keep := [(1, [0, 1, 2, 4])], out := [], row := [], par := [], res := [], shr := [] }
def h53 : Hint := { var := [0, 2, 3, 4], own := [2, 3], keep := [], out := [], row := [], par := [], res := [], shr := [2, 3] }
def h54 : Hint := { var := [0, 2], own := [2], keep := [], out := [], row := [], par := [], res := [], shr := [2] }
def h55 : Hint := { var := [0, 2], own := [2], keep := [], out := [], row := [], par := [], res := [], shr := [2] }
def h56 : Hint := { var := [0, 2, 3, 4], own := [2], keep := [], out := [], row := [], par := [], res := [], shr := [2] }
def h57 : Hint := { var := [0], own := [0], keep := [], out := [], row := [], par := [], res := [], shr := [0] }
def h58 : Hint := { var := [0, 1, 4, 5, 7, 8], own := [4], keep := [(2, [0, 1, 7, 8])], out := [(2, [4])], row := [], par := [], res := [], shr := [] }
def h59 : Hint := { var := [0, 1, 4, 5, 6], own := [4], keep := [], out := [], row := [], par := [], res := [], shr := [4] }
def h60 : Hint := { var := [0, 2], own := [2], keep := [], out := [], row := [], par := [], res := [], shr := [2] }
def h61 : Hint := { var := [0, 1, 4], own := [4], keep := [], out := [], row := [], par := [], res := [], shr := [] }
def h62 : Hint := { var := [0, 1, 3], own := [3], keep := [], out := [], row := [], par := [], res := [], shr := [3] }
def h63 : Hint := { var := [0, 1, 4, 6], own := [4], keep := [], out := [], row := [], par := [], res := [], shr := [4] }
def h64 : Hint := { var := [0, 2], own := [2], keep := [], out := [], row := [], par := [], res := [], shr := [2] }
def h67 : Hint := { var := [0, 1, 4, 5, 7, 8], own := [4], keep := [(2, [0, 1, 7, 8])], out := [(2, [4])], row := [], par := [], res := [], shr := [] }
def h68 : Hint := { var := [0], own := [0], keep := [], out := [], row := [], par := [], res := [], shr := [0] }
def hints : FuncId → Hint
  | 5 => h5
  | 11 => h11
  | 12 => h12
  | 13 => h13
  | 14 => h14
  | 15 => h15
  | 16 => h16
  | 17 => h17
  | 18 => h18
  | 19 => h19
  | 32 => h32
  | 33 => h33
  | 34 => h34
  | 35 => h35
  | 36 => h36
  | 37 => h37
  | 38 => h38
  | 39 => h39
  | 40 => h40
  | 44 => h44
  | 46 => h46
  | 47 => h47
  | 48 => h48
  | 49 => h49
  | 50 => h50
  | 51 => h51
  | 52 => h52
  | 53 => h53
  | 54 => h54
  | 55 => h55
  | 56 => h56
  | 57 => h57
  | 58 => h58
  | 59 => h59
  | 60 => h60
  | 61 => h61
  | 62 => h62
  | 63 => h63
  | 64 => h64
  | 67 => h67
  | 68 => h68
  | _ => {}
def lore : Lore := ⟨hints, fun
  | 60 => some canonS
  | 14 => some findS
  | 15 => some underS
  | _ => none⟩
def loreB : Lore := ⟨hints, fun
  | 60 => some canonS
  | _ => none⟩
noncomputable abbrev c0 : Callee := cO Try.prog lore
end Go.Pv

namespace Go.Pv
open Go Go.Proofs
@[simp] theorem zOk3 : zOk Try.prog 3 = true := by kernel_rfl
@[simp] theorem szOf3 : szOf Try.prog 3 = 1 := by kernel_rfl
@[simp] theorem bytesOf3 : bytesOf Try.prog 3 = 8 := by kernel_rfl
@[simp] theorem kinds3 : kinds Try.prog 8 3 = [none] := by kernel_rfl
@[simp] theorem zOk9 : zOk Try.prog 9 = true := by kernel_rfl
@[simp] theorem szOf9 : szOf Try.prog 9 = 1 := by kernel_rfl
@[simp] theorem isStr9 : isStr Try.prog 9 = true := by kernel_rfl
@[simp] theorem zOk22 : zOk Try.prog 22 = true := by kernel_rfl
@[simp] theorem szOf22 : szOf Try.prog 22 = 1 := by kernel_rfl
@[simp] theorem elOf22 : elOf Try.prog 22 = some 34 := by kernel_rfl
@[simp] theorem arrOf22 : arrOf Try.prog 22 = none := by kernel_rfl
@[simp] theorem isSliceT22 : isSliceT Try.prog 22 = true := by kernel_rfl
@[simp] theorem zOk24 : zOk Try.prog 24 = true := by kernel_rfl
@[simp] theorem szOf24 : szOf Try.prog 24 = 3 := by kernel_rfl
@[simp] theorem zeroOf24 : zeroOf Try.prog 24 = [.slice none 0 0, .int .i64 0, .int .i64 0] := by kernel_rfl
@[simp] theorem buildOk24 : buildOk Try.prog 24 = true := by kernel_rfl
@[simp] theorem offOf24_0 : offOf Try.prog 24 0 = some 0 := by kernel_rfl
@[simp] theorem fszOf24_0 : fszOf Try.prog 24 0 = some (1, false) := by kernel_rfl
@[simp] theorem offOf24_1 : offOf Try.prog 24 1 = some 1 := by kernel_rfl
@[simp] theorem fszOf24_1 : fszOf Try.prog 24 1 = some (1, false) := by kernel_rfl
@[simp] theorem offOf24_2 : offOf Try.prog 24 2 = some 2 := by kernel_rfl
@[simp] theorem fszOf24_2 : fszOf Try.prog 24 2 = some (1, false) := by kernel_rfl
@[simp] theorem arrOf24 : arrOf Try.prog 24 = none := by kernel_rfl
@[simp] theorem zOk32 : zOk Try.prog 32 = true := by kernel_rfl
@[simp] theorem szOf32 : szOf Try.prog 32 = 1 := by kernel_rfl
@[simp] theorem elOf32 : elOf Try.prog 32 = some 3 := by kernel_rfl
@[simp] theorem arrOf32 : arrOf Try.prog 32 = none := by kernel_rfl
@[simp] theorem isSliceT32 : isSliceT Try.prog 32 = true := by kernel_rfl
@[simp] theorem zOk34 : zOk Try.prog 34 = true := by kernel_rfl
@[simp] theorem szOf34 : szOf Try.prog 34 = 6 := by kernel_rfl
@[simp] theorem bytesOf34 : bytesOf Try.prog 34 = 72 := by kernel_rfl
@[simp] theorem zeroOf34 : zeroOf Try.prog 34 = [.int .i64 0, .int .i64 0, .slice none 0 0, .string ⟨#[]⟩, .int .i64 0, .int .i64 0] := by kernel_rfl
@[simp] theorem kinds34 : kinds Try.prog 8 34 = [none, none, some (1, 3), none, none, none] := by kernel_rfl
@[simp] theorem offOf34_0 : offOf Try.prog 34 0 = some 0 := by kernel_rfl
@[simp] theorem fszOf34_0 : fszOf Try.prog 34 0 = some (1, false) := by kernel_rfl
@[simp] theorem offOf34_1 : offOf Try.prog 34 1 = some 1 := by kernel_rfl
@[simp] theorem fszOf34_1 : fszOf Try.prog 34 1 = some (1, false) := by kernel_rfl
@[simp] theorem offOf34_2 : offOf Try.prog 34 2 = some 2 := by kernel_rfl
@[simp] theorem fszOf34_2 : fszOf Try.prog 34 2 = some (1, false) := by kernel_rfl
@[simp] theorem offOf34_3 : offOf Try.prog 34 3 = some 3 := by kernel_rfl
@[simp] theorem fszOf34_3 : fszOf Try.prog 34 3 = some (1, false) := by kernel_rfl
@[simp] theorem offOf34_4 : offOf Try.prog 34 4 = some 4 := by kernel_rfl
@[simp] theorem fszOf34_4 : fszOf Try.prog 34 4 = some (1, false) := by kernel_rfl
@[simp] theorem offOf34_5 : offOf Try.prog 34 5 = some 5 := by kernel_rfl
@[simp] theorem fszOf34_5 : fszOf Try.prog 34 5 = some (1, false) := by kernel_rfl
@[simp] theorem zOk36 : zOk Try.prog 36 = true := by kernel_rfl
@[simp] theorem szOf36 : szOf Try.prog 36 = 3 := by kernel_rfl
@[simp] theorem arrOf36 : arrOf Try.prog 36 = some (3, 3) := by kernel_rfl
@[simp] theorem zOk85 : zOk Try.prog 85 = true := by kernel_rfl
@[simp] theorem szOf85 : szOf Try.prog 85 = 1 := by kernel_rfl
@[simp] theorem zeroOf85 : zeroOf Try.prog 85 = [.int .i64 0] := by kernel_rfl
@[simp] theorem hint5 : lore.hint 5 = h5 := rfl
@[simp] theorem h5_var : h5.var = [0, 1, 2, 3, 5, 6, 7, 8, 9, 10, 11, 12, 13, 14, 15, 16, 17, 18, 19, 20] := rfl
@[simp] theorem h5_own : h5.own = [6, 10] := rfl
@[simp] theorem h5_keep : h5.keep = [(7, [1, 3, 5, 7, 8])] := rfl
@[simp] theorem h5_out : h5.out = [(7, [1, 3, 5, 6, 7])] := rfl
@[simp] theorem h5_row : h5.row = [(3, [(some (6, (34, false)))]), (9, [(some (1, (3, false)))]), (10, [(some (6, (34, true)))])] := rfl
@[simp] theorem h5_par : h5.par = [[(some (6, (34, false)))]] := rfl
@[simp] theorem h5_res : h5.res = [] := rfl
@[simp] theorem h5_shr : h5.shr = [6] := rfl
@[simp] theorem callOk11 : callOk Try.prog 11 = true := by kernel_rfl
@[simp] theorem hint11 : lore.hint 11 = h11 := rfl
@[simp] theorem h11_var : h11.var = [0, 1, 2, 3, 4, 5, 6, 7, 10, 13, 14, 15, 16, 17, 19] := rfl
@[simp] theorem h11_own : h11.own = [0] := rfl
@[simp] theorem h11_keep : h11.keep = [] := rfl
@[simp] theorem h11_out : h11.out = [] := rfl
@[simp] theorem h11_row : h11.row = [(1, [(some (6, (34, false)))])] := rfl
@[simp] theorem h11_par : h11.par = [] := rfl
@[simp] theorem h11_res : h11.res = [] := rfl
@[simp] theorem h11_shr : h11.shr = [0] := rfl
@[simp] theorem callOk12 : callOk Try.prog 12 = true := by kernel_rfl
@[simp] theorem hint12 : lore.hint 12 = h12 := rfl
@[simp] theorem h12_var : h12.var = [0, 1, 2, 3, 4] := rfl
@[simp] theorem h12_own : h12.own = [2] := rfl
@[simp] theorem h12_keep : h12.keep = [(3, [1, 3, 4])] := rfl
@[simp] theorem h12_out : h12.out = [(3, [1, 3])] := rfl
@[simp] theorem h12_row : h12.row = [(1, [(some (6, (34, false)))])] := rfl
@[simp] theorem h12_par : h12.par = [[(some (6, (34, false)))]] := rfl
@[simp] theorem h12_res : h12.res = [] := rfl
@[simp] theorem h12_shr : h12.shr = [2] := rfl
@[simp] theorem callOk13 : callOk Try.prog 13 = true := by kernel_rfl
@[simp] theorem hint13 : lore.hint 13 = h13 := rfl
@[simp] theorem h13_var : h13.var = [0, 1, 2, 3] := rfl
@[simp] theorem h13_own : h13.own = [2] := rfl
@[simp] theorem h13_keep : h13.keep = [(2, [1, 3])] := rfl
@[simp] theorem h13_out : h13.out = [(2, [1, 2])] := rfl
@[simp] theorem h13_row : h13.row = [(1, [(some (6, (34, false)))])] := rfl
@[simp] theorem h13_par : h13.par = [[(some (6, (34, false)))]] := rfl
@[simp] theorem h13_res : h13.res = [] := rfl
@[simp] theorem h13_shr : h13.shr = [2] := rfl
@[simp] theorem callOk14 : callOk Try.prog 14 = true := by kernel_rfl
@[simp] theorem hint14 : lore.hint 14 = h14 := rfl
@[simp] theorem h14_var : h14.var = [0, 1, 2, 3, 5, 6, 7, 8, 9, 10, 11, 13] := rfl
@[simp] theorem h14_own : h14.own = [6, 7, 8] := rfl
@[simp] theorem h14_keep : h14.keep = [] := rfl
@[simp] theorem h14_out : h14.out = [] := rfl
@[simp] theorem h14_row : h14.row = [(3, [(some (6, (34, false)))]), (11, [(some (1, (3, false)))])] := rfl
@[simp] theorem h14_par : h14.par = [[(some (6, (34, false)))]] := rfl
@[simp] theorem h14_res : h14.res = [] := rfl
@[simp] theorem h14_shr : h14.shr = [6, 7, 8] := rfl
@[simp] theorem hint15 : lore.hint 15 = h15 := rfl
@[simp] theorem h15_var : h15.var = [0, 1, 2, 3, 5, 6, 7, 8] := rfl
@[simp] theorem h15_own : h15.own = [6] := rfl
@[simp] theorem h15_keep : h15.keep = [] := rfl
@[simp] theorem h15_out : h15.out = [] := rfl
@[simp] theorem h15_row : h15.row = [(3, [(some (6, (34, false)))])] := rfl
@[simp] theorem h15_par : h15.par = [[(some (6, (34, false)))]] := rfl
@[simp] theorem h15_res : h15.res = [] := rfl
@[simp] theorem h15_shr : h15.shr = [6] := rfl
@[simp] theorem callOk16 : callOk Try.prog 16 = true := by kernel_rfl
@[simp] theorem hint16 : lore.hint 16 = h16 := rfl
@[simp] theorem h16_var : h16.var = [0, 1, 2, 4, 5, 6, 8, 9, 10] := rfl
@[simp] theorem h16_own : h16.own = [4] := rfl
@[simp] theorem h16_keep : h16.keep = [] := rfl
@[simp] theorem h16_out : h16.out = [] := rfl
@[simp] theorem h16_row : h16.row = [(2, [(some (6, (34, false)))]), (6, [(some (1, (3, false)))])] := rfl
@[simp] theorem h16_par : h16.par = [[(some (6, (34, false)))]] := rfl
@[simp] theorem h16_res : h16.res = [] := rfl
@[simp] theorem h16_shr : h16.shr = [4] := rfl
@[simp] theorem callOk17 : callOk Try.prog 17 = true := by kernel_rfl
@[simp] theorem hint17 : lore.hint 17 = h17 := rfl
@[simp] theorem h17_var : h17.var = [0, 1, 2, 4, 5, 6] := rfl
@[simp] theorem h17_own : h17.own = [4] := rfl
@[simp] theorem h17_keep : h17.keep = [] := rfl
@[simp] theorem h17_out : h17.out = [] := rfl
@[simp] theorem h17_row : h17.row = [(2, [(some (6, (34, false)))])] := rfl
@[simp] theorem h17_par : h17.par = [[(some (6, (34, false)))]] := rfl
@[simp] theorem h17_res : h17.res = [] := rfl
@[simp] theorem h17_shr : h17.shr = [4] := rfl
@[simp] theorem callOk18 : callOk Try.prog 18 = true := by kernel_rfl
@[simp] theorem hint18 : lore.hint 18 = h18 := rfl
@[simp] theorem h18_var : h18.var = [0, 1, 2, 4, 6] := rfl
@[simp] theorem h18_own : h18.own = [4] := rfl
@[simp] theorem h18_keep : h18.keep = [] := rfl
@[simp] theorem h18_out : h18.out = [] := rfl
@[simp] theorem h18_row : h18.row = [(2, [(some (6, (34, false)))])] := rfl
@[simp] theorem h18_par : h18.par = [[(some (6, (34, false)))]] := rfl
@[simp] theorem h18_res : h18.res = [] := rfl
@[simp] theorem h18_shr : h18.shr = [4] := rfl
@[simp] theorem callOk19 : callOk Try.prog 19 = true := by kernel_rfl
@[simp] theorem hint19 : lore.hint 19 = h19 := rfl
@[simp] theorem h19_var : h19.var = [0, 1, 2, 3, 4, 5] := rfl
@[simp] theorem h19_own : h19.own = [2, 3] := rfl
@[simp] theorem h19_keep : h19.keep = [(3, [1, 2, 3, 4])] := rfl
@[simp] theorem h19_out : h19.out = [(3, [2, 3])] := rfl
@[simp] theorem h19_row : h19.row = [(1, [(some (6, (34, false)))]), (2, [(some (6, (34, true)))]), (3, [(some (6, (34, true)))]), (5, [none, none, (some (1, (3, false)))])] := rfl
@[simp] theorem h19_par : h19.par = [[(some (6, (34, false)))]] := rfl
@[simp] theorem h19_res : h19.res = [[(some (6, (34, true)))]] := rfl
@[simp] theorem h19_shr : h19.shr = [2, 4098] := rfl
@[simp] theorem callOk32 : callOk Try.prog 32 = true := by kernel_rfl
@[simp] theorem hint32 : lore.hint 32 = h32 := rfl
@[simp] theorem h32_var : h32.var = [0, 1, 2, 3, 4, 5] := rfl
@[simp] theorem h32_own : h32.own = [4] := rfl
@[simp] theorem h32_keep : h32.keep = [(2, [2, 3, 5])] := rfl
@[simp] theorem h32_out : h32.out = [(2, [2, 3, 4])] := rfl
@[simp] theorem h32_row : h32.row = [(2, [(some (6, (34, false)))]), (3, [none, none, (some (1, (3, false)))])] := rfl
@[simp] theorem h32_par : h32.par = [[(some (6, (34, false)))], [none, none, (some (1, (3, false)))]] := rfl
@[simp] theorem h32_res : h32.res = [] := rfl
@[simp] theorem h32_shr : h32.shr = [4] := rfl
@[simp] theorem callOk33 : callOk Try.prog 33 = true := by kernel_rfl
@[simp] theorem hint33 : lore.hint 33 = h33 := rfl
@[simp] theorem h33_var : h33.var = [0, 2] := rfl
@[simp] theorem h33_own : h33.own = [2] := rfl
@[simp] theorem h33_keep : h33.keep = [] := rfl
@[simp] theorem h33_out : h33.out = [] := rfl
@[simp] theorem h33_row : h33.row = [] := rfl
@[simp] theorem h33_par : h33.par = [] := rfl
@[simp] theorem h33_res : h33.res = [] := rfl
@[simp] theorem h33_shr : h33.shr = [2] := rfl
@[simp] theorem hint34 : lore.hint 34 = h34 := rfl
@[simp] theorem h34_var : h34.var = [0, 1, 2, 3] := rfl
@[simp] theorem h34_own : h34.own = [2, 3] := rfl
@[simp] theorem h34_keep : h34.keep = [] := rfl
@[simp] theorem h34_out : h34.out = [] := rfl
@[simp] theorem h34_row : h34.row = [(1, [(some (6, (34, false)))])] := rfl
@[simp] theorem h34_par : h34.par = [[(some (6, (34, false)))]] := rfl
@[simp] theorem h34_res : h34.res = [] := rfl
@[simp] theorem h34_shr : h34.shr = [2] := rfl
@[simp] theorem hint35 : lore.hint 35 = h35 := rfl
@[simp] theorem h35_var : h35.var = [0, 1, 2, 3, 4] := rfl
@[simp] theorem h35_own : h35.own = [2, 3, 4] := rfl
@[simp] theorem h35_keep : h35.keep = [] := rfl
@[simp] theorem h35_out : h35.out = [] := rfl
@[simp] theorem h35_row : h35.row = [(2, [(some (6, (34, true)))])] := rfl
@[simp] theorem h35_par : h35.par = [[(some (6, (34, false)))]] := rfl
@[simp] theorem h35_res : h35.res = [] := rfl
@[simp] theorem h35_shr : h35.shr = [4] := rfl
@[simp] theorem callOk36 : callOk Try.prog 36 = true := by kernel_rfl
@[simp] theorem hint36 : lore.hint 36 = h36 := rfl
@[simp] theorem h36_var : h36.var = [0, 1, 2, 4, 5, 6, 7] := rfl
@[simp] theorem h36_own : h36.own = [4, 5] := rfl
@[simp] theorem h36_keep : h36.keep = [] := rfl
@[simp] theorem h36_out : h36.out = [] := rfl
@[simp] theorem h36_row : h36.row = [(2, [(some (6, (34, false)))]), (4, [(some (1, (3, false)))])] := rfl
@[simp] theorem h36_par : h36.par = [[(some (6, (34, false)))]] := rfl
@[simp] theorem h36_res : h36.res = [[(some (1, (3, false)))]] := rfl
@[simp] theorem h36_shr : h36.shr = [4, 5] := rfl
@[simp] theorem callOk37 : callOk Try.prog 37 = true := by kernel_rfl
@[simp] theorem hint37 : lore.hint 37 = h37 := rfl
@[simp] theorem h37_var : h37.var = [0, 1, 2, 4, 5, 6] := rfl
@[simp] theorem h37_own : h37.own = [4] := rfl
@[simp] theorem h37_keep : h37.keep = [] := rfl
@[simp] theorem h37_out : h37.out = [] := rfl
@[simp] theorem h37_row : h37.row = [(2, [(some (6, (34, false)))])] := rfl
@[simp] theorem h37_par : h37.par = [[(some (6, (34, false)))]] := rfl
@[simp] theorem h37_res : h37.res = [] := rfl
@[simp] theorem h37_shr : h37.shr = [4] := rfl
@[simp] theorem callOk38 : callOk Try.prog 38 = true := by kernel_rfl
@[simp] theorem hint38 : lore.hint 38 = h38 := rfl
@[simp] theorem h38_var : h38.var = [0, 1, 2, 4, 5, 6] := rfl
@[simp] theorem h38_own : h38.own = [4, 5] := rfl
@[simp] theorem h38_keep : h38.keep = [] := rfl
@[simp] theorem h38_out : h38.out = [] := rfl
@[simp] theorem h38_row : h38.row = [(2, [(some (6, (34, false)))]), (4, [(some (1, (3, false)))])] := rfl
@[simp] theorem h38_par : h38.par = [[(some (6, (34, false)))]] := rfl
@[simp] theorem h38_res : h38.res = [[(some (1, (3, false)))]] := rfl
@[simp] theorem h38_shr : h38.shr = [4, 5] := rfl
@[simp] theorem callOk39 : callOk Try.prog 39 = true := by kernel_rfl
@[simp] theorem hint39 : lore.hint 39 = h39 := rfl
@[simp] theorem h39_var : h39.var = [0, 2, 3] := rfl
@[simp] theorem h39_own : h39.own = [2, 3] := rfl
@[simp] theorem h39_keep : h39.keep = [] := rfl
@[simp] theorem h39_out : h39.out = [] := rfl
@[simp] theorem h39_row : h39.row = [] := rfl
@[simp] theorem h39_par : h39.par = [] := rfl
@[simp] theorem h39_res : h39.res = [] := rfl
@[simp] theorem h39_shr : h39.shr = [2, 3] := rfl
@[simp] theorem callOk40 : callOk Try.prog 40 = true := by kernel_rfl
@[simp] theorem hint40 : lore.hint 40 = h40 := rfl
@[simp] theorem h40_var : h40.var = [0, 2, 3] := rfl
@[simp] theorem h40_own : h40.own = [2, 3] := rfl
@[simp] theorem h40_keep : h40.keep = [] := rfl
@[simp] theorem h40_out : h40.out = [] := rfl
@[simp] theorem h40_row : h40.row = [] := rfl
@[simp] theorem h40_par : h40.par = [] := rfl
@[simp] theorem h40_res : h40.res = [] := rfl
@[simp] theorem h40_shr : h40.shr = [2, 3] := rfl
@[simp] theorem callOk44 : callOk Try.prog 44 = true := by kernel_rfl
@[simp] theorem hint44 : lore.hint 44 = h44 := rfl
@[simp] theorem h44_var : h44.var = [0, 2, 3, 4] := rfl
@[simp] theorem h44_own : h44.own = [2, 3] := rfl
@[simp] theorem h44_keep : h44.keep = [] := rfl
@[simp] theorem h44_out : h44.out = [] := rfl
@[simp] theorem h44_row : h44.row = [] := rfl
@[simp] theorem h44_par : h44.par = [] := rfl
@[simp] theorem h44_res : h44.res = [] := rfl
@[simp] theorem h44_shr : h44.shr = [2, 3] := rfl
@[simp] theorem hint46 : lore.hint 46 = h46 := rfl
@[simp] theorem h46_var : h46.var = [0, 1, 2, 4, 5, 7, 8, 9] := rfl
@[simp] theorem h46_own : h46.own = [4] := rfl
@[simp] theorem h46_keep : h46.keep = [] := rfl
@[simp] theorem h46_out : h46.out = [] := rfl
@[simp] theorem h46_row : h46.row = [(2, [(some (6, (34, false)))])] := rfl
@[simp] theorem h46_par : h46.par = [[(some (6, (34, false)))]] := rfl
@[simp] theorem h46_res : h46.res = [] := rfl
@[simp] theorem h46_shr : h46.shr = [4] := rfl
@[simp] theorem callOk47 : callOk Try.prog 47 = true := by kernel_rfl
@[simp] theorem hint47 : lore.hint 47 = h47 := rfl
@[simp] theorem h47_var : h47.var = [0, 2] := rfl
@[simp] theorem h47_own : h47.own = [2] := rfl
@[simp] theorem h47_keep : h47.keep = [] := rfl
@[simp] theorem h47_out : h47.out = [] := rfl
@[simp] theorem h47_row : h47.row = [] := rfl
@[simp] theorem h47_par : h47.par = [] := rfl
@[simp] theorem h47_res : h47.res = [] := rfl
@[simp] theorem h47_shr : h47.shr = [2] := rfl
@[simp] theorem callOk48 : callOk Try.prog 48 = true := by kernel_rfl
@[simp] theorem hint48 : lore.hint 48 = h48 := rfl
@[simp] theorem h48_var : h48.var = [0, 1, 4] := rfl
@[simp] theorem h48_own : h48.own = [4] := rfl
@[simp] theorem h48_keep : h48.keep = [] := rfl
@[simp] theorem h48_out : h48.out = [] := rfl
@[simp] theorem h48_row : h48.row = [] := rfl
@[simp] theorem h48_par : h48.par = [] := rfl
@[simp] theorem h48_res : h48.res = [] := rfl
@[simp] theorem h48_shr : h48.shr = [4] := rfl
@[simp] theorem callOk49 : callOk Try.prog 49 = true := by kernel_rfl
@[simp] theorem hint49 : lore.hint 49 = h49 := rfl
@[simp] theorem h49_var : h49.var = [0, 1, 4] := rfl
@[simp] theorem h49_own : h49.own = [4] := rfl
@[simp] theorem h49_keep : h49.keep = [] := rfl
@[simp] theorem h49_out : h49.out = [] := rfl
@[simp] theorem h49_row : h49.row = [] := rfl
@[simp] theorem h49_par : h49.par = [] := rfl
@[simp] theorem h49_res : h49.res = [] := rfl
@[simp] theorem h49_shr : h49.shr = [] := rfl
@[simp] theorem callOk50 : callOk Try.prog 50 = true := by kernel_rfl
@[simp] theorem hint50 : lore.hint 50 = h50 := rfl
@[simp] theorem h50_var : h50.var = [0, 1, 2, 3] := rfl
@[simp] theorem h50_own : h50.own = [3] := rfl
@[simp] theorem h50_keep : h50.keep = [] := rfl
@[simp] theorem h50_out : h50.out = [] := rfl
@[simp] theorem h50_row : h50.row = [(2, [none, none, (some (1, (3, false)))])] := rfl
@[simp] theorem h50_par : h50.par = [[none, none, (some (1, (3, false)))]] := rfl
@[simp] theorem h50_res : h50.res = [] := rfl
@[simp] theorem h50_shr : h50.shr = [3] := rfl
@[simp] theorem callOk51 : callOk Try.prog 51 = true := by kernel_rfl
@[simp] theorem hint51 : lore.hint 51 = h51 := rfl
@[simp] theorem h51_var : h51.var = [0, 1, 2, 3, 4] := rfl
@[simp] theorem h51_own : h51.own = [2, 4] := rfl
@[simp] theorem h51_keep : h51.keep = [] := rfl
@[simp] theorem h51_out : h51.out = [] := rfl
@[simp] theorem h51_row : h51.row = [(3, [none, none, (some (1, (3, false)))])] := rfl
@[simp] theorem h51_par : h51.par = [[], [none, none, (some (1, (3, false)))]] := rfl
@[simp] theorem h51_res : h51.res = [] := rfl
@[simp] theorem h51_shr : h51.shr = [4] := rfl
@[simp] theorem hint52 : lore.hint 52 = h52 := rfl
@[simp] theorem h52_var : h52.var = [0, 1, 2, 4, 5] := rfl
@[simp] theorem h52_own : h52.own = [] := rfl
@[simp] theorem h52_keep : h52.keep = [(1, [0, 1, 2, 4])] := rfl
@[simp] theorem h52_out : h52.out = [] := rfl
@[simp] theorem h52_row : h52.row = [] := rfl
@[simp] theorem h52_par : h52.par = [] := rfl
@[simp] theorem h52_res : h52.res = [] := rfl
@[simp] theorem h52_shr : h52.shr = [] := rfl
@[simp] theorem callOk53 : callOk Try.prog 53 = true := by kernel_rfl
@[simp] theorem hint53 : lore.hint 53 = h53 := rfl
@[simp] theorem h53_var : h53.var = [0, 2, 3, 4] := rfl
@[simp] theorem h53_own : h53.own = [2, 3] := rfl
@[simp] theorem h53_keep : h53.keep = [] := rfl
@[simp] theorem h53_out : h53.out = [] := rfl
@[simp] theorem h53_row : h53.row = [] := rfl
@[simp] theorem h53_par : h53.par = [] := rfl
@[simp] theorem h53_res : h53.res = [] := rfl
@[simp] theorem h53_shr : h53.shr = [2, 3] := rfl
@[simp] theorem callOk54 : callOk Try.prog 54 = true := by kernel_rfl
@[simp] theorem hint54 : lore.hint 54 = h54 := rfl
@[simp] theorem h54_var : h54.var = [0, 2] := rfl
@[simp] theorem h54_own : h54.own = [2] := rfl
@[simp] theorem h54_keep : h54.keep = [] := rfl
@[simp] theorem h54_out : h54.out = [] := rfl
@[simp] theorem h54_row : h54.row = [] := rfl
@[simp] theorem h54_par : h54.par = [] := rfl
@[simp] theorem h54_res : h54.res = [] := rfl
@[simp] theorem h54_shr : h54.shr = [2] := rfl
@[simp] theorem callOk55 : callOk Try.prog 55 = true := by kernel_rfl
@[simp] theorem hint55 : lore.hint 55 = h55 := rfl
@[simp] theorem h55_var : h55.var = [0, 2] := rfl
@[simp] theorem h55_own : h55.own = [2] := rfl
@[simp] theorem h55_keep : h55.keep = [] := rfl
@[simp] theorem h55_out : h55.out = [] := rfl
@[simp] theorem h55_row : h55.row = [] := rfl
@[simp] theorem h55_par : h55.par = [] := rfl
@[simp] theorem h55_res : h55.res = [] := rfl
@[simp] theorem h55_shr : h55.shr = [2] := rfl
@[simp] theorem callOk56 : callOk Try.prog 56 = true := by kernel_rfl
@[simp] theorem hint56 : lore.hint 56 = h56 := rfl
@[simp] theorem h56_var : h56.var = [0, 2, 3, 4] := rfl
@[simp] theorem h56_own : h56.own = [2] := rfl
@[simp] theorem h56_keep : h56.keep = [] := rfl
@[simp] theorem h56_out : h56.out = [] := rfl
@[simp] theorem h56_row : h56.row = [] := rfl
@[simp] theorem h56_par : h56.par = [] := rfl
@[simp] theorem h56_res : h56.res = [] := rfl
@[simp] theorem h56_shr : h56.shr = [2] := rfl
@[simp] theorem callOk57 : callOk Try.prog 57 = true := by kernel_rfl
@[simp] theorem hint57 : lore.hint 57 = h57 := rfl
@[simp] theorem h57_var : h57.var = [0] := rfl
@[simp] theorem h57_own : h57.own = [0] := rfl
@[simp] theorem h57_keep : h57.keep = [] := rfl
@[simp] theorem h57_out : h57.out = [] := rfl
@[simp] theorem h57_row : h57.row = [] := rfl
@[simp] theorem h57_par : h57.par = [] := rfl
@[simp] theorem h57_res : h57.res = [] := rfl
@[simp] theorem h57_shr : h57.shr = [0] := rfl
@[simp] theorem callOk58 : callOk Try.prog 58 = true := by kernel_rfl
@[simp] theorem hint58 : lore.hint 58 = h58 := rfl
@[simp] theorem h58_var : h58.var = [0, 1, 4, 5, 7, 8] := rfl
@[simp] theorem h58_own : h58.own = [4] := rfl
@[simp] theorem h58_keep : h58.keep = [(2, [0, 1, 7, 8])] := rfl
@[simp] theorem h58_out : h58.out = [(2, [4])] := rfl
@[simp] theorem h58_row : h58.row = [] := rfl
@[simp] theorem h58_par : h58.par = [] := rfl
@[simp] theorem h58_res : h58.res = [] := rfl
@[simp] theorem h58_shr : h58.shr = [] := rfl
@[simp] theorem callOk59 : callOk Try.prog 59 = true := by kernel_rfl
@[simp] theorem hint59 : lore.hint 59 = h59 := rfl
@[simp] theorem h59_var : h59.var = [0, 1, 4, 5, 6] := rfl
@[simp] theorem h59_own : h59.own = [4] := rfl
@[simp] theorem h59_keep : h59.keep = [] := rfl
@[simp] theorem h59_out : h59.out = [] := rfl
@[simp] theorem h59_row : h59.row = [] := rfl
@[simp] theorem h59_par : h59.par = [] := rfl
@[simp] theorem h59_res : h59.res = [] := rfl
@[simp] theorem h59_shr : h59.shr = [4] := rfl
@[simp] theorem callOk60 : callOk Try.prog 60 = true := by kernel_rfl
@[simp] theorem hint60 : lore.hint 60 = h60 := rfl
@[simp] theorem h60_var : h60.var = [0, 2] := rfl
@[simp] theorem h60_own : h60.own = [2] := rfl
@[simp] theorem h60_keep : h60.keep = [] := rfl
@[simp] theorem h60_out : h60.out = [] := rfl
@[simp] theorem h60_row : h60.row = [] := rfl
@[simp] theorem h60_par : h60.par = [] := rfl
@[simp] theorem h60_res : h60.res = [] := rfl
@[simp] theorem h60_shr : h60.shr = [2] := rfl
@[simp] theorem callOk61 : callOk Try.prog 61 = true := by kernel_rfl
@[simp] theorem hint61 : lore.hint 61 = h61 := rfl
@[simp] theorem h61_var : h61.var = [0, 1, 4] := rfl
@[simp] theorem h61_own : h61.own = [4] := rfl
@[simp] theorem h61_keep : h61.keep = [] := rfl
@[simp] theorem h61_out : h61.out = [] := rfl
@[simp] theorem h61_row : h61.row = [] := rfl
@[simp] theorem h61_par : h61.par = [] := rfl
@[simp] theorem h61_res : h61.res = [] := rfl
@[simp] theorem h61_shr : h61.shr = [] := rfl
@[simp] theorem callOk62 : callOk Try.prog 62 = true := by kernel_rfl
@[simp] theorem hint62 : lore.hint 62 = h62 := rfl
@[simp] theorem h62_var : h62.var = [0, 1, 3] := rfl
@[simp] theorem h62_own : h62.own = [3] := rfl
@[simp] theorem h62_keep : h62.keep = [] := rfl
@[simp] theorem h62_out : h62.out = [] := rfl
@[simp] theorem h62_row : h62.row = [] := rfl
@[simp] theorem h62_par : h62.par = [] := rfl
@[simp] theorem h62_res : h62.res = [] := rfl
@[simp] theorem h62_shr : h62.shr = [3] := rfl
@[simp] theorem callOk63 : callOk Try.prog 63 = true := by kernel_rfl
@[simp] theorem hint63 : lore.hint 63 = h63 := rfl
@[simp] theorem h63_var : h63.var = [0, 1, 4, 6] := rfl
@[simp] theorem h63_own : h63.own = [4] := rfl
@[simp] theorem h63_keep : h63.keep = [] := rfl
@[simp] theorem h63_out : h63.out = [] := rfl
@[simp] theorem h63_row : h63.row = [] := rfl
@[simp] theorem h63_par : h63.par = [] := rfl
@[simp] theorem h63_res : h63.res = [] := rfl
@[simp] theorem h63_shr : h63.shr = [4] := rfl
@[simp] theorem callOk64 : callOk Try.prog 64 = true := by kernel_rfl
@[simp] theorem hint64 : lore.hint 64 = h64 := rfl
@[simp] theorem h64_var : h64.var = [0, 2] := rfl
@[simp] theorem h64_own : h64.own = [2] := rfl
@[simp] theorem h64_keep : h64.keep = [] := rfl
@[simp] theorem h64_out : h64.out = [] := rfl
@[simp] theorem h64_row : h64.row = [] := rfl
@[simp] theorem h64_par : h64.par = [] := rfl
@[simp] theorem h64_res : h64.res = [] := rfl
@[simp] theorem h64_shr : h64.shr = [2] := rfl
@[simp] theorem callOk67 : callOk Try.prog 67 = true := by kernel_rfl
@[simp] theorem hint67 : lore.hint 67 = h67 := rfl
@[simp] theorem h67_var : h67.var = [0, 1, 4, 5, 7, 8] := rfl
@[simp] theorem h67_own : h67.own = [4] := rfl
@[simp] theorem h67_keep : h67.keep = [(2, [0, 1, 7, 8])] := rfl
@[simp] theorem h67_out : h67.out = [(2, [4])] := rfl
@[simp] theorem h67_row : h67.row = [] := rfl
@[simp] theorem h67_par : h67.par = [] := rfl
@[simp] theorem h67_res : h67.res = [] := rfl
@[simp] theorem h67_shr : h67.shr = [] := rfl
@[simp] theorem callOk68 : callOk Try.prog 68 = true := by kernel_rfl
@[simp] theorem hint68 : lore.hint 68 = h68 := rfl
@[simp] theorem h68_var : h68.var = [0] := rfl
@[simp] theorem h68_own : h68.own = [0] := rfl
@[simp] theorem h68_keep : h68.keep = [] := rfl
@[simp] theorem h68_out : h68.out = [] := rfl
@[simp] theorem h68_row : h68.row = [] := rfl
@[simp] theorem h68_par : h68.par = [] := rfl
@[simp] theorem h68_res : h68.res = [] := rfl
@[simp] theorem h68_shr : h68.shr = [0] := rfl
end Go.Pv

namespace Go.Pv
open Go Go.Proofs
attribute [simp] fr_GObj
theorem clone_ev {e sz by_ : Nat} {f : FuncId} (ht : lore.told f = some (cloneS e sz by_)) (hp : (lore.hint f).par = []) (hr : (lore.hint f).res = [[some (sz, e, true)]]) {α : Type} [Enc α] (hn : Enc.n α = sz) (l : List α) (fr : Frames) :
    cO Try.prog lore f [.t (.sl sz (els l))] fr = if l.length * by_ ≤ most then some (.val (.own e sz (els l)), fr) else none := by
  rw [cO_told ht, hp, hr]
  have h1 := els_all l sz hn
  by_cases h : l.length * by_ ≤ most
  · simp only [noOwn, List.map_nil, seamVs, cloneS, els_len, h, h1, and_self, if_true, Option.map_some, wrapThen, Res.seam, seamR, List.headD, seamV, seam1, D.seam]
  · simp only [noOwn, List.map_nil, seamVs, cloneS, els_len, h, false_and, and_false, if_false, Option.map_none, wrapThen]
theorem clone_nil {e sz by_ : Nat} {f : FuncId} (ht : lore.told f = some (cloneS e sz by_)) (hp : (lore.hint f).par = []) (hr : (lore.hint f).res = [[some (sz, e, true)]]) (fr : Frames) :
    cO Try.prog lore f [.t (.sc (.slice none 0 0))] fr = some (.val (.own e sz []), fr) := by
  rw [cO_told ht, hp, hr]
  rfl
@[simp ↓] theorem f_flt_Canon (b : Int) (fr : Frames) : cO Try.prog lore 60 [.t (.sc (.int .i64 b))] fr = some (.val (I (canonF b)), fr) := by
  rw [cO_told (s := canonS) rfl]
  rfl
open Classical in
noncomputable def F_look_Find (h : GHeap) (c s : Int) : Option (Int × Int × Int) := if Slim h then some (findP h c s) else none
open Classical in
noncomputable def F_look_Under (h : GHeap) (c d : Int) : Option Bool := if Slim h then some (underP h c d) else none
@[simp ↓] theorem f_look_Find (x_0 : List GObj) (x_1 x_2 c s : Int) (fr : Frames) : cO Try.prog lore 14 [D.agg [D.t (T.sl 6 (els x_0)), D.t (T.sc (Value.int IntKind.i64 x_1)), D.t (T.sc (Value.int IntKind.i64 x_2))], D.t (T.sc (Value.int IntKind.i64 c)), D.t (T.sc (Value.int IntKind.i64 s))] fr =
    ob (F_look_Find ⟨x_0, x_1, x_2⟩ c s) fun r => some (Res.val (D.tup [D.t (T.sc (Value.int IntKind.i64 r.1)), D.t (T.sc (Value.int IntKind.i64 r.2.1)), D.t (T.sc (Value.int IntKind.i64 r.2.2))]), fr) := by
  rw [cO_told (s := findS) rfl]
  unfold F_look_Find
  by_cases h : Slim ⟨x_0, x_1, x_2⟩
  · rw [if_pos h]
    simp [h14, findS, decH_els ⟨x_0, x_1, x_2⟩ h, ob_some]
  · rw [if_neg h]
    simp [h14, findS, decH_fat ⟨x_0, x_1, x_2⟩ h]
@[simp ↓] theorem f_look_Under (x_0 : List GObj) (x_1 x_2 c s : Int) (fr : Frames) : cO Try.prog lore 15 [D.agg [D.t (T.sl 6 (els x_0)), D.t (T.sc (Value.int IntKind.i64 x_1)), D.t (T.sc (Value.int IntKind.i64 x_2))], D.t (T.sc (Value.int IntKind.i64 c)), D.t (T.sc (Value.int IntKind.i64 s))] fr =
    ob (F_look_Under ⟨x_0, x_1, x_2⟩ c s) fun r => some (Res.val (D.t (T.sc (Value.bool r))), fr) := by
  rw [cO_told (s := underS) rfl]
  unfold F_look_Under
  by_cases h : Slim ⟨x_0, x_1, x_2⟩
  · rw [if_pos h]
    simp [h15, underS, decH_els ⟨x_0, x_1, x_2⟩ h, ob_some]
  · rw [if_neg h]
    simp [h15, underS, decH_fat ⟨x_0, x_1, x_2⟩ h]
theorem run_at {f : FuncId} {args : List D} {r : Res × Frames} (k : Nat) (h : call Try.prog lore k f args [] = some r) : cO Try.prog lore f args [] = some r := cO_iff.2 ⟨k, h⟩
end Go.Pv

namespace Go.Pv.Bs
open Go Go.Proofs
@[simp] theorem hint5 : loreB.hint 5 = h5 := rfl
@[simp] theorem hint11 : loreB.hint 11 = h11 := rfl
@[simp] theorem hint12 : loreB.hint 12 = h12 := rfl
@[simp] theorem hint13 : loreB.hint 13 = h13 := rfl
@[simp] theorem hint14 : loreB.hint 14 = h14 := rfl
@[simp] theorem hint15 : loreB.hint 15 = h15 := rfl
@[simp] theorem hint16 : loreB.hint 16 = h16 := rfl
@[simp] theorem hint17 : loreB.hint 17 = h17 := rfl
@[simp] theorem hint18 : loreB.hint 18 = h18 := rfl
@[simp] theorem hint19 : loreB.hint 19 = h19 := rfl
@[simp] theorem hint32 : loreB.hint 32 = h32 := rfl
@[simp] theorem hint33 : loreB.hint 33 = h33 := rfl
@[simp] theorem hint34 : loreB.hint 34 = h34 := rfl
@[simp] theorem hint35 : loreB.hint 35 = h35 := rfl
@[simp] theorem hint36 : loreB.hint 36 = h36 := rfl
@[simp] theorem hint37 : loreB.hint 37 = h37 := rfl
@[simp] theorem hint38 : loreB.hint 38 = h38 := rfl
@[simp] theorem hint39 : loreB.hint 39 = h39 := rfl
@[simp] theorem hint40 : loreB.hint 40 = h40 := rfl
@[simp] theorem hint44 : loreB.hint 44 = h44 := rfl
@[simp] theorem hint46 : loreB.hint 46 = h46 := rfl
@[simp] theorem hint47 : loreB.hint 47 = h47 := rfl
@[simp] theorem hint48 : loreB.hint 48 = h48 := rfl
@[simp] theorem hint49 : loreB.hint 49 = h49 := rfl
@[simp] theorem hint50 : loreB.hint 50 = h50 := rfl
@[simp] theorem hint51 : loreB.hint 51 = h51 := rfl
@[simp] theorem hint52 : loreB.hint 52 = h52 := rfl
@[simp] theorem hint53 : loreB.hint 53 = h53 := rfl
@[simp] theorem hint54 : loreB.hint 54 = h54 := rfl
@[simp] theorem hint55 : loreB.hint 55 = h55 := rfl
@[simp] theorem hint56 : loreB.hint 56 = h56 := rfl
@[simp] theorem hint57 : loreB.hint 57 = h57 := rfl
@[simp] theorem hint58 : loreB.hint 58 = h58 := rfl
@[simp] theorem hint59 : loreB.hint 59 = h59 := rfl
@[simp] theorem hint60 : loreB.hint 60 = h60 := rfl
@[simp] theorem hint61 : loreB.hint 61 = h61 := rfl
@[simp] theorem hint62 : loreB.hint 62 = h62 := rfl
@[simp] theorem hint63 : loreB.hint 63 = h63 := rfl
@[simp] theorem hint64 : loreB.hint 64 = h64 := rfl
@[simp] theorem hint67 : loreB.hint 67 = h67 := rfl
@[simp] theorem hint68 : loreB.hint 68 = h68 := rfl
attribute [simp] fr_GObj
theorem clone_ev {e sz by_ : Nat} {f : FuncId} (ht : loreB.told f = some (cloneS e sz by_)) (hp : (loreB.hint f).par = []) (hr : (loreB.hint f).res = [[some (sz, e, true)]]) {α : Type} [Enc α] (hn : Enc.n α = sz) (l : List α) (fr : Frames) :
    cO Try.prog loreB f [.t (.sl sz (els l))] fr = if l.length * by_ ≤ most then some (.val (.own e sz (els l)), fr) else none := by
  rw [cO_told ht, hp, hr]
  have h1 := els_all l sz hn
  by_cases h : l.length * by_ ≤ most
  · simp only [noOwn, List.map_nil, seamVs, cloneS, els_len, h, h1, and_self, if_true, Option.map_some, wrapThen, Res.seam, seamR, List.headD, seamV, seam1, D.seam]
  · simp only [noOwn, List.map_nil, seamVs, cloneS, els_len, h, false_and, and_false, if_false, Option.map_none, wrapThen]
theorem clone_nil {e sz by_ : Nat} {f : FuncId} (ht : loreB.told f = some (cloneS e sz by_)) (hp : (loreB.hint f).par = []) (hr : (loreB.hint f).res = [[some (sz, e, true)]]) (fr : Frames) :
    cO Try.prog loreB f [.t (.sc (.slice none 0 0))] fr = some (.val (.own e sz []), fr) := by
  rw [cO_told ht, hp, hr]
  rfl
@[simp ↓] theorem f_flt_Canon (b : Int) (fr : Frames) : cO Try.prog loreB 60 [.t (.sc (.int .i64 b))] fr = some (.val (I (canonF b)), fr) := by
  rw [cO_told (s := canonS) rfl]
  rfl
theorem run_at {f : FuncId} {args : List D} {r : Res × Frames} (k : Nat) (h : call Try.prog loreB k f args [] = some r) : cO Try.prog loreB f args [] = some r := cO_iff.2 ⟨k, h⟩
end Go.Pv.Bs
