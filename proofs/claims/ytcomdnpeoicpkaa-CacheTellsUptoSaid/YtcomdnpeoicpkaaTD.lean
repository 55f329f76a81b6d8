/- A part of the road: the interpreter of plain data and the proof that it is right. -/
import Derived.Test.YtcomdnpeoicpkaaProg
import Derived.Test.YtcomdnpeoicpkaaD
import Derived.Test.YtcomdnpeoicpkaaHC
import Derived.Test.YtcomdnpeoicpkaaND
import Derived.KernelRfl
set_option linter.unusedVariables false
set_option linter.unusedSimpArgs false
namespace Go.Pv
open Go Go.Proofs
def h12 : Hint := { var := [0, 1, 2, 3, 4], own := [2], keep := [(3, [1, 3, 4])], out := [(3, [1, 3])], row := [(1, [(some (6, (34, false)))])], par := [[(some (6, (34, false)))]], res := [], shr := [2], far := [] }
def h13 : Hint := { var := [0, 1, 2, 3], own := [2], keep := [(2, [1, 3])], out := [(2, [1, 2])], row := [(1, [(some (6, (34, false)))])], par := [[(some (6, (34, false)))]], res := [], shr := [2], far := [] }
def h14 : Hint := { var := [0, 1, 2, 3, 5, 6, 7, 8, 9, 10, 11, 13], own := [6, 7, 8], keep := [], out := [], row := [(3, [(some (6, (34, false)))]), (11, [(some (1, (3, false)))])], par := [[(some (6, (34, false)))]], res := [], shr := [6, 7, 8], far := [] }
def h15 : Hint := { var := [0, 1, 2, 3, 5, 6, 7, 8], own := [6], keep := [], out := [], row := [(3, [(some (6, (34, false)))])], par := [[(some (6, (34, false)))]], res := [], shr := [6], far := [] }
def h16 : Hint := { var := [0, 1, 2, 4, 5, 6, 8, 9, 10], own := [4], keep := [], out := [], row := [(2, [(some (6, (34, false)))]), (6, [(some (1, (3, false)))])], par := [[(some (6, (34, false)))]], res := [], shr := [4], far := [] }
def h17 : Hint := { var := [0, 1, 2, 4, 5, 6], own := [4], keep := [], out := [], row := [(2, [(some (6, (34, false)))])], par := [[(some (6, (34, false)))]], res := [], shr := [4], far := [] }
def h18 : Hint := { var := [0, 1, 2, 4, 6], own := [4], keep := [], out := [], row := [(2, [(some (6, (34, false)))])], par := [[(some (6, (34, false)))]], res := [], shr := [4], far := [] }
def h20 : Hint := { var := [0, 1, 2, 3, 4, 5, 7, 8, 9, 12, 13, 14, 15, 16, 18], own := [0, 1, 15], keep := [], out := [], row := [], par := [], res := [], shr := [0], far := [21] }
def h21 : Hint := { var := [0, 2], own := [2, 12], keep := [], out := [], row := [(12, [(some (5, (81, true)))])], par := [], res := [], shr := [2], far := [] }
def h22 : Hint := { var := [0, 2], own := [2, 6], keep := [], out := [], row := [(6, [(some (5, (75, true)))])], par := [], res := [], shr := [2], far := [] }
def h23 : Hint := { var := [0], own := [0], keep := [], out := [], row := [], par := [], res := [], shr := [], far := [] }
def h25 : Hint := { var := [0, 1, 2, 3, 5, 8, 9, 10, 11, 12, 13, 14, 15], own := [0, 8, 9, 10], keep := [], out := [], row := [(5, [(some (6, (34, false)))])], par := [[], [(some (6, (34, false)))]], res := [], shr := [8, 9, 10], far := [] }
def h27 : Hint := { var := [0, 2, 3], own := [2, 3], keep := [], out := [], row := [], par := [], res := [], shr := [2, 3], far := [] }
def h28 : Hint := { var := [0, 1, 2, 3, 6, 7, 8], own := [6, 7, 8], keep := [], out := [], row := [(3, [(some (6, (34, false)))])], par := [[(some (6, (34, false)))]], res := [], shr := [6, 7, 8], far := [] }
def h32 : Hint := { var := [0, 1, 2, 3, 4, 5], own := [4], keep := [(2, [2, 3, 5])], out := [(2, [2, 3, 4])], row := [(2, [(some (6, (34, false)))]), (3, [none, none, (some (1, (3, false)))])], par := [[(some (6, (34, false)))], [none, none, (some (1, (3, false)))]], res := [], shr := [4], far := [] }
def h33 : Hint := { var := [0, 2], own := [2], keep := [], out := [], row := [], par := [], res := [], shr := [2], far := [] }
def h34 : Hint := { var := [0, 1, 2, 3], own := [2, 3], keep := [], out := [], row := [(1, [(some (6, (34, false)))])], par := [[(some (6, (34, false)))]], res := [], shr := [2], far := [] }
def h35 : Hint := { var := [0, 1, 2, 3, 4], own := [2, 3, 4], keep := [], out := [], row := [(2, [(some (6, (34, true)))])], par := [[(some (6, (34, false)))]], res := [], shr := [4], far := [] }
def h36 : Hint := { var := [0, 1, 2, 4, 5, 6, 7], own := [4, 5], keep := [], out := [], row := [(2, [(some (6, (34, false)))]), (4, [(some (1, (3, false)))])], par := [[(some (6, (34, false)))]], res := [[(some (1, (3, false)))]], shr := [4, 5], far := [] }
def h37 : Hint := { var := [0, 1, 2, 4, 5, 6], own := [4], keep := [], out := [], row := [(2, [(some (6, (34, false)))])], par := [[(some (6, (34, false)))]], res := [], shr := [4], far := [] }
def h38 : Hint := { var := [0, 1, 2, 4, 5, 6], own := [4, 5], keep := [], out := [], row := [(2, [(some (6, (34, false)))]), (4, [(some (1, (3, false)))])], par := [[(some (6, (34, false)))]], res := [[(some (1, (3, false)))]], shr := [4, 5], far := [] }
def h39 : Hint := { var := [0, 2, 3], own := [2, 3], keep := [], out := [], row := [], par := [], res := [], shr := [2, 3], far := [] }
def h40 : Hint := { var := [0, 2, 3], own := [2, 3], keep := [], out := [], row := [], par := [], res := [], shr := [2, 3], far := [] }
def h42 : Hint := { var := [0, 1, 3, 4, 5, 6], own := [4], keep := [], out := [], row := [], par := [], res := [], shr := [4], far := [] }
def h43 : Hint := { var := [0, 1, 2, 3, 4, 8, 9, 10, 11, 12, 14], own := [8, 9, 10], keep := [(6, [1, 2, 3, 4, 11, 12, 14])], out := [(6, [2, 3, 4, 8, 9, 10, 11])], row := [(4, [(some (6, (34, false)))]), (11, [none, none, (some (1, (3, false)))]), (12, [(some (1, (3, false)))])], par := [[(some (6, (34, false)))]], res := [], shr := [8, 9, 10], far := [] }
def h44 : Hint := { var := [0, 2, 3, 4], own := [2, 3], keep := [], out := [], row := [], par := [], res := [], shr := [2, 3], far := [] }
def h46 : Hint := { var := [0, 1, 2, 4, 5, 7, 8, 9], own := [4], keep := [], out := [], row := [(2, [(some (6, (34, false)))])], par := [[(some (6, (34, false)))]], res := [], shr := [4], far := [] }
def h47 : Hint := { var := [0, 2], own := [2], keep := [], out := [], row := [], par := [], res := [], shr := [2], far := [] }
def h48 : Hint := { var := [0, 1, 4], own := [4], keep := [], out := [], row := [], par := [], res := [], shr := [4], far := [] }
def h49 : Hint := { var := [0, 1, 4], own := [4], keep := [], out := [], row := [], par := [], res := [], shr := [], far := [] }
def h50 : Hint := { var := [0, 1, 2, 3], own := [3], keep := [], out := [], row := [(2, [none, none, (some (1, (3, false)))])], par := [[none, none, (some (1, (3, false)))]], res := [], shr := [3], far := [] }
def h51 : Hint := { var := [0, 1, 2, 3, 4], own := [2, 4], keep := [], out := [], row := [(3, [none, none, (some (1, (3, false)))])], par := [[], [none, none, (some (1, (3, false)))]], res := [], shr := [4], far := [] }
def h52 : Hint := { var := [0, 1, 2, 4, 5], own := [], keep := [(1, [0, 1, 2, 4])], out := [], row := [], par := [], res := [], shr := [], far := [] }
def h53 : Hint := { var := [0, 2, 3, 4], own := [2, 3], keep := [], out := [], row := [], par := [], res := [], shr := [2, 3], far := [] }
def h54 : Hint := { var := [0, 2], own := [2], keep := [], out := [], row := [], par := [], res := [], shr := [2], far := [] }
def h55 : Hint := { var := [0, 2], own := [2], keep := [], out := [], row := [], par := [], res := [], shr := [2], far := [] }
def h56 : Hint := { var := [0, 2, 3, 4], own := [2], keep := [], out := [], row := [], par := [], res := [], shr := [2], far := [] }
def h57 : Hint := { var := [0], own := [0], keep := [], out := [], row := [], par := [], res := [], shr := [0], far := [] }
def h58 : Hint := { var := [0, 1, 4, 5, 7, 8], own := [4], keep := [(2, [0, 1, 7, 8])], out := [(2, [4])], row := [], par := [], res := [], shr := [], far := [] }
def h59 : Hint := { var := [0, 1, 4, 5, 6], own := [4], keep := [], out := [], row := [], par := [], res := [], shr := [4], far := [] }
def h60 : Hint := { var := [0, 2], own := [2], keep := [], out := [], row := [], par := [], res := [], shr := [2], far := [] }
def h61 : Hint := { var := [0, 1, 4], own := [4], keep := [], out := [], row := [], par := [], res := [], shr := [], far := [] }
def h62 : Hint := { var := [0, 1, 3], own := [3], keep := [], out := [], row := [], par := [], res := [], shr := [3], far := [] }
def h63 : Hint := { var := [0, 1, 4, 6], own := [4], keep := [], out := [], row := [], par := [], res := [], shr := [4], far := [] }
def h64 : Hint := { var := [0, 2], own := [2], keep := [], out := [], row := [], par := [], res := [], shr := [2], far := [] }
def h67 : Hint := { var := [0, 1, 4, 5, 7, 8], own := [4], keep := [(2, [0, 1, 7, 8])], out := [(2, [4])], row := [], par := [], res := [], shr := [], far := [] }
def h68 : Hint := { var := [0], own := [0], keep := [], out := [], row := [], par := [], res := [], shr := [0], far := [] }
def hints : FuncId → Hint
  | 12 => h12
  | 13 => h13
  | 14 => h14
  | 15 => h15
  | 16 => h16
  | 17 => h17
  | 18 => h18
  | 20 => h20
  | 21 => h21
  | 22 => h22
  | 23 => h23
  | 25 => h25
  | 27 => h27
  | 28 => h28
  | 32 => h32
  | 33 => h33
  | 34 => h34
  | 35 => h35
  | 36 => h36
  | 37 => h37
  | 38 => h38
  | 39 => h39
  | 40 => h40
  | 42 => h42
  | 43 => h43
  | 44 => h44
  | 46 => h46
  | 47 => h47
  | 48 => h48
  | 49 => h49
  | 50 => h50
  | 51 => h51
  | 52 => h52
  | 53 => h53
  | 54 => h54
  | 55 => h55
  | 56 => h56
  | 57 => h57
  | 58 => h58
  | 59 => h59
  | 60 => h60
  | 61 => h61
  | 62 => h62
  | 63 => h63
  | 64 => h64
  | 67 => h67
  | 68 => h68
  | _ => {}
def lore : Lore := ⟨hints, fun
  | 60 => some (plainT canonS)
  | 14 => some (plainT findS)
  | 15 => some (plainT underS)
  | 21 => some cNewS
  | 22 => some rNewS
  | 23 => some cFlushS
  | 25 => some cFindS
  | 27 => some cHitsS
  | 28 => some (plainT r9S)
  | _ => none⟩
def loreB : Lore := ⟨hints, fun
  | 60 => some (plainT canonS)
  | _ => none⟩
noncomputable abbrev c0 : Callee := cO Try.prog lore
end Go.Pv

namespace Go.Pv
open Go Go.Proofs
@[simp] theorem zOk3 : zOk Try.prog 3 = true := by kernel_rfl
@[simp] theorem szOf3 : szOf Try.prog 3 = 1 := by kernel_rfl
@[simp] theorem zOk9 : zOk Try.prog 9 = true := by kernel_rfl
@[simp] theorem szOf9 : szOf Try.prog 9 = 1 := by kernel_rfl
@[simp] theorem isStr9 : isStr Try.prog 9 = true := by kernel_rfl
@[simp] theorem zOk22 : zOk Try.prog 22 = true := by kernel_rfl
@[simp] theorem szOf22 : szOf Try.prog 22 = 1 := by kernel_rfl
@[simp] theorem elOf22 : elOf Try.prog 22 = some 34 := by kernel_rfl
@[simp] theorem arrOf22 : arrOf Try.prog 22 = none := by kernel_rfl
@[simp] theorem isSliceT22 : isSliceT Try.prog 22 = true := by kernel_rfl
@[simp] theorem zOk24 : zOk Try.prog 24 = true := by kernel_rfl
@[simp] theorem szOf24 : szOf Try.prog 24 = 3 := by kernel_rfl
@[simp] theorem offOf24_0 : offOf Try.prog 24 0 = some 0 := by kernel_rfl
@[simp] theorem fszOf24_0 : fszOf Try.prog 24 0 = some (1, false) := by kernel_rfl
@[simp] theorem offOf24_1 : offOf Try.prog 24 1 = some 1 := by kernel_rfl
@[simp] theorem fszOf24_1 : fszOf Try.prog 24 1 = some (1, false) := by kernel_rfl
@[simp] theorem offOf24_2 : offOf Try.prog 24 2 = some 2 := by kernel_rfl
@[simp] theorem fszOf24_2 : fszOf Try.prog 24 2 = some (1, false) := by kernel_rfl
@[simp] theorem zOk32 : zOk Try.prog 32 = true := by kernel_rfl
@[simp] theorem szOf32 : szOf Try.prog 32 = 1 := by kernel_rfl
@[simp] theorem elOf32 : elOf Try.prog 32 = some 3 := by kernel_rfl
@[simp] theorem arrOf32 : arrOf Try.prog 32 = none := by kernel_rfl
@[simp] theorem isSliceT32 : isSliceT Try.prog 32 = true := by kernel_rfl
@[simp] theorem zOk34 : zOk Try.prog 34 = true := by kernel_rfl
@[simp] theorem szOf34 : szOf Try.prog 34 = 6 := by kernel_rfl
@[simp] theorem zeroOf34 : zeroOf Try.prog 34 = [.int .i64 0, .int .i64 0, .slice none 0 0, .string ⟨#[]⟩, .int .i64 0, .int .i64 0] := by kernel_rfl
@[simp] theorem offOf34_0 : offOf Try.prog 34 0 = some 0 := by kernel_rfl
@[simp] theorem fszOf34_0 : fszOf Try.prog 34 0 = some (1, false) := by kernel_rfl
@[simp] theorem offOf34_1 : offOf Try.prog 34 1 = some 1 := by kernel_rfl
@[simp] theorem fszOf34_1 : fszOf Try.prog 34 1 = some (1, false) := by kernel_rfl
@[simp] theorem offOf34_2 : offOf Try.prog 34 2 = some 2 := by kernel_rfl
@[simp] theorem fszOf34_2 : fszOf Try.prog 34 2 = some (1, false) := by kernel_rfl
@[simp] theorem offOf34_3 : offOf Try.prog 34 3 = some 3 := by kernel_rfl
@[simp] theorem fszOf34_3 : fszOf Try.prog 34 3 = some (1, false) := by kernel_rfl
@[simp] theorem offOf34_4 : offOf Try.prog 34 4 = some 4 := by kernel_rfl
@[simp] theorem fszOf34_4 : fszOf Try.prog 34 4 = some (1, false) := by kernel_rfl
@[simp] theorem offOf34_5 : offOf Try.prog 34 5 = some 5 := by kernel_rfl
@[simp] theorem fszOf34_5 : fszOf Try.prog 34 5 = some (1, false) := by kernel_rfl
@[simp] theorem zOk85 : zOk Try.prog 85 = true := by kernel_rfl
@[simp] theorem szOf85 : szOf Try.prog 85 = 1 := by kernel_rfl
@[simp] theorem zeroOf85 : zeroOf Try.prog 85 = [.int .i64 0] := by kernel_rfl
@[simp] theorem hint12 : lore.hint 12 = h12 := rfl
@[simp] theorem h12_var : h12.var = [0, 1, 2, 3, 4] := rfl
@[simp] theorem h12_own : h12.own = [2] := rfl
@[simp] theorem h12_keep : h12.keep = [(3, [1, 3, 4])] := rfl
@[simp] theorem h12_out : h12.out = [(3, [1, 3])] := rfl
@[simp] theorem h12_row : h12.row = [(1, [(some (6, (34, false)))])] := rfl
@[simp] theorem h12_par : h12.par = [[(some (6, (34, false)))]] := rfl
@[simp] theorem h12_res : h12.res = [] := rfl
@[simp] theorem h12_shr : h12.shr = [2] := rfl
@[simp] theorem h12_far : h12.far = [] := rfl
@[simp] theorem callOk13 : callOk Try.prog 13 = true := by kernel_rfl
@[simp] theorem hint13 : lore.hint 13 = h13 := rfl
@[simp] theorem h13_var : h13.var = [0, 1, 2, 3] := rfl
@[simp] theorem h13_own : h13.own = [2] := rfl
@[simp] theorem h13_keep : h13.keep = [(2, [1, 3])] := rfl
@[simp] theorem h13_out : h13.out = [(2, [1, 2])] := rfl
@[simp] theorem h13_row : h13.row = [(1, [(some (6, (34, false)))])] := rfl
@[simp] theorem h13_par : h13.par = [[(some (6, (34, false)))]] := rfl
@[simp] theorem h13_res : h13.res = [] := rfl
@[simp] theorem h13_shr : h13.shr = [2] := rfl
@[simp] theorem h13_far : h13.far = [] := rfl
@[simp] theorem hint14 : lore.hint 14 = h14 := rfl
@[simp] theorem h14_var : h14.var = [0, 1, 2, 3, 5, 6, 7, 8, 9, 10, 11, 13] := rfl
@[simp] theorem h14_own : h14.own = [6, 7, 8] := rfl
@[simp] theorem h14_keep : h14.keep = [] := rfl
@[simp] theorem h14_out : h14.out = [] := rfl
@[simp] theorem h14_row : h14.row = [(3, [(some (6, (34, false)))]), (11, [(some (1, (3, false)))])] := rfl
@[simp] theorem h14_par : h14.par = [[(some (6, (34, false)))]] := rfl
@[simp] theorem h14_res : h14.res = [] := rfl
@[simp] theorem h14_shr : h14.shr = [6, 7, 8] := rfl
@[simp] theorem h14_far : h14.far = [] := rfl
@[simp] theorem hint15 : lore.hint 15 = h15 := rfl
@[simp] theorem h15_var : h15.var = [0, 1, 2, 3, 5, 6, 7, 8] := rfl
@[simp] theorem h15_own : h15.own = [6] := rfl
@[simp] theorem h15_keep : h15.keep = [] := rfl
@[simp] theorem h15_out : h15.out = [] := rfl
@[simp] theorem h15_row : h15.row = [(3, [(some (6, (34, false)))])] := rfl
@[simp] theorem h15_par : h15.par = [[(some (6, (34, false)))]] := rfl
@[simp] theorem h15_res : h15.res = [] := rfl
@[simp] theorem h15_shr : h15.shr = [6] := rfl
@[simp] theorem h15_far : h15.far = [] := rfl
@[simp] theorem callOk16 : callOk Try.prog 16 = true := by kernel_rfl
@[simp] theorem hint16 : lore.hint 16 = h16 := rfl
@[simp] theorem h16_var : h16.var = [0, 1, 2, 4, 5, 6, 8, 9, 10] := rfl
@[simp] theorem h16_own : h16.own = [4] := rfl
@[simp] theorem h16_keep : h16.keep = [] := rfl
@[simp] theorem h16_out : h16.out = [] := rfl
@[simp] theorem h16_row : h16.row = [(2, [(some (6, (34, false)))]), (6, [(some (1, (3, false)))])] := rfl
@[simp] theorem h16_par : h16.par = [[(some (6, (34, false)))]] := rfl
@[simp] theorem h16_res : h16.res = [] := rfl
@[simp] theorem h16_shr : h16.shr = [4] := rfl
@[simp] theorem h16_far : h16.far = [] := rfl
@[simp] theorem callOk17 : callOk Try.prog 17 = true := by kernel_rfl
@[simp] theorem hint17 : lore.hint 17 = h17 := rfl
@[simp] theorem h17_var : h17.var = [0, 1, 2, 4, 5, 6] := rfl
@[simp] theorem h17_own : h17.own = [4] := rfl
@[simp] theorem h17_keep : h17.keep = [] := rfl
@[simp] theorem h17_out : h17.out = [] := rfl
@[simp] theorem h17_row : h17.row = [(2, [(some (6, (34, false)))])] := rfl
@[simp] theorem h17_par : h17.par = [[(some (6, (34, false)))]] := rfl
@[simp] theorem h17_res : h17.res = [] := rfl
@[simp] theorem h17_shr : h17.shr = [4] := rfl
@[simp] theorem h17_far : h17.far = [] := rfl
@[simp] theorem callOk18 : callOk Try.prog 18 = true := by kernel_rfl
@[simp] theorem hint18 : lore.hint 18 = h18 := rfl
@[simp] theorem h18_var : h18.var = [0, 1, 2, 4, 6] := rfl
@[simp] theorem h18_own : h18.own = [4] := rfl
@[simp] theorem h18_keep : h18.keep = [] := rfl
@[simp] theorem h18_out : h18.out = [] := rfl
@[simp] theorem h18_row : h18.row = [(2, [(some (6, (34, false)))])] := rfl
@[simp] theorem h18_par : h18.par = [[(some (6, (34, false)))]] := rfl
@[simp] theorem h18_res : h18.res = [] := rfl
@[simp] theorem h18_shr : h18.shr = [4] := rfl
@[simp] theorem h18_far : h18.far = [] := rfl
@[simp] theorem hint20 : lore.hint 20 = h20 := rfl
@[simp] theorem h20_var : h20.var = [0, 1, 2, 3, 4, 5, 7, 8, 9, 12, 13, 14, 15, 16, 18] := rfl
@[simp] theorem h20_own : h20.own = [0, 1, 15] := rfl
@[simp] theorem h20_keep : h20.keep = [] := rfl
@[simp] theorem h20_out : h20.out = [] := rfl
@[simp] theorem h20_row : h20.row = [] := rfl
@[simp] theorem h20_par : h20.par = [] := rfl
@[simp] theorem h20_res : h20.res = [] := rfl
@[simp] theorem h20_shr : h20.shr = [0] := rfl
@[simp] theorem h20_far : h20.far = [21] := rfl
@[simp] theorem hint21 : lore.hint 21 = h21 := rfl
@[simp] theorem h21_var : h21.var = [0, 2] := rfl
@[simp] theorem h21_own : h21.own = [2, 12] := rfl
@[simp] theorem h21_keep : h21.keep = [] := rfl
@[simp] theorem h21_out : h21.out = [] := rfl
@[simp] theorem h21_row : h21.row = [(12, [(some (5, (81, true)))])] := rfl
@[simp] theorem h21_par : h21.par = [] := rfl
@[simp] theorem h21_res : h21.res = [] := rfl
@[simp] theorem h21_shr : h21.shr = [2] := rfl
@[simp] theorem h21_far : h21.far = [] := rfl
@[simp] theorem hint22 : lore.hint 22 = h22 := rfl
@[simp] theorem h22_var : h22.var = [0, 2] := rfl
@[simp] theorem h22_own : h22.own = [2, 6] := rfl
@[simp] theorem h22_keep : h22.keep = [] := rfl
@[simp] theorem h22_out : h22.out = [] := rfl
@[simp] theorem h22_row : h22.row = [(6, [(some (5, (75, true)))])] := rfl
@[simp] theorem h22_par : h22.par = [] := rfl
@[simp] theorem h22_res : h22.res = [] := rfl
@[simp] theorem h22_shr : h22.shr = [2] := rfl
@[simp] theorem h22_far : h22.far = [] := rfl
@[simp] theorem hint23 : lore.hint 23 = h23 := rfl
@[simp] theorem h23_var : h23.var = [0] := rfl
@[simp] theorem h23_own : h23.own = [0] := rfl
@[simp] theorem h23_keep : h23.keep = [] := rfl
@[simp] theorem h23_out : h23.out = [] := rfl
@[simp] theorem h23_row : h23.row = [] := rfl
@[simp] theorem h23_par : h23.par = [] := rfl
@[simp] theorem h23_res : h23.res = [] := rfl
@[simp] theorem h23_shr : h23.shr = [] := rfl
@[simp] theorem h23_far : h23.far = [] := rfl
@[simp] theorem hint25 : lore.hint 25 = h25 := rfl
@[simp] theorem h25_var : h25.var = [0, 1, 2, 3, 5, 8, 9, 10, 11, 12, 13, 14, 15] := rfl
@[simp] theorem h25_own : h25.own = [0, 8, 9, 10] := rfl
@[simp] theorem h25_keep : h25.keep = [] := rfl
@[simp] theorem h25_out : h25.out = [] := rfl
@[simp] theorem h25_row : h25.row = [(5, [(some (6, (34, false)))])] := rfl
@[simp] theorem h25_par : h25.par = [[], [(some (6, (34, false)))]] := rfl
@[simp] theorem h25_res : h25.res = [] := rfl
@[simp] theorem h25_shr : h25.shr = [8, 9, 10] := rfl
@[simp] theorem h25_far : h25.far = [] := rfl
@[simp] theorem hint27 : lore.hint 27 = h27 := rfl
@[simp] theorem h27_var : h27.var = [0, 2, 3] := rfl
@[simp] theorem h27_own : h27.own = [2, 3] := rfl
@[simp] theorem h27_keep : h27.keep = [] := rfl
@[simp] theorem h27_out : h27.out = [] := rfl
@[simp] theorem h27_row : h27.row = [] := rfl
@[simp] theorem h27_par : h27.par = [] := rfl
@[simp] theorem h27_res : h27.res = [] := rfl
@[simp] theorem h27_shr : h27.shr = [2, 3] := rfl
@[simp] theorem h27_far : h27.far = [] := rfl
@[simp] theorem hint28 : lore.hint 28 = h28 := rfl
@[simp] theorem h28_var : h28.var = [0, 1, 2, 3, 6, 7, 8] := rfl
@[simp] theorem h28_own : h28.own = [6, 7, 8] := rfl
@[simp] theorem h28_keep : h28.keep = [] := rfl
@[simp] theorem h28_out : h28.out = [] := rfl
@[simp] theorem h28_row : h28.row = [(3, [(some (6, (34, false)))])] := rfl
@[simp] theorem h28_par : h28.par = [[(some (6, (34, false)))]] := rfl
@[simp] theorem h28_res : h28.res = [] := rfl
@[simp] theorem h28_shr : h28.shr = [6, 7, 8] := rfl
@[simp] theorem h28_far : h28.far = [] := rfl
@[simp] theorem callOk32 : callOk Try.prog 32 = true := by kernel_rfl
@[simp] theorem hint32 : lore.hint 32 = h32 := rfl
@[simp] theorem h32_var : h32.var = [0, 1, 2, 3, 4, 5] := rfl
@[simp] theorem h32_own : h32.own = [4] := rfl
@[simp] theorem h32_keep : h32.keep = [(2, [2, 3, 5])] := rfl
@[simp] theorem h32_out : h32.out = [(2, [2, 3, 4])] := rfl
@[simp] theorem h32_row : h32.row = [(2, [(some (6, (34, false)))]), (3, [none, none, (some (1, (3, false)))])] := rfl
@[simp] theorem h32_par : h32.par = [[(some (6, (34, false)))], [none, none, (some (1, (3, false)))]] := rfl
@[simp] theorem h32_res : h32.res = [] := rfl
@[simp] theorem h32_shr : h32.shr = [4] := rfl
@[simp] theorem h32_far : h32.far = [] := rfl
@[simp] theorem callOk33 : callOk Try.prog 33 = true := by kernel_rfl
@[simp] theorem hint33 : lore.hint 33 = h33 := rfl
@[simp] theorem h33_var : h33.var = [0, 2] := rfl
@[simp] theorem h33_own : h33.own = [2] := rfl
@[simp] theorem h33_keep : h33.keep = [] := rfl
@[simp] theorem h33_out : h33.out = [] := rfl
@[simp] theorem h33_row : h33.row = [] := rfl
@[simp] theorem h33_par : h33.par = [] := rfl
@[simp] theorem h33_res : h33.res = [] := rfl
@[simp] theorem h33_shr : h33.shr = [2] := rfl
@[simp] theorem h33_far : h33.far = [] := rfl
@[simp] theorem hint34 : lore.hint 34 = h34 := rfl
@[simp] theorem h34_var : h34.var = [0, 1, 2, 3] := rfl
@[simp] theorem h34_own : h34.own = [2, 3] := rfl
@[simp] theorem h34_keep : h34.keep = [] := rfl
@[simp] theorem h34_out : h34.out = [] := rfl
@[simp] theorem h34_row : h34.row = [(1, [(some (6, (34, false)))])] := rfl
@[simp] theorem h34_par : h34.par = [[(some (6, (34, false)))]] := rfl
@[simp] theorem h34_res : h34.res = [] := rfl
@[simp] theorem h34_shr : h34.shr = [2] := rfl
@[simp] theorem h34_far : h34.far = [] := rfl
@[simp] theorem hint35 : lore.hint 35 = h35 := rfl
@[simp] theorem h35_var : h35.var = [0, 1, 2, 3, 4] := rfl
@[simp] theorem h35_own : h35.own = [2, 3, 4] := rfl
@[simp] theorem h35_keep : h35.keep = [] := rfl
@[simp] theorem h35_out : h35.out = [] := rfl
@[simp] theorem h35_row : h35.row = [(2, [(some (6, (34, true)))])] := rfl
@[simp] theorem h35_par : h35.par = [[(some (6, (34, false)))]] := rfl
@[simp] theorem h35_res : h35.res = [] := rfl
@[simp] theorem h35_shr : h35.shr = [4] := rfl
@[simp] theorem h35_far : h35.far = [] := rfl
@[simp] theorem callOk36 : callOk Try.prog 36 = true := by kernel_rfl
@[simp] theorem hint36 : lore.hint 36 = h36 := rfl
@[simp] theorem h36_var : h36.var = [0, 1, 2, 4, 5, 6, 7] := rfl
@[simp] theorem h36_own : h36.own = [4, 5] := rfl
@[simp] theorem h36_keep : h36.keep = [] := rfl
@[simp] theorem h36_out : h36.out = [] := rfl
@[simp] theorem h36_row : h36.row = [(2, [(some (6, (34, false)))]), (4, [(some (1, (3, false)))])] := rfl
@[simp] theorem h36_par : h36.par = [[(some (6, (34, false)))]] := rfl
@[simp] theorem h36_res : h36.res = [[(some (1, (3, false)))]] := rfl
@[simp] theorem h36_shr : h36.shr = [4, 5] := rfl
@[simp] theorem h36_far : h36.far = [] := rfl
@[simp] theorem callOk37 : callOk Try.prog 37 = true := by kernel_rfl
@[simp] theorem hint37 : lore.hint 37 = h37 := rfl
@[simp] theorem h37_var : h37.var = [0, 1, 2, 4, 5, 6] := rfl
@[simp] theorem h37_own : h37.own = [4] := rfl
@[simp] theorem h37_keep : h37.keep = [] := rfl
@[simp] theorem h37_out : h37.out = [] := rfl
@[simp] theorem h37_row : h37.row = [(2, [(some (6, (34, false)))])] := rfl
@[simp] theorem h37_par : h37.par = [[(some (6, (34, false)))]] := rfl
@[simp] theorem h37_res : h37.res = [] := rfl
@[simp] theorem h37_shr : h37.shr = [4] := rfl
@[simp] theorem h37_far : h37.far = [] := rfl
@[simp] theorem callOk38 : callOk Try.prog 38 = true := by kernel_rfl
@[simp] theorem hint38 : lore.hint 38 = h38 := rfl
@[simp] theorem h38_var : h38.var = [0, 1, 2, 4, 5, 6] := rfl
@[simp] theorem h38_own : h38.own = [4, 5] := rfl
@[simp] theorem h38_keep : h38.keep = [] := rfl
@[simp] theorem h38_out : h38.out = [] := rfl
@[simp] theorem h38_row : h38.row = [(2, [(some (6, (34, false)))]), (4, [(some (1, (3, false)))])] := rfl
@[simp] theorem h38_par : h38.par = [[(some (6, (34, false)))]] := rfl
@[simp] theorem h38_res : h38.res = [[(some (1, (3, false)))]] := rfl
@[simp] theorem h38_shr : h38.shr = [4, 5] := rfl
@[simp] theorem h38_far : h38.far = [] := rfl
@[simp] theorem callOk39 : callOk Try.prog 39 = true := by kernel_rfl
@[simp] theorem hint39 : lore.hint 39 = h39 := rfl
@[simp] theorem h39_var : h39.var = [0, 2, 3] := rfl
@[simp] theorem h39_own : h39.own = [2, 3] := rfl
@[simp] theorem h39_keep : h39.keep = [] := rfl
@[simp] theorem h39_out : h39.out = [] := rfl
@[simp] theorem h39_row : h39.row = [] := rfl
@[simp] theorem h39_par : h39.par = [] := rfl
@[simp] theorem h39_res : h39.res = [] := rfl
@[simp] theorem h39_shr : h39.shr = [2, 3] := rfl
@[simp] theorem h39_far : h39.far = [] := rfl
@[simp] theorem callOk40 : callOk Try.prog 40 = true := by kernel_rfl
@[simp] theorem hint40 : lore.hint 40 = h40 := rfl
@[simp] theorem h40_var : h40.var = [0, 2, 3] := rfl
@[simp] theorem h40_own : h40.own = [2, 3] := rfl
@[simp] theorem h40_keep : h40.keep = [] := rfl
@[simp] theorem h40_out : h40.out = [] := rfl
@[simp] theorem h40_row : h40.row = [] := rfl
@[simp] theorem h40_par : h40.par = [] := rfl
@[simp] theorem h40_res : h40.res = [] := rfl
@[simp] theorem h40_shr : h40.shr = [2, 3] := rfl
@[simp] theorem h40_far : h40.far = [] := rfl
@[simp] theorem hint42 : lore.hint 42 = h42 := rfl
@[simp] theorem h42_var : h42.var = [0, 1, 3, 4, 5, 6] := rfl
@[simp] theorem h42_own : h42.own = [4] := rfl
@[simp] theorem h42_keep : h42.keep = [] := rfl
@[simp] theorem h42_out : h42.out = [] := rfl
@[simp] theorem h42_row : h42.row = [] := rfl
@[simp] theorem h42_par : h42.par = [] := rfl
@[simp] theorem h42_res : h42.res = [] := rfl
@[simp] theorem h42_shr : h42.shr = [4] := rfl
@[simp] theorem h42_far : h42.far = [] := rfl
@[simp] theorem callOk43 : callOk Try.prog 43 = true := by kernel_rfl
@[simp] theorem hint43 : lore.hint 43 = h43 := rfl
@[simp] theorem h43_var : h43.var = [0, 1, 2, 3, 4, 8, 9, 10, 11, 12, 14] := rfl
@[simp] theorem h43_own : h43.own = [8, 9, 10] := rfl
@[simp] theorem h43_keep : h43.keep = [(6, [1, 2, 3, 4, 11, 12, 14])] := rfl
@[simp] theorem h43_out : h43.out = [(6, [2, 3, 4, 8, 9, 10, 11])] := rfl
@[simp] theorem h43_row : h43.row = [(4, [(some (6, (34, false)))]), (11, [none, none, (some (1, (3, false)))]), (12, [(some (1, (3, false)))])] := rfl
@[simp] theorem h43_par : h43.par = [[(some (6, (34, false)))]] := rfl
@[simp] theorem h43_res : h43.res = [] := rfl
@[simp] theorem h43_shr : h43.shr = [8, 9, 10] := rfl
@[simp] theorem h43_far : h43.far = [] := rfl
@[simp] theorem callOk44 : callOk Try.prog 44 = true := by kernel_rfl
@[simp] theorem hint44 : lore.hint 44 = h44 := rfl
@[simp] theorem h44_var : h44.var = [0, 2, 3, 4] := rfl
@[simp] theorem h44_own : h44.own = [2, 3] := rfl
@[simp] theorem h44_keep : h44.keep = [] := rfl
@[simp] theorem h44_out : h44.out = [] := rfl
@[simp] theorem h44_row : h44.row = [] := rfl
@[simp] theorem h44_par : h44.par = [] := rfl
@[simp] theorem h44_res : h44.res = [] := rfl
@[simp] theorem h44_shr : h44.shr = [2, 3] := rfl
@[simp] theorem h44_far : h44.far = [] := rfl
@[simp] theorem hint46 : lore.hint 46 = h46 := rfl
@[simp] theorem h46_var : h46.var = [0, 1, 2, 4, 5, 7, 8, 9] := rfl
@[simp] theorem h46_own : h46.own = [4] := rfl
@[simp] theorem h46_keep : h46.keep = [] := rfl
@[simp] theorem h46_out : h46.out = [] := rfl
@[simp] theorem h46_row : h46.row = [(2, [(some (6, (34, false)))])] := rfl
@[simp] theorem h46_par : h46.par = [[(some (6, (34, false)))]] := rfl
@[simp] theorem h46_res : h46.res = [] := rfl
@[simp] theorem h46_shr : h46.shr = [4] := rfl
@[simp] theorem h46_far : h46.far = [] := rfl
@[simp] theorem callOk47 : callOk Try.prog 47 = true := by kernel_rfl
@[simp] theorem hint47 : lore.hint 47 = h47 := rfl
@[simp] theorem h47_var : h47.var = [0, 2] := rfl
@[simp] theorem h47_own : h47.own = [2] := rfl
@[simp] theorem h47_keep : h47.keep = [] := rfl
@[simp] theorem h47_out : h47.out = [] := rfl
@[simp] theorem h47_row : h47.row = [] := rfl
@[simp] theorem h47_par : h47.par = [] := rfl
@[simp] theorem h47_res : h47.res = [] := rfl
@[simp] theorem h47_shr : h47.shr = [2] := rfl
@[simp] theorem h47_far : h47.far = [] := rfl
@[simp] theorem callOk48 : callOk Try.prog 48 = true := by kernel_rfl
@[simp] theorem hint48 : lore.hint 48 = h48 := rfl
@[simp] theorem h48_var : h48.var = [0, 1, 4] := rfl
@[simp] theorem h48_own : h48.own = [4] := rfl
@[simp] theorem h48_keep : h48.keep = [] := rfl
@[simp] theorem h48_out : h48.out = [] := rfl
@[simp] theorem h48_row : h48.row = [] := rfl
@[simp] theorem h48_par : h48.par = [] := rfl
@[simp] theorem h48_res : h48.res = [] := rfl
@[simp] theorem h48_shr : h48.shr = [4] := rfl
@[simp] theorem h48_far : h48.far = [] := rfl
@[simp] theorem callOk49 : callOk Try.prog 49 = true := by kernel_rfl
@[simp] theorem hint49 : lore.hint 49 = h49 := rfl
@[simp] theorem h49_var : h49.var = [0, 1, 4] := rfl
@[simp] theorem h49_own : h49.own = [4] := rfl
@[simp] theorem h49_keep : h49.keep = [] := rfl
@[simp] theorem h49_out : h49.out = [] := rfl
@[simp] theorem h49_row : h49.row = [] := rfl
@[simp] theorem h49_par : h49.par = [] := rfl
@[simp] theorem h49_res : h49.res = [] := rfl
@[simp] theorem h49_shr : h49.shr = [] := rfl
@[simp] theorem h49_far : h49.far = [] := rfl
@[simp] theorem callOk50 : callOk Try.prog 50 = true := by kernel_rfl
@[simp] theorem hint50 : lore.hint 50 = h50 := rfl
@[simp] theorem h50_var : h50.var = [0, 1, 2, 3] := rfl
@[simp] theorem h50_own : h50.own = [3] := rfl
@[simp] theorem h50_keep : h50.keep = [] := rfl
@[simp] theorem h50_out : h50.out = [] := rfl
@[simp] theorem h50_row : h50.row = [(2, [none, none, (some (1, (3, false)))])] := rfl
@[simp] theorem h50_par : h50.par = [[none, none, (some (1, (3, false)))]] := rfl
@[simp] theorem h50_res : h50.res = [] := rfl
@[simp] theorem h50_shr : h50.shr = [3] := rfl
@[simp] theorem h50_far : h50.far = [] := rfl
@[simp] theorem callOk51 : callOk Try.prog 51 = true := by kernel_rfl
@[simp] theorem hint51 : lore.hint 51 = h51 := rfl
@[simp] theorem h51_var : h51.var = [0, 1, 2, 3, 4] := rfl
@[simp] theorem h51_own : h51.own = [2, 4] := rfl
@[simp] theorem h51_keep : h51.keep = [] := rfl
@[simp] theorem h51_out : h51.out = [] := rfl
@[simp] theorem h51_row : h51.row = [(3, [none, none, (some (1, (3, false)))])] := rfl
@[simp] theorem h51_par : h51.par = [[], [none, none, (some (1, (3, false)))]] := rfl
@[simp] theorem h51_res : h51.res = [] := rfl
@[simp] theorem h51_shr : h51.shr = [4] := rfl
@[simp] theorem h51_far : h51.far = [] := rfl
@[simp] theorem hint52 : lore.hint 52 = h52 := rfl
@[simp] theorem h52_var : h52.var = [0, 1, 2, 4, 5] := rfl
@[simp] theorem h52_own : h52.own = [] := rfl
@[simp] theorem h52_keep : h52.keep = [(1, [0, 1, 2, 4])] := rfl
@[simp] theorem h52_out : h52.out = [] := rfl
@[simp] theorem h52_row : h52.row = [] := rfl
@[simp] theorem h52_par : h52.par = [] := rfl
@[simp] theorem h52_res : h52.res = [] := rfl
@[simp] theorem h52_shr : h52.shr = [] := rfl
@[simp] theorem h52_far : h52.far = [] := rfl
@[simp] theorem callOk53 : callOk Try.prog 53 = true := by kernel_rfl
@[simp] theorem hint53 : lore.hint 53 = h53 := rfl
@[simp] theorem h53_var : h53.var = [0, 2, 3, 4] := rfl
@[simp] theorem h53_own : h53.own = [2, 3] := rfl
@[simp] theorem h53_keep : h53.keep = [] := rfl
@[simp] theorem h53_out : h53.out = [] := rfl
@[simp] theorem h53_row : h53.row = [] := rfl
@[simp] theorem h53_par : h53.par = [] := rfl
@[simp] theorem h53_res : h53.res = [] := rfl
@[simp] theorem h53_shr : h53.shr = [2, 3] := rfl
@[simp] theorem h53_far : h53.far = [] := rfl
@[simp] theorem callOk54 : callOk Try.prog 54 = true := by kernel_rfl
@[simp] theorem hint54 : lore.hint 54 = h54 := rfl
@[simp] theorem h54_var : h54.var = [0, 2] := rfl
@[simp] theorem h54_own : h54.own = [2] := rfl
@[simp] theorem h54_keep : h54.keep = [] := rfl
@[simp] theorem h54_out : h54.out = [] := rfl
@[simp] theorem h54_row : h54.row = [] := rfl
@[simp] theorem h54_par : h54.par = [] := rfl
@[simp] theorem h54_res : h54.res = [] := rfl
@[simp] theorem h54_shr : h54.shr = [2] := rfl
@[simp] theorem h54_far : h54.far = [] := rfl
@[simp] theorem callOk55 : callOk Try.prog 55 = true := by kernel_rfl
@[simp] theorem hint55 : lore.hint 55 = h55 := rfl
@[simp] theorem h55_var : h55.var = [0, 2] := rfl
@[simp] theorem h55_own : h55.own = [2] := rfl
@[simp] theorem h55_keep : h55.keep = [] := rfl
@[simp] theorem h55_out : h55.out = [] := rfl
@[simp] theorem h55_row : h55.row = [] := rfl
@[simp] theorem h55_par : h55.par = [] := rfl
@[simp] theorem h55_res : h55.res = [] := rfl
@[simp] theorem h55_shr : h55.shr = [2] := rfl
@[simp] theorem h55_far : h55.far = [] := rfl
@[simp] theorem callOk56 : callOk Try.prog 56 = true := by kernel_rfl
@[simp] theorem hint56 : lore.hint 56 = h56 := rfl
@[simp] theorem h56_var : h56.var = [0, 2, 3, 4] := rfl
@[simp] theorem h56_own : h56.own = [2] := rfl
@[simp] theorem h56_keep : h56.keep = [] := rfl
@[simp] theorem h56_out : h56.out = [] := rfl
@[simp] theorem h56_row : h56.row = [] := rfl
@[simp] theorem h56_par : h56.par = [] := rfl
@[simp] theorem h56_res : h56.res = [] := rfl
@[simp] theorem h56_shr : h56.shr = [2] := rfl
@[simp] theorem h56_far : h56.far = [] := rfl
@[simp] theorem callOk57 : callOk Try.prog 57 = true := by kernel_rfl
@[simp] theorem hint57 : lore.hint 57 = h57 := rfl
@[simp] theorem h57_var : h57.var = [0] := rfl
@[simp] theorem h57_own : h57.own = [0] := rfl
@[simp] theorem h57_keep : h57.keep = [] := rfl
@[simp] theorem h57_out : h57.out = [] := rfl
@[simp] theorem h57_row : h57.row = [] := rfl
@[simp] theorem h57_par : h57.par = [] := rfl
@[simp] theorem h57_res : h57.res = [] := rfl
@[simp] theorem h57_shr : h57.shr = [0] := rfl
@[simp] theorem h57_far : h57.far = [] := rfl
@[simp] theorem callOk58 : callOk Try.prog 58 = true := by kernel_rfl
@[simp] theorem hint58 : lore.hint 58 = h58 := rfl
@[simp] theorem h58_var : h58.var = [0, 1, 4, 5, 7, 8] := rfl
@[simp] theorem h58_own : h58.own = [4] := rfl
@[simp] theorem h58_keep : h58.keep = [(2, [0, 1, 7, 8])] := rfl
@[simp] theorem h58_out : h58.out = [(2, [4])] := rfl
@[simp] theorem h58_row : h58.row = [] := rfl
@[simp] theorem h58_par : h58.par = [] := rfl
@[simp] theorem h58_res : h58.res = [] := rfl
@[simp] theorem h58_shr : h58.shr = [] := rfl
@[simp] theorem h58_far : h58.far = [] := rfl
@[simp] theorem callOk59 : callOk Try.prog 59 = true := by kernel_rfl
@[simp] theorem hint59 : lore.hint 59 = h59 := rfl
@[simp] theorem h59_var : h59.var = [0, 1, 4, 5, 6] := rfl
@[simp] theorem h59_own : h59.own = [4] := rfl
@[simp] theorem h59_keep : h59.keep = [] := rfl
@[simp] theorem h59_out : h59.out = [] := rfl
@[simp] theorem h59_row : h59.row = [] := rfl
@[simp] theorem h59_par : h59.par = [] := rfl
@[simp] theorem h59_res : h59.res = [] := rfl
@[simp] theorem h59_shr : h59.shr = [4] := rfl
@[simp] theorem h59_far : h59.far = [] := rfl
@[simp] theorem callOk60 : callOk Try.prog 60 = true := by kernel_rfl
@[simp] theorem hint60 : lore.hint 60 = h60 := rfl
@[simp] theorem h60_var : h60.var = [0, 2] := rfl
@[simp] theorem h60_own : h60.own = [2] := rfl
@[simp] theorem h60_keep : h60.keep = [] := rfl
@[simp] theorem h60_out : h60.out = [] := rfl
@[simp] theorem h60_row : h60.row = [] := rfl
@[simp] theorem h60_par : h60.par = [] := rfl
@[simp] theorem h60_res : h60.res = [] := rfl
@[simp] theorem h60_shr : h60.shr = [2] := rfl
@[simp] theorem h60_far : h60.far = [] := rfl
@[simp] theorem callOk61 : callOk Try.prog 61 = true := by kernel_rfl
@[simp] theorem hint61 : lore.hint 61 = h61 := rfl
@[simp] theorem h61_var : h61.var = [0, 1, 4] := rfl
@[simp] theorem h61_own : h61.own = [4] := rfl
@[simp] theorem h61_keep : h61.keep = [] := rfl
@[simp] theorem h61_out : h61.out = [] := rfl
@[simp] theorem h61_row : h61.row = [] := rfl
@[simp] theorem h61_par : h61.par = [] := rfl
@[simp] theorem h61_res : h61.res = [] := rfl
@[simp] theorem h61_shr : h61.shr = [] := rfl
@[simp] theorem h61_far : h61.far = [] := rfl
@[simp] theorem callOk62 : callOk Try.prog 62 = true := by kernel_rfl
@[simp] theorem hint62 : lore.hint 62 = h62 := rfl
@[simp] theorem h62_var : h62.var = [0, 1, 3] := rfl
@[simp] theorem h62_own : h62.own = [3] := rfl
@[simp] theorem h62_keep : h62.keep = [] := rfl
@[simp] theorem h62_out : h62.out = [] := rfl
@[simp] theorem h62_row : h62.row = [] := rfl
@[simp] theorem h62_par : h62.par = [] := rfl
@[simp] theorem h62_res : h62.res = [] := rfl
@[simp] theorem h62_shr : h62.shr = [3] := rfl
@[simp] theorem h62_far : h62.far = [] := rfl
@[simp] theorem callOk63 : callOk Try.prog 63 = true := by kernel_rfl
@[simp] theorem hint63 : lore.hint 63 = h63 := rfl
@[simp] theorem h63_var : h63.var = [0, 1, 4, 6] := rfl
@[simp] theorem h63_own : h63.own = [4] := rfl
@[simp] theorem h63_keep : h63.keep = [] := rfl
@[simp] theorem h63_out : h63.out = [] := rfl
@[simp] theorem h63_row : h63.row = [] := rfl
@[simp] theorem h63_par : h63.par = [] := rfl
@[simp] theorem h63_res : h63.res = [] := rfl
@[simp] theorem h63_shr : h63.shr = [4] := rfl
@[simp] theorem h63_far : h63.far = [] := rfl
@[simp] theorem callOk64 : callOk Try.prog 64 = true := by kernel_rfl
@[simp] theorem hint64 : lore.hint 64 = h64 := rfl
@[simp] theorem h64_var : h64.var = [0, 2] := rfl
@[simp] theorem h64_own : h64.own = [2] := rfl
@[simp] theorem h64_keep : h64.keep = [] := rfl
@[simp] theorem h64_out : h64.out = [] := rfl
@[simp] theorem h64_row : h64.row = [] := rfl
@[simp] theorem h64_par : h64.par = [] := rfl
@[simp] theorem h64_res : h64.res = [] := rfl
@[simp] theorem h64_shr : h64.shr = [2] := rfl
@[simp] theorem h64_far : h64.far = [] := rfl
@[simp] theorem callOk67 : callOk Try.prog 67 = true := by kernel_rfl
@[simp] theorem hint67 : lore.hint 67 = h67 := rfl
@[simp] theorem h67_var : h67.var = [0, 1, 4, 5, 7, 8] := rfl
@[simp] theorem h67_own : h67.own = [4] := rfl
@[simp] theorem h67_keep : h67.keep = [(2, [0, 1, 7, 8])] := rfl
@[simp] theorem h67_out : h67.out = [(2, [4])] := rfl
@[simp] theorem h67_row : h67.row = [] := rfl
@[simp] theorem h67_par : h67.par = [] := rfl
@[simp] theorem h67_res : h67.res = [] := rfl
@[simp] theorem h67_shr : h67.shr = [] := rfl
@[simp] theorem h67_far : h67.far = [] := rfl
@[simp] theorem callOk68 : callOk Try.prog 68 = true := by kernel_rfl
@[simp] theorem hint68 : lore.hint 68 = h68 := rfl
@[simp] theorem h68_var : h68.var = [0] := rfl
@[simp] theorem h68_own : h68.own = [0] := rfl
@[simp] theorem h68_keep : h68.keep = [] := rfl
@[simp] theorem h68_out : h68.out = [] := rfl
@[simp] theorem h68_row : h68.row = [] := rfl
@[simp] theorem h68_par : h68.par = [] := rfl
@[simp] theorem h68_res : h68.res = [] := rfl
@[simp] theorem h68_shr : h68.shr = [0] := rfl
@[simp] theorem h68_far : h68.far = [] := rfl
end Go.Pv

namespace Go.Pv
open Go Go.Proofs
attribute [simp] fr_GObj
@[simp ↓] theorem f_flt_Canon (b : Int) (fr : Frames) : cO Try.prog lore 60 [.t (.sc (.int .i64 b))] fr = some (.val (I (canonF b)), fr) := by
  rw [cO_told (s := canonS) rfl]
  rfl
open Classical in
noncomputable def F_look_Find (h : GHeap) (c s : Int) : Option (Int × Int × Int) := if Slim h then some (findP h c s) else none
open Classical in
noncomputable def F_look_Under (h : GHeap) (c d : Int) : Option Bool := if Slim h then some (underP h c d) else none
@[simp ↓] theorem f_look_Find (x_0 : List GObj) (x_1 x_2 c s : Int) (fr : Frames) : cO Try.prog lore 14 [D.agg [D.t (T.sl 6 (els x_0)), D.t (T.sc (Value.int IntKind.i64 x_1)), D.t (T.sc (Value.int IntKind.i64 x_2))], D.t (T.sc (Value.int IntKind.i64 c)), D.t (T.sc (Value.int IntKind.i64 s))] fr =
    ob (F_look_Find ⟨x_0, x_1, x_2⟩ c s) fun r => some (Res.val (D.tup [D.t (T.sc (Value.int IntKind.i64 r.1)), D.t (T.sc (Value.int IntKind.i64 r.2.1)), D.t (T.sc (Value.int IntKind.i64 r.2.2))]), fr) := by
  rw [cO_told (s := findS) rfl]
  unfold F_look_Find
  by_cases h : Slim ⟨x_0, x_1, x_2⟩
  · rw [if_pos h]
    simp [h14, findS, decH_els ⟨x_0, x_1, x_2⟩ h, ob_some]
  · rw [if_neg h]
    simp [h14, findS, decH_fat ⟨x_0, x_1, x_2⟩ h]
@[simp ↓] theorem f_look_Under (x_0 : List GObj) (x_1 x_2 c s : Int) (fr : Frames) : cO Try.prog lore 15 [D.agg [D.t (T.sl 6 (els x_0)), D.t (T.sc (Value.int IntKind.i64 x_1)), D.t (T.sc (Value.int IntKind.i64 x_2))], D.t (T.sc (Value.int IntKind.i64 c)), D.t (T.sc (Value.int IntKind.i64 s))] fr =
    ob (F_look_Under ⟨x_0, x_1, x_2⟩ c s) fun r => some (Res.val (D.t (T.sc (Value.bool r))), fr) := by
  rw [cO_told (s := underS) rfl]
  unfold F_look_Under
  by_cases h : Slim ⟨x_0, x_1, x_2⟩
  · rw [if_pos h]
    simp [h15, underS, decH_els ⟨x_0, x_1, x_2⟩ h, ob_some]
  · rw [if_neg h]
    simp [h15, underS, decH_fat ⟨x_0, x_1, x_2⟩ h]
def decB : List D → Option GCa
  | [.own 81 5 es, .t (.sc (.int .i64 a)), .t (.sc (.int .i64 b))] => match decEs es with
    | some l => some ⟨l, a, b⟩
    | none => none
  | _ => none
def boxC (frs : Frames) (f s : Nat) : Option GCa := decB (boxAt frs f s)
theorem decC_B (x : List D) : decC x = match decB x with | some c => if 0 < c.entries.length ∧ c.entries.length ≤ 64 then some c else none | none => none := by
  unfold decC decB
  split
  · split
    · rename_i l e; simp only [e]
    · rename_i e; simp only [e]
  · rename_i h1
    split
    · rename_i h2
      split at h2
      · exact absurd rfl (h1 _ _ _)
      · cases h2
    · rfl
@[simp] theorem decB_els (l : List GEn) (a b : Int) : decB [D.own 81 5 (els l), D.t (T.sc (Value.int IntKind.i64 a)), D.t (T.sc (Value.int IntKind.i64 b))] = some ⟨l, a, b⟩ := by
  unfold decB; simp only [decEs_els]
open Classical in
noncomputable def F_cache_Find (c : GCa) (h : GHeap) (k s : Int) : Option ((Int × Int × Int) × GCa) := if Slim h ∧ 0 < c.entries.length ∧ c.entries.length ≤ 64 then some (cFind c h k s) else none
def F_cache_Hits (c : GCa) : Option (Int × Int) := if 0 < c.entries.length ∧ c.entries.length ≤ 64 then some (c.hits, c.misses) else none
def F_cache_Flush (c : GCa) : Option GCa := if 0 < c.entries.length ∧ c.entries.length ≤ 64 then some (cFlush c) else none
@[simp ↓] theorem f_cache_Find (f s : Nat) (x_0 : List GObj) (x_1 x_2 k t : Int) (fr : Frames) : cO Try.prog lore 25 [D.fp f s 0, D.agg [D.t (T.sl 6 (els x_0)), D.t (T.sc (Value.int IntKind.i64 x_1)), D.t (T.sc (Value.int IntKind.i64 x_2))], D.t (T.sc (Value.int IntKind.i64 k)), D.t (T.sc (Value.int IntKind.i64 t))] fr =
    ob (boxC fr f s) fun c => ob (F_cache_Find c ⟨x_0, x_1, x_2⟩ k t) fun r => some (Res.val (D.tup [D.t (T.sc (Value.int IntKind.i64 r.1.1)), D.t (T.sc (Value.int IntKind.i64 r.1.2.1)), D.t (T.sc (Value.int IntKind.i64 r.1.2.2))]), setBox fr f s [D.own 81 5 (els r.2.entries), D.t (T.sc (Value.int IntKind.i64 r.2.hits)), D.t (T.sc (Value.int IntKind.i64 r.2.misses))]) := by
  rw [cO_toldF (s := cFindS) rfl]
  have e : seamVs (noOwn (lore.hint 25).par) [D.fp f s 0, D.agg [D.t (T.sl 6 (els x_0)), D.t (T.sc (Value.int IntKind.i64 x_1)), D.t (T.sc (Value.int IntKind.i64 x_2))], D.t (T.sc (Value.int IntKind.i64 k)), D.t (T.sc (Value.int IntKind.i64 t))] = [D.fp f s 0, D.agg [D.t (T.sl 6 (els x_0)), D.t (T.sc (Value.int IntKind.i64 x_1)), D.t (T.sc (Value.int IntKind.i64 x_2))], D.t (T.sc (Value.int IntKind.i64 k)), D.t (T.sc (Value.int IntKind.i64 t))] := rfl
  rw [e]
  unfold cFindS boxC
  simp only [decC_B]
  cases decB (boxAt fr f s) with
  | none =>
    by_cases h : Slim ⟨x_0, x_1, x_2⟩
    · simp only [decH_els ⟨x_0, x_1, x_2⟩ h]; rfl
    · simp only [decH_fat ⟨x_0, x_1, x_2⟩ h]; rfl
  | some c =>
    rw [ob_some]
    unfold F_cache_Find
    by_cases h : Slim ⟨x_0, x_1, x_2⟩
    · simp only [decH_els ⟨x_0, x_1, x_2⟩ h]
      by_cases hl : 0 < c.entries.length ∧ c.entries.length ≤ 64
      · rw [if_pos hl, if_pos ⟨h, hl⟩, ob_some]; rfl
      · rw [if_neg hl, if_neg (fun e => hl e.2)]; rfl
    · simp only [decH_fat ⟨x_0, x_1, x_2⟩ h]
      rw [if_neg (fun e => h e.1)]; rfl
@[simp ↓] theorem f_cache_Hits (f s : Nat) (fr : Frames) : cO Try.prog lore 27 [D.fp f s 0] fr = ob (boxC fr f s) fun c => ob (F_cache_Hits c) fun r => some (Res.val (D.tup [D.t (T.sc (Value.int IntKind.i64 r.1)), D.t (T.sc (Value.int IntKind.i64 r.2))]), fr) := by
  rw [cO_toldF (s := cHitsS) rfl]
  show wrapThen _ (Option.map _ (cHitsS [D.fp f s 0] fr)) = _
  unfold cHitsS boxC
  simp only [decC_B]
  cases decB (boxAt fr f s) with
  | none => rfl
  | some c =>
    rw [ob_some]
    unfold F_cache_Hits
    by_cases hl : 0 < c.entries.length ∧ c.entries.length ≤ 64
    · simp only [if_pos hl, ob_some]; rfl
    · simp only [if_neg hl]; rfl
@[simp ↓] theorem f_cache_Flush (f s : Nat) (fr : Frames) : cO Try.prog lore 23 [D.fp f s 0] fr = ob (boxC fr f s) fun c => ob (F_cache_Flush c) fun r => some (Res.val (D.tup []), setBox fr f s [D.own 81 5 (els r.entries), D.t (T.sc (Value.int IntKind.i64 r.hits)), D.t (T.sc (Value.int IntKind.i64 r.misses))]) := by
  rw [cO_toldF (s := cFlushS) rfl]
  show wrapThen _ (Option.map _ (cFlushS [D.fp f s 0] fr)) = _
  unfold cFlushS boxC
  simp only [decC_B]
  cases decB (boxAt fr f s) with
  | none => rfl
  | some c =>
    rw [ob_some]
    unfold F_cache_Flush
    by_cases hl : 0 < c.entries.length ∧ c.entries.length ≤ 64
    · simp only [if_pos hl, ob_some]; rfl
    · simp only [if_neg hl]; rfl
def freeS (fr : Frames) : Option Nat := if fr.length = 0 then none else freeBox (fr.getD (fr.length - 1) [])
@[simp ↓] theorem f_cache_New (n : Int) (fr : Frames) : cO Try.prog lore 21 [D.t (T.sc (Value.int IntKind.i64 n))] fr = if 1 ≤ n ∧ n ≤ 64 then ob (freeS fr) fun s => some (Res.val (D.fp (fr.length - 1) s 0), setBox fr (fr.length - 1) s [D.own 81 5 (els (List.replicate n.toNat zeroE)), D.t (T.sc (Value.int IntKind.i64 0)), D.t (T.sc (Value.int IntKind.i64 0))])
    else some (Res.val (D.t (T.sc (Value.pointer none))), fr) := by
  rw [cO_toldF (s := cNewS) rfl]
  show wrapThen _ (Option.map _ (cNewS [D.t (T.sc (Value.int IntKind.i64 n))] fr)) = _
  unfold cNewS freeS
  by_cases h : 1 ≤ n ∧ n ≤ 64
  · simp only [if_pos h]
    by_cases h0 : fr.length = 0
    · simp only [if_pos h0]; rfl
    · simp only [if_neg h0]
      cases freeBox (fr.getD (fr.length - 1) []) with
      | none => rfl
      | some s => rfl
  · simp only [if_neg h]; rfl
@[simp ↓] theorem f_R10_New (n : Int) (fr : Frames) : cO Try.prog lore 22 [D.t (T.sc (Value.int IntKind.i64 n))] fr = if 1 ≤ n ∧ n ≤ 64 then ob (freeS fr) fun s => some (Res.val (D.fp (fr.length - 1) s 0), setBox fr (fr.length - 1) s [D.own 75 5 (els (List.replicate n.toNat zeroR)), D.t (T.sc (Value.int IntKind.i64 0)), D.t (T.sc (Value.int IntKind.i64 0))])
    else none := by
  rw [cO_toldF (s := rNewS) rfl]
  show wrapThen _ (Option.map _ (rNewS [D.t (T.sc (Value.int IntKind.i64 n))] fr)) = _
  unfold rNewS freeS
  by_cases h : 1 ≤ n ∧ n ≤ 64
  · simp only [if_pos h]
    by_cases h0 : fr.length = 0
    · simp only [if_pos h0]; rfl
    · simp only [if_neg h0]
      cases freeBox (fr.getD (fr.length - 1) []) with
      | none => rfl
      | some s => rfl
  · simp only [if_neg h]; rfl
open Classical in
noncomputable def F_R09_Find (h : GHeap) (c s : Int) : Option (Int × Int × Int) := if Slim h ∧ BitsOk h then some (findP h c s) else none
@[simp ↓] theorem f_R09_Find (x_0 : List GObj) (x_1 x_2 c s : Int) (fr : Frames) : cO Try.prog lore 28 [D.agg [D.t (T.sl 6 (els x_0)), D.t (T.sc (Value.int IntKind.i64 x_1)), D.t (T.sc (Value.int IntKind.i64 x_2))], D.t (T.sc (Value.int IntKind.i64 c)), D.t (T.sc (Value.int IntKind.i64 s))] fr =
    ob (F_R09_Find ⟨x_0, x_1, x_2⟩ c s) fun r => some (Res.val (D.tup [D.t (T.sc (Value.int IntKind.i64 r.1)), D.t (T.sc (Value.int IntKind.i64 r.2.1)), D.t (T.sc (Value.int IntKind.i64 r.2.2))]), fr) := by
  rw [cO_told (s := r9S) rfl]
  unfold F_R09_Find
  by_cases h : Slim ⟨x_0, x_1, x_2⟩
  · by_cases hb : BitsOk ⟨x_0, x_1, x_2⟩
    · rw [if_pos ⟨h, hb⟩]
      simp [h28, r9S, decH_els ⟨x_0, x_1, x_2⟩ h, ob_some, hb]
    · rw [if_neg (fun e => hb e.2)]
      simp [h28, r9S, decH_els ⟨x_0, x_1, x_2⟩ h, hb]
  · rw [if_neg (fun e => h e.1)]
    simp [h28, r9S, decH_fat ⟨x_0, x_1, x_2⟩ h]
attribute [simp] boxC boxAt setBox freeS freeBox
theorem run_at {f : FuncId} {args : List D} {r : Res × Frames} (k : Nat) (h : call Try.prog lore k f args [] = some r) : cO Try.prog lore f args [] = some r := cO_iff.2 ⟨k, h⟩
end Go.Pv

namespace Go.Pv.Bs
open Go Go.Proofs
@[simp] theorem hint12 : loreB.hint 12 = h12 := rfl
@[simp] theorem hint13 : loreB.hint 13 = h13 := rfl
@[simp] theorem hint14 : loreB.hint 14 = h14 := rfl
@[simp] theorem hint15 : loreB.hint 15 = h15 := rfl
@[simp] theorem hint16 : loreB.hint 16 = h16 := rfl
@[simp] theorem hint17 : loreB.hint 17 = h17 := rfl
@[simp] theorem hint18 : loreB.hint 18 = h18 := rfl
@[simp] theorem hint20 : loreB.hint 20 = h20 := rfl
@[simp] theorem hint21 : loreB.hint 21 = h21 := rfl
@[simp] theorem hint22 : loreB.hint 22 = h22 := rfl
@[simp] theorem hint23 : loreB.hint 23 = h23 := rfl
@[simp] theorem hint25 : loreB.hint 25 = h25 := rfl
@[simp] theorem hint27 : loreB.hint 27 = h27 := rfl
@[simp] theorem hint28 : loreB.hint 28 = h28 := rfl
@[simp] theorem hint32 : loreB.hint 32 = h32 := rfl
@[simp] theorem hint33 : loreB.hint 33 = h33 := rfl
@[simp] theorem hint34 : loreB.hint 34 = h34 := rfl
@[simp] theorem hint35 : loreB.hint 35 = h35 := rfl
@[simp] theorem hint36 : loreB.hint 36 = h36 := rfl
@[simp] theorem hint37 : loreB.hint 37 = h37 := rfl
@[simp] theorem hint38 : loreB.hint 38 = h38 := rfl
@[simp] theorem hint39 : loreB.hint 39 = h39 := rfl
@[simp] theorem hint40 : loreB.hint 40 = h40 := rfl
@[simp] theorem hint42 : loreB.hint 42 = h42 := rfl
@[simp] theorem hint43 : loreB.hint 43 = h43 := rfl
@[simp] theorem hint44 : loreB.hint 44 = h44 := rfl
@[simp] theorem hint46 : loreB.hint 46 = h46 := rfl
@[simp] theorem hint47 : loreB.hint 47 = h47 := rfl
@[simp] theorem hint48 : loreB.hint 48 = h48 := rfl
@[simp] theorem hint49 : loreB.hint 49 = h49 := rfl
@[simp] theorem hint50 : loreB.hint 50 = h50 := rfl
@[simp] theorem hint51 : loreB.hint 51 = h51 := rfl
@[simp] theorem hint52 : loreB.hint 52 = h52 := rfl
@[simp] theorem hint53 : loreB.hint 53 = h53 := rfl
@[simp] theorem hint54 : loreB.hint 54 = h54 := rfl
@[simp] theorem hint55 : loreB.hint 55 = h55 := rfl
@[simp] theorem hint56 : loreB.hint 56 = h56 := rfl
@[simp] theorem hint57 : loreB.hint 57 = h57 := rfl
@[simp] theorem hint58 : loreB.hint 58 = h58 := rfl
@[simp] theorem hint59 : loreB.hint 59 = h59 := rfl
@[simp] theorem hint60 : loreB.hint 60 = h60 := rfl
@[simp] theorem hint61 : loreB.hint 61 = h61 := rfl
@[simp] theorem hint62 : loreB.hint 62 = h62 := rfl
@[simp] theorem hint63 : loreB.hint 63 = h63 := rfl
@[simp] theorem hint64 : loreB.hint 64 = h64 := rfl
@[simp] theorem hint67 : loreB.hint 67 = h67 := rfl
@[simp] theorem hint68 : loreB.hint 68 = h68 := rfl
attribute [simp] fr_GObj
@[simp ↓] theorem f_flt_Canon (b : Int) (fr : Frames) : cO Try.prog loreB 60 [.t (.sc (.int .i64 b))] fr = some (.val (I (canonF b)), fr) := by
  rw [cO_told (s := canonS) rfl]
  rfl
theorem run_at {f : FuncId} {args : List D} {r : Res × Frames} (k : Nat) (h : call Try.prog loreB k f args [] = some r) : cO Try.prog loreB f args [] = some r := cO_iff.2 ⟨k, h⟩
end Go.Pv.Bs
