/- The translation's words: what stands at its head. -/
import Derived.Test.YtnleijomgjhplaaRows
import Derived.KernelRfl
import Derived.JoinedCond
set_option linter.unusedVariables false
set_option linter.unusedSimpArgs false
namespace Go.Proofs.Ytnleijomgjhplaa
open Go
set_option maxRecDepth 100000
theorem words_app (r : List Char) : ∀ w : List Char, (∀ c ∈ w, c ≠ ' ') → wordsSigns (w ++ ' ' :: r) = w :: wordsSigns r
  | [], _ => rfl
  | c :: w, h => by
    have ih := words_app r w fun d hd => h d (List.mem_cons_of_mem _ hd)
    have hc : c ≠ ' ' := h c (List.mem_cons_self ..)
    show wordsSigns (c :: (w ++ ' ' :: r)) = _
    rw [wordsSigns]
    · rw [ih]
    · exact fun e => hc e
def w1 : List Char := ['h','a','r','n','e','s','s']
def w2 : List Char := ['6','a','8','f','b','c','0','e','6','a','9','3','4','7','f','0','8','8','2','a','e','3','1','3','4','4','0','f','0','a','9','8','0','0','1','1','4','9','2','9','7','e','4','6','0','5','f','7','4','6','2','6','1','0','c','0','c','9','8','b','f','7','4','4']
def w3 : List Char := ['c','u','t']
def w4 : List Char := ['a','t',' ','a','n','a','m','n','e','s','i','s','/','a','n','a','m','n','e','s','i','s','l','a','w','2','2','.','P','o','i','n','t','s','T','e','l','l',' ','a','n','a','m','n','e','s','i','s','/','a','n','a','m','n','e','s','i','s','l','a','w','2','2','.','P','o','i','n','t','s','K','e','e','p',' ','a','n','a','m','n','e','s','i','s','/','a','n','a','m','n','e','s','i','s','l','a','w','2','2','.','P','o','i','n','t','s','B','e','s','t',' ','a','n','a','m','n','e','s','i','s','/','a','n','a','m','n','e','s','i','s','l','a','w','2','2','.','P','o','i','n','t','s','A','g','a','i','n',' ','a','n','a','m','n','e','s','i','s','/','a','n','a','m','n','e','s','i','s','l','a','w','2','2','.','P','o','i','n','t','s','F','i','r','s','t',' ','a','n','a','m','n','e','s','i','s','/','a','n','a','m','n','e','s','i','s','l','a','w','0','4','.','M','a','r','k','T','e','l','l','s',' ','a','n','a','m','n','e','s','i','s','/','a','n','a','m','n','e','s','i','s','l','a','w','0','4','.','M','a','r','k','C','l','o','s','e','s',' ','a','n','a','m','n','e','s','i','s','/','a','n','a','m','n','e','s','i','s','l','a','w','0','4','.','M','a','r','k','L','e','s','s',' ','a','n','a','m','n','e','s','i','s','/','a','n','a','m','n','e','s','i','s','l','a','w','0','4','.','M','a','r','k','A','l','l',' ','a','n','a','m','n','e','s','i','s','/','a','n','a','m','n','e','s','i','s','l','a','w','0','6','.','C','a','n','o','n','T','e','l','l','s',' ','a','n','a','m','n','e','s','i','s','/','a','n','a','m','n','e','s','i','s','l','a','w','0','6','.','C','a','n','o','n','S','a','m','e',' ','a','n','a','m','n','e','s','i','s','/','a','n','a','m','n','e','s','i','s','l','a','w','0','6','.','C','a','n','o','n','R','e','n','a','m','e','s',' ','a','n','a','m','n','e','s','i','s','/','a','n','a','m','n','e','s','i','s','l','a','w','0','6','.','C','a','n','o','n','L','e','a','s','t',' ','a','n','a','m','n','e','s','i','s','/','a','n','a','m','n','e','s','i','s','l','a','w','0','6','.','C','a','n','o','n','E','q','u','a','l',' ','a','n','a','m','n','e','s','i','s','/','a','n','a','m','n','e','s','i','s','l','a','w','0','6','.','C','a','n','o','n','R','o','o','t','s',' ','a','n','a','m','n','e','s','i','s','/','a','n','a','m','n','e','s','i','s','l','a','w','1','9','.','R','e','c','o','r','d','T','e','l','l','s',' ','a','n','a','m','n','e','s','i','s','/','a','n','a','m','n','e','s','i','s','l','a','w','1','9','.','R','e','c','o','r','d','U','n','d','o','e','s',' ','a','n','a','m','n','e','s','i','s','/','a','n','a','m','n','e','s','i','s','l','a','w','1','9','.','R','e','c','o','r','d','N','o','n','e',' ','a','n','a','m','n','e','s','i','s','/','a','n','a','m','n','e','s','i','s','l','a','w','0','5','.','M','o','v','e','T','e','l','l','s',' ','a','n','a','m','n','e','s','i','s','/','a','n','a','m','n','e','s','i','s','l','a','w','0','5','.','M','o','v','e','W','h','o','l','e',' ','a','n','a','m','n','e','s','i','s','/','a','n','a','m','n','e','s','i','s','l','a','w','0','5','.','M','o','v','e','W','a','y','s',' ','a','n','a','m','n','e','s','i','s','/','a','n','a','m','n','e','s','i','s','l','a','w','0','5','.','M','o','v','e','R','o','o','m',' ','a','n','a','m','n','e','s','i','s','/','a','n','a','m','n','e','s','i','s','l','a','w','0','5','.','M','o','v','e','V','a','l','u','e','s',' ','a','n','a','m','n','e','s','i','s','/','a','n','a','m','n','e','s','i','s','l','a','w','1','5','.','S','h','a','p','e','T','e','l','l','s',' ','a','n','a','m','n','e','s','i','s','/','a','n','a','m','n','e','s','i','s','l','a','w','1','5','.','S','h','a','p','e','S','a','m','e',' ','a','n','a','m','n','e','s','i','s','/','a','n','a','m','n','e','s','i','s','l','a','w','1','5','.','S','h','a','p','e','C','o','l','l','e','c','t','s',' ','a','n','a','m','n','e','s','i','s','/','a','n','a','m','n','e','s','i','s','l','a','w','1','5','.','S','h','a','p','e','R','e','n','a','m','e','s',' ','a','n','a','m','n','e','s','i','s','/','a','n','a','m','n','e','s','i','s','l','a','w','1','5','.','S','h','a','p','e','G','a','r','b','a','g','e']
theorem head : Try.prog.initOrder = String.ofList (w1 ++ ' ' :: (w2 ++ ' ' :: (w3 ++ ' ' :: w4))) := by kernel_rfl
theorem words : wordsSigns Try.prog.initOrder.toList = w1 :: w2 :: w3 :: wordsSigns w4 := by
  rw [head, String.toList_ofList, words_app _ w1 (by decide), words_app _ w2 (by decide), words_app _ w3 (by decide)]
theorem strip_none (w : List Char) (ws : List (List Char)) : ∀ os : List String, (∀ o ∈ os, w ≠ o.toList) → stripLifts os (w :: ws) = ([], w :: ws)
  | [], _ => rfl
  | o :: os, h => by
    rw [stripLifts, if_neg (by simpa using h o (List.mem_cons_self ..))]
    exact strip_none w ws os fun d hd => h d (List.mem_cons_of_mem _ hd)
theorem str_ne {w : List Char} {o : String} (h : String.ofList w ≠ o) : w ≠ o.toList := fun e => h (by rw [e, String.ofList_toList])
theorem cut_is : String.ofList w3 = "cut" := by kernel_rfl
theorem cut_no : ∀ o ∈ liftWords, w3 ≠ o.toList := fun o ho => str_ne (by
  rw [cut_is]
  intro e
  subst e
  revert ho
  simp [liftWords])
theorem cut_eq : "cut".toList = w3 := by rw [← cut_is, String.toList_ofList]
theorem har_eq : "harness".toList = w1 := by rw [show "harness" = String.ofList w1 from by kernel_rfl, String.toList_ofList]
theorem sum_ok : isSumSigns w2 = true := by kernel_rfl
theorem behind (r : List (List Char)) : behindMainWord (w1 :: w2 :: r) = r := by
  unfold behindMainWord
  rw [har_eq]
  show (if ((w1 == w1 || w1 == "ownmain".toList) && isSumSigns w2) = true then r else w1 :: w2 :: r) = r
  rw [beq_self_eq_true, Bool.true_or, sum_ok]
  rfl
theorem gc_no : (w3 == "gc".toList) = false := by
  rw [beq_eq_false_iff_ne]
  exact str_ne (by rw [cut_is]; decide)
theorem spec_no : (w3 == "spec".toList) = false := by
  rw [beq_eq_false_iff_ne]
  exact str_ne (by rw [cut_is]; decide)
theorem car_no : (w3 == "carried".toList) = false := by
  rw [beq_eq_false_iff_ne]
  exact str_ne (by rw [cut_is]; decide)
theorem hlifts : Try.prog.headLifts = [] := by
  unfold Program.headLifts
  rw [words, behind, strip_none w3 _ _ cut_no, cut_eq]
  show (if (some w3 == some w3) = true then ([] : List String) else []) = []
  rw [ite_self]
theorem lifts : Try.prog.liftsFinal = false := by
  unfold Program.liftsFinal
  rw [hlifts, words, behind]
  have h : (some w3 == some "carried".toList) = false := car_no
  show ((some w3 == some "carried".toList && _) || ([] : List String).contains "finals") = false
  rw [h]
  rfl
theorem ifs {α : Type} {a b : Bool} {x y z : α} (ha : a = false) (hb : b = true) : (if a = true then x else if b = true then y else z) = y := by
  subst ha hb
  rfl
theorem make_of {P : Program} {c : List Char} {rest : List (List Char)} (h : behindMainWord (wordsSigns P.initOrder.toList) = c :: rest) (h1 : (c == "gc".toList || c == "spec".toList) = false) (h2 : (c == "cut".toList) = true) : P.make = some .cut := by
  unfold Program.make
  rw [h]
  exact ifs h1 (by rw [h2]; exact Bool.true_or _)
theorem heads : behindMainWord (wordsSigns Try.prog.initOrder.toList) = w3 :: wordsSigns w4 := by rw [words, behind]
theorem cut_beq : (w3 == "cut".toList) = true := by rw [cut_eq, beq_self_eq_true]
theorem gs_no : (w3 == "gc".toList || w3 == "spec".toList) = false := by
  rw [gc_no, spec_no]
  exact Bool.or_false _
theorem makes : Try.prog.make = some .cut := make_of heads gs_no cut_beq
theorem later : Try.prog.laysLater = false := by kernel_rfl
theorem bears : Try.prog.bearsReflect = false := by kernel_rfl
theorem doors : Try.prog.doorRows = [] := by kernel_rfl
theorem doorsFit : Try.prog.doorFits [] = true := by
  unfold Program.doorFits
  rw [doors]
  rfl
theorem or2 {a c : Bool} (h : c = true) : (a || c) = true := by
  subst h
  exact Bool.or_true a
theorem enter_of {P : Program} {c : List Char} {rest : List (List Char)} (h : behindMainWord (wordsSigns P.initOrder.toList) = c :: rest) (hs : stripLifts liftWords (c :: rest) = ([], c :: rest)) (hc : (some c == some "cut".toList) = true)
    (l : P.laysLater = false) (b : P.bearsReflect = false) (d : P.doorFits [] = true) : P.mayEnter = true := by
  unfold Program.mayEnter
  rw [h]
  refine or2 ?_
  rw [hs]
  show ((some c == some "cut".toList) && (([] : List String).contains "finals" || !P.laysLater) && (([] : List String).contains "reflectrows" || !P.bearsReflect) && (([] : List String).contains "reflectrows" || !([] : List String).contains "leanrows") && P.doorFits []) = true
  rw [hc, l, b, d]
  rfl
theorem enters : Try.prog.mayEnter = true := enter_of heads (strip_none w3 _ _ cut_no) cut_beq later bears doorsFit
end Go.Proofs.Ytnleijomgjhplaa
