/- A part of the road: the interpreter of plain data and the proof that it is right. -/
import Derived.Test.YtcomdnpeoicpkaaC
/- How the interpreter goes on, said as rewriting rules over states that are written out. -/
namespace Go.Pv
variable (P : Program) (H : Hint) (C : Callee) (tm : List D) (bx : List (List D)) (fr : Frames) (ver : List (Pl × Nat)) (vg : Nat)

/-! ### without a trace -/
/-- What follows on what was answered. -/
def andThen {α β : Type} (C : Callee) (r : Got α) (f : α → Prog β) : Got β :=
  match r with
  | some (.ok a, σ) => (f a).run C σ
  | some (.error x, σ) => some (.error x, σ)
  | none => none
section
variable {α β : Type}
@[congr] theorem andThen_congr {C : Callee} {r r' : Got α} {f : α → Prog β} (h : r = r') : andThen C r f = andThen C r' f := by rw [h]
theorem at_ok (a : α) (σ : St) (f : α → Prog β) : andThen C (some (.ok a, σ)) f = (f a).run C σ := rfl
theorem at_none (f : α → Prog β) : andThen C none f = none := rfl
theorem at_ite (c : Prop) [Decidable c] (x y : Got α) (f : α → Prog β) : andThen C (if c then x else y) f = if c then andThen C x f else andThen C y f := by split <;> rfl
theorem r_bind (m : Prog α) (f : α → Prog β) (σ : St) : (m >>= f).run C σ = andThen C (m.run C σ) f := by
  show (m.bind f).run C σ = _
  rw [run_bind]; rfl
theorem r_pure (a : α) (σ : St) : (pure a : Prog α).run C σ = some (.ok a, σ) := rfl
theorem r_ret (a : α) (σ : St) : (Prog.ret a).run C σ = some (.ok a, σ) := rfl
theorem r_fail (σ : St) : (Prog.fail : Prog α).run C σ = none := rfl
theorem r_some (a : α) (σ : St) : (ofOpt (some a)).run C σ = some (.ok a, σ) := rfl
theorem r_none (σ : St) : (ofOpt (none : Option α)).run C σ = none := rfl
theorem r_ite (c : Prop) [Decidable c] (x y : Prog α) (σ : St) : (if c then x else y).run C σ = if c then x.run C σ else y.run C σ := by split <;> rfl
theorem r_need (b : Bool) (σ : St) : (need b).run C σ = if b = true then some (.ok (), σ) else none := by cases b <;> rfl
theorem r_opt_ite (c : Prop) [Decidable c] (x y : Option α) (σ : St) : (ofOpt (if c then x else y)).run C σ = if c then (ofOpt x).run C σ else (ofOpt y).run C σ := by split <;> rfl
end
theorem r_gT (t) : (gT t).run C ⟨tm, bx, fr, ver, vg⟩ = some (.ok (tm.getD t .dead), ⟨tm, bx, fr, ver, vg⟩) := rfl
theorem r_pT (t d) : (pT t d).run C ⟨tm, bx, fr, ver, vg⟩ = if t < tm.length then some (.ok (), ⟨tm.set t d, bx, fr, ver, vg⟩) else none := by
  show (if _ then _ else _) = _; split <;> rfl
theorem r_gB (t) : (gB t).run C ⟨tm, bx, fr, ver, vg⟩ = some (.ok (bx.getD t []), ⟨tm, bx, fr, ver, vg⟩) := rfl
theorem r_pB (t d) : (pB t d).run C ⟨tm, bx, fr, ver, vg⟩ = if t < bx.length then some (.ok (), ⟨tm, bx.set t d, fr, ver, vg⟩) else none := by
  show (if _ then _ else _) = _; split <;> rfl
theorem r_gF (f s) : (gF f s).run C ⟨tm, bx, fr, ver, vg⟩ = some (.ok ((fr.getD f []).getD s []), ⟨tm, bx, fr, ver, vg⟩) := rfl
theorem r_pF (f s c) : (pF f s c).run C ⟨tm, bx, fr, ver, vg⟩ = some (.ok (), ⟨tm, bx, fr.set f ((fr.getD f []).set s c), ver, vg⟩) := rfl
theorem r_gV (q) : (gV q).run C ⟨tm, bx, fr, ver, vg⟩ = some (.ok (verOf ver q + if q.boxed then vg else 0), ⟨tm, bx, fr, ver, vg⟩) := rfl
theorem r_bump (q) : (bumpq q).run C ⟨tm, bx, fr, ver, vg⟩ = some (.ok (), ⟨tm, bx, fr, (q, verOf ver q + 1) :: ver, vg⟩) := rfl
/-- What a call's answer comes to. -/
def callThen (σ : St) (r : Option (Res × Frames)) : Got D := r.bind fun r => match r.1 with | .val d => some (.ok d, σ) | .pan x => some (.error x, σ)
theorem r_call (g as) (σ : St) : (Prog.call g as .ret).run C σ = callThen σ (C g as []) := by
  simp only [Prog.run, callThen]
  rcases C g as [] with _ | ⟨r, _⟩
  · rfl
  · cases r <;> rfl
theorem ct_val (σ : St) (d fr') : callThen σ (some (.val d, fr')) = some (.ok d, σ) := rfl
theorem ct_ite (σ : St) (c : Prop) [Decidable c] (x y) : callThen σ (if c then x else y) = if c then callThen σ x else callThen σ y := by split <;> rfl
def callFThen (tm : List D) (ver : List (Pl × Nat)) (vg n : Nat) (r : Option (Res × Frames)) : Got D :=
  r.bind fun r => match r.1 with
    | .val d => some (.ok (unlift n d), ⟨tm, (unliftF n r.2).getLastD [], (unliftF n r.2).dropLast, ver, vg + 1⟩)
    | .pan x => some (.error x, ⟨tm, (unliftF n r.2).getLastD [], (unliftF n r.2).dropLast, ver, vg + 1⟩)
theorem ct_none (σ : St) : callThen σ none = none := rfl
theorem r_callF (g as) : (Prog.callF g as .ret).run C ⟨tm, bx, fr, ver, vg⟩ = callFThen tm ver vg fr.length (C g (liftL fr.length as) (liftF fr.length (fr ++ [bx]))) := by
  simp only [Prog.run, callFThen]
  rcases C g (liftL fr.length as) (liftF fr.length (fr ++ [bx])) with _ | ⟨r, _⟩
  · rfl
  · cases r <;> rfl
theorem cf_val (n) (d fr') : callFThen tm ver vg n (some (.val d, fr')) = some (.ok (unlift n d), ⟨tm, (unliftF n fr').getLastD [], (unliftF n fr').dropLast, ver, vg + 1⟩) := rfl
theorem cf_ite (n) (c : Prop) [Decidable c] (x y) : callFThen tm ver vg n (if c then x else y) = if c then callFThen tm ver vg n x else callFThen tm ver vg n y := by split <;> rfl

theorem cf_none (n) : callFThen tm ver vg n none = none := rfl
/-! ### with a trace -/
def Tr.app (a b : Tr) : Tr := ⟨a.rd ++ b.rd, a.wr ++ b.wr⟩
abbrev GotT (α : Type) := Option (α × St × Tr)
def andThenT {α β : Type} (C : Callee) (r : GotT α) (f : α → Prog β) : GotT β :=
  match r with
  | some (a, σ, tr) => ((f a).runT C σ).map fun r => (r.1, r.2.1, tr.app r.2.2)
  | none => none
def addT {β : Type} (tr : Tr) (r : GotT β) : GotT β := r.map fun r => (r.1, r.2.1, tr.app r.2.2)
section
variable {α β : Type}
theorem Tr.app_nil (t : Tr) : Tr.app ⟨[], []⟩ t = t := by cases t; rfl
theorem Tr.app_assoc (a b c : Tr) : (a.app b).app c = a.app (b.app c) := by simp [Tr.app]
theorem Tr.r_app (l : Loc) (a b : Tr) : (a.app b).r l = (a.r l).app b := rfl
theorem Tr.w_app (l : Loc) (a b : Tr) : (a.app b).w l = (a.w l).app b := rfl
theorem runT_bind (C : Callee) (m : Prog α) (f : α → Prog β) : ∀ σ, (m.bind f).runT C σ = andThenT C (m.runT C σ) f := by
  have key : ∀ (g : Tr → Tr) (hg : ∀ a b, g (a.app b) = (g a).app b) (r : GotT α), (andThenT C r f).map (fun r => (r.1, r.2.1, g r.2.2)) = andThenT C (r.map fun r => (r.1, r.2.1, g r.2.2)) f := by
    intro g hg r
    cases r with
    | none => rfl
    | some x =>
      obtain ⟨a, σ1, tr⟩ := x
      simp only [andThenT, Option.map_map, Option.map_some]
      congr 1
      funext y
      simp [hg]
  induction m with
  | ret a =>
    intro σ
    show (f a).runT C σ = ((f a).runT C σ).map _
    rcases (f a).runT C σ with _ | ⟨b, σ1, tr⟩
    · rfl
    · rfl
  | fail => intro σ; rfl
  | panic x => intro σ; rfl
  | getT t k ih => intro σ; simp only [Prog.bind, Prog.runT, ih]; exact key (fun tr => tr.r (.tm t)) (fun _ _ => rfl) _
  | getB t k ih => intro σ; simp only [Prog.bind, Prog.runT, ih]; exact key (fun tr => tr.r (.bx t)) (fun _ _ => rfl) _
  | getF f' t k ih => intro σ; simp only [Prog.bind, Prog.runT, ih]; exact key (fun tr => tr.r .fb) (fun _ _ => rfl) _
  | getV q k ih => intro σ; simp only [Prog.bind, Prog.runT, ih]; exact key (fun tr => tr.r q.loc) (fun _ _ => rfl) _
  | putT t d k ih =>
    intro σ; simp only [Prog.bind, Prog.runT]; split
    · simp only [ih]; exact key (fun tr => (tr.r (.tm t)).w (.tm t)) (fun _ _ => rfl) _
    · rfl
  | putB t d k ih =>
    intro σ; simp only [Prog.bind, Prog.runT]; split
    · simp only [ih]; exact key (fun tr => (tr.r (.bx t)).w (.bx t)) (fun _ _ => rfl) _
    · rfl
  | putF f' t d k ih => intro σ; simp only [Prog.bind, Prog.runT, ih]; exact key (fun tr => (tr.r .fb).w .fb) (fun _ _ => rfl) _
  | bump q k ih => intro σ; simp only [Prog.bind, Prog.runT, ih]; exact key (fun tr => (tr.r q.loc).w q.loc) (fun _ _ => rfl) _
  | call g xs k ih =>
    intro σ; simp only [Prog.bind, Prog.runT]; rcases C g xs [] with _ | ⟨r, fr⟩
    · rfl
    · simp only [Option.bind_some]
      cases r with
      | val d => exact ih d σ
      | pan x => rfl
  | callF g xs k ih =>
    intro σ; simp only [Prog.bind, Prog.runT]; rcases C g _ _ with _ | ⟨r, fr⟩
    · rfl
    · simp only [Option.bind_some]
      cases r with
      | val d => simp only [ih]; exact key (fun tr => (tr.r .mem).w .mem) (fun _ _ => rfl) _
      | pan x => rfl
@[congr] theorem andThenT_congr {C : Callee} {r r' : GotT α} {f : α → Prog β} (h : r = r') : andThenT C r f = andThenT C r' f := by rw [h]
theorem tat_ok (a : α) (σ : St) (tr) (f : α → Prog β) : andThenT C (some (a, σ, tr)) f = addT tr ((f a).runT C σ) := rfl
theorem tat_none (f : α → Prog β) : andThenT C none f = none := rfl
theorem tat_ite (c : Prop) [Decidable c] (x y : GotT α) (f : α → Prog β) : andThenT C (if c then x else y) f = if c then andThenT C x f else andThenT C y f := by split <;> rfl
theorem add_some (tr tr' : Tr) (a : α) (σ : St) : addT tr (some (a, σ, tr')) = some (a, σ, tr.app tr') := rfl
theorem add_none (tr : Tr) : addT tr (none : GotT α) = none := rfl
theorem add_ite (tr : Tr) (c : Prop) [Decidable c] (x y : GotT α) : addT tr (if c then x else y) = if c then addT tr x else addT tr y := by split <;> rfl
theorem t_bind (m : Prog α) (f : α → Prog β) (σ : St) : (m >>= f).runT C σ = andThenT C (m.runT C σ) f := runT_bind C m f σ
theorem t_pure (a : α) (σ : St) : (pure a : Prog α).runT C σ = some (a, σ, ⟨[], []⟩) := rfl
theorem t_ret (a : α) (σ : St) : (Prog.ret a).runT C σ = some (a, σ, ⟨[], []⟩) := rfl
theorem t_fail (σ : St) : (Prog.fail : Prog α).runT C σ = none := rfl
theorem t_some (a : α) (σ : St) : (ofOpt (some a)).runT C σ = some (a, σ, ⟨[], []⟩) := rfl
theorem t_none (σ : St) : (ofOpt (none : Option α)).runT C σ = none := rfl
theorem t_ite (c : Prop) [Decidable c] (x y : Prog α) (σ : St) : (if c then x else y).runT C σ = if c then x.runT C σ else y.runT C σ := by split <;> rfl
theorem t_need (b : Bool) (σ : St) : (need b).runT C σ = if b = true then some ((), σ, ⟨[], []⟩) else none := by cases b <;> rfl
theorem t_opt_ite (c : Prop) [Decidable c] (x y : Option α) (σ : St) : (ofOpt (if c then x else y)).runT C σ = if c then (ofOpt x).runT C σ else (ofOpt y).runT C σ := by split <;> rfl
end
theorem t_gT (t) : (gT t).runT C ⟨tm, bx, fr, ver, vg⟩ = some (tm.getD t .dead, ⟨tm, bx, fr, ver, vg⟩, ⟨[.tm t], []⟩) := rfl
theorem t_pT (t d) : (pT t d).runT C ⟨tm, bx, fr, ver, vg⟩ = if t < tm.length then some ((), ⟨tm.set t d, bx, fr, ver, vg⟩, ⟨[.tm t], [.tm t]⟩) else none := by
  show (if _ then _ else _) = _; split <;> rfl
theorem t_gB (t) : (gB t).runT C ⟨tm, bx, fr, ver, vg⟩ = some (bx.getD t [], ⟨tm, bx, fr, ver, vg⟩, ⟨[.bx t], []⟩) := rfl
theorem t_pB (t d) : (pB t d).runT C ⟨tm, bx, fr, ver, vg⟩ = if t < bx.length then some ((), ⟨tm, bx.set t d, fr, ver, vg⟩, ⟨[.bx t], [.bx t]⟩) else none := by
  show (if _ then _ else _) = _; split <;> rfl
theorem t_gF (f s) : (gF f s).runT C ⟨tm, bx, fr, ver, vg⟩ = some ((fr.getD f []).getD s [], ⟨tm, bx, fr, ver, vg⟩, ⟨[.fb], []⟩) := rfl
theorem t_pF (f s c) : (pF f s c).runT C ⟨tm, bx, fr, ver, vg⟩ = some ((), ⟨tm, bx, fr.set f ((fr.getD f []).set s c), ver, vg⟩, ⟨[.fb], [.fb]⟩) := rfl
theorem t_gV (q) : (gV q).runT C ⟨tm, bx, fr, ver, vg⟩ = some (verOf ver q + (if q.boxed then vg else 0), ⟨tm, bx, fr, ver, vg⟩, ⟨[q.loc], []⟩) := rfl
theorem t_bump (q) : (bumpq q).runT C ⟨tm, bx, fr, ver, vg⟩ = some ((), ⟨tm, bx, fr, (q, verOf ver q + 1) :: ver, vg⟩, ⟨[q.loc], [q.loc]⟩) := rfl
def callThenT (σ : St) (r : Option (Res × Frames)) : GotT D := r.bind fun r => match r.1 with | .val d => some (d, σ, ⟨[], []⟩) | .pan _ => none
theorem t_call (g as) (σ : St) : (Prog.call g as .ret).runT C σ = callThenT σ (C g as []) := by
  simp only [Prog.runT, callThenT]
  rcases C g as [] with _ | ⟨r, _⟩
  · rfl
  · cases r <;> rfl
theorem tct_val (σ : St) (d fr') : callThenT σ (some (.val d, fr')) = some (d, σ, ⟨[], []⟩) := rfl
theorem tct_ite (σ : St) (c : Prop) [Decidable c] (x y) : callThenT σ (if c then x else y) = if c then callThenT σ x else callThenT σ y := by split <;> rfl
def callFThenT (tm : List D) (ver : List (Pl × Nat)) (vg n : Nat) (r : Option (Res × Frames)) : GotT D :=
  r.bind fun r => match r.1 with
    | .val d => some (unlift n d, ⟨tm, (unliftF n r.2).getLastD [], (unliftF n r.2).dropLast, ver, vg + 1⟩, ⟨[.mem], [.mem]⟩)
    | .pan _ => none
theorem t_callF (g as) : (Prog.callF g as .ret).runT C ⟨tm, bx, fr, ver, vg⟩ = callFThenT tm ver vg fr.length (C g (liftL fr.length as) (liftF fr.length (fr ++ [bx]))) := by
  simp only [Prog.runT, callFThenT]
  rcases C g (liftL fr.length as) (liftF fr.length (fr ++ [bx])) with _ | ⟨r, _⟩
  · rfl
  · cases r <;> rfl
theorem tcf_val (n) (d fr') : callFThenT tm ver vg n (some (.val d, fr')) = some (unlift n d, ⟨tm, (unliftF n fr').getLastD [], (unliftF n fr').dropLast, ver, vg + 1⟩, ⟨[.mem], [.mem]⟩) := rfl
theorem tcf_ite (n) (c : Prop) [Decidable c] (x y) : callFThenT tm ver vg n (if c then x else y) = if c then callFThenT tm ver vg n x else callFThenT tm ver vg n y := by split <;> rfl

theorem tct_none (σ : St) : callThenT σ none = none := rfl
theorem tcf_none (n) : callFThenT tm ver vg n none = none := rfl
/-! ### operations, one behind the other -/
def opsThen (r : Got Unit) (k : St → Option (Out × St)) : Option (Out × St) := match r with | some (.ok _, σ) => k σ | _ => none
@[congr] theorem opsThen_congr {r r' : Got Unit} {k : St → Option (Out × St)} (h : r = r') : opsThen r k = opsThen r' k := by rw [h]
theorem ot_ok (u) (σ : St) (k) : opsThen (some (.ok u, σ)) k = k σ := rfl
theorem ot_none (k) : opsThen none k = none := rfl
theorem ot_ite (c : Prop) [Decidable c] (x y k) : opsThen (if c then x else y) k = if c then opsThen x k else opsThen y k := by split <;> rfl
theorem o_nil (ops : Array Oper) (σ : St) : runOps P H C ops [] σ = some (.normal, σ) := rfl
theorem o_cons (ops : Array Oper) (o rest) (σ : St) : runOps P H C ops (o :: rest) σ = opsThen ((gStep P H ops o).run C σ) (runOps P H C ops rest) := rfl
def trThen (r : GotT Unit) (k : St → Option (List Tr × St)) : Option (List Tr × St) := match r with | some (_, σ, tr) => (k σ).map fun r => (tr :: r.1, r.2) | none => none
def consT (tr : Tr) (r : Option (List Tr × St)) : Option (List Tr × St) := r.map fun r => (tr :: r.1, r.2)
@[congr] theorem trThen_congr {r r' : GotT Unit} {k : St → Option (List Tr × St)} (h : r = r') : trThen r k = trThen r' k := by rw [h]
theorem tt_ok (u) (σ : St) (tr) (k) : trThen (some (u, σ, tr)) k = consT tr (k σ) := rfl
theorem tt_none (k) : trThen none k = none := rfl
theorem tt_ite (c : Prop) [Decidable c] (x y k) : trThen (if c then x else y) k = if c then trThen x k else trThen y k := by split <;> rfl
theorem ctr_some (tr : Tr) (trs) (σ : St) : consT tr (some (trs, σ)) = some (tr :: trs, σ) := rfl
theorem ctr_none (tr : Tr) : consT tr none = none := rfl
theorem ctr_ite (tr : Tr) (c : Prop) [Decidable c] (x y) : consT tr (if c then x else y) = if c then consT tr x else consT tr y := by split <;> rfl
theorem tr_nil (ops : Array Oper) (σ : St) : runTr P H C ops [] σ = some ([], σ) := rfl
theorem tr_cons (ops : Array Oper) (o rest) (σ : St) : runTr P H C ops (o :: rest) σ = trThen ((gStep P H ops o).runT C σ) (runTr P H C ops rest) := by
  simp only [runTr, trThen]; rcases (gStep P H ops o).runT C σ with _ | ⟨u, σ1, tr⟩ <;> rfl

/-! ### code -/
def overThen (H : Hint) (r : Option (Out × St)) : Option (Out × St) := r.map fun r => (r.1, r.2.over.seam H)
theorem ov_some (o) : overThen H (some (o, ⟨tm, bx, fr, ver, vg⟩)) = some (o, ⟨seamT H.row (scrubL tm), seamB H.row bx, fr, [], 0⟩) := rfl
theorem ov_none : overThen H none = none := rfl
theorem ov_ite (c : Prop) [Decidable c] (x y) : overThen H (if c then x else y) = if c then overThen H x else overThen H y := by split <;> rfl
theorem c_region (i : Nat) (ops : Array Oper) (σ : St) : eO P H C (.region i ops false) σ = overThen H (runOps P H C ops ops.toList σ) := eO_region i ops σ
theorem dr_none (ops : Array Oper) : drawThen H ops none = none := rfl
theorem dr_ite (ops : Array Oper) (c : Prop) [Decidable c] (x y) : drawThen H ops (if c then x else y) = if c then drawThen H ops x else drawThen H ops y := by split <;> rfl
@[congr] theorem seqThen_congr {r r' : Option (Out × St)} {k : St → Option (Out × St)} (h : r = r') : seqThen r k = seqThen r' k := by rw [h]
theorem sq_normal (σ : St) (k) : seqThen (some (.normal, σ)) k = k σ := rfl
theorem sq_ret (σ : St) (k) : seqThen (some (.ret, σ)) k = some (.ret, σ) := rfl
theorem sq_exit (i) (σ : St) (k) : seqThen (some (.exit i, σ)) k = some (.exit i, σ) := rfl
theorem sq_none (k) : seqThen none k = none := rfl
theorem sq_ite (c : Prop) [Decidable c] (x y k) : seqThen (if c then x else y) k = if c then seqThen x k else seqThen y k := by split <;> rfl
@[congr] theorem condThen_congr {r r' : Option (Except T D × St)} {a b : St → Option (Out × St)} (h : r = r') : condThen r a b = condThen r' a b := by rw [h]
theorem cd_ok (v : Bool) (σ : St) (a b) : condThen (some (.ok (.t (.sc (.bool v))), σ)) a b = if v = true then a σ else b σ := rfl
theorem cd_ite (c : Prop) [Decidable c] (x y a b) : condThen (if c then x else y) a b = if c then condThen x a b else condThen y a b := by split <;> rfl
theorem bk_normal (i) (σ : St) : blockThen i (some (.normal, σ)) = some (.normal, σ) := rfl
theorem bk_ret (i) (σ : St) : blockThen i (some (.ret, σ)) = some (.ret, σ) := rfl
theorem bk_exit (i j) (σ : St) : blockThen i (some (.exit j, σ)) = if j = i then some (.normal, σ) else some (.exit j, σ) := rfl
theorem bk_none (i) : blockThen i none = none := rfl
theorem bk_ite (i) (c : Prop) [Decidable c] (x y) : blockThen i (if c then x else y) = if c then blockThen i x else blockThen i y := by split <;> rfl

/-! ### the head of a loop -/
def normL (keep : List Nat) : Nat → List D → List D
  | _, [] => []
  | i, d :: l => (if keep.contains i then trim keep d else .dead) :: normL keep (i + 1) l
def normB (keep : List Nat) : Nat → List (List D) → List (List D)
  | _, [] => []
  | i, c :: l => (if keep.contains i then trimL keep c else []) :: normB keep (i + 1) l
theorem normL_eq (keep : List Nat) (l : List D) : ∀ i, (l.mapIdx fun j d => if keep.contains (i + j) then trim keep d else .dead) = normL keep i l := by
  induction l with
  | nil => intro i; rfl
  | cons d l ih =>
    intro i
    rw [List.mapIdx_cons, normL, ← ih (i + 1)]
    simp only [Nat.add_zero]
    congr 2
    funext j d
    rw [show i + (j + 1) = i + 1 + j by omega]
theorem normB_eq (keep : List Nat) (l : List (List D)) : ∀ i, (l.mapIdx fun j c => if keep.contains (i + j) then trimL keep c else []) = normB keep i l := by
  induction l with
  | nil => intro i; rfl
  | cons d l ih =>
    intro i
    rw [List.mapIdx_cons, normB, ← ih (i + 1)]
    simp only [Nat.add_zero]
    congr 2
    funext j d
    rw [show i + (j + 1) = i + 1 + j by omega]
theorem n_norm (keep : List Nat) : norm keep ⟨tm, bx, fr, ver, vg⟩ = ⟨normL keep 0 tm, normB keep 0 bx, fr.map fun b => b.map (trimL keep), ver, vg⟩ := by
  simp only [norm, ← normL_eq, ← normB_eq, Nat.zero_add]

/-! ### a function's end -/
theorem en_ite (shr : List Nat) (rs : List ResultVar) (c : Prop) [Decidable c] (x y) : endThen P shr rs (if c then x else y) = if c then endThen P shr rs x else endThen P shr rs y := by split <;> rfl
@[congr] theorem wrapThen_congr {ms : List (List Mode)} {r r' : Option (Res × Frames)} (h : r = r') : wrapThen ms r = wrapThen ms r' := by rw [h]
theorem wt_some (ms : List (List Mode)) (d : D) : wrapThen ms (some (.val d, fr)) = some (.val (seamR ms d), fr) := rfl
theorem wt_none (ms : List (List Mode)) : wrapThen ms none = none := rfl
theorem wt_ite (ms : List (List Mode)) (c : Prop) [Decidable c] (x y) : wrapThen ms (if c then x else y) = if c then wrapThen ms x else wrapThen ms y := by split <;> rfl
/-! ### a round of a loop -/
@[congr] theorem roundOf_congr {k k' o o' : List Nat} {r r' : Option (Out × St)} (h1 : k = k') (h2 : o = o') (h : r = r') : roundOf k o r = roundOf k' o' r' := by rw [h1, h2, h]
theorem ro_normal (k o : List Nat) (σ : St) : roundOf k o (some (.normal, σ)) = some (.normal, norm k σ) := rfl
theorem ro_exit (k o : List Nat) (i : Nat) (σ : St) : roundOf k o (some (.exit i, σ)) = some (.exit i, norm o σ) := rfl
theorem ro_ret (k o : List Nat) (σ : St) : roundOf k o (some (.ret, σ)) = some (.ret, norm o σ) := rfl
theorem ro_none (k o : List Nat) : roundOf k o none = none := rfl
theorem ro_ite (k o : List Nat) (c : Prop) [Decidable c] (x y) : roundOf k o (if c then x else y) = if c then roundOf k o x else roundOf k o y := by split <;> rfl
/-! ### what plain functions answer: `ob` goes on with an answer, `sm` by which of two it is -/
def ob {α β : Type} (x : Option α) (f : α → Option β) : Option β := x.bind f
def sm {α β γ : Type} (b : α ⊕ β) (f : α → γ) (g : β → γ) : γ := match b with | .inl a => f a | .inr b => g b
section
variable {α β γ δ : Type}
theorem ob_some (a : α) (f : α → Option β) : ob (some a) f = f a := rfl
theorem ob_none (f : α → Option β) : ob none f = none := rfl
theorem ob_ite (c : Prop) [Decidable c] (x y : Option α) (f : α → Option β) : ob (if c then x else y) f = if c then ob x f else ob y f := by split <;> rfl
theorem ob_ob (x : Option α) (f : α → Option β) (g : β → Option γ) : ob (ob x f) g = ob x fun a => ob (f a) g := by cases x <;> rfl
theorem ob_eq (x : Option α) (f : α → Option β) : ob x f = x.bind f := rfl
theorem ob_sm (b : α ⊕ β) (f : α → Option γ) (g : β → Option γ) (k : γ → Option δ) : ob (sm b f g) k = sm b (fun a => ob (f a) k) (fun a => ob (g a) k) := by cases b <;> rfl
theorem sm_inl (a : α) (f : α → γ) (g : β → γ) : sm (.inl a) f g = f a := rfl
theorem sm_inr (a : β) (f : α → γ) (g : β → γ) : sm (.inr a) f g = g a := rfl
theorem at_ob (f : α → Prog γ) (x : Option β) (g : β → Got α) : andThen C (ob x g) f = ob x fun a => andThen C (g a) f := by cases x <;> rfl
theorem at_sm (f : α → Prog γ) (x : β ⊕ δ) (g : β → Got α) (h : δ → Got α) : andThen C (sm x g h) f = sm x (fun a => andThen C (g a) f) (fun a => andThen C (h a) f) := by cases x <;> rfl
theorem ct_ob (σ : St) (x : Option β) (g : β → Option (Res × Frames)) : callThen σ (ob x g)  = ob x fun a => callThen σ (g a)  := by cases x <;> rfl
theorem ct_sm (σ : St) (x : β ⊕ δ) (g : β → Option (Res × Frames)) (h : δ → Option (Res × Frames)) : callThen σ (sm x g h)  = sm x (fun a => callThen σ (g a) ) (fun a => callThen σ (h a) ) := by cases x <;> rfl
theorem cf_ob (n : Nat) (x : Option β) (g : β → Option (Res × Frames)) : callFThen tm ver vg n (ob x g)  = ob x fun a => callFThen tm ver vg n (g a)  := by cases x <;> rfl
theorem cf_sm (n : Nat) (x : β ⊕ δ) (g : β → Option (Res × Frames)) (h : δ → Option (Res × Frames)) : callFThen tm ver vg n (sm x g h)  = sm x (fun a => callFThen tm ver vg n (g a) ) (fun a => callFThen tm ver vg n (h a) ) := by cases x <;> rfl
theorem tat_ob (f : α → Prog γ) (x : Option β) (g : β → GotT α) : andThenT C (ob x g) f = ob x fun a => andThenT C (g a) f := by cases x <;> rfl
theorem tat_sm (f : α → Prog γ) (x : β ⊕ δ) (g : β → GotT α) (h : δ → GotT α) : andThenT C (sm x g h) f = sm x (fun a => andThenT C (g a) f) (fun a => andThenT C (h a) f) := by cases x <;> rfl
theorem add_ob (tr : Tr) (x : Option β) (g : β → GotT α) : addT tr (ob x g)  = ob x fun a => addT tr (g a)  := by cases x <;> rfl
theorem add_sm (tr : Tr) (x : β ⊕ δ) (g : β → GotT α) (h : δ → GotT α) : addT tr (sm x g h)  = sm x (fun a => addT tr (g a) ) (fun a => addT tr (h a) ) := by cases x <;> rfl
theorem tct_ob (σ : St) (x : Option β) (g : β → Option (Res × Frames)) : callThenT σ (ob x g)  = ob x fun a => callThenT σ (g a)  := by cases x <;> rfl
theorem tct_sm (σ : St) (x : β ⊕ δ) (g : β → Option (Res × Frames)) (h : δ → Option (Res × Frames)) : callThenT σ (sm x g h)  = sm x (fun a => callThenT σ (g a) ) (fun a => callThenT σ (h a) ) := by cases x <;> rfl
theorem tcf_ob (n : Nat) (x : Option β) (g : β → Option (Res × Frames)) : callFThenT tm ver vg n (ob x g)  = ob x fun a => callFThenT tm ver vg n (g a)  := by cases x <;> rfl
theorem tcf_sm (n : Nat) (x : β ⊕ δ) (g : β → Option (Res × Frames)) (h : δ → Option (Res × Frames)) : callFThenT tm ver vg n (sm x g h)  = sm x (fun a => callFThenT tm ver vg n (g a) ) (fun a => callFThenT tm ver vg n (h a) ) := by cases x <;> rfl
theorem ot_ob (k : St → Option (Out × St)) (x : Option β) (g : β → Got Unit) : opsThen (ob x g) k = ob x fun a => opsThen (g a) k := by cases x <;> rfl
theorem ot_sm (k : St → Option (Out × St)) (x : β ⊕ δ) (g : β → Got Unit) (h : δ → Got Unit) : opsThen (sm x g h) k = sm x (fun a => opsThen (g a) k) (fun a => opsThen (h a) k) := by cases x <;> rfl
theorem tt_ob (k : St → Option (List Tr × St)) (x : Option β) (g : β → GotT Unit) : trThen (ob x g) k = ob x fun a => trThen (g a) k := by cases x <;> rfl
theorem tt_sm (k : St → Option (List Tr × St)) (x : β ⊕ δ) (g : β → GotT Unit) (h : δ → GotT Unit) : trThen (sm x g h) k = sm x (fun a => trThen (g a) k) (fun a => trThen (h a) k) := by cases x <;> rfl
theorem ctr_ob (tr : Tr) (x : Option β) (g : β → Option (List Tr × St)) : consT tr (ob x g)  = ob x fun a => consT tr (g a)  := by cases x <;> rfl
theorem ctr_sm (tr : Tr) (x : β ⊕ δ) (g : β → Option (List Tr × St)) (h : δ → Option (List Tr × St)) : consT tr (sm x g h)  = sm x (fun a => consT tr (g a) ) (fun a => consT tr (h a) ) := by cases x <;> rfl
theorem ov_ob  (x : Option β) (g : β → Option (Out × St)) : overThen H (ob x g)  = ob x fun a => overThen H (g a)  := by cases x <;> rfl
theorem ov_sm  (x : β ⊕ δ) (g : β → Option (Out × St)) (h : δ → Option (Out × St)) : overThen H (sm x g h)  = sm x (fun a => overThen H (g a) ) (fun a => overThen H (h a) ) := by cases x <;> rfl
theorem dr_ob (ops : Array Oper) (x : Option β) (g : β → Option (List Tr × St)) : drawThen H ops (ob x g)  = ob x fun a => drawThen H ops (g a)  := by cases x <;> rfl
theorem dr_sm (ops : Array Oper) (x : β ⊕ δ) (g : β → Option (List Tr × St)) (h : δ → Option (List Tr × St)) : drawThen H ops (sm x g h)  = sm x (fun a => drawThen H ops (g a) ) (fun a => drawThen H ops (h a) ) := by cases x <;> rfl
theorem sq_ob (k : St → Option (Out × St)) (x : Option β) (g : β → Option (Out × St)) : seqThen (ob x g) k = ob x fun a => seqThen (g a) k := by cases x <;> rfl
theorem sq_sm (k : St → Option (Out × St)) (x : β ⊕ δ) (g : β → Option (Out × St)) (h : δ → Option (Out × St)) : seqThen (sm x g h) k = sm x (fun a => seqThen (g a) k) (fun a => seqThen (h a) k) := by cases x <;> rfl
theorem cd_ob (p q : St → Option (Out × St)) (x : Option β) (g : β → Option (Except T D × St)) : condThen (ob x g) p q = ob x fun a => condThen (g a) p q := by cases x <;> rfl
theorem cd_sm (p q : St → Option (Out × St)) (x : β ⊕ δ) (g : β → Option (Except T D × St)) (h : δ → Option (Except T D × St)) : condThen (sm x g h) p q = sm x (fun a => condThen (g a) p q) (fun a => condThen (h a) p q) := by cases x <;> rfl
theorem bk_ob (i : Nat) (x : Option β) (g : β → Option (Out × St)) : blockThen i (ob x g)  = ob x fun a => blockThen i (g a)  := by cases x <;> rfl
theorem bk_sm (i : Nat) (x : β ⊕ δ) (g : β → Option (Out × St)) (h : δ → Option (Out × St)) : blockThen i (sm x g h)  = sm x (fun a => blockThen i (g a) ) (fun a => blockThen i (h a) ) := by cases x <;> rfl
theorem en_ob (shr : List Nat) (rs : List ResultVar) (x : Option β) (g : β → Option (Out × St)) : endThen P shr rs (ob x g)  = ob x fun a => endThen P shr rs (g a)  := by cases x <;> rfl
theorem en_sm (shr : List Nat) (rs : List ResultVar) (x : β ⊕ δ) (g : β → Option (Out × St)) (h : δ → Option (Out × St)) : endThen P shr rs (sm x g h)  = sm x (fun a => endThen P shr rs (g a) ) (fun a => endThen P shr rs (h a) ) := by cases x <;> rfl
theorem wt_ob (ms : List (List Mode)) (x : Option β) (g : β → Option (Res × Frames)) : wrapThen ms (ob x g)  = ob x fun a => wrapThen ms (g a)  := by cases x <;> rfl
theorem wt_sm (ms : List (List Mode)) (x : β ⊕ δ) (g : β → Option (Res × Frames)) (h : δ → Option (Res × Frames)) : wrapThen ms (sm x g h)  = sm x (fun a => wrapThen ms (g a) ) (fun a => wrapThen ms (h a) ) := by cases x <;> rfl
theorem ro_ob (k o : List Nat) (x : Option β) (g : β → Option (Out × St)) : roundOf k o (ob x g)  = ob x fun a => roundOf k o (g a)  := by cases x <;> rfl
theorem ro_sm (k o : List Nat) (x : β ⊕ δ) (g : β → Option (Out × St)) (h : δ → Option (Out × St)) : roundOf k o (sm x g h)  = sm x (fun a => roundOf k o (g a) ) (fun a => roundOf k o (h a) ) := by cases x <;> rfl
end
end Go.Pv

/- Rules: the operations; lists that are written out. -/
namespace Go.Pv
section
variable (P : Program) (H : Hint)
/-- An element's address, of a slice that is data. -/
def ixSl (P : Program) (H : Hint) (D0 : Option Tmp) (e : TypeId) (sz : Nat) (els : List (List T)) (i : Int) : Prog Unit := do
  need (sz == szOf P e && decide (0 ≤ i) && decide (i < els.length))
  put H D0 (.t (.pt (els.getD i.toNat [])))
theorem p_move (x : Operand) (D0 : Option Tmp) (T0 : TypeId) (P0 : String) (A0 : Array Edge) (G0 : Option (Nat × Bool)) : pStep P H ⟨D0, .move x, T0, P0, A0, G0⟩ =
    (do put H D0 (← take H x)) := rfl
theorem p_assign (x : Operand) (D0 : Option Tmp) (T0 : TypeId) (P0 : String) (A0 : Array Edge) (G0 : Option (Nat × Bool)) : pStep P H ⟨D0, .assign x, T0, P0, A0, G0⟩ =
    (do put H D0 (← take H x)) := rfl
theorem p_pick (c a b : Operand) (D0 : Option Tmp) (T0 : TypeId) (P0 : String) (A0 : Array Edge) (G0 : Option (Nat × Bool)) : pStep P H ⟨D0, .pick c a b, T0, P0, A0, G0⟩ =
    (do
    let c ← rd c
    let c ← ofOpt c.bool?
    put H D0 (← take H (if c then a else b))) := rfl
theorem p_alloc (e : TypeId) (D0 : Option Tmp) (T0 : TypeId) (P0 : String) (A0 : Array Edge) (G0 : Option (Nat × Bool)) : pStep P H ⟨D0, .alloc e, T0, P0, A0, G0⟩ =
    (do
    let t ← ofOpt D0
    let c ← gB t
    need (c.isEmpty && zOk P e)
    pB t ((zeroOf P e).map fun v => .t (.sc v))
    pT t (.lp t 0)) := rfl
theorem p_box (e : TypeId) (x : Operand) (D0 : Option Tmp) (T0 : TypeId) (P0 : String) (A0 : Array Edge) (G0 : Option (Nat × Bool)) : pStep P H ⟨D0, .box e x, T0, P0, A0, G0⟩ =
    (do
    let t ← ofOpt D0
    let d ← take H x
    need (d.cells.length == szOf P e && d.cells.all D.live && zOk P e)
    let ds ← resolveL (H.own.contains t) d.cells
    let c ← gB t
    need c.isEmpty
    bumpL (fun j => .bx t j) 0 ds
    pB t ds
    pT t (.lp t 0)) := rfl
theorem p_build (ty : TypeId) (parts : Array (Nat × Operand)) (D0 : Option Tmp) (T0 : TypeId) (P0 : String) (A0 : Array Edge) (G0 : Option (Nat × Bool)) : pStep P H ⟨D0, .build ty parts, T0, P0, A0, G0⟩ =
    (do
    need (zOk P ty && buildOk P ty)
    let z := (zeroOf P ty).map fun v => D.t (.sc v)
    let place : Nat → Option (Nat × Nat) := fun i =>
      match arrOf P ty with
      | some (_, e) => some (i * szOf P e, szOf P e)
      | none => do
        let off ← offOf P ty i
        let (n, _) ← fszOf P ty i
        some (off, n)
    let cs ← fillD H place z parts.toList
    put H D0 (.agg cs)) := rfl
theorem p_buildSlice (ty : TypeId) (len : Nat) (parts : Array (Nat × Operand)) (D0 : Option Tmp) (T0 : TypeId) (P0 : String) (A0 : Array Edge) (G0 : Option (Nat × Bool)) : pStep P H ⟨D0, .buildSlice ty len parts, T0, P0, A0, G0⟩ =
    (do
    let e ← ofOpt (elOf P ty)
    need (decide (len * szOf P e ≤ 2 ^ 24))
    let els ← fillE H (szOf P e) (List.replicate len ((zeroOf P e).map .sc)) parts.toList
    put H D0 (.own e (szOf P e) (canonR (kinds P 8 e) els))) := rfl
theorem p_load (ty : TypeId) (x : Operand) (D0 : Option Tmp) (T0 : TypeId) (P0 : String) (A0 : Array Edge) (G0 : Option (Nat × Bool)) : pStep P H ⟨D0, .load ty x, T0, P0, A0, G0⟩ =
    (do
    need (zOk P ty)
    let a ← rd x
    let ds ← loadC a (szOf P ty)
    if aggT P ty then put H D0 (.agg ds)
    else match ds with
      | [d] => put H D0 d
      | _ => .fail) := rfl
theorem p_store (ty : TypeId) (x v : Operand) (D0 : Option Tmp) (T0 : TypeId) (P0 : String) (A0 : Array Edge) (G0 : Option (Nat × Bool)) : pStep P H ⟨D0, .store ty x v, T0, P0, A0, G0⟩ =
    (do
    need (zOk P ty && D0.isNone)
    let a ← rd x
    let d ← take H v
    need (d.cells.length == szOf P ty && d.cells.all D.live)
    storeC H a d.cells) := rfl
theorem p_nilCheck (x : Operand) (D0 : Option Tmp) (T0 : TypeId) (P0 : String) (A0 : Array Edge) (G0 : Option (Nat × Bool)) : pStep P H ⟨D0, .nilCheck x, T0, P0, A0, G0⟩ =
    (do
    let d ← rd x
    match d with
    | .t (.pt _) | .lp _ _ | .fp _ _ _ | .ept _ _ _ _ _ | .clo _ _ => put H D0 d
    | d => do
      need (fnOf d).isSome
      put H D0 d) := rfl
theorem p_binOp (op : BinOp) (ty : TypeId) (x y : Operand) (yt : TypeId) (D0 : Option Tmp) (T0 : TypeId) (P0 : String) (A0 : Array Edge) (G0 : Option (Nat × Bool)) : pStep P H ⟨D0, .binOp op ty x y yt, T0, P0, A0, G0⟩ =
    (do
    let a ← rd x
    let b ← rd y
    let v ← ofOpt (binD P op ty a b)
    put H D0 (.t (.sc v))) := rfl
theorem p_unOp (op : UnOp) (ut : TypeId) (x : Operand) (D0 : Option Tmp) (T0 : TypeId) (P0 : String) (A0 : Array Edge) (G0 : Option (Nat × Bool)) : pStep P H ⟨D0, .unOp op ut x, T0, P0, A0, G0⟩ =
    (do
    let a ← rd x
    let v ← ofOpt (unD op a)
    put H D0 (.t (.sc v))) := rfl
theorem p_convert (src dst : TypeId) (x : Operand) (D0 : Option Tmp) (T0 : TypeId) (P0 : String) (A0 : Array Edge) (G0 : Option (Nat × Bool)) : pStep P H ⟨D0, .convert src dst x, T0, P0, A0, G0⟩ =
    (do
    let a ← rdS x
    convD P H D0 src dst a) := rfl
theorem p_makeSlice (ty : TypeId) (l c : Operand) (D0 : Option Tmp) (T0 : TypeId) (P0 : String) (A0 : Array Edge) (G0 : Option (Nat × Bool)) : pStep P H ⟨D0, .makeSlice ty l c, T0, P0, A0, G0⟩ =
    (do
    let e ← ofOpt (elOf P ty)
    let l ← ofOpt (← rd l).int?
    let c ← ofOpt (← rd c).int?
    need (l == c && decide (0 ≤ l) && decide (l.toNat * bytesOf P e ≤ most))
    put H D0 (.own e (szOf P e) (canonR (kinds P 8 e) (List.replicate l.toNat ((zeroOf P e).map .sc))))) := rfl
theorem p_makeMap (ty : TypeId) (r : Option Operand) (D0 : Option Tmp) (T0 : TypeId) (P0 : String) (A0 : Array Edge) (G0 : Option (Nat × Bool)) : pStep P H ⟨D0, .makeMap ty r, T0, P0, A0, G0⟩ =
    (do
    need (r.isNone && isIntMap P ty)
    put H D0 (.omap [])) := rfl
theorem p_lookup (ty : TypeId) (x i : Operand) (ok : Bool) (D0 : Option Tmp) (T0 : TypeId) (P0 : String) (A0 : Array Edge) (G0 : Option (Nat × Bool)) : pStep P H ⟨D0, .lookup ty x i ok, T0, P0, A0, G0⟩ =
    (do
    need (isIntMap P ty)
    match ← rd x, ← rd i with
    | .mal q k, .t (.sc (.int .i64 n)) => do
      let kvs ← mapAt q k
      if ok then put H D0 (.tup [I (kvGet n kvs).1, Bo (kvGet n kvs).2]) else put H D0 (I (kvGet n kvs).1)
    | _, _ => .fail) := rfl
theorem p_mapUpdate (ty : TypeId) (x i v : Operand) (D0 : Option Tmp) (T0 : TypeId) (P0 : String) (A0 : Array Edge) (G0 : Option (Nat × Bool)) : pStep P H ⟨D0, .mapUpdate ty x i v, T0, P0, A0, G0⟩ =
    (do
    need (isIntMap P ty && D0.isNone)
    match ← rd x, ← rd i, ← rd v with
    | .mal q k, .t (.sc (.int .i64 n)), .t (.sc (.int .i64 v)) => do
      let kvs ← mapAt q k
      putPl q (.omap (kvPut n v kvs))
    | _, _, _ => .fail) := rfl
theorem p_slice (ty : TypeId) (x : Operand) (lo hi mx : Option Operand) (D0 : Option Tmp) (T0 : TypeId) (P0 : String) (A0 : Array Edge) (G0 : Option (Nat × Bool)) : pStep P H ⟨D0, .slice ty x lo hi mx, T0, P0, A0, G0⟩ =
    (do
    need mx.isNone
    let d ← rdS x
    let lo ← optInt lo
    let hi ← optInt hi
    let r ← ofOpt (sliceD P ty d lo hi)
    put H D0 r) := rfl
theorem p_fieldAddr (ty : TypeId) (x : Operand) (f : Nat) (D0 : Option Tmp) (T0 : TypeId) (P0 : String) (A0 : Array Edge) (G0 : Option (Nat × Bool)) : pStep P H ⟨D0, .fieldAddr ty x f, T0, P0, A0, G0⟩ =
    (do
    let a ← rd x
    let off ← ofOpt (offOf P ty f)
    let (n, _) ← ofOpt (fszOf P ty f)
    need (decide (0 < n))
    let r ← ofOpt (shift a off)
    put H D0 r) := rfl
theorem p_field (ty : TypeId) (x : Operand) (f : Nat) (D0 : Option Tmp) (T0 : TypeId) (P0 : String) (A0 : Array Edge) (G0 : Option (Nat × Bool)) : pStep P H ⟨D0, .field ty x f, T0, P0, A0, G0⟩ =
    (do
    let d ← rd x
    let off ← ofOpt (offOf P ty f)
    let (n, ag) ← ofOpt (fszOf P ty f)
    match d with
    | .agg ds => do
      need (decide (off + n ≤ ds.length) && !hasOwnL ds)
      if ag then put H D0 (.agg ((ds.drop off).take n))
      else put H D0 (ds.getD off .dead)
    | _ => .fail) := rfl
theorem p_indexAddr (ty : TypeId) (x i : Operand) (D0 : Option Tmp) (T0 : TypeId) (P0 : String) (A0 : Array Edge) (G0 : Option (Nat × Bool)) : pStep P H ⟨D0, .indexAddr ty x i, T0, P0, A0, G0⟩ =
    (do
    let i ← ofOpt (← rd i).int?
    match arrOf P ty with
    | some (n, e) => do
      need (decide (0 ≤ i) && decide (i < n))
      let a ← rd x
      let r ← ofOpt (shift a (i.toNat * szOf P e))
      put H D0 r
    | none => do
      let e ← ofOpt (elOf P ty)
      match ← rdS x with
      | .t (.sl sz els) => do
        ixSl P H D0 e sz els i
      | .als q k sz lo n => do
        let (_, sz', _) ← rowAt q k
        need (sz == szOf P e && sz == sz' && decide (0 ≤ i) && decide (i < n))
        put H D0 (.ept q k sz (lo + i.toNat) 0)
      | _ => .fail) := rfl
theorem p_index (ty : TypeId) (x i : Operand) (D0 : Option Tmp) (T0 : TypeId) (P0 : String) (A0 : Array Edge) (G0 : Option (Nat × Bool)) : pStep P H ⟨D0, .index ty x i, T0, P0, A0, G0⟩ =
    (do
    let i ← ofOpt (← rd i).int?
    match ← rd x with
    | .t (.sc (.string s)) => do
      need (isStr P ty && decide (0 ≤ i) && decide (i < s.size))
      put H D0 (.t (.sc (.int .u8 (s.data.getD i.toNat 0).toNat)))
    | .agg ds => do
      let (n, e) ← ofOpt (arrOf P ty)
      need (decide (0 ≤ i) && decide (i < n) && decide (n * szOf P e ≤ ds.length) && !hasOwnL ds)
      if aggT P e then put H D0 (.agg ((ds.drop (i.toNat * szOf P e)).take (szOf P e)))
      else put H D0 (ds.getD (i.toNat * szOf P e) .dead)
    | _ => .fail) := rfl
theorem p_extract (x : Operand) (i : Nat) (D0 : Option Tmp) (T0 : TypeId) (P0 : String) (A0 : Array Edge) (G0 : Option (Nat × Bool)) : pStep P H ⟨D0, .extract x i, T0, P0, A0, G0⟩ =
    (match x with
    | .tmp t => do
      match ← gT t with
      | .tup ds => do
        let d ← ofOpt ds[i]?
        if d.hasOwn then do
          pT t (.tup (ds.set i .dead))
          put H D0 d
        else put H D0 d
      | _ => .fail
    | _ => .fail) := rfl
theorem p_makeFunc (g : FuncId) (first captured : Array Operand) (D0 : Option Tmp) (T0 : TypeId) (P0 : String) (A0 : Array Edge) (G0 : Option (Nat × Bool)) : pStep P H ⟨D0, .makeFunc (.func g) first captured, T0, P0, A0, G0⟩ =
    (do
      need first.isEmpty
      if captured.isEmpty then put H D0 (.t (.sc (.func (.func g) #[] #[])))
      else do
        let ds ← rds captured.toList
        need (ds.all D.ptr)
        put H D0 (.clo g ds)) := rfl
def lenThen (P : Program) (H : Hint) (D0 : Option Tmp) (t : TypeId) : D → Prog Unit
  | .t (.sc (.string s)) => do
    need (isStr P t)
    put H D0 (I s.size)
  | d => do
    need (isSliceT P t)
    let n ← ofOpt (lenD d)
    put H D0 (I n)
theorem p_len (x : Operand) (t : TypeId) (D0 : Option Tmp) (T0 : TypeId) (P0 : String) (A0 : Array Edge) (G0 : Option (Nat × Bool)) : pStep P H ⟨D0, .call ⟨.builtin .len, #[x], #[t]⟩, T0, P0, A0, G0⟩ =
    (do
      let d ← rd x
      lenThen P H D0 t d) := rfl
theorem len_str (s : ByteArray) (D0 t) : lenThen P H D0 t (.t (.sc (.string s))) = (do need (isStr P t); put H D0 (I s.size)) := rfl
theorem len_sl (sz els D0 t) : lenThen P H D0 t (.t (.sl sz els)) = (do need (isSliceT P t); put H D0 (I els.length)) := rfl
theorem len_nil (D0 t) : lenThen P H D0 t (.t (.sc (.slice none 0 0))) = (do need (isSliceT P t); put H D0 (I 0)) := rfl
theorem len_als (q v sz a n D0 t) : lenThen P H D0 t (.als q v sz a n) = (do need (isSliceT P t); put H D0 (I n)) := rfl
theorem len_own (e sz els D0 t) : lenThen P H D0 t (.own e sz els) = (do need (isSliceT P t); put H D0 (I els.length)) := rfl
theorem p_copy (x y : Operand) (t t' : TypeId) (D0 : Option Tmp) (T0 : TypeId) (P0 : String) (A0 : Array Edge) (G0 : Option (Nat × Bool)) : pStep P H ⟨D0, .call ⟨.builtin .copy, #[x, y], #[t, t']⟩, T0, P0, A0, G0⟩ =
    (do
      let e ← ofOpt (elOf P t)
      let dy ← rdS y
      let dx ← rdS x
      let b ← lend dy
      let els2 ← ofOpt b.els
      need (els2.all fun c => c.length == szOf P e)
      copyD P H D0 e els2 dx) := rfl
theorem p_append (x y : Operand) (t t' : TypeId) (D0 : Option Tmp) (T0 : TypeId) (P0 : String) (A0 : Array Edge) (G0 : Option (Nat × Bool)) : pStep P H ⟨D0, .call ⟨.builtin .append, #[x, y], #[t, t']⟩, T0, P0, A0, G0⟩ =
    (do
      need (t == t')
      appendD P H D0 t x y) := rfl
def minThen (H : Hint) (D0 : Option Tmp) : D → D → Prog Unit
  | .t (.sc (.int .i64 a)), .t (.sc (.int .i64 b)) => put H D0 (I (min a b))
  | _, _ => .fail
def maxThen (H : Hint) (D0 : Option Tmp) : D → D → Prog Unit
  | .t (.sc (.int .i64 a)), .t (.sc (.int .i64 b)) => put H D0 (I (max a b))
  | _, _ => .fail
theorem p_min (x y : Operand) (ts : Array TypeId) (D0 : Option Tmp) (T0 : TypeId) (P0 : String) (A0 : Array Edge) (G0 : Option (Nat × Bool)) : pStep P H ⟨D0, .call ⟨.builtin .min, #[x, y], ts⟩, T0, P0, A0, G0⟩ =
    (do
      let a ← rd x
      let b ← rd y
      minThen H D0 a b) := rfl
theorem p_max (x y : Operand) (ts : Array TypeId) (D0 : Option Tmp) (T0 : TypeId) (P0 : String) (A0 : Array Edge) (G0 : Option (Nat × Bool)) : pStep P H ⟨D0, .call ⟨.builtin .max, #[x, y], ts⟩, T0, P0, A0, G0⟩ =
    (do
      let a ← rd x
      let b ← rd y
      maxThen H D0 a b) := rfl
def min3Then (H : Hint) (D0 : Option Tmp) : D → D → D → Prog Unit
  | .t (.sc (.int .i64 a)), .t (.sc (.int .i64 b)), .t (.sc (.int .i64 c)) => put H D0 (I (min (min a b) c))
  | _, _, _ => .fail
def max3Then (H : Hint) (D0 : Option Tmp) : D → D → D → Prog Unit
  | .t (.sc (.int .i64 a)), .t (.sc (.int .i64 b)), .t (.sc (.int .i64 c)) => put H D0 (I (max (max a b) c))
  | _, _, _ => .fail
theorem p_min3 (x y z : Operand) (ts : Array TypeId) (D0 : Option Tmp) (T0 : TypeId) (P0 : String) (A0 : Array Edge) (G0 : Option (Nat × Bool)) : pStep P H ⟨D0, .call ⟨.builtin .min, #[x, y, z], ts⟩, T0, P0, A0, G0⟩ =
    (do
      let a ← rd x
      let b ← rd y
      let c ← rd z
      min3Then H D0 a b c) := rfl
theorem p_max3 (x y z : Operand) (ts : Array TypeId) (D0 : Option Tmp) (T0 : TypeId) (P0 : String) (A0 : Array Edge) (G0 : Option (Nat × Bool)) : pStep P H ⟨D0, .call ⟨.builtin .max, #[x, y, z], ts⟩, T0, P0, A0, G0⟩ =
    (do
      let a ← rd x
      let b ← rd y
      let c ← rd z
      max3Then H D0 a b c) := rfl
theorem min_iii (D0 a b c) : min3Then H D0 (.t (.sc (.int .i64 a))) (.t (.sc (.int .i64 b))) (.t (.sc (.int .i64 c))) = put H D0 (I (min (min a b) c)) := rfl
theorem max_iii (D0 a b c) : max3Then H D0 (.t (.sc (.int .i64 a))) (.t (.sc (.int .i64 b))) (.t (.sc (.int .i64 c))) = put H D0 (I (max (max a b) c)) := rfl
def capThen (P : Program) (H : Hint) (D0 : Option Tmp) (t : TypeId) : D → Prog Unit
  | .t (.sc (.slice none 0 0)) => do
    need (isSliceT P t)
    put H D0 (I 0)
  | _ => .fail
theorem p_cap (x : Operand) (t : TypeId) (D0 : Option Tmp) (T0 : TypeId) (P0 : String) (A0 : Array Edge) (G0 : Option (Nat × Bool)) : pStep P H ⟨D0, .call ⟨.builtin .cap, #[x], #[t]⟩, T0, P0, A0, G0⟩ =
    (do
      let d ← rd x
      capThen P H D0 t d) := rfl
theorem cap_nil (D0 t) : capThen P H D0 t (.t (.sc (.slice none 0 0))) = (do need (isSliceT P t); put H D0 (I 0)) := rfl
theorem min_ii (D0 a b) : minThen H D0 (.t (.sc (.int .i64 a))) (.t (.sc (.int .i64 b))) = put H D0 (I (min a b)) := rfl
theorem max_ii (D0 a b) : maxThen H D0 (.t (.sc (.int .i64 a))) (.t (.sc (.int .i64 b))) = put H D0 (I (max a b)) := rfl
theorem p_callf (g : FuncId) (args : Array Operand) (ts : Array TypeId) (D0 : Option Tmp) (T0 : TypeId) (P0 : String) (A0 : Array Edge) (G0 : Option (Nat × Bool)) : pStep P H ⟨D0, .call ⟨.value (.func g), args, ts⟩, T0, P0, A0, G0⟩ =
    (do
      need (callOk P g)
      callD H D0 g [] args.toList) := rfl
def calThen (P : Program) (H : Hint) (D0 : Option Tmp) (args : Array Operand) : D → Prog Unit
  | .clo g caps => do
    need (callOk P g)
    callD H D0 g caps args.toList
  | d => do
    let g ← ofOpt (fnOf d)
    need (callOk P g)
    callD H D0 g [] args.toList
theorem p_callt (t : Tmp) (args : Array Operand) (ts : Array TypeId) (D0 : Option Tmp) (T0 : TypeId) (P0 : String) (A0 : Array Edge) (G0 : Option (Nat × Bool)) : pStep P H ⟨D0, .call ⟨.value (.tmp t), args, ts⟩, T0, P0, A0, G0⟩ =
    (do
      let d ← gT t
      calThen P H D0 args d) := rfl
theorem cal_clo (D0 args g caps) : calThen P H D0 args (.clo g caps) = (do need (callOk P g); callD H D0 g caps args.toList) := rfl
theorem cal_fn (D0 args g) : calThen P H D0 args (.t (.sc (.func (.func g) #[] #[]))) = (do need (callOk P g); callD H D0 g [] args.toList) := rfl
theorem cv_i (D0 src dst) (k : IntKind) (n : Int) : convD P H D0 src dst (.t (.sc (.int k n))) = (do let k ← ofOpt (intOfT P dst); need (intOfT P src).isSome; put H D0 (.t (.sc (.int k (k.wrap n))))) := rfl
theorem cv_s (D0 src dst) (s : ByteArray) : convD P H D0 src dst (.t (.sc (.string s))) = (do need (isStr P src && isStr P dst); put H D0 (.t (.sc (.string s)))) := rfl
theorem cv_sl (D0 src dst sz els) : convD P H D0 src dst (.t (.sl sz els)) = (do need (isStr P dst && isBytes P src); let bs ← ofOpt (bytesT els); put H D0 (.t (.sc (.string ⟨bs.toArray⟩)))) := rfl
theorem cv_nil (D0 src dst) : convD P H D0 src dst (.t (.sc (.slice none 0 0))) = (do need (isStr P dst && isBytes P src); let bs ← ofOpt (bytesT []); put H D0 (.t (.sc (.string ⟨bs.toArray⟩)))) := rfl
theorem cv_als (D0 src dst q v sz lo n) : convD P H D0 src dst (.als q v sz lo n) = (do need (isStr P dst && isBytes P src); let b ← lend (.als q v sz lo n); let els ← ofOpt b.els; let bs ← ofOpt (bytesT els); put H D0 (.t (.sc (.string ⟨bs.toArray⟩)))) := rfl
/-! ### guards -/
theorem g_none (ops : Array Oper) (d op ty p a) : gStep P H ops ⟨d, op, ty, p, a, none⟩ = pStep P H ⟨d, op, ty, p, a, none⟩ := rfl
def elseT (d : Option Tmp) : Prog Unit :=
  match d with
  | some d => pT d (.tup [])
  | none => .ret ()
def gdThen (t : Option Tmp) (want : Bool) (d : Option Tmp) (m : Prog Unit) : Prog Unit :=
  match t with
  | some t => do
    let b ← ofOpt ((← gT t).want? want)
    if b then m else elseT d
  | none => .fail
theorem gdThen_congr {t t' : Option Tmp} {want : Bool} {d : Option Tmp} {m : Prog Unit} (h : t = t') : gdThen t want d m = gdThen t' want d m := by rw [h]
theorem g_some (ops : Array Oper) (d op ty p a j want) : gStep P H ops ⟨d, op, ty, p, a, some (j, want)⟩ = gdThen ((ops[j]?).bind (·.dst)) want d (pStep P H ⟨d, op, ty, p, a, some (j, want)⟩) := by
  simp only [gStep, gdThen]
  cases (ops[j]?).bind (·.dst) <;> rfl
theorem el_some (d : Tmp) : elseT (some d) = pT d (.tup []) := rfl
theorem el_none : elseT none = .ret () := rfl
end
/-! ### lists that are written out -/
section
variable {α : Type} (a0 a1 a2 a3 a4 a5 a6 a7 : α) (l : List α) (x d : α) (n : Nat)
theorem gd0 : (a0 :: l).getD 0 d = a0 := rfl
theorem gd1 : (a0 :: a1 :: l).getD 1 d = a1 := rfl
theorem gd2 : (a0 :: a1 :: a2 :: l).getD 2 d = a2 := rfl
theorem gd3 : (a0 :: a1 :: a2 :: a3 :: l).getD 3 d = a3 := rfl
theorem gd4 : (a0 :: a1 :: a2 :: a3 :: a4 :: l).getD 4 d = a4 := rfl
theorem gd5 : (a0 :: a1 :: a2 :: a3 :: a4 :: a5 :: l).getD 5 d = a5 := rfl
theorem gd6 : (a0 :: a1 :: a2 :: a3 :: a4 :: a5 :: a6 :: l).getD 6 d = a6 := rfl
theorem gd7 : (a0 :: a1 :: a2 :: a3 :: a4 :: a5 :: a6 :: a7 :: l).getD 7 d = a7 := rfl
theorem gd8 : (a0 :: a1 :: a2 :: a3 :: a4 :: a5 :: a6 :: a7 :: l).getD (n + 8) d = l.getD n d := rfl
theorem st0 : (a0 :: l).set 0 x = x :: l := rfl
theorem st1 : (a0 :: a1 :: l).set 1 x = a0 :: x :: l := rfl
theorem st2 : (a0 :: a1 :: a2 :: l).set 2 x = a0 :: a1 :: x :: l := rfl
theorem st3 : (a0 :: a1 :: a2 :: a3 :: l).set 3 x = a0 :: a1 :: a2 :: x :: l := rfl
theorem st4 : (a0 :: a1 :: a2 :: a3 :: a4 :: l).set 4 x = a0 :: a1 :: a2 :: a3 :: x :: l := rfl
theorem st5 : (a0 :: a1 :: a2 :: a3 :: a4 :: a5 :: l).set 5 x = a0 :: a1 :: a2 :: a3 :: a4 :: x :: l := rfl
theorem st6 : (a0 :: a1 :: a2 :: a3 :: a4 :: a5 :: a6 :: l).set 6 x = a0 :: a1 :: a2 :: a3 :: a4 :: a5 :: x :: l := rfl
theorem st7 : (a0 :: a1 :: a2 :: a3 :: a4 :: a5 :: a6 :: a7 :: l).set 7 x = a0 :: a1 :: a2 :: a3 :: a4 :: a5 :: a6 :: x :: l := rfl
theorem st8 : (a0 :: a1 :: a2 :: a3 :: a4 :: a5 :: a6 :: a7 :: l).set (n + 8) x = a0 :: a1 :: a2 :: a3 :: a4 :: a5 :: a6 :: a7 :: l.set n x := rfl
theorem lt0 : (0 < (a0 :: l).length) = True := by simp
theorem lt1 : (1 < (a0 :: a1 :: l).length) = True := by simp
theorem lt2 : (2 < (a0 :: a1 :: a2 :: l).length) = True := by simp
theorem lt3 : (3 < (a0 :: a1 :: a2 :: a3 :: l).length) = True := by simp
theorem lt4 : (4 < (a0 :: a1 :: a2 :: a3 :: a4 :: l).length) = True := by simp
theorem lt5 : (5 < (a0 :: a1 :: a2 :: a3 :: a4 :: a5 :: l).length) = True := by simp
theorem lt6 : (6 < (a0 :: a1 :: a2 :: a3 :: a4 :: a5 :: a6 :: l).length) = True := by simp
theorem lt7 : (7 < (a0 :: a1 :: a2 :: a3 :: a4 :: a5 :: a6 :: a7 :: l).length) = True := by simp
theorem lt8 : (n + 8 < (a0 :: a1 :: a2 :: a3 :: a4 :: a5 :: a6 :: a7 :: l).length) = (n < l.length) := by simp
end
/-! ### reading, putting -/
section
variable (H : Hint) (C : Callee) (tm : List D) (bx : List (List D)) (fr : Frames) (ver : List (Pl × Nat)) (vg : Nat)
def rdO (tm : List D) : Operand → D
  | .tmp t => tm.getD t .dead
  | .const v => ofConst v
  | .func f => .t (.sc (.func (.func f) #[] #[]))
  | .global _ => .dead
theorem rd_t (t) : (rd (.tmp t)).run C ⟨tm, bx, fr, ver, vg⟩ = some (.ok (tm.getD t .dead), ⟨tm, bx, fr, ver, vg⟩) := rfl
theorem rd_i (k n) (σ : St) : (rd (.const (.int k n))).run C σ = some (.ok (.t (.sc (.int k n))), σ) := rfl
theorem rd_b (b) (σ : St) : (rd (.const (.bool b))).run C σ = some (.ok (.t (.sc (.bool b))), σ) := rfl
theorem rd_s (s) (σ : St) : (rd (.const (.string s))).run C σ = some (.ok (.t (.sc (.string s))), σ) := rfl
theorem rd_n (σ : St) : (rd (.const (.slice none 0 0))).run C σ = some (.ok (.t (.sc (.slice none 0 0))), σ) := rfl
theorem rd_p (σ : St) : (rd (.const (.pointer none))).run C σ = some (.ok (.t (.sc (.pointer none))), σ) := rfl
theorem rd_f (f) (σ : St) : (rd (.func f)).run C σ = some (.ok (.t (.sc (.func (.func f) #[] #[]))), σ) := rfl
/-- What is taken from a slot. -/
def takeD (H : Hint) (t : Tmp) (d : D) (σ : St) : Got D :=
  match d with
  | .own e sz els => if H.var.contains t then some (.ok (.als (.tm t) (verOf σ.ver (.tm t)) sz 0 els.length), σ) else if t < σ.tm.length then some (.ok (.own e sz els), { σ with tm := σ.tm.set t .dead }) else none
  | .omap kvs => if H.var.contains t then some (.ok (.mal (.tm t) (verOf σ.ver (.tm t))), σ) else if t < σ.tm.length then some (.ok (.omap kvs), { σ with tm := σ.tm.set t .dead }) else none
  | .agg ds => if hasOwnL ds then (if H.var.contains t then none else if t < σ.tm.length then some (.ok (.agg ds), { σ with tm := σ.tm.set t .dead }) else none) else some (.ok (.agg ds), σ)
  | .tup ds => if hasOwnL ds then (if H.var.contains t then none else if t < σ.tm.length then some (.ok (.tup ds), { σ with tm := σ.tm.set t .dead }) else none) else some (.ok (.tup ds), σ)
  | d => some (.ok d, σ)
theorem tk_t (t) (σ : St) : (take H (.tmp t)).run C σ = takeD H t (σ.tm.getD t .dead) σ := by
  simp only [take, r_bind, show (gT t).run C σ = some (.ok (σ.tm.getD t .dead), σ) from rfl, at_ok]
  have e : σ.verAt (.tm t) = verOf σ.ver (.tm t) := by simp [St.verAt, Pl.boxed]
  have hv : (gV (.tm t)).run C σ = some (.ok (verOf σ.ver (.tm t)), σ) := by rw [← e]; rfl
  have hp : ∀ d, (pT t d).run C σ = if t < σ.tm.length then some (.ok (), { σ with tm := σ.tm.set t d }) else none := fun d => by show (if _ then _ else _) = _; split <;> rfl
  generalize σ.tm.getD t .dead = d
  cases d with
  | own e sz els => simp only [D.hasOwn, takeD, if_true, r_ite, r_bind, hv, at_ok, r_pure, hp, at_ite, at_none]
  | omap kvs => simp only [D.hasOwn, takeD, if_true, r_ite, r_bind, hv, at_ok, r_pure, hp, at_ite, at_none]
  | agg ds =>
    simp only [D.hasOwn, takeD, r_ite, r_bind, hv, at_ok, r_pure, hp, at_ite, at_none, r_fail]
  | tup ds =>
    simp only [D.hasOwn, takeD, r_ite, r_bind, hv, at_ok, r_pure, hp, at_ite, at_none, r_fail]
  | _ => simp [D.hasOwn, takeD, r_pure]
theorem td_t (t x) (σ : St) : takeD H t (.t x) σ = some (.ok (.t x), σ) := rfl
theorem td_lp (t s o) (σ : St) : takeD H t (.lp s o) σ = some (.ok (.lp s o), σ) := rfl
theorem td_fp (t f s o) (σ : St) : takeD H t (.fp f s o) σ = some (.ok (.fp f s o), σ) := rfl
theorem td_clo (t f ds) (σ : St) : takeD H t (.clo f ds) σ = some (.ok (.clo f ds), σ) := rfl
theorem td_als (t q v sz a n) (σ : St) : takeD H t (.als q v sz a n) σ = some (.ok (.als q v sz a n), σ) := rfl
theorem td_mal (t q v) (σ : St) : takeD H t (.mal q v) σ = some (.ok (.mal q v), σ) := rfl
theorem td_ept (t q v sz i o) (σ : St) : takeD H t (.ept q v sz i o) σ = some (.ok (.ept q v sz i o), σ) := rfl
theorem td_own (t e sz els) : takeD H t (.own e sz els) ⟨tm, bx, fr, ver, vg⟩ = if H.var.contains t then some (.ok (.als (.tm t) (verOf ver (.tm t)) sz 0 els.length), ⟨tm, bx, fr, ver, vg⟩) else if t < tm.length then some (.ok (.own e sz els), ⟨tm.set t .dead, bx, fr, ver, vg⟩) else none := rfl
theorem td_omap (t kvs) : takeD H t (.omap kvs) ⟨tm, bx, fr, ver, vg⟩ = if H.var.contains t then some (.ok (.mal (.tm t) (verOf ver (.tm t))), ⟨tm, bx, fr, ver, vg⟩) else if t < tm.length then some (.ok (.omap kvs), ⟨tm.set t .dead, bx, fr, ver, vg⟩) else none := rfl
theorem td_agg (t ds) : takeD H t (.agg ds) ⟨tm, bx, fr, ver, vg⟩ = if hasOwnL ds then (if H.var.contains t then none else if t < tm.length then some (.ok (.agg ds), ⟨tm.set t .dead, bx, fr, ver, vg⟩) else none) else some (.ok (.agg ds), ⟨tm, bx, fr, ver, vg⟩) := rfl
theorem td_tup (t ds) : takeD H t (.tup ds) ⟨tm, bx, fr, ver, vg⟩ = if hasOwnL ds then (if H.var.contains t then none else if t < tm.length then some (.ok (.tup ds), ⟨tm.set t .dead, bx, fr, ver, vg⟩) else none) else some (.ok (.tup ds), ⟨tm, bx, fr, ver, vg⟩) := rfl
theorem tk_i (k n) (σ : St) : (take H (.const (.int k n))).run C σ = some (.ok (.t (.sc (.int k n))), σ) := rfl
theorem tk_b (b) (σ : St) : (take H (.const (.bool b))).run C σ = some (.ok (.t (.sc (.bool b))), σ) := rfl
theorem tk_s (s) (σ : St) : (take H (.const (.string s))).run C σ = some (.ok (.t (.sc (.string s))), σ) := rfl
theorem tk_n (σ : St) : (take H (.const (.slice none 0 0))).run C σ = some (.ok (.t (.sc (.slice none 0 0))), σ) := rfl
theorem tk_p (σ : St) : (take H (.const (.pointer none))).run C σ = some (.ok (.t (.sc (.pointer none))), σ) := rfl
theorem tk_f (f) (σ : St) : (take H (.func f)).run C σ = some (.ok (.t (.sc (.func (.func f) #[] #[]))), σ) := rfl
theorem tk_agg (cs : Array Value) (σ : St) : (take H (.const (.agg cs))).run C σ = if cs.all (·.oneCell') then some (.ok (.agg (cs.toList.map fun v => .t (.sc v))), σ) else none := by
  show ((if cs.all (·.oneCell') = true then Prog.ret (ofConst (.agg cs)) else Prog.fail : Prog D)).run C σ = _
  rw [r_ite]; rfl
theorem bi_no {d : D} (ho : d.hasOwn = false) (q) (σ : St) : (bumpIf q d).run C σ = some (.ok (), σ) := by simp only [bumpIf, ho, Bool.false_eq_true, if_false, r_ret]
theorem bi_yes {d : D} (ho : d.hasOwn = true) (q) : (bumpIf q d).run C ⟨tm, bx, fr, ver, vg⟩ = some (.ok (), ⟨tm, bx, fr, (q, verOf ver q + 1) :: ver, vg⟩) := by simp only [bumpIf, ho, if_true, r_bump]
/-- A guard: what it was is known behind it. -/
def gdRun (C : Callee) (t : Tmp) (want : Bool) (d : Option Tmp) (m : Prog Unit) (dv : D) (σ : St) : Got Unit :=
  match dv with
  | .t (.sc (.bool b)) => if b = want then m.run C { σ with tm := σ.tm.set t (.t (.sc (.bool want))) } else (elseT d).run C { σ with tm := σ.tm.set t (.t (.sc (.bool (!want)))) }
  | .tup [] => (elseT d).run C σ
  | _ => none
theorem gdRun_congr {t : Tmp} {want : Bool} {d : Option Tmp} {m : Prog Unit} {dv dv' : D} {σ : St} (h : dv = dv') : gdRun C t want d m dv σ = gdRun C t want d m dv' σ := by rw [h]
theorem gd_run (t : Tmp) (want d m) (σ : St) : (gdThen (some t) want d m).run C σ = gdRun C t want d m (σ.tm.getD t .dead) σ := by
  have hset : ∀ b, σ.tm.getD t .dead = .t (.sc (.bool b)) → { σ with tm := σ.tm.set t (.t (.sc (.bool b))) } = σ := by
    intro b hb
    have hl : t < σ.tm.length := by
      rcases Nat.lt_or_ge t σ.tm.length with h | h
      · exact h
      · rw [List.getD_eq_getElem?_getD, List.getElem?_eq_none h] at hb; cases hb
    have : σ.tm.set t (.t (.sc (.bool b))) = σ.tm := by
      rw [List.getD_eq_getElem?_getD, List.getElem?_eq_getElem hl, Option.getD_some] at hb
      rw [← hb]
      exact List.set_getElem_self hl
    rw [this]
  show ((do let b ← ofOpt ((← gT t).want? want); if b then m else elseT d) : Prog Unit).run C σ = _
  rw [r_bind]
  show andThen C (some (.ok (σ.tm.getD t .dead), σ)) _ = _
  rw [at_ok]
  generalize hd : σ.tm.getD t .dead = dv at hset
  unfold gdRun
  split
  · rename_i b
    rw [r_bind]
    show andThen C ((ofOpt (some (b == want))).run C σ) _ = _
    rw [r_some, at_ok, r_ite]
    have := hset b rfl
    cases b <;> cases want <;> simp_all
  · rw [r_bind]
    show andThen C ((ofOpt (some false)).run C σ) _ = _
    rw [r_some, at_ok, r_ite]
    rfl
  · rename_i hn hn2
    rw [r_bind]
    have : dv.want? want = none := by
      unfold D.want?
      split
      · rename_i b; exact absurd rfl (hn b)
      · exact absurd rfl hn2
      · rfl
    rw [this, r_none, at_none]
theorem gdr_u (t : Tmp) (want d m) (σ : St) : gdRun C t want d m (.tup []) σ = (elseT d).run C σ := rfl
theorem gdr_b (t : Tmp) (want d m b) : gdRun C t want d m (.t (.sc (.bool b))) ⟨tm, bx, fr, ver, vg⟩ = if b = want then m.run C ⟨tm.set t (.t (.sc (.bool want))), bx, fr, ver, vg⟩ else (elseT d).run C ⟨tm.set t (.t (.sc (.bool (!want)))), bx, fr, ver, vg⟩ := rfl
/-- What is put into a slot. -/
theorem pu_none (d) (σ : St) : (put H none d).run C σ = some (.ok (), σ) := rfl
def setT (t : Tmp) (d : D) (σ : St) : Got Unit := if t < σ.tm.length then some (.ok (), { σ with tm := σ.tm.set t d }) else none
theorem pT_set (t d) (σ : St) : (pT t d).run C σ = setT t d σ := by
  show (if _ then _ else _) = setT t d σ; unfold setT; split <;> rfl
theorem setT_eq (t d) : setT t d ⟨tm, bx, fr, ver, vg⟩ = if t < tm.length then some (.ok (), ⟨tm.set t d, bx, fr, ver, vg⟩) else none := rfl
theorem pu_var {t : Tmp} (hv : H.var.contains t = true) (d : D) : put H (some t) d = stow (H.own.contains t) t d := by simp only [put, hv, if_true]
theorem pu_tmp {t : Tmp} (hv : H.var.contains t = false) (d : D) : put H (some t) d = (do bumpIf (.tm t) d; pT t d) := by simp only [put, hv, Bool.false_eq_true, if_false]
theorem pu_res {d : D} (hr : ∀ ok, resolve ok d = .ret d) (ho : d.hasOwn = false) (t) (σ : St) : (put H (some t) d).run C σ = setT t d σ := by
  cases hv : H.var.contains t
  · rw [pu_tmp H hv, r_bind, bi_no C ho, at_ok, pT_set]
  · rw [pu_var H hv, stow, r_bind, hr, r_ret, at_ok, r_bind, bi_no C ho, at_ok, pT_set]
theorem pu_t (t x) (σ : St) : (put H (some t) (.t x)).run C σ = setT t (.t x) σ := pu_res H C (fun _ => rfl) rfl t σ
theorem pu_lp (t s o) (σ : St) : (put H (some t) (.lp s o)).run C σ = setT t (.lp s o) σ := pu_res H C (fun _ => rfl) rfl t σ
theorem pu_fp (t f s o) (σ : St) : (put H (some t) (.fp f s o)).run C σ = setT t (.fp f s o) σ := pu_res H C (fun _ => rfl) rfl t σ
theorem pu_clo (t f ds) (σ : St) : (put H (some t) (.clo f ds)).run C σ = setT t (.clo f ds) σ := pu_res H C (fun _ => rfl) rfl t σ
theorem pu_dead (t) (σ : St) : (put H (some t) .dead).run C σ = setT t .dead σ := pu_res H C (fun _ => rfl) rfl t σ
theorem pu_else {d : D} {t : Tmp} (hv : H.var.contains t = false) (ho : d.hasOwn = false) (σ : St) : (put H (some t) d).run C σ = setT t d σ := by
  rw [pu_tmp H hv, r_bind, bi_no C ho, at_ok, pT_set]
theorem pu_ept {t : Tmp} (hv : H.var.contains t = false) (q v sz i o) (σ : St) : (put H (some t) (.ept q v sz i o)).run C σ = setT t (.ept q v sz i o) σ := pu_else H C hv rfl σ
theorem pu_als {t : Tmp} (hv : H.var.contains t = false) (q v sz i o) (σ : St) : (put H (some t) (.als q v sz i o)).run C σ = setT t (.als q v sz i o) σ := pu_else H C hv rfl σ
theorem pu_mal {t : Tmp} (hv : H.var.contains t = false) (q v) (σ : St) : (put H (some t) (.mal q v)).run C σ = setT t (.mal q v) σ := pu_else H C hv rfl σ
theorem pu_own {t : Tmp} (hv : H.var.contains t = false) (e sz els) : (put H (some t) (.own e sz els)).run C ⟨tm, bx, fr, ver, vg⟩ = setT t (.own e sz els) ⟨tm, bx, fr, (.tm t, verOf ver (.tm t) + 1) :: ver, vg⟩ := by
  rw [pu_tmp H hv, r_bind, bi_yes C tm bx fr ver vg rfl, at_ok, pT_set]
theorem pu_omap {t : Tmp} (hv : H.var.contains t = false) (kvs) : (put H (some t) (.omap kvs)).run C ⟨tm, bx, fr, ver, vg⟩ = setT t (.omap kvs) ⟨tm, bx, fr, (.tm t, verOf ver (.tm t) + 1) :: ver, vg⟩ := by
  rw [pu_tmp H hv, r_bind, bi_yes C tm bx fr ver vg rfl, at_ok, pT_set]
theorem pu_agg {t : Tmp} (hv : H.var.contains t = false) (ds) : (put H (some t) (.agg ds)).run C ⟨tm, bx, fr, ver, vg⟩ = setT t (.agg ds) ⟨tm, bx, fr, if hasOwnL ds then (.tm t, verOf ver (.tm t) + 1) :: ver else ver, vg⟩ := by
  rw [pu_tmp H hv, r_bind]
  cases h : hasOwnL ds
  · rw [bi_no C (by simpa only [D.hasOwn] using h), at_ok, pT_set]; rfl
  · rw [bi_yes C tm bx fr ver vg (by simpa only [D.hasOwn] using h), at_ok, pT_set]; rfl
theorem pu_tup {t : Tmp} (hv : H.var.contains t = false) (ds) : (put H (some t) (.tup ds)).run C ⟨tm, bx, fr, ver, vg⟩ = setT t (.tup ds) ⟨tm, bx, fr, if hasOwnL ds then (.tm t, verOf ver (.tm t) + 1) :: ver else ver, vg⟩ := by
  rw [pu_tmp H hv, r_bind]
  cases h : hasOwnL ds
  · rw [bi_no C (by simpa only [D.hasOwn] using h), at_ok, pT_set]; rfl
  · rw [bi_yes C tm bx fr ver vg (by simpa only [D.hasOwn] using h), at_ok, pT_set]; rfl
/-- Into a variable. -/
theorem pv_own {t : Tmp} (hv : H.var.contains t = true) (e sz els) : (put H (some t) (.own e sz els)).run C ⟨tm, bx, fr, ver, vg⟩ =
    if H.own.contains t then setT t (.own e sz els) ⟨tm, bx, fr, (.tm t, verOf ver (.tm t) + 1) :: ver, vg⟩ else setT t (.t (.sl sz els)) ⟨tm, bx, fr, ver, vg⟩ := by
  rw [pu_var H hv, stow, r_bind]
  show andThen C (some (.ok _, _)) _ = _
  rw [at_ok, r_bind]
  split
  · rw [bi_yes C tm bx fr ver vg rfl, at_ok, pT_set]
  · rw [bi_no C rfl, at_ok, pT_set]
theorem pv_omap {t : Tmp} (hv : H.var.contains t = true) (kvs) : (put H (some t) (.omap kvs)).run C ⟨tm, bx, fr, ver, vg⟩ =
    if H.own.contains t then setT t (.omap kvs) ⟨tm, bx, fr, (.tm t, verOf ver (.tm t) + 1) :: ver, vg⟩ else none := by
  rw [pu_var H hv, stow, r_bind, resolve]
  cases H.own.contains t
  · rfl
  · rfl
theorem pv_als {t : Tmp} (hv : H.var.contains t = true) (q v sz lo n) (σ : St) : (put H (some t) (.als q v sz lo n)).run C σ =
    andThen C ((resolve (H.own.contains t) (.als q v sz lo n)).run C σ) (fun d => (do bumpIf (.tm t) d; pT t d)) := by
  rw [pu_var H hv, stow, r_bind]
theorem pv_mal {t : Tmp} (hv : H.var.contains t = true) (q v) (σ : St) : (put H (some t) (.mal q v)).run C σ =
    andThen C ((resolve (H.own.contains t) (.mal q v)).run C σ) (fun d => (do bumpIf (.tm t) d; pT t d)) := by
  rw [pu_var H hv, stow, r_bind]
end
end Go.Pv

/- Loops; the rules' attributes. -/
namespace Go.Pv
/-- A frame's slots: those that are named, the others dead. -/
def mkT : Nat → Nat → List (Nat × D) → List D
  | 0, _, _ => []
  | k + 1, i, (j, d) :: l => if j = i then d :: mkT k (i + 1) l else .dead :: mkT k (i + 1) ((j, d) :: l)
  | k + 1, i, [] => .dead :: mkT k (i + 1) []
def mkB : Nat → Nat → List (Nat × List D) → List (List D)
  | 0, _, _ => []
  | k + 1, i, (j, d) :: l => if j = i then d :: mkB k (i + 1) l else [] :: mkB k (i + 1) ((j, d) :: l)
  | k + 1, i, [] => [] :: mkB k (i + 1) []
def mkS (n : Nat) (l : List (Nat × D)) (b : List (Nat × List D)) : St := ⟨mkT n 0 l, mkB n 0 b, [], [], 0⟩
/-! ### norm by a mask -/
def maskOf (keep : List Nat) : Nat → Nat → List Bool
  | 0, _ => []
  | k + 1, i => keep.contains i :: maskOf keep k (i + 1)
def mkN (keep : List Nat) : List Bool → List D → List D
  | true :: m, d :: l => trim keep d :: mkN keep m l
  | false :: m, _ :: l => .dead :: mkN keep m l
  | _, _ => []
def mkNB (keep : List Nat) : List Bool → List (List D) → List (List D)
  | true :: m, d :: l => trimL keep d :: mkNB keep m l
  | false :: m, _ :: l => [] :: mkNB keep m l
  | _, _ => []
theorem normL_mask (keep : List Nat) (l : List D) : ∀ i, normL keep i l = mkN keep (maskOf keep l.length i) l := by
  induction l with
  | nil => intro i; rfl
  | cons d l ih =>
    intro i
    simp only [normL, List.length_cons, maskOf, ih]
    cases keep.contains i <;> simp [mkN]
theorem normB_mask (keep : List Nat) (l : List (List D)) : ∀ i, normB keep i l = mkNB keep (maskOf keep l.length i) l := by
  induction l with
  | nil => intro i; rfl
  | cons d l ih =>
    intro i
    simp only [normB, List.length_cons, maskOf, ih]
    cases keep.contains i <;> simp [mkNB]
/-- What is kept is told. -/
theorem norm_at {keep : List Nat} {m : List Bool} {tm : List D} {bx : List (List D)} {fr : Frames} {ver : List (Pl × Nat)} {vg : Nat} (h1 : maskOf keep tm.length 0 = m) (h2 : maskOf keep bx.length 0 = m) :
    norm keep ⟨tm, bx, fr, ver, vg⟩ = ⟨mkN keep m tm, mkNB keep m bx, fr.map fun b => b.map (trimL keep), ver, vg⟩ := by
  rw [n_norm, normL_mask, normB_mask, h1, h2]
attribute [simp ↓] at_ok at_none at_ite r_bind r_pure r_ret r_fail r_some r_none r_ite r_need r_opt_ite r_gT pT_set setT_eq r_gB r_pB r_gF r_pF r_gV r_bump r_call ct_val ct_ite r_callF cf_val cf_ite ot_ok ot_none ot_ite o_nil o_cons ov_some ov_none ov_ite c_region sq_normal sq_ret sq_exit sq_none sq_ite cd_ok cd_ite bk_normal bk_ret bk_exit bk_none bk_ite en_ite eO_skip eO_exit eO_ret eO_seq eO_block eO_cond
attribute [congr] gdThen_congr gdRun_congr
attribute [simp ↓] g_none g_some gd_run gdr_b gdr_u el_some el_none p_move p_assign p_pick p_alloc p_box p_build p_buildSlice p_load p_store p_nilCheck p_binOp p_unOp p_convert p_makeSlice p_makeMap p_lookup p_mapUpdate p_slice p_fieldAddr p_field p_indexAddr p_index p_extract p_makeFunc p_len p_append p_copy p_min p_max p_min3 p_max3 p_cap p_callf p_callt
attribute [simp ↓] rd_t rd_i rd_b rd_s rd_n rd_p rd_f tk_t tk_i tk_b tk_s tk_n tk_p tk_f tk_agg td_t td_lp td_fp td_clo td_als td_mal td_ept td_own td_omap td_agg td_tup pu_none pu_t pu_lp pu_fp pu_clo pu_dead pu_ept pu_als pu_mal pu_own pu_omap pu_agg pu_tup pv_own pv_omap pv_als pv_mal
attribute [simp] len_str len_sl len_nil len_als len_own min_ii max_ii min_iii max_iii cap_nil cal_clo cal_fn cv_i cv_s cv_sl cv_nil cv_als
attribute [simp ↓] gd0 gd1 gd2 gd3 gd4 gd5 gd6 gd7 gd8 st0 st1 st2 st3 st4 st5 st6 st7 st8 lt0 lt1 lt2 lt3 lt4 lt5 lt6 lt7 lt8
attribute [simp] D.hasOwn hasOwnL scrub scrubL nameL bumpL shift splice D.cells D.live resolve resolveL binD unD D.int? D.bool? trim trimL rdS mkT mkB mkS mkN mkNB
end Go.Pv
namespace Go.Pv
/-! ### numbers -/
def bAnd (k : IntKind) (a b : Int) : Int := k.wrap (BitVec.ofInt k.bits a &&& BitVec.ofInt k.bits b).toNat
def bOr (k : IntKind) (a b : Int) : Int := k.wrap (BitVec.ofInt k.bits a ||| BitVec.ofInt k.bits b).toNat
def bXor (k : IntKind) (a b : Int) : Int := k.wrap (BitVec.ofInt k.bits a ^^^ BitVec.ofInt k.bits b).toNat
def bAndNot (k : IntKind) (a b : Int) : Int := k.wrap (BitVec.ofInt k.bits a &&& ~~~BitVec.ofInt k.bits b).toNat
def iShl (k : IntKind) (a b : Int) : Int := k.wrap (a * 2 ^ (min b.toNat k.bits))
def iShr (k : IntKind) (a b : Int) : Int := a.fdiv (2 ^ (min b.toNat k.bits))
def w64 (n : Int) : Int := IntKind.i64.wrap n
section
variable (k : IntKind) (a b : Int)
theorem io_add : intOp .add k a b = some (.int k (k.wrap (a + b))) := rfl
theorem io_sub : intOp .sub k a b = some (.int k (k.wrap (a - b))) := rfl
theorem io_mul : intOp .mul k a b = some (.int k (k.wrap (a * b))) := rfl
theorem io_quo : intOp .quo k a b = if b = 0 then none else some (.int k (k.wrap (a.tdiv b))) := rfl
theorem io_rem : intOp .rem k a b = if b = 0 then none else some (.int k (a.tmod b)) := rfl
theorem io_and : intOp .and k a b = some (.int k (bAnd k a b)) := rfl
theorem io_or : intOp .or k a b = some (.int k (bOr k a b)) := rfl
theorem io_xor : intOp .xor k a b = some (.int k (bXor k a b)) := rfl
theorem io_andNot : intOp .andNot k a b = some (.int k (bAndNot k a b)) := rfl
theorem io_eql : intOp .eql k a b = some (.bool (a == b)) := rfl
theorem io_neq : intOp .neq k a b = some (.bool (a != b)) := rfl
theorem io_lss : intOp .lss k a b = some (.bool (decide (a < b))) := rfl
theorem io_leq : intOp .leq k a b = some (.bool (decide (a ≤ b))) := rfl
theorem io_gtr : intOp .gtr k a b = some (.bool (decide (a > b))) := rfl
theorem io_geq : intOp .geq k a b = some (.bool (decide (a ≥ b))) := rfl
theorem so_shl : shOp .shl k a b = if b < 0 then none else some (.int k (iShl k a b)) := rfl
theorem so_shr : shOp .shr k a b = if b < 0 then none else some (.int k (iShr k a b)) := rfl
theorem wrap_w64 (n : Int) : IntKind.i64.wrap n = w64 n := rfl
end
theorem w64_id {n : Int} (h1 : -9223372036854775808 ≤ n) (h2 : n ≤ 9223372036854775807) : w64 n = n := by
  unfold w64 IntKind.wrap
  simp [IntKind.signed, IntKind.bits]
  omega
attribute [simp] io_add io_sub io_mul io_quo io_rem io_and io_or io_xor io_andNot io_eql io_neq io_lss io_leq io_gtr io_geq so_shl so_shr wrap_w64
theorem ba_ext {a b : ByteArray} (h : a.toList = b.toList) : a = b := by
  rw [ByteArray.toList_eq, ByteArray.toList_eq] at h
  cases a
  cases b
  congr 1
  exact Array.ext' h
theorem st_eql (a b : ByteArray) : strOp .eql a b = some (.bool (decide (a = b))) := by
  show some (Value.bool (a.toList == b.toList)) = _
  congr 2
  by_cases h : a = b
  · subst h; simp
  · have : a.toList ≠ b.toList := fun e => h (ba_ext e)
    simp [h, this]
theorem st_neq (a b : ByteArray) : strOp .neq a b = some (.bool (!decide (a = b))) := by
  have := st_eql a b
  show some (Value.bool (!(a.toList == b.toList))) = _
  simp only [strOp, Option.some.injEq, Value.bool.injEq] at this
  rw [this]
theorem st_add (a b : ByteArray) : strOp .add a b = if ((a.size + b.size : Nat) : Int) > IntKind.i64.max then none else some (.string (a ++ b)) := rfl
attribute [simp] st_eql st_neq st_add
theorem ver_nil (q : Pl) : verOf [] q = 0 := rfl
theorem ver_cons (q q' : Pl) (n : Nat) (l : List (Pl × Nat)) : verOf ((q', n) :: l) q = if q = q' then n else verOf l q := by
  unfold verOf
  rw [List.lookup_cons]
  by_cases h : q = q'
  · subst h; simp
  · have : (q == q') = false := by simpa using h
    rw [if_neg h, this]
attribute [simp] ver_nil ver_cons Pl.boxed Pl.loc
theorem bif_t (q x) : bumpIf q (.t x) = .ret () := rfl
theorem bif_lp (q s o) : bumpIf q (.lp s o) = .ret () := rfl
theorem bif_fp (q f s o) : bumpIf q (.fp f s o) = .ret () := rfl
theorem bif_clo (q f ds) : bumpIf q (.clo f ds) = .ret () := rfl
theorem bif_dead (q) : bumpIf q .dead = .ret () := rfl
theorem bif_own (q e sz els) : bumpIf q (.own e sz els) = bumpq q := rfl
theorem bif_omap (q kvs) : bumpIf q (.omap kvs) = bumpq q := rfl
attribute [simp] bif_t bif_lp bif_fp bif_clo bif_dead bif_own bif_omap
/-! ### a function's end -/
theorem en_ret (P : Program) (shr : List Nat) (rs : List ResultVar) (σ : St) : endThen P shr rs (some (.ret, σ)) =
    (resOf P shr rs σ).bind fun ds => if (outOkL ds && decide (resSlots rs).Nodup && σ.fr.all (fun b => b.all fun c => c.all D.outer)) = true then some (.val (res1 ds), σ.fr) else none := by
  simp only [endThen]
  cases resOf P shr rs σ <;> rfl
theorem en_normal (P : Program) (shr : List Nat) (rs : List ResultVar) (σ : St) : endThen P shr rs (some (.normal, σ)) =
    (resOf P shr rs σ).bind fun ds => if (outOkL ds && decide (resSlots rs).Nodup && σ.fr.all (fun b => b.all fun c => c.all D.outer)) = true then some (.val (res1 ds), σ.fr) else none := by
  simp only [endThen]
  cases resOf P shr rs σ <;> rfl
theorem en_none (P : Program) (shr : List Nat) (rs : List ResultVar) : endThen P shr rs none = none := rfl
/-! ### cells that are data -/
/-- Cells that are data. -/
def dts (xs : List T) : List D := xs.map D.t
section
variable (xs ys : List T)
theorem hasOwnL_t : hasOwnL (dts xs) = false := by
  unfold dts
  induction xs with
  | nil => rfl
  | cons x l ih => simp only [List.map_cons, hasOwnL, ih]; rfl
theorem live_t : (dts xs).all D.live = true := by simp [dts, D.live]
theorem scrubL_t : scrubL (dts xs) = dts xs := by
  unfold dts
  induction xs with
  | nil => rfl
  | cons x l ih => simp only [List.map_cons, scrubL, ih]; rfl
theorem trimL_t (keep : List Nat) : trimL keep (dts xs) = dts xs := by
  unfold dts
  induction xs with
  | nil => rfl
  | cons x l ih => simp only [List.map_cons, trimL, ih]; rfl
theorem outOkL_t : outOkL (dts xs) = true := by
  unfold dts
  induction xs with
  | nil => rfl
  | cons x l ih => simp only [List.map_cons, outOkL, ih]; rfl
theorem nameL_t (mk : Nat → Pl) (j : Nat) : nameL mk j (dts xs) = .ret (dts xs) := by
  unfold dts
  induction xs generalizing j with
  | nil => rfl
  | cons x l ih =>
    simp only [List.map_cons, nameL, ih]
    rfl
theorem resolveL_t (ok : Bool) : resolveL ok (dts xs) = .ret (dts xs) := by
  unfold dts
  induction xs with
  | nil => rfl
  | cons x l ih =>
    simp only [List.map_cons, resolveL, ih]
    rfl
theorem bumpL_t (mk : Nat → Pl) (j : Nat) : bumpL mk j (dts xs) = .ret () := by
  unfold dts
  induction xs generalizing j with
  | nil => rfl
  | cons x l ih =>
    simp only [List.map_cons, bumpL, ih]
    rfl
theorem partC_t : partC (dts xs) = .ret (dts xs) := by
  unfold dts
  induction xs with
  | nil => rfl
  | cons x l ih =>
    simp only [List.map_cons, partC, ih]
    rfl
theorem shareL_t : shareL (dts xs) = .ret xs := by
  unfold dts
  induction xs with
  | nil => rfl
  | cons x l ih =>
    simp only [List.map_cons, shareL, ih]
    rfl
theorem lendL_t : lendL (dts xs) = .ret xs := by
  unfold dts
  induction xs with
  | nil => rfl
  | cons x l ih =>
    simp only [List.map_cons, lendL, ih]
    rfl
theorem shareC_t : shareC (dts xs) = .ret (dts xs) := by
  unfold dts
  induction xs with
  | nil => rfl
  | cons x l ih =>
    simp only [List.map_cons, shareC, ih]
    rfl
theorem shared_t : (dts xs).map D.shared = dts xs := by
  unfold dts
  induction xs with
  | nil => rfl
  | cons x l ih => simp only [List.map_cons, ih]; rfl
theorem lentAll_t : D.lentOk.all (dts xs) = true := by
  unfold dts
  induction xs with
  | nil => rfl
  | cons x l ih => simp only [List.map_cons, D.lentOk.all, ih]
theorem take_t (n : Nat) : (dts xs).take n = dts (xs.take n) := by unfold dts; rw [List.map_take]
theorem drop_t (n : Nat) : (dts xs).drop n = dts (xs.drop n) := by unfold dts; rw [List.map_drop]
theorem app_t : dts xs ++ dts ys = dts (xs ++ ys) := by unfold dts; rw [List.map_append]
theorem app1_t (y : T) : dts xs ++ D.t y :: dts ys = dts (xs ++ y :: ys) := by unfold dts; rw [List.map_append]; rfl
theorem len_t : (dts xs).length = xs.length := List.length_map ..
theorem dts_nil : dts [] = [] := rfl
theorem dts_one (x : T) : dts [x] = [.t x] := rfl
theorem dts_rep (n : Nat) (x : T) : List.replicate n (D.t x) = dts (List.replicate n x) := by simp [dts]
end
/-! ### regions that draw -/
section
variable (H : Hint) (C : Callee) (tm : List D) (bx : List (List D)) (fr : Frames) (ver : List (Pl × Nat)) (vg : Nat)
theorem t_rd_t (t) : (rd (.tmp t)).runT C ⟨tm, bx, fr, ver, vg⟩ = some (tm.getD t .dead, ⟨tm, bx, fr, ver, vg⟩, ⟨[.tm t], []⟩) := rfl
theorem t_rd_i (k n) (σ : St) : (rd (.const (.int k n))).runT C σ = some (.t (.sc (.int k n)), σ, ⟨[], []⟩) := rfl
theorem t_rd_b (b) (σ : St) : (rd (.const (.bool b))).runT C σ = some (.t (.sc (.bool b)), σ, ⟨[], []⟩) := rfl
theorem t_rd_s (s) (σ : St) : (rd (.const (.string s))).runT C σ = some (.t (.sc (.string s)), σ, ⟨[], []⟩) := rfl
theorem t_rd_n (σ : St) : (rd (.const (.slice none 0 0))).runT C σ = some (.t (.sc (.slice none 0 0)), σ, ⟨[], []⟩) := rfl
theorem t_rd_p (σ : St) : (rd (.const (.pointer none))).runT C σ = some (.t (.sc (.pointer none)), σ, ⟨[], []⟩) := rfl
theorem t_rd_f (f) (σ : St) : (rd (.func f)).runT C σ = some (.t (.sc (.func (.func f) #[] #[])), σ, ⟨[], []⟩) := rfl
def takeDT (H : Hint) (t : Tmp) (d : D) (σ : St) : GotT D :=
  match d with
  | .own e sz els => if H.var.contains t then some (.als (.tm t) (verOf σ.ver (.tm t)) sz 0 els.length, σ, ⟨[.tm t, .tm t], []⟩) else if t < σ.tm.length then some (.own e sz els, { σ with tm := σ.tm.set t .dead }, ⟨[.tm t, .tm t], [.tm t]⟩) else none
  | .omap kvs => if H.var.contains t then some (.mal (.tm t) (verOf σ.ver (.tm t)), σ, ⟨[.tm t, .tm t], []⟩) else if t < σ.tm.length then some (.omap kvs, { σ with tm := σ.tm.set t .dead }, ⟨[.tm t, .tm t], [.tm t]⟩) else none
  | .agg ds => if hasOwnL ds then (if H.var.contains t then none else if t < σ.tm.length then some (.agg ds, { σ with tm := σ.tm.set t .dead }, ⟨[.tm t, .tm t], [.tm t]⟩) else none) else some (.agg ds, σ, ⟨[.tm t], []⟩)
  | .tup ds => if hasOwnL ds then (if H.var.contains t then none else if t < σ.tm.length then some (.tup ds, { σ with tm := σ.tm.set t .dead }, ⟨[.tm t, .tm t], [.tm t]⟩) else none) else some (.tup ds, σ, ⟨[.tm t], []⟩)
  | d => some (d, σ, ⟨[.tm t], []⟩)
theorem t_gT' (t) (σ : St) : (gT t).runT C σ = some (σ.tm.getD t .dead, σ, ⟨[.tm t], []⟩) := rfl
theorem t_gV' (q) (σ : St) : (gV q).runT C σ = some (σ.verAt q, σ, ⟨[q.loc], []⟩) := rfl
theorem t_pT' (t d) (σ : St) : (pT t d).runT C σ = if t < σ.tm.length then some ((), { σ with tm := σ.tm.set t d }, ⟨[.tm t], [.tm t]⟩) else none := by
  show (if _ then _ else _) = _; split <;> rfl
theorem t_tk_t (t) (σ : St) : (take H (.tmp t)).runT C σ = takeDT H t (σ.tm.getD t .dead) σ := by
  have e : σ.verAt (.tm t) = verOf σ.ver (.tm t) := by simp [St.verAt, Pl.boxed]
  rw [take, t_bind, t_gT', tat_ok]
  generalize σ.tm.getD t .dead = d
  cases d with
  | own es sz els =>
    simp only [D.hasOwn, takeDT, if_true, t_ite]
    split
    · rw [t_bind, t_gV', tat_ok, t_pure, e]; rfl
    · rw [t_bind, t_pT', tat_ite, tat_none, tat_ok, t_pure, add_ite]; split <;> rfl
  | omap kvs =>
    simp only [D.hasOwn, takeDT, if_true, t_ite]
    split
    · rw [t_bind, t_gV', tat_ok, t_pure, e]; rfl
    · rw [t_bind, t_pT', tat_ite, tat_none, tat_ok, t_pure, add_ite]; split <;> rfl
  | agg ds =>
    simp only [D.hasOwn, takeDT, t_ite]
    split
    · split
      · rw [t_bind, t_gV', tat_ok]; rfl
      · rw [t_bind, t_pT', tat_ite, tat_none, tat_ok, t_pure, add_ite]; split <;> rfl
    · rfl
  | tup ds =>
    simp only [D.hasOwn, takeDT, t_ite]
    split
    · split
      · rw [t_bind, t_gV', tat_ok]; rfl
      · rw [t_bind, t_pT', tat_ite, tat_none, tat_ok, t_pure, add_ite]; split <;> rfl
    · rfl
  | _ => rfl
theorem t_tk_i (k n) (σ : St) : (take H (.const (.int k n))).runT C σ = some (.t (.sc (.int k n)), σ, ⟨[], []⟩) := rfl
theorem t_tk_b (b) (σ : St) : (take H (.const (.bool b))).runT C σ = some (.t (.sc (.bool b)), σ, ⟨[], []⟩) := rfl
theorem t_tk_s (s) (σ : St) : (take H (.const (.string s))).runT C σ = some (.t (.sc (.string s)), σ, ⟨[], []⟩) := rfl
theorem t_tk_n (σ : St) : (take H (.const (.slice none 0 0))).runT C σ = some (.t (.sc (.slice none 0 0)), σ, ⟨[], []⟩) := rfl
theorem t_tk_p (σ : St) : (take H (.const (.pointer none))).runT C σ = some (.t (.sc (.pointer none)), σ, ⟨[], []⟩) := rfl
theorem t_tk_f (f) (σ : St) : (take H (.func f)).runT C σ = some (.t (.sc (.func (.func f) #[] #[])), σ, ⟨[], []⟩) := rfl
theorem t_tk_agg (cs : Array Value) (σ : St) : (take H (.const (.agg cs))).runT C σ = if cs.all (·.oneCell') then some (.agg (cs.toList.map fun v => .t (.sc v)), σ, ⟨[], []⟩) else none := by
  show ((if cs.all (·.oneCell') = true then Prog.ret (ofConst (.agg cs)) else Prog.fail : Prog D)).runT C σ = _
  rw [t_ite]; rfl
def setTT (t : Tmp) (d : D) (σ : St) : GotT Unit := if t < σ.tm.length then some ((), { σ with tm := σ.tm.set t d }, ⟨[.tm t], [.tm t]⟩) else none
theorem t_pT_set (t d) (σ : St) : (pT t d).runT C σ = setTT t d σ := t_pT' C t d σ
theorem setTT_eq (t d) : setTT t d ⟨tm, bx, fr, ver, vg⟩ = if t < tm.length then some ((), ⟨tm.set t d, bx, fr, ver, vg⟩, ⟨[.tm t], [.tm t]⟩) else none := rfl
theorem t_pu_none (d) (σ : St) : (put H none d).runT C σ = some ((), σ, ⟨[], []⟩) := rfl
theorem add_setTT (t d) (σ : St) : addT ⟨[], []⟩ (setTT t d σ) = setTT t d σ := by
  unfold setTT; split <;> rfl
theorem t_pu_res {d : D} (hr : ∀ ok, resolve ok d = .ret d) (ho : d.hasOwn = false) (t) (σ : St) : (put H (some t) d).runT C σ = setTT t d σ := by
  have hb : bumpIf (.tm t) d = .ret () := by simp only [bumpIf, ho, Bool.false_eq_true, if_false]
  cases hv : H.var.contains t
  · rw [pu_tmp H hv, t_bind, hb, t_ret, tat_ok, t_pT_set, add_setTT]
  · rw [pu_var H hv, stow, t_bind, hr, t_ret, tat_ok, t_bind, hb, t_ret, tat_ok, t_pT_set, add_setTT, add_setTT]
theorem t_pu_t (t x) (σ : St) : (put H (some t) (.t x)).runT C σ = setTT t (.t x) σ := t_pu_res H C (fun _ => rfl) rfl t σ
theorem t_pu_lp (t s o) (σ : St) : (put H (some t) (.lp s o)).runT C σ = setTT t (.lp s o) σ := t_pu_res H C (fun _ => rfl) rfl t σ
theorem t_pu_fp (t f s o) (σ : St) : (put H (some t) (.fp f s o)).runT C σ = setTT t (.fp f s o) σ := t_pu_res H C (fun _ => rfl) rfl t σ
theorem t_pu_clo (t f ds) (σ : St) : (put H (some t) (.clo f ds)).runT C σ = setTT t (.clo f ds) σ := t_pu_res H C (fun _ => rfl) rfl t σ
theorem t_pu_dead (t) (σ : St) : (put H (some t) .dead).runT C σ = setTT t .dead σ := t_pu_res H C (fun _ => rfl) rfl t σ
theorem t_pu_else {d : D} {t : Tmp} (hv : H.var.contains t = false) (ho : d.hasOwn = false) (σ : St) : (put H (some t) d).runT C σ = setTT t d σ := by
  have hb : bumpIf (.tm t) d = .ret () := by simp only [bumpIf, ho, Bool.false_eq_true, if_false]
  rw [pu_tmp H hv, t_bind, hb, t_ret, tat_ok, t_pT_set, add_setTT]
theorem t_pu_ept {t : Tmp} (hv : H.var.contains t = false) (q v sz i o) (σ : St) : (put H (some t) (.ept q v sz i o)).runT C σ = setTT t (.ept q v sz i o) σ := t_pu_else H C hv rfl σ
theorem t_pu_als {t : Tmp} (hv : H.var.contains t = false) (q v sz i o) (σ : St) : (put H (some t) (.als q v sz i o)).runT C σ = setTT t (.als q v sz i o) σ := t_pu_else H C hv rfl σ
theorem t_pu_mal {t : Tmp} (hv : H.var.contains t = false) (q v) (σ : St) : (put H (some t) (.mal q v)).runT C σ = setTT t (.mal q v) σ := t_pu_else H C hv rfl σ
theorem t_pu_tmp {t : Tmp} (hv : H.var.contains t = false) (d : D) : put H (some t) d = (do bumpIf (.tm t) d; pT t d) := pu_tmp H hv d
theorem t_pu_var {t : Tmp} (hv : H.var.contains t = true) (d : D) : put H (some t) d = stow (H.own.contains t) t d := pu_var H hv d
theorem t_pu_own {t : Tmp} (hv : H.var.contains t = false) (e sz els) (σ : St) : (put H (some t) (.own e sz els)).runT C σ = (do bumpq (.tm t); pT t (.own e sz els) : Prog Unit).runT C σ := by rw [pu_tmp H hv]; rfl
theorem t_pu_omap {t : Tmp} (hv : H.var.contains t = false) (kvs) (σ : St) : (put H (some t) (.omap kvs)).runT C σ = (do bumpq (.tm t); pT t (.omap kvs) : Prog Unit).runT C σ := by rw [pu_tmp H hv]; rfl
theorem t_pu_agg {t : Tmp} (hv : H.var.contains t = false) (ds) (σ : St) : (put H (some t) (.agg ds)).runT C σ = (do (if hasOwnL ds = true then bumpq (.tm t) else .ret ()); pT t (.agg ds) : Prog Unit).runT C σ := by rw [pu_tmp H hv, bumpIf, D.hasOwn]
theorem t_pu_tup {t : Tmp} (hv : H.var.contains t = false) (ds) (σ : St) : (put H (some t) (.tup ds)).runT C σ = (do (if hasOwnL ds = true then bumpq (.tm t) else .ret ()); pT t (.tup ds) : Prog Unit).runT C σ := by rw [pu_tmp H hv, bumpIf, D.hasOwn]
theorem t_pv_own {t : Tmp} (hv : H.var.contains t = true) (e sz els) (σ : St) : (put H (some t) (.own e sz els)).runT C σ = (stow (H.own.contains t) t (.own e sz els)).runT C σ := by rw [pu_var H hv]
theorem t_pv_omap {t : Tmp} (hv : H.var.contains t = true) (kvs) (σ : St) : (put H (some t) (.omap kvs)).runT C σ = (stow (H.own.contains t) t (.omap kvs)).runT C σ := by rw [pu_var H hv]
theorem t_pv_als {t : Tmp} (hv : H.var.contains t = true) (q v sz lo n) (σ : St) : (put H (some t) (.als q v sz lo n)).runT C σ = (stow (H.own.contains t) t (.als q v sz lo n)).runT C σ := by rw [pu_var H hv]
theorem t_pv_mal {t : Tmp} (hv : H.var.contains t = true) (q v) (σ : St) : (put H (some t) (.mal q v)).runT C σ = (stow (H.own.contains t) t (.mal q v)).runT C σ := by rw [pu_var H hv]
/-- A guard: what it was is known behind it. -/
def gdRunT (C : Callee) (t : Tmp) (want : Bool) (d : Option Tmp) (m : Prog Unit) (dv : D) (σ : St) : GotT Unit :=
  match dv with
  | .t (.sc (.bool b)) => if b = want then addT ⟨[.tm t], []⟩ (m.runT C { σ with tm := σ.tm.set t (.t (.sc (.bool want))) }) else addT ⟨[.tm t], []⟩ ((elseT d).runT C { σ with tm := σ.tm.set t (.t (.sc (.bool (!want)))) })
  | .tup [] => addT ⟨[.tm t], []⟩ ((elseT d).runT C σ)
  | _ => none
theorem gdRunT_congr {C : Callee} {t : Tmp} {want : Bool} {d : Option Tmp} {m : Prog Unit} {dv dv' : D} {σ : St} (h : dv = dv') : gdRunT C t want d m dv σ = gdRunT C t want d m dv' σ := by rw [h]
theorem t_gd_run (t : Tmp) (want d m) (σ : St) : (gdThen (some t) want d m).runT C σ = gdRunT C t want d m (σ.tm.getD t .dead) σ := by
  have hset : ∀ b, σ.tm.getD t .dead = .t (.sc (.bool b)) → { σ with tm := σ.tm.set t (.t (.sc (.bool b))) } = σ := by
    intro b hb
    have hl : t < σ.tm.length := by
      rcases Nat.lt_or_ge t σ.tm.length with h | h
      · exact h
      · rw [List.getD_eq_getElem?_getD, List.getElem?_eq_none h] at hb; cases hb
    have : σ.tm.set t (.t (.sc (.bool b))) = σ.tm := by
      rw [List.getD_eq_getElem?_getD, List.getElem?_eq_getElem hl, Option.getD_some] at hb
      rw [← hb]
      exact List.set_getElem_self hl
    rw [this]
  show ((do let b ← ofOpt ((← gT t).want? want); if b then m else elseT d) : Prog Unit).runT C σ = _
  rw [t_bind, t_gT', tat_ok]
  generalize hd : σ.tm.getD t .dead = dv at hset
  unfold gdRunT
  have hadd : ∀ r : GotT Unit, addT ⟨[], []⟩ r = r := fun r => by
    unfold addT
    rcases r with _ | ⟨u, σ1, tr⟩
    · rfl
    · rfl
  split
  · rename_i b
    rw [t_bind]
    show addT _ (andThenT C ((ofOpt (some (b == want))).runT C σ) _) = _
    rw [t_some, tat_ok, t_ite, hadd]
    have := hset b rfl
    cases b <;> cases want <;> simp_all
  · rw [t_bind]
    show addT _ (andThenT C ((ofOpt (some false)).runT C σ) _) = _
    rw [t_some, tat_ok, t_ite, hadd]
    rfl
  · rename_i hn hn2
    rw [t_bind]
    have : dv.want? want = none := by
      unfold D.want?
      split
      · rename_i b; exact absurd rfl (hn b)
      · exact absurd rfl hn2
      · rfl
    rw [this, t_none, tat_none]
    rfl
theorem t_gdr_u (t : Tmp) (want d m) (σ : St) : gdRunT C t want d m (.tup []) σ = addT ⟨[.tm t], []⟩ ((elseT d).runT C σ) := rfl
theorem t_gdr_b (t : Tmp) (want d m b) : gdRunT C t want d m (.t (.sc (.bool b))) ⟨tm, bx, fr, ver, vg⟩ = if b = want then addT ⟨[.tm t], []⟩ (m.runT C ⟨tm.set t (.t (.sc (.bool want))), bx, fr, ver, vg⟩) else addT ⟨[.tm t], []⟩ ((elseT d).runT C ⟨tm.set t (.t (.sc (.bool (!want)))), bx, fr, ver, vg⟩) := rfl
theorem dr_some' (ops : Array Oper) (trs) : drawThen H ops (some (trs, ⟨tm, bx, fr, ver, vg⟩)) = if orderly ops trs = true then some (.normal, ⟨seamT H.row (scrubL tm), seamB H.row bx, fr, [], 0⟩) else none := rfl
end
@[congr] theorem addT_congr {β : Type} {tr : Tr} {r r' : GotT β} (h : r = r') : addT tr r = addT tr r' := by rw [h]
@[congr] theorem consT_congr {tr : Tr} {r r' : Option (List Tr × St)} (h : r = r') : consT tr r = consT tr r' := by rw [h]
theorem c_draw {P : Program} {H : Hint} {C : Callee} (i : Nat) (ops : Array Oper) (σ : St) : eO P H C (.region i ops true) σ = drawThen H ops (runTr P H C ops ops.toList σ) := eO_draw i ops σ
attribute [congr] gdRunT_congr
attribute [simp ↓] tat_ok tat_none tat_ite add_some add_none add_ite t_bind t_pure t_ret t_fail t_some t_none t_ite t_need t_opt_ite t_gT t_pT_set setTT_eq t_gB t_pB t_gF t_pF t_gV t_bump t_call tct_val tct_ite t_callF tcf_val tcf_ite tt_ok tt_none tt_ite ctr_some ctr_none ctr_ite tr_nil tr_cons c_draw dr_some' dr_none dr_ite
attribute [simp ↓] t_rd_t t_rd_i t_rd_b t_rd_s t_rd_n t_rd_p t_rd_f t_tk_t t_tk_i t_tk_b t_tk_s t_tk_n t_tk_p t_tk_f t_tk_agg t_pu_none t_pu_t t_pu_lp t_pu_fp t_pu_clo t_pu_dead t_pu_ept t_pu_als t_pu_mal t_pu_own t_pu_omap t_pu_agg t_pu_tup t_pv_own t_pv_omap t_pv_als t_pv_mal t_gd_run t_gdr_b t_gdr_u
attribute [simp] takeDT Tr.app
/-! ### loops of a function -/
def bodyOf (f : Func) : Code := f.body.getD .skip
def loopsOf : Code → List Code
  | .seq a b => loopsOf a ++ loopsOf b
  | .cond _ a b => loopsOf a ++ loopsOf b
  | .block _ c => loopsOf c
  | .loop c => c :: loopsOf c
  | .scope c => loopsOf c
  | _ => []
/-- The body of the n-th loop, as the text has them. -/
def loopN (f : Func) (n : Nat) : Code := (loopsOf (bodyOf f)).getD n .skip
attribute [simp ↓] ct_none cf_none tct_none tcf_none en_ret en_normal en_none wt_some wt_none wt_ite ro_normal ro_exit ro_ret ro_none ro_ite ob_some ob_none ob_ite ob_ob ob_sm sm_inl sm_inr
attribute [simp ↓] at_ob ct_ob cf_ob tat_ob add_ob tct_ob tcf_ob ot_ob tt_ob ctr_ob ov_ob dr_ob sq_ob cd_ob bk_ob en_ob wt_ob ro_ob at_sm ct_sm cf_sm tat_sm add_sm tct_sm tcf_sm ot_sm tt_sm ctr_sm ov_sm dr_sm sq_sm cd_sm bk_sm en_sm wt_sm ro_sm
attribute [simp] seamT seamB seamL seam1 seamV seamVs seamR noOwn D.common commonL Hint.outAt
attribute [simp] n_norm normL normB lookN Hint.at firstR loopN loopsOf bodyOf
attribute [simp] hasOwnL_t live_t scrubL_t trimL_t outOkL_t nameL_t resolveL_t bumpL_t partC_t shareL_t lendL_t shareC_t shared_t lentAll_t take_t drop_t app_t app1_t len_t dts_one dts_nil
attribute [simp] resOf outOkL D.outOk resSlots res1 D.outer D.shared D.flat flatL D.lentOk D.lentOk.all D.places D.places.placesL callD takes rds lendAs lendA lend lendL demoteL demote shareAs shareA shareC fillD partC fillE shareL share T.els sliceD appendD copyD optInt lenD bytesT nilOp D.thereS D.thereP fnOf getPl putPl rowAt mapAt kvPut stow
section
variable (m : Mode) (x : Nat × TypeId × Bool) (d : D)
@[simp] theorem sea_none : D.seam none d = d := rfl
@[simp] theorem sea_sl (sz els) : D.seam m (.t (.sl sz els)) = .t (.sl sz els) := by rcases m with _ | ⟨a, b, (_ | _)⟩ <;> rfl
@[simp] theorem sea_pt (cs) : D.seam m (.t (.pt cs)) = .t (.pt cs) := by rcases m with _ | ⟨a, b, (_ | _)⟩ <;> rfl
@[simp] theorem sea_int (k n) : D.seam m (.t (.sc (.int k n))) = .t (.sc (.int k n)) := by rcases m with _ | ⟨a, b, (_ | _)⟩ <;> rfl
@[simp] theorem sea_bool (b) : D.seam m (.t (.sc (.bool b))) = .t (.sc (.bool b)) := by rcases m with _ | ⟨a, b, (_ | _)⟩ <;> rfl
@[simp] theorem sea_str (s) : D.seam m (.t (.sc (.string s))) = .t (.sc (.string s)) := by rcases m with _ | ⟨a, b, (_ | _)⟩ <;> rfl
@[simp] theorem sea_ptr (p) : D.seam m (.t (.sc (.pointer p))) = .t (.sc (.pointer p)) := by rcases m with _ | ⟨a, b, (_ | _)⟩ <;> rfl
@[simp] theorem sea_func (f a b) : D.seam m (.t (.sc (.func f a b))) = .t (.sc (.func f a b)) := by rcases m with _ | ⟨a, b, (_ | _)⟩ <;> rfl
@[simp] theorem sea_own (e sz els) : D.seam m (.own e sz els) = .own e sz els := by rcases m with _ | ⟨a, b, (_ | _)⟩ <;> rfl
@[simp] theorem sea_omap (kvs) : D.seam m (.omap kvs) = .omap kvs := by rcases m with _ | ⟨a, b, (_ | _)⟩ <;> rfl
@[simp] theorem sea_als (q v sz lo n) : D.seam m (.als q v sz lo n) = .als q v sz lo n := by rcases m with _ | ⟨a, b, (_ | _)⟩ <;> rfl
@[simp] theorem sea_ept (q v sz i o) : D.seam m (.ept q v sz i o) = .ept q v sz i o := by rcases m with _ | ⟨a, b, (_ | _)⟩ <;> rfl
@[simp] theorem sea_lp (s o) : D.seam m (.lp s o) = .lp s o := by rcases m with _ | ⟨a, b, (_ | _)⟩ <;> rfl
@[simp] theorem sea_fp (f s o) : D.seam m (.fp f s o) = .fp f s o := by rcases m with _ | ⟨a, b, (_ | _)⟩ <;> rfl
@[simp] theorem sea_clo (f ds) : D.seam m (.clo f ds) = .clo f ds := by rcases m with _ | ⟨a, b, (_ | _)⟩ <;> rfl
@[simp] theorem sea_dead : D.seam m .dead = .dead := by rcases m with _ | ⟨a, b, (_ | _)⟩ <;> rfl
@[simp] theorem sea_agg (ds) : D.seam m (.agg ds) = .agg ds := by rcases m with _ | ⟨a, b, (_ | _)⟩ <;> rfl
end
end Go.Pv
