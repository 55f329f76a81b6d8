/- A part of the road: the interpreter of plain data and the proof that it is right. -/
import Derived.Below
import Derived.OwnWalk
import Derived.Laws.OwnMore
import Derived.WalkKit
import Derived.Maps.AppendAt
import Derived.Laws.BytesString
/- The pure interpreter: values without memory, programs over places, the operations. No program in sight. -/
namespace Go.Pv

/-- Shared data: what nobody writes any more. -/
inductive T where
  | sc (v : Value)
  | sl (sz : Nat) (els : List (List T))
  | pt (cs : List T)
  deriving Inhabited

/-- A place that may hold a row of the call's own and be named by others: a variable's slot, a cell of a box of this frame, or of an outer one. -/
inductive Pl where
  | tm (t : Nat)
  | bx (s off : Nat)
  | fb (fr s off : Nat)
  deriving DecidableEq, Inhabited

inductive D where
  | t (x : T)
  | agg (ds : List D)
  | tup (ds : List D)
  | own (e : TypeId) (sz : Nat) (els : List (List T))   -- a row of the call's own, at the place where this stands
  | omap (kvs : List (Int × Int))                       -- a map of the call's own, int to int
  | als (q : Pl) (ver sz lo n : Nat)                    -- a slice of the row that stands at q (the ver'th that stood there in this statement)
  | mal (q : Pl) (ver : Nat)                            -- the map that stands at q
  | ept (q : Pl) (ver sz i off : Nat)                   -- a pointer to a cell of an element of the row at q
  | lp (s off : Nat)                                    -- a pointer into a box of this frame
  | fp (fr s off : Nat)                                 -- a pointer into a box of an outer frame
  | clo (f : FuncId) (caps : List D)
  | dead
  deriving Inhabited

abbrev Frames := List (List (List D))
/-- tm: slots; bx: boxes of this frame, by the slot that made them; fr: boxes of outer frames. ver, vg: how often places were given a row of their own in the statement under way (vg: more, for each place in a box): nothing between statements. -/
structure St where
  tm : List D
  bx : List (List D)
  fr : Frames
  ver : List (Pl × Nat) := []
  vg : Nat := 0
def Pl.boxed : Pl → Bool
  | .tm _ => false
  | _ => true
def verOf (l : List (Pl × Nat)) (q : Pl) : Nat := (l.lookup q).getD 0
def St.verAt (σ : St) (q : Pl) : Nat := verOf σ.ver q + if q.boxed then σ.vg else 0

/-- How a nil slice is told: as it is; as data without elements; as an own row (of elements of a type) without elements. -/
abbrev Mode := Option (Nat × TypeId × Bool)
def D.seam : Mode → D → D
  | some (sz, _, false), .t (.sc (.slice none 0 0)) => .t (.sl sz [])
  | some (sz, e, true), .t (.sc (.slice none 0 0)) => if 0 < sz then .own e sz [] else .t (.sc (.slice none 0 0))
  | _, d => d
def seamL : List Mode → List D → List D
  | m :: ms, d :: ds => d.seam m :: seamL ms ds
  | _, ds => ds
def seam1 (ms : List Mode) (d : D) : D := d.seam (ms.headD none)
def seamV (ms : List Mode) : D → D
  | .agg ds => .agg (seamL ms ds)
  | d => seam1 ms d
def seamVs : List (List Mode) → List D → List D
  | m :: ms, d :: ds => seamV m d :: seamVs ms ds
  | _, ds => ds
def seamR (ms : List (List Mode)) : D → D
  | .tup ds => .tup (seamVs ms ds)
  | d => seamV (ms.headD []) d
/-- For arguments: nothing is owned. -/
def noOwn (ms : List (List Mode)) : List (List Mode) := ms.map fun l => l.map fun m => m.map fun x => (x.1, x.2.1, false)
mutual
/-- Rows are shared from now on. -/
def D.common : D → D
  | .own _ sz els => .t (.sl sz els)
  | .omap _ => .dead
  | .agg ds => .agg (commonL ds)
  | .tup ds => .tup (commonL ds)
  | d => d
def commonL : List D → List D
  | [] => []
  | d :: ds => d.common :: commonL ds
end

/-- What is told of a function beside its code: which slots are variables (not used in one region alone), which places keep rows of their own, what is kept at a loop's head (a loop goes by its first region). -/
structure Hint where
  var : List Nat := []
  own : List Nat := []
  keep : List (Nat × List Nat) := []
  /-- What is kept behind a loop. -/
  out : List (Nat × List Nat) := []
  /-- How cells that are nil are told behind a statement, by slots (and boxes by the slots that made them). -/
  row : List (Nat × List Mode) := []
  /-- And at a function's head, and its end. -/
  par : List (List Mode) := []
  res : List (List Mode) := []
  /-- Slots of results that are shared. -/
  shr : List Nat := []
  /-- Functions that are called with all frames, whatever they get. -/
  far : List Nat := []

/-- What a call comes to: a value, or a panic. -/
inductive Res where
  | val (d : D)
  | pan (x : T)
abbrev Callee := FuncId → List D → Frames → Option (Res × Frames)

/-! ### programs over places -/
inductive Prog (α : Type) : Type where
  | ret (a : α)
  | fail
  | panic (x : T)
  | getT (t : Nat) (k : D → Prog α)
  | putT (t : Nat) (d : D) (k : Prog α)
  | getB (s : Nat) (k : List D → Prog α)
  | putB (s : Nat) (c : List D) (k : Prog α)
  | getF (fr s : Nat) (k : List D → Prog α)
  | putF (fr s : Nat) (c : List D) (k : Prog α)
  | call (f : FuncId) (args : List D) (k : D → Prog α)
  | callF (f : FuncId) (args : List D) (k : D → Prog α)
  | getV (q : Pl) (k : Nat → Prog α)
  | bump (q : Pl) (k : Prog α)

namespace Prog
def bind {α β : Type} : Prog α → (α → Prog β) → Prog β
  | ret a, f => f a
  | fail, _ => fail
  | panic x, _ => panic x
  | getT t k, f => getT t fun d => (k d).bind f
  | putT t d k, f => putT t d (k.bind f)
  | getB s k, f => getB s fun c => (k c).bind f
  | putB s c k, f => putB s c (k.bind f)
  | getF r s k, f => getF r s fun c => (k c).bind f
  | putF r s c k, f => putF r s c (k.bind f)
  | call g as k, f => call g as fun d => (k d).bind f
  | callF g as k, f => callF g as fun d => (k d).bind f
  | getV q k, f => getV q fun n => (k n).bind f
  | bump q k, f => bump q (k.bind f)
instance : Monad Prog where
  pure := ret
  bind := bind
end Prog

def gT (t : Nat) : Prog D := .getT t .ret
def pT (t : Nat) (d : D) : Prog Unit := .putT t d (.ret ())
def gB (s : Nat) : Prog (List D) := .getB s .ret
def pB (s : Nat) (c : List D) : Prog Unit := .putB s c (.ret ())
def gF (fr s : Nat) : Prog (List D) := .getF fr s .ret
def pF (fr s : Nat) (c : List D) : Prog Unit := .putF fr s c (.ret ())
def gV (q : Pl) : Prog Nat := .getV q .ret
def bumpq (q : Pl) : Prog Unit := .bump q (.ret ())
def ofOpt {α : Type} : Option α → Prog α
  | some a => .ret a
  | none => .fail
def need (b : Bool) : Prog Unit := if b then .ret () else .fail

/-- Data of one cell that bears no row: numbers, bools, strings. -/
def T.flat : T → Bool
  | .sc _ => true
  | _ => false
mutual
def D.flat : D → Bool
  | .t x => x.flat
  | .agg ds => flatL ds
  | .tup ds => flatL ds
  | .dead => true
  | _ => false
def flatL : List D → Bool
  | [] => true
  | d :: ds => d.flat && flatL ds
end
mutual
def D.hasOwn : D → Bool
  | .own _ _ _ => true
  | .omap _ => true
  | .agg ds => hasOwnL ds
  | .tup ds => hasOwnL ds
  | _ => false
def hasOwnL : List D → Bool
  | [] => false
  | d :: ds => d.hasOwn || hasOwnL ds
end

/-- What may lie in a cell of a box. -/
def D.bare : D → Bool
  | .agg _ | .tup _ | .als _ _ _ _ _ | .mal _ _ | .ept _ _ _ _ _ => false
  | _ => true
/-- What a closure may capture. -/
def D.ptr : D → Bool
  | .lp _ _ | .fp _ _ _ => true
  | _ => false
mutual
/-- Names of places fall away: behind a statement. -/
def scrub : D → D
  | .als _ _ _ _ _ | .ept _ _ _ _ _ | .mal _ _ => .dead
  | .agg ds => .agg (scrubL ds)
  | .tup ds => .tup (scrubL ds)
  | d => d
def scrubL : List D → List D
  | [] => []
  | d :: ds => scrub d :: scrubL ds
end
mutual
/-- A value of this frame, as an inner frame sees it (n: how many frames lie below). -/
def lift (n : Nat) : D → D
  | .lp s o => .fp n s o
  | .agg ds => .agg (liftL n ds)
  | .tup ds => .tup (liftL n ds)
  | .clo f cs => .clo f (liftL n cs)
  | d => d
def liftL (n : Nat) : List D → List D
  | [] => []
  | d :: ds => lift n d :: liftL n ds
end
mutual
def unlift (n : Nat) : D → D
  | .fp m s o => if m = n then .lp s o else .fp m s o
  | .agg ds => .agg (unliftL n ds)
  | .tup ds => .tup (unliftL n ds)
  | .clo f cs => .clo f (unliftL n cs)
  | d => d
def unliftL (n : Nat) : List D → List D
  | [] => []
  | d :: ds => unlift n d :: unliftL n ds
end
def liftF (n : Nat) (fs : Frames) : Frames := fs.map fun b => b.map (liftL n)
def unliftF (n : Nat) (fs : Frames) : Frames := fs.map fun b => b.map (unliftL n)
/-! ### running -/
abbrev Got (α : Type) := Option (Except T α × St)
def Prog.run {α : Type} (C : Callee) : Prog α → St → Got α
  | .ret a, σ => some (.ok a, σ)
  | .fail, _ => none
  | .panic x, σ => some (.error x, σ)
  | .getT t k, σ => (k (σ.tm.getD t .dead)).run C σ
  | .putT t d k, σ => if t < σ.tm.length then k.run C { σ with tm := σ.tm.set t d } else none
  | .getB s k, σ => (k (σ.bx.getD s [])).run C σ
  | .putB s c k, σ => if s < σ.bx.length then k.run C { σ with bx := σ.bx.set s c } else none
  | .getF f s k, σ => (k ((σ.fr.getD f []).getD s [])).run C σ
  | .putF f s c k, σ => k.run C { σ with fr := σ.fr.set f ((σ.fr.getD f []).set s c) }
  | .call g as k, σ => (C g as []).bind fun r =>
      match r.1 with
      | .val d => (k d).run C σ
      | .pan x => some (.error x, σ)
  | .callF g as k, σ =>
    let n := σ.fr.length
    (C g (liftL n as) (liftF n (σ.fr ++ [σ.bx]))).bind fun r =>
      let σ' : St := { fr := (unliftF n r.2).dropLast, bx := (unliftF n r.2).getLastD [], tm := σ.tm, ver := σ.ver, vg := σ.vg + 1 }
      match r.1 with
      | .val d => (k (unlift n d)).run C σ'
      | .pan x => some (.error x, σ')
  | .getV q k, σ => (k (σ.verAt q)).run C σ
  | .bump q k, σ => k.run C { σ with ver := (q, verOf σ.ver q + 1) :: σ.ver }

/-! ### running, with what was looked at and what was written: for statements whose order is open -/
inductive Loc where
  | tm (t : Nat)
  | bx (s : Nat)
  | fb
  | mem
  deriving DecidableEq
def Pl.loc : Pl → Loc
  | .tm t => .tm t
  | .bx s _ => .bx s
  | .fb _ _ _ => .fb
def Loc.memory : Loc → Bool
  | .tm _ => false
  | _ => true
def Loc.meets (a b : Loc) : Bool := a == b || (a == .mem && b.memory) || (b == .mem && a.memory)
structure Tr where
  rd : List Loc
  wr : List Loc
def Tr.r (l : Loc) (x : Tr) : Tr := { x with rd := l :: x.rd }
def Tr.w (l : Loc) (x : Tr) : Tr := { x with wr := l :: x.wr }
def Prog.runT {α : Type} (C : Callee) : Prog α → St → Option (α × St × Tr)
  | .ret a, σ => some (a, σ, ⟨[], []⟩)
  | .getT t k, σ => ((k (σ.tm.getD t .dead)).runT C σ).map fun r => (r.1, r.2.1, r.2.2.r (.tm t))
  | .putT t d k, σ => if t < σ.tm.length then (k.runT C { σ with tm := σ.tm.set t d }).map fun r => (r.1, r.2.1, (r.2.2.r (.tm t)).w (.tm t)) else none
  | .getB s k, σ => ((k (σ.bx.getD s [])).runT C σ).map fun r => (r.1, r.2.1, r.2.2.r (.bx s))
  | .putB s c k, σ => if s < σ.bx.length then (k.runT C { σ with bx := σ.bx.set s c }).map fun r => (r.1, r.2.1, (r.2.2.r (.bx s)).w (.bx s)) else none
  | .getF f s k, σ => ((k ((σ.fr.getD f []).getD s [])).runT C σ).map fun r => (r.1, r.2.1, r.2.2.r .fb)
  | .call g as k, σ => (C g as []).bind fun r =>
      match r.1 with
      | .val d => (k d).runT C σ
      | .pan _ => none
  | .callF g as k, σ =>
    let n := σ.fr.length
    (C g (liftL n as) (liftF n (σ.fr ++ [σ.bx]))).bind fun r =>
      let σ' : St := { fr := (unliftF n r.2).dropLast, bx := (unliftF n r.2).getLastD [], tm := σ.tm, ver := σ.ver, vg := σ.vg + 1 }
      match r.1 with
      | .val d => ((k (unlift n d)).runT C σ').map fun r => (r.1, r.2.1, (r.2.2.r .mem).w .mem)
      | .pan _ => none
  | .getV q k, σ => ((k (σ.verAt q)).runT C σ).map fun r => (r.1, r.2.1, r.2.2.r q.loc)
  | .bump q k, σ => (k.runT C { σ with ver := (q, verOf σ.ver q + 1) :: σ.ver }).map fun r => (r.1, r.2.1, (r.2.2.r q.loc).w q.loc)
  | .fail, _ => none
  | .panic _, _ => none
  | .putF f s c k, σ => (k.runT C { σ with fr := σ.fr.set f ((σ.fr.getD f []).set s c) }).map fun r => (r.1, r.2.1, (r.2.2.r .fb).w .fb)
def Tr.meets (a b : Tr) : Bool := a.wr.any (fun l => b.rd.any l.meets || b.wr.any l.meets) || a.rd.any fun l => b.wr.any l.meets

/-! ### places -/
def getPl : Pl → Prog D
  | .tm t => gT t
  | .bx s o => do return (← gB s).getD o .dead
  | .fb f s o => do return (← gF f s).getD o .dead
def putPl : Pl → D → Prog Unit
  | .tm t, d => pT t d
  | .bx s o, d => do
    let c ← gB s
    need (decide (o < c.length))
    pB s (c.set o d)
  | .fb f s o, d => do
    let c ← gF f s
    need (decide (o < c.length))
    pF f s (c.set o d)
def D.cells : D → List D
  | .agg ds => ds
  | d => [d]
def ofConst : Value → D
  | .agg cs => .agg (cs.toList.map fun v => .t (.sc v))
  | v => .t (.sc v)
def D.aliased (q : Pl) (k : Nat) : D → D
  | .own _ sz els => .als q k sz 0 els.length
  | .omap _ => .mal q k
  | d => d
def constOk : Value → Bool
  | .agg cs => cs.all (·.oneCell')
  | v => v.oneCell'
/-- What an operand holds. -/
def rd : Operand → Prog D
  | .tmp t => gT t
  | .const v => if constOk v then .ret (ofConst v) else .fail
  | .func f => .ret (.t (.sc (.func (.func f) #[] #[])))
  | .global _ => .fail
/-- What an operand holds, to be laid elsewhere: what a temporary owns goes with it, what a variable owns is named. -/
def take (H : Hint) : Operand → Prog D
  | .tmp t => do
    let d ← gT t
    if d.hasOwn then
      if H.var.contains t then do
        let k ← gV (.tm t)
        match d with
        | .own _ sz els => return .als (.tm t) k sz 0 els.length
        | .omap _ => return .mal (.tm t) k
        | _ => .fail
      else do
        pT t .dead
        return d
    else return d
  | x => rd x
/-- The row at a place, if it is still the one that was meant. -/
def rowAt (q : Pl) (k : Nat) : Prog (TypeId × Nat × List (List T)) := do
  let d ← getPl q
  let k' ← gV q
  need (k == k')
  match d with
  | .own e sz els => return (e, sz, els)
  | _ => .fail
def mapAt (q : Pl) (k : Nat) : Prog (List (Int × Int)) := do
  let d ← getPl q
  let k' ← gV q
  need (k == k')
  match d with
  | .omap kvs => return kvs
  | _ => .fail
def demote (q : Pl) : Prog Unit := do
  match ← getPl q with
  | .own _ sz els => putPl q (.t (.sl sz els))
  | _ => .ret ()
/-- A value of one cell as data; what a place owns is lent. -/
def lend : D → Prog T
  | .t x => .ret x
  | .own _ sz els => .ret (.sl sz els)
  | .als q k sz lo n => do
    let (_, sz', els) ← rowAt q k
    need (sz == sz' && decide (lo + n ≤ els.length))
    return .sl sz ((els.drop lo).take n)
  | _ => .fail
/-- The same; what a place owned is shared from now on. -/
def share : D → Prog T
  | .t x => .ret x
  | .own _ sz els => .ret (.sl sz els)
  | .als q k sz lo n => do
    let (_, sz', els) ← rowAt q k
    need (sz == sz' && decide (lo + n ≤ els.length))
    putPl q (.t (.sl sz els))
    return .sl sz ((els.drop lo).take n)
  | _ => .fail
def lendL : List D → Prog (List T)
  | [] => .ret []
  | d :: ds => do
    let x ← lend d
    let xs ← lendL ds
    return x :: xs
def shareL : List D → Prog (List T)
  | [] => .ret []
  | d :: ds => do
    let x ← share d
    let xs ← shareL ds
    return x :: xs
/-- One cell's value, to be laid into a place; ok: the place may own. -/
def resolve (ok : Bool) : D → Prog D
  | .own e sz els => .ret (if ok then .own e sz els else .t (.sl sz els))
  | .omap kvs => if ok then .ret (.omap kvs) else .fail
  | .als p k sz lo n => do
    let (e, sz', els) ← rowAt p k
    need (sz == sz' && decide (lo + n ≤ els.length))
    if ok && lo == 0 then do
      putPl p .dead
      return .own e sz (els.take n)
    else do
      putPl p (.t (.sl sz els))
      return .t (.sl sz ((els.drop lo).take n))
  | .mal p k => do
    let kvs ← mapAt p k
    need ok
    putPl p .dead
    return .omap kvs
  | .agg _ | .tup _ | .ept _ _ _ _ _ => .fail
  | d => .ret d
def resolveL (ok : Bool) : List D → Prog (List D)
  | [] => .ret []
  | d :: ds => do
    let x ← resolve ok d
    let xs ← resolveL ok ds
    return x :: xs
def bumpIf (q : Pl) (d : D) : Prog Unit := if d.hasOwn then bumpq q else .ret ()
def bumpL (mk : Nat → Pl) : Nat → List D → Prog Unit
  | _, [] => .ret ()
  | j, d :: ds => do
    bumpIf (mk j) d
    bumpL mk (j + 1) ds
def stow (ok : Bool) (t : Nat) (d : D) : Prog Unit := do
  let d ← resolve ok d
  bumpIf (.tm t) d
  pT t d
def put (H : Hint) (dst : Option Tmp) (d : D) : Prog Unit :=
  match dst with
  | none => .ret ()
  | some t => if H.var.contains t then stow (H.own.contains t) t d else do
    bumpIf (.tm t) d
    pT t d
def splice (cs : List D) (off : Nat) (ds : List D) : List D := cs.take off ++ ds ++ cs.drop (off + ds.length)

end Go.Pv

/- The pure interpreter: the operations. -/
namespace Go.Pv

/-! ### types -/
def szOf (P : Program) (t : TypeId) : Nat := ((P.info? t).map (·.size)).getD 0
def bytesOf (P : Program) (t : TypeId) : Nat := ((P.info? t).map (·.bytes)).getD 0
def zeroOf (P : Program) (t : TypeId) : List Value := (((P.info? t).bind (·.zero)).map (·.cells.toList)).getD []
/-- A type that is known whole: its size, its zero value. -/
def zOk (P : Program) (t : TypeId) : Bool :=
  (P.underlying t).isSome && match P.info? t with
    | some i => (match i.zero with
      | some z => decide (0 < i.size) && decide (0 < i.bytes) && z.cells.size == i.size && z.cells.all (·.oneCell')
      | none => false)
    | none => false
def aggT (P : Program) (t : TypeId) : Bool :=
  match P.underlying t with
  | some (.struct _) | some (.array _ _) => true
  | _ => false
def offOf (P : Program) (t : TypeId) (f : Nat) : Option Nat :=
  match P.underlying t with
  | some (.struct fs) => (fs[f]?).map (·.offset)
  | _ => none
def fszOf (P : Program) (t : TypeId) (f : Nat) : Option (Nat × Bool) :=
  match P.underlying t with
  | some (.struct fs) => (fs[f]?).bind fun x => if zOk P x.type then some (szOf P x.type, aggT P x.type) else none
  | _ => none
def elOf (P : Program) (t : TypeId) : Option TypeId :=
  match P.underlying t with
  | some (.slice e) => if zOk P e then some e else none
  | _ => none
def arrOf (P : Program) (t : TypeId) : Option (Nat × TypeId) :=
  match P.underlying t with
  | some (.array n e) => if zOk P e then some (n, e) else none
  | _ => none
/-- A struct or an array that is known whole. -/
def buildOk (P : Program) (t : TypeId) : Bool :=
  match P.underlying t with
  | some (.struct fs) => fs.all fun f => (P.info? f.type).isSome
  | some (.array _ e) => zOk P e
  | _ => false
def isStr (P : Program) (t : TypeId) : Bool := match P.underlying t with | some .string => true | _ => false
def isBoolT (P : Program) (t : TypeId) : Bool := match P.underlying t with | some .bool => true | _ => false
def isSliceT (P : Program) (t : TypeId) : Bool := match P.underlying t with | some (.slice _) => true | _ => false
def isPtrT (P : Program) (t : TypeId) : Bool := match P.underlying t with | some (.pointer _) => true | _ => false
def intOfT (P : Program) (t : TypeId) : Option IntKind := match P.underlying t with | some (.int k) => some k | _ => none
def zeroI (P : Program) (t : TypeId) : Bool :=
  match (P.info? t).bind (·.zero) with
  | some (.int .i64 0) => true
  | _ => false
def isIntMap (P : Program) (t : TypeId) : Bool :=
  match P.underlying t with
  | some (.map k e) => (match P.underlying k with | some (.int .i64) => zeroI P e | _ => false)
  | _ => false
/-- Which cells of a type are slices, and of elements of how many cells. -/
def kinds (P : Program) : Nat → TypeId → List (Option (Nat × TypeId))
  | 0, _ => []
  | k + 1, t =>
    match P.underlying t with
    | some (.slice e) => [some (szOf P e, e)]
    | some (.struct fs) => fs.toList.flatMap fun f => kinds P k f.type
    | some (.array n e) => (List.replicate n (kinds P k e)).flatten
    | _ => List.replicate (szOf P t) none
/-- Nil slices in elements are told as data without elements. -/
def canon1 : Option (Nat × TypeId) → T → T
  | some (sz, _), .sc (.slice none 0 0) => .sl sz []
  | _, x => x
def canonC : List (Option (Nat × TypeId)) → List T → List T
  | k :: ks, x :: xs => canon1 k x :: canonC ks xs
  | _, xs => xs
def canonR (ks : List (Option (Nat × TypeId))) (els : List (List T)) : List (List T) := els.map (canonC ks)
def kvGet (n : Int) (kvs : List (Int × Int)) : Int × Bool :=
  match kvs.lookup n with
  | some v => (v, true)
  | none => (0, false)
def kvPut (n v : Int) : List (Int × Int) → List (Int × Int)
  | [] => [(n, v)]
  | (a, b) :: l => if a = n then (n, v) :: l else (a, b) :: kvPut n v l
/-- How many bytes a row may take. -/
def most : Nat := 140737488355328

abbrev I (n : Int) : D := .t (.sc (.int .i64 n))
abbrev Bo (b : Bool) : D := .t (.sc (.bool b))
def nilSl : D := .t (.sc (.slice none 0 0))

def fnOf : D → Option FuncId
  | .t (.sc (.func (.func g) a b)) => if a.isEmpty && b.isEmpty then some g else none
  | _ => none
/-- The elements of data that is a slice. -/
def T.els : T → Option (List (List T))
  | .sl _ els => some els
  | .sc (.slice none 0 0) => some []
  | .sc (.slice (some _) 0 _) => some []
  | _ => none
def T.int? : T → Option (IntKind × Int)
  | .sc (.int k n) => some (k, n)
  | _ => none
def D.int? : D → Option Int
  | .t (.sc (.int _ n)) => some n
  | _ => none
def D.bool? : D → Option Bool
  | .t (.sc (.bool b)) => some b
  | _ => none
/-- Is an operation under a guard wanted? (What was not wanted itself is told as no values.) -/
def D.want? (want : Bool) : D → Option Bool
  | .t (.sc (.bool b)) => some (b == want)
  | .tup [] => some false
  | _ => none

/-! ### plain operators -/
def intOp (op : BinOp) (k : IntKind) (a b : Int) : Option Value :=
  match op with
  | .add => some (.int k (k.wrap (a + b)))
  | .sub => some (.int k (k.wrap (a - b)))
  | .mul => some (.int k (k.wrap (a * b)))
  | .quo => if b = 0 then none else some (.int k (k.wrap (a.tdiv b)))
  | .rem => if b = 0 then none else some (.int k (a.tmod b))
  | .and => some (.int k (k.wrap (BitVec.ofInt k.bits a &&& BitVec.ofInt k.bits b).toNat))
  | .or => some (.int k (k.wrap (BitVec.ofInt k.bits a ||| BitVec.ofInt k.bits b).toNat))
  | .xor => some (.int k (k.wrap (BitVec.ofInt k.bits a ^^^ BitVec.ofInt k.bits b).toNat))
  | .andNot => some (.int k (k.wrap (BitVec.ofInt k.bits a &&& ~~~BitVec.ofInt k.bits b).toNat))
  | .eql => some (.bool (a == b))
  | .neq => some (.bool (a != b))
  | .lss => some (.bool (a < b))
  | .leq => some (.bool (a ≤ b))
  | .gtr => some (.bool (a > b))
  | .geq => some (.bool (a ≥ b))
  | _ => none
def shOp (op : BinOp) (k : IntKind) (a b : Int) : Option Value :=
  if b < 0 then none else
  match op with
  | .shl => some (.int k (k.wrap (a * 2 ^ (min b.toNat k.bits))))
  | .shr => some (.int k (a.fdiv (2 ^ (min b.toNat k.bits))))
  | _ => none
def strOp (op : BinOp) (a b : ByteArray) : Option Value :=
  match op with
  | .add => if ((a.size + b.size : Nat) : Int) > IntKind.i64.max then none else some (.string (a ++ b))
  | .eql => some (.bool (a.toList == b.toList))
  | .neq => some (.bool (!(a.toList == b.toList)))
  | .lss => some (.bool (Op.bytesLess a.toList b.toList))
  | .leq => some (.bool (Op.bytesLess a.toList b.toList || a.toList == b.toList))
  | .gtr => some (.bool (!(Op.bytesLess a.toList b.toList || a.toList == b.toList)))
  | .geq => some (.bool (!Op.bytesLess a.toList b.toList))
  | _ => none
/-- Is a slice surely not nil (false: surely nil)? -/
def D.thereS : D → Option Bool
  | .t (.sc (.slice none _ _)) => some false
  | .t (.sc (.slice (some _) _ _)) => some true
  | .t (.sl _ (_ :: _)) => some true
  | .als _ _ _ _ (_ + 1) => some true
  | _ => none
/-- And a pointer? -/
def D.thereP : D → Option Bool
  | .t (.sc (.pointer none)) => some false
  | .t (.pt _) => some true
  | .lp _ _ | .fp _ _ _ | .ept _ _ _ _ _ => some true
  | _ => none
def nilOp (op : BinOp) (b : Option Bool) : Option Value :=
  match op, b with
  | .eql, some b => some (.bool !b)
  | .neq, some b => some (.bool b)
  | _, _ => none
def binD (P : Program) (op : BinOp) (ty : TypeId) (x y : D) : Option Value :=
  match x, y with
  | .t (.sc (.int k a)), .t (.sc (.int k' b)) =>
    match op with
    | .shl | .shr => shOp op k a b
    | _ => if k = k' then intOp op k a b else none
  | .t (.sc (.string a)), .t (.sc (.string b)) => strOp op a b
  | .t (.sc (.bool a)), .t (.sc (.bool b)) =>
    match op with
    | .eql => if isBoolT P ty then some (.bool (a == b)) else none
    | .neq => if isBoolT P ty then some (.bool (!(a == b))) else none
    | _ => none
  | x, .t (.sc (.slice none 0 0)) => if isSliceT P ty then nilOp op x.thereS else none
  | x, .t (.sc (.pointer none)) => if isPtrT P ty then nilOp op x.thereP else none
  | _, _ => none
def unD (op : UnOp) (x : D) : Option Value :=
  match op, x with
  | .neg, .t (.sc (.int k n)) => some (.int k (k.wrap (0 - n)))
  | .xor, .t (.sc (.int k n)) => intOp .xor k (if k.signed then -1 else k.max) n
  | .not, .t (.sc (.bool b)) => some (.bool !b)
  | _, _ => none

/-! ### places of a state -/
/-- A value of one cell that is known. -/
def D.live : D → Bool
  | .dead | .tup _ | .agg _ => false
  | _ => true
/-- The cells behind an address, n of them, as they are read. -/
def nameL (mk : Nat → Pl) : Nat → List D → Prog (List D)
  | _, [] => .ret []
  | j, d :: ds => do
    let x ← (if d.hasOwn then do
        let k ← gV (mk j)
        return d.aliased (mk j) k
      else .ret d)
    let xs ← nameL mk (j + 1) ds
    return x :: xs
def loadC (a : D) (n : Nat) : Prog (List D) :=
  match a with
  | .t (.pt cs) => do
    need (decide (n ≤ cs.length))
    return (cs.take n).map .t
  | .lp s o => do
    let c ← gB s
    need (decide (o + n ≤ c.length))
    nameL (fun j => .bx s (o + j)) 0 ((c.drop o).take n)
  | .fp f s o => do
    let c ← gF f s
    need (decide (o + n ≤ c.length))
    nameL (fun j => .fb f s (o + j)) 0 ((c.drop o).take n)
  | .ept q k sz i o => do
    let (_, sz', els) ← rowAt q k
    let c := els.getD i []
    need (sz == sz' && decide (o + n ≤ c.length))
    return ((c.drop o).take n).map .t
  | _ => .fail
def storeC (H : Hint) (a : D) (ds : List D) : Prog Unit :=
  match a with
  | .lp s o => do
    let ds ← resolveL (H.own.contains s) ds
    let c ← gB s
    need (decide (o + ds.length ≤ c.length))
    bumpL (fun j => .bx s (o + j)) 0 ds
    pB s (splice c o ds)
  | .fp f s o => do
    let ds ← resolveL true ds
    let c ← gF f s
    need (decide (o + ds.length ≤ c.length))
    bumpL (fun j => .fb f s (o + j)) 0 ds
    pF f s (splice c o ds)
  | .ept q k sz i o => do
    let xs ← shareL ds
    let (e, sz', els) ← rowAt q k
    let c := els.getD i []
    need (sz == sz' && decide (o + xs.length ≤ c.length))
    putPl q (.own e sz (els.set i (c.take o ++ xs ++ c.drop (o + xs.length))))
  | _ => .fail
def shift (a : D) (k : Nat) : Option D :=
  match a with
  | .t (.pt cs) => some (.t (.pt (cs.drop k)))
  | .lp s o => some (.lp s (o + k))
  | .fp f s o => some (.fp f s (o + k))
  | .ept q v sz i o => some (.ept q v sz i (o + k))
  | _ => none
/-- A slice that is read: a temporary that owns it is named. -/
def rdS (x : Operand) : Prog D := do
  match x with
  | .tmp t =>
    match ← gT t with
    | .own _ sz els => do
      let k ← gV (.tm t)
      return .als (.tm t) k sz 0 els.length
    | d => return d
  | x => rd x
def optInt (x : Option Operand) : Prog (Option Int) :=
  match x with
  | none => .ret none
  | some x => do
    let d ← rd x
    let n ← ofOpt d.int?
    return some n
def sliceD (P : Program) (ty : TypeId) (d : D) (lo hi : Option Int) : Option D :=
  match d with
  | .t (.sc (.string s)) =>
    let h := hi.getD s.size
    let l := lo.getD 0
    if isStr P ty = true ∧ 0 ≤ l ∧ l ≤ h ∧ h ≤ s.size then some (.t (.sc (.string (s.extract l.toNat h.toNat)))) else none
  | .t (.sl sz els) =>
    (elOf P ty).bind fun e =>
      let h := hi.getD els.length
      let l := lo.getD 0
      if sz = szOf P e ∧ 0 ≤ l ∧ l ≤ h ∧ h ≤ els.length then some (.t (.sl sz ((els.take h.toNat).drop l.toNat))) else none
  | .t (.sc (.slice none 0 0)) =>
    (elOf P ty).bind fun _ => if hi.getD 0 = 0 ∧ lo.getD 0 = 0 then some (.t (.sc (.slice none 0 0))) else none
  | .als q v sz a n =>
    (elOf P ty).bind fun e =>
      let h := hi.getD n
      let l := lo.getD 0
      if sz = szOf P e ∧ 0 ≤ l ∧ l ≤ h ∧ h ≤ n then some (.als q v sz (a + l.toNat) (h - l).toNat) else none
  | _ => none
def lenD : D → Option Int
  | .t (.sl _ els) => some els.length
  | .t (.sc (.slice none 0 0)) => some 0
  | .als _ _ _ _ n => some n
  | .own _ _ els => some els.length
  | _ => none
/-- The cells of a part of what is built; what places own is shared. -/
def partC : List D → Prog (List D)
  | [] => .ret []
  | d :: ds => do
    let x ← (match d with
      | .als _ _ _ _ _ => do
        let x ← share d
        return .t x
      | .agg _ | .tup _ | .ept _ _ _ _ _ | .mal _ _ => .fail
      | d => .ret d)
    let xs ← partC ds
    return x :: xs
def fillD (H : Hint) (place : Nat → Option (Nat × Nat)) : List D → List (Nat × Operand) → Prog (List D)
  | cs, [] => .ret cs
  | cs, (i, x) :: rest => do
    let (off, n) ← ofOpt (place i)
    let d ← take H x
    need (d.cells.all D.live)
    let ds ← partC d.cells
    need (ds.length == n && decide (off + n ≤ cs.length))
    fillD H place (splice cs off ds) rest
def fillE (H : Hint) (sz : Nat) : List (List T) → List (Nat × Operand) → Prog (List (List T))
  | els, [] => .ret els
  | els, (i, x) :: rest => do
    let d ← take H x
    need (d.cells.all D.live)
    let ds ← shareL d.cells
    need (ds.length == sz && decide (i < els.length))
    fillE H sz (els.set i ds) rest
/-- The places that a value names. -/
def D.places : D → List Pl
  | .als q _ _ _ _ => [q]
  | .agg ds => placesL ds
  | _ => []
where placesL : List D → List Pl
  | [] => []
  | .als q _ _ _ _ :: ds => q :: placesL ds
  | _ :: ds => placesL ds
/-- An argument as data, lent. -/
def lendA : D → Prog D
  | .agg ds => do
    let xs ← lendL ds
    return .agg (xs.map .t)
  | d => do
    let x ← lend d
    return .t x
def lendAs : List D → Prog (List D)
  | [] => .ret []
  | d :: ds => do
    let x ← lendA d
    let xs ← lendAs ds
    return x :: xs
/-- The cells of an argument that may hold places: data is shared. -/
def shareC : List D → Prog (List D)
  | [] => .ret []
  | d :: ds => do
    let x ← (match d with
      | .als _ _ _ _ _ | .own _ _ _ => do
        let x ← share d
        return .t x
      | .agg _ | .tup _ | .ept _ _ _ _ _ | .mal _ _ | .omap _ | .dead => .fail
      | d => .ret d)
    let xs ← shareC ds
    return x :: xs
/-- An argument where places may be handed on: data is shared. -/
def shareA : D → Prog D
  | .agg ds => do
    need (ds.all D.live)
    let xs ← shareC ds
    return .agg xs
  | .als q k sz lo n => do
    let x ← share (.als q k sz lo n)
    return .t x
  | .own e sz els => do
    let x ← share (.own e sz els)
    return .t x
  | .tup _ | .ept _ _ _ _ _ | .omap _ | .mal _ _ | .dead => .fail
  | d => .ret d
def shareAs : List D → Prog (List D)
  | [] => .ret []
  | d :: ds => do
    let x ← shareA d
    let xs ← shareAs ds
    return x :: xs
def demoteL : List Pl → Prog Unit
  | [] => .ret ()
  | q :: qs => do
    demote q
    demoteL qs
def rds : List Operand → Prog (List D)
  | [] => .ret []
  | x :: xs => do
    let d ← rd x
    let ds ← rds xs
    return d :: ds
def takes (H : Hint) : List Operand → Prog (List D)
  | [] => .ret []
  | x :: xs => do
    let d ← take H x
    let ds ← takes H xs
    return d :: ds
def D.lentOk : D → Bool
  | .t _ | .own _ _ _ | .als _ _ _ _ _ => true
  | .agg ds => all ds
  | _ => false
where all : List D → Bool
  | [] => true
  | .t _ :: ds | .own _ _ _ :: ds | .als _ _ _ _ _ :: ds => all ds
  | _ => false
def callD (H : Hint) (dst : Option Tmp) (g : FuncId) (caps : List D) (args : List Operand) : Prog Unit := do
  let ds ← takes H args
  if (caps.isEmpty && !H.far.contains g) && ds.all D.lentOk then do
    let as ← lendAs ds
    let r ← .call g as .ret
    if r.flat then .ret () else demoteL (ds.flatMap D.places)
    put H dst r
  else do
    let as ← shareAs (ds ++ caps)
    let r ← .callF g as .ret
    put H dst r
def appendD (P : Program) (H : Hint) (dst : Option Tmp) (ty : TypeId) (x y : Operand) : Prog Unit := do
  let e ← ofOpt (elOf P ty)
  let dx ← take H x
  let dy ← take H y
  let b ← lend dy
  let els2 ← ofOpt b.els
  need (els2.all fun c => c.length == szOf P e)
  let dx ← resolve true dx
  match dx with
  | .t (.sc (.slice none 0 0)) => do
    need (decide (els2.length * bytesOf P e ≤ most))
    put H dst (.own e (szOf P e) els2)
  | .own e' sz els => do
    need (e' == e && sz == szOf P e && decide ((els.length + els2.length) * bytesOf P e ≤ most))
    put H dst (.own e sz (els ++ els2))
  | _ => .fail

/-- Elements are copied into a part of a row. -/
def copyD (P : Program) (H : Hint) (dst : Option Tmp) (e : TypeId) (els2 : List (List T)) (dx : D) : Prog Unit :=
  match dx with
  | .als q k sz lo n => do
    let (e', sz', els) ← rowAt q k
    need (sz == szOf P e && sz == sz' && decide (lo + n ≤ els.length))
    putPl q (.own e' sz' (els.take lo ++ els2.take n ++ els.drop (lo + min els2.length n)))
    put H dst (I (min els2.length n : Nat))
  | _ => .fail

/-- A function that has a body (and is not the one name that the machine answers itself). -/
def callOk (P : Program) (g : FuncId) : Bool :=
  match P.funcs[g]? with
  | some fn => !(fn.name == "runtime.NumGoroutine") && fn.body.isSome
  | none => false
/-- Bytes, one by one. -/
def bytesT : List (List T) → Option (List UInt8)
  | [] => some []
  | [.sc (.int .u8 n)] :: l => (bytesT l).map (UInt8.ofNat n.toNat :: ·)
  | _ => none
def isBytes (P : Program) (t : TypeId) : Bool :=
  match P.underlying t with
  | some (.slice e) => (match P.underlying e with | some (.int .u8) => true | _ => false)
  | _ => false
def convD (P : Program) (H : Hint) (D0 : Option Tmp) (src dst : TypeId) (a : D) : Prog Unit :=
  match a with
  | .t (.sc (.int _ n)) => do
    let k ← ofOpt (intOfT P dst)
    need (intOfT P src).isSome
    put H D0 (.t (.sc (.int k (k.wrap n))))
  | .t (.sc (.string s)) => do
    need (isStr P src && isStr P dst)
    put H D0 (.t (.sc (.string s)))
  | a => do
    need (isStr P dst && isBytes P src)
    let b ← lend a
    let els ← ofOpt b.els
    let bs ← ofOpt (bytesT els)
    put H D0 (.t (.sc (.string ⟨bs.toArray⟩)))
def pStep (P : Program) (H : Hint) (o : Oper) : Prog Unit :=
  match o.op with
  | .move x | .assign x => do put H o.dst (← take H x)
  | .pick c a b => do
    let c ← rd c
    let c ← ofOpt c.bool?
    put H o.dst (← take H (if c then a else b))
  | .alloc e => do
    let t ← ofOpt o.dst
    let c ← gB t
    need (c.isEmpty && zOk P e)
    pB t ((zeroOf P e).map fun v => .t (.sc v))
    pT t (.lp t 0)
  | .box e x => do
    let t ← ofOpt o.dst
    let d ← take H x
    need (d.cells.length == szOf P e && d.cells.all D.live && zOk P e)
    let ds ← resolveL (H.own.contains t) d.cells
    let c ← gB t
    need c.isEmpty
    bumpL (fun j => .bx t j) 0 ds
    pB t ds
    pT t (.lp t 0)
  | .build ty parts => do
    need (zOk P ty && buildOk P ty)
    let z := (zeroOf P ty).map fun v => D.t (.sc v)
    let place : Nat → Option (Nat × Nat) := fun i =>
      match arrOf P ty with
      | some (_, e) => some (i * szOf P e, szOf P e)
      | none => do
        let off ← offOf P ty i
        let (n, _) ← fszOf P ty i
        some (off, n)
    let cs ← fillD H place z parts.toList
    put H o.dst (.agg cs)
  | .buildSlice ty len parts => do
    let e ← ofOpt (elOf P ty)
    need (decide (len * szOf P e ≤ 2 ^ 24))
    let els ← fillE H (szOf P e) (List.replicate len ((zeroOf P e).map .sc)) parts.toList
    put H o.dst (.own e (szOf P e) (canonR (kinds P 8 e) els))
  | .load ty x => do
    need (zOk P ty)
    let a ← rd x
    let ds ← loadC a (szOf P ty)
    if aggT P ty then put H o.dst (.agg ds)
    else match ds with
      | [d] => put H o.dst d
      | _ => .fail
  | .store ty x v => do
    need (zOk P ty && o.dst.isNone)
    let a ← rd x
    let d ← take H v
    need (d.cells.length == szOf P ty && d.cells.all D.live)
    storeC H a d.cells
  | .nilCheck x => do
    let d ← rd x
    match d with
    | .t (.pt _) | .lp _ _ | .fp _ _ _ | .ept _ _ _ _ _ | .clo _ _ => put H o.dst d
    | d => do
      need (fnOf d).isSome
      put H o.dst d
  | .binOp op ty x y _ => do
    let a ← rd x
    let b ← rd y
    let v ← ofOpt (binD P op ty a b)
    put H o.dst (.t (.sc v))
  | .unOp op _ x => do
    let a ← rd x
    let v ← ofOpt (unD op a)
    put H o.dst (.t (.sc v))
  | .convert src dst x => do
    let a ← rdS x
    convD P H o.dst src dst a
  | .makeSlice ty l c => do
    let e ← ofOpt (elOf P ty)
    let l ← ofOpt (← rd l).int?
    let c ← ofOpt (← rd c).int?
    need (l == c && decide (0 ≤ l) && decide (l.toNat * bytesOf P e ≤ most))
    put H o.dst (.own e (szOf P e) (canonR (kinds P 8 e) (List.replicate l.toNat ((zeroOf P e).map .sc))))
  | .makeMap ty r => do
    need (r.isNone && isIntMap P ty)
    put H o.dst (.omap [])
  | .lookup ty x i ok => do
    need (isIntMap P ty)
    match ← rd x, ← rd i with
    | .mal q k, .t (.sc (.int .i64 n)) => do
      let kvs ← mapAt q k
      if ok then put H o.dst (.tup [I (kvGet n kvs).1, Bo (kvGet n kvs).2]) else put H o.dst (I (kvGet n kvs).1)
    | _, _ => .fail
  | .mapUpdate ty x i v => do
    need (isIntMap P ty && o.dst.isNone)
    match ← rd x, ← rd i, ← rd v with
    | .mal q k, .t (.sc (.int .i64 n)), .t (.sc (.int .i64 v)) => do
      let kvs ← mapAt q k
      putPl q (.omap (kvPut n v kvs))
    | _, _, _ => .fail
  | .slice ty x lo hi mx => do
    need mx.isNone
    let d ← rdS x
    let lo ← optInt lo
    let hi ← optInt hi
    let r ← ofOpt (sliceD P ty d lo hi)
    put H o.dst r
  | .fieldAddr ty x f => do
    let a ← rd x
    let off ← ofOpt (offOf P ty f)
    let (n, _) ← ofOpt (fszOf P ty f)
    need (decide (0 < n))
    let r ← ofOpt (shift a off)
    put H o.dst r
  | .field ty x f => do
    let d ← rd x
    let off ← ofOpt (offOf P ty f)
    let (n, ag) ← ofOpt (fszOf P ty f)
    match d with
    | .agg ds => do
      need (decide (off + n ≤ ds.length) && !hasOwnL ds)
      if ag then put H o.dst (.agg ((ds.drop off).take n))
      else put H o.dst (ds.getD off .dead)
    | _ => .fail
  | .indexAddr ty x i => do
    let i ← ofOpt (← rd i).int?
    match arrOf P ty with
    | some (n, e) => do
      need (decide (0 ≤ i) && decide (i < n))
      let a ← rd x
      let r ← ofOpt (shift a (i.toNat * szOf P e))
      put H o.dst r
    | none => do
      let e ← ofOpt (elOf P ty)
      match ← rdS x with
      | .t (.sl sz els) => do
        need (sz == szOf P e && decide (0 ≤ i) && decide (i < els.length))
        put H o.dst (.t (.pt (els.getD i.toNat [])))
      | .als q k sz lo n => do
        let (_, sz', _) ← rowAt q k
        need (sz == szOf P e && sz == sz' && decide (0 ≤ i) && decide (i < n))
        put H o.dst (.ept q k sz (lo + i.toNat) 0)
      | _ => .fail
  | .index ty x i => do
    let i ← ofOpt (← rd i).int?
    match ← rd x with
    | .t (.sc (.string s)) => do
      need (isStr P ty && decide (0 ≤ i) && decide (i < s.size))
      put H o.dst (.t (.sc (.int .u8 (s.data.getD i.toNat 0).toNat)))
    | .agg ds => do
      let (n, e) ← ofOpt (arrOf P ty)
      need (decide (0 ≤ i) && decide (i < n) && decide (n * szOf P e ≤ ds.length) && !hasOwnL ds)
      if aggT P e then put H o.dst (.agg ((ds.drop (i.toNat * szOf P e)).take (szOf P e)))
      else put H o.dst (ds.getD (i.toNat * szOf P e) .dead)
    | _ => .fail
  | .extract x i =>
    match x with
    | .tmp t => do
      match ← gT t with
      | .tup ds => do
        let d ← ofOpt ds[i]?
        if d.hasOwn then do
          pT t (.tup (ds.set i .dead))
          put H o.dst d
        else put H o.dst d
      | _ => .fail
    | _ => .fail
  | .makeFunc (.func g) first captured => do
    need first.isEmpty
    if captured.isEmpty then put H o.dst (.t (.sc (.func (.func g) #[] #[])))
    else do
      let ds ← rds captured.toList
      need (ds.all D.ptr)
      put H o.dst (.clo g ds)
  | .call c =>
    match c.callee with
    | .builtin .len => do
      match c.args.toList, c.argTypes.toList with
      | [x], [t] => do
        let d ← rd x
        match d with
        | .t (.sc (.string s)) => do
          need (isStr P t)
          put H o.dst (I s.size)
        | d => do
          need (isSliceT P t)
          let n ← ofOpt (lenD d)
          put H o.dst (I n)
      | _, _ => .fail
    | .builtin .append => do
      match c.args.toList, c.argTypes.toList with
      | [x, y], [t, t'] => do
        need (t == t')
        appendD P H o.dst t x y
      | _, _ => .fail
    | .builtin .min => do
      match c.args.toList with
      | [x, y] => do
        match ← rd x, ← rd y with
        | .t (.sc (.int .i64 a)), .t (.sc (.int .i64 b)) => put H o.dst (I (min a b))
        | _, _ => .fail
      | [x, y, z] => do
        match ← rd x, ← rd y, ← rd z with
        | .t (.sc (.int .i64 a)), .t (.sc (.int .i64 b)), .t (.sc (.int .i64 c)) => put H o.dst (I (min (min a b) c))
        | _, _, _ => .fail
      | _ => .fail
    | .builtin .max => do
      match c.args.toList with
      | [x, y] => do
        match ← rd x, ← rd y with
        | .t (.sc (.int .i64 a)), .t (.sc (.int .i64 b)) => put H o.dst (I (max a b))
        | _, _ => .fail
      | [x, y, z] => do
        match ← rd x, ← rd y, ← rd z with
        | .t (.sc (.int .i64 a)), .t (.sc (.int .i64 b)), .t (.sc (.int .i64 c)) => put H o.dst (I (max (max a b) c))
        | _, _, _ => .fail
      | _ => .fail
    | .builtin .copy => do
      match c.args.toList, c.argTypes.toList with
      | [x, y], [t, _] => do
        let e ← ofOpt (elOf P t)
        let dy ← rdS y
        let dx ← rdS x
        let b ← lend dy
        let els2 ← ofOpt b.els
        need (els2.all fun c => c.length == szOf P e)
        copyD P H o.dst e els2 dx
      | _, _ => .fail
    | .builtin .cap => do
      match c.args.toList, c.argTypes.toList with
      | [x], [t] => do
        match ← rd x with
        | .t (.sc (.slice none 0 0)) => do
          need (isSliceT P t)
          put H o.dst (I 0)
        | _ => .fail
      | _, _ => .fail
    | .value f => do
      match ← rd f with
      | .clo g caps => do
        need (callOk P g)
        callD H o.dst g caps c.args.toList
      | d => do
        let g ← ofOpt (fnOf d)
        need (callOk P g)
        callD H o.dst g [] c.args.toList
    | _ => .fail
  | _ => .fail

/-- The operation, under its guard. -/
def gStep (P : Program) (H : Hint) (ops : Array Oper) (o : Oper) : Prog Unit :=
  match o.guard with
  | none => pStep P H o
  | some (j, want) =>
    match (ops[j]?).bind (·.dst) with
    | some t => do
      let b ← ofOpt ((← gT t).want? want)
      if b then pStep P H o
      else match o.dst with
        | some d => pT d (.tup [])
        | none => .ret ()
    | none => .fail

/-! ### code -/
inductive Out where
  | normal
  | exit (id : Nat)
  | ret
  | panic (x : T)
  deriving Inhabited

def runOps (P : Program) (H : Hint) (C : Callee) (ops : Array Oper) : List Oper → St → Option (Out × St)
  | [], σ => some (.normal, σ)
  | o :: rest, σ =>
    match (gStep P H ops o).run C σ with
    | some (.ok _, σ) => runOps P H C ops rest σ
    | _ => none
/-- In the order of the text, with each operation's trace. -/
def runTr (P : Program) (H : Hint) (C : Callee) (ops : Array Oper) : List Oper → St → Option (List Tr × St)
  | [], σ => some ([], σ)
  | o :: rest, σ =>
    match (gStep P H ops o).runT C σ with
    | some (_, σ, tr) => (runTr P H C ops rest σ).map fun r => (tr :: r.1, r.2)
    | none => none
/-- What comes before an operation, as bits. -/
def predsOf (acc : List Nat) (o : Oper) : Nat := o.after.toList.foldl (fun s e => if Region.binds .any e then s ||| 2 ^ e.on ||| acc.getD e.on 0 else s) 0
def befs : List Oper → List Nat → List Nat
  | [], acc => acc
  | o :: r, acc => befs r (acc ++ [predsOf acc o])
/-- What binds goes back. -/
def backs : List Oper → Nat → Bool
  | [], _ => true
  | o :: r, k => o.after.toList.all (fun e => !Region.binds .any e || decide (e.on < k)) && backs r (k + 1)
/-- Of any two operations that meet the earlier one must come first. -/
def orderly (ops : Array Oper) (trs : List Tr) : Bool :=
  backs ops.toList 0 && (List.range trs.length).all fun j => (List.range j).all fun i =>
    !((trs.getD i ⟨[], []⟩).meets (trs.getD j ⟨[], []⟩)) || ((befs ops.toList []).getD j 0).testBit i

/-- Behind a statement. -/
def St.over (σ : St) : St := { tm := scrubL σ.tm, bx := σ.bx, fr := σ.fr }

def seamT : List (Nat × List Mode) → List D → List D
  | [], tm => tm
  | (s, ms) :: r, tm => seamT r (tm.set s (seam1 ms (tm.getD s .dead)))
def seamB : List (Nat × List Mode) → List (List D) → List (List D)
  | [], bx => bx
  | (s, ms) :: r, bx => seamB r (bx.set s (seamL ms (bx.getD s [])))
/-- Nil slices are told as the hints say. -/
def St.seam (H : Hint) (σ : St) : St := { σ with tm := seamT H.row σ.tm, bx := seamB H.row σ.bx }

mutual
/-- What of a value survives at a loop's head: names of places and of boxes that are let go fall away. -/
def trim (keep : List Nat) : D → D
  | .als _ _ _ _ _ | .ept _ _ _ _ _ | .mal _ _ => .dead
  | .lp s o => if keep.contains s then .lp s o else .dead
  | .agg ds => .agg (trimL keep ds)
  | .tup ds => .tup (trimL keep ds)
  | .clo f ds => if (trimL keep ds).all D.ptr then .clo f ds else .dead
  | d => d
def trimL (keep : List Nat) : List D → List D
  | [] => []
  | d :: ds => trim keep d :: trimL keep ds
end
def norm (keep : List Nat) (σ : St) : St :=
  { σ with tm := σ.tm.mapIdx fun i d => if keep.contains i then trim keep d else .dead,
           bx := σ.bx.mapIdx fun i c => if keep.contains i then trimL keep c else [],
           fr := σ.fr.map fun b => b.map (trimL keep) }
/-- A piece of code goes by its first region. -/
def firstR : Code → Nat
  | .region i _ _ => i
  | .seq a _ => firstR a
  | .cond _ a _ => firstR a
  | .block _ c => firstR c
  | .loop c => firstR c
  | .scope c => firstR c
  | _ => 0
/-- What is kept at the head of a loop. -/
def lookN (n : Nat) : List (Nat × List Nat) → List Nat
  | [] => []
  | (m, l) :: r => if m = n then l else lookN n r
def Hint.at (H : Hint) (c : Code) : List Nat := lookN (firstR c) H.keep
def Hint.outAt (H : Hint) (c : Code) : List Nat := lookN (firstR c) H.out

def exec (P : Program) (H : Hint) (C : Callee) : Nat → Code → St → Option (Out × St)
  | 0, _, _ => none
  | _ + 1, .skip, σ => some (.normal, σ)
  | _ + 1, .region _ ops false, σ => (runOps P H C ops ops.toList σ).map fun r => (r.1, r.2.over.seam H)
  | _ + 1, .region _ ops true, σ =>
    match runTr P H C ops ops.toList σ with
    | some (trs, σ) => if orderly ops trs then some (.normal, σ.over.seam H) else none
    | none => none
  | k + 1, .seq a b, σ =>
    match exec P H C k a σ with
    | some (.normal, σ) => exec P H C k b σ
    | r => r
  | k + 1, .cond c a b, σ =>
    match (rd c).run C σ with
    | some (.ok d, σ) =>
      match d.bool? with
      | some b' => exec P H C k (if b' then a else b) σ
      | none => none
    | _ => none
  | k + 1, .block id c, σ =>
    match exec P H C k c σ with
    | some (.exit i, σ) => if i = id then some (.normal, σ) else some (.exit i, σ)
    | r => r
  | k + 1, .loop c, σ =>
    match exec P H C k c (norm (H.at c) σ) with
    | some (.normal, σ) => exec P H C k (.loop c) σ
    | some (o, σ) => some (o, norm (H.outAt c) σ)
    | none => none
  | _ + 1, .exit id, σ => some (.exit id, σ)
  | _ + 1, .ret, σ => some (.ret, σ)
  | _ + 1, .label _, σ => some (.normal, σ)
  | _ + 1, _, _ => none

/-- What lay in a box that is left: rows are shared from now on. -/
def D.shared : D → D
  | .own _ sz els => .t (.sl sz els)
  | .omap _ => .dead
  | d => d
/-- A function's results. -/
def resOf (P : Program) (shr : List Nat) : List ResultVar → St → Option (List D)
  | [], _ => some []
  | .tmp t :: rest, σ => (resOf P shr rest σ).map ((if shr.contains t then (σ.tm.getD t .dead).common else σ.tm.getD t .dead) :: ·)
  | .cell a ty :: rest, σ =>
    match σ.tm.getD a .dead with
    | .lp s 0 =>
      let c := σ.bx.getD s []
      if c.length = szOf P ty ∧ zOk P ty = true ∧ (shr.contains (s + 4096) = true → rest.isEmpty = true ∧ aggT P ty = true) then
        if aggT P ty then (resOf P shr rest σ).map (.agg (if shr.contains (s + 4096) then c else c.map D.shared) :: ·)
        else match c with
          | [d] => (resOf P shr rest σ).map (d.shared :: ·)
          | _ => none
      else none
    | _ => none
mutual
/-- What a result may be. -/
def D.outOk : D → Bool
  | .t _ | .own _ _ _ | .omap _ | .fp _ _ _ => true
  | .agg ds => outOkL ds
  | .tup ds => outOkL ds
  | _ => false
def outOkL : List D → Bool
  | [] => true
  | d :: ds => d.outOk && outOkL ds
end
def res1 : List D → D
  | [d] => d
  | ds => .tup ds
/-- Slots of results, each once. -/
def resSlots : List ResultVar → List Nat
  | [] => []
  | .tmp t :: rest => t :: resSlots rest
  | .cell _ _ :: rest => resSlots rest

/-- What an outer frame may hold when a frame is left: no pointer into it. -/
def D.outer : D → Bool
  | .lp _ _ => false
  | .clo _ cs => cs.all fun d => match d with | .lp _ _ => false | _ => true
  | _ => true
/-- Functions whose answer is told: proved apart. -/
abbrev Told := FuncId → Option (List D → Frames → Option (D × Frames))
/-- One that leaves the frames as they are. -/
def plainT (s : List D → Option D) : List D → Frames → Option (D × Frames) := fun args fr => (s args).map fun d => (d, fr)
structure Lore where
  hint : FuncId → Hint
  told : Told

/-- A call's arguments and answer, with nil slices told as the hints say. -/
def Res.seam (ms : List (List Mode)) : Res → Res
  | .val d => .val (seamR ms d)
  | .pan x => .pan x
def wrapC (R : Lore) (C : Callee) : Callee := fun f args fr => (C f (seamVs (noOwn (R.hint f).par) args) fr).map fun r => (r.1.seam (R.hint f).res, r.2)
/-- A call, by what the functions answer that it calls. -/
def call1 (P : Program) (R : Lore) (C : Callee) (k : Nat) : Callee := fun f args fr =>
    match R.told f with
    | some s => (s args fr).map fun x => (.val x.1, x.2)
    | none =>
      match P.funcs[f]? with
      | some fn =>
        match fn.body with
        | some c =>
          match exec P (R.hint f) C (k + 1) c { tm := args ++ List.replicate (fn.ntmps - args.length) .dead, bx := List.replicate fn.ntmps [], fr := fr } with
          | some (.panic _, _) => none
          | some (.exit _, _) => none
          | some (_, σ) =>
            match resOf P (R.hint f).shr fn.results.toList σ with
            | some ds => if outOkL ds && decide (resSlots fn.results.toList).Nodup && σ.fr.all (fun b => b.all fun c => c.all D.outer) then some (.val (res1 ds), σ.fr) else none
            | none => none
          | none => none
        | none => none
      | none => none
def call (P : Program) (R : Lore) : Nat → Callee
  | 0 => fun _ _ _ => none
  | k + 1 => wrapC R (call1 P R (call P R k) k)
end Go.Pv

/- What the pure values say of memory: the relation between a pure state and the machine's, and how it is kept. -/
namespace Go.Pv
open Go.RowKit

/-- Places, told for all frames: a slot (or a part of what lies in it), a cell of a box, a value on its way. -/
inductive Ap where
  | tm (fr t : Nat) (path : List Nat)
  | bc (fr s off : Nat)
  | pn (fr i : Nat) (path : List Nat)
  deriving DecidableEq
def Ap.sub : Ap → Nat → Ap
  | .tm f t p, i => .tm f t (p ++ [i])
  | .pn f t p, i => .pn f t (p ++ [i])
  | .bc f s o, _ => .bc f s o
/-- The frame in which alone a place is: none: a box may be known to inner frames. -/
def Ap.frame : Ap → Option Nat
  | .tm f _ _ => some f
  | .pn f _ _ => some f
  | .bc _ _ _ => none
def Pl.abs (fr : Nat) : Pl → Ap
  | .tm t => .tm fr t []
  | .bx s o => .bc fr s o
  | .fb f s o => .bc f s o
/-- A place that a frame may name. -/
def Pl.ok (fr : Nat) : Pl → Prop
  | .fb f _ _ => f < fr
  | _ => True
/-- What a block is for. -/
inductive Tag where
  | box (fr s : Nat)
  | own (p : Ap)
  | junk
  deriving DecidableEq
structure Gh where
  L : Nat → Option Tag            -- none: shared, nobody writes it
  hv : Ap → Nat → Value           -- the rows that stood at a place
  hb : Nat → Nat → Nat            -- the blocks of boxes
  al : Nat → Nat → Prop           -- which boxes there are
abbrev Gh.sh (G : Gh) : Nat → Prop := fun b => G.L b = none

/-! ### shared data -/
inductive RT (ok : Nat → Prop) (w : World) : Value → T → Prop where
  | sc (v : Value) (h : v.oneCell' = true) : RT ok w v (.sc v)
  | sl (A : Option Addr) (n cap sz : Nat) (els : List (List T)) (f : Nat → Nat → Value) (hn : n = els.length) (hc : n ≤ cap) (hz : ∀ e ∈ els, e.length = sz)
      (hA : els ≠ [] → ∃ a, A = some a ∧ (ok a.block ∧ a.block < w.heap.size) ∧ ∀ i e j x, els[i]? = some e → e[j]? = some x → w.cell? (a.add (i * sz + j)) = some (f i j))
      (hR : ∀ i e j x, els[i]? = some e → e[j]? = some x → RT ok w (f i j) x) : RT ok w (.slice A n cap) (.sl sz els)
  | pt (a : Addr) (cs : List T) (f : Nat → Value) (ho : ok a.block ∧ a.block < w.heap.size) (hc : ∀ j x, cs[j]? = some x → w.cell? (a.add j) = some (f j))
      (hR : ∀ j x, cs[j]? = some x → RT ok w (f j) x) : RT ok w (.pointer (some a)) (.pt cs)
theorem RT.one {ok : Nat → Prop} {w : World} {v : Value} {x : T} (h : RT ok w v x) : v.oneCell' = true := by
  cases h <;> first | assumption | rfl
theorem Addr.block_add (a : Addr) (n : Nat) : (a.add n).block = a.block := by unfold Addr.add; split <;> rfl
theorem RT.mono {ok ok' : Nat → Prop} {w w' : World} (hk : ∀ b, ok b → b < w.heap.size → ok' b ∧ w'.heap[b]? = w.heap[b]?) {v : Value} {x : T} (h : RT ok w v x) : RT ok' w' v x := by
  have key : ∀ b, ok b ∧ b < w.heap.size → ok' b ∧ b < w'.heap.size := fun b hb => by
    have := hk b hb.1 hb.2
    refine ⟨this.1, ?_⟩
    have e := this.2
    rw [Array.getElem?_eq_getElem hb.2] at e
    exact (Array.getElem?_eq_some_iff.1 e).1
  induction h with
  | sc v h => exact .sc v h
  | sl A n cap sz els f hn hc hz hA hR ih =>
    refine .sl A n cap sz els f hn hc hz (fun hne => ?_) ih
    obtain ⟨a, e, ho, hcell⟩ := hA hne
    refine ⟨a, e, key _ ho, fun i e j x hi hj => ?_⟩
    have h1 := hcell i e j x hi hj
    have hb := block_lt_of_cell h1
    rw [Addr.block_add] at hb
    exact (World.cell?_of_block (by rw [Addr.block_add]; exact (hk _ ho.1 hb).2)).trans h1
  | pt a cs f ho hc hR ih =>
    refine .pt a cs f (key _ ho) (fun j x hj => ?_) ih
    have h1 := hc j x hj
    have hb := block_lt_of_cell h1
    rw [Addr.block_add] at hb
    exact (World.cell?_of_block (by rw [Addr.block_add]; exact (hk _ ho.1 hb).2)).trans h1
/-- A row's cells, as elements. -/
structure RTrow (ok : Nat → Prop) (w : World) (sz : Nat) (us : List Value) (els : List (List T)) : Prop where
  len : us.length = els.length * sz
  each : ∀ e ∈ els, e.length = sz
  cell : ∀ i e j x, els[i]? = some e → e[j]? = some x → ∃ u, us[i * sz + j]? = some u ∧ RT ok w u x
theorem RTrow.mono {ok ok' : Nat → Prop} {w w' : World} (hk : ∀ b, ok b → b < w.heap.size → ok' b ∧ w'.heap[b]? = w.heap[b]?) {sz : Nat} {us : List Value} {els : List (List T)} (h : RTrow ok w sz us els) : RTrow ok' w' sz us els :=
  ⟨h.len, h.each, fun i e j x hi hj => let ⟨u, hu, hr⟩ := h.cell i e j x hi hj; ⟨u, hu, hr.mono hk⟩⟩

/-- A map's entries. -/
def RM (es : Array MapEntry) (kvs : List (Int × Int)) : Prop := es.toList.map (fun e => (e.key, e.val)) = kvs.map fun (a, b) => (Value.int .i64 a, Value.int .i64 b)

/-! ### values of a frame -/
inductive VD (B fr : Nat) (G : Gh) (vr : Pl → Nat) (w : World) : Ap → Value → D → Prop where
  | t (p : Ap) (v : Value) (x : T) (h : RT G.sh w v x) : VD B fr G vr w p v (.t x)
  | agg (p : Ap) (us : Array Value) (ds : List D) (hs : us.size = ds.length) (h1 : ∀ u ∈ us, u.oneCell' = true)
      (h : ∀ i u d, us[i]? = some u → ds[i]? = some d → VD B fr G vr w (p.sub i) u d) : VD B fr G vr w p (.agg us) (.agg ds)
  | tup (p : Ap) (us : Array Value) (ds : List D) (hs : us.size = ds.length)
      (h : ∀ i u d, us[i]? = some u → ds[i]? = some d → VD B fr G vr w (p.sub i) u d) : VD B fr G vr w p (.tuple us) (.tup ds)
  | own (p : Ap) (v : Value) (e : TypeId) (sz : Nat) (els : List (List T)) (us : List Value) (ho : w.ownsRow B e sz v els.length us) (hr : RTrow G.sh w sz us els) (hsz : 0 < sz)
      (hL : ∀ g, v.ownBlock = some g → G.L g = some (.own p)) (hq : ∀ q : Pl, q.ok fr → q.abs fr = p → G.hv p (vr q) = v) : VD B fr G vr w p v (.own e sz els)
  | omap (p : Ap) (g : Nat) (es : Array MapEntry) (clock : Nat) (kvs : List (Int × Int)) (hg : w.heap[g]? = some (.map es clock)) (hm : RM es kvs) (hB : B ≤ g)
      (hL : G.L g = some (.own p)) (hq : ∀ q : Pl, q.ok fr → q.abs fr = p → G.hv p (vr q) = .map (some g)) : VD B fr G vr w p (.map (some g)) (.omap kvs)
  | alsN (p : Ap) (q : Pl) (k sz lo : Nat) (hk : q.ok fr ∧ k ≤ vr q) (hv : G.hv (q.abs fr) k = .slice none 0 0) : VD B fr G vr w p (.slice none 0 0) (.als q k sz lo 0)
  | als (p : Ap) (q : Pl) (k sz lo n g c cap cap' : Nat) (hk : q.ok fr ∧ k ≤ vr q) (hv : G.hv (q.abs fr) k = .slice (some ⟨g, 0, none⟩) c cap) (hn : n ≤ cap') (hc : lo + cap' = cap) (o : Nat) (hoff : o = lo * sz ∨ cap' = 0 ∧ 0 < lo) :
      VD B fr G vr w p (.slice (some ⟨g, o, none⟩) n cap') (.als q k sz lo n)
  | mal (p : Ap) (q : Pl) (k : Nat) (hk : q.ok fr ∧ k ≤ vr q) (g : Nat) (hv : G.hv (q.abs fr) k = .map (some g)) : VD B fr G vr w p (.map (some g)) (.mal q k)
  | ept (p : Ap) (q : Pl) (k sz i off g c cap : Nat) (hk : q.ok fr ∧ k ≤ vr q) (hv : G.hv (q.abs fr) k = .slice (some ⟨g, 0, none⟩) c cap) :
      VD B fr G vr w p (.pointer (some ⟨g, i * sz + off, none⟩)) (.ept q k sz i off)
  | lp (p : Ap) (s o : Nat) (ha : G.al fr s) : VD B fr G vr w p (.pointer (some ⟨G.hb fr s, o, none⟩)) (.lp s o)
  | fp (p : Ap) (f s o : Nat) (hf : f < fr) (ha : G.al f s) : VD B fr G vr w p (.pointer (some ⟨G.hb f s, o, none⟩)) (.fp f s o)
  | clo (p : Ap) (f : FuncId) (us : Array Value) (ds : List D) (hs : us.size = ds.length) (hno : ds.all D.ptr = true)
      (h : ∀ i u d, us[i]? = some u → ds[i]? = some d → VD B fr G vr w (p.sub i) u d) : VD B fr G vr w p (.func (.func f) #[] us) (.clo f ds)
  | dead (p : Ap) (v : Value) : VD B fr G vr w p v .dead

/-- How a world and what is told of it may turn, so that values stay what they are; KP: the places whose rows stay. -/
structure Keep (fr : Nat) (G : Gh) (vr : Pl → Nat) (w : World) (G' : Gh) (vr' : Pl → Nat) (w' : World) (KP : Ap → Prop) (KB : Nat → Nat → Prop) : Prop where
  size : w.heap.size ≤ w'.heap.size
  sh : ∀ g, g < w.heap.size → G.L g = none → G'.L g = none
  shw : ∀ g, G.L g = none → g < w.heap.size → w'.heap[g]? = w.heap[g]?
  own : ∀ g p, G.L g = some (.own p) → KP p → G'.L g = some (.own p) ∧ w'.heap[g]? = w.heap[g]?
  vle : ∀ q, vr q ≤ vr' q
  vsame : ∀ q : Pl, KP (q.abs fr) → vr' q = vr q
  hv : ∀ (q : Pl) k, q.ok fr → k ≤ vr q → G'.hv (q.abs fr) k = G.hv (q.abs fr) k
  al : ∀ f s, G.al f s → G'.al f s ∧ G'.hb f s = G.hb f s
  box : ∀ f s, G.al f s → KB f s → G'.L (G.hb f s) = G.L (G.hb f s) ∧ w'.heap[G.hb f s]? = w.heap[G.hb f s]?

/-- The places of a value, told for its own place. -/
def Closed (KP : Ap → Prop) : Prop := ∀ p i, KP p → KP (p.sub i)

theorem ownsRow_same {w w' : World} {B : Nat} {e : TypeId} {sz n : Nat} {v : Value} {us : List Value} (h : w.ownsRow B e sz v n us) (hk : ∀ g, v.ownBlock = some g → w'.heap[g]? = w.heap[g]?) : w'.ownsRow B e sz v n us := by
  refine ⟨h.1, ?_⟩
  rcases h.2 with hn | ⟨g, cap, cur, rfl, hb, hg, r⟩
  · exact .inl hn
  · exact .inr ⟨g, cap, cur, rfl, hb, by rw [hk g rfl]; exact hg, r⟩

theorem D.ptr_own {d : D} (h : d.ptr = true) : d.hasOwn = false := by cases d <;> first | rfl | cases h
theorem VD.keep {B fr : Nat} {G G' : Gh} {vr vr' : Pl → Nat} {w w' : World} {KP : Ap → Prop} {KB : Nat → Nat → Prop} (K : Keep fr G vr w G' vr' w' KP KB) (hC : Closed KP) {p : Ap} {v : Value} {d : D}
    (h : VD B fr G vr w p v d) (hp : d.hasOwn = true → KP p) : VD B fr G' vr' w' p v d := by
  have hrt : ∀ b, G.sh b → b < w.heap.size → G'.sh b ∧ w'.heap[b]? = w.heap[b]? := fun b hb hl => ⟨K.sh b hl hb, K.shw b hb hl⟩
  induction h with
  | t p v x h => exact .t p v x (h.mono hrt)
  | agg p us ds hs h1 h ih =>
    refine .agg p us ds hs h1 fun i u d hu hd => ih i u d hu hd fun ho => hC p i (hp ?_)
    exact hasOwnL_of hd ho
  | tup p us ds hs h ih =>
    refine .tup p us ds hs fun i u d hu hd => ih i u d hu hd fun ho => hC p i (hp ?_)
    exact hasOwnL_of hd ho
  | own p v e sz els us ho hr hsz hL hq =>
    have hk := hp rfl
    refine .own p v e sz els us (ownsRow_same ho fun g hg => (K.own g p (hL g hg) hk).2) (hr.mono hrt) hsz (fun g hg => (K.own g p (hL g hg) hk).1) fun q hok e => ?_
    subst e
    rw [K.vsame q hk, K.hv q _ hok (Nat.le_refl _)]
    exact hq q hok rfl
  | omap p g es clock kvs hg hm hB hL hq =>
    have hk := hp rfl
    refine .omap p g es clock kvs (by rw [(K.own g p hL hk).2]; exact hg) hm hB (K.own g p hL hk).1 fun q hok e => ?_
    subst e
    rw [K.vsame q hk, K.hv q _ hok (Nat.le_refl _)]
    exact hq q hok rfl
  | alsN p q k sz lo hk hv => exact .alsN p q k sz lo ⟨hk.1, Nat.le_trans hk.2 (K.vle q)⟩ (by rw [K.hv q k hk.1 hk.2]; exact hv)
  | als p q k sz lo n g c cap cap' hk hv hn hc o ho => exact .als p q k sz lo n g c cap cap' ⟨hk.1, Nat.le_trans hk.2 (K.vle q)⟩ (by rw [K.hv q k hk.1 hk.2]; exact hv) hn hc o ho
  | mal p q k hk g hv => exact .mal p q k ⟨hk.1, Nat.le_trans hk.2 (K.vle q)⟩ g (by rw [K.hv q k hk.1 hk.2]; exact hv)
  | ept p q k sz i off g c cap hk hv => exact .ept p q k sz i off g c cap ⟨hk.1, Nat.le_trans hk.2 (K.vle q)⟩ (by rw [K.hv q k hk.1 hk.2]; exact hv)
  | lp p s o ha =>
    have := K.al fr s ha
    rw [← this.2]
    exact .lp p s o this.1
  | fp p f s o hf ha =>
    have := K.al f s ha
    rw [← this.2]
    exact .fp p f s o hf this.1
  | clo p f us ds hs hno h ih =>
    refine .clo p f us ds hs hno fun i u d hu hd => ih i u d hu hd fun ho => ?_
    rw [D.ptr_own (List.all_eq_true.1 hno d (List.mem_of_getElem? hd))] at ho
    cases ho
  | dead p v => exact .dead p v
where
  hasOwnL_of {ds : List D} {i : Nat} {d : D} (hd : ds[i]? = some d) (ho : d.hasOwn = true) : hasOwnL ds = true := by
    induction ds generalizing i with
    | nil => simp at hd
    | cons a l ih =>
      simp only [hasOwnL, Bool.or_eq_true]
      cases i with
      | zero => simp at hd; subst hd; exact .inl ho
      | succ i => exact .inr (ih (by simpa using hd))
theorem Keep.weaken {fr : Nat} {G : Gh} {vr : Pl → Nat} {w : World} {G' : Gh} {vr' : Pl → Nat} {w' : World} {KP KP' : Ap → Prop} {KB KB' : Nat → Nat → Prop} (K : Keep fr G vr w G' vr' w' KP KB) (h : ∀ p, KP' p → KP p) (hb : ∀ f s, KB' f s → KB f s) : Keep fr G vr w G' vr' w' KP' KB' :=
  ⟨K.size, K.sh, K.shw, fun g p a b => K.own g p a (h p b), K.vle, fun q a => K.vsame q (h _ a), K.hv, K.al, fun f s a b => K.box f s a (hb f s b)⟩
def Ap.isPn : Ap → Bool
  | .pn _ _ _ => true
  | _ => false
theorem VD.okq {B fr : Nat} {G : Gh} {vr : Pl → Nat} {w : World} {p : Ap} {v : Value} {q : Pl} {k sz lo n : Nat} (h : VD B fr G vr w p v (.als q k sz lo n)) : q.ok fr := by
  cases h with
  | alsN p q k sz lo hk hv => exact hk.1
  | als p q k sz lo n g c cap cap' hk hv hn hc o ho => exact hk.1
theorem VD.okm {B fr : Nat} {G : Gh} {vr : Pl → Nat} {w : World} {p : Ap} {v : Value} {q : Pl} {k : Nat} (h : VD B fr G vr w p v (.mal q k)) : q.ok fr := by
  cases h with
  | mal p q k hk g hv => exact hk.1
theorem RT.nil0 {ok : Nat → Prop} {w : World} (sz : Nat) : RT ok w (.slice none 0 0) (.sl sz []) :=
  .sl none 0 0 sz [] (fun _ _ => .slice none 0 0) rfl (Nat.le_refl _) (fun e h => by cases h) (fun h => absurd rfl h) (fun i e j x hi => by simp at hi)
theorem RT.canon1 {ok : Nat → Prop} {w : World} {v : Value} {x : T} (h : RT ok w v x) (k : Option (Nat × TypeId)) : RT ok w v (canon1 k x) := by
  unfold Pv.canon1
  split
  · cases h; exact RT.nil0 _
  · exact h
theorem length_canonC (ks : List (Option (Nat × TypeId))) (xs : List T) : (canonC ks xs).length = xs.length := by
  induction ks generalizing xs with
  | nil => cases xs <;> rfl
  | cons k ks ih => cases xs with
    | nil => rfl
    | cons x xs => simp [canonC, ih]
theorem canonC_at {ks : List (Option (Nat × TypeId))} {xs : List T} {j : Nat} {x : T} (h : (canonC ks xs)[j]? = some x) : ∃ k x0, xs[j]? = some x0 ∧ x = canon1 k x0 := by
  have h0 : ∀ x, canon1 none x = x := fun x => by cases x <;> rfl
  induction ks generalizing xs j with
  | nil =>
    cases xs with
    | nil => simp [canonC] at h
    | cons y ys => exact ⟨none, x, h, (h0 x).symm⟩
  | cons k ks ih =>
    cases xs with
    | nil => simp [canonC] at h
    | cons y ys =>
      cases j with
      | zero => cases h; exact ⟨k, y, rfl, rfl⟩
      | succ j => exact ih (xs := ys) (j := j) h
theorem RTrow.canon {ok : Nat → Prop} {w : World} {sz : Nat} {us : List Value} {els : List (List T)} (h : RTrow ok w sz us els) (ks : List (Option (Nat × TypeId))) : RTrow ok w sz us (canonR ks els) := by
  refine ⟨by rw [canonR, List.length_map]; exact h.len, fun e he => ?_, fun i e j x hi hj => ?_⟩
  · obtain ⟨e0, h0, rfl⟩ := List.mem_map.1 he
    rw [length_canonC]; exact h.each e0 h0
  · rw [canonR, List.getElem?_map, Option.map_eq_some_iff] at hi
    obtain ⟨e0, h0, rfl⟩ := hi
    obtain ⟨k, x0, hx, rfl⟩ := canonC_at hj
    obtain ⟨u, hu, hr⟩ := h.cell i e0 j x0 h0 hx
    exact ⟨u, hu, hr.canon1 k⟩
theorem VD.canon {B fr : Nat} {G : Gh} {vr : Pl → Nat} {w : World} {p : Ap} {v : Value} {e : TypeId} {sz : Nat} {els : List (List T)} (h : VD B fr G vr w p v (.own e sz els)) (ks : List (Option (Nat × TypeId))) : VD B fr G vr w p v (.own e sz (canonR ks els)) := by
  cases h with
  | own p v e sz els us ho hr hsz hL hq => exact .own _ v e sz _ us (by rw [canonR, List.length_map]; exact ho) (hr.canon ks) hsz hL hq
end Go.Pv

/- The relation between states, and the steps that turn what is told without turning the machine. -/
namespace Go.Pv
open Go.RowKit

structure BoxOk (B fr : Nat) (G : Gh) (vr : Pl → Nat) (w : World) (f s : Nat) (c : List D) : Prop where
  al : G.al f s
  tag : G.L (G.hb f s) = some (.box f s)
  bare : ∀ d ∈ c, d.bare = true
  ex : ∃ us T, w.heap[G.hb f s]? = some (.cells us T (0, 0)) ∧ us.size = c.length ∧ (∀ u ∈ us, u.oneCell' = true) ∧ ∀ o u d, us[o]? = some u → c[o]? = some d → VD B fr G vr w (.bc f s o) u d

theorem BoxOk.keep {B fr : Nat} {G G' : Gh} {vr vr' : Pl → Nat} {w w' : World} {KP : Ap → Prop} {KB : Nat → Nat → Prop} (K : Keep fr G vr w G' vr' w' KP KB) (hC : Closed KP) {f s : Nat} {c : List D}
    (h : BoxOk B fr G vr w f s c) (hb : KB f s) (hp : ∀ o d, c[o]? = some d → d.hasOwn = true → KP (.bc f s o)) : BoxOk B fr G' vr' w' f s c := by
  obtain ⟨ha, ht, hbare, us, T, hg, hs, h1, hv⟩ := h
  have h2 := K.al f s ha
  have h3 := K.box f s ha hb
  refine ⟨h2.1, by rw [h2.2, h3.1]; exact ht, hbare, us, T, by rw [h2.2, h3.2]; exact hg, hs, h1, fun o u d hu hd => (hv o u d hu hd).keep K hC (hp o d hd)⟩

/-- A box of which nothing is told is not there. -/
def BoxN (fr : Nat) (G : Gh) (σ : St) : Prop := (∀ s, σ.bx.getD s [] = [] → ¬ G.al fr s) ∧ ∀ (f : Nat) b, σ.fr[f]? = some b → ∀ s, b.getD s [] = [] → ¬ G.al f s
structure Sim (B fr : Nat) (G : Gh) (σ : St) (act : Act) (w : World) : Prop where
  len : act.tmps.size = σ.tm.length
  tms : ∀ t d, σ.tm[t]? = some d → VD B fr G σ.verAt w (.tm fr t []) (act.tmps.getD t undef) d
  bxs : ∀ s c, σ.bx[s]? = some c → c ≠ [] → BoxOk B fr G σ.verAt w fr s c
  bxn : BoxN fr G σ
  frs : ∀ f b, σ.fr[f]? = some b → ∀ s c, b[s]? = some c → c ≠ [] → BoxOk B fr G σ.verAt w f s c
  frl : σ.fr.length = fr
  alf : ∀ f s, fr < f → ¬ G.al f s
  alt : ∀ f s, G.al f s → G.L (G.hb f s) = some (.box f s)
  old : ∀ g τ, G.L g = some τ → g < w.heap.size ∧ (τ = .junk ∨ B ≤ g)
  base : B ≤ w.heap.size
  dfs : act.defers = []

/-- What goes on from one state to another, seen from an outer frame. -/
structure Step (fr : Nat) (G : Gh) (w : World) (G' : Gh) (w' : World) : Prop where
  os : w'.os = w.os
  tape : w'.tape = w.tape
  output : w'.output = w.output
  size : w.heap.size ≤ w'.heap.size
  sh : ∀ g, g < w.heap.size → G.L g = none → G'.L g = none ∧ w'.heap[g]? = w.heap[g]?
  junk : ∀ g, G.L g = some .junk → G'.L g = some .junk ∧ w'.heap[g]? = w.heap[g]?
  outer : ∀ g p f, G.L g = some (.own p) → p.frame = some f → f < fr → G'.L g = some (.own p) ∧ w'.heap[g]? = w.heap[g]?
  al : ∀ f s, f < fr → G.al f s → G'.al f s ∧ G'.hb f s = G.hb f s

theorem Step.refl (fr : Nat) (G : Gh) (w : World) : Step fr G w G w := ⟨rfl, rfl, rfl, Nat.le_refl _, fun _ _ h => ⟨h, rfl⟩, fun _ h => ⟨h, rfl⟩, fun _ _ _ h _ _ => ⟨h, rfl⟩, fun _ _ _ h => ⟨h, rfl⟩⟩
theorem Step.trans {fr : Nat} {G G' G'' : Gh} {w w' w'' : World} (a : Step fr G w G' w') (b : Step fr G' w' G'' w'') : Step fr G w G'' w'' where
  os := b.os.trans a.os
  tape := b.tape.trans a.tape
  output := b.output.trans a.output
  size := Nat.le_trans a.size b.size
  sh := fun g hl h => let x := a.sh g hl h; let y := b.sh g (Nat.lt_of_lt_of_le hl a.size) x.1; ⟨y.1, y.2.trans x.2⟩
  junk := fun g h => ⟨(b.junk g (a.junk g h).1).1, (b.junk g (a.junk g h).1).2.trans (a.junk g h).2⟩
  outer := fun g p f h hf hl => let x := a.outer g p f h hf hl; let y := b.outer g p f x.1 hf hl; ⟨y.1, y.2.trans x.2⟩
  al := fun f s hf h => let x := a.al f s hf h; let y := b.al f s hf x.1; ⟨y.1, y.2.trans x.2⟩

/-- The state's relation, kept: what is not told anew stays. -/
theorem Sim.upd {B fr : Nat} {G G' : Gh} {σ σ' : St} {act act' : Act} {w w' : World} {KP : Ap → Prop} {KB : Nat → Nat → Prop}
    (S : Sim B fr G σ act w) (K : Keep fr G σ.verAt w G' σ'.verAt w' KP KB) (hC : Closed KP)
    (hlen : act'.tmps.size = σ'.tm.length)
    (htm : ∀ t d, σ'.tm[t]? = some d → (σ.tm[t]? = some d ∧ act'.tmps.getD t undef = act.tmps.getD t undef ∧ (d.hasOwn = true → KP (.tm fr t []))) ∨ VD B fr G' σ'.verAt w' (.tm fr t []) (act'.tmps.getD t undef) d)
    (hbx : ∀ s c, σ'.bx[s]? = some c → c ≠ [] → (σ.bx[s]? = some c ∧ KB fr s ∧ (∀ o d, c[o]? = some d → d.hasOwn = true → KP (.bc fr s o))) ∨ BoxOk B fr G' σ'.verAt w' fr s c)
    (hbn : BoxN fr G' σ')
    (hfr : ∀ f b, σ'.fr[f]? = some b → ∀ s c, b[s]? = some c → c ≠ [] → ((∃ b', σ.fr[f]? = some b' ∧ b'[s]? = some c) ∧ KB f s ∧ (∀ o d, c[o]? = some d → d.hasOwn = true → KP (.bc f s o))) ∨ BoxOk B fr G' σ'.verAt w' f s c)
    (hfl : σ'.fr.length = fr) (hal : ∀ f s, fr < f → ¬ G'.al f s) (halt : ∀ f s, G'.al f s → G'.L (G'.hb f s) = some (.box f s)) (hold : ∀ g τ, G'.L g = some τ → g < w'.heap.size ∧ (τ = .junk ∨ B ≤ g)) (hd : act'.defers = []) : Sim B fr G' σ' act' w' where
  len := hlen
  tms := fun t d h => by
    rcases htm t d h with ⟨a, b, c⟩ | h
    · rw [b]; exact (S.tms t d a).keep K hC c
    · exact h
  bxs := fun s c h hne => by
    rcases hbx s c h hne with ⟨a, b, d⟩ | h
    · exact (S.bxs s c a hne).keep K hC b d
    · exact h
  bxn := hbn
  frs := fun f b h s c hc hne => by
    rcases hfr f b h s c hc hne with ⟨⟨b', a, a'⟩, e, d⟩ | h
    · exact (S.frs f b' a s c a' hne).keep K hC e d
    · exact h
  frl := hfl
  alf := hal
  alt := halt
  old := hold
  base := Nat.le_trans S.base K.size
  dfs := hd

/-! ### turning tags -/
def Gh.setL (G : Gh) (L' : Nat → Option Tag) : Gh := { G with L := L' }
def Ap.atTm (fr t : Nat) : Ap → Bool
  | .tm f t' _ => f == fr && t' == t
  | _ => false
def Ap.atPn (fr i : Nat) : Ap → Bool
  | .pn f t' _ => f == fr && t' == i
  | _ => false
theorem Ap.atTm_sub (fr t : Nat) (p : Ap) (i : Nat) : (p.sub i).atTm fr t = p.atTm fr t := by cases p <;> rfl
theorem Ap.atPn_sub (fr t : Nat) (p : Ap) (i : Nat) : (p.sub i).atPn fr t = p.atPn fr t := by cases p <;> rfl
/-- What lies in a slot goes its way. -/
def lift1 (fr t i : Nat) : Tag → Tag
  | .own (.tm f t' p) => if f = fr ∧ t' = t then .own (.pn fr i p) else .own (.tm f t' p)
  | τ => τ
def Gh.lift (G : Gh) (fr t i : Nat) : Gh := G.setL fun g => (G.L g).map (lift1 fr t i)
theorem lift1_own {fr t i : Nat} {p : Ap} (h : p.atTm fr t = false) : lift1 fr t i (.own p) = .own p := by
  cases p with
  | tm f t' q =>
    simp only [Ap.atTm, Bool.and_eq_false_iff, beq_eq_false_iff_ne] at h
    simp only [lift1]
    rw [if_neg (by rintro ⟨a, b⟩; rcases h with h | h <;> exact h (by assumption))]
  | _ => rfl
theorem lift_none {G : Gh} {fr t i g : Nat} : (G.lift fr t i).L g = none ↔ G.L g = none := by simp [Gh.lift, Gh.setL]

theorem VD.liftPn {B fr : Nat} {G : Gh} {vr : Pl → Nat} {w : World} {t i : Nat} {p : Ap} {v : Value} {d : D} (h : VD B fr G vr w p v d) :
    ∀ path, p = .tm fr t path → VD B fr (G.lift fr t i) vr w (.pn fr i path) v d := by
  have hok : ∀ b, G.sh b → (G.lift fr t i).sh b := fun b hb => lift_none.2 hb
  have hrt : ∀ b, G.sh b → b < w.heap.size → (G.lift fr t i).sh b ∧ w.heap[b]? = w.heap[b]? := fun b hb _ => ⟨hok b hb, rfl⟩
  induction h with
  | t p v x h => exact fun path e => .t _ v x (h.mono hrt)
  | agg p us ds hs h1 h ih => exact fun path e => .agg _ us ds hs h1 fun j u d hu hd => ih j u d hu hd (path ++ [j]) (by rw [e]; rfl)
  | tup p us ds hs h ih => exact fun path e => .tup _ us ds hs fun j u d hu hd => ih j u d hu hd (path ++ [j]) (by rw [e]; rfl)
  | own p v e sz els us ho hr hsz hL hq =>
    exact fun path ep => .own _ v e sz els us ho (hr.mono hrt) hsz (fun g hg => by
      have := hL g hg
      subst ep
      simp [Gh.lift, Gh.setL, this, lift1]) fun q _ e => by cases q <;> cases e
  | omap p g es clock kvs hg hm hB hL hq =>
    exact fun path ep => .omap _ g es clock kvs hg hm hB (by subst ep; simp [Gh.lift, Gh.setL, hL, lift1]) fun q _ e => by cases q <;> cases e
  | alsN p q k sz lo hk hv => exact fun _ _ => .alsN _ q k sz lo hk hv
  | als p q k sz lo n g c cap cap' hk hv hn hc o ho => exact fun _ _ => .als (G := G.lift fr t i) _ q k sz lo n g c cap cap' hk hv hn hc o ho
  | mal p q k hk g hv => exact fun _ _ => .mal _ q k hk g hv
  | ept p q k sz i off g c cap hk hv => exact fun _ _ => .ept _ q k sz i off g c cap hk hv
  | lp p s o ha => exact fun _ _ => .lp (G := G.lift fr t i) _ s o ha
  | fp p f s o hf ha => exact fun _ _ => .fp (G := G.lift fr t i) _ f s o hf ha
  | clo p f us ds hs hno h ih => exact fun path e => .clo _ f us ds hs hno fun j u d hu hd => ih j u d hu hd (path ++ [j]) (by rw [e]; rfl)
  | dead p v => exact fun _ _ => .dead _ v

/-- A step that turns tags alone. -/
theorem keep_tags {fr : Nat} {G : Gh} {vr : Pl → Nat} {w : World} {L' : Nat → Option Tag} {KP : Ap → Prop} (hn : ∀ g, G.L g = none → L' g = none) (ho : ∀ g p, G.L g = some (.own p) → KP p → L' g = some (.own p))
    (hb : ∀ g f s, G.L g = some (.box f s) → L' g = some (.box f s)) (hx : ∀ f s, G.al f s → G.L (G.hb f s) = some (.box f s)) : Keep fr G vr w (G.setL L') vr w KP (fun _ _ => True) where
  size := Nat.le_refl _
  sh := fun g _ => hn g
  shw := fun _ _ _ => rfl
  own := fun g p h k => ⟨ho g p h k, rfl⟩
  vle := fun _ => Nat.le_refl _
  vsame := fun _ _ => rfl
  hv := fun _ _ _ _ => rfl
  al := fun _ _ h => ⟨h, rfl⟩
  box := fun f s h _ => ⟨by rw [hx f s h]; exact hb _ f s (hx f s h), rfl⟩

/-! ### runs, taken apart -/
section
variable {C : Callee} {α β : Type}
theorem run_bind (m : Prog α) (f : α → Prog β) : ∀ σ, (m.bind f).run C σ = match m.run C σ with
    | some (.ok a, σ) => (f a).run C σ
    | some (.error x, σ) => some (.error x, σ)
    | none => none := by
  induction m with
  | ret a => intro σ; rfl
  | fail => intro σ; rfl
  | panic x => intro σ; rfl
  | getT t k ih => intro σ; exact ih _ _
  | putT t d k ih => intro σ; simp only [Prog.bind, Prog.run]; split <;> simp [ih]
  | getB t k ih => intro σ; exact ih _ _
  | putB t d k ih => intro σ; simp only [Prog.bind, Prog.run]; split <;> simp [ih]
  | getF f t k ih => intro σ; exact ih _ _
  | putF f t d k ih => intro σ; exact ih _
  | call g xs k ih => intro σ; simp only [Prog.bind, Prog.run]; rcases C g xs [] with _ | ⟨r, fr⟩ <;> simp; cases r <;> simp [ih]
  | callF g xs k ih => intro σ; simp only [Prog.bind, Prog.run]; rcases C g _ _ with _ | ⟨r, fr⟩ <;> simp; cases r <;> simp [ih]
  | getV q k ih => intro σ; exact ih _ _
  | bump q k ih => intro σ; exact ih _
theorem bind_ok {m : Prog α} {f : α → Prog β} {σ σ' : St} {b : β} (h : (m >>= f).run C σ = some (.ok b, σ')) : ∃ a σ1, m.run C σ = some (.ok a, σ1) ∧ (f a).run C σ1 = some (.ok b, σ') := by
  change (m.bind f).run C σ = _ at h
  rw [run_bind] at h
  split at h
  · rename_i a σ1 e; exact ⟨a, σ1, e, h⟩
  · cases h
  · cases h
theorem ret_ok {a b : α} {σ σ' : St} (h : (Prog.ret a).run C σ = some (.ok b, σ')) : a = b ∧ σ = σ' := by
  simp only [Prog.run, Option.some.injEq, Prod.mk.injEq, Except.ok.injEq] at h; exact h
theorem pure_ok {a b : α} {σ σ' : St} (h : (pure a : Prog α).run C σ = some (.ok b, σ')) : a = b ∧ σ = σ' := ret_ok h
theorem fail_ok {b : α} {σ σ' : St} (h : (Prog.fail : Prog α).run C σ = some (.ok b, σ')) : False := by cases h
theorem need_ok {b : Bool} {u : Unit} {σ σ' : St} (h : (need b).run C σ = some (.ok u, σ')) : b = true ∧ σ = σ' := by
  cases b
  · cases h
  · exact ⟨rfl, (ret_ok h).2⟩
theorem ofOpt_ok {o : Option α} {a : α} {σ σ' : St} (h : (ofOpt o).run C σ = some (.ok a, σ')) : o = some a ∧ σ = σ' := by
  cases o
  · cases h
  · have := ret_ok h; exact ⟨by rw [this.1], this.2⟩
theorem gT_ok {t : Nat} {d : D} {σ σ' : St} (h : (gT t).run C σ = some (.ok d, σ')) : σ.tm.getD t .dead = d ∧ σ = σ' := ret_ok (C := C) h
theorem pT_ok {t : Nat} {d : D} {u : Unit} {σ σ' : St} (h : (pT t d).run C σ = some (.ok u, σ')) : t < σ.tm.length ∧ σ' = { σ with tm := σ.tm.set t d } := by
  simp only [pT, Prog.run] at h
  split at h
  · rename_i hl; exact ⟨hl, (ret_ok (C := C) h).2.symm⟩
  · cases h
theorem gB_ok {s : Nat} {c : List D} {σ σ' : St} (h : (gB s).run C σ = some (.ok c, σ')) : σ.bx.getD s [] = c ∧ σ = σ' := ret_ok (C := C) h
theorem pB_ok {s : Nat} {c : List D} {u : Unit} {σ σ' : St} (h : (pB s c).run C σ = some (.ok u, σ')) : s < σ.bx.length ∧ σ' = { σ with bx := σ.bx.set s c } := by
  simp only [pB, Prog.run] at h
  split at h
  · rename_i hl; exact ⟨hl, (ret_ok (C := C) h).2.symm⟩
  · cases h
theorem gV_ok {q : Pl} {k : Nat} {σ σ' : St} (h : (gV q).run C σ = some (.ok k, σ')) : σ.verAt q = k ∧ σ = σ' := ret_ok (C := C) h
theorem bumpq_ok {q : Pl} {u : Unit} {σ σ' : St} (h : (bumpq q).run C σ = some (.ok u, σ')) : σ' = { σ with ver := (q, verOf σ.ver q + 1) :: σ.ver } := (ret_ok (C := C) h).2.symm
end

/-! ### what an operand holds -/
theorem VD.ofConst {B fr : Nat} {G : Gh} {vr : Pl → Nat} {w : World} {p : Ap} {v : Value} (h : constOk v = true) : VD B fr G vr w p v (ofConst v) := by
  cases v with
  | agg cs =>
    have h' : ∀ u ∈ cs, u.oneCell' = true := by
      simp only [constOk, Array.all_eq_true'] at h; exact h
    refine .agg p cs _ (by simp) h' fun i u d hu hd => ?_
    simp only [List.getElem?_map, Array.getElem?_toList] at hd
    rw [hu] at hd
    simp only [Option.map_some, Option.some.injEq] at hd
    subst hd
    exact .t _ u _ (.sc u (h' u (Array.mem_of_getElem? hu)))
  | _ => exact .t _ _ _ (.sc _ h)

theorem hasOwnL_at {ds : List D} {i : Nat} {d : D} (h : hasOwnL ds = false) (hd : ds[i]? = some d) : d.hasOwn = false := by
  cases ho : d.hasOwn with
  | false => rfl
  | true => rw [VD.keep.hasOwnL_of hd ho] at h; cases h
theorem ptr_noOwn {ds : List D} {i : Nat} {d : D} (h : ds.all D.ptr = true) (hd : ds[i]? = some d) : d.hasOwn = false := by
  exact D.ptr_own (List.all_eq_true.1 h d (List.mem_of_getElem? hd))
/-- What owns nothing is the same wherever it lies. -/
theorem VD.free {B fr : Nat} {G : Gh} {vr : Pl → Nat} {w : World} {p : Ap} {v : Value} {d : D} (h : VD B fr G vr w p v d) : ∀ p', d.hasOwn = false → VD B fr G vr w p' v d := by
  induction h with
  | t p v x h => exact fun _ _ => .t _ v x h
  | agg p us ds hs h1 h ih => exact fun p' ho => .agg _ us ds hs h1 fun j u d hu hd => ih j u d hu hd _ (hasOwnL_at ho hd)
  | tup p us ds hs h ih => exact fun p' ho => .tup _ us ds hs fun j u d hu hd => ih j u d hu hd _ (hasOwnL_at ho hd)
  | own p v e sz els us ho hr hsz hL hq => exact fun _ h => by cases h
  | omap p g es clock kvs hg hm hB hL hq => exact fun _ h => by cases h
  | alsN p q k sz lo hk hv => exact fun _ _ => .alsN _ q k sz lo hk hv
  | als p q k sz lo n g c cap cap' hk hv hn hc o ho => exact fun _ _ => .als _ q k sz lo n g c cap cap' hk hv hn hc o ho
  | mal p q k hk g hv => exact fun _ _ => .mal _ q k hk g hv
  | ept p q k sz i off g c cap hk hv => exact fun _ _ => .ept _ q k sz i off g c cap hk hv
  | lp p s o ha => exact fun _ _ => .lp _ s o ha
  | fp p f s o hf ha => exact fun _ _ => .fp _ f s o hf ha
  | clo p f us ds hs hno h ih => exact fun p' _ => .clo _ f us ds hs hno fun j u d hu hd => ih j u d hu hd _ (ptr_noOwn hno hd)
  | dead p v => exact fun _ _ => .dead _ v

/-- Nothing turns. -/
theorem Keep.refl (fr : Nat) (G : Gh) (vr : Pl → Nat) (w : World) (KP : Ap → Prop) (KB : Nat → Nat → Prop) : Keep fr G vr w G vr w KP KB :=
  ⟨Nat.le_refl _, fun _ _ h => h, fun _ _ _ => rfl, fun _ _ h _ => ⟨h, rfl⟩, fun _ => Nat.le_refl _, fun _ _ => rfl, fun _ _ _ _ => rfl, fun _ _ h => ⟨h, rfl⟩, fun _ _ _ _ => ⟨rfl, rfl⟩⟩

/-- A row of the call's own: what its value is like. -/
theorem ownsRow_form {w : World} {B : Nat} {e : TypeId} {sz n : Nat} {v : Value} {us : List Value} (h : w.ownsRow B e sz v n us) : (v = .slice none 0 0 ∧ n = 0) ∨ ∃ g cap, v = .slice (some ⟨g, 0, none⟩) n cap ∧ n ≤ cap := by
  rcases h.2 with h | ⟨g, cap, cur, hv, _, _, hn, _⟩
  · exact .inl h
  · exact .inr ⟨g, cap, hv, hn⟩

/-- A row that stands at a place, named. -/
theorem VD.named {B fr : Nat} {G : Gh} {vr : Pl → Nat} {w : World} {q : Pl} (hok : q.ok fr) {v : Value} {e : TypeId} {sz : Nat} {els : List (List T)} (h : VD B fr G vr w (q.abs fr) v (.own e sz els)) (p : Ap) :
    VD B fr G vr w p v (.als q (vr q) sz 0 els.length) := by
  generalize hp : q.abs fr = p0 at h
  cases h with
  | own p v e sz els us ho hr hsz hL hq =>
    have hv := hq q hok hp
    rcases ownsRow_form ho with ⟨rfl, hn⟩ | ⟨g, cap, rfl, hn⟩
    · rw [hn]; exact .alsN _ q _ sz 0 ⟨hok, Nat.le_refl _⟩ (by rw [hp]; exact hv)
    · have := VD.als (B := B) (fr := fr) (G := G) (vr := vr) (w := w) p q (vr q) sz 0 els.length g els.length cap cap ⟨hok, Nat.le_refl _⟩ (by rw [hp]; exact hv) hn (by omega) 0 (.inl (Nat.zero_mul _).symm)
      exact this
theorem VD.namedMap {B fr : Nat} {G : Gh} {vr : Pl → Nat} {w : World} {q : Pl} (hok : q.ok fr) {v : Value} {kvs : List (Int × Int)} (h : VD B fr G vr w (q.abs fr) v (.omap kvs)) (p : Ap) :
    VD B fr G vr w p v (.mal q (vr q)) := by
  generalize hp : q.abs fr = p0 at h
  cases h with
  | omap p g es clock kvs hg hm hB hL hq => exact .mal _ q _ ⟨hok, Nat.le_refl _⟩ g (by rw [hp]; exact hq q hok hp)

theorem Sim.tmAt {B fr : Nat} {G : Gh} {σ : St} {act : Act} {w : World} (S : Sim B fr G σ act w) (t : Nat) : VD B fr G σ.verAt w (.tm fr t []) (act.eval (.tmp t)) (σ.tm.getD t .dead) := by
  cases h : σ.tm[t]? with
  | none => simp only [List.getD_eq_getElem?_getD, h, Option.getD_none]; exact .dead _ _
  | some d => simp only [List.getD_eq_getElem?_getD, h, Option.getD_some]; exact S.tms t d h
theorem Ap.not_atTm {fr t t' : Nat} (h : t' ≠ t) (p : List Nat) : (Ap.tm fr t' p).atTm fr t = false := by
  simp [Ap.atTm, h]
theorem closed_notTm (fr t : Nat) : Closed fun p => p.atTm fr t = false := fun p i h => (Ap.atTm_sub fr t p i).trans h
theorem step_tags {fr : Nat} {G : Gh} {w : World} {L' : Nat → Option Tag} (hn : ∀ g, G.L g = none → L' g = none) (hj : ∀ g, G.L g = some .junk → L' g = some .junk)
    (ho : ∀ g p f, G.L g = some (.own p) → p.frame = some f → f < fr → L' g = some (.own p)) : Step fr G w (G.setL L') w :=
  ⟨rfl, rfl, rfl, Nat.le_refl _, fun g _ h => ⟨hn g h, rfl⟩, fun g h => ⟨hj g h, rfl⟩, fun g p f h hf hl => ⟨ho g p f h hf hl, rfl⟩, fun _ _ _ h => ⟨h, rfl⟩⟩

/-- What a temporary owns goes its way. -/
theorem Sim.liftPn {B fr : Nat} {G : Gh} {σ : St} {act : Act} {w : World} (i t : Nat) (S : Sim B fr G σ act w) (ht : t < σ.tm.length) :
    Sim B fr (G.lift fr t i) { σ with tm := σ.tm.set t .dead } act w ∧ VD B fr (G.lift fr t i) σ.verAt w (.pn fr i []) (act.eval (.tmp t)) (σ.tm.getD t .dead) ∧
      Keep fr G σ.verAt w (G.lift fr t i) σ.verAt w (fun p => p.atTm fr t = false) (fun _ _ => True) ∧ Step fr G w (G.lift fr t i) w := by
  have hbox : ∀ g f s, G.L g = some (.box f s) → (G.lift fr t i).L g = some (.box f s) := fun g f s h => by simp [Gh.lift, Gh.setL, h, lift1]
  have K : Keep fr G σ.verAt w (G.lift fr t i) σ.verAt w (fun p => p.atTm fr t = false) (fun _ _ => True) :=
    keep_tags (fun g h => lift_none.2 h) (fun g p h hp => by simp [h, lift1_own hp]) hbox S.alt
  refine ⟨S.upd (σ' := { σ with tm := σ.tm.set t .dead }) K (closed_notTm fr t) (by simpa using S.len) (fun t' d hd => ?_) (fun s c hc hne => .inl ⟨hc, trivial, fun _ _ _ _ => rfl⟩) S.bxn
    (fun f b hb s c hc hne => .inl ⟨⟨b, hb, hc⟩, trivial, fun _ _ _ _ => rfl⟩) S.frl S.alf (fun f s h => hbox _ f s (S.alt f s h)) (fun g τ h => ?_) S.dfs, (S.tmAt t).liftPn [] rfl, K,
    step_tags (fun g h => lift_none.2 h) (fun g h => by simp [h, lift1]) (fun g p f h hf hl => ?_)⟩
  · simp only [List.getElem?_set] at hd
    by_cases e : t = t'
    · subst e
      rw [if_pos rfl, if_pos ht] at hd
      cases hd
      exact .inr (.dead _ _)
    · rw [if_neg e] at hd
      exact .inl ⟨hd, rfl, fun _ => Ap.not_atTm (Ne.symm e) _⟩
  · simp only [Gh.lift, Gh.setL] at h
    cases hg : G.L g with
    | none => rw [hg] at h; cases h
    | some τ' =>
      obtain ⟨h1, h2⟩ := S.old g τ' hg
      rw [hg] at h
      simp only [Option.map_some, Option.some.injEq] at h
      refine ⟨h1, h2.imp (fun e => by rw [← h, e]; rfl) id⟩
  · have : p.atTm fr t = false := by
      cases p with
      | tm f' t' q =>
        simp only [Ap.frame, Option.some.injEq] at hf
        simp only [Ap.atTm, Bool.and_eq_false_iff, beq_eq_false_iff_ne]
        exact .inl (by omega)
      | _ => rfl
    simp [h, lift1_own this]

theorem Sim.take {B fr : Nat} {G : Gh} {σ σ' : St} {act : Act} {w : World} {C : Callee} {H : Hint} {x : Operand} {d : D} (i : Nat) (S : Sim B fr G σ act w)
    (h : (take H x).run C σ = some (.ok d, σ')) : ∃ G', Sim B fr G' σ' act w ∧ VD B fr G' σ'.verAt w (.pn fr i []) (act.eval x) d ∧
      Keep fr G σ.verAt w G' σ'.verAt w (fun p => ∀ t, x = .tmp t → p.atTm fr t = false) (fun _ _ => True) ∧ Step fr G w G' w := by
  have same : ∀ {d : D}, VD B fr G σ.verAt w (.pn fr i []) (act.eval x) d → ∃ G', Sim B fr G' σ act w ∧ VD B fr G' σ.verAt w (.pn fr i []) (act.eval x) d ∧
      Keep fr G σ.verAt w G' σ.verAt w (fun p => ∀ t, x = .tmp t → p.atTm fr t = false) (fun _ _ => True) ∧ Step fr G w G' w := fun hv =>
    ⟨G, S, hv, .refl _ _ _ _ _ _, .refl _ _ _⟩
  cases x with
  | const v =>
    simp only [Pv.take, rd] at h
    split at h
    · rename_i hc
      obtain ⟨rfl, rfl⟩ := ret_ok h
      exact same (.ofConst hc)
    · cases h
  | func f =>
    obtain ⟨rfl, rfl⟩ := ret_ok (C := C) h
    exact same (.t _ _ _ (.sc _ rfl))
  | global g => cases h
  | tmp t =>
    simp only [Pv.take] at h
    obtain ⟨d0, σ1, h1, h⟩ := bind_ok h
    obtain ⟨e0, rfl⟩ := gT_ok h1
    have hvd := S.tmAt t
    rw [e0] at hvd
    split at h
    · split at h
      · obtain ⟨k, σ2, h2, h⟩ := bind_ok h
        obtain ⟨rfl, rfl⟩ := gV_ok h2
        split at h
        · obtain ⟨rfl, rfl⟩ := pure_ok h
          exact same (VD.named (q := .tm t) trivial hvd _)
        · obtain ⟨rfl, rfl⟩ := pure_ok h
          exact same (VD.namedMap (q := .tm t) trivial hvd _)
        · cases h
      · obtain ⟨u, σ2, h2, h⟩ := bind_ok h
        obtain ⟨ht, rfl⟩ := pT_ok h2
        obtain ⟨rfl, rfl⟩ := pure_ok h
        obtain ⟨a, b, c, e⟩ := S.liftPn i t ht
        rw [e0] at b
        exact ⟨_, a, b, ⟨c.size, c.sh, c.shw, fun g p hg hp => c.own g p hg (hp t rfl), c.vle, fun q hq => c.vsame q (hq t rfl), c.hv, c.al, c.box⟩, e⟩
    · rename_i hno
      obtain ⟨rfl, rfl⟩ := pure_ok h
      exact same (hvd.free _ (by simpa using hno))
end Go.Pv

/- Steps that turn what is told without turning the machine: places, sharing, lending. -/
namespace Go.Pv
open Go.RowKit
variable {B fr : Nat} {G : Gh} {σ σ' : St} {act : Act} {w : World} {C : Callee}

theorem add_mid (b o j : Nat) : (⟨b, o, none⟩ : Addr).add j = ⟨b, o + j, none⟩ := by unfold Addr.add; split <;> simp_all

/-- What the machine holds at a place. -/
def At (fr : Nat) (G : Gh) (act : Act) (w : World) : Pl → Value → Prop
  | .tm t, v => act.eval (.tmp t) = v
  | .bx s o, v => w.cell? ⟨G.hb fr s, o, none⟩ = some v
  | .fb f s o, v => w.cell? ⟨G.hb f s, o, none⟩ = some v

theorem getPl_ok {q : Pl} {d : D} (h : (getPl q).run C σ = some (.ok d, σ')) : σ = σ' ∧ d = (match q with | .tm t => σ.tm.getD t .dead | .bx s o => (σ.bx.getD s []).getD o .dead | .fb f s o => ((σ.fr.getD f []).getD s []).getD o .dead) := by
  cases q with
  | tm t => have := gT_ok h; exact ⟨this.2, this.1.symm⟩
  | bx s o =>
    simp only [getPl] at h
    obtain ⟨c, σ1, h1, h⟩ := bind_ok h
    obtain ⟨rfl, rfl⟩ := gB_ok h1
    obtain ⟨a, b⟩ := pure_ok h
    exact ⟨b, a.symm⟩
  | fb f s o =>
    simp only [getPl] at h
    obtain ⟨c, σ1, h1, h⟩ := bind_ok h
    obtain ⟨rfl, rfl⟩ := ret_ok (C := C) h1
    obtain ⟨a, b⟩ := pure_ok h
    exact ⟨b, a.symm⟩

theorem BoxOk.at {f s : Nat} {c : List D} {vr : Pl → Nat} (h : BoxOk B fr G vr w f s c) (o : Nat) : c.getD o .dead = .dead ∨ ∃ v, w.cell? ⟨G.hb f s, o, none⟩ = some v ∧ VD B fr G vr w (.bc f s o) v (c.getD o .dead) := by
  obtain ⟨_, _, _, us, T, hg, hs, h1, hv⟩ := h
  cases hc : c[o]? with
  | none => left; simp [List.getD_eq_getElem?_getD, hc]
  | some d =>
    right
    have hl : o < us.size := by rw [hs]; exact (List.getElem?_eq_some_iff.1 hc).1
    exact ⟨us[o], by rw [cell_of_row w _ _ us T (0, 0) hg]; exact Array.getElem?_eq_getElem hl, by
      simp only [List.getD_eq_getElem?_getD, hc, Option.getD_some]; exact hv o _ d (Array.getElem?_eq_getElem hl) hc⟩

theorem Sim.getPl {q : Pl} {d : D} (S : Sim B fr G σ act w) (h : (getPl q).run C σ = some (.ok d, σ')) : σ = σ' ∧ (d = .dead ∨ ∃ v, At fr G act w q v ∧ VD B fr G σ.verAt w (q.abs fr) v d) := by
  obtain ⟨e, hd⟩ := getPl_ok h
  refine ⟨e, ?_⟩
  cases q with
  | tm t => right; exact ⟨_, rfl, by rw [hd]; exact S.tmAt t⟩
  | bx s o =>
    simp only at hd
    cases hc : σ.bx[s]? with
    | none => left; rw [hd]; simp [List.getD_eq_getElem?_getD, hc]
    | some c =>
      have hc' : σ.bx.getD s [] = c := by simp [List.getD_eq_getElem?_getD, hc]
      rw [hc'] at hd
      by_cases hne : c = []
      · left; rw [hd, hne]; rfl
      · have := (S.bxs s c hc hne).at o
        rw [← hd] at this
        exact this
  | fb f s o =>
    simp only at hd
    cases hb : σ.fr[f]? with
    | none => left; rw [hd]; simp [List.getD_eq_getElem?_getD, hb]
    | some b =>
      have hb' : σ.fr.getD f [] = b := by simp [List.getD_eq_getElem?_getD, hb]
      rw [hb'] at hd
      cases hc : b[s]? with
      | none => left; rw [hd]; simp [List.getD_eq_getElem?_getD, hc]
      | some c =>
        have hc' : b.getD s [] = c := by simp [List.getD_eq_getElem?_getD, hc]
        rw [hc'] at hd
        by_cases hne : c = []
        · left; rw [hd, hne]; rfl
        · have := (S.frs f b hb s c hc hne).at o
          rw [← hd] at this
          exact this

/-- Another value, at one cell of a box. -/
theorem BoxOk.put {G' : Gh} {vr vr' : Pl → Nat} {KP : Ap → Prop} {KB : Nat → Nat → Prop} {f s o : Nat} {c : List D} {d : D} (K : Keep fr G vr w G' vr' w KP KB) (hC : Closed KP)
    (h : BoxOk B fr G vr w f s c) (hbd : d.bare = true) (hb : KB f s) (hp : ∀ o' d', o' ≠ o → c[o']? = some d' → d'.hasOwn = true → KP (.bc f s o'))
    (hv : ∀ v, w.cell? ⟨G.hb f s, o, none⟩ = some v → VD B fr G' vr' w (.bc f s o) v d) : BoxOk B fr G' vr' w f s (c.set o d) := by
  obtain ⟨ha, ht, hbare, us, T, hg, hs, h1, hvd⟩ := h
  have h2 := K.al f s ha
  have h3 := K.box f s ha hb
  refine ⟨h2.1, by rw [h2.2, h3.1]; exact ht, fun d' hd' => (List.mem_or_eq_of_mem_set hd').elim (hbare d') (fun e => e ▸ hbd), us, T, by rw [h2.2, h3.2]; exact hg, by simpa using hs, h1, fun o' u d' hu hd => ?_⟩
  by_cases e : o' = o
  · subst e
    rw [List.getElem?_set_self (by rw [← hs]; exact (Array.getElem?_eq_some_iff.1 hu).1)] at hd
    cases hd
    exact hv u (by rw [cell_of_row w _ _ us T (0, 0) hg]; exact hu)
  · rw [List.getElem?_set_ne (Ne.symm e)] at hd
    exact (hvd o' u d' hu hd).keep K hC (hp o' d' e hd)

theorem Pl.abs_sub_ne (fr : Nat) (q : Pl) : Closed fun p => p ≠ q.abs fr := by
  intro p i h e
  cases p with
  | tm f t l => cases q <;> simp [Ap.sub, Pl.abs] at e
  | pn f t l => cases q <;> simp [Ap.sub, Pl.abs] at e
  | bc f s o => exact h e

theorem putPl_ok {q : Pl} {d : D} {u : Unit} (h : (putPl q d).run C σ = some (.ok u, σ')) : match q with
    | .tm t => t < σ.tm.length ∧ σ' = { σ with tm := σ.tm.set t d }
    | .bx s o => s < σ.bx.length ∧ o < (σ.bx.getD s []).length ∧ σ' = { σ with bx := σ.bx.set s ((σ.bx.getD s []).set o d) }
    | .fb f s o => o < ((σ.fr.getD f []).getD s []).length ∧ σ' = { σ with fr := σ.fr.set f ((σ.fr.getD f []).set s (((σ.fr.getD f []).getD s []).set o d)) } := by
  cases q with
  | tm t => exact pT_ok h
  | bx s o =>
    simp only [putPl] at h
    obtain ⟨c, σ1, h1, h⟩ := bind_ok h
    obtain ⟨rfl, rfl⟩ := gB_ok h1
    obtain ⟨_, σ1, h1, h⟩ := bind_ok h
    obtain ⟨hn, rfl⟩ := need_ok h1
    obtain ⟨a, b⟩ := pB_ok h
    exact ⟨a, by simpa using hn, b⟩
  | fb f s o =>
    simp only [putPl] at h
    obtain ⟨c, σ1, h1, h⟩ := bind_ok h
    obtain ⟨rfl, rfl⟩ := ret_ok (C := C) h1
    obtain ⟨_, σ1, h1, h⟩ := bind_ok h
    obtain ⟨hn, rfl⟩ := need_ok h1
    have := (ret_ok (C := C) h).2
    exact ⟨by simpa using hn, this.symm⟩

/-- What is told of a place is told anew. -/
theorem Sim.putPl0 {G' : Gh} {q : Pl} {d : D} {u : Unit} (S : Sim B fr G σ act w) (hbd : d.bare = true) (h : (putPl q d).run C σ = some (.ok u, σ'))
    (K : Keep fr G σ.verAt w G' σ.verAt w (fun p => p ≠ q.abs fr ∧ p.isPn = false) (fun _ _ => True)) (hv : ∀ v, At fr G act w q v → VD B fr G' σ.verAt w (q.abs fr) v d)
    (hal : G'.al = G.al) (hold : ∀ g τ, G'.L g = some τ → g < w.heap.size ∧ (τ = .junk ∨ B ≤ g)) : Sim B fr G' σ' act w ∧ σ'.verAt = σ.verAt := by
  have hC : Closed fun p => p ≠ q.abs fr ∧ p.isPn = false := fun p i h => ⟨Pl.abs_sub_ne fr q p i h.1, by cases p <;> first | rfl | exact h.2⟩
  have halt : ∀ f s, G'.al f s → G'.L (G'.hb f s) = some (.box f s) := fun f s h => by
    rw [hal] at h
    rw [(K.al f s h).2, (K.box f s h trivial).1]
    exact S.alt f s h
  have hpl := putPl_ok h
  cases q with
  | tm t =>
    obtain ⟨ht, rfl⟩ := hpl
    refine ⟨S.upd (σ' := { σ with tm := σ.tm.set t d }) K hC (by simpa using S.len) (fun t' d' hd => ?_) (fun s c hc hne => .inl ⟨hc, trivial, fun _ _ _ _ => by simp [Pl.abs, Ap.isPn]⟩) ⟨by rw [hal]; exact S.bxn.1, by rw [hal]; exact S.bxn.2⟩
      (fun f b hb s c hc hne => .inl ⟨⟨b, hb, hc⟩, trivial, fun _ _ _ _ => by simp [Pl.abs, Ap.isPn]⟩) S.frl (by rw [hal]; exact S.alf) halt hold S.dfs, rfl⟩
    simp only [List.getElem?_set] at hd
    by_cases e : t = t'
    · subst e
      rw [if_pos rfl, if_pos ht] at hd
      cases hd
      exact .inr (hv _ rfl)
    · rw [if_neg e] at hd
      exact .inl ⟨hd, rfl, fun _ => by simp [Pl.abs, Ap.isPn, Ne.symm e]⟩
  | bx s o =>
    obtain ⟨hs, ho, rfl⟩ := hpl
    have hc0 : σ.bx[s]? = some (σ.bx.getD s []) := by simp [List.getD_eq_getElem?_getD, List.getElem?_eq_getElem hs]
    have hne0 : σ.bx.getD s [] ≠ [] := by intro e; rw [e] at ho; simp at ho
    refine ⟨S.upd (σ' := { σ with bx := σ.bx.set s ((σ.bx.getD s []).set o d) }) K hC S.len (fun t' d' hd => .inl ⟨hd, rfl, fun _ => by simp [Pl.abs, Ap.isPn]⟩) (fun s' c hc hne => ?_) ⟨fun s' hs' => ?_, by rw [hal]; exact S.bxn.2⟩
      (fun f b hb s' c hc hne => .inl ⟨⟨b, hb, hc⟩, trivial, fun o' d' hd' ho' => ?_⟩) S.frl (by rw [hal]; exact S.alf) halt hold S.dfs, rfl⟩
    · simp only [List.getElem?_set] at hc
      by_cases e : s = s'
      · subst e
        rw [if_pos rfl, if_pos hs] at hc
        cases hc
        exact .inr ((S.bxs s _ hc0 hne0).put K hC hbd trivial (fun o' d' hne' _ _ => by simp [Pl.abs, Ap.isPn, hne']) hv)
      · rw [if_neg e] at hc
        exact .inl ⟨hc, trivial, fun _ _ _ _ => by simp [Pl.abs, Ap.isPn, Ne.symm e]⟩
    · rw [hal]
      apply S.bxn.1
      simp only [List.getD_eq_getElem?_getD, List.getElem?_set] at hs' ⊢
      by_cases e : s = s'
      · subst e
        rw [if_pos rfl, if_pos hs] at hs'
        simp only [Option.getD_some] at hs'
        exact absurd (congrArg List.length hs') (by simp only [List.length_set, List.length_nil]; simp only [List.getD_eq_getElem?_getD] at ho; omega)
      · rw [if_neg e] at hs'
        exact hs'
    · have : f < fr := by rw [← S.frl]; exact (List.getElem?_eq_some_iff.1 hb).1
      refine ⟨?_, rfl⟩
      simp only [Pl.abs, ne_eq, Ap.bc.injEq, not_and]
      omega
  | fb f s o =>
    obtain ⟨ho, rfl⟩ := hpl
    have hf : f < σ.fr.length := by
      rcases Nat.lt_or_ge f σ.fr.length with h | h
      · exact h
      · simp [List.getD_eq_getElem?_getD, List.getElem?_eq_none h] at ho
    have hb0 : σ.fr[f]? = some (σ.fr.getD f []) := by simp [List.getD_eq_getElem?_getD, List.getElem?_eq_getElem hf]
    have hs : s < (σ.fr.getD f []).length := by
      rcases Nat.lt_or_ge s (σ.fr.getD f []).length with h | h
      · exact h
      · rw [List.getD_eq_getElem?_getD, List.getElem?_eq_none h] at ho; simp at ho
    have hc0 : (σ.fr.getD f [])[s]? = some ((σ.fr.getD f []).getD s []) := by
      rw [List.getD_eq_getElem?_getD (l := σ.fr.getD f []), List.getElem?_eq_getElem hs]; rfl
    have hne0 : (σ.fr.getD f []).getD s [] ≠ [] := by intro e; rw [e] at ho; simp at ho
    refine ⟨S.upd (σ' := { σ with fr := σ.fr.set f ((σ.fr.getD f []).set s (((σ.fr.getD f []).getD s []).set o d)) }) K hC S.len (fun t' d' hd => .inl ⟨hd, rfl, fun _ => by simp [Pl.abs, Ap.isPn]⟩)
      (fun s' c hc hne => .inl ⟨hc, trivial, fun _ _ _ _ => ⟨by simp only [Pl.abs, ne_eq, Ap.bc.injEq, not_and]; have := S.frl; omega, rfl⟩⟩) ⟨by rw [hal]; exact S.bxn.1, fun f' b hb s' hs' => ?_⟩
      (fun f' b hb s' c hc hne => ?_) (by simpa using S.frl) (by rw [hal]; exact S.alf) halt hold S.dfs, rfl⟩
    · rw [hal]
      simp only [List.getElem?_set] at hb
      by_cases e : f = f'
      · subst e
        rw [if_pos rfl, if_pos hf] at hb
        cases hb
        apply S.bxn.2 f _ hb0 s'
        simp only [List.getD_eq_getElem?_getD, List.getElem?_set] at hs' ⊢
        by_cases e : s = s'
        · subst e
          simp only [List.getD_eq_getElem?_getD] at hs ho
          rw [if_pos rfl, if_pos hs] at hs'
          simp only [Option.getD_some] at hs'
          have := congrArg List.length hs'
          simp only [List.length_set, List.length_nil] at this
          omega
        · rw [if_neg e] at hs'
          exact hs'
      · rw [if_neg e] at hb
        exact S.bxn.2 f' b hb s' hs'
    simp only [List.getElem?_set] at hb
    by_cases e : f = f'
    · subst e
      rw [if_pos rfl, if_pos hf] at hb
      cases hb
      simp only [List.getElem?_set] at hc
      by_cases e : s = s'
      · subst e
        rw [if_pos rfl, if_pos hs] at hc
        cases hc
        exact .inr ((S.frs f _ hb0 s _ hc0 hne0).put K hC hbd trivial (fun o' d' hne' _ _ => by simp [Pl.abs, Ap.isPn, hne']) hv)
      · rw [if_neg e] at hc
        exact .inl ⟨⟨_, hb0, hc⟩, trivial, fun _ _ _ _ => by simp [Pl.abs, Ap.isPn, Ne.symm e]⟩
    · rw [if_neg e] at hb
      exact .inl ⟨⟨b, hb, hc⟩, trivial, fun _ _ _ _ => by simp [Pl.abs, Ap.isPn, Ne.symm e]⟩
theorem Sim.putPl {G' : Gh} {q : Pl} {d : D} {u : Unit} (S : Sim B fr G σ act w) (hbd : d.bare = true) (h : (Pv.putPl q d).run C σ = some (.ok u, σ'))
    (K : Keep fr G σ.verAt w G' σ.verAt w (fun p => p ≠ q.abs fr) (fun _ _ => True)) (hv : ∀ v, At fr G act w q v → VD B fr G' σ.verAt w (q.abs fr) v d)
    (hal : G'.al = G.al) (hold : ∀ g τ, G'.L g = some τ → g < w.heap.size ∧ (τ = .junk ∨ B ≤ g)) : Sim B fr G' σ' act w ∧ σ'.verAt = σ.verAt :=
  S.putPl0 hbd h (K.weaken (fun _ h => h.1) (fun _ _ h => h)) hv hal hold
end Go.Pv

/- Rows of the call's own: lent, shared, laid elsewhere. -/
namespace Go.Pv
open Go.RowKit
variable {B fr : Nat} {G : Gh} {σ σ' : St} {act : Act} {w : World} {C : Callee}

theorem ownsRow_lt {w : World} {e : TypeId} {sz n c g cap : Nat} {v : Value} {us : List Value} (h : w.ownsRow B e sz v n us) (hv : v = .slice (some ⟨g, 0, none⟩) c cap) : g < w.heap.size := by
  subst hv
  rcases h.2 with ⟨h', _⟩ | ⟨g', cap', cur, h', hB, hg, r⟩
  · cases h'
  · cases h'
    exact (Array.getElem?_eq_some_iff.1 hg).1
/-- A part of a row, read as data. -/
theorem row_RT {ok ok' : Nat → Prop} {e : TypeId} {sz : Nat} {els : List (List T)} {us : List Value} {v : Value} (ho : w.ownsRow B e sz v els.length us) (hr : RTrow ok w sz us els)
    (hk : ∀ b, ok b → ok' b) {g cap : Nat} (hv : v = .slice (some ⟨g, 0, none⟩) els.length cap) (hg : ok' g) (lo n cap' : Nat) (hn : lo + n ≤ els.length) (hc : n ≤ cap') :
    RT ok' w (.slice (some ⟨g, lo * sz, none⟩) n cap') (.sl sz ((els.drop lo).take n)) := by
  have hlen : ((els.drop lo).take n).length = n := by simp; omega
  refine .sl _ n cap' sz _ (fun i j => us.getD ((lo + i) * sz + j) undef) hlen.symm hc (fun e he => hr.each e (List.mem_of_mem_drop (List.mem_of_mem_take he))) (fun _ => ⟨_, rfl, ⟨hg, ownsRow_lt ho hv⟩, fun i e j x hi hj => ?_⟩) (fun i e j x hi hj => ?_)
  · have hi' : els[lo + i]? = some e := by
      rw [List.getElem?_take] at hi
      split at hi
      · simpa using hi
      · cases hi
    obtain ⟨u, hu, _⟩ := hr.cell (lo + i) e j x hi' hj
    have := ho.cells (g := g) (by rw [hv]; rfl) _ u hu
    rw [add_mid] at this ⊢
    rw [show lo * sz + (i * sz + j) = 0 + ((lo + i) * sz + j) from by rw [Nat.add_mul]; omega, this]
    simp [List.getD_eq_getElem?_getD, hu]
  · have hi' : els[lo + i]? = some e := by
      rw [List.getElem?_take] at hi
      split at hi
      · simpa using hi
      · cases hi
    obtain ⟨u, hu, hrt⟩ := hr.cell (lo + i) e j x hi' hj
    simp only [List.getD_eq_getElem?_getD, hu, Option.getD_some]
    exact hrt.mono (fun b hb _ => ⟨hk b hb, rfl⟩)

/-- The block of a row is shared from now on. -/
def Gh.free (G : Gh) (v : Value) : Gh := G.setL fun g => if v.ownBlock = some g then none else G.L g
theorem free_sh {G : Gh} {v : Value} {b : Nat} (h : G.sh b) : (G.free v).sh b := by
  simp only [Gh.sh, Gh.free, Gh.setL] at *
  split <;> simp_all
theorem VD.toT {vr : Pl → Nat} {p : Ap} {v : Value} {e : TypeId} {sz : Nat} {els : List (List T)} (h : VD B fr G vr w p v (.own e sz els)) {ok : Nat → Prop} (hk : ∀ b, G.sh b → ok b) (hb : ∀ g, v.ownBlock = some g → ok g) : RT ok w v (.sl sz els) := by
  cases h with
  | own p v e sz els us ho hr hsz hL hq =>
    rcases ownsRow_form ho with ⟨rfl, hn⟩ | ⟨g, cap, rfl, hn⟩
    · obtain rfl : els = [] := List.eq_nil_of_length_eq_zero hn
      exact .sl none 0 0 sz [] (fun _ _ => undef) rfl (Nat.le_refl _) (by simp) (fun h => absurd rfl h) (by simp)
    · have := row_RT ho hr hk rfl (hb g rfl) 0 els.length cap (by omega) hn
      simpa using this
theorem VD.ownTag {vr : Pl → Nat} {p : Ap} {v : Value} {e : TypeId} {sz : Nat} {els : List (List T)} (h : VD B fr G vr w p v (.own e sz els)) : ∀ g, v.ownBlock = some g → G.L g = some (.own p) := by
  cases h with
  | own p v e sz els us ho hr hsz hL hq => exact hL

/-- Freeing the row at p. -/
theorem keep_free {vr : Pl → Nat} {p : Ap} {v : Value} (S : Sim B fr G σ act w) (hL : ∀ g, v.ownBlock = some g → G.L g = some (.own p)) : Keep fr G vr w (G.free v) vr w (fun p' => p' ≠ p) (fun _ _ => True) := by
  refine keep_tags (fun g h => ?_) (fun g p' h hp => ?_) (fun g f s h => ?_) S.alt
  · split
    · rfl
    · exact h
  · rw [if_neg (fun e => ?_)]
    · exact h
    · rw [hL g e] at h
      exact hp (by simpa using h.symm)
  · rw [if_neg (fun e => ?_)]
    · exact h
    · rw [hL g e] at h; cases h
theorem step_free {p : Ap} {v : Value} (hL : ∀ g, v.ownBlock = some g → G.L g = some (.own p)) (hp : p.frame = none ∨ p.frame = some fr) : Step fr G w (G.free v) w := by
  refine step_tags (fun g h => ?_) (fun g h => ?_) (fun g p' f h hf hl => ?_)
  · split
    · rfl
    · exact h
  · rw [if_neg (fun e => ?_)]
    · exact h
    · rw [hL g e] at h; cases h
  · rw [if_neg (fun e => ?_)]
    · exact h
    · rw [hL g e] at h
      have : p = p' := by simpa using h
      subst this
      rcases hp with hp | hp <;> rw [hp] at hf
      · cases hf
      · have : fr = f := by simpa using hf
        omega
theorem old_free (S : Sim B fr G σ act w) (v : Value) : ∀ g τ, (G.free v).L g = some τ → g < w.heap.size ∧ (τ = .junk ∨ B ≤ g) := by
  intro g τ h
  simp only [Gh.free, Gh.setL] at h
  split at h
  · cases h
  · exact S.old g τ h
theorem Pl.abs_frame (q : Pl) : (q.abs fr).frame = none ∨ (q.abs fr).frame = some fr := by cases q <;> simp [Pl.abs, Ap.frame]

theorem rowAt_ok {q : Pl} {k : Nat} {r : TypeId × Nat × List (List T)} (h : (rowAt q k).run C σ = some (.ok r, σ')) : σ = σ' ∧ k = σ.verAt q ∧ ∃ d, (Pv.getPl q).run C σ = some (.ok d, σ) ∧ d = .own r.1 r.2.1 r.2.2 := by
  simp only [rowAt] at h
  obtain ⟨d, σ1, h1, h⟩ := bind_ok h
  have e1 := (getPl_ok h1).1
  subst e1
  obtain ⟨k', σ2, h2, h⟩ := bind_ok h
  obtain ⟨rfl, rfl⟩ := gV_ok h2
  obtain ⟨_, σ2, h2, h⟩ := bind_ok h
  obtain ⟨hk, rfl⟩ := need_ok h2
  split at h
  · obtain ⟨rfl, rfl⟩ := pure_ok h
    exact ⟨rfl, by simpa using hk, _, h1, rfl⟩
  · cases h
/-- The row that stands at a place. -/
theorem Sim.rowAt {q : Pl} {k : Nat} {r : TypeId × Nat × List (List T)} (S : Sim B fr G σ act w) (h : (rowAt q k).run C σ = some (.ok r, σ')) :
    σ = σ' ∧ k = σ.verAt q ∧ ∃ v, At fr G act w q v ∧ VD B fr G σ.verAt w (q.abs fr) v (.own r.1 r.2.1 r.2.2) := by
  obtain ⟨e, hk, d, hd, rfl⟩ := rowAt_ok h
  refine ⟨e, hk, ?_⟩
  rcases (S.getPl hd).2 with h | h
  · cases h
  · exact h
/-- A slice of the row that stands at a place, as data. -/
theorem als_RT {vr : Pl → Nat} {p : Ap} {q : Pl} {sz sz' lo n : Nat} {e : TypeId} {els : List (List T)} {v v' : Value} (ho : VD B fr G vr w (q.abs fr) v (.own e sz' els)) (ha : VD B fr G vr w p v' (.als q (vr q) sz lo n))
    (hs : sz = sz') (hn : lo + n ≤ els.length) {ok : Nat → Prop} (hk : ∀ b, G.sh b → ok b) (hb : ∀ g, v.ownBlock = some g → ok g) : RT ok w v' (.sl sz ((els.drop lo).take n)) := by
  subst hs
  generalize hp : q.abs fr = p0 at ho
  cases ho with
  | own p0 v e sz els us ho hr hsz hL hq =>
    have hv := hq q ha.okq hp
    rw [← hp] at hv
    cases ha with
    | alsN p q k sz lo hk' hv' =>
      simp only [List.take_zero]
      exact .sl none 0 0 sz [] (fun _ _ => undef) rfl (Nat.le_refl _) (by simp) (fun h => absurd rfl h) (by simp)
    | als p q k sz lo n g c cap cap' hk' hv' hn' hc o hoff =>
      rw [hv'] at hv
      subst hv
      rcases ownsRow_form ho with ⟨h, _⟩ | ⟨g', cap2, h, hle⟩
      · cases h
      · cases h
        rcases hoff with rfl | ⟨h0, _⟩
        · exact row_RT ho hr hk rfl (hb g rfl) lo n cap' hn hn'
        · have : n = 0 := by omega
          subst this
          exact .sl _ 0 cap' sz [] (fun _ _ => undef) rfl (Nat.zero_le _) (by simp) (fun h => absurd rfl h) (by simp)

/-- What a value of one cell is as data, lent: the blocks that are lent are told. -/
theorem Sim.lend {p : Ap} {v : Value} {d : D} {x : T} (S : Sim B fr G σ act w) (hv : VD B fr G σ.verAt w p v d) (h : (lend d).run C σ = some (.ok x, σ')) :
    σ = σ' ∧ RT (fun b => G.sh b ∨ ∃ p, G.L b = some (.own p)) w v x := by
  cases d with
  | t y =>
    obtain ⟨rfl, rfl⟩ := ret_ok (C := C) h
    cases hv with
    | t p v x h => exact ⟨rfl, h.mono (fun b hb _ => ⟨.inl hb, rfl⟩)⟩
  | own e sz els =>
    obtain ⟨rfl, rfl⟩ := ret_ok (C := C) h
    exact ⟨rfl, hv.toT (fun b hb => .inl hb) (fun g hg => .inr ⟨_, hv.ownTag g hg⟩)⟩
  | als q k sz lo n =>
    simp only [Pv.lend] at h
    obtain ⟨⟨e, sz', els⟩, σ1, h1, h4⟩ := bind_ok h
    clear h
    obtain ⟨rfl, rfl, v0, hat, ho⟩ := S.rowAt h1
    obtain ⟨_, σ1, h2, h5⟩ := bind_ok h4
    clear h4
    obtain ⟨hn, rfl⟩ := need_ok h2
    obtain ⟨rfl, rfl⟩ := pure_ok h5
    simp only [Bool.and_eq_true, beq_iff_eq, decide_eq_true_eq] at hn
    exact ⟨rfl, als_RT ho hv hn.1 hn.2 (fun b hb => .inl hb) (fun g hg => .inr ⟨_, ho.ownTag g hg⟩)⟩
  | _ => cases h

/-- The row at a place is shared from now on. -/
theorem Sim.shareAt {q : Pl} {v : Value} {e : TypeId} {sz : Nat} {els : List (List T)} {u : Unit} (S : Sim B fr G σ act w) (hat : At fr G act w q v) (ho : VD B fr G σ.verAt w (q.abs fr) v (.own e sz els))
    (h : (Pv.putPl q (.t (.sl sz els))).run C σ = some (.ok u, σ')) : Sim B fr (G.free v) σ' act w ∧ σ'.verAt = σ.verAt ∧ Keep fr G σ.verAt w (G.free v) σ.verAt w (fun p => p ≠ q.abs fr) (fun _ _ => True) ∧ Step fr G w (G.free v) w := by
  have K := keep_free (vr := σ.verAt) S ho.ownTag
  have hv : ∀ v', At fr G act w q v' → VD B fr (G.free v) σ.verAt w (q.abs fr) v' (.t (.sl sz els)) := fun v' h' => by
    have : v' = v := by
      cases q with
      | tm t => exact h'.symm.trans hat
      | bx s o => exact Option.some.inj (h'.symm.trans hat)
      | fb f s o => exact Option.some.inj (h'.symm.trans hat)
    subst this
    exact .t _ _ _ (ho.toT (fun b hb => free_sh hb) (fun g hg => by show (if v'.ownBlock = some g then none else G.L g) = none; rw [if_pos hg]))
  obtain ⟨a, b⟩ := S.putPl rfl h K hv rfl (old_free S v)
  exact ⟨a, b, K, step_free ho.ownTag (Pl.abs_frame q)⟩
end Go.Pv

/- Values on their way: resolved, and laid into slots. -/
namespace Go.Pv
open Go.RowKit
variable {B fr : Nat} {G : Gh} {σ σ' : St} {act : Act} {w : World} {C : Callee}

/-- The other values on their way. -/
def Pend (fr i : Nat) (p : Ap) : Prop := ∃ f j path, p = .pn f j path ∧ ¬ (f = fr ∧ j = i)
theorem Pend.closed (fr i : Nat) : Closed (Pend fr i) := by
  rintro p k ⟨f, j, path, rfl, h⟩
  exact ⟨f, j, path ++ [k], rfl, h⟩
theorem Pend.ne {fr i : Nat} {p : Ap} (h : Pend fr i p) (q : Pl) : p ≠ q.abs fr := by
  obtain ⟨f, j, path, rfl, _⟩ := h
  cases q <;> simp [Pl.abs]
theorem Keep.trans {G1 G2 : Gh} {v0 v1 v2 : Pl → Nat} {w1 w2 : World} {KP : Ap → Prop} {KB : Nat → Nat → Prop} (a : Keep fr G v0 w G1 v1 w1 KP KB) (b : Keep fr G1 v1 w1 G2 v2 w2 KP KB) : Keep fr G v0 w G2 v2 w2 KP KB where
  size := Nat.le_trans a.size b.size
  sh := fun g hl h => b.sh g (Nat.lt_of_lt_of_le hl a.size) (a.sh g hl h)
  shw := fun g h hl => (b.shw g (a.sh g hl h) (Nat.lt_of_lt_of_le hl a.size)).trans (a.shw g h hl)
  own := fun g p h k => ⟨(b.own g p (a.own g p h k).1 k).1, (b.own g p (a.own g p h k).1 k).2.trans (a.own g p h k).2⟩
  vle := fun q => Nat.le_trans (a.vle q) (b.vle q)
  vsame := fun q h => (b.vsame q h).trans (a.vsame q h)
  hv := fun q k o h => (b.hv q k o (Nat.le_trans h (a.vle q))).trans (a.hv q k o h)
  al := fun f s h => ⟨(b.al f s (a.al f s h).1).1, (b.al f s (a.al f s h).1).2.trans (a.al f s h).2⟩
  box := fun f s h k => by
    have x := a.al f s h
    have y := a.box f s h k
    have z := b.box f s x.1 k
    rw [x.2] at z
    exact ⟨z.1.trans y.1, z.2.trans y.2⟩
/-- A step that turns what is told alone; the other values on their way stay. -/
structure GS (B fr i : Nat) (G : Gh) (σ : St) (G' : Gh) (σ' : St) (act : Act) (w : World) : Prop where
  sim : Sim B fr G' σ' act w
  keep : Keep fr G σ.verAt w G' σ'.verAt w (Pend fr i) (fun _ _ => True)
  step : Step fr G w G' w
theorem GS.refl (i : Nat) (S : Sim B fr G σ act w) : GS B fr i G σ G σ act w := ⟨S, .refl _ _ _ _ _ _, .refl _ _ _⟩
theorem GS.trans {i : Nat} {G1 G2 : Gh} {σ1 σ2 : St} (a : GS B fr i G σ G1 σ1 act w) (b : GS B fr i G1 σ1 G2 σ2 act w) : GS B fr i G σ G2 σ2 act w := ⟨b.sim, a.keep.trans b.keep, a.step.trans b.step⟩
/-- Another value on its way, behind such a step. -/
theorem GS.other {i j : Nat} {G' : Gh} {path : List Nat} {v : Value} {d : D} (a : GS B fr i G σ G' σ' act w) (hij : j ≠ i) (h : VD B fr G σ.verAt w (.pn fr j path) v d) : VD B fr G' σ'.verAt w (.pn fr j path) v d :=
  h.keep a.keep (Pend.closed fr i) fun _ => ⟨fr, j, path, rfl, fun e => hij e.2⟩
/-- Data and what owns nothing, behind such a step. -/
theorem GS.free {i : Nat} {G' : Gh} {p : Ap} {v : Value} {d : D} (a : GS B fr i G σ G' σ' act w) (h : VD B fr G σ.verAt w p v d) (hno : d.hasOwn = false) : VD B fr G' σ'.verAt w p v d :=
  h.keep a.keep (Pend.closed fr i) fun e => by rw [hno] at e; cases e
theorem GS.RT {i : Nat} {G' : Gh} {v : Value} {x : T} (a : GS B fr i G σ G' σ' act w) (h : RT G.sh w v x) : RT G'.sh w v x := h.mono (fun b hb hl => ⟨a.keep.sh b hl hb, rfl⟩)

theorem Sim.takeGS {H : Hint} {x : Operand} {d : D} (i : Nat) (S : Sim B fr G σ act w) (h : (Pv.take H x).run C σ = some (.ok d, σ')) :
    ∃ G', GS B fr i G σ G' σ' act w ∧ VD B fr G' σ'.verAt w (.pn fr i []) (act.eval x) d := by
  obtain ⟨G', a, b, c, e⟩ := S.take i h
  refine ⟨G', ⟨a, c.weaken (fun p hp t _ => ?_) (fun _ _ h => h), e⟩, b⟩
  obtain ⟨f, j, path, rfl, _⟩ := hp
  rfl

/-- What is on its way, as data; what a place owned is shared from now on. -/
theorem Sim.share {i : Nat} {v : Value} {d : D} {x : T} (S : Sim B fr G σ act w) (hv : VD B fr G σ.verAt w (.pn fr i []) v d) (h : (Pv.share d).run C σ = some (.ok x, σ')) :
    ∃ G', GS B fr i G σ G' σ' act w ∧ RT G'.sh w v x := by
  cases d with
  | t y =>
    obtain ⟨rfl, rfl⟩ := ret_ok (C := C) h
    cases hv with
    | t p v x h => exact ⟨G, .refl i S, h⟩
  | own e sz els =>
    obtain ⟨rfl, rfl⟩ := ret_ok (C := C) h
    have K := keep_free (vr := σ.verAt) S hv.ownTag
    have hal : ∀ f s, G.al f s → (G.free v).L (G.hb f s) = some (.box f s) := fun f s h => by rw [(K.box f s h trivial).1]; exact S.alt f s h
    refine ⟨G.free v, ⟨?_, K.weaken (fun p hp e => ?_) (fun _ _ h => h), step_free hv.ownTag (.inr rfl)⟩, hv.toT (fun b hb => free_sh hb) (fun g hg => by show (if v.ownBlock = some g then none else G.L g) = none; rw [if_pos hg])⟩
    · have hC : Closed fun p' => p' ≠ Ap.pn fr i [] := fun p k h e => by cases p <;> simp [Ap.sub] at e
      exact S.upd K hC S.len (fun t d hd => .inl ⟨hd, rfl, fun _ => by simp⟩) (fun s c hc hne => .inl ⟨hc, trivial, fun _ _ _ _ => by simp⟩) S.bxn (fun f b hb s c hc hne => .inl ⟨⟨b, hb, hc⟩, trivial, fun _ _ _ _ => by simp⟩)
        S.frl S.alf hal (old_free S v) S.dfs
    · obtain ⟨f, j, path, rfl, hne⟩ := hp
      simp only [Ap.pn.injEq] at e
      exact hne ⟨e.1, e.2.1⟩
  | als q k sz lo n =>
    simp only [Pv.share] at h
    obtain ⟨⟨e, sz', els⟩, σ1, h1, h4⟩ := bind_ok h
    clear h
    obtain ⟨rfl, rfl, v0, hat, ho⟩ := S.rowAt h1
    obtain ⟨_, σ1, h2, h5⟩ := bind_ok h4
    clear h4
    obtain ⟨hn, rfl⟩ := need_ok h2
    obtain ⟨_, σ2, h6, h7⟩ := bind_ok h5
    clear h5
    obtain ⟨rfl, rfl⟩ := pure_ok h7
    simp only [Bool.and_eq_true, beq_iff_eq, decide_eq_true_eq] at hn
    obtain ⟨hs, hn⟩ := hn
    subst hs
    obtain ⟨a, b, c, d⟩ := S.shareAt hat ho h6
    refine ⟨G.free v0, ⟨a, ?_, d⟩, als_RT ho hv rfl hn (fun b hb => free_sh hb) (fun g hg => by show (if v0.ownBlock = some g then none else G.L g) = none; rw [if_pos hg])⟩
    rw [b]
    exact c.weaken (fun p hp => Pend.ne hp q) (fun _ _ h => h)
  | _ => cases h

/-! ### laid into a slot -/
def land1 (fr i t : Nat) : Tag → Tag
  | .own (.pn f j p) => if f = fr ∧ j = i then .own (.tm fr t p) else .own (.pn f j p)
  | τ => τ
def Gh.land (G : Gh) (fr i t k : Nat) (v : Value) : Gh :=
  { G with L := fun g => (G.L g).map (land1 fr i t), hv := fun p n => if p = .tm fr t [] ∧ n = k then v else G.hv p n }
theorem land_none {i t k g : Nat} {v : Value} : (G.land fr i t k v).L g = none ↔ G.L g = none := by simp [Gh.land]
theorem land1_own {i t : Nat} {p : Ap} (h : p.atPn fr i = false) : land1 fr i t (.own p) = .own p := by
  cases p with
  | pn f j q =>
    simp only [Ap.atPn, Bool.and_eq_false_iff, beq_eq_false_iff_ne] at h
    simp only [land1]
    rw [if_neg (by rintro ⟨a, b⟩; rcases h with h | h <;> exact h (by assumption))]
  | _ => rfl
theorem VD.land {vr vr' : Pl → Nat} {i t k : Nat} {v0 : Value} (hle : ∀ q, vr q ≤ vr' q) (hk : vr (.tm t) < k) (hk' : vr' (.tm t) = k) {p : Ap} {v : Value} {d : D} (h : VD B fr G vr w p v d) :
    ∀ path, p = .pn fr i path → (path = [] → v = v0) → VD B fr (G.land fr i t k v0) vr' w (.tm fr t path) v d := by
  have hok : ∀ b, G.sh b → (G.land fr i t k v0).sh b := fun b hb => land_none.2 hb
  have hrt : ∀ b, G.sh b → b < w.heap.size → (G.land fr i t k v0).sh b ∧ w.heap[b]? = w.heap[b]? := fun b hb _ => ⟨hok b hb, rfl⟩
  have hhv : ∀ (q : Pl) n, n ≤ vr q → (G.land fr i t k v0).hv (q.abs fr) n = G.hv (q.abs fr) n := fun q n hn => by
    show (if _ ∧ _ then _ else _) = _
    rw [if_neg]
    rintro ⟨a, b⟩
    cases q with
    | tm t' => simp only [Pl.abs, Ap.tm.injEq] at a; obtain ⟨_, rfl, _⟩ := a; omega
    | _ => cases a
  induction h with
  | t p v x h => exact fun path e _ => .t _ v x (h.mono hrt)
  | agg p us ds hs h1 h ih => exact fun path e _ => .agg _ us ds hs h1 fun j u d hu hd => ih j u d hu hd (path ++ [j]) (by rw [e]; rfl) (by simp)
  | tup p us ds hs h ih => exact fun path e _ => .tup _ us ds hs fun j u d hu hd => ih j u d hu hd (path ++ [j]) (by rw [e]; rfl) (by simp)
  | own p v e sz els us ho hr hsz hL hq =>
    intro path ep hv
    subst ep
    refine .own _ v e sz els us ho (hr.mono hrt) hsz (fun g hg => by simp [Gh.land, hL g hg, land1]) fun q hok e => ?_
    cases q with
    | tm t' =>
      simp only [Pl.abs, Ap.tm.injEq] at e
      obtain ⟨_, rfl, rfl⟩ := e
      show (if _ ∧ _ then _ else _) = _
      rw [if_pos ⟨rfl, hk'⟩]
      exact (hv rfl).symm
    | _ => cases e
  | omap p g es clock kvs hg hm hB hL hq =>
    intro path ep hv
    subst ep
    refine .omap _ g es clock kvs hg hm hB (by simp [Gh.land, hL, land1]) fun q hok e => ?_
    cases q with
    | tm t' =>
      simp only [Pl.abs, Ap.tm.injEq] at e
      obtain ⟨_, rfl, rfl⟩ := e
      show (if _ ∧ _ then _ else _) = _
      rw [if_pos ⟨rfl, hk'⟩]
      exact (hv rfl).symm
    | _ => cases e
  | alsN p q n sz lo hn hv => exact fun _ _ _ => .alsN _ q n sz lo ⟨hn.1, Nat.le_trans hn.2 (hle q)⟩ (by rw [hhv q n hn.2]; exact hv)
  | als p q n sz lo m g c cap cap' hn hv hm hc o ho => exact fun _ _ _ => .als _ q n sz lo m g c cap cap' ⟨hn.1, Nat.le_trans hn.2 (hle q)⟩ (by rw [hhv q n hn.2]; exact hv) hm hc o ho
  | mal p q n hn g hv => exact fun _ _ _ => .mal _ q n ⟨hn.1, Nat.le_trans hn.2 (hle q)⟩ g (by rw [hhv q n hn.2]; exact hv)
  | ept p q n sz i off g c cap hn hv => exact fun _ _ _ => .ept _ q n sz i off g c cap ⟨hn.1, Nat.le_trans hn.2 (hle q)⟩ (by rw [hhv q n hn.2]; exact hv)
  | lp p s o ha => exact fun _ _ _ => .lp (G := G.land fr i t k v0) _ s o ha
  | fp p f s o hf ha => exact fun _ _ _ => .fp (G := G.land fr i t k v0) _ f s o hf ha
  | clo p f us ds hs hno h ih => exact fun path e _ => .clo _ f us ds hs hno fun j u d hu hd => ih j u d hu hd (path ++ [j]) (by rw [e]; rfl) (by simp)
  | dead p v => exact fun _ _ _ => .dead _ v

theorem verOf_cons_self (q : Pl) (k : Nat) (l : List (Pl × Nat)) : verOf ((q, k) :: l) q = k := by simp [verOf, List.lookup]
theorem verOf_cons_ne {q q' : Pl} (h : q' ≠ q) (k : Nat) (l : List (Pl × Nat)) : verOf ((q, k) :: l) q' = verOf l q' := by
  have : (q' == q) = false := by simpa using h
  simp [verOf, List.lookup, this]
/-- The version of a place is raised. -/
def St.raise (σ : St) (q : Pl) : St := { σ with ver := (q, verOf σ.ver q + 1) :: σ.ver }
theorem raise_self (σ : St) (q : Pl) : (σ.raise q).verAt q = σ.verAt q + 1 := by
  simp only [St.raise, St.verAt, verOf_cons_self]; omega
theorem raise_ne (σ : St) {q q' : Pl} (h : q' ≠ q) : (σ.raise q).verAt q' = σ.verAt q' := by simp only [St.raise, St.verAt, verOf_cons_ne h]
theorem raise_le (σ : St) (q q' : Pl) : σ.verAt q' ≤ (σ.raise q).verAt q' := by
  by_cases h : q' = q
  · subst h; rw [raise_self]; omega
  · rw [raise_ne σ h]; exact Nat.le_refl _

theorem eval_put_self {t : Nat} {v : Value} (h : t < act.tmps.size) : (act.put (some t) v).tmps.getD t undef = v := by
  simp [Act.put, h]
theorem eval_put_ne {t t' : Nat} {v : Value} (h : t ≠ t') : (act.put (some t) v).tmps.getD t' undef = act.tmps.getD t' undef := by
  simp [Act.put, Array.getElem?_setIfInBounds_ne h]

/-- A value on its way is laid into a slot, by the machine and in what is told. -/
theorem Sim.land {i t : Nat} {v : Value} {d : D} (S : Sim B fr G σ act w) (hv : VD B fr G σ.verAt w (.pn fr i []) v d) (ht : t < σ.tm.length) :
    ∃ G', Sim B fr G' { (σ.raise (.tm t)) with tm := σ.tm.set t d } (act.put (some t) v) w ∧ Step fr G w G' w := by
  let k := (σ.raise (.tm t)).verAt (.tm t)
  have hk : σ.verAt (.tm t) < k := by show _ < (σ.raise _).verAt _; rw [raise_self]; omega
  have hbox : ∀ g f s, G.L g = some (.box f s) → (G.land fr i t k v).L g = some (.box f s) := fun g f s h => by simp [Gh.land, h, land1]
  have hnn : ∀ {p : Ap}, p.atPn fr i = false → p ≠ .tm fr t [] → True := fun _ _ => trivial
  have K : Keep fr G σ.verAt w (G.land fr i t k v) (σ.raise (.tm t)).verAt w (fun p => p.atPn fr i = false ∧ p.atTm fr t = false) (fun _ _ => True) := by
    refine ⟨Nat.le_refl _, fun g _ h => land_none.2 h, fun _ _ _ => rfl, fun g p h hp => ⟨?_, rfl⟩, fun q => raise_le σ _ q, fun q hq => ?_, fun q n _ hn => ?_, fun _ _ h => ⟨h, rfl⟩, fun f s h _ => ⟨?_, rfl⟩⟩
    · simp [Gh.land, h, land1_own hp.1]
    · refine raise_ne σ fun e => ?_
      subst e
      simp [Pl.abs, Ap.atTm] at hq
    · show (if _ ∧ _ then _ else _) = _
      rw [if_neg]
      rintro ⟨a, b⟩
      cases q with
      | tm t' => simp only [Pl.abs, Ap.tm.injEq] at a; obtain ⟨_, rfl, _⟩ := a; omega
      | _ => cases a
    · rw [S.alt f s h]; exact hbox _ f s (S.alt f s h)
  have hC : Closed fun p => p.atPn fr i = false ∧ p.atTm fr t = false := fun p j h => ⟨(Ap.atPn_sub fr i p j).trans h.1, (Ap.atTm_sub fr t p j).trans h.2⟩
  have hs : t < act.tmps.size := by rw [S.len]; exact ht
  refine ⟨G.land fr i t k v, S.upd (σ' := { (σ.raise (.tm t)) with tm := σ.tm.set t d }) K hC (by simpa [Act.put] using S.len) (fun t' d' hd => ?_) (fun s c hc hne => .inl ⟨hc, trivial, fun _ _ _ _ => ⟨rfl, rfl⟩⟩) S.bxn
    (fun f b hb s c hc hne => .inl ⟨⟨b, hb, hc⟩, trivial, fun _ _ _ _ => ⟨rfl, rfl⟩⟩) S.frl S.alf (fun f s h => hbox _ f s (S.alt f s h)) (fun g τ h => ?_) (by simpa [Act.put] using S.dfs), ?_⟩
  · simp only [List.getElem?_set] at hd
    by_cases e : t = t'
    · subst e
      rw [if_pos rfl, if_pos ht] at hd
      cases hd
      right
      rw [eval_put_self hs]
      exact hv.land (fun q => raise_le σ _ q) hk rfl [] rfl (fun _ => rfl)
    · rw [if_neg e] at hd
      exact .inl ⟨hd, eval_put_ne e, fun _ => ⟨rfl, Ap.not_atTm (Ne.symm e) _⟩⟩
  · simp only [Gh.land] at h
    cases hg : G.L g with
    | none => rw [hg] at h; cases h
    | some τ' =>
      obtain ⟨h1, h2⟩ := S.old g τ' hg
      rw [hg] at h
      simp only [Option.map_some, Option.some.injEq] at h
      exact ⟨h1, h2.imp (fun e => by rw [← h, e]; rfl) id⟩
  · refine ⟨rfl, rfl, rfl, Nat.le_refl _, fun g _ h => ⟨land_none.2 h, rfl⟩, fun g h => ⟨by simp [Gh.land, h, land1], rfl⟩, fun g p f h hf hl => ⟨?_, rfl⟩, fun _ _ _ h => ⟨h, rfl⟩⟩
    have : p.atPn fr i = false := by
      cases p with
      | pn f' t' q =>
        simp only [Ap.frame, Option.some.injEq] at hf
        simp only [Ap.atPn, Bool.and_eq_false_iff, beq_eq_false_iff_ne]
        exact .inl (by omega)
      | _ => rfl
    simp [Gh.land, h, land1_own this]
end Go.Pv

/- Values on their way: resolved; put. -/
namespace Go.Pv
open Go.RowKit
variable {B fr : Nat} {G : Gh} {σ σ' : St} {act : Act} {w : World} {C : Callee}

theorem closed_true : Closed fun _ => True := fun _ _ _ => trivial
/-- What owns nothing is laid into a slot. -/
theorem Sim.land0 {t : Nat} {v : Value} {d : D} {p : Ap} (S : Sim B fr G σ act w) (hv : VD B fr G σ.verAt w p v d) (hno : d.hasOwn = false) (ht : t < σ.tm.length) :
    Sim B fr G { σ with tm := σ.tm.set t d } (act.put (some t) v) w := by
  have hs : t < act.tmps.size := by rw [S.len]; exact ht
  refine S.upd (σ' := { σ with tm := σ.tm.set t d }) (KP := fun _ => True) (KB := fun _ _ => True) (.refl _ _ _ _ _ _) closed_true (by simpa [Act.put] using S.len) (fun t' d' hd => ?_) (fun s c hc hne => .inl ⟨hc, trivial, fun _ _ _ _ => trivial⟩) S.bxn
    (fun f b hb s c hc hne => .inl ⟨⟨b, hb, hc⟩, trivial, fun _ _ _ _ => trivial⟩) S.frl S.alf S.alt S.old (by simpa [Act.put] using S.dfs)
  simp only [List.getElem?_set] at hd
  by_cases e : t = t'
  · subst e
    rw [if_pos rfl, if_pos ht] at hd
    cases hd
    right
    rw [eval_put_self hs]
    exact hv.free _ hno
  · rw [if_neg e] at hd
    exact .inl ⟨hd, eval_put_ne e, fun _ => trivial⟩

theorem mapAt_ok {q : Pl} {k : Nat} {r : List (Int × Int)} (h : (mapAt q k).run C σ = some (.ok r, σ')) : σ = σ' ∧ k = σ.verAt q ∧ ∃ d, (Pv.getPl q).run C σ = some (.ok d, σ) ∧ d = .omap r := by
  simp only [mapAt] at h
  obtain ⟨d, σ1, h1, h⟩ := bind_ok h
  have e1 := (getPl_ok h1).1
  subst e1
  obtain ⟨k', σ2, h2, h⟩ := bind_ok h
  obtain ⟨rfl, rfl⟩ := gV_ok h2
  obtain ⟨_, σ2, h2, h⟩ := bind_ok h
  obtain ⟨hk, rfl⟩ := need_ok h2
  split at h
  · obtain ⟨rfl, rfl⟩ := pure_ok h
    exact ⟨rfl, by simpa using hk, _, h1, rfl⟩
  · cases h
/-- The map that stands at a place. -/
theorem Sim.mapAt {q : Pl} {k : Nat} {r : List (Int × Int)} (S : Sim B fr G σ act w) (h : (Pv.mapAt q k).run C σ = some (.ok r, σ')) :
    σ = σ' ∧ k = σ.verAt q ∧ ∃ v, At fr G act w q v ∧ VD B fr G σ.verAt w (q.abs fr) v (.omap r) := by
  obtain ⟨e, hk, d, hd, rfl⟩ := mapAt_ok h
  refine ⟨e, hk, ?_⟩
  rcases (S.getPl hd).2 with h | h
  · cases h
  · exact h

/-- What leaves a place goes its way: the row at q, on its way as number i. -/
def Gh.leave (G : Gh) (b : Option Nat) (fr i : Nat) : Gh := G.setL fun g => if b = some g then some (.own (.pn fr i [])) else G.L g
theorem leave_sh {bk : Option Nat} {i b : Nat} (hL : ∀ g, bk = some g → G.L g ≠ none) (h : G.sh b) : (G.leave bk fr i).sh b := by
  show (if bk = some b then _ else _) = _
  rw [if_neg]
  · exact h
  · intro e; exact hL b e h
theorem keep_leave {vr : Pl → Nat} {q : Pl} {i : Nat} {v : Option Nat} (S : Sim B fr G σ act w) (hL : ∀ g, v = some g → G.L g = some (.own (q.abs fr))) : Keep fr G vr w (G.leave v fr i) vr w (fun p' => p' ≠ q.abs fr) (fun _ _ => True) := by
  refine keep_tags (fun g h => ?_) (fun g p' h hp => ?_) (fun g f s h => ?_) S.alt
  · rw [if_neg (fun e => ?_)]
    · exact h
    · rw [hL g e] at h; cases h
  · rw [if_neg (fun e => ?_)]
    · exact h
    · rw [hL g e] at h
      exact hp (by simpa using h.symm)
  · rw [if_neg (fun e => ?_)]
    · exact h
    · rw [hL g e] at h; cases h
theorem step_leave {q : Pl} {i : Nat} {v : Option Nat} (hL : ∀ g, v = some g → G.L g = some (.own (q.abs fr))) : Step fr G w (G.leave v fr i) w := by
  refine step_tags (fun g h => ?_) (fun g h => ?_) (fun g p' f h hf hl => ?_)
  · rw [if_neg (fun e => ?_)]
    · exact h
    · rw [hL g e] at h; cases h
  · rw [if_neg (fun e => ?_)]
    · exact h
    · rw [hL g e] at h; cases h
  · rw [if_neg (fun e => ?_)]
    · exact h
    · rw [hL g e] at h
      have : q.abs fr = p' := by simpa using h
      subst this
      rcases Pl.abs_frame (fr := fr) q with hp | hp <;> rw [hp] at hf
      · cases hf
      · have : fr = f := by simpa using hf
        omega
theorem old_leave {q : Pl} {i : Nat} {v : Option Nat} (S : Sim B fr G σ act w) (hL : ∀ g, v = some g → G.L g = some (.own (q.abs fr))) : ∀ g τ, (G.leave v fr i).L g = some τ → g < w.heap.size ∧ (τ = .junk ∨ B ≤ g) := by
  intro g τ h
  by_cases e : v = some g
  · obtain ⟨a, b⟩ := S.old g _ (hL g e)
    exact ⟨a, .inr (b.resolve_left (by simp))⟩
  · have : (G.leave v fr i).L g = G.L g := if_neg e
    rw [this] at h
    exact S.old g τ h
/-- A place is emptied: what it owned goes its way. -/
theorem Sim.leaveAt {q : Pl} {i : Nat} {v : Option Nat} {u : Unit} (S : Sim B fr G σ act w) (hL : ∀ g, v = some g → G.L g = some (.own (q.abs fr)))
    (h : (Pv.putPl q .dead).run C σ = some (.ok u, σ')) : GS B fr i G σ (G.leave v fr i) σ' act w ∧ σ'.verAt = σ.verAt := by
  have K := keep_leave (i := i) (vr := σ.verAt) S hL
  obtain ⟨a, b⟩ := S.putPl rfl h K (fun v' h' => .dead _ _) rfl (old_leave S hL)
  exact ⟨⟨a, by rw [b]; exact K.weaken (fun p hp => Pend.ne hp q) (fun _ _ h => h), step_leave hL⟩, b⟩

theorem ownsRow_trunc {e : TypeId} {sz c cap g n : Nat} {us : List Value} (h : w.ownsRow B e sz (.slice (some ⟨g, 0, none⟩) c cap) c us) (hn : n ≤ c) : w.ownsRow B e sz (.slice (some ⟨g, 0, none⟩) n cap) n (us.take (n * sz)) := by
  have hm : n * sz ≤ c * sz := Nat.mul_le_mul_right _ hn
  refine ⟨by rw [List.length_take, h.1]; omega, .inr ?_⟩
  rcases h.2 with ⟨h', _⟩ | ⟨g', cap', cur, h', hB, hg, hc, hx, hs, ht⟩
  · cases h'
  · cases h'
    refine ⟨g, cap, cur, rfl, hB, hg, by omega, hx, hs, ?_⟩
    rw [← ht, List.take_take]
    congr 1
    omega
theorem RTrow.trunc {ok : Nat → Prop} {sz : Nat} {us : List Value} {els : List (List T)} (h : RTrow ok w sz us els) (n : Nat) (hn : n ≤ els.length) : RTrow ok w sz (us.take (n * sz)) (els.take n) := by
  have hm : n * sz ≤ els.length * sz := Nat.mul_le_mul_right _ hn
  refine ⟨by rw [List.length_take, List.length_take, h.len, Nat.min_eq_left hn]; omega, fun e he => h.each e (List.mem_of_mem_take he), fun i e j x hi hj => ?_⟩
  have hi' : i < n ∧ els[i]? = some e := by
    rw [List.getElem?_take] at hi
    split at hi
    · exact ⟨by assumption, hi⟩
    · cases hi
  obtain ⟨u, hu, hr⟩ := h.cell i e j x hi'.2 hj
  refine ⟨u, ?_, hr⟩
  have hj' : j < sz := by
    have := h.each e (List.mem_of_getElem? hi'.2)
    rw [← this]
    exact (List.getElem?_eq_some_iff.1 hj).1
  rw [List.getElem?_take, if_pos]
  · exact hu
  · calc i * sz + j < i * sz + sz := by omega
      _ = (i + 1) * sz := by rw [Nat.add_mul]; omega
      _ ≤ n * sz := Nat.mul_le_mul_right _ hi'.1

/-- What is on its way is made fit for a place. -/
theorem Sim.resolve {i : Nat} {v : Value} {d d' : D} {okk : Bool} (S : Sim B fr G σ act w) (hv : VD B fr G σ.verAt w (.pn fr i []) v d) (h : (Pv.resolve okk d).run C σ = some (.ok d', σ')) :
    ∃ G', GS B fr i G σ G' σ' act w ∧ VD B fr G' σ'.verAt w (.pn fr i []) v d' ∧ d'.bare = true := by
  cases d with
  | own e sz els =>
    cases okk with
    | true =>
      obtain ⟨rfl, rfl⟩ := ret_ok (C := C) h
      exact ⟨G, .refl i S, hv, rfl⟩
    | false =>
      obtain ⟨rfl, rfl⟩ := ret_ok (C := C) h
      obtain ⟨G', a, b⟩ := S.share (C := C) (x := .sl sz els) (σ' := σ) hv rfl
      exact ⟨G', a, .t _ _ _ b, rfl⟩
  | omap kvs =>
    cases okk with
    | true =>
      obtain ⟨rfl, rfl⟩ := ret_ok (C := C) h
      exact ⟨G, .refl i S, hv, rfl⟩
    | false => cases h
  | als q k sz lo n =>
    simp only [Pv.resolve] at h
    obtain ⟨⟨e, sz', els⟩, σ1, h1, h4⟩ := bind_ok h
    obtain ⟨rfl, rfl, v0, hat, ho⟩ := S.rowAt h1
    dsimp only at ho
    obtain ⟨_, σ1, h2, h5⟩ := bind_ok h4
    obtain ⟨hn, rfl⟩ := need_ok h2
    simp only [Bool.and_eq_true, beq_iff_eq, decide_eq_true_eq] at hn
    obtain ⟨hs, hn⟩ := hn
    subst hs
    split at h5
    · rename_i hc
      simp only [Bool.and_eq_true, beq_iff_eq] at hc
      obtain ⟨_, hlo⟩ := hc
      subst hlo
      obtain ⟨_, σ2, h6, h7⟩ := bind_ok h5
      obtain ⟨rfl, rfl⟩ := pure_ok h7
      obtain ⟨a, b⟩ := S.leaveAt (i := i) ho.ownTag h6
      refine ⟨_, a, ?_, rfl⟩
      rw [b]
      have hL := ho.ownTag
      generalize hp : q.abs fr = p0 at ho
      cases ho with
      | own p0 v0 e sz els us ho hr hsz hL' hq =>
        have hh := hq q hv.okq hp
        rw [← hp] at hh
        have hsh : ∀ b, G.sh b → (G.leave v0.ownBlock fr i).sh b := fun b hb => leave_sh (fun g hg e => by rw [hL g hg] at e; cases e) hb
        cases hv with
        | alsN p q k sz lo hk' hv' =>
          refine .own _ _ e sz _ [] ?_ ⟨by simp, by simp, by simp⟩ hsz (fun g hg => by simp [Value.ownBlock] at hg) (fun q _ e => by cases q <;> cases e)
          simpa using World.ownsRow_nil w B e sz
        | als p q k sz lo n g c cap cap' hk' hv' hn' hc o hoff =>
          rw [hv'] at hh
          subst hh
          rcases ownsRow_form ho with ⟨h, _⟩ | ⟨g', cap2, h, hle⟩
          · cases h
          · cases h
            have hcap : cap' = cap := by omega
            subst hcap
            have hlen : (els.take n).length = n := by rw [List.length_take]; omega
            obtain rfl : o = 0 := by rcases hoff with h | h
                                     · rw [h, Nat.zero_mul]
                                     · omega
            refine .own _ _ e sz _ (us.take (n * sz)) (by rw [hlen]; exact ownsRow_trunc ho (by omega)) ((hr.trunc n (by omega)).mono (fun b hb _ => ⟨hsh b hb, rfl⟩)) hsz (fun g1 hg => ?_) (fun q _ e => by cases q <;> cases e)
            have : g = g1 := by simpa [Value.ownBlock] using hg
            subst this
            exact if_pos rfl
    · obtain ⟨_, σ2, h6, h7⟩ := bind_ok h5
      obtain ⟨rfl, rfl⟩ := pure_ok h7
      obtain ⟨a, b, c, d⟩ := S.shareAt hat ho h6
      refine ⟨G.free v0, ⟨a, ?_, d⟩, .t _ _ _ (als_RT ho hv rfl hn (fun b hb => free_sh hb) (fun g hg => by show (if v0.ownBlock = some g then none else G.L g) = none; rw [if_pos hg])), rfl⟩
      rw [b]
      exact c.weaken (fun p hp => Pend.ne hp q) (fun _ _ h => h)
  | mal q k =>
    simp only [Pv.resolve] at h
    obtain ⟨kvs, σ1, h1, h4⟩ := bind_ok h
    obtain ⟨rfl, rfl, v0, hat, ho⟩ := S.mapAt h1
    obtain ⟨_, σ1, h2, h5⟩ := bind_ok h4
    obtain ⟨_, rfl⟩ := need_ok h2
    obtain ⟨_, σ2, h6, h7⟩ := bind_ok h5
    obtain ⟨rfl, rfl⟩ := pure_ok h7
    generalize hp : q.abs fr = p0 at ho
    cases ho with
    | omap p0 g es clock kvs hg hm hB hL hq =>
      have hh := hq q hv.okm hp
      rw [← hp] at hh hL
      obtain ⟨a, b⟩ := S.leaveAt (i := i) (v := some g) (fun g' e => by cases e; exact hL) h6
      refine ⟨_, a, ?_, rfl⟩
      cases hv with
      | mal p q k hk' g' hv' =>
        rw [hv'] at hh
        cases hh
        exact .omap _ g es clock kvs hg hm hB (if_pos rfl) (fun q _ e => by cases q <;> cases e)
  | t x => obtain ⟨rfl, rfl⟩ := ret_ok (C := C) h; exact ⟨G, .refl i S, hv, rfl⟩
  | lp s o => obtain ⟨rfl, rfl⟩ := ret_ok (C := C) h; exact ⟨G, .refl i S, hv, rfl⟩
  | fp f s o => obtain ⟨rfl, rfl⟩ := ret_ok (C := C) h; exact ⟨G, .refl i S, hv, rfl⟩
  | clo f cs => obtain ⟨rfl, rfl⟩ := ret_ok (C := C) h; exact ⟨G, .refl i S, hv, rfl⟩
  | dead => obtain ⟨rfl, rfl⟩ := ret_ok (C := C) h; exact ⟨G, .refl i S, hv, rfl⟩
  | _ => cases h

theorem bumpIf_ok {q : Pl} {d : D} {u : Unit} (h : (bumpIf q d).run C σ = some (.ok u, σ')) : σ' = if d.hasOwn = true then σ.raise q else σ := by
  simp only [bumpIf] at h
  split at h
  · rename_i hd; rw [if_pos hd]; exact bumpq_ok h
  · rename_i hd; rw [if_neg hd]; exact (ret_ok (C := C) h).2.symm
theorem Sim.lay {i t : Nat} {v : Value} {d : D} {u : Unit} (S : Sim B fr G σ act w) (hv : VD B fr G σ.verAt w (.pn fr i []) v d)
    (h : (do bumpIf (.tm t) d; pT t d : Prog Unit).run C σ = some (.ok u, σ')) : ∃ G', Sim B fr G' σ' (act.put (some t) v) w ∧ Step fr G w G' w := by
  obtain ⟨_, σ1, h1, h2⟩ := bind_ok h
  have e1 := bumpIf_ok h1
  obtain ⟨ht, e2⟩ := pT_ok h2
  by_cases hd : d.hasOwn = true
  · rw [if_pos hd] at e1
    subst e1
    have ht' : t < σ.tm.length := ht
    obtain ⟨G', a, b⟩ := S.land hv ht'
    exact ⟨G', by rw [e2]; exact a, b⟩
  · rw [if_neg hd] at e1
    subst e1
    exact ⟨G, by rw [e2]; exact S.land0 hv (by simpa using hd) ht, .refl _ _ _⟩
/-- An answer is laid into its slot. -/
theorem Sim.put {H : Hint} {dst : Option Tmp} {i : Nat} {v : Value} {d : D} {u : Unit} (S : Sim B fr G σ act w) (hv : VD B fr G σ.verAt w (.pn fr i []) v d)
    (h : (Pv.put H dst d).run C σ = some (.ok u, σ')) : ∃ G', Sim B fr G' σ' (act.put dst v) w ∧ Step fr G w G' w := by
  cases dst with
  | none => obtain ⟨_, rfl⟩ := ret_ok (C := C) h; exact ⟨G, S, .refl _ _ _⟩
  | some t =>
    simp only [Pv.put] at h
    split at h
    · simp only [stow] at h
      obtain ⟨d1, σ1, h1, h2⟩ := bind_ok h
      obtain ⟨G1, a, b, _⟩ := S.resolve hv h1
      obtain ⟨G2, c, e⟩ := a.sim.lay b h2
      exact ⟨G2, c, a.step.trans e⟩
    · exact S.lay hv h
/-- Where the answer owns nothing. -/
theorem Sim.putFree {H : Hint} {dst : Option Tmp} {p : Ap} {v : Value} {d : D} {u : Unit} (S : Sim B fr G σ act w) (hv : VD B fr G σ.verAt w p v d) (hno : d.hasOwn = false)
    (h : (Pv.put H dst d).run C σ = some (.ok u, σ')) : ∃ G', Sim B fr G' σ' (act.put dst v) w ∧ Step fr G w G' w :=
  S.put (i := 0) (hv.free _ hno) h
end Go.Pv

/- The operations, one by one: whatever the interpreter answers the machine does. -/
namespace Go.Pv
open Go.RowKit
variable {P : Program} {B fr : Nat} {G : Gh} {σ σ' : St} {act : Act} {w : World} {C : Callee} {K : Act → World → Prop} {Q : Exit → Act → World → Prop}

/-- What follows goes on from wherever one comes to. -/
def On (B fr : Nat) (G : Gh) (w : World) (σ' : St) (K : Act → World → Prop) : Prop := ∀ G' act' w', Sim B fr G' σ' act' w' → Step fr G w G' w' → K act' w'
theorem On.after {G1 : Gh} {w1 : World} (h : On B fr G w σ' K) (s : Step fr G w G1 w1) : On B fr G1 w1 σ' K := fun G' act' w' a b => h G' act' w' a (s.trans b)
theorem wp_value {o : Oper} {v : Value} {w' : World} (h : (execOp act.eval o).run P w = .ok (.value v) w') (hk : K (act.put o.dst v) w') : o.wp P act w K Q := by
  unfold Oper.wp; rw [h]; exact hk
/-- An answer that owns nothing, no world turned. -/
theorem wp_free {H : Hint} {o : Oper} {v : Value} {d : D} {p : Ap} {u : Unit} (S : Sim B fr G σ act w) (hv : VD B fr G σ.verAt w p v d) (hno : d.hasOwn = false)
    (h : (put H o.dst d).run C σ = some (.ok u, σ')) (hr : (execOp act.eval o).run P w = .ok (.value v) w) (hK : On B fr G w σ' K) : o.wp P act w K Q := by
  obtain ⟨G', a, b⟩ := S.putFree hv hno h
  exact wp_value hr (hK _ _ _ a b)
theorem wp_put {H : Hint} {o : Oper} {i : Nat} {v : Value} {d : D} {u : Unit} (S : Sim B fr G σ act w) (hv : VD B fr G σ.verAt w (.pn fr i []) v d)
    (h : (put H o.dst d).run C σ = some (.ok u, σ')) (hr : (execOp act.eval o).run P w = .ok (.value v) w) (hK : On B fr G w σ' K) : o.wp P act w K Q := by
  obtain ⟨G', a, b⟩ := S.put hv h
  exact wp_value hr (hK _ _ _ a b)

theorem Sim.rd {x : Operand} {d : D} (S : Sim B fr G σ act w) (h : (rd x).run C σ = some (.ok d, σ')) : σ = σ' ∧ ∃ p, VD B fr G σ.verAt w p (act.eval x) d := by
  cases x with
  | tmp t =>
    obtain ⟨rfl, rfl⟩ := gT_ok h
    exact ⟨rfl, _, S.tmAt t⟩
  | const v =>
    simp only [Pv.rd] at h
    split at h
    · obtain ⟨rfl, rfl⟩ := ret_ok h
      exact ⟨rfl, .pn fr 0 [], .ofConst (by assumption)⟩
    · cases h
  | func f =>
    obtain ⟨rfl, rfl⟩ := ret_ok (C := C) h
    exact ⟨rfl, .pn fr 0 [], .t _ _ _ (.sc _ rfl)⟩
  | global g => cases h
theorem VD.sc {vr : Pl → Nat} {p : Ap} {v v' : Value} (h : VD B fr G vr w p v (.t (.sc v'))) : v = v' := by
  cases h with
  | t p v x h => cases h; rfl
theorem VD.one {vr : Pl → Nat} {p : Ap} {v v' : Value} (h : VD B fr G vr w p v (.t (.sc v'))) : v'.oneCell' = true := by
  cases h with
  | t p v x h => cases h; assumption
theorem VD.scal {vr : Pl → Nat} {p : Ap} {v : Value} (h : v.oneCell' = true) : VD B fr G vr w p v (.t (.sc v)) := .t _ _ _ (.sc _ h)
theorem bool?_ok {d : D} {b : Bool} (h : d.bool? = some b) : d = .t (.sc (.bool b)) := by
  unfold D.bool? at h
  split at h
  · cases h; rfl
  · cases h
theorem int?_ok {d : D} {n : Int} (h : d.int? = some n) : ∃ k, d = .t (.sc (.int k n)) := by
  unfold D.int? at h
  split at h
  · cases h; exact ⟨_, rfl⟩
  · cases h

section
variable {H : Hint} {dst : Option Tmp} {ty : TypeId} {pos : String} {after : Array Edge} {gd : Option (Nat × Bool)}

theorem op_move {x : Operand} (S : Sim B fr G σ act w) (h : (do put H dst (← take H x) : Prog Unit).run C σ = some (.ok (), σ')) (hK : On B fr G w σ' K)
    {o : Oper} (ho : (execOp act.eval o).run P w = .ok (.value (act.eval x)) w) (hd : o.dst = dst) : o.wp P act w K Q := by
  obtain ⟨d, σ1, h1, h2⟩ := bind_ok h
  obtain ⟨G1, a, b⟩ := S.takeGS 0 h1
  rw [← hd] at h2
  exact wp_put a.sim b h2 ho (hK.after a.step)

theorem op_pick {c x y : Operand} {o : Oper} (ho : o.op = .pick c x y) (S : Sim B fr G σ act w) (h : (pStep P H o).run C σ = some (.ok (), σ')) (hK : On B fr G w σ' K) : o.wp P act w K Q := by
  simp only [pStep, ho] at h
  obtain ⟨d, σ1, h1, h2⟩ := bind_ok h
  obtain ⟨rfl, p, hv⟩ := S.rd h1
  obtain ⟨b, σ1, h3, h4⟩ := bind_ok h2
  obtain ⟨hb, rfl⟩ := ofOpt_ok h3
  have := bool?_ok hb
  subst this
  refine op_move (x := if b then x else y) S h4 hK ?_ rfl
  have hc := hv.sc
  simp only [execOp, ho, hc]
  cases b <;> simp [asBool, go_sem]

theorem op_nilCheck {x : Operand} {o : Oper} (ho : o.op = .nilCheck x) (S : Sim B fr G σ act w) (h : (pStep P H o).run C σ = some (.ok (), σ')) (hK : On B fr G w σ' K) : o.wp P act w K Q := by
  simp only [pStep, ho] at h
  obtain ⟨d, σ1, h1, h2⟩ := bind_ok h
  obtain ⟨rfl, p, hv⟩ := S.rd h1
  have hv' := hv
  split at h2
  · generalize hx : act.eval x = v at hv
    cases hv with
    | t p v x' hr =>
      cases hr with
      | pt a cs f h1 h2' h3 => exact wp_free S hv' rfl h2 (by simp [execOp, ho, hx]) hK
  · generalize hx : act.eval x = v at hv
    cases hv with
    | lp p s o' ha => exact wp_free S hv' rfl h2 (by simp [execOp, ho, hx]) hK
  · generalize hx : act.eval x = v at hv
    cases hv with
    | fp p f s o' hf ha => exact wp_free S hv' rfl h2 (by simp [execOp, ho, hx]) hK
  · generalize hx : act.eval x = v at hv
    cases hv with
    | ept p q k sz i off g c cap hk hh => exact wp_free S hv' rfl h2 (by simp [execOp, ho, hx]) hK
  · generalize hx : act.eval x = v at hv
    cases hv with
    | clo p f us ds hs hno hh => exact wp_free S hv' rfl h2 (by simp [execOp, ho, hx]) hK
  · obtain ⟨_, σ1, h3, h4⟩ := bind_ok h2
    obtain ⟨hn, rfl⟩ := need_ok h3
    unfold fnOf at hn
    split at hn
    · have hc := hv.sc
      exact wp_free S hv rfl h4 (by simp [execOp, ho, hc]) hK
    · cases hn

theorem op_unOp {op : UnOp} {xt : TypeId} {x : Operand} {o : Oper} (ho : o.op = .unOp op xt x) (S : Sim B fr G σ act w) (h : (pStep P H o).run C σ = some (.ok (), σ')) (hK : On B fr G w σ' K) : o.wp P act w K Q := by
  simp only [pStep, ho] at h
  obtain ⟨d, σ1, h1, h2⟩ := bind_ok h
  obtain ⟨rfl, p, hv⟩ := S.rd h1
  obtain ⟨v, σ1, h3, h4⟩ := bind_ok h2
  obtain ⟨hb, rfl⟩ := ofOpt_ok h3
  have key : v.oneCell' = true ∧ (execOp act.eval o).run P w = .ok (.value v) w := by
    unfold unD at hb
    split at hb
    · have hc := hv.sc
      cases hb
      exact ⟨rfl, by simp [execOp, ho, hc, Op.unary, Op.intArith]⟩
    · have hc := hv.sc
      simp only [intOp, Option.some.injEq] at hb
      subst hb
      exact ⟨rfl, by simp [execOp, ho, hc, Op.unary, Op.intBits]⟩
    · have hc := hv.sc
      cases hb
      exact ⟨rfl, by simp [execOp, ho, hc, Op.unary]⟩
    · cases hb
  exact wp_free S (VD.scal (p := .pn fr 0 []) key.1) rfl h4 key.2 hK
end
end Go.Pv

namespace Go.Pv
open Go.RowKit
variable {P : Program} {B fr : Nat} {G : Gh} {σ σ' : St} {act : Act} {w : World} {C : Callee} {K : Act → World → Prop} {Q : Exit → Act → World → Prop}

theorem run_eqGuard {op : BinOp} {ty : TypeId} {x y : Operand} {a b : Value} (h : ∀ us vs, a = .agg us → b = .agg vs → False) (h' : a = .nilIface → b = .nilIface → False) : (eqGuard op ty x y a b).run P w = .ok () w := by
  cases op <;> first
    | rfl
    | (cases a <;> first
        | rfl
        | (cases b <;> first | rfl | exact (h' rfl rfl).elim | exact (h _ _ rfl rfl).elim))
theorem thereS_ok {vr : Pl → Nat} {p : Ap} {v : Value} {d : D} {b : Bool} (hv : VD B fr G vr w p v d) (h : d.thereS = some b) : ∃ a n c, v = .slice a n c ∧ a.isNone = !b := by
  unfold D.thereS at h
  split at h
  · cases h; exact ⟨_, _, _, hv.sc, rfl⟩
  · cases h; exact ⟨_, _, _, hv.sc, rfl⟩
  · cases h
    cases hv with
    | t p v x hr =>
      cases hr with
      | sl A n cap sz els f hn hc hz hA hR =>
        obtain ⟨a, rfl, _⟩ := hA (by simp)
        exact ⟨_, _, _, rfl, rfl⟩
  · cases h
    cases hv with
    | als p q k sz lo n g c cap cap' => exact ⟨_, _, _, rfl, rfl⟩
  · cases h
theorem thereP_ok {vr : Pl → Nat} {p : Ap} {v : Value} {d : D} {b : Bool} (hv : VD B fr G vr w p v d) (h : d.thereP = some b) : ∃ a, v = .pointer a ∧ a.isNone = !b := by
  unfold D.thereP at h
  split at h
  · cases h; exact ⟨_, hv.sc, rfl⟩
  · cases h
    cases hv with
    | t p v x hr =>
      cases hr with
      | pt a cs f => exact ⟨_, rfl, rfl⟩
  · cases h; cases hv; exact ⟨_, rfl, rfl⟩
  · cases h; cases hv; exact ⟨_, rfl, rfl⟩
  · cases h; cases hv; exact ⟨_, rfl, rfl⟩
  · cases h
theorem run_equal_slice {t e : TypeId} {a : Option Addr} {n c : Nat} (h : P.underlying t = some (.slice e)) : (Op.equal t (.slice a n c) (.slice none 0 0)).run P w = .ok a.isNone w := by
  have key : ∀ d : Nat, (Op.equalIn (d + 1) t (.slice a n c) (.slice none 0 0)).run P w = .ok a.isNone w := fun d => by
    cases a <;> simp [Op.equalIn, run_underlying h]
  exact key 9999
theorem run_equal_ptr {t e : TypeId} {a : Option Addr} (h : P.underlying t = some (.pointer e)) : (Op.equal t (.pointer a) (.pointer none)).run P w = .ok a.isNone w := by
  have key : ∀ d : Nat, (Op.equalIn (d + 1) t (.pointer a) (.pointer none)).run P w = .ok a.isNone w := fun d => by
    cases a <;> simp [Op.equalIn, run_underlying h]
  exact key 9999
theorem isSliceT_ok {t : TypeId} (h : isSliceT P t = true) : ∃ e, P.underlying t = some (.slice e) := by
  unfold isSliceT at h; split at h
  · exact ⟨_, by assumption⟩
  · cases h
theorem isPtrT_ok {t : TypeId} (h : isPtrT P t = true) : ∃ e, P.underlying t = some (.pointer e) := by
  unfold isPtrT at h; split at h
  · exact ⟨_, by assumption⟩
  · cases h
theorem isBoolT_ok {t : TypeId} (h : isBoolT P t = true) : P.underlying t = some .bool := by
  unfold isBoolT at h; split at h
  · assumption
  · cases h
theorem isStr_ok {t : TypeId} (h : isStr P t = true) : P.underlying t = some .string := by
  unfold isStr at h; split at h
  · assumption
  · cases h
theorem elOf_ok {t e : TypeId} (h : elOf P t = some e) : P.underlying t = some (.slice e) ∧ zOk P e = true := by
  unfold elOf at h; split at h
  · split at h
    · simp only [Option.some.injEq] at h; subst h; exact ⟨by assumption, by assumption⟩
    · simp at h
  · simp at h
theorem arrOf_ok {t e : TypeId} {n : Nat} (h : arrOf P t = some (n, e)) : P.underlying t = some (.array n e) ∧ zOk P e = true := by
  unfold arrOf at h; split at h
  · split at h
    · simp only [Option.some.injEq, Prod.mk.injEq] at h; obtain ⟨rfl, rfl⟩ := h; exact ⟨by assumption, by assumption⟩
    · simp at h
  · simp at h
structure Known (P : Program) (t : TypeId) (i : TypeInfo) (z : Value) (d : TypeDesc) : Prop where
  info : P.info? t = some i
  zero : i.zero = some z
  pos : 0 < i.size
  zsize : z.cells.size = i.size
  zone : ∀ u ∈ z.cells, u.oneCell' = true
  und : P.underlying t = some d
  sz : szOf P t = i.size
  zof : zeroOf P t = z.cells.toList
  by' : bytesOf P t = i.bytes
  bpos : 0 < i.bytes
theorem zOk_ok {t : TypeId} (h : zOk P t = true) : ∃ i z d, Known P t i z d := by
  simp only [zOk, Bool.and_eq_true] at h
  obtain ⟨h1, h2⟩ := h
  obtain ⟨d, hd⟩ := Option.isSome_iff_exists.1 h1
  split at h2
  · rename_i i hi
    split at h2
    · rename_i z hz
      simp only [Bool.and_eq_true, decide_eq_true_eq, beq_iff_eq, Array.all_eq_true'] at h2
      exact ⟨i, z, d, hi, hz, h2.1.1.1, h2.1.2, h2.2, hd, by simp [szOf, hi], by simp [zeroOf, hi, hz], by simp [bytesOf, hi], h2.1.1.2⟩
    · cases h2
  · cases h2

theorem run_intOp {op : BinOp} {ty : TypeId} {k : IntKind} {a b : Int} {v : Value} (hs : op ≠ .shl) (hs' : op ≠ .shr) (h : intOp op k a b = some v) : (binOp op ty (.int k a) (.int k b)).run P w = .ok v w ∧ v.oneCell' = true := by
  cases op <;> simp only [intOp, Option.some.injEq, reduceCtorEq] at h <;> first
    | (subst h; exact ⟨by simp [binOp, Op.intArith, Op.intBits, Op.intCmp], rfl⟩)
    | (split at h
       · cases h
       · cases h; rename_i hb; exact ⟨by simp [binOp, Op.intDiv, hb], rfl⟩)
theorem run_shOp {op : BinOp} {ty : TypeId} {k k' : IntKind} {a b : Int} {v : Value} (h : shOp op k a b = some v) : (binOp op ty (.int k a) (.int k' b)).run P w = .ok v w ∧ v.oneCell' = true := by
  unfold shOp at h
  split at h
  · cases h
  · rename_i hb
    cases op <;> simp only [Option.some.injEq, reduceCtorEq] at h
    all_goals (subst h; exact ⟨by simp [binOp, Op.shift, hb], rfl⟩)
theorem run_strOp {op : BinOp} {ty : TypeId} {a b : ByteArray} {v : Value} (h : strOp op a b = some v) : (binOp op ty (.string a) (.string b)).run P w = .ok v w ∧ v.oneCell' = true := by
  cases op <;> simp only [strOp, Option.some.injEq, reduceCtorEq] at h
  case add =>
    split at h
    · cases h
    · rename_i hb
      cases h
      exact ⟨by simp only [binOp, Op.stringOp]; rw [if_neg hb]; rfl, rfl⟩
  all_goals (subst h; exact ⟨by simp [binOp, Op.stringOp], rfl⟩)

theorem nilOp_ok {op : BinOp} {b : Option Bool} {v : Value} (h : nilOp op b = some v) : ∃ b', b = some b' ∧ ((op = .eql ∧ v = .bool !b') ∨ (op = .neq ∧ v = .bool b')) := by
  unfold nilOp at h
  split at h
  · cases h; exact ⟨_, rfl, .inl ⟨rfl, rfl⟩⟩
  · cases h; exact ⟨_, rfl, .inr ⟨rfl, rfl⟩⟩
  · cases h

theorem run_binD {op : BinOp} {ty : TypeId} {x y : Operand} {vr : Pl → Nat} {p p' : Ap} {va vb v : Value} {da db : D} (ha : VD B fr G vr w p va da) (hb : VD B fr G vr w p' vb db) (h : binD P op ty da db = some v) :
    (do eqGuard op ty x y va vb; binOp op ty va vb : Sem Value).run P w = .ok v w ∧ v.oneCell' = true := by
  have g : ∀ {r : Result Value}, (∀ us vs, va = .agg us → vb = .agg vs → False) → (va = .nilIface → vb = .nilIface → False) → (binOp op ty va vb).run P w = r → (do eqGuard op ty x y va vb; binOp op ty va vb : Sem Value).run P w = r := fun h1 h2 h3 => by
    simp only [Sem.run_bind, run_eqGuard h1 h2, Result.andThen_ok, h3]
  unfold binD at h
  split at h
  · have e1 := ha.sc
    have e2 := hb.sc
    subst e1 e2
    rename_i k a k' b
    by_cases hs : op = .shl
    · subst hs
      have := run_shOp (P := P) (w := w) (ty := ty) (k' := k') h
      exact ⟨g (by simp) (by simp) this.1, this.2⟩
    · by_cases hs' : op = .shr
      · subst hs'
        have := run_shOp (P := P) (w := w) (ty := ty) (k' := k') h
        exact ⟨g (by simp) (by simp) this.1, this.2⟩
      · have h' : (if k = k' then intOp op k a b else none) = some v := by
          cases op <;> first | exact absurd rfl hs | exact absurd rfl hs' | exact h
        split at h'
        · rename_i hk
          subst hk
          have := run_intOp (P := P) (w := w) (ty := ty) hs hs' h'
          exact ⟨g (by simp) (by simp) this.1, this.2⟩
        · cases h'
  · have e1 := ha.sc
    have e2 := hb.sc
    subst e1 e2
    have := run_strOp (P := P) (w := w) (ty := ty) h
    exact ⟨g (by simp) (by simp) this.1, this.2⟩
  · have e1 := ha.sc
    have e2 := hb.sc
    subst e1 e2
    split at h
    · split at h
      · rename_i ht
        cases h
        exact ⟨g (by simp) (by simp) (by simp only [binOp]; simp [run_equal_bool w _ _ _ (isBoolT_ok ht)]), rfl⟩
      · cases h
    · split at h
      · rename_i ht
        cases h
        exact ⟨g (by simp) (by simp) (by simp only [binOp]; simp [run_equal_bool w _ _ _ (isBoolT_ok ht)]), rfl⟩
      · cases h
    · cases h
  · have e2 := hb.sc
    subst e2
    split at h
    · rename_i ht
      obtain ⟨e, he⟩ := isSliceT_ok ht
      obtain ⟨b', hb', hr⟩ := nilOp_ok h
      have hv1 : v.oneCell' = true := by rcases hr with ⟨_, rfl⟩ | ⟨_, rfl⟩ <;> rfl
      refine ⟨g (by simp) (by simp) ?_, hv1⟩
      obtain ⟨a, n, c, rfl, hn⟩ := thereS_ok ha hb'
      rcases hr with ⟨rfl, rfl⟩ | ⟨rfl, rfl⟩ <;> (simp only [binOp]; simp [run_equal_slice he, hn])
    · cases h
  · have e2 := hb.sc
    subst e2
    split at h
    · rename_i ht
      obtain ⟨e, he⟩ := isPtrT_ok ht
      obtain ⟨b', hb', hr⟩ := nilOp_ok h
      have hv1 : v.oneCell' = true := by rcases hr with ⟨_, rfl⟩ | ⟨_, rfl⟩ <;> rfl
      refine ⟨g (by simp) (by simp) ?_, hv1⟩
      obtain ⟨a, rfl, hn⟩ := thereP_ok ha hb'
      rcases hr with ⟨rfl, rfl⟩ | ⟨rfl, rfl⟩ <;> (simp only [binOp]; simp [run_equal_ptr he, hn])
    · cases h
  · cases h
end Go.Pv

namespace Go.Pv
open Go.RowKit
variable {P : Program} {B fr : Nat} {G : Gh} {σ σ' : St} {act : Act} {w : World} {C : Callee} {K : Act → World → Prop} {Q : Exit → Act → World → Prop} {H : Hint}

theorem op_binOp {op : BinOp} {ty yt : TypeId} {x y : Operand} {o : Oper} (ho : o.op = .binOp op ty x y yt) (S : Sim B fr G σ act w) (h : (pStep P H o).run C σ = some (.ok (), σ')) (hK : On B fr G w σ' K) : o.wp P act w K Q := by
  simp only [pStep, ho] at h
  obtain ⟨da, σ1, h1, h2⟩ := bind_ok h
  obtain ⟨rfl, p, ha⟩ := S.rd h1
  obtain ⟨db, σ1, h3, h4⟩ := bind_ok h2
  obtain ⟨rfl, p', hb⟩ := S.rd h3
  obtain ⟨v, σ1, h5, h6⟩ := bind_ok h4
  obtain ⟨hv, rfl⟩ := ofOpt_ok h5
  have key := run_binD (x := x) (y := y) ha hb hv
  refine wp_free S (VD.scal (p := .pn fr 0 []) key.2) rfl h6 ?_ hK
  simp only [execOp, ho]
  have := key.1
  simp only [Sem.run_bind] at this ⊢
  rw [this]
  rfl

theorem add_add (a : Addr) (m n : Nat) : (a.add m).add n = a.add (m + n) := by
  unfold Addr.add
  by_cases hm : m = 0
  · subst hm; simp
  · by_cases hn : n = 0
    · subst hn; simp [hm]
    · have : ¬ (m + n = 0) := by omega
      simp only [hm, hn, this, if_false]
      rw [Nat.add_assoc]
theorem szOf_pos {t : TypeId} (h : 0 < szOf P t) : ∃ i, P.info? t = some i ∧ i.size = szOf P t := by
  unfold szOf at *
  cases hi : P.info? t with
  | none => simp [hi] at h
  | some i => exact ⟨i, rfl, by simp⟩
theorem run_size {t : TypeId} (h : 0 < szOf P t) : (sizeOf t).run P w = .ok (szOf P t) w := by
  obtain ⟨i, hi, hs⟩ := szOf_pos h
  simp [sizeOf, typeInfo, hi, hs]
theorem offOf_ok {t : TypeId} {f off : Nat} (h : offOf P t f = some off) : ∃ fs fl, P.underlying t = some (.struct fs) ∧ fs[f]? = some fl ∧ fl.offset = off := by
  unfold offOf at h
  split at h
  · rename_i fs hu
    cases hf : fs[f]? with
    | none => rw [hf] at h; cases h
    | some fl => rw [hf] at h; exact ⟨fs, fl, hu, hf, by simpa using h⟩
  · cases h
theorem fszOf_ok {t : TypeId} {f n : Nat} {ag : Bool} (h : fszOf P t f = some (n, ag)) : ∃ fs fl, P.underlying t = some (.struct fs) ∧ fs[f]? = some fl ∧ szOf P fl.type = n ∧ aggT P fl.type = ag ∧ zOk P fl.type = true := by
  unfold fszOf at h
  split at h
  · rename_i fs hu
    cases hf : fs[f]? with
    | none => rw [hf] at h; cases h
    | some fl =>
      rw [hf] at h
      simp only [Option.bind_some] at h
      split at h
      · simp only [Option.some.injEq, Prod.mk.injEq] at h
        exact ⟨fs, fl, hu, hf, h.1, h.2, by assumption⟩
      · cases h
  · cases h
/-- An address, further on. -/
theorem VD.shift {vr : Pl → Nat} {p : Ap} {v : Value} {d d' : D} {k : Nat} (h : VD B fr G vr w p v d) (hs : shift d k = some d') : ∃ a, v = .pointer (some a) ∧ VD B fr G vr w p (.pointer (some (a.add k))) d' ∧ d'.hasOwn = false := by
  unfold Pv.shift at hs
  split at hs
  · cases hs
    cases h with
    | t p v x hr =>
      cases hr with
      | pt a cs f ho hc hR =>
        refine ⟨a, rfl, .t _ _ _ (.pt _ _ (fun j => f (k + j)) (by rw [Addr.block_add]; exact ho) (fun j x hj => ?_) (fun j x hj => ?_)), rfl⟩
        · rw [add_add]; exact hc _ x (by simpa using hj)
        · exact hR _ x (by simpa using hj)
  · cases hs
    cases h with
    | lp p s o ha => exact ⟨_, rfl, by rw [add_mid]; exact .lp _ _ _ ha, rfl⟩
  · cases hs
    cases h with
    | fp p f s o hf ha => exact ⟨_, rfl, by rw [add_mid]; exact .fp _ _ _ _ hf ha, rfl⟩
  · cases hs
    cases h with
    | ept p q n sz i off g c cap hk hh => exact ⟨_, rfl, by rw [add_mid, Nat.add_assoc]; exact .ept _ _ _ _ _ _ g c cap hk hh, rfl⟩
  · cases hs

theorem op_fieldAddr {ty : TypeId} {x : Operand} {f : Nat} {o : Oper} (ho : o.op = .fieldAddr ty x f) (S : Sim B fr G σ act w) (h : (pStep P H o).run C σ = some (.ok (), σ')) (hK : On B fr G w σ' K) : o.wp P act w K Q := by
  simp only [pStep, ho] at h
  obtain ⟨d, σ1, h1, h2⟩ := bind_ok h
  obtain ⟨rfl, p, hv⟩ := S.rd h1
  obtain ⟨off, σ1, h3, h4⟩ := bind_ok h2
  obtain ⟨hoff, rfl⟩ := ofOpt_ok h3
  obtain ⟨⟨n, ag⟩, σ1, h5, h6⟩ := bind_ok h4
  obtain ⟨hn, rfl⟩ := ofOpt_ok h5
  obtain ⟨_, σ1, h7, h8⟩ := bind_ok h6
  obtain ⟨hpos, rfl⟩ := need_ok h7
  obtain ⟨r, σ1, h9, h10⟩ := bind_ok h8
  obtain ⟨hr, rfl⟩ := ofOpt_ok h9
  obtain ⟨a, e, hv', hno⟩ := hv.shift hr
  obtain ⟨fs, fl, hu, hf, rfl⟩ := offOf_ok hoff
  obtain ⟨fs', fl', hu', hf', hsz, _⟩ := fszOf_ok hn
  rw [hu] at hu'
  cases hu'
  rw [hf] at hf'
  cases hf'
  have hp : 0 < szOf P fl.type := by rw [hsz]; simpa using hpos
  refine wp_free S hv' hno h10 ?_ hK
  have hz : szOf P fl.type ≠ 0 := by omega
  simp [execOp, ho, Instr.fieldAt, run_underlying hu, hf, e, Instr.sureAddr, fieldPlace, run_size hp, hz]

theorem Sim.rds {xs : List Operand} {ds : List D} (S : Sim B fr G σ act w) (h : (Pv.rds xs).run C σ = some (.ok ds, σ')) : σ = σ' ∧ xs.length = ds.length ∧ ∀ (i : Nat) (x : Operand) d, xs[i]? = some x → ds[i]? = some d → ∃ p, VD B fr G σ.verAt w p (act.eval x) d := by
  induction xs generalizing ds σ' with
  | nil =>
    obtain ⟨rfl, rfl⟩ := ret_ok (C := C) h
    exact ⟨rfl, rfl, by simp⟩
  | cons x xs ih =>
    simp only [Pv.rds] at h
    obtain ⟨d, σ1, h1, h2⟩ := bind_ok h
    obtain ⟨rfl, p, hv⟩ := S.rd h1
    obtain ⟨l, σ1, h3, h4⟩ := bind_ok h2
    obtain ⟨rfl, hl, hd⟩ := ih h3
    obtain ⟨rfl, rfl⟩ := pure_ok h4
    refine ⟨rfl, by simp [hl], fun i y e hy he => ?_⟩
    cases i with
    | zero => cases hy; cases he; exact ⟨p, hv⟩
    | succ i => exact hd i y e (by simpa using hy) (by simpa using he)

theorem op_makeFunc {g : FuncId} {first cap : Array Operand} {o : Oper} (ho : o.op = .makeFunc (.func g) first cap) (S : Sim B fr G σ act w) (h : (pStep P H o).run C σ = some (.ok (), σ')) (hK : On B fr G w σ' K) : o.wp P act w K Q := by
  simp only [pStep, ho] at h
  obtain ⟨_, σ1, h1, h2⟩ := bind_ok h
  obtain ⟨hf, rfl⟩ := need_ok h1
  have hf' : first = #[] := by simpa using hf
  subst hf'
  split at h2
  · rename_i hc
    have hc' : cap = #[] := by simpa using hc
    subst hc'
    exact wp_free S (VD.scal (p := .pn fr 0 []) (v := .func (.func g) #[] #[]) rfl) rfl h2 (by simp [execOp, ho, Instr.makeFunc]) hK
  · obtain ⟨ds, σ1, h3, h4⟩ := bind_ok h2
    obtain ⟨rfl, hds⟩ := S.rds h3
    obtain ⟨_, σ1, h5, h6⟩ := bind_ok h4
    obtain ⟨hall, rfl⟩ := need_ok h5
    refine wp_free S (VD.clo (.pn fr 0 []) g (cap.map act.eval) ds ?_ hall fun i u d hu hd => ?_) rfl h6 (by simp [execOp, ho, Instr.makeFunc]) hK
    · simpa using hds.1
    · simp only [Array.getElem?_map, Option.map_eq_some_iff] at hu
      obtain ⟨x, hx, rfl⟩ := hu
      obtain ⟨p, hp⟩ := hds.2 i x d (by simpa using hx) hd
      exact hp.free _ (ptr_noOwn hall hd)

theorem lenD_ok {vr : Pl → Nat} {p : Ap} {v : Value} {d : D} {n : Int} (hv : VD B fr G vr w p v d) (h : lenD d = some n) : ∃ a m c, v = .slice a m c ∧ n = (m : Int) := by
  unfold lenD at h
  split at h
  · cases h
    cases hv with
    | t p v x hr =>
      cases hr with
      | sl A m cap sz els f hn => exact ⟨_, _, _, rfl, by rw [hn]⟩
  · cases h; exact ⟨_, _, _, hv.sc, rfl⟩
  · cases h
    cases hv with
    | alsN p q k sz lo => exact ⟨_, _, _, rfl, rfl⟩
    | als p q k sz lo n g c cap cap' => exact ⟨_, _, _, rfl, rfl⟩
  · cases h
    cases hv with
    | own p v e sz els us ho =>
      rcases ownsRow_form ho with ⟨rfl, hn⟩ | ⟨g, cap, rfl, hn⟩
      · exact ⟨_, _, _, rfl, by rw [hn]⟩
      · exact ⟨_, _, _, rfl, rfl⟩
  · cases h


theorem toList_one {α : Type} {a : Array α} {x : α} (h : a.toList = [x]) : a = #[x] := by rw [← Array.toArray_toList (xs := a), h]
theorem toList_two {α : Type} {a : Array α} {x y : α} (h : a.toList = [x, y]) : a = #[x, y] := by rw [← Array.toArray_toList (xs := a), h]

theorem op_len {c : Call} {o : Oper} (ho : o.op = .call c) (hc : c.callee = .builtin .len) (S : Sim B fr G σ act w) (h : (pStep P H o).run C σ = some (.ok (), σ')) (hK : On B fr G w σ' K) : o.wp P act w K Q := by
  simp only [pStep, ho, hc] at h
  split at h
  · rename_i x t hx ht
    have hx := toList_one hx
    have ht := toList_one ht
    obtain ⟨d, σ1, h1, h2⟩ := bind_ok h
    obtain ⟨rfl, p, hv⟩ := S.rd h1
    split at h2
    · obtain ⟨_, σ1, h3, h4⟩ := bind_ok h2
      obtain ⟨hs, rfl⟩ := need_ok h3
      have he := hv.sc
      refine wp_free S (VD.scal (p := .pn fr 0 []) rfl) rfl h4 ?_ hK
      simp [execOp, ho, hc, hx, ht, Go.resolve, invoke, builtin, Builtin.len_, run_underlying (isStr_ok hs), he, goInt]
    · obtain ⟨_, σ1, h3, h4⟩ := bind_ok h2
      obtain ⟨hs, rfl⟩ := need_ok h3
      obtain ⟨n, σ1, h5, h6⟩ := bind_ok h4
      obtain ⟨hn, rfl⟩ := ofOpt_ok h5
      obtain ⟨a, m, cp, he, rfl⟩ := lenD_ok hv hn
      obtain ⟨e, hu⟩ := isSliceT_ok hs
      refine wp_free S (VD.scal (p := .pn fr 0 []) rfl) rfl h6 ?_ hK
      simp [execOp, ho, hc, hx, ht, Go.resolve, invoke, builtin, Builtin.len_, run_underlying hu, he, goInt]
  · cases h
theorem op_min {c : Call} {o : Oper} (ho : o.op = .call c) (hc : c.callee = .builtin .min) (S : Sim B fr G σ act w) (h : (pStep P H o).run C σ = some (.ok (), σ')) (hK : On B fr G w σ' K) : o.wp P act w K Q := by
  simp only [pStep, ho, hc] at h
  split at h
  · rename_i x y hx
    have hx := toList_two hx
    obtain ⟨d, σ1, h1, h2⟩ := bind_ok h
    obtain ⟨rfl, p, hv⟩ := S.rd h1
    obtain ⟨d', σ1, h3, h4⟩ := bind_ok h2
    obtain ⟨rfl, p', hv'⟩ := S.rd h3
    split at h4
    · rename_i a b
      have e1 := hv.sc
      have e2 := hv'.sc
      refine wp_free S (VD.scal (p := .pn fr 0 []) rfl) rfl h4 ?_ hK
      simp only [execOp, ho, hc, hx, Go.resolve, invoke, builtin, Builtin.min_]
      simp [e1, e2, Builtin.min2]
      by_cases hb : b < a
      · rw [if_pos hb]; omega
      · rw [if_neg hb]; omega
    · cases h4
  · rename_i x y z hx
    have hx : c.args = #[x, y, z] := by rw [← Array.toArray_toList (xs := c.args), hx]
    obtain ⟨d, σ1, h1, h2⟩ := bind_ok h
    obtain ⟨rfl, p, hv⟩ := S.rd h1
    obtain ⟨d', σ1, h3, h4⟩ := bind_ok h2
    obtain ⟨rfl, p', hv'⟩ := S.rd h3
    obtain ⟨d'', σ1, h5, h6⟩ := bind_ok h4
    obtain ⟨rfl, p'', hv''⟩ := S.rd h5
    split at h6
    · rename_i a b cc
      have e1 := hv.sc
      have e2 := hv'.sc
      have e3 := hv''.sc
      refine wp_free S (VD.scal (p := .pn fr 0 []) rfl) rfl h6 ?_ hK
      simp only [execOp, ho, hc, hx, Go.resolve, invoke, builtin, Builtin.min_]
      have k1 : (if b < a then b else a) = min a b := by split <;> omega
      have k2 : (if cc < min a b then cc else min a b) = min (min a b) cc := by split <;> omega
      simp [e1, e2, e3, Builtin.min2, k1, k2]
    · cases h6
  · cases h
theorem op_max {c : Call} {o : Oper} (ho : o.op = .call c) (hc : c.callee = .builtin .max) (S : Sim B fr G σ act w) (h : (pStep P H o).run C σ = some (.ok (), σ')) (hK : On B fr G w σ' K) : o.wp P act w K Q := by
  simp only [pStep, ho, hc] at h
  split at h
  · rename_i x y hx
    have hx := toList_two hx
    obtain ⟨d, σ1, h1, h2⟩ := bind_ok h
    obtain ⟨rfl, p, hv⟩ := S.rd h1
    obtain ⟨d', σ1, h3, h4⟩ := bind_ok h2
    obtain ⟨rfl, p', hv'⟩ := S.rd h3
    split at h4
    · rename_i a b
      have e1 := hv.sc
      have e2 := hv'.sc
      refine wp_free S (VD.scal (p := .pn fr 0 []) rfl) rfl h4 ?_ hK
      simp only [execOp, ho, hc, hx, Go.resolve, invoke, builtin, Builtin.max_]
      simp [e1, e2, Builtin.max2]
      by_cases hb : a < b
      · rw [if_pos hb]; omega
      · rw [if_neg hb]; omega
    · cases h4
  · rename_i x y z hx
    have hx : c.args = #[x, y, z] := by rw [← Array.toArray_toList (xs := c.args), hx]
    obtain ⟨d, σ1, h1, h2⟩ := bind_ok h
    obtain ⟨rfl, p, hv⟩ := S.rd h1
    obtain ⟨d', σ1, h3, h4⟩ := bind_ok h2
    obtain ⟨rfl, p', hv'⟩ := S.rd h3
    obtain ⟨d'', σ1, h5, h6⟩ := bind_ok h4
    obtain ⟨rfl, p'', hv''⟩ := S.rd h5
    split at h6
    · rename_i a b cc
      have e1 := hv.sc
      have e2 := hv'.sc
      have e3 := hv''.sc
      refine wp_free S (VD.scal (p := .pn fr 0 []) rfl) rfl h6 ?_ hK
      simp only [execOp, ho, hc, hx, Go.resolve, invoke, builtin, Builtin.max_]
      have k1 : (if a < b then b else a) = max a b := by split <;> omega
      have k2 : (if max a b < cc then cc else max a b) = max (max a b) cc := by split <;> omega
      simp [e1, e2, e3, Builtin.max2, k1, k2]
    · cases h6
  · cases h
theorem op_cap {c : Call} {o : Oper} (ho : o.op = .call c) (hc : c.callee = .builtin .cap) (S : Sim B fr G σ act w) (h : (pStep P H o).run C σ = some (.ok (), σ')) (hK : On B fr G w σ' K) : o.wp P act w K Q := by
  simp only [pStep, ho, hc] at h
  split at h
  · rename_i x t hx ht
    have hx := toList_one hx
    have ht := toList_one ht
    obtain ⟨d, σ1, h1, h2⟩ := bind_ok h
    obtain ⟨rfl, p, hv⟩ := S.rd h1
    split at h2
    · obtain ⟨_, σ1, h3, h4⟩ := bind_ok h2
      obtain ⟨hs, rfl⟩ := need_ok h3
      have he := hv.sc
      obtain ⟨e, hu⟩ := isSliceT_ok hs
      refine wp_free S (VD.scal (p := .pn fr 0 []) rfl) rfl h4 ?_ hK
      simp [execOp, ho, hc, hx, ht, Go.resolve, invoke, builtin, Builtin.cap_, run_underlying hu, he, goInt]
    · cases h2
  · cases h
end Go.Pv

namespace Go.Pv
open Go.RowKit
variable {P : Program} {B fr : Nat} {G : Gh} {σ σ' : St} {act : Act} {w : World} {C : Callee} {K : Act → World → Prop} {Q : Exit → Act → World → Prop} {H : Hint}

theorem zOk_size {t : TypeId} (h : zOk P t = true) : (sizeOf t).run P w = .ok (szOf P t) w := by
  obtain ⟨i, z, d, k⟩ := zOk_ok h
  exact run_size (by rw [k.sz]; exact k.pos)
theorem aggT_run {t : TypeId} (h : zOk P t = true) : (isAgg t).run P w = .ok (aggT P t) w := by
  obtain ⟨i, z, d, k⟩ := zOk_ok h
  simp only [isAgg, Sem.run_bind, run_underlying k.und, Result.andThen_ok, aggT, k.und]
  cases d <;> rfl
theorem hasOwnL_drop {ds : List D} (h : hasOwnL ds = false) (n : Nat) : hasOwnL (ds.drop n) = false := by
  induction ds generalizing n with
  | nil => simpa using h
  | cons d l ih =>
    simp only [hasOwnL, Bool.or_eq_false_iff] at h
    cases n with
    | zero => simp [hasOwnL, h.1, h.2]
    | succ n => exact ih h.2 n
theorem hasOwnL_take {ds : List D} (h : hasOwnL ds = false) (n : Nat) : hasOwnL (ds.take n) = false := by
  induction ds generalizing n with
  | nil => simp [hasOwnL]
  | cons d l ih =>
    simp only [hasOwnL, Bool.or_eq_false_iff] at h
    cases n with
    | zero => rfl
    | succ n => simp [hasOwnL, h.1, ih h.2 n]
theorem getD_free {ds : List D} (h : hasOwnL ds = false) (n : Nat) : (ds.getD n .dead).hasOwn = false := by
  rw [List.getD_eq_getElem?_getD]
  cases hd : ds[n]? with
  | none => rfl
  | some d => exact hasOwnL_at h hd
/-- A part of what is laid out in cells. -/
theorem VD.part {vr : Pl → Nat} {p : Ap} {us : Array Value} {ds : List D} {t : TypeId} {off : Nat} (h : VD B fr G vr w p (.agg us) (.agg ds)) (hno : hasOwnL ds = false) (hz : zOk P t = true) (hn : off + szOf P t ≤ ds.length) :
    ∃ v, (Go.part t us off).run P w = .ok v w ∧ (aggT P t = true → VD B fr G vr w p v (.agg ((ds.drop off).take (szOf P t)))) ∧ (aggT P t = false → VD B fr G vr w p v (ds.getD off .dead)) := by
  obtain ⟨i, z, d, k⟩ := zOk_ok hz
  have hp : 0 < szOf P t := by rw [k.sz]; exact k.pos
  cases h with
  | agg p us ds hs h1 h =>
    cases ha : aggT P t with
    | true =>
      refine ⟨.agg (us.extract off (off + szOf P t)), by simp [Go.part, aggT_run hz, ha, zOk_size hz], fun _ => ?_, by simp⟩
      refine .agg _ _ _ (by simp; omega) (fun u hu => h1 u ?_) fun i u d hu hd => ?_
      · obtain ⟨j, hj⟩ := Array.getElem?_of_mem hu
        rw [Array.getElem?_extract] at hj
        split at hj
        · exact Array.mem_of_getElem? hj
        · cases hj
      · rw [Array.getElem?_extract] at hu
        split at hu
        · rw [List.getElem?_take] at hd
          split at hd
          · simp only [List.getElem?_drop] at hd
            exact (h _ u d hu hd).free _ (hasOwnL_at hno hd)
          · cases hd
        · cases hu
    | false =>
      have hl : off < us.size := by omega
      have hd : off < ds.length := by omega
      refine ⟨us[off], by simp [Go.part, aggT_run hz, ha, hl], by simp, fun _ => ?_⟩
      rw [List.getD_eq_getElem?_getD, List.getElem?_eq_getElem hd, Option.getD_some]
      exact (h off _ _ (Array.getElem?_eq_getElem hl) (List.getElem?_eq_getElem hd)).free _ (hasOwnL_at hno (List.getElem?_eq_getElem hd))

theorem op_field {ty : TypeId} {x : Operand} {f : Nat} {o : Oper} (ho : o.op = .field ty x f) (S : Sim B fr G σ act w) (h : (pStep P H o).run C σ = some (.ok (), σ')) (hK : On B fr G w σ' K) : o.wp P act w K Q := by
  simp only [pStep, ho] at h
  obtain ⟨d, σ1, h1, h2⟩ := bind_ok h
  obtain ⟨rfl, p, hv⟩ := S.rd h1
  obtain ⟨off, σ1, h3, h4⟩ := bind_ok h2
  obtain ⟨hoff, rfl⟩ := ofOpt_ok h3
  obtain ⟨⟨n, ag⟩, σ1, h5, h6⟩ := bind_ok h4
  obtain ⟨hn, rfl⟩ := ofOpt_ok h5
  obtain ⟨fs, fl, hu, hf, rfl⟩ := offOf_ok hoff
  obtain ⟨fs', fl', hu', hf', hsz, hag, hz⟩ := fszOf_ok hn
  rw [hu] at hu'
  cases hu'
  rw [hf] at hf'
  cases hf'
  subst hsz hag
  split at h6
  · obtain ⟨_, σ1, h7, h8⟩ := bind_ok h6
    obtain ⟨hc, rfl⟩ := need_ok h7
    simp only [Bool.and_eq_true, decide_eq_true_eq, Bool.not_eq_true'] at hc
    generalize hx : act.eval x = v at hv
    have hv' := hv
    cases hv with
    | agg p us ds hs h1 hh =>
      obtain ⟨u, hr, ha, hb⟩ := hv'.part (P := P) (t := fl.type) hc.2 hz hc.1
      have hrun : (execOp act.eval o).run P w = .ok (.value u) w := by simp [execOp, ho, Instr.field, run_underlying hu, hf, hx, asAgg, hr]
      split at h8
      · rename_i e
        exact wp_free S (ha e) (by simpa [D.hasOwn] using hasOwnL_take (hasOwnL_drop hc.2 _) _) h8 hrun hK
      · rename_i e
        refine wp_free S (hb (by simpa using e)) ?_ h8 hrun hK
        exact getD_free hc.2 _
  · cases h6

theorem op_index {ty : TypeId} {x ix : Operand} {o : Oper} (ho : o.op = .index ty x ix) (S : Sim B fr G σ act w) (h : (pStep P H o).run C σ = some (.ok (), σ')) (hK : On B fr G w σ' K) : o.wp P act w K Q := by
  simp only [pStep, ho] at h
  obtain ⟨d, σ1, h1, h2⟩ := bind_ok h
  obtain ⟨rfl, p, hv⟩ := S.rd h1
  obtain ⟨i, σ1, h3, h4⟩ := bind_ok h2
  obtain ⟨hi, rfl⟩ := ofOpt_ok h3
  obtain ⟨k, rfl⟩ := int?_ok hi
  have hi := hv.sc
  obtain ⟨d', σ1, h5, h6⟩ := bind_ok h4
  obtain ⟨rfl, p', hv'⟩ := S.rd h5
  split at h6
  · rename_i s
    obtain ⟨_, σ1, h7, h8⟩ := bind_ok h6
    obtain ⟨hc, rfl⟩ := need_ok h7
    simp only [Bool.and_eq_true, decide_eq_true_eq] at hc
    have hx := hv'.sc
    refine wp_free S (VD.scal (p := .pn fr 0 []) rfl) rfl h8 ?_ hK
    have hlt : i.toNat < s.size := by omega
    have hlt' : i.toNat < s.data.size := hlt
    have e1 : (s[i.toNat]? : Option UInt8) = some (s.data.getD i.toNat 0) := by
      rw [getElem?_pos s i.toNat hlt]
      simp only [Array.getD, hlt', dif_pos]
      rfl
    simp only [execOp, ho, hi, hx, Instr.index, asIntOf]
    simp [run_underlying (isStr_ok hc.1.1), hc.1.2, e1]
  · rename_i ds
    obtain ⟨⟨n, e⟩, σ1, h7, h8⟩ := bind_ok h6
    obtain ⟨hne, rfl⟩ := ofOpt_ok h7
    obtain ⟨hu, hz⟩ := arrOf_ok hne
    obtain ⟨_, σ1, h9, h10⟩ := bind_ok h8
    obtain ⟨hc, rfl⟩ := need_ok h9
    simp only [Bool.and_eq_true, decide_eq_true_eq, Bool.not_eq_true'] at hc
    obtain ⟨⟨⟨h0, hlt⟩, hl⟩, hno⟩ := hc
    generalize hx : act.eval x = v at hv'
    have hv2 := hv'
    have hoff : i.toNat * szOf P e + szOf P e ≤ ds.length := by
      have : (i.toNat + 1) * szOf P e ≤ n * szOf P e := Nat.mul_le_mul_right _ (by omega)
      rw [Nat.add_mul] at this
      omega
    cases hv' with
    | agg p us ds hs h1 hh =>
      obtain ⟨u, hr, ha, hb⟩ := hv2.part (P := P) (t := e) hno hz hoff
      have hrun : (execOp act.eval o).run P w = .ok (.value u) w := by
        simp [execOp, ho, Instr.index, run_underlying hu, hi, asIntOf, hx, h0, hlt, zOk_size hz, hr]
      split at h10
      · rename_i e'
        exact wp_free S (ha e') (by simpa [D.hasOwn] using hasOwnL_take (hasOwnL_drop hno _) _) h10 hrun hK
      · rename_i e'
        refine wp_free S (hb (by simpa using e')) ?_ h10 hrun hK
        exact getD_free hno _
  · cases h6

/-- A slice that is read. -/
theorem Sim.rdS {x : Operand} {d : D} (S : Sim B fr G σ act w) (h : (rdS x).run C σ = some (.ok d, σ')) :
    ∃ G', Sim B fr G' σ' act w ∧ Step fr G w G' w ∧ ∃ p, VD B fr G' σ'.verAt w p (act.eval x) d := by
  cases x with
  | tmp t =>
    simp only [Pv.rdS] at h
    obtain ⟨d0, σ1, h1, h2⟩ := bind_ok h
    obtain ⟨e0, rfl⟩ := gT_ok h1
    have hvd := S.tmAt t
    rw [e0] at hvd
    split at h2
    · obtain ⟨k, σ2, h3, h4⟩ := bind_ok h2
      obtain ⟨ek, rfl⟩ := gV_ok h3
      obtain ⟨rfl, rfl⟩ := pure_ok h4
      subst ek
      exact ⟨G, S, .refl _ _ _, .pn fr 0 [], hvd.named (q := .tm t) trivial _⟩
    · obtain ⟨rfl, rfl⟩ := pure_ok h2
      exact ⟨G, S, .refl _ _ _, _, hvd⟩
  | const v => obtain ⟨rfl, p, hv⟩ := S.rd (x := .const v) h; exact ⟨G, S, .refl _ _ _, p, hv⟩
  | func f => obtain ⟨rfl, p, hv⟩ := S.rd (x := .func f) h; exact ⟨G, S, .refl _ _ _, p, hv⟩
  | global g => cases h

theorem VD.tupAt {vr : Pl → Nat} {p : Ap} {v : Value} {ds : List D} {i : Nat} {d : D} (h : VD B fr G vr w p v (.tup ds)) (hd : ds[i]? = some d) : ∃ us u, v = .tuple us ∧ us[i]? = some u ∧ VD B fr G vr w (p.sub i) u d := by
  cases h with
  | tup p us ds hs h =>
    have hl : i < us.size := by rw [hs]; exact (List.getElem?_eq_some_iff.1 hd).1
    exact ⟨us, us[i], rfl, Array.getElem?_eq_getElem hl, h i _ d (Array.getElem?_eq_getElem hl) hd⟩

/-! ### a component of a tuple goes its way -/
def Ap.atPart (fr t i : Nat) : Ap → Bool
  | .tm f t' [] => f == fr && t' == t
  | .tm f t' (j :: _) => f == fr && t' == t && j == i
  | _ => false
theorem Ap.atPart_closed (fr t i : Nat) : Closed fun p => p.atPart fr t i = false := by
  intro p k h
  cases p with
  | tm f t' l =>
    cases l with
    | nil => simp only [Ap.atPart] at h; simp [Ap.sub, Ap.atPart, h]
    | cons j l => exact h
  | _ => rfl
def liftI (fr t i j : Nat) : Tag → Tag
  | .own (.tm f t' (k :: p)) => if f = fr ∧ t' = t ∧ k = i then .own (.pn fr j p) else .own (.tm f t' (k :: p))
  | τ => τ
def Gh.liftI (G : Gh) (fr t i j : Nat) : Gh := G.setL fun g => (G.L g).map (Pv.liftI fr t i j)
theorem liftI_own {fr t i j : Nat} {p : Ap} (h : p.atPart fr t i = false) : liftI fr t i j (.own p) = .own p := by
  cases p with
  | tm f t' q =>
    cases q with
    | nil => rfl
    | cons k q =>
      simp only [Ap.atPart, Bool.and_eq_false_iff, beq_eq_false_iff_ne] at h
      simp only [liftI]
      rw [if_neg (by rintro ⟨a, b, c⟩; rcases h with (h | h) | h <;> exact h (by assumption))]
  | _ => rfl
theorem liftI_none {G : Gh} {fr t i j g : Nat} : (G.liftI fr t i j).L g = none ↔ G.L g = none := by simp [Gh.liftI, Gh.setL]
theorem VD.liftI {vr : Pl → Nat} {t i j : Nat} {p : Ap} {v : Value} {d : D} (h : VD B fr G vr w p v d) :
    ∀ path, p = .tm fr t (i :: path) → VD B fr (G.liftI fr t i j) vr w (.pn fr j path) v d := by
  have hok : ∀ b, G.sh b → (G.liftI fr t i j).sh b := fun b hb => liftI_none.2 hb
  have hrt : ∀ b, G.sh b → b < w.heap.size → (G.liftI fr t i j).sh b ∧ w.heap[b]? = w.heap[b]? := fun b hb _ => ⟨hok b hb, rfl⟩
  induction h with
  | t p v x h => exact fun path e => .t _ v x (h.mono hrt)
  | agg p us ds hs h1 h ih => exact fun path e => .agg _ us ds hs h1 fun k u d hu hd => ih k u d hu hd (path ++ [k]) (by rw [e]; rfl)
  | tup p us ds hs h ih => exact fun path e => .tup _ us ds hs fun k u d hu hd => ih k u d hu hd (path ++ [k]) (by rw [e]; rfl)
  | own p v e sz els us ho hr hsz hL hq =>
    exact fun path ep => .own _ v e sz els us ho (hr.mono hrt) hsz (fun g hg => by
      have := hL g hg
      subst ep
      simp [Gh.liftI, Gh.setL, this, Pv.liftI]) fun q _ e => by cases q <;> cases e
  | omap p g es clock kvs hg hm hB hL hq =>
    exact fun path ep => .omap _ g es clock kvs hg hm hB (by subst ep; simp [Gh.liftI, Gh.setL, hL, Pv.liftI]) fun q _ e => by cases q <;> cases e
  | alsN p q k sz lo hk hv => exact fun _ _ => .alsN _ q k sz lo hk hv
  | als p q k sz lo n g c cap cap' hk hv hn hc o ho => exact fun _ _ => .als (G := G.liftI fr t i j) _ q k sz lo n g c cap cap' hk hv hn hc o ho
  | mal p q k hk g hv => exact fun _ _ => .mal _ q k hk g hv
  | ept p q k sz i off g c cap hk hv => exact fun _ _ => .ept _ q k sz i off g c cap hk hv
  | lp p s o ha => exact fun _ _ => .lp (G := G.liftI fr t i j) _ s o ha
  | fp p f s o hf ha => exact fun _ _ => .fp (G := G.liftI fr t i j) _ f s o hf ha
  | clo p f us ds hs hno h ih => exact fun path e => .clo _ f us ds hs hno fun k u d hu hd => ih k u d hu hd (path ++ [k]) (by rw [e]; rfl)
  | dead p v => exact fun _ _ => .dead _ v

theorem op_extract {x : Operand} {i : Nat} {o : Oper} (ho : o.op = .extract x i) (S : Sim B fr G σ act w) (h : (pStep P H o).run C σ = some (.ok (), σ')) (hK : On B fr G w σ' K) : o.wp P act w K Q := by
  simp only [pStep, ho] at h
  split at h
  · rename_i t
    obtain ⟨d0, σ1, h1, h2⟩ := bind_ok h
    obtain ⟨e0, rfl⟩ := gT_ok h1
    have hvd := S.tmAt t
    rw [e0] at hvd
    split at h2
    · rename_i ds
      obtain ⟨d, σ1, h3, h4⟩ := bind_ok h2
      obtain ⟨hd, rfl⟩ := ofOpt_ok h3
      obtain ⟨us, u, he, hu, hvu⟩ := hvd.tupAt hd
      have hrun : (execOp act.eval o).run P w = .ok (.value u) w := by simp [execOp, ho, Instr.extract, he, hu]
      split at h4
      · obtain ⟨_, σ1, h5, h6⟩ := bind_ok h4
        obtain ⟨ht, rfl⟩ := pT_ok h5
        have hbox : ∀ g f s, G.L g = some (.box f s) → (G.liftI fr t i 0).L g = some (.box f s) := fun g f s h => by simp [Gh.liftI, Gh.setL, h, Pv.liftI]
        have Kp : Keep fr G σ.verAt w (G.liftI fr t i 0) σ.verAt w (fun p => p.atPart fr t i = false) (fun _ _ => True) :=
          keep_tags (fun g h => liftI_none.2 h) (fun g p h hp => by simp [h, liftI_own hp]) hbox S.alt
        have S1 : Sim B fr (G.liftI fr t i 0) { σ with tm := σ.tm.set t (.tup (ds.set i .dead)) } act w := by
          refine S.upd (σ' := { σ with tm := σ.tm.set t (.tup (ds.set i .dead)) }) Kp (Ap.atPart_closed fr t i) (by simpa using S.len) (fun t' d' hd' => ?_) (fun s c hc hne => .inl ⟨hc, trivial, fun _ _ _ _ => rfl⟩) S.bxn
            (fun f b hb s c hc hne => .inl ⟨⟨b, hb, hc⟩, trivial, fun _ _ _ _ => rfl⟩) S.frl S.alf (fun f s h => hbox _ f s (S.alt f s h)) (fun g τ h => ?_) S.dfs
          · simp only [List.getElem?_set] at hd'
            by_cases e : t = t'
            · subst e
              rw [if_pos rfl, if_pos ht] at hd'
              cases hd'
              right
              have he' : act.tmps.getD t undef = .tuple us := he
              rw [he']
              have hvd' : VD B fr G σ.verAt w (.tm fr t []) (.tuple us) (.tup ds) := he ▸ hvd
              cases hvd' with
              | tup p us ds hs hh =>
                refine .tup _ us _ (by simpa using hs) fun k u' d' hu' hd' => ?_
                by_cases e : i = k
                · subst e
                  rw [List.getElem?_set_self (by rw [← hs]; exact (Array.getElem?_eq_some_iff.1 hu').1)] at hd'
                  cases hd'
                  exact .dead _ _
                · rw [List.getElem?_set_ne e] at hd'
                  exact (hh k u' d' hu' hd').keep Kp (Ap.atPart_closed fr t i) fun _ => by simp [Ap.sub, Ap.atPart, Ne.symm e]
            · rw [if_neg e] at hd'
              exact .inl ⟨hd', rfl, fun _ => by simp [Ap.atPart, Ne.symm e]⟩
          · simp only [Gh.liftI, Gh.setL] at h
            cases hg : G.L g with
            | none => rw [hg] at h; cases h
            | some τ' =>
              obtain ⟨h1, h2⟩ := S.old g τ' hg
              rw [hg] at h
              simp only [Option.map_some, Option.some.injEq] at h
              refine ⟨h1, h2.imp (fun e => by rw [← h, e]; rfl) id⟩
        have st : Step fr G w (G.liftI fr t i 0) w := by
          refine step_tags (fun g h => liftI_none.2 h) (fun g h => by simp [h, Pv.liftI]) (fun g p f h hf hl => ?_)
          have : p.atPart fr t i = false := by
            cases p with
            | tm f' t' q =>
              simp only [Ap.frame, Option.some.injEq] at hf
              cases q <;> simp only [Ap.atPart, Bool.and_eq_false_iff, beq_eq_false_iff_ne]
              · exact .inl (by omega)
              · exact .inl (.inl (by omega))
            | _ => rfl
          simp [h, liftI_own this]
        exact wp_put (i := 0) S1 (hvu.liftI [] rfl) h6 hrun (hK.after st)
      · rename_i hno
        exact wp_free S hvu (by simpa using hno) h4 hrun hK
    · cases h2
  · cases h
end Go.Pv

namespace Go.Pv
open Go.RowKit
variable {P : Program} {B fr : Nat} {G : Gh} {σ σ' : St} {act : Act} {w : World} {C : Callee} {K : Act → World → Prop} {Q : Exit → Act → World → Prop} {H : Hint}

/-- A bound that may be left out. -/
def OptIs (act : Act) (x : Option Operand) (n : Option Int) : Prop :=
  match x, n with
  | none, none => True
  | some x, some n => ∃ k, act.eval x = .int k n
  | _, _ => False
theorem Sim.optInt {x : Option Operand} {n : Option Int} (S : Sim B fr G σ act w) (h : (optInt x).run C σ = some (.ok n, σ')) : σ = σ' ∧ OptIs act x n := by
  cases x with
  | none => obtain ⟨rfl, rfl⟩ := ret_ok (C := C) h; exact ⟨rfl, trivial⟩
  | some x =>
    simp only [Pv.optInt] at h
    obtain ⟨d, σ1, h1, h2⟩ := bind_ok h
    obtain ⟨rfl, p, hv⟩ := S.rd h1
    obtain ⟨m, σ1, h3, h4⟩ := bind_ok h2
    obtain ⟨hm, rfl⟩ := ofOpt_ok h3
    obtain ⟨rfl, rfl⟩ := pure_ok h4
    obtain ⟨k, rfl⟩ := int?_ok hm
    exact ⟨rfl, k, hv.sc⟩
theorem run_bounds {b : Bool} {len cap : Nat} {lo hi : Option Operand} {l h : Option Int} (hl : OptIs act lo l) (hh : OptIs act hi h) (h0 : 0 ≤ l.getD 0) (h1 : l.getD 0 ≤ h.getD len) (h2 : h.getD len ≤ cap) :
    (Instr.sliceBounds b len cap (lo.map act.eval) (hi.map act.eval) none).run P w = .ok ((l.getD 0).toNat, (h.getD len).toNat, cap) w := by
  cases hi with
  | none =>
    cases h with
    | some _ => exact hh.elim
    | none =>
      cases lo with
      | none =>
        cases l with
        | some _ => exact hl.elim
        | none => simp [Instr.sliceBounds]
      | some lo =>
        cases l with
        | none => exact hl.elim
        | some l =>
          obtain ⟨k, e⟩ := hl
          simp only [Option.getD_some, Option.getD_none] at h0 h1 h2
          simp [Instr.sliceBounds, Instr.sliceBound, e, asIntOf, h0, h1]
  | some hi =>
    cases h with
    | none => exact hh.elim
    | some h =>
      obtain ⟨k, e⟩ := hh
      cases lo with
      | none =>
        cases l with
        | some _ => exact hl.elim
        | none =>
          simp only [Option.getD_some, Option.getD_none] at h0 h1 h2
          simp [Instr.sliceBounds, Instr.sliceBound, e, asIntOf, h1, h2]
      | some lo =>
        cases l with
        | none => exact hl.elim
        | some l =>
          obtain ⟨k', e'⟩ := hl
          simp only [Option.getD_some] at h0 h1 h2
          have : 0 ≤ h := by omega
          simp [Instr.sliceBounds, Instr.sliceBound, e, e', asIntOf, h0, h1, h2, this, Int.max_eq_left this]

theorem VD.slice {vr : Pl → Nat} {p : Ap} {v : Value} {d d' : D} {ty : TypeId} {lo hi : Option Operand} {l h : Option Int} (hv : VD B fr G vr w p v d) (hl : OptIs act lo l) (hh : OptIs act hi h) (hs : sliceD P ty d l h = some d') :
    ∃ u, (Instr.sliceAt ty v (lo.map act.eval) (hi.map act.eval) none).run P w = .ok u w ∧ VD B fr G vr w p u d' ∧ d'.hasOwn = false := by
  unfold sliceD at hs
  split at hs
  · rename_i s
    simp only at hs
    split at hs
    · rename_i hc
      cases hs
      have he := hv.sc
      subst he
      refine ⟨_, ?_, VD.scal (p := p) rfl, rfl⟩
      simp [Instr.sliceAt, Instr.slice, run_underlying (isStr_ok hc.1), run_bounds (b := false) (len := s.size) (cap := s.size) hl hh hc.2.1 hc.2.2.1 (by simpa using hc.2.2.2)]
    · cases hs
  · rename_i sz els
    cases he : elOf P ty with
    | none => rw [he] at hs; cases hs
    | some e =>
      rw [he] at hs
      simp only [Option.bind_some] at hs
      split at hs
      · rename_i hc
        obtain ⟨hsz, h0, h1, h2⟩ := hc
        cases hs
        obtain ⟨hu, hz⟩ := elOf_ok he
        cases hv with
        | t p v x hr =>
          cases hr with
          | sl A m cap sz els f hn hcap hzz hA hR =>
            subst hn
            have hb := run_bounds (P := P) (w := w) (b := true) (len := els.length) (cap := cap) hl hh h0 h1 (by omega)
            refine ⟨.slice (if cap = (l.getD 0).toNat then A else A.map (·.add ((l.getD 0).toNat * szOf P e))) ((h.getD els.length).toNat - (l.getD 0).toNat) (cap - (l.getD 0).toNat), ?_, .t _ _ _ ?_, rfl⟩
            · simp [Instr.sliceAt, Instr.slice, run_underlying hu, hb, zOk_size hz]
            · generalize hl' : (l.getD 0).toNat = l' at *
              generalize hh' : (h.getD els.length).toNat = h' at *
              have e1 : l' ≤ h' := by omega
              have e2 : h' ≤ els.length := by omega
              have hget : ∀ i e, ((els.take h').drop l')[i]? = some e → els[l' + i]? = some e ∧ l' + i < h' := fun i e hi => by
                rw [List.getElem?_drop, List.getElem?_take] at hi
                split at hi
                · exact ⟨hi, by assumption⟩
                · cases hi
              refine .sl _ _ _ sz _ (fun i j => f (l' + i) j) (by simp; omega) (by omega) (fun e he => hzz e (List.mem_of_mem_take (List.mem_of_mem_drop he))) (fun hne => ?_) (fun i e j x hi hj => hR _ e j x (hget i e hi).1 hj)
              have hlt : l' < h' := by
                rcases Nat.lt_or_ge l' h' with h | h
                · exact h
                · exact absurd (List.drop_eq_nil_of_le (by simp; omega)) hne
              obtain ⟨a, rfl, ho, hcell⟩ := hA (by intro e; rw [e] at e2; simp at e2; omega)
              rw [if_neg (by omega)]
              refine ⟨_, rfl, by rw [Addr.block_add]; exact ho, fun i e j x hi hj => ?_⟩
              rw [add_add, ← hsz, show l' * sz + (i * sz + j) = (l' + i) * sz + j from by rw [Nat.add_mul]; omega]
              exact hcell _ e j x (hget i e hi).1 hj
      · cases hs
  · cases he : elOf P ty with
    | none => rw [he] at hs; cases hs
    | some e =>
      rw [he] at hs
      simp only [Option.bind_some] at hs
      split at hs
      · rename_i hc
        cases hs
        obtain ⟨hu, hz⟩ := elOf_ok he
        have he := hv.sc
        subst he
        have hb := run_bounds (P := P) (w := w) (b := true) (len := 0) (cap := 0) hl hh (by omega) (by simp only [Int.cast_ofNat_Int]; omega) (by simp only [Int.cast_ofNat_Int]; omega)
        refine ⟨.slice none 0 0, ?_, VD.scal (p := p) rfl, rfl⟩
        have e1 : (l.getD 0).toNat = 0 := by omega
        have e2 : (h.getD 0).toNat = 0 := by omega
        simp only [Int.cast_ofNat_Int] at hb
        simp [Instr.sliceAt, Instr.slice, run_underlying hu, hb, zOk_size hz, e1, e2]
      · cases hs
  · rename_i q k sz a n
    cases he : elOf P ty with
    | none => rw [he] at hs; cases hs
    | some e =>
      rw [he] at hs
      simp only [Option.bind_some] at hs
      split at hs
      · rename_i hc
        obtain ⟨hsz, h0, h1, h2⟩ := hc
        cases hs
        obtain ⟨hu, hz⟩ := elOf_ok he
        cases hv with
        | alsN p q k sz lo hk hv =>
          have hb := run_bounds (P := P) (w := w) (b := true) (len := 0) (cap := 0) hl hh h0 h1 h2
          simp only [Int.cast_ofNat_Int] at h1 h2
          have e1 : (l.getD 0).toNat = 0 := by omega
          have e2 : (h.getD 0).toNat = 0 := by omega
          have e3 : (h.getD 0 - l.getD 0).toNat = 0 := by omega
          refine ⟨.slice none 0 0, ?_, ?_, rfl⟩
          · simp only [Int.cast_ofNat_Int] at hb
            simp [Instr.sliceAt, Instr.slice, run_underlying hu, hb, zOk_size hz, e1, e2]
          · simp only [Int.cast_ofNat_Int, e3]
            exact .alsN p q k sz _ hk hv
        | als p q k sz lo n g c cap cap' hk hv hn hcap o hoff =>
          have hb := run_bounds (P := P) (w := w) (b := true) (len := n) (cap := cap') hl hh h0 h1 (by omega)
          refine ⟨.slice (if cap' = (l.getD 0).toNat then some ⟨g, o, none⟩ else some ⟨g, o + (l.getD 0).toNat * szOf P e, none⟩) ((h.getD n).toNat - (l.getD 0).toNat) (cap' - (l.getD 0).toNat), ?_, ?_, rfl⟩
          · simp only [Instr.sliceAt, Instr.slice, Sem.run_bind, run_underlying hu, hb, zOk_size hz, Result.andThen_ok, Option.map_some, add_mid]
            rfl
          · have e3 : (h.getD n - l.getD 0).toNat = (h.getD n).toNat - (l.getD 0).toNat := by omega
            rw [e3]
            generalize hl' : (l.getD 0).toNat = l' at *
            split
            · rename_i hlc
              refine .als p q k sz _ _ g c cap _ hk hv (by omega) (by omega) o ?_
              by_cases hl0 : l' = 0
              · subst hl0
                exact hoff.imp (fun h => by rw [Nat.add_zero]; exact h) (fun h => ⟨by omega, by omega⟩)
              · exact .inr ⟨by omega, by omega⟩
            · refine .als p q k sz _ _ g c cap _ hk hv (by omega) (by omega) _ ?_
              rcases hoff with rfl | ⟨h1, h2⟩
              · left; rw [← hsz, Nat.add_mul]
              · omega
      · cases hs
  · cases hs

theorem op_slice {ty : TypeId} {x : Operand} {lo hi mx : Option Operand} {o : Oper} (ho : o.op = .slice ty x lo hi mx) (S : Sim B fr G σ act w) (h : (pStep P H o).run C σ = some (.ok (), σ')) (hK : On B fr G w σ' K) : o.wp P act w K Q := by
  simp only [pStep, ho] at h
  obtain ⟨_, σ1, h1, h2⟩ := bind_ok h
  obtain ⟨hm, rfl⟩ := need_ok h1
  obtain ⟨d, σ1, h3, h4⟩ := bind_ok h2
  obtain ⟨G1, S1, st, p, hv⟩ := S.rdS h3
  obtain ⟨l, σ2, h5, h6⟩ := bind_ok h4
  obtain ⟨rfl, hl⟩ := S1.optInt h5
  obtain ⟨hh, σ2, h7, h8⟩ := bind_ok h6
  obtain ⟨rfl, hh⟩ := S1.optInt h7
  obtain ⟨r, σ2, h9, h10⟩ := bind_ok h8
  obtain ⟨hr, rfl⟩ := ofOpt_ok h9
  obtain ⟨u, hu, hv', hno⟩ := hv.slice hl hh hr
  have : mx = none := by cases mx <;> first | rfl | cases hm
  subst this
  exact wp_free S1 hv' hno h10 (by simp [execOp, ho, hu]) (hK.after st)

theorem op_indexAddr {ty : TypeId} {x ix : Operand} {o : Oper} (ho : o.op = .indexAddr ty x ix) (S : Sim B fr G σ act w) (h : (pStep P H o).run C σ = some (.ok (), σ')) (hK : On B fr G w σ' K) : o.wp P act w K Q := by
  simp only [pStep, ho] at h
  obtain ⟨d, σ1, h1, h2⟩ := bind_ok h
  obtain ⟨rfl, p, hv⟩ := S.rd h1
  obtain ⟨i, σ1, h3, h4⟩ := bind_ok h2
  obtain ⟨hi, rfl⟩ := ofOpt_ok h3
  obtain ⟨k, rfl⟩ := int?_ok hi
  have hi := hv.sc
  split at h4
  · rename_i n e harr
    obtain ⟨hu, hz⟩ := arrOf_ok harr
    obtain ⟨_, σ1, h5, h6⟩ := bind_ok h4
    obtain ⟨h0, rfl⟩ := need_ok h5
    obtain ⟨d', σ1, h9, h10⟩ := bind_ok h6
    obtain ⟨rfl, p', hv'⟩ := S.rd h9
    obtain ⟨r, σ1, h11, h12⟩ := bind_ok h10
    obtain ⟨hr, rfl⟩ := ofOpt_ok h11
    obtain ⟨a, e', hv2, hno⟩ := hv'.shift hr
    simp only [Bool.and_eq_true, decide_eq_true_eq] at h0
    refine wp_free S hv2 hno h12 ?_ hK
    simp [execOp, ho, Instr.indexAt, hi, asIntOf, run_underlying hu, e', Instr.sureAddr, h0.1, h0.2, zOk_size hz]
  · obtain ⟨e, σ1, h5, h6⟩ := bind_ok h4
    obtain ⟨he, rfl⟩ := ofOpt_ok h5
    obtain ⟨hu, hz⟩ := elOf_ok he
    obtain ⟨d', σ1, h9, h10⟩ := bind_ok h6
    obtain ⟨G1, S1, st, p', hv'⟩ := S.rdS h9
    split at h10
    · rename_i sz els
      obtain ⟨_, σ1, h7, h8⟩ := bind_ok h10
      obtain ⟨h0, rfl⟩ := need_ok h7
      simp only [Bool.and_eq_true, decide_eq_true_eq, beq_iff_eq] at h0
      obtain ⟨⟨hsz, h0⟩, h1⟩ := h0
      generalize hx : act.eval x = v at hv'
      cases hv' with
      | t p v x' hr =>
        cases hr with
        | sl A m cap sz els f hn hcap hzz hA hR =>
          subst hn
          have hlt : i.toNat < els.length := by omega
          obtain ⟨a, rfl, hob, hcell⟩ := hA (by intro e; rw [e] at hlt; simp at hlt)
          have hel : els[i.toNat]? = some (els.getD i.toNat []) := by simp [List.getD_eq_getElem?_getD, List.getElem?_eq_getElem hlt]
          refine wp_free S1 (v := .pointer (some (a.add (i.toNat * szOf P e)))) (p := .pn fr 0 []) (.t _ _ _ (.pt _ _ (fun j => f i.toNat j) (by rw [Addr.block_add]; exact hob) (fun j x hj => ?_) (fun j x hj => hR _ _ j x hel hj))) rfl h8 ?_ (hK.after st)
          · rw [add_add, ← hsz]
            exact hcell _ _ j x hel hj
          · simp [execOp, ho, Instr.indexAt, hi, asIntOf, run_underlying hu, hx, h0, h1, zOk_size hz]
    · rename_i q k sz lo n
      obtain ⟨⟨e', sz', els⟩, σ2, h7, h8⟩ := bind_ok h10
      obtain ⟨rfl, hk, v0, hat, hrow⟩ := S1.rowAt h7
      obtain ⟨_, σ2, h11, h12⟩ := bind_ok h8
      obtain ⟨h0, rfl⟩ := need_ok h11
      simp only [Bool.and_eq_true, decide_eq_true_eq, beq_iff_eq] at h0
      obtain ⟨⟨⟨hsz, hsz'⟩, h0⟩, h1⟩ := h0
      generalize hx : act.eval x = v at hv'
      cases hv' with
      | alsN p q k sz lo hk hv => omega
      | als p q k sz lo n g c cap cap' hk hv hn hcap o' hoff =>
        have e1 : o' = lo * sz := by omega
        refine wp_free S1 (v := .pointer (some ⟨g, (lo + i.toNat) * sz + 0, none⟩)) (p := .pn fr 0 []) (.ept _ q k sz (lo + i.toNat) 0 g c cap hk hv) rfl h12 ?_ (hK.after st)
        have e2 : (lo + i.toNat) * sz + 0 = o' + i.toNat * szOf P e := by rw [e1, ← hsz, Nat.add_mul]; omega
        rw [e2]
        simp [execOp, ho, Instr.indexAt, hi, asIntOf, run_underlying hu, hx, h0, h1, zOk_size hz, add_mid]
    · cases h10
end Go.Pv

namespace Go.Pv
open Go.RowKit
variable {P : Program} {B fr : Nat} {G : Gh} {σ σ' : St} {act : Act} {w w' : World} {C : Callee} {K : Act → World → Prop} {Q : Exit → Act → World → Prop} {H : Hint}

/-- A block of the value that is on its way as number i. -/
def Gh.mine (G : Gh) (fr i : Nat) (b : Option Nat) : Gh := G.setL fun g => if b = some g then some (.own (.pn fr i [])) else G.L g
theorem mine_self {i g : Nat} : (G.mine fr i (some g)).L g = some (.own (.pn fr i [])) := if_pos rfl
/-- The machine made a block, or wrote into the row that is on its way as number i. -/
theorem Sim.grown {i : Nat} {b row : Option Nat} (S : Sim B fr G σ act w) (hg : w.grownBy w' row) (hrow : ∀ g, row = some g → G.L g = some (.own (.pn fr i [])))
    (hb : ∀ g, b = some g → row = some g ∨ (g = w.heap.size ∧ g < w'.heap.size)) :
    Sim B fr (G.mine fr i b) σ act w' ∧ Step fr G w (G.mine fr i b) w' ∧ Keep fr G σ.verAt w (G.mine fr i b) σ.verAt w' (Pend fr i) (fun _ _ => True) := by
  have hL : ∀ g, g < w.heap.size → row ≠ some g → (G.mine fr i b).L g = G.L g := fun g hl hr => by
    show (if b = some g then _ else _) = _
    rw [if_neg]
    intro e
    rcases hb g e with h | ⟨h, _⟩
    · exact hr h
    · omega
  have hw : ∀ g, g < w.heap.size → row ≠ some g → w'.heap[g]? = w.heap[g]? := fun g hl hr => hg.block g hl (Ne.symm hr)
  have hne : ∀ g, g < w.heap.size → G.L g ≠ some (.own (.pn fr i [])) → row ≠ some g := fun g _ hn e => hn (hrow g e)
  have hs : ∀ g, G.L g = none → row ≠ some g := fun g h e => by rw [hrow g e] at h; cases h
  have hlt : ∀ g τ, G.L g = some τ → g < w.heap.size := fun g τ h => (S.old g τ h).1
  have Kp : Keep fr G σ.verAt w (G.mine fr i b) σ.verAt w' (fun p => p ≠ .pn fr i []) (fun _ _ => True) := by
    refine ⟨hg.size, fun g hl h => by rw [hL g hl (hs g h)]; exact h, fun g h hl => hw g hl (hs g h), fun g p h hp => ?_, fun _ => Nat.le_refl _, fun _ _ => rfl, fun _ _ _ _ => rfl, fun _ _ h => ⟨h, rfl⟩, fun f s h _ => ?_⟩
    · have hr : row ≠ some g := fun e => by rw [hrow g e] at h; exact hp (by simpa using h.symm)
      exact ⟨by rw [hL g (hlt g _ h) hr]; exact h, hw g (hlt g _ h) hr⟩
    · have h' := S.alt f s h
      have hr : row ≠ some (G.hb f s) := fun e => by rw [hrow _ e] at h'; cases h'
      exact ⟨hL _ (hlt _ _ h') hr, hw _ (hlt _ _ h') hr⟩
  have hC : Closed fun p => p ≠ Ap.pn fr i [] := fun p k h e => by cases p <;> simp [Ap.sub] at e
  refine ⟨S.upd Kp hC S.len (fun t d hd => .inl ⟨hd, rfl, fun _ => by simp⟩) (fun s c hc hne => .inl ⟨hc, trivial, fun _ _ _ _ => by simp⟩) S.bxn (fun f b hb s c hc hne => .inl ⟨⟨b, hb, hc⟩, trivial, fun _ _ _ _ => by simp⟩)
    S.frl S.alf (fun f s h => ?_) (fun g τ h => ?_) S.dfs, ⟨hg.os, hg.tape, hg.output, hg.size, fun g hl h => ⟨Kp.sh g hl h, Kp.shw g h hl⟩, fun g h => ?_, fun g p f h hf hl => ?_, fun _ _ _ h => ⟨h, rfl⟩⟩, Kp.weaken (fun p hp e => ?_) (fun _ _ h => h)⟩
  · exact (Kp.box f s h trivial).1.trans (S.alt f s h)
  · by_cases e : b = some g
    · rcases hb g e with h' | ⟨h1, h2⟩
      · have := S.old g _ (hrow g h')
        exact ⟨Nat.lt_of_lt_of_le this.1 hg.size, .inr (this.2.resolve_left (by simp))⟩
      · exact ⟨h2, .inr (by rw [h1]; exact S.base)⟩
    · have : (G.mine fr i b).L g = G.L g := if_neg e
      rw [this] at h
      exact ⟨Nat.lt_of_lt_of_le (S.old g τ h).1 hg.size, (S.old g τ h).2⟩
  · have hr : row ≠ some g := fun e => by rw [hrow g e] at h; cases h
    exact ⟨by rw [hL g (hlt g _ h) hr]; exact h, hw g (hlt g _ h) hr⟩
  · have hr : row ≠ some g := fun e => by
      rw [hrow g e] at h
      simp only [Option.some.injEq, Tag.own.injEq] at h
      subst h
      simp only [Ap.frame, Option.some.injEq] at hf
      omega
    exact ⟨by rw [hL g (hlt g _ h) hr]; exact h, hw g (hlt g _ h) hr⟩
  · obtain ⟨f, j, path, rfl, hne⟩ := hp
    simp only [Ap.pn.injEq] at e
    exact hne ⟨e.1, e.2.1⟩

theorem Keep.RTrow {vr vr' : Pl → Nat} {G' : Gh} {KP : Ap → Prop} {KB : Nat → Nat → Prop} (k : Keep fr G vr w G' vr' w' KP KB) {sz : Nat} {us : List Value} {els : List (List T)} (h : RTrow G.sh w sz us els) : RTrow G'.sh w' sz us els :=
  h.mono fun b hb hl => ⟨k.sh b hl hb, k.shw b hb hl⟩
theorem RTrow.append {ok : Nat → Prop} {sz : Nat} {us vs : List Value} {els es : List (List T)} (h : RTrow ok w sz us els) (k : RTrow ok w sz vs es) : RTrow ok w sz (us ++ vs) (els ++ es) := by
  refine ⟨by rw [List.length_append, List.length_append, h.len, k.len, Nat.add_mul], fun e he => ?_, fun i e j x hi hj => ?_⟩
  · rcases List.mem_append.1 he with he | he
    · exact h.each e he
    · exact k.each e he
  · rw [List.getElem?_append] at hi
    split at hi
    · rename_i hl
      obtain ⟨u, hu, hr⟩ := h.cell i e j x hi hj
      exact ⟨u, by rw [List.getElem?_append_left (List.getElem?_eq_some_iff.1 hu).1]; exact hu, hr⟩
    · rename_i hl
      obtain ⟨u, hu, hr⟩ := k.cell _ e j x hi hj
      refine ⟨u, ?_, hr⟩
      have e1 : i * sz + j = us.length + ((i - els.length) * sz + j) := by
        rw [h.len, ← Nat.add_assoc, ← Nat.add_mul]
        congr 2
        omega
      rw [e1, List.getElem?_append_right (Nat.le_add_right _ _), Nat.add_sub_cancel_left]
      exact hu
theorem one_of {ok : Nat → Prop} {sz : Nat} {us : List Value} {els : List (List T)} (h : RTrow ok w sz us els) : ∀ u ∈ us, u.oneCell' = true := by
  intro u hu
  obtain ⟨k, hk⟩ := List.getElem?_of_mem hu
  have hlt := (List.getElem?_eq_some_iff.1 hk).1
  rw [h.len] at hlt
  have hsz : 0 < sz := by rcases Nat.eq_zero_or_pos sz with e | e; · simp [e] at hlt
                          · exact e
  have hi : k / sz < els.length := Nat.div_lt_of_lt_mul (by rwa [Nat.mul_comm] at hlt)
  have hj : k % sz < (els[k / sz]).length := by rw [h.each _ (List.getElem_mem hi)]; exact Nat.mod_lt _ hsz
  obtain ⟨u', hu', hr⟩ := h.cell (k / sz) _ (k % sz) _ (List.getElem?_eq_getElem hi) (List.getElem?_eq_getElem hj)
  rw [show k / sz * sz + k % sz = k from by rw [Nat.mul_comm]; exact Nat.div_add_mod k sz, hk] at hu'
  cases hu'
  exact hr.one

theorem zeros_row {ok : Nat → Prop} {e : TypeId} {z : Value} {i : TypeInfo} {d : TypeDesc} (k : Known P e i z d) (n : Nat) : RTrow ok w (szOf P e) (madeCells z.cells (n * i.size)).toList (List.replicate n ((zeroOf P e).map .sc)) := by
  have hzl : (zeroOf P e).length = i.size := by rw [k.zof, Array.length_toList, k.zsize]
  refine ⟨by simp [size_madeCells, k.sz], fun e' he => ?_, fun a e' j x hi hj => ?_⟩
  · rw [List.eq_of_mem_replicate he, List.length_map, hzl, k.sz]
  · rw [List.getElem?_replicate] at hi
    split at hi
    · rename_i hl
      cases hi
      rw [List.getElem?_map, Option.map_eq_some_iff] at hj
      obtain ⟨u, hu, rfl⟩ := hj
      have hjl : j < i.size := by rw [← hzl]; exact (List.getElem?_eq_some_iff.1 hu).1
      refine ⟨u, ?_, .sc _ (k.zone u ?_)⟩
      · have hlt : a * szOf P e + j < n * i.size := by
          rw [k.sz]
          calc a * i.size + j < a * i.size + i.size := by omega
            _ = (a + 1) * i.size := by rw [Nat.add_mul]; omega
            _ ≤ n * i.size := Nat.mul_le_mul_right _ hl
        have hm : (a * szOf P e + j) % z.cells.size = j := by
          rw [k.sz, k.zsize, Nat.mul_add_mod_self_right]
          exact Nat.mod_eq_of_lt hjl
        rw [k.zof, Array.getElem?_toList] at hu
        simp only [madeCells, Array.getElem?_toList, Array.getElem?_map]
        rw [show (Array.range (n * i.size))[a * szOf P e + j]? = some (a * szOf P e + j) from by simp [hlt]]
        simp only [Option.map_some, hm]
        rw [getElem!_def, hu]
      · rw [k.zof, Array.getElem?_toList] at hu
        exact Array.mem_of_getElem? hu
    · cases hi

theorem op_makeSlice {ty : TypeId} {l c : Operand} {o : Oper} (ho : o.op = .makeSlice ty l c) (S : Sim B fr G σ act w) (h : (pStep P H o).run C σ = some (.ok (), σ')) (hK : On B fr G w σ' K) : o.wp P act w K Q := by
  simp only [pStep, ho] at h
  obtain ⟨e, σ1, h1, h2⟩ := bind_ok h
  obtain ⟨he, rfl⟩ := ofOpt_ok h1
  obtain ⟨hu, hz⟩ := elOf_ok he
  obtain ⟨i, z, d, k⟩ := zOk_ok hz
  obtain ⟨d1, σ1, h3, h4⟩ := bind_ok h2
  obtain ⟨rfl, p, hv⟩ := S.rd h3
  obtain ⟨n, σ1, h5, h6⟩ := bind_ok h4
  obtain ⟨hn, rfl⟩ := ofOpt_ok h5
  obtain ⟨kl, rfl⟩ := int?_ok hn
  have hn := hv.sc
  obtain ⟨d2, σ1, h7, h8⟩ := bind_ok h6
  obtain ⟨rfl, p', hv'⟩ := S.rd h7
  obtain ⟨m, σ1, h9, h10⟩ := bind_ok h8
  obtain ⟨hm, rfl⟩ := ofOpt_ok h9
  obtain ⟨kc, rfl⟩ := int?_ok hm
  have hm := hv'.sc
  obtain ⟨_, σ1, h11, h12⟩ := bind_ok h10
  obtain ⟨hc, rfl⟩ := need_ok h11
  simp only [Bool.and_eq_true, beq_iff_eq, decide_eq_true_eq] at hc
  obtain ⟨⟨rfl, h0⟩, hby⟩ := hc
  obtain ⟨N, rfl⟩ : ∃ N : Nat, n = N := ⟨n.toNat, by omega⟩
  simp only [Int.toNat_natCast] at hby h12
  rw [k.by'] at hby
  have hN : N ≤ most := Nat.le_trans (Nat.le_mul_of_pos_right N k.bpos) hby
  obtain ⟨w', hr, hown, hg⟩ := run_make_full (P := P) w B ty e i z i.size hu k.info k.zero rfl kl kc N (by rw [Nat.mul_comm]; simp only [most] at hby; omega) (by simp only [most, maxLen] at *; omega) S.base
  have hsz : w.heap.size < w'.heap.size := ownsRow_lt hown rfl
  obtain ⟨a, b, c⟩ := S.grown (i := 0) (b := some w.heap.size) hg (fun g hg => by cases hg) (fun g hg => by cases hg; exact .inr ⟨rfl, hsz⟩)
  refine (?_ : o.wp P act w K Q)
  have hrow : RTrow (G.mine fr 0 (some w.heap.size)).sh w' (szOf P e) _ _ := zeros_row k N
  have hvd : VD B fr (G.mine fr 0 (some w.heap.size)) σ.verAt w' (.pn fr 0 []) (.slice (some ⟨w.heap.size, 0, none⟩) N N) (.own e (szOf P e) (List.replicate N ((zeroOf P e).map .sc))) := by
    refine .own _ _ e _ _ _ (by rw [List.length_replicate, k.sz]; exact hown) hrow (by rw [k.sz]; exact k.pos) (fun g hg => ?_) (fun q _ e => by cases q <;> cases e)
    simp only [Value.ownBlock, Option.some.injEq] at hg
    subst hg
    exact mine_self
  obtain ⟨G2, a2, b2⟩ := a.put (hvd.canon _) h12
  unfold Oper.wp
  rw [show (execOp act.eval o).run P w = .ok (.value (.slice (some ⟨w.heap.size, 0, none⟩) N N)) w' from by simp [execOp, ho, hn, hm, hr]]
  exact hK _ _ _ a2 (b.trans b2)

theorem op_makeMap {ty : TypeId} {r : Option Operand} {o : Oper} (ho : o.op = .makeMap ty r) (S : Sim B fr G σ act w) (h : (pStep P H o).run C σ = some (.ok (), σ')) (hK : On B fr G w σ' K) : o.wp P act w K Q := by
  simp only [pStep, ho] at h
  obtain ⟨_, σ1, h1, h2⟩ := bind_ok h
  obtain ⟨hc, rfl⟩ := need_ok h1
  simp only [Bool.and_eq_true] at hc
  have : r = none := by cases r <;> first | rfl | cases hc.1
  subst this
  obtain ⟨a, b, c⟩ := S.grown (i := 0) (b := some w.heap.size) (World.grownBy_alloc w (.map #[] 0) none) (fun g hg => by cases hg) (fun g hg => by cases hg; exact .inr ⟨rfl, by simp⟩)
  obtain ⟨G2, a2, b2⟩ := a.put (i := 0) (v := .map (some w.heap.size)) (d := .omap []) (.omap _ _ #[] 0 [] (heap_alloc_new w _) rfl S.base mine_self (fun q _ e => by cases q <;> cases e)) h2
  unfold Oper.wp
  rw [show (execOp act.eval o).run P w = .ok (.value (.map (some w.heap.size))) (w.alloc (.map #[] 0)) from by simp [execOp, ho, Instr.makeMap]]
  exact hK _ _ _ a2 (b.trans b2)
end Go.Pv

namespace Go.Pv
open Go.RowKit
variable {P : Program} {B fr : Nat} {G : Gh} {σ σ' : St} {act : Act} {w w' : World} {C : Callee} {K : Act → World → Prop} {Q : Exit → Act → World → Prop} {H : Hint}

/-- Where the cells of what is appended lie. -/
def Src (w : World) (v : Value) (m : Nat) (news : List Value) : Prop :=
  (∃ a c, v = .slice (some a) m c ∧ ∀ (j : Nat) u, news[j]? = some u → w.cell? (a.add j) = some u) ∨ (∃ c, v = .slice none 0 c ∧ m = 0)

theorem RTrow.resize {ok : Nat → Prop} {sz sz' : Nat} {us : List Value} {els : List (List T)} (h : RTrow ok w sz us els) (hall : ∀ c ∈ els, c.length = sz') : RTrow ok w sz' us els := by
  cases els with
  | nil =>
    have : us = [] := List.eq_nil_of_length_eq_zero (by simpa using h.len)
    subst this
    exact ⟨by simp, by simp, by simp⟩
  | cons e l =>
    have h1 := h.each e (List.mem_cons_self ..)
    have h2 := hall e (List.mem_cons_self ..)
    have : sz = sz' := by omega
    subst this
    exact h
theorem RTrow.ofFun {ok : Nat → Prop} {sz : Nat} {els : List (List T)} {f : Nat → Nat → Value} (hz : ∀ e ∈ els, e.length = sz) (hR : ∀ i e j x, els[i]? = some e → e[j]? = some x → RT ok w (f i j) x) :
    RTrow ok w sz ((List.range (els.length * sz)).map fun k => f (k / sz) (k % sz)) els := by
  refine ⟨by simp, hz, fun i e j x hi hj => ⟨f i j, ?_, hR i e j x hi hj⟩⟩
  have hl := (List.getElem?_eq_some_iff.1 hi).1
  have hj' : j < sz := by rw [← hz e (List.mem_of_getElem? hi)]; exact (List.getElem?_eq_some_iff.1 hj).1
  have hlt : i * sz + j < els.length * sz := by
    calc i * sz + j < i * sz + sz := by omega
      _ = (i + 1) * sz := by rw [Nat.add_mul]; omega
      _ ≤ els.length * sz := Nat.mul_le_mul_right _ hl
  rw [List.getElem?_map, List.getElem?_range hlt, Option.map_some]
  have e1 : (i * sz + j) / sz = i := by rw [Nat.mul_comm, Nat.mul_add_div (by omega), Nat.div_eq_of_lt hj']; rfl
  have e2 : (i * sz + j) % sz = j := by rw [Nat.mul_add_mod_self_right]; exact Nat.mod_eq_of_lt hj'
  rw [e1, e2]
theorem RTrow.part {ok : Nat → Prop} {sz : Nat} {us : List Value} {els : List (List T)} (h : RTrow ok w sz us els) (lo n : Nat) (hn : lo + n ≤ els.length) : RTrow ok w sz ((us.drop (lo * sz)).take (n * sz)) ((els.drop lo).take n) := by
  have hb : lo * sz + n * sz ≤ els.length * sz := by rw [← Nat.add_mul]; exact Nat.mul_le_mul_right _ hn
  refine ⟨?_, fun e he => h.each e (List.mem_of_mem_drop (List.mem_of_mem_take he)), fun i e j x hi hj => ?_⟩
  · rw [List.length_take, List.length_drop, List.length_take, List.length_drop, h.len, Nat.min_eq_left (by omega), Nat.min_eq_left (by omega)]
  · rw [List.getElem?_take] at hi
    split at hi
    · rename_i hin
      rw [List.getElem?_drop] at hi
      obtain ⟨u, hu, hr⟩ := h.cell _ e j x hi hj
      refine ⟨u, ?_, hr⟩
      have hj' : j < sz := by rw [← h.each e (List.mem_of_getElem? hi)]; exact (List.getElem?_eq_some_iff.1 hj).1
      have hlt : i * sz + j < n * sz := by
        calc i * sz + j < i * sz + sz := by omega
          _ = (i + 1) * sz := by rw [Nat.add_mul]; omega
          _ ≤ n * sz := Nat.mul_le_mul_right _ hin
      rw [List.getElem?_take, if_pos hlt, List.getElem?_drop, show lo * sz + (i * sz + j) = (lo + i) * sz + j from by rw [Nat.add_mul]; omega]
      exact hu
    · cases hi

/-- What is appended: its cells. -/
theorem Sim.lendRow {p : Ap} {v : Value} {d : D} {x : T} {els : List (List T)} {sz : Nat} (S : Sim B fr G σ act w) (hv : VD B fr G σ.verAt w p v d) (h : (Pv.lend d).run C σ = some (.ok x, σ'))
    (hx : x.els = some els) (hall : ∀ c ∈ els, c.length = sz) : σ = σ' ∧ ∃ news, RTrow G.sh w sz news els ∧ Src w v els.length news := by
  cases d with
  | t y =>
    obtain ⟨rfl, rfl⟩ := ret_ok (C := C) h
    refine ⟨rfl, ?_⟩
    unfold T.els at hx
    split at hx
    · rename_i sz0 els0
      cases hx
      cases hv with
      | t p v x hr =>
        cases hr with
        | sl A n cap sz1 els f hn hc hz hA hR =>
          subst hn
          refine ⟨_, (RTrow.ofFun hz hR).resize hall, ?_⟩
          by_cases hne : els = []
          · subst hne
            cases A with
            | none => exact .inr ⟨cap, rfl, rfl⟩
            | some a => exact .inl ⟨a, cap, rfl, by simp⟩
          · obtain ⟨a, rfl, _, hcell⟩ := hA hne
            refine .inl ⟨a, cap, rfl, fun j u hj => ?_⟩
            rw [List.getElem?_map, Option.map_eq_some_iff] at hj
            obtain ⟨k, hk, rfl⟩ := hj
            have hlt : j < els.length * sz0 := by
              have := (List.getElem?_eq_some_iff.1 hk).1
              simpa using this
            rw [List.getElem?_range hlt] at hk
            cases hk
            have hs0 : 0 < sz0 := by rcases Nat.eq_zero_or_pos sz0 with e | e
                                     · simp [e] at hlt
                                     · exact e
            have hi : j / sz0 < els.length := Nat.div_lt_of_lt_mul (by rwa [Nat.mul_comm] at hlt)
            have hjj : j % sz0 < (els[j / sz0]).length := by rw [hz _ (List.getElem_mem hi)]; exact Nat.mod_lt _ hs0
            have := hcell (j / sz0) _ (j % sz0) _ (List.getElem?_eq_getElem hi) (List.getElem?_eq_getElem hjj)
            rwa [show j / sz0 * sz0 + j % sz0 = j from by rw [Nat.mul_comm]; exact Nat.div_add_mod j sz0] at this
    · cases hx
      have := hv.sc
      subst this
      exact ⟨[], ⟨by simp, by simp, by simp⟩, .inr ⟨0, rfl, rfl⟩⟩
    · cases hx
      have := hv.sc
      subst this
      exact ⟨[], ⟨by simp, by simp, by simp⟩, .inl ⟨_, _, rfl, by simp⟩⟩
    · cases hx
  | own e sz0 els0 =>
    obtain ⟨rfl, rfl⟩ := ret_ok (C := C) h
    simp only [T.els, Option.some.injEq] at hx
    subst hx
    refine ⟨rfl, ?_⟩
    cases hv with
    | own p v e sz els us ho hr hsz hL hq =>
      refine ⟨us, hr.resize hall, ?_⟩
      rcases ownsRow_form ho with ⟨rfl, hn⟩ | ⟨g, cap, rfl, hn⟩
      · exact .inr ⟨0, rfl, hn⟩
      · exact .inl ⟨_, cap, rfl, ho.cells (g := g) rfl⟩
  | als q k sz0 lo n =>
    simp only [Pv.lend] at h
    obtain ⟨⟨e, sz', els0⟩, σ1, h1, h4⟩ := bind_ok h
    clear h
    obtain ⟨rfl, rfl, v0, hat, ho⟩ := S.rowAt h1
    dsimp only at ho
    obtain ⟨_, σ1, h2, h5⟩ := bind_ok h4
    clear h4
    obtain ⟨hn, rfl⟩ := need_ok h2
    obtain ⟨rfl, rfl⟩ := pure_ok h5
    simp only [Bool.and_eq_true, beq_iff_eq, decide_eq_true_eq] at hn
    obtain ⟨rfl, hn⟩ := hn
    simp only [T.els, Option.some.injEq] at hx
    subst hx
    refine ⟨rfl, ?_⟩
    have hlen : ((els0.drop lo).take n).length = n := by simp; omega
    generalize hp : q.abs fr = p0 at ho
    cases ho with
    | own p0 v0 e sz els us ho hr hsz hL hq =>
      have hh := hq q hv.okq hp
      rw [← hp] at hh
      refine ⟨_, (hr.part lo n hn).resize hall, ?_⟩
      rw [hlen]
      cases hv with
      | alsN p q k sz lo hk' hv' => exact .inr ⟨0, rfl, rfl⟩
      | als p q k sz lo n g c cap cap' hk' hv' hn' hc o hoff =>
        rw [hv'] at hh
        subst hh
        rcases hoff with rfl | ⟨h0, _⟩
        · refine .inl ⟨_, cap', rfl, fun j u hj => ?_⟩
          rw [List.getElem?_take] at hj
          split at hj
          · rw [List.getElem?_drop] at hj
            have := ho.cells (g := g) rfl _ u hj
            rw [add_mid] at this ⊢
            rwa [Nat.zero_add] at this
          · cases hj
        · have : n = 0 := by omega
          subst this
          refine .inl ⟨_, cap', rfl, fun j u hj => ?_⟩
          simp at hj
  | _ => cases h

theorem run_append {t ty e : TypeId} {i : TypeInfo} {z : Value} {d : TypeDesc} (ht : P.underlying t = some (.slice e)) (k : Known P e i z d) {v vy : Value} {n m : Nat} {xs news : List Value} (hown : w.ownsRow B e i.size v n xs)
    (hs : Src w vy m news) (hl : news.length = m * i.size) (h1 : ∀ u ∈ news, u.oneCell' = true) (hby : (n + m) * i.bytes ≤ most) (hB : B ≤ w.heap.size) :
    ∃ v' w', (Builtin.append_ #[t, t] ty #[v, vy]).run P w = .ok v' w' ∧ w'.ownsRow B e i.size v' (n + m) (xs ++ news) ∧ w.grownBy w' v.ownBlock ∧ (v'.ownBlock = v.ownBlock ∨ v'.ownBlock = some w.heap.size) := by
  rcases hs with ⟨a, c, rfl, hcell⟩ | ⟨c, rfl, rfl⟩
  · have hN : n + m ≤ most := Nat.le_trans (Nat.le_mul_of_pos_right _ k.bpos) hby
    obtain ⟨v', w', a1, a2, a3, _, a5⟩ := run_append_own_at (P := P) w B t ty e i z i.size i.bytes ht k.info k.zero rfl rfl k.zsize k.pos v n xs hown a m c news hl hcell h1 (by simp only [most, maxLen] at *; omega) hby hB
    exact ⟨v', w', a1, a2, a3, a5⟩
  · have hn : news = [] := List.eq_nil_of_length_eq_zero (by simpa using hl)
    subst hn
    refine ⟨v, w, ?_, by simpa using hown, World.grownBy.refl w _, .inl rfl⟩
    rcases hown.2 with ⟨rfl, rfl⟩ | ⟨g, cap, cur, rfl, _, _, hnc, _⟩
    · simp [Builtin.append_, run_underlying ht, sizeOf, typeInfo, k.info, Builtin.lenOf, Builtin.firstCells]
    · simp [Builtin.append_, run_underlying ht, sizeOf, typeInfo, k.info, Builtin.lenOf, Builtin.firstCells, hnc, storeCells]

theorem op_append {c : Call} {o : Oper} (ho : o.op = .call c) (hc : c.callee = .builtin .append) (S : Sim B fr G σ act w) (h : (pStep P H o).run C σ = some (.ok (), σ')) (hK : On B fr G w σ' K) : o.wp P act w K Q := by
  simp only [pStep, ho, hc] at h
  split at h
  · rename_i x y t t' hx ht
    have hx := toList_two hx
    have ht := toList_two ht
    obtain ⟨_, σ1, h1, h2⟩ := bind_ok h
    obtain ⟨htt, rfl⟩ := need_ok h1
    have htt : t = t' := by simpa using htt
    subst htt
    simp only [appendD] at h2
    obtain ⟨e, σ1, h3, h4⟩ := bind_ok h2
    obtain ⟨he, rfl⟩ := ofOpt_ok h3
    obtain ⟨hu, hz⟩ := elOf_ok he
    obtain ⟨i, z, td, k⟩ := zOk_ok hz
    obtain ⟨dx, σ1, h5, h6⟩ := bind_ok h4
    obtain ⟨G1, a1, hvx⟩ := S.takeGS 0 h5
    obtain ⟨dy, σ2, h7, h8⟩ := bind_ok h6
    obtain ⟨G2, a2, hvy⟩ := a1.sim.takeGS 1 h7
    have hvx := a2.other (j := 0) (by omega) hvx
    obtain ⟨b, σ3, h9, h10⟩ := bind_ok h8
    obtain ⟨els2, σ4, h11, h12⟩ := bind_ok h10
    obtain ⟨hels, rfl⟩ := ofOpt_ok h11
    obtain ⟨_, σ4, h13, h14⟩ := bind_ok h12
    obtain ⟨hall, rfl⟩ := need_ok h13
    simp only [List.all_eq_true, beq_iff_eq] at hall
    obtain ⟨rfl, news, hrow, hsrc⟩ := a2.sim.lendRow hvy h9 hels hall
    obtain ⟨d, σ4, h15, h16⟩ := bind_ok h14
    obtain ⟨G3, a3, hvd, _⟩ := a2.sim.resolve hvx h15
    have hrow := a3.keep.RTrow hrow
    have st : Step fr G w G3 w := (a1.step.trans a2.step).trans a3.step
    have fin : ∀ {els : List (List T)} {us : List Value}, w.ownsRow B e i.size (act.eval x) els.length us → RTrow G3.sh w (szOf P e) us els → (∀ g, (act.eval x).ownBlock = some g → G3.L g = some (.own (.pn fr 0 []))) →
        (els.length + els2.length) * bytesOf P e ≤ most → (Pv.put H o.dst (.own e (szOf P e) (els ++ els2))).run C σ4 = some (.ok (), σ') → o.wp P act w K Q := by
      intro els us hown hr hL hby hput
      rw [k.by'] at hby
      have hl : news.length = els2.length * i.size := by rw [hrow.len, k.sz]
      obtain ⟨v', w', r1, r2, r3, r4⟩ := run_append (P := P) (ty := o.type) hu k hown hsrc hl (one_of hrow) hby a3.sim.base
      obtain ⟨s1, s2, s3⟩ := a3.sim.grown (i := 0) (b := v'.ownBlock) r3 hL (fun g hg => by
        rcases r4 with h | h
        · exact .inl (by rw [← h]; exact hg)
        · rw [h] at hg
          cases hg
          refine .inr ⟨rfl, ?_⟩
          rcases ownsRow_form r2 with ⟨rfl, _⟩ | ⟨g, cap, rfl, _⟩
          · cases h
          · simp only [Value.ownBlock, Option.some.injEq] at h
            rw [← h]
            exact ownsRow_lt r2 rfl)
      obtain ⟨G5, s5, st5⟩ := s1.put (i := 0) (v := v') (.own _ _ e _ _ (us ++ news) (by rw [List.length_append, k.sz]; exact r2) ((s3.RTrow hr).append (s3.RTrow hrow)) (by rw [k.sz]; exact k.pos)
        (fun g hg => by show (if _ then _ else _) = _; rw [if_pos hg]) (fun q _ e => by cases q <;> cases e)) hput
      unfold Oper.wp
      rw [show (execOp act.eval o).run P w = .ok (.value v') w' from by simp [execOp, ho, hc, hx, ht, Go.resolve, invoke, builtin, r1]]
      exact hK _ _ _ s5 ((st.trans s2).trans st5)
    split at h16
    · obtain ⟨_, σ5, h17, h18⟩ := bind_ok h16
      obtain ⟨hby, rfl⟩ := need_ok h17
      simp only [decide_eq_true_eq] at hby
      have hsc := hvd.sc
      refine fin (els := []) (us := []) (by rw [hsc]; exact World.ownsRow_nil w B e i.size) ⟨by simp, by simp, by simp⟩ (fun g hg => by rw [hsc] at hg; cases hg) (by simpa using hby) h18
    · rename_i e' sz els
      obtain ⟨_, σ5, h17, h18⟩ := bind_ok h16
      obtain ⟨hby, rfl⟩ := need_ok h17
      simp only [Bool.and_eq_true, beq_iff_eq, decide_eq_true_eq] at hby
      obtain ⟨⟨rfl, rfl⟩, hby⟩ := hby
      generalize hxx : act.eval x = vx at hvd
      cases hvd with
      | own p v e sz els us hown hr hsz hL hq =>
        exact fin (us := us) (by rw [hxx, ← k.sz]; exact hown) hr (by rw [hxx]; exact hL) hby h18
    · cases h16
  · cases h
end Go.Pv

/- Bytes to a string. -/
namespace Go.Pv
open Go.RowKit
variable {P : Program} {B fr : Nat} {G : Gh} {σ σ' : St} {act : Act} {w w' : World} {C : Callee} {K : Act → World → Prop} {Q : Exit → Act → World → Prop} {H : Hint}

theorem bytesT_one : ∀ {els : List (List T)} {bs : List UInt8}, bytesT els = some bs → ∀ c ∈ els, c.length = 1 := by
  intro els
  induction els with
  | nil => intro bs _ c hc; cases hc
  | cons e l ih =>
    intro bs h c hc
    unfold bytesT at h
    split at h
    · rename_i heq; cases heq
    · rename_i n l' heq
      cases heq
      simp only [Option.map_eq_some_iff] at h
      obtain ⟨bs', h', _⟩ := h
      rcases List.mem_cons.1 hc with rfl | hc
      · rfl
      · exact ih h' c hc
    · cases h
theorem isBytes_ok {t : TypeId} (h : isBytes P t = true) : ∃ e, P.underlying t = some (.slice e) ∧ P.underlying e = some (.int .u8) := by
  unfold isBytes at h
  split at h
  · rename_i e he
    refine ⟨e, he, ?_⟩
    split at h
    · assumption
    · cases h
  · cases h
theorem bytesT_vals : ∀ {els : List (List T)} {bs : List UInt8} {ok : Nat → Prop} {news : List Value}, bytesT els = some bs → RTrow ok w 1 news els →
    ∃ ns : List Int, news = ns.map (Value.int .u8) ∧ bs = ns.map fun n => UInt8.ofNat n.toNat := by
  intro els
  induction els with
  | nil =>
    intro bs ok news h hr
    have : news = [] := List.eq_nil_of_length_eq_zero (by simpa using hr.len)
    subst this
    simp only [bytesT, Option.some.injEq] at h
    subst h
    exact ⟨[], rfl, rfl⟩
  | cons e l ih =>
    intro bs ok news h hr
    unfold bytesT at h
    split at h
    · rename_i heq; cases heq
    · rename_i n l' heq
      cases heq
      simp only [Option.map_eq_some_iff] at h
      obtain ⟨bs', h', rfl⟩ := h
      cases news with
      | nil => have := hr.len; simp at this
      | cons u news =>
        obtain ⟨u0, hu0, hrt⟩ := hr.cell 0 _ 0 _ rfl rfl
        simp at hu0
        subst hu0
        have hu : u = .int .u8 n := by cases hrt; rfl
        subst hu
        obtain ⟨ns, e1, e2⟩ := ih (news := news) h' ⟨by have := hr.len; simp at this ⊢; omega, fun c hc => hr.each c (List.mem_cons_of_mem _ hc), fun i c j x hi hj => by
          have hj0 : j = 0 := by
            have := hr.each c (List.mem_cons_of_mem _ (List.mem_of_getElem? hi))
            have := (List.getElem?_eq_some_iff.1 hj).1
            omega
          subst hj0
          obtain ⟨u, hu, hh⟩ := hr.cell (i + 1) c 0 x (by simpa using hi) hj
          exact ⟨u, by simpa using hu, hh⟩⟩
        exact ⟨n :: ns, by rw [e1]; rfl, by rw [e2]; rfl⟩
    · cases h
theorem foldl_push (ns : List Int) (b : ByteArray) : ns.foldl (fun r n => r.push (UInt8.ofNat n.toNat)) b = ⟨(b.data.toList ++ ns.map fun n => UInt8.ofNat n.toNat).toArray⟩ := by
  induction ns generalizing b with
  | nil => simp
  | cons n ns ih =>
    rw [List.foldl_cons, ih]
    simp [ByteArray.push]
theorem run_bytes {els : List (List T)} {bs : List UInt8} {ok : Nat → Prop} {news : List Value} {v : Value} (h : bytesT els = some bs) (hr : RTrow ok w 1 news els) (hs : Src w v els.length news) :
    (Conv.bytesToString v).run P w = .ok (.string ⟨bs.toArray⟩) w := by
  obtain ⟨ns, rfl, rfl⟩ := bytesT_vals h hr
  rcases hs with ⟨a, c, rfl, hc⟩ | ⟨c, rfl, h0⟩
  · have hl : els.length = (ns.map (Value.int .u8)).length := by have := hr.len; omega
    rw [hl]
    rw [run_bytesToString w a _ c ns (run_loadCells_list w a _ hc), foldl_push]
    rfl
  · have : ns = [] := by have := hr.len; rw [h0] at this; simpa using this
    subst this
    rfl
theorem op_convert {src dst : TypeId} {x : Operand} {o : Oper} (ho : o.op = .convert src dst x) (S : Sim B fr G σ act w) (h : (pStep P H o).run C σ = some (.ok (), σ')) (hK : On B fr G w σ' K) : o.wp P act w K Q := by
  simp only [pStep, ho, convD] at h
  obtain ⟨d, σ1, h1, h2⟩ := bind_ok h
  obtain ⟨G1, S1, st, p, hv⟩ := S.rdS h1
  split at h2
  · obtain ⟨k, σ2, h3, h4⟩ := bind_ok h2
    obtain ⟨hk, rfl⟩ := ofOpt_ok h3
    obtain ⟨_, σ2, h5, h6⟩ := bind_ok h4
    obtain ⟨hs, rfl⟩ := need_ok h5
    have he := hv.sc
    refine wp_free S1 (VD.scal (p := .pn fr 0 []) rfl) rfl h6 ?_ (hK.after st)
    unfold intOfT at hk hs
    split at hk
    · rename_i k' hd
      cases hk
      split at hs
      · rename_i k2 hs'
        simp [execOp, ho, convert, run_underlying hd, run_underlying hs', he, Conv.intToInt]
      · cases hs
    · cases hk
  · obtain ⟨_, σ2, h3, h4⟩ := bind_ok h2
    obtain ⟨hk, rfl⟩ := need_ok h3
    simp only [Bool.and_eq_true] at hk
    have he := hv.sc
    refine wp_free S1 (VD.scal (p := .pn fr 0 []) rfl) rfl h4 ?_ (hK.after st)
    simp [execOp, ho, convert, run_underlying (isStr_ok hk.1), run_underlying (isStr_ok hk.2), he]
  · obtain ⟨_, σ2, h3, h4⟩ := bind_ok h2
    obtain ⟨hk, rfl⟩ := need_ok h3
    simp only [Bool.and_eq_true] at hk
    obtain ⟨y, σ2, h5, h6⟩ := bind_ok h4
    obtain ⟨els, σ3, h7, h8⟩ := bind_ok h6
    obtain ⟨hel, rfl⟩ := ofOpt_ok h7
    obtain ⟨bs, σ3, h9, h10⟩ := bind_ok h8
    obtain ⟨hbs, rfl⟩ := ofOpt_ok h9
    obtain ⟨rfl, news, hr, hsrc⟩ := S1.lendRow (sz := 1) hv h5 hel (bytesT_one hbs)
    obtain ⟨e, hsl, hu8⟩ := isBytes_ok hk.2
    refine wp_free S1 (VD.scal (p := .pn fr 0 []) rfl) rfl h10 ?_ (hK.after st)
    have hrun := run_bytes (P := P) hbs hr hsrc
    have hcv : (convert src dst (act.eval x)).run P w = .ok (.string ⟨bs.toArray⟩) w := by
      rcases hsrc with ⟨a, c, he, _⟩ | ⟨c, he, _⟩ <;> rw [he] at hrun ⊢ <;>
        simp [convert, run_underlying hsl, run_underlying (isStr_ok hk.1), run_underlying hu8, hrun]
    simp [execOp, ho, hcv]

end Go.Pv
