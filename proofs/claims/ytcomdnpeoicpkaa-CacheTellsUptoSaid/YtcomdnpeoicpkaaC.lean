/- A part of the road: the interpreter of plain data and the proof that it is right. -/
import Derived.Test.YtcomdnpeoicpkaaB
import Derived.Orders
/- Code. -/
namespace Go.Pv
open Go.RowKit
variable {P : Program} {B fr : Nat} {G : Gh} {σ σ' : St} {act : Act} {w w' : World} {C : Callee} {K : Act → World → Prop} {Q : Exit → Act → World → Prop} {H : Hint} {ops : Array Oper} {keep : List Nat}

/-- A region that draws its order does what the text's order does. -/
def DrawOk (P : Program) (C : Callee) : Prop :=
  ∀ {H : Hint} {B fr : Nat} {G : Gh} {σ σ' : St} {act : Act} {w : World} {Q : Exit → Act → World → Prop} {ops : Array Oper} {trs : List Tr} (id : Nat), Sim B fr G σ act w → runTr P H C ops ops.toList σ = some (trs, σ') → orderly ops trs = true →
    On B fr G w (σ'.over.seam H) (Q .normal) → (Code.region id ops true).wp P Q act w

def exitOf : Out → Exit
  | .exit id => .exit id
  | .ret => .ret
  | _ => .normal
theorem exec_out {k : Nat} {c : Code} {out : Out} (h : exec P H C k c σ = some (out, σ')) : ∀ x, out ≠ .panic x := by
  induction k generalizing c σ out σ' with
  | zero => simp [exec] at h
  | succ k ih =>
    intro x e
    subst e
    cases c with
    | skip => simp [exec] at h
    | region id ops d =>
      cases d with
      | false =>
        simp only [exec, Option.map_eq_some_iff] at h
        obtain ⟨⟨o, s⟩, h1, h2⟩ := h
        have := runOps_normal h1
        subst this
        cases h2
      | true =>
        simp only [exec] at h
        split at h
        · split at h <;> cases h
        · cases h
    | seq a b =>
      simp only [exec] at h
      split at h
      · exact ih h x rfl
      · exact ih h x rfl
    | cond c a b =>
      simp only [exec] at h
      split at h
      · split at h
        · exact ih h x rfl
        · cases h
      · cases h
    | block id c =>
      simp only [exec] at h
      split at h
      · split at h <;> cases h
      · exact ih h x rfl
    | loop c =>
      simp only [exec] at h
      split at h
      · exact ih h x rfl
      · rename_i o s1 hn h1
        simp only [Option.some.injEq, Prod.mk.injEq] at h
        obtain ⟨rfl, _⟩ := h
        exact ih h1 x rfl
      · cases h
    | exit id => simp [exec] at h
    | ret => simp [exec] at h
    | label l => simp [exec] at h
    | _ => simp [exec] at h

theorem exists_least {p : Nat → Prop} (h : ∃ n, p n) : ∃ n, p n ∧ ∀ m, p m → n ≤ m := by
  obtain ⟨n, hn⟩ := h
  induction n using Nat.strongRecOn with
  | ind n ih =>
    by_cases hm : ∃ m, m < n ∧ p m
    · obtain ⟨m, hlt, hp⟩ := hm
      exact ih m hlt hp
    · exact ⟨n, hn, fun m hp => Nat.le_of_not_lt fun hlt => hm ⟨m, hlt, hp⟩⟩
theorem exec_wp (hC : Good P C) (hD : DrawOk P C) : ∀ (k : Nat) (c : Code) {out : Out} {σ σ' : St} {G : Gh} {act : Act} {w : World} {Q : Exit → Act → World → Prop}, exec P H C k c σ = some (out, σ') → Sim B fr G σ act w → On B fr G w σ' (Q (exitOf out)) → c.wp P Q act w := by
  intro k
  induction k using Nat.strongRecOn with
  | ind k IH =>
  intro c out σ σ' G act w Q h S hK
  cases k with
  | zero => simp [exec] at h
  | succ k =>
    have ih : ∀ (c : Code) {out : Out} {σ σ' : St} {G : Gh} {act : Act} {w : World} {Q : Exit → Act → World → Prop}, exec P H C k c σ = some (out, σ') → Sim B fr G σ act w → On B fr G w σ' (Q (exitOf out)) → c.wp P Q act w := IH k (Nat.lt_succ_self k)
    cases c with
    | skip =>
      simp only [exec, Option.some.injEq, Prod.mk.injEq] at h
      obtain ⟨rfl, rfl⟩ := h
      exact Go.wp_skip (hK _ _ _ S (.refl _ _ _))
    | region id ops d =>
      cases d with
      | false =>
        simp only [exec, Option.map_eq_some_iff] at h
        obtain ⟨⟨o, s⟩, h1, h2⟩ := h
        have := runOps_normal h1
        subst this
        cases h2
        exact region_wp hC S h1 hK
      | true =>
        simp only [exec] at h
        split at h
        · rename_i trs σ1 h1
          split at h
          · rename_i ho
            cases h
            exact hD id S h1 ho hK
          · cases h
        · cases h
    | seq a b =>
      simp only [exec] at h
      split at h
      · rename_i σ1 h1
        refine wp_seq (ih a h1 S fun G1 a1 w1 S1 st1 => ih b h S1 (hK.after st1))
      · rename_i hn
        refine wp_seq (ih a h S fun G1 a1 w1 S1 st1 => ?_)
        have hq := hK G1 a1 w1 S1 st1
        cases out with
        | normal => exact absurd h (hn σ')
        | panic x => exact absurd rfl (exec_out h x)
        | exit id => exact hq
        | ret => exact hq
    | cond c a b =>
      simp only [exec] at h
      split at h
      · rename_i d σ1 h1
        obtain ⟨rfl, p, hv⟩ := S.rd h1
        split at h
        · rename_i b' hb
          have := bool?_ok hb
          subst this
          exact wp_cond hv.sc (ih _ h S hK)
        · cases h
      · cases h
    | block id c =>
      simp only [exec] at h
      split at h
      · rename_i i σ1 h1
        refine wp_block (ih c h1 S fun G1 a1 w1 S1 st1 => ?_)
        show if i = id then _ else _
        split at h
        · rename_i e
          cases h
          rw [if_pos e]
          exact hK G1 a1 w1 S1 st1
        · rename_i e
          cases h
          rw [if_neg e]
          exact hK G1 a1 w1 S1 st1
      · rename_i hn
        refine wp_block (ih c h S fun G1 a1 w1 S1 st1 => ?_)
        have hq := hK G1 a1 w1 S1 st1
        cases out with
        | normal => exact hq
        | panic x => exact absurd rfl (exec_out h x)
        | exit i => exact absurd h (hn i σ')
        | ret => exact hq
    | loop c =>
      let J : Nat → Act → World → Prop := fun k' a' w' => k' ≤ k + 1 ∧ ∃ G1 σ1, exec P H C k' (.loop c) σ1 = some (out, σ') ∧ Sim B fr G1 σ1 a' w' ∧ Step fr G w G1 w'
      classical
      refine wp_loop (fun a' w' => ∃ k', J k' a' w') (fun a' w' => if h : ∃ k', J k' a' w' then (exists_least h).choose else 0) ⟨k + 1, Nat.le_refl _, G, σ, h, S, .refl _ _ _⟩ fun a' w' hJ => ?_
      obtain ⟨hle, G1, σ1, h1, S1, st1⟩ := (exists_least hJ).choose_spec.1
      have hmin : ∀ m a2 w2, J m a2 w2 → m < (exists_least hJ).choose → (∃ k', J k' a2 w2) ∧ (if h : ∃ k', J k' a2 w2 then (exists_least h).choose else 0) < (if h : ∃ k', J k' a' w' then (exists_least h).choose else 0) := fun m a2 w2 hm hlt => by
        refine ⟨⟨m, hm⟩, ?_⟩
        rw [dif_pos ⟨m, hm⟩, dif_pos hJ]
        exact Nat.lt_of_le_of_lt ((exists_least ⟨m, hm⟩).choose_spec.2 m hm) hlt
      generalize hkk : (exists_least hJ).choose = kk at hle h1 hmin
      cases kk with
      | zero => simp [exec] at h1
      | succ kk =>
        simp only [exec] at h1
        obtain ⟨S2, st2⟩ := S1.norm (keep := H.at c)
        split at h1
        · rename_i σ2 h2
          refine IH kk (by omega) c h2 S2 fun G3 a3 w3 S3 st3 => ?_
          exact hmin kk a3 w3 ⟨by omega, G3, σ2, h1, S3, (st1.trans st2).trans st3⟩ (Nat.lt_succ_self _)
        · rename_i o σ2 hn h2
          simp only [Option.some.injEq, Prod.mk.injEq] at h1
          obtain ⟨rfl, rfl⟩ := h1
          refine IH kk (by omega) c h2 S2 fun G3 a3 w3 S3 st3 => ?_
          obtain ⟨S4, st4⟩ := S3.norm (keep := H.outAt c)
          have hq := hK _ a3 w3 S4 (((st1.trans st2).trans st3).trans st4)
          cases o with
          | normal => exact (hn rfl).elim
          | panic x => exact absurd rfl (exec_out h2 x)
          | exit i => exact hq
          | ret => exact hq
        · cases h1
    | exit id =>
      simp only [exec, Option.some.injEq, Prod.mk.injEq] at h
      obtain ⟨rfl, rfl⟩ := h
      exact wp_exit (hK _ _ _ S (.refl _ _ _))
    | ret =>
      simp only [exec, Option.some.injEq, Prod.mk.injEq] at h
      obtain ⟨rfl, rfl⟩ := h
      exact wp_ret (hK _ _ _ S (.refl _ _ _))
    | label l =>
      simp only [exec, Option.some.injEq, Prod.mk.injEq] at h
      obtain ⟨rfl, rfl⟩ := h
      exact wp_label (hK _ _ _ S (.refl _ _ _))
    | _ => simp [exec] at h
end Go.Pv

/- A frame is left by its function's end. -/
namespace Go.Pv
open Go.RowKit
variable {P : Program} {B fr : Nat} {G : Gh} {σ σ' : St} {act : Act} {w w' : World} {C : Callee} {K : Act → World → Prop} {Q : Exit → Act → World → Prop} {H : Hint} {ops : Array Oper} {keep : List Nat}

/-- Tags behind a function's end: results' rows are on their way as number 0; rows in its boxes are shared. -/
def exT (n : Nat) (ix : Nat → Option (Option (List Nat))) (ib : Nat → Option (List Nat)) : Tag → Option Tag
  | .own (.tm f t r) => if f = n then (match ix t with | some (some l) => some (.own (.pn n 0 (l ++ r))) | some none => none | none => some (.own (.tm f t r))) else some (.own (.tm f t r))
  | .own (.bc f s o) => if f = n then (match ib s with | some l => some (.own (.pn n 0 (l ++ [o]))) | none => none) else some (.own (.bc f s o))
  | τ => some τ
def Gh.exit (G : Gh) (n : Nat) (ix : Nat → Option (Option (List Nat))) (ib : Nat → Option (List Nat)) : Gh := { G with L := fun g => (G.L g).bind (exT n ix ib), al := fun f s => G.al f s ∧ f < n }
theorem exit_none {n : Nat} {ix : Nat → Option (Option (List Nat))} {ib : Nat → Option (List Nat)} {g : Nat} (h : G.L g = none) : (G.exit n ix ib).L g = none := by
  show (G.L g).bind _ = none
  rw [h]; rfl
theorem VD.exitCell {ix : Nat → Option (Option (List Nat))} {ib : Nat → Option (List Nat)} {f s o : Nat} {v : Value} {d : D} (h : VD B fr G vr0 w (.bc f s o) v d) (hf : f < fr) (hb : d.bare = true) (ho : d.outer = true) : VD B fr (G.exit fr ix ib) vr0 w (.bc f s o) v d := by
  have hrt : ∀ b, G.sh b → b < w.heap.size → (G.exit fr ix ib).sh b ∧ w.heap[b]? = w.heap[b]? := fun b hb _ => ⟨exit_none hb, rfl⟩
  have htag : ∀ g, G.L g = some (.own (.bc f s o)) → (G.exit fr ix ib).L g = some (.own (.bc f s o)) := fun g h => by
    show (G.L g).bind _ = _
    rw [h]
    exact if_neg (by omega)
  cases h with
  | t p v x h => exact .t _ v x (h.mono hrt)
  | own p v e sz els us how hr hsz hL hq => exact .own _ v e sz els us how (hr.mono hrt) hsz (fun g hg => htag g (hL g hg)) hq
  | omap p g es clock kvs hg hm hB hL hq => exact .omap _ g es clock kvs hg hm hB (htag g hL) hq
  | fp p f' s' o' hf' ha => exact .fp (G := G.exit fr ix ib) _ f' s' o' hf' ⟨ha, hf'⟩
  | clo p f' us ds hs hno h =>
    refine .clo _ f' us ds hs hno fun j u d hu hd => ?_
    have h1 := h j u d hu hd
    have hpt := List.all_eq_true.1 hno d (List.mem_of_getElem? hd)
    have ho' := List.all_eq_true.1 ho d (List.mem_of_getElem? hd)
    cases d with
    | fp f2 s2 o2 =>
      cases h1 with
      | fp p f' s' o' hf' ha => exact .fp (G := G.exit fr ix ib) _ f2 s2 o2 hf' ⟨ha, hf'⟩
    | lp => cases ho'
    | _ => cases hpt
  | dead => exact .dead _ _
  | lp => cases ho
  | _ => cases hb
theorem Sim.exit {ix : Nat → Option (Option (List Nat))} {ib : Nat → Option (List Nat)} (S : Sim B fr G σ act w) (hv : σ.verAt = vr0) (ho : σ.fr.all (fun b => b.all fun c => c.all D.outer) = true) : FrS B (G.exit fr ix ib) σ.fr w := by
  unfold FrS
  rw [S.frl]
  refine ⟨rfl, fun t d hd => by simp at hd, fun s c hc => by simp at hc, ⟨fun s _ h => Nat.lt_irrefl _ h.2, fun f b hb s hs h => S.bxn.2 f b hb s hs h.1⟩, fun f b hb s c hc hne => ?_, S.frl, fun f s hf h => S.alf f s hf h.1, fun f s h => ?_, fun g τ h => ?_, S.base, rfl⟩
  · have hlt : f < fr := by rw [← S.frl]; exact (List.getElem?_eq_some_iff.1 hb).1
    have hout : ∀ d ∈ c, d.outer = true := fun d hd => by
      have h1 := List.all_eq_true.1 ho b (List.mem_of_getElem? hb)
      have h2 := List.all_eq_true.1 h1 c (List.mem_of_getElem? hc)
      exact List.all_eq_true.1 h2 d hd
    obtain ⟨a, t, hbare, us, T, hg, hs, h1, hvd⟩ := S.frs f b hb s c hc hne
    rw [hv] at hvd
    refine ⟨⟨a, hlt⟩, ?_, hbare, us, T, hg, hs, h1, fun o u d hu hd => ?_⟩
    · show (G.L (G.hb f s)).bind _ = _
      rw [t]; rfl
    · rw [verAt_FrS]
      exact (hvd o u d hu hd).exitCell hlt (hbare d (List.mem_of_getElem? hd)) (hout d (List.mem_of_getElem? hd))
  · show (G.L (G.hb f s)).bind _ = _
    rw [S.alt f s h.1]; rfl
  · have h : (G.L g).bind _ = some τ := h
    cases hg : G.L g with
    | none => rw [hg] at h; cases h
    | some τ' =>
      rw [hg] at h
      obtain ⟨h1, h2⟩ := S.old g τ' hg
      refine ⟨h1, h2.imp (fun e => ?_) id⟩
      subst e
      cases h; rfl
theorem Step.exit {ix : Nat → Option (Option (List Nat))} {ib : Nat → Option (List Nat)} : Step fr G w (G.exit fr ix ib) w := by
  refine ⟨rfl, rfl, rfl, Nat.le_refl _, fun _ _ h => ⟨exit_none h, rfl⟩, fun g h => ⟨?_, rfl⟩, fun g p f h hf hl => ⟨?_, rfl⟩, fun f s hf h => ⟨⟨h, hf⟩, rfl⟩⟩
  · show (G.L g).bind _ = _
    rw [h]; rfl
  · show (G.L g).bind _ = _
    rw [h]
    cases p with
    | tm f' t r =>
      simp only [Ap.frame, Option.some.injEq] at hf
      exact if_neg (by omega)
    | bc => cases hf
    | pn => rfl
/-- A result in a slot. -/
theorem VD.exitTm {ix : Nat → Option (Option (List Nat))} {ib : Nat → Option (List Nat)} {p : Ap} {v : Value} {d : D} (h : VD B fr G vr0 w p v d) : d.outOk = true → ∀ t r l, p = .tm fr t r → ix t = some (some l) → VD B fr (G.exit fr ix ib) vr0 w (.pn fr 0 (l ++ r)) v d := by
  have hrt : ∀ b, G.sh b → b < w.heap.size → (G.exit fr ix ib).sh b ∧ w.heap[b]? = w.heap[b]? := fun b hb _ => ⟨exit_none hb, rfl⟩
  have htag : ∀ {g t r l}, G.L g = some (.own (.tm fr t r)) → ix t = some (some l) → (G.exit fr ix ib).L g = some (.own (.pn fr 0 (l ++ r))) := fun {g t r l} h hl => by
    show (G.L g).bind _ = _
    rw [h]
    show (if _ then _ else _) = _
    rw [if_pos rfl, hl]
  induction h with
  | t p v x h => exact fun _ _ _ _ _ _ => .t _ v x (h.mono hrt)
  | agg p us ds hs h1 h ih => exact fun ho t r l e hl => .agg _ us _ hs h1 fun j u d hu hd => by
                                have := ih j u d hu hd (outOkL_at ho hd) t (r ++ [j]) l (by rw [e]; rfl) hl
                                rwa [← List.append_assoc] at this
  | tup p us ds hs h ih => exact fun ho t r l e hl => .tup _ us _ hs fun j u d hu hd => by
                             have := ih j u d hu hd (outOkL_at ho hd) t (r ++ [j]) l (by rw [e]; rfl) hl
                             rwa [← List.append_assoc] at this
  | own p v e sz els us ho hr hsz hL hq =>
    intro _ t r l ep hl
    subst ep
    exact .own _ v e sz els us ho (hr.mono hrt) hsz (fun g hg => htag (hL g hg) hl) (fun q _ e => by cases q <;> cases e)
  | omap p g es clock kvs hg hm hB hL hq =>
    intro _ t r l ep hl
    subst ep
    exact .omap _ g es clock kvs hg hm hB (htag hL hl) (fun q _ e => by cases q <;> cases e)
  | fp p f s o hf ha => exact fun _ _ _ _ _ _ => .fp (G := G.exit fr ix ib) _ f s o hf ⟨ha, hf⟩
  | _ => exact fun ho => by cases ho
theorem getElem?_commonL (ds : List D) (i : Nat) : (commonL ds)[i]? = (ds[i]?).map D.common := by
  induction ds generalizing i with
  | nil => rfl
  | cons d ds ih => cases i with
    | zero => rfl
    | succ i => exact ih i
theorem length_commonL (ds : List D) : (commonL ds).length = ds.length := by induction ds with
  | nil => rfl
  | cons d ds ih => simp [commonL, ih]
theorem common_own : ∀ d : D, d.common.hasOwn = false
  | .agg ds => common_ownL ds
  | .tup ds => common_ownL ds
  | .t _ | .own _ _ _ | .omap _ | .als _ _ _ _ _ | .mal _ _ | .ept _ _ _ _ _ | .lp _ _ | .fp _ _ _ | .clo _ _ | .dead => rfl
where common_ownL : ∀ ds : List D, hasOwnL (commonL ds) = false
  | [] => rfl
  | d :: ds => by simp only [commonL, hasOwnL, common_own d, common_ownL ds, Bool.or_self]
theorem scrub_common : ∀ d : D, d.common.outOk = true → scrub d = d
  | .agg ds, h => congrArg D.agg (scrub_commonL ds h)
  | .tup ds, h => congrArg D.tup (scrub_commonL ds h)
  | .t _, _ | .own _ _ _, _ | .omap _, _ | .lp _ _, _ | .fp _ _ _, _ | .clo _ _, _ | .dead, _ => rfl
  | .als _ _ _ _ _, h | .mal _ _, h | .ept _ _ _ _ _, h => by cases h
where scrub_commonL : ∀ ds : List D, outOkL (commonL ds) = true → scrubL ds = ds
  | [], _ => rfl
  | d :: ds, h => by
    simp only [commonL, outOkL, Bool.and_eq_true] at h
    simp only [scrubL, scrub_common d h.1, scrub_commonL ds h.2]
/-- A result in a slot, that is shared from now on. -/
theorem VD.exitCommon {ix : Nat → Option (Option (List Nat))} {ib : Nat → Option (List Nat)} {p : Ap} {v : Value} {d : D} (h : VD B fr G vr0 w p v d) : d.common.outOk = true → ∀ t r, p = .tm fr t r → ix t = some none → ∀ p', VD B fr (G.exit fr ix ib) vr0 w p' v d.common := by
  have hrt : ∀ b, G.sh b → b < w.heap.size → (G.exit fr ix ib).sh b ∧ w.heap[b]? = w.heap[b]? := fun b hb _ => ⟨exit_none hb, rfl⟩
  induction h with
  | t p v x h => exact fun _ _ _ _ _ _ => .t _ v x (h.mono hrt)
  | agg p us ds hs h1 h ih => exact fun ho t r e hl p' => .agg _ us _ (by rw [length_commonL]; exact hs) h1 fun j u d hu hd => by
                                have hd' := hd
                                rw [getElem?_commonL, Option.map_eq_some_iff] at hd
                                obtain ⟨d0, hd0, rfl⟩ := hd
                                exact ih j u d0 hu hd0 (outOkL_at ho hd') t (r ++ [j]) (by rw [e]; rfl) hl _
  | tup p us ds hs h ih => exact fun ho t r e hl p' => .tup _ us _ (by rw [length_commonL]; exact hs) fun j u d hu hd => by
                             have hd' := hd
                             rw [getElem?_commonL, Option.map_eq_some_iff] at hd
                             obtain ⟨d0, hd0, rfl⟩ := hd
                             exact ih j u d0 hu hd0 (outOkL_at ho hd') t (r ++ [j]) (by rw [e]; rfl) hl _
  | own p v e sz els us ho hr hsz hL hq =>
    intro _ t r ep hl p'
    have h0 : VD B fr G vr0 w p v (.own e sz els) := .own p v e sz els us ho hr hsz hL hq
    refine .t _ _ _ (h0.toT (fun b hb => exit_none hb) fun g hg => ?_)
    show (G.L g).bind _ = none
    rw [h0.ownTag g hg, ep]
    show (if _ then _ else _) = _
    rw [if_pos rfl, hl]
  | fp p f s o hf ha => exact fun _ _ _ _ _ _ => .fp (G := G.exit fr ix ib) _ f s o hf ⟨ha, hf⟩
  | _ => exact fun ho => by cases ho
/-- A result's cell in a box. -/
theorem VD.exitBox {ix : Nat → Option (Option (List Nat))} {ib : Nat → Option (List Nat)} {s o : Nat} {v : Value} {d : D} (h : VD B fr G vr0 w (.bc fr s o) v d) (hb : d.bare = true) (ho : d.shared.outOk = true) (hi : ib s = none) (p : Ap) : VD B fr (G.exit fr ix ib) vr0 w p v d.shared ∧ d.shared.hasOwn = false := by
  have hrt : ∀ b, G.sh b → b < w.heap.size → (G.exit fr ix ib).sh b ∧ w.heap[b]? = w.heap[b]? := fun b hb _ => ⟨exit_none hb, rfl⟩
  cases d with
  | t x =>
    cases h with
    | t p v x h => exact ⟨.t _ v x (h.mono hrt), rfl⟩
  | own e sz els =>
    refine ⟨.t _ _ _ (h.toT (fun b hb => exit_none hb) fun g hg => ?_), rfl⟩
    show (G.L g).bind _ = none
    rw [h.ownTag g hg]
    show (if _ then _ else _) = _
    rw [if_pos rfl, hi]
  | fp f s o =>
    cases h with
    | fp p f s o hf ha => exact ⟨.fp (G := G.exit fr ix ib) _ f s o hf ⟨ha, hf⟩, rfl⟩
  | agg => cases hb
  | tup => cases hb
  | _ => cases ho
/-- A result's cell in a box, that keeps what it owns. -/
theorem VD.exitKept {ix : Nat → Option (Option (List Nat))} {ib : Nat → Option (List Nat)} {s o : Nat} {l : List Nat} {v : Value} {d : D} (h : VD B fr G vr0 w (.bc fr s o) v d) (hb : d.bare = true) (ho : d.outOk = true) (hi : ib s = some l) : VD B fr (G.exit fr ix ib) vr0 w (.pn fr 0 (l ++ [o])) v d := by
  have hrt : ∀ b, G.sh b → b < w.heap.size → (G.exit fr ix ib).sh b ∧ w.heap[b]? = w.heap[b]? := fun b hb _ => ⟨exit_none hb, rfl⟩
  have htag : ∀ {g}, G.L g = some (.own (.bc fr s o)) → (G.exit fr ix ib).L g = some (.own (.pn fr 0 (l ++ [o]))) := fun {g} h => by
    show (G.L g).bind _ = _
    rw [h]
    show (if _ then _ else _) = _
    rw [if_pos rfl, hi]
  cases h with
  | t p v x h => exact .t _ v x (h.mono hrt)
  | own p v e sz els us how hr hsz hL hq => exact .own _ v e sz els us how (hr.mono hrt) hsz (fun g hg => htag (hL g hg)) (fun q _ e => by cases q <;> cases e)
  | omap p g es clock kvs hg hm hB hL hq => exact .omap _ g es clock kvs hg hm hB (htag hL) (fun q _ e => by cases q <;> cases e)
  | fp p f s o hf ha => exact .fp (G := G.exit fr ix ib) _ f s o hf ⟨ha, hf⟩
  | agg => cases hb
  | tup => cases hb
  | _ => cases ho
end Go.Pv

/- Functions. -/
namespace Go.Pv
open Go.RowKit
variable {P : Program} {B fr : Nat} {G : Gh} {σ σ' : St} {act : Act} {w w' : World} {C : Callee} {K : Act → World → Prop} {Q : Exit → Act → World → Prop} {H : Hint} {ops : Array Oper} {keep : List Nat}

/-- What the machine reads as a result. -/
def resRun (act : Act) : ResultVar → Sem Value
  | .tmp t => pure (act.tmps.getD t undef)
  | .cell a t => do loadVar t (← asAddr (act.tmps.getD a undef))
theorem run_loadVar_cells {ty : TypeId} {b o : Nat} {us : List Value} (hz : zOk P ty = true) (hl : us.length = szOf P ty) (hc : ∀ (j : Nat) u, us[j]? = some u → w.cell? ⟨b, o + j, none⟩ = some u) :
    (aggT P ty = true → (loadVar ty ⟨b, o, none⟩).run P w = .ok (.agg us.toArray) w) ∧ (aggT P ty = false → ∀ u, us = [u] → (loadVar ty ⟨b, o, none⟩).run P w = .ok u w) := by
  refine ⟨fun ha => ?_, fun ha u hu => ?_⟩
  · have := run_loadCells_list (P := P) w ⟨b, o, none⟩ us (fun j u hj => by rw [add_mid]; exact hc j u hj)
    rw [hl] at this
    simp [loadVar, aggT_run hz, ha, zOk_size hz, this]
  · subst hu
    have := hc 0 u rfl
    simp only [Nat.add_zero] at this
    simp [loadVar, aggT_run hz, ha, this]

/-- One result: out of a slot, or out of a box. -/
def OneRes (B fr : Nat) (G : Gh) (σ : St) (act : Act) (w : World) (shr : List Nat) (ix : Nat → Option (Option (List Nat))) (ib : Nat → Option (List Nat)) (last : Bool) (x : ResultVar) (v : Value) (d : D) : Prop :=
  (∃ t, x = .tmp t ∧ shr.contains t = false ∧ v = act.tmps.getD t undef ∧ d = σ.tm.getD t .dead) ∨ (d.hasOwn = false ∧ ∀ p, VD B fr (G.exit fr ix ib) vr0 w p v d) ∨
  (last = true ∧ ∃ s, shr.contains (s + 4096) = true ∧ ∀ l, ib s = some l → VD B fr (G.exit fr ix ib) vr0 w (.pn fr 0 l) v d)
theorem Sim.resOf {ix : Nat → Option (Option (List Nat))} {ib : Nat → Option (List Nat)} {l : List ResultVar} {ds : List D} (S : Sim B fr G σ act w) {shr : List Nat} (hix : ∀ t, shr.contains t = true → ix t = some none) (hib : ∀ s, shr.contains (s + 4096) = false → ib s = none) (hver : σ.verAt = vr0) (h : resOf P shr l σ = some ds) (hout : outOkL ds = true) :
    ∃ vs, (l.mapM (resRun act)).run P w = .ok vs w ∧ vs.length = l.length ∧ ds.length = l.length ∧ ∀ (j : Nat) x v d, l[j]? = some x → vs[j]? = some v → ds[j]? = some d → OneRes B fr G σ act w shr ix ib (decide (j + 1 = l.length)) x v d := by
  induction l generalizing ds with
  | nil =>
    simp only [Pv.resOf, Option.some.injEq] at h
    subst h
    exact ⟨[], by simp, rfl, rfl, by simp⟩
  | cons x l ih =>
    have step : ∀ {d0 ds' v0}, ds = d0 :: ds' → Pv.resOf P shr l σ = some ds' → (resRun act x).run P w = .ok v0 w → OneRes B fr G σ act w shr ix ib (decide (0 + 1 = (x :: l).length)) x v0 d0 →
        ∃ vs, ((x :: l).mapM (resRun act)).run P w = .ok vs w ∧ vs.length = (x :: l).length ∧ ds.length = (x :: l).length ∧ ∀ (j : Nat) y v d, (x :: l)[j]? = some y → vs[j]? = some v → ds[j]? = some d → OneRes B fr G σ act w shr ix ib (decide (j + 1 = (x :: l).length)) y v d := by
      intro d0 ds' v0 e h' hr ho
      subst e
      simp only [outOkL, Bool.and_eq_true] at hout
      obtain ⟨vs, h1, h2, h3, h4⟩ := ih h' hout.2
      refine ⟨v0 :: vs, by simp [List.mapM_cons, hr, h1], by simp [h2], by simp [h3], fun j y v d hy hv hd => ?_⟩
      cases j with
      | zero => cases hy; cases hv; cases hd; exact ho
      | succ j =>
        have := h4 j y v d hy hv hd
        simpa using this
    cases x with
    | tmp t =>
      simp only [Pv.resOf, Option.map_eq_some_iff] at h
      obtain ⟨ds', h', rfl⟩ := h
      by_cases hc : shr.contains t = true
      · rw [if_pos hc] at hout
        simp only [outOkL, Bool.and_eq_true] at hout
        have hvd := S.tmAt t
        rw [hver] at hvd
        exact step (d0 := (σ.tm.getD t .dead).common) (v0 := act.tmps.getD t undef) (by rw [if_pos hc]) h' (by simp [resRun]) (.inr (.inl ⟨common_own _, hvd.exitCommon hout.1 t [] rfl (hix t hc)⟩))
      · exact step (d0 := σ.tm.getD t .dead) (by rw [if_neg hc]) h' (by simp [resRun]) (.inl ⟨t, rfl, by simpa using hc, rfl, rfl⟩)
    | cell a ty =>
      simp only [Pv.resOf] at h
      split at h
      · rename_i s hs
        split at h
        · rename_i hc
          obtain ⟨hlen, hz, hkp⟩ := hc
          obtain ⟨i, z, td, k⟩ := zOk_ok hz
          have hpos : 0 < szOf P ty := by rw [k.sz]; exact k.pos
          have hne : σ.bx.getD s [] ≠ [] := by intro e; have := congrArg List.length e; simp only [List.length_nil] at this; omega
          obtain ⟨_, _, hbare, us, T, hg, hsz, h1, hv⟩ := S.boxOk (q := .bx s 0) hne
          rw [hver] at hv
          have hptr : act.tmps.getD a undef = .pointer (some ⟨G.hb fr s, 0, none⟩) := by
            have := S.tmAt a
            rw [hs] at this
            have e : act.eval (.tmp a) = act.tmps.getD a undef := rfl
            rw [e] at this
            generalize act.tmps.getD a undef = v at this
            cases this with
            | lp p s o ha => rfl
          have hcell : ∀ (j : Nat) u, us.toList[j]? = some u → w.cell? ⟨G.hb fr s, 0 + j, none⟩ = some u := fun j u hj => by
            have hg' : w.heap[G.hb fr s]? = some (.cells us T (0, 0)) := hg
            rw [Nat.zero_add, cell_of_row w _ _ us T (0, 0) hg']
            simpa using hj
          have hsz' : us.size = (σ.bx.getD s []).length := hsz
          obtain ⟨r1, r2⟩ := run_loadVar_cells (P := P) (us := us.toList) hz (by rw [Array.length_toList, hsz', hlen]) hcell
          split at h
          · rename_i ha
            simp only [Option.map_eq_some_iff] at h
            obtain ⟨ds', h', rfl⟩ := h
            have hout' := hout
            simp only [outOkL, Bool.and_eq_true] at hout'
            by_cases hk : shr.contains (s + 4096) = true
            · rw [if_pos hk] at hout'
              have hl0 : l = [] := by
                have := (hkp hk).1
                simpa using this
              subst hl0
              refine step rfl h' (v0 := .agg us) (by simp [resRun, hptr, asAddr, r1 ha]) (.inr (.inr ⟨by simp, s, hk, fun p hp => ?_⟩))
              rw [if_pos hk]
              exact .agg _ us _ hsz' h1 fun j u d hu hd => (hv j u d hu hd).exitKept (hbare d (List.mem_of_getElem? hd)) (outOkL_at (i := j) hout'.1 hd) hp
            rw [if_neg hk] at hout'
            have hbn := hib s (by simpa using hk)
            have hshare : ∀ (j : Nat) u d, us[j]? = some u → (σ.bx.getD s [])[j]? = some d → ∀ p, VD B fr (G.exit fr ix ib) vr0 w p u d.shared ∧ d.shared.hasOwn = false := fun j u d hu hd p =>
              (hv j u d hu hd).exitBox (hbare d (List.mem_of_getElem? hd)) (outOkL_at (i := j) hout'.1 (by rw [List.getElem?_map, hd]; rfl)) hbn p
            have hidA : ∀ d ∈ (σ.bx.getD s []).map D.shared, d.hasOwn = false := fun d hd => by
              obtain ⟨d0, hd0, rfl⟩ := List.mem_map.1 hd
              obtain ⟨j, hj⟩ := List.getElem?_of_mem hd0
              have hlt : j < us.size := by rw [hsz']; exact (List.getElem?_eq_some_iff.1 hj).1
              exact (hshare j _ d0 (Array.getElem?_eq_getElem hlt) hj (.pn 0 0 [])).2
            have hidB : ∀ {p : Ap} (j : Nat) u d, us[j]? = some u → ((σ.bx.getD s []).map D.shared)[j]? = some d → VD B fr (G.exit fr ix ib) vr0 w p u d := fun {p} j u d hu hd => by
              rw [List.getElem?_map, Option.map_eq_some_iff] at hd
              obtain ⟨d0, hd0, rfl⟩ := hd
              exact (hshare j u d0 hu hd0 _).1
            refine step rfl h' (v0 := .agg us) (by simp [resRun, hptr, asAddr, r1 ha]) (.inr (.inl (by
              rw [if_neg hk]
              refine ⟨hasOwnL_all fun d hd => ?_, fun p => .agg _ _ _ (by simpa using hsz') h1 fun j u d hu hd => ?_⟩
              all_goals skip
              · exact hidA d hd
              · exact hidB j u d hu hd)))
          · rename_i ha
            split at h
            · rename_i d0 hd0
              simp only [Option.map_eq_some_iff] at h
              obtain ⟨ds', h', rfl⟩ := h
              simp only [outOkL, Bool.and_eq_true] at hout
              have hu1 : us.size = 1 := by rw [hsz', hd0]; rfl
              have hus : us.toList = [us[0]] := by
                apply List.ext_getElem
                · simp [hu1]
                · intro i h1 h2
                  have : i = 0 := by simp at h2; omega
                  subst this
                  simp
              have hbn := hib s (by cases hk : shr.contains (s + 4096) with
                | false => rfl
                | true => exact absurd (hkp hk).2 ha)
              have hx : ∀ p, VD B fr (G.exit fr ix ib) vr0 w p us[0] d0.shared ∧ d0.shared.hasOwn = false := fun p =>
                (hv 0 us[0] d0 (Array.getElem?_eq_getElem (by omega)) (by show (σ.bx.getD s [])[0]? = _; rw [hd0]; rfl)).exitBox (hbare d0 (by show d0 ∈ σ.bx.getD s []; rw [hd0]; simp)) hout.1 hbn p
              exact step rfl h' (v0 := us[0]) (by simp [resRun, hptr, asAddr, r2 (by simpa using ha) _ hus]) (.inr (.inl ⟨(hx (.pn 0 0 [])).2, fun p => (hx p).1⟩))
            · cases h
        · cases h
      · cases h
end Go.Pv

/- Functions: what a call comes to. -/
namespace Go.Pv
open Go.RowKit
variable {P : Program} {B fr : Nat} {G : Gh} {σ σ' : St} {act : Act} {w w' : World} {C : Callee} {K : Act → World → Prop} {Q : Exit → Act → World → Prop} {H : Hint} {ops : Array Oper} {keep : List Nat}

/-- Functions told are told right. -/
def ToldOk (P : Program) (T : Told) : Prop :=
  ∀ f s, T f = some s → ∀ ds frs d frs', s ds frs = some (d, frs') → ∀ B G w (vs : Array Value), FrS B G frs w → vs.size = ds.length →
    (∀ (i : Nat) u d, vs[i]? = some u → ds[i]? = some d → d.hasOwn = false ∧ VD B frs.length G vr0 w (.pn frs.length i []) u d) →
    d.outOk = true ∧ Calls P f vs w fun out w' => ∃ v G', out = .returned v ∧ frs'.length = frs.length ∧ FrS B G' frs' w' ∧ Step frs.length G w G' w' ∧ VD B frs.length G' vr0 w' (.pn frs.length 0 []) v d
theorem plain_ok {P : Program} {f : FuncId} {s : List D → Option D} (h : ∀ ds d, s ds = some d → ∀ B G frs w (vs : Array Value), FrS B G frs w → vs.size = ds.length →
    (∀ (i : Nat) u d, vs[i]? = some u → ds[i]? = some d → d.hasOwn = false ∧ VD B frs.length G vr0 w (.pn frs.length i []) u d) →
    d.outOk = true ∧ Calls P f vs w fun out w' => ∃ v G', out = .returned v ∧ FrS B G' frs w' ∧ Step frs.length G w G' w' ∧ VD B frs.length G' vr0 w' (.pn frs.length 0 []) v d) :
    ∀ ds frs d frs', plainT s ds frs = some (d, frs') → ∀ B G w (vs : Array Value), FrS B G frs w → vs.size = ds.length →
    (∀ (i : Nat) u d, vs[i]? = some u → ds[i]? = some d → d.hasOwn = false ∧ VD B frs.length G vr0 w (.pn frs.length i []) u d) →
    d.outOk = true ∧ Calls P f vs w fun out w' => ∃ v G', out = .returned v ∧ frs'.length = frs.length ∧ FrS B G' frs' w' ∧ Step frs.length G w G' w' ∧ VD B frs.length G' vr0 w' (.pn frs.length 0 []) v d := by
  intro ds frs d frs' hs B G w vs F hl ha
  unfold plainT at hs
  simp only [Option.map_eq_some_iff] at hs
  obtain ⟨d0, hd, e⟩ := hs
  cases e
  obtain ⟨h1, h2⟩ := h ds d hd B G frs w vs F hl ha
  exact ⟨h1, h2.mono fun out w' ⟨v, G', a, b, c, e⟩ => ⟨v, G', a, rfl, b, c, e⟩⟩

theorem results_run (fn : Func) (tmps : Array Value) {act : Act} (ht : act.tmps = tmps) {vs : List Value} (h : (fn.results.toList.mapM (resRun act)).run P w = .ok vs w) :
    (results fn tmps).run P w = .ok (if hs : vs.toArray.size = 1 then vs.toArray[0] else .tuple vs.toArray) w := by
  subst ht
  have e : results fn act.tmps = (do let vs ← fn.results.mapM (resRun act); pure (if h : vs.size = 1 then vs[0] else .tuple vs)) := by
    unfold results
    congr 1
  rw [e, Array.mapM_eq_mapM_toList]
  simp only [Sem.run_bind, Sem.run_map, h, Result.andThen_ok]
  rfl
/-- Where a slot is among the results. -/
def ixOf (l : List ResultVar) (t : Nat) : Option (List Nat) :=
  if l.length = 1 then some [] else (l.findIdx? fun | .tmp t' => t' == t | _ => false).map fun i => [i]
theorem mem_resSlots {l : List ResultVar} {j t : Nat} (h : l[j]? = some (.tmp t)) : t ∈ resSlots l := by
  induction l generalizing j with
  | nil => simp at h
  | cons x l ih =>
    cases j with
    | zero => cases h; simp [resSlots]
    | succ j =>
      have := ih (j := j) (by simpa using h)
      cases x <;> simp [resSlots, this]
theorem ixOf_at {l : List ResultVar} {j t : Nat} (hn : (resSlots l).Nodup) (hl : l.length ≠ 1) (h : l[j]? = some (.tmp t)) : ixOf l t = some [j] := by
  unfold ixOf
  rw [if_neg hl]
  clear hl
  induction l generalizing j with
  | nil => simp at h
  | cons x l ih =>
    cases j with
    | zero => cases h; simp [List.findIdx?_cons]
    | succ j =>
      have h' : l[j]? = some (.tmp t) := by simpa using h
      have hmem := mem_resSlots h'
      cases x with
      | tmp t' =>
        simp only [resSlots, List.nodup_cons] at hn
        have hne : (t' == t) = false := by
          have : t' ≠ t := fun e => hn.1 (e ▸ hmem)
          simpa using this
        have := ih hn.2 h'
        simp only [Option.map_eq_some_iff] at this
        obtain ⟨i, hi, e⟩ := this
        cases e
        simp [List.findIdx?_cons, hne, hi]
      | cell a ty =>
        have := ih hn h'
        simp only [Option.map_eq_some_iff] at this
        obtain ⟨i, hi, e⟩ := this
        cases e
        simp [List.findIdx?_cons, hi]

mutual
theorem scrub_out : ∀ d : D, d.outOk = true → scrub d = d
  | .t _, _ => rfl
  | .own _ _ _, _ => rfl
  | .omap _, _ => rfl
  | .fp _ _ _, _ => rfl
  | .agg ds, h => by simp only [scrub]; rw [scrub_outL ds h]
  | .tup ds, h => by simp only [scrub]; rw [scrub_outL ds h]
  | .als _ _ _ _ _, h => by cases h
  | .mal _ _, h => by cases h
  | .ept _ _ _ _ _, h => by cases h
  | .lp _ _, h => by cases h
  | .clo _ _, h => by cases h
  | .dead, h => by cases h
theorem scrub_outL : ∀ ds : List D, outOkL ds = true → scrubL ds = ds
  | [], _ => rfl
  | d :: ds, h => by
    simp only [outOkL, Bool.and_eq_true] at h
    simp only [scrubL]
    rw [scrub_out d h.1, scrub_outL ds h.2]
end
theorem getD_scrubL (ds : List D) (t : Nat) : (scrubL ds).getD t .dead = scrub (ds.getD t .dead) := by
  simp only [List.getD_eq_getElem?_getD, getElem?_scrubL]
  cases ds[t]? <;> rfl
theorem resOf_over {shr : List Nat} {l : List ResultVar} {ds : List D} (h : resOf P shr l σ = some ds) (hout : outOkL ds = true) : resOf P shr l σ.over = some ds := by
  induction l generalizing ds with
  | nil => exact h
  | cons x l ih =>
    cases x with
    | tmp t =>
      simp only [Pv.resOf, Option.map_eq_some_iff] at h ⊢
      obtain ⟨ds', h', rfl⟩ := h
      simp only [outOkL, Bool.and_eq_true] at hout
      refine ⟨ds', ih h' hout.2, ?_⟩
      simp only [St.over, getD_scrubL]
      have h1 := hout.1
      split at h1
      · rw [scrub_common _ h1]
      · rw [scrub_out _ h1]
    | cell a ty =>
      simp only [Pv.resOf] at h ⊢
      split at h
      · rename_i s hs
        have : σ.over.tm.getD a .dead = .lp s 0 := by simp only [St.over, getD_scrubL, hs]; rfl
        rw [this]
        simp only
        have hb : σ.over.bx = σ.bx := rfl
        rw [hb]
        split at h
        · rename_i hc
          rw [if_pos hc]
          split at h
          · rename_i ha
            rw [if_pos ha]
            simp only [Option.map_eq_some_iff] at h ⊢
            obtain ⟨ds', h', rfl⟩ := h
            simp only [outOkL, Bool.and_eq_true] at hout
            exact ⟨ds', ih h' hout.2, rfl⟩
          · rename_i ha
            rw [if_neg ha]
            split at h
            · simp only [Option.map_eq_some_iff] at h ⊢
              obtain ⟨ds', h', rfl⟩ := h
              simp only [outOkL, Bool.and_eq_true] at hout
              exact ⟨ds', ih h' hout.2, rfl⟩
            · cases h
        · cases h
      · cases h
theorem call1_good {R : Lore} {C : Callee} (ih : Good P C) (hD : DrawOk P C) (hT : ToldOk P R.told) (k : Nat) : Good P (call1 P R C k) := by
    intro f ds frs r frs' h B G w vs F hsz hargs
    simp only [call1] at h
    split at h
    · rename_i s hs
      simp only [Option.map_eq_some_iff] at h
      obtain ⟨⟨d, frs1⟩, hd, e⟩ := h
      cases e
      obtain ⟨h1, h2⟩ := hT f s hs ds frs d _ hd B G w vs F hsz hargs
      exact ⟨d, rfl, h1, h2⟩
    · split at h
      · rename_i fn hf
        split at h
        · rename_i c hb
          -- the frame is entered
          have S0 : Sim B frs.length G { tm := ds ++ List.replicate (fn.ntmps - ds.length) .dead, bx := List.replicate fn.ntmps [], fr := frs } { tmps := vs ++ Array.replicate (fn.ntmps - vs.size) undef, defers := [] } w := by
            have hve : St.verAt ({ tm := ds ++ List.replicate (fn.ntmps - ds.length) .dead, bx := List.replicate fn.ntmps [], fr := frs } : St) = vr0 := by funext q; simp [St.verAt, verOf]
            refine ⟨by simp [hsz], fun t d hd => ?_, fun s c hc hne => ?_, ⟨fun s _ => F.bxn.1 s rfl, F.bxn.2⟩, fun f b hb s c hc hne => ?_, rfl, F.alf, F.alt, F.old, F.base, rfl⟩
            · rw [hve]
              rw [List.getElem?_append] at hd
              split at hd
              · rename_i hlt
                have hlt' : t < vs.size := by omega
                obtain ⟨a, b⟩ := hargs t vs[t] d (Array.getElem?_eq_getElem hlt') hd
                have e : (vs ++ Array.replicate (fn.ntmps - vs.size) undef).getD t undef = vs[t] := by
                  simp [Array.getElem?_append_left hlt', hlt']
                simp only [e]
                exact b.free _ a
              · rw [List.getElem?_replicate] at hd
                split at hd
                · cases hd; exact .dead _ _
                · cases hd
            · rw [List.getElem?_replicate] at hc
              split at hc
              · cases hc; exact absurd rfl hne
              · cases hc
            · rw [hve]
              have := F.frs f b hb s c hc hne
              rwa [verAt_FrS] at this
          have main : ∀ {out : Out} {σ : St}, exec P (R.hint f) C (k + 1) c { tm := ds ++ List.replicate (fn.ntmps - ds.length) .dead, bx := List.replicate fn.ntmps [], fr := frs } = some (out, σ) → (out = .normal ∨ out = .ret) →
              (match resOf P (R.hint f).shr fn.results.toList σ with
                | some ds => if outOkL ds && decide (resSlots fn.results.toList).Nodup && σ.fr.all (fun b => b.all fun c => c.all D.outer) then some (Res.val (res1 ds), σ.fr) else none
                | none => none) = some (r, frs') →
              ∃ d, r = .val d ∧ d.outOk = true ∧ Calls P f vs w fun out w' => ∃ v G', out = .returned v ∧ frs'.length = frs.length ∧ FrS B G' frs' w' ∧ Step frs.length G w G' w' ∧ VD B frs.length G' vr0 w' (.pn frs.length 0 []) v d := by
            intro out σ hex hout h
            split at h
            · rename_i rs hrs
              split at h
              · rename_i hc
                simp only [Bool.and_eq_true, decide_eq_true_eq] at hc
                obtain ⟨⟨hok, hnd⟩, hfr⟩ := hc
                cases h
                have hrok : (res1 rs).outOk = true := by
                  cases rs with
                  | nil => rfl
                  | cons a l =>
                    cases l with
                    | nil => simp only [outOkL, Bool.and_eq_true] at hok; exact hok.1
                    | cons b l => exact hok
                refine ⟨_, rfl, hrok, calls_of_wp hf hb ?_⟩
                refine exec_wp ih hD (k + 1) c hex S0 fun G1 a1 w1 S1 st1 => ?_
                have S2 := S1.over
                have hfl : σ.fr.length = frs.length := S1.frl
                -- the results, read
                let shr := (R.hint f).shr
                let ix : Nat → Option (Option (List Nat)) := fun t => if shr.contains t then some none else (ixOf fn.results.toList t).map some
                have hix : ∀ t, shr.contains t = true → ix t = some none := fun t ht => by show (if _ then _ else _) = _; rw [if_pos ht]
                let ib : Nat → Option (List Nat) := fun s => if shr.contains (s + 4096) then some (if fn.results.toList.length = 1 then [] else [fn.results.toList.length - 1]) else none
                have hib : ∀ s, shr.contains (s + 4096) = false → ib s = none := fun s hs => by show (if _ then _ else _) = _; rw [hs, if_neg (by simp)]
                have hixn : ∀ t l, shr.contains t = false → ixOf fn.results.toList t = some l → ix t = some (some l) := fun t l ht hl => by show (if _ then _ else _) = _; rw [ht, if_neg (by simp), hl]; rfl
                have hv2 : σ.over.verAt = vr0 := by funext q; simp [St.over, St.verAt, verOf]
                have hres : resOf P (R.hint f).shr fn.results.toList σ.over = some rs := resOf_over hrs hok
                obtain ⟨us, h1, h2, h3, h4⟩ := S2.resOf (ix := ix) (ib := ib) hix hib hv2 hres hok
                have hFr := S2.exit (ix := ix) (ib := ib) hv2 hfr
                have hst := (st1.trans (Step.anew σ.verAt)).trans (Step.exit (ix := ix) (ib := ib))
                have hrun := results_run (P := P) (w := w1) fn a1.tmps rfl h1
                have key : ∃ v, (results fn a1.tmps).run P w1 = .ok v w1 ∧ VD B frs.length ((G1.anew frs.length σ.verAt).exit frs.length ix ib) vr0 w1 (.pn frs.length 0 []) v (res1 rs) := by
                  refine ⟨_, hrun, ?_⟩
                  by_cases h1l : fn.results.toList.length = 1
                  · obtain ⟨x, hx⟩ := List.length_eq_one_iff.1 h1l
                    obtain ⟨v, hv⟩ := List.length_eq_one_iff.1 (h2.trans h1l)
                    obtain ⟨d, hd⟩ := List.length_eq_one_iff.1 (h3.trans h1l)
                    subst hv hd
                    rw [dif_pos (by rfl)]
                    show VD _ _ _ _ _ _ v d
                    rcases h4 0 x v d (by rw [hx]; rfl) rfl rfl with ⟨t, rfl, hsh, rfl, rfl⟩ | ⟨_, hp⟩ | ⟨_, s, hs, hp⟩
                    · have hvd := S2.tmAt t
                      rw [hv2] at hvd
                      simp only [outOkL, Bool.and_eq_true] at hok
                      exact hvd.exitTm hok.1 t [] [] rfl (hixn t [] hsh (by simp [ixOf, h1l]))
                    · exact hp _
                    · exact hp [] (by show (if _ then _ else _) = _; rw [if_pos hs, if_pos h1l])
                  · have hne : us.toArray.size ≠ 1 := by rw [List.size_toArray, h2]; exact h1l
                    rw [dif_neg hne]
                    have hr1 : res1 rs = .tup rs := by
                      cases rs with
                      | nil => rfl
                      | cons a l =>
                        cases l with
                        | nil => exact absurd h3.symm h1l
                        | cons b l => rfl
                    rw [hr1]
                    refine .tup _ _ _ (by rw [List.size_toArray, h2, h3]) fun j u d hu hd => ?_
                    have hj : j < fn.results.toList.length := by rw [← h3]; exact (List.getElem?_eq_some_iff.1 hd).1
                    rcases h4 j _ u d (List.getElem?_eq_getElem hj) (by simpa using hu) hd with ⟨t, ht, hsh, rfl, rfl⟩ | ⟨_, hp⟩ | ⟨hl, s, hs, hp⟩
                    · have hvd := S2.tmAt t
                      rw [hv2] at hvd
                      exact hvd.exitTm (outOkL_at hok hd) t [] [j] rfl (hixn t [j] hsh (ixOf_at hnd h1l (by rw [List.getElem?_eq_getElem hj, ht])))
                    · exact hp _
                    · refine hp [j] ?_
                      show (if _ then _ else _) = _
                      rw [if_pos hs, if_neg h1l]
                      have : j + 1 = fn.results.toList.length := by simpa using hl
                      rw [show fn.results.toList.length - 1 = j from by omega]
                obtain ⟨v, hvr, hvd⟩ := key
                have hend : a1.defers = [] ∧ ∃ v, (results fn a1.tmps).run P w1 = .ok v w1 ∧ ∃ v' G', Ending.returned v = .returned v' ∧ σ.fr.length = frs.length ∧ FrS B G' σ.fr w1 ∧ Step frs.length G w G' w1 ∧ VD B frs.length G' vr0 w1 (.pn frs.length 0 []) v' (res1 rs) :=
                  ⟨S1.dfs, v, hvr, v, _, rfl, hfl, hFr, hst, hvd⟩
                rcases hout with rfl | rfl
                · exact hend
                · exact hend
              · cases h
            · cases h
          split at h
          · cases h
          · cases h
          · rename_i o σ hnp hne hex
            refine main hex ?_ h
            cases o with
            | normal => exact .inl rfl
            | ret => exact .inr rfl
            | exit i => exact absurd rfl (hne i)
            | panic x => exact absurd rfl (hnp x)
          · cases h
        · cases h
      · cases h
theorem length_seamVs (ms : List (List Mode)) (ds : List D) : (seamVs ms ds).length = ds.length := by
  induction ms generalizing ds with
  | nil => cases ds <;> rfl
  | cons m ms ih => cases ds with
    | nil => rfl
    | cons d ds => simp [seamVs, ih]
theorem getElem?_seamVs (ms : List (List Mode)) (ds : List D) (i : Nat) : (seamVs ms ds)[i]? = (ds[i]?).map (seamV ((ms[i]?).getD [])) := by
  have h0 : ∀ d, seamV [] d = d := fun d => by
    cases d with
    | agg ds => cases ds <;> rfl
    | _ => simp [seamV, seam1, D.seam]
  induction ms generalizing ds i with
  | nil =>
    cases ds with
    | nil => rfl
    | cons d ds =>
      simp only [seamVs, List.getElem?_nil, Option.getD_none]
      cases h : (d :: ds)[i]? with
      | none => rfl
      | some x => simp [h0]
  | cons m ms ih =>
    cases ds with
    | nil => rfl
    | cons d ds =>
      cases i with
      | zero => rfl
      | succ i => exact ih ds i
theorem VD.seamAny {vr : Pl → Nat} {p : Ap} {v : Value} {d : D} (hp : ∀ q : Pl, q.abs fr ≠ p) (h : VD B fr G vr w p v d) (m : Mode) : VD B fr G vr w p v (d.seam m) := by
  unfold D.seam
  split
  · have := h.nilV; subst this
    exact .t _ _ _ (RT.nil0 _)
  · split
    · rename_i e hsz
      have := h.nilV; subst this
      exact .own _ _ _ _ [] [] (World.ownsRow_nil w B _ _) ⟨by simp, by simp, by simp⟩ hsz (fun g hg => by cases hg) fun q _ e => absurd e (hp q)
    · exact h
  · exact h
theorem pn_abs (n i : Nat) (l : List Nat) (q : Pl) : q.abs fr ≠ .pn n i l := by cases q <;> exact fun e => by cases e
theorem VD.seamV' {vr : Pl → Nat} {n i : Nat} {l : List Nat} {v : Value} {d : D} (h : VD B fr G vr w (.pn n i l) v d) (ms : List Mode) : VD B fr G vr w (.pn n i l) v (seamV ms d) := by
  cases d with
  | agg ds =>
    cases h with
    | agg p us ds hs h1 h =>
      refine .agg _ us _ (by rw [length_seamL]; exact hs) h1 fun j u d hu hd => ?_
      rw [getElem?_seamL, Option.map_eq_some_iff] at hd
      obtain ⟨d', hd', rfl⟩ := hd
      exact (h j u d' hu hd').seamAny (pn_abs _ _ _) _
  | _ => exact h.seamAny (pn_abs _ _ _) _
theorem VD.seamR' {vr : Pl → Nat} {n i : Nat} {l : List Nat} {v : Value} {d : D} (h : VD B fr G vr w (.pn n i l) v d) (ms : List (List Mode)) : VD B fr G vr w (.pn n i l) v (seamR ms d) := by
  cases d with
  | tup ds =>
    cases h with
    | tup p us ds hs h =>
      refine .tup _ us _ (by rw [length_seamVs]; exact hs) fun j u d hu hd => ?_
      rw [getElem?_seamVs, Option.map_eq_some_iff] at hd
      obtain ⟨d', hd', rfl⟩ := hd
      exact VD.seamV' (h j u d' hu hd') _
  | _ => exact h.seamV' _
theorem seam_outOk {m : Mode} {d : D} (h : d.outOk = true) : (d.seam m).outOk = true := by
  unfold D.seam
  split
  · rfl
  · split <;> rfl
  · exact h
theorem seamL_outOk (ms : List Mode) {ds : List D} (h : outOkL ds = true) : outOkL (seamL ms ds) = true := by
  induction ms generalizing ds with
  | nil => cases ds <;> exact h
  | cons m ms ih => cases ds with
    | nil => exact h
    | cons d ds =>
      simp only [seamL, outOkL, Bool.and_eq_true] at h ⊢
      exact ⟨seam_outOk h.1, ih h.2⟩
theorem seamV_outOk (ms : List Mode) {d : D} (h : d.outOk = true) : (seamV ms d).outOk = true := by
  cases d with
  | agg ds => exact seamL_outOk ms h
  | _ => exact seam_outOk h
theorem seamVs_outOk (ms : List (List Mode)) {ds : List D} (h : outOkL ds = true) : outOkL (seamVs ms ds) = true := by
  induction ms generalizing ds with
  | nil => cases ds <;> exact h
  | cons m ms ih => cases ds with
    | nil => exact h
    | cons d ds =>
      simp only [seamVs, outOkL, Bool.and_eq_true] at h ⊢
      exact ⟨seamV_outOk m h.1, ih h.2⟩
theorem seamR_outOk (ms : List (List Mode)) {d : D} (h : d.outOk = true) : (seamR ms d).outOk = true := by
  cases d with
  | tup ds => exact seamVs_outOk ms h
  | _ => exact seamV_outOk _ h
theorem seam_no {m : Mode} {d : D} (hm : ∀ x, m = some x → x.2.2 = false) (h : d.hasOwn = false) : (d.seam m).hasOwn = false := by
  unfold D.seam
  split
  · rfl
  · rename_i e; cases hm _ rfl
  · exact h
theorem seamL_no {ms : List Mode} {ds : List D} (hm : ∀ m ∈ ms, ∀ x, m = some x → x.2.2 = false) (h : hasOwnL ds = false) : hasOwnL (seamL ms ds) = false := by
  induction ms generalizing ds with
  | nil => cases ds <;> exact h
  | cons m ms ih => cases ds with
    | nil => exact h
    | cons d ds =>
      simp only [seamL, hasOwnL, Bool.or_eq_false_iff] at h ⊢
      exact ⟨seam_no (hm m (by simp)) h.1, ih (fun m h => hm m (by simp [h])) h.2⟩
theorem seamV_no {ms : List Mode} {d : D} (hm : ∀ m ∈ ms, ∀ x, m = some x → x.2.2 = false) (h : d.hasOwn = false) : (seamV ms d).hasOwn = false := by
  cases d with
  | agg ds => exact seamL_no hm h
  | _ =>
    refine seam_no (m := ms.headD none) (fun x hx => ?_) h
    cases ms with
    | nil => cases hx
    | cons m ms => exact hm m (by simp) x hx
theorem noOwn_at {ms : List (List Mode)} {i : Nat} : ∀ m ∈ ((noOwn ms)[i]?).getD [], ∀ x, m = some x → x.2.2 = false := by
  intro m hm x hx
  subst hx
  simp only [noOwn, List.getElem?_map] at hm
  cases h : ms[i]? with
  | none => rw [h] at hm; simp at hm
  | some l =>
    rw [h] at hm
    simp only [Option.map_some, Option.getD_some, List.mem_map, Option.map_eq_some_iff] at hm
    obtain ⟨m0, _, y, _, rfl⟩ := hm
    rfl
theorem wrap_good {R : Lore} {C : Callee} (hC : Good P C) : Good P (wrapC R C) := by
  intro f ds frs r frs' h B G w vs F hsz hargs
  simp only [wrapC, Option.map_eq_some_iff, Prod.mk.injEq] at h
  obtain ⟨⟨r0, fr0⟩, h1, rfl, rfl⟩ := h
  obtain ⟨d, rfl, ho, hc⟩ := hC f _ frs r0 fr0 h1 B G w vs F (by rw [length_seamVs]; exact hsz) fun i u d hu hd => by
    rw [getElem?_seamVs, Option.map_eq_some_iff] at hd
    obtain ⟨d', hd', rfl⟩ := hd
    obtain ⟨a, b⟩ := hargs i u d' hu hd'
    exact ⟨seamV_no noOwn_at a, b.seamV' _⟩
  exact ⟨_, rfl, seamR_outOk _ ho, hc.mono fun out w' ⟨v, G', a, b, c, e, g⟩ => ⟨v, G', a, b, c, e, g.seamR' _⟩⟩
theorem call_good {R : Lore} (hD : ∀ C, Good P C → DrawOk P C) (hT : ToldOk P R.told) : ∀ k, Good P (call P R k) := by
  intro k
  induction k with
  | zero => intro f ds frs r frs' h; cases h
  | succ k ih => exact wrap_good (call1_good ih (hD _ ih) hT k)
end Go.Pv

/- Regions that draw their order: what does not meet may change places. -/
namespace Go.Pv
open Go.RowKit
variable {P : Program} {B fr : Nat} {G : Gh} {σ σ' τ : St} {act : Act} {w w' : World} {C : Callee} {K : Act → World → Prop} {Q : Exit → Act → World → Prop} {H : Hint} {ops : Array Oper}

/-! ### what two states share -/
def agL (σ τ : St) : Loc → Prop
  | .tm t => σ.tm[t]? = τ.tm[t]? ∧ σ.verAt (.tm t) = τ.verAt (.tm t)
  | .bx s => σ.bx[s]? = τ.bx[s]? ∧ ∀ o, σ.verAt (.bx s o) = τ.verAt (.bx s o)
  | .fb => σ.fr = τ.fr ∧ ∀ f s o, σ.verAt (.fb f s o) = τ.verAt (.fb f s o)
  | .mem => True
theorem agL.rfl' {σ : St} {l : Loc} : agL σ σ l := by cases l <;> simp [agL]
theorem agL.symm {σ τ : St} {l : Loc} (h : agL σ τ l) : agL τ σ l := by
  cases l with
  | tm t => exact ⟨h.1.symm, h.2.symm⟩
  | bx s => exact ⟨h.1.symm, fun o => (h.2 o).symm⟩
  | fb => exact ⟨h.1.symm, fun f s o => (h.2 f s o).symm⟩
  | mem => trivial
theorem agL.trans {σ τ υ : St} {l : Loc} (h : agL σ τ l) (h' : agL τ υ l) : agL σ υ l := by
  cases l with
  | tm t => exact ⟨h.1.trans h'.1, h.2.trans h'.2⟩
  | bx s => exact ⟨h.1.trans h'.1, fun o => (h.2 o).trans (h'.2 o)⟩
  | fb => exact ⟨h.1.trans h'.1, fun f s o => (h.2 f s o).trans (h'.2 f s o)⟩
  | mem => trivial
/-- A single location is among those. -/
def Loc.hit (l : Loc) (ls : List Loc) : Prop := ∃ x ∈ ls, l = x ∨ (x = .mem ∧ l.memory = true)
theorem Loc.hit_cons {l x : Loc} {ls : List Loc} : l.hit (x :: ls) ↔ (l = x ∨ (x = .mem ∧ l.memory = true)) ∨ l.hit ls := by
  simp [Loc.hit]
theorem Loc.hit_nil {l : Loc} : ¬ l.hit [] := by simp [Loc.hit]

/-- What a run looks at decides what it writes. -/
def Frm (α : Type) (C : Callee) (m : Prog α) : Prop :=
  ∀ (σ τ : St) a σ1 tr, m.runT C σ = some (a, σ1, tr) → (∀ l, l.hit tr.rd → agL σ τ l) →
    ∃ τ1, m.runT C τ = some (a, τ1, tr) ∧ (∀ l, l.hit tr.wr → agL σ1 τ1 l) ∧ (∀ l, ¬ l.hit tr.wr → agL σ σ1 l ∧ agL τ τ1 l)

theorem agL_of_mem {σ τ : St} {ls : List Loc} (h : ∀ l, l.hit (.mem :: ls) → agL σ τ l) : σ.bx = τ.bx ∧ σ.fr = τ.fr ∧ ∀ q : Pl, q.boxed = true → σ.verAt q = τ.verAt q := by
  have hb : ∀ s, agL σ τ (.bx s) := fun s => h _ (Loc.hit_cons.2 (.inl (.inr ⟨rfl, rfl⟩)))
  have hf : agL σ τ .fb := h _ (Loc.hit_cons.2 (.inl (.inr ⟨rfl, rfl⟩)))
  refine ⟨List.ext_getElem? fun s => (hb s).1, hf.1, fun q hq => ?_⟩
  cases q with
  | tm t => cases hq
  | bx s o => exact (hb s).2 o
  | fb f s o => exact hf.2 f s o

theorem ver_same {σ : St} {tm : List D} {bx : List (List D)} {fr : Frames} (q : Pl) : St.verAt { σ with tm := tm, bx := bx, fr := fr } q = σ.verAt q := rfl
theorem ver_bump {σ : St} (q q' : Pl) : St.verAt { σ with ver := (q, verOf σ.ver q + 1) :: σ.ver } q' = if q' = q then σ.verAt q' + 1 else σ.verAt q' := by
  by_cases e : q' = q
  · subst e
    rw [if_pos rfl]
    simp only [St.verAt, verOf, List.lookup_cons, BEq.rfl, Option.getD_some]
    omega
  · rw [if_neg e]
    have : (q' == q) = false := by simpa using e
    simp [St.verAt, verOf, List.lookup_cons, this]

theorem frm (C : Callee) {α : Type} (m : Prog α) : Frm α C m := by
  induction m with
  | ret a =>
    intro σ τ b σ1 tr h hag
    simp only [Prog.runT, Option.some.injEq, Prod.mk.injEq] at h
    obtain ⟨rfl, rfl, rfl⟩ := h
    exact ⟨τ, rfl, fun l hl => absurd hl Loc.hit_nil, fun l _ => ⟨agL.rfl', agL.rfl'⟩⟩
  | fail => intro σ τ b σ1 tr h; cases h
  | panic x => intro σ τ b σ1 tr h; cases h
  | getT t k ih =>
    intro σ τ b σ1 tr h hag
    simp only [Prog.runT, Option.map_eq_some_iff] at h
    obtain ⟨⟨b', σ1', tr'⟩, h, e⟩ := h
    simp only [Prod.mk.injEq] at e
    obtain ⟨rfl, rfl, rfl⟩ := e
    have h0 : agL σ τ (.tm t) := hag _ (Loc.hit_cons.2 (.inl (.inl rfl)))
    obtain ⟨τ1, h1, h2, h3⟩ := ih _ σ τ _ _ _ h fun l hl => hag l (Loc.hit_cons.2 (.inr hl))
    refine ⟨τ1, ?_, h2, h3⟩
    have e : τ.tm.getD t .dead = σ.tm.getD t .dead := by simp only [List.getD_eq_getElem?_getD, h0.1]
    simp only [Prog.runT, e, h1, Option.map_some]
  | putT t d k ih =>
    intro σ τ b σ1 tr h hag
    simp only [Prog.runT] at h
    split at h
    · rename_i hlt
      simp only [Option.map_eq_some_iff] at h
      obtain ⟨⟨b', σ1', tr'⟩, h, e⟩ := h
      simp only [Prod.mk.injEq] at e
      obtain ⟨rfl, rfl, rfl⟩ := e
      have h0 : agL σ τ (.tm t) := hag _ (Loc.hit_cons.2 (.inl (.inl rfl)))
      have hlt' : t < τ.tm.length := by
        have := h0.1
        rw [List.getElem?_eq_getElem hlt] at this
        exact (List.getElem?_eq_some_iff.1 this.symm).1
      have hset : ∀ l, (l = .tm t ∨ agL σ τ l) → agL { σ with tm := σ.tm.set t d } { τ with tm := τ.tm.set t d } l := by
        rintro l (rfl | hl)
        · exact ⟨by simp [hlt, hlt'], h0.2⟩
        · cases l with
          | tm t' =>
            refine ⟨?_, hl.2⟩
            by_cases e : t = t'
            · subst e; simp [hlt, hlt']
            · simpa [List.getElem?_set_ne e] using hl.1
          | bx s => exact hl
          | fb => exact hl
          | mem => trivial
      obtain ⟨τ1, h1, h2, h3⟩ := ih _ { τ with tm := τ.tm.set t d } _ _ _ h fun l hl => hset l (.inr (hag l (Loc.hit_cons.2 (.inr hl))))
      refine ⟨τ1, ?_, fun l hl => ?_, fun l hl => ?_⟩
      · simp only [Prog.runT, hlt', if_true, h1, Option.map_some]
      · by_cases hw : l.hit tr'.wr
        · exact h2 l hw
        · rcases Loc.hit_cons.1 hl with (rfl | ⟨e, _⟩) | hl
          · exact ((h3 _ hw).1.symm.trans (hset _ (.inl rfl))).trans (h3 _ hw).2
          · cases e
          · exact absurd hl hw
      · have hn : ¬ l.hit tr'.wr := fun h => hl (Loc.hit_cons.2 (.inr h))
        have hne : l ≠ .tm t := fun e => hl (Loc.hit_cons.2 (.inl (.inl e)))
        have hs : ∀ υ : St, agL υ { υ with tm := υ.tm.set t d } l := by
          intro υ
          cases l with
          | tm t' => exact ⟨by rw [List.getElem?_set_ne (fun e => hne (by rw [e]))], rfl⟩
          | bx s => exact ⟨rfl, fun _ => rfl⟩
          | fb => exact ⟨rfl, fun _ _ _ => rfl⟩
          | mem => trivial
        exact ⟨(hs σ).trans (h3 l hn).1, (hs τ).trans (h3 l hn).2⟩
    · cases h
  | getB s k ih =>
    intro σ τ b σ1 tr h hag
    simp only [Prog.runT, Option.map_eq_some_iff] at h
    obtain ⟨⟨b', σ1', tr'⟩, h, e⟩ := h
    simp only [Prod.mk.injEq] at e
    obtain ⟨rfl, rfl, rfl⟩ := e
    have h0 : agL σ τ (.bx s) := hag _ (Loc.hit_cons.2 (.inl (.inl rfl)))
    obtain ⟨τ1, h1, h2, h3⟩ := ih _ σ τ _ _ _ h fun l hl => hag l (Loc.hit_cons.2 (.inr hl))
    refine ⟨τ1, ?_, h2, h3⟩
    have e : τ.bx.getD s [] = σ.bx.getD s [] := by simp only [List.getD_eq_getElem?_getD, h0.1]
    simp only [Prog.runT, e, h1, Option.map_some]
  | putB s c k ih =>
    intro σ τ b σ1 tr h hag
    simp only [Prog.runT] at h
    split at h
    · rename_i hlt
      simp only [Option.map_eq_some_iff] at h
      obtain ⟨⟨b', σ1', tr'⟩, h, e⟩ := h
      simp only [Prod.mk.injEq] at e
      obtain ⟨rfl, rfl, rfl⟩ := e
      have h0 : agL σ τ (.bx s) := hag _ (Loc.hit_cons.2 (.inl (.inl rfl)))
      have hlt' : s < τ.bx.length := by
        have := h0.1
        rw [List.getElem?_eq_getElem hlt] at this
        exact (List.getElem?_eq_some_iff.1 this.symm).1
      have hset : ∀ l, (l = .bx s ∨ agL σ τ l) → agL { σ with bx := σ.bx.set s c } { τ with bx := τ.bx.set s c } l := by
        rintro l (rfl | hl)
        · exact ⟨by simp [hlt, hlt'], h0.2⟩
        · cases l with
          | bx s' =>
            refine ⟨?_, hl.2⟩
            by_cases e : s = s'
            · subst e; simp [hlt, hlt']
            · simpa [List.getElem?_set_ne e] using hl.1
          | tm t => exact hl
          | fb => exact hl
          | mem => trivial
      obtain ⟨τ1, h1, h2, h3⟩ := ih { σ with bx := σ.bx.set s c } { τ with bx := τ.bx.set s c } _ _ _ h fun l hl => hset l (.inr (hag l (Loc.hit_cons.2 (.inr hl))))
      refine ⟨τ1, ?_, fun l hl => ?_, fun l hl => ?_⟩
      · simp only [Prog.runT, hlt', if_true, h1, Option.map_some]
      · by_cases hw : l.hit tr'.wr
        · exact h2 l hw
        · rcases Loc.hit_cons.1 hl with (rfl | ⟨e, _⟩) | hl
          · exact ((h3 _ hw).1.symm.trans (hset _ (.inl rfl))).trans (h3 _ hw).2
          · cases e
          · exact absurd hl hw
      · have hn : ¬ l.hit tr'.wr := fun h => hl (Loc.hit_cons.2 (.inr h))
        have hne : l ≠ .bx s := fun e => hl (Loc.hit_cons.2 (.inl (.inl e)))
        have hs : ∀ υ : St, agL υ { υ with bx := υ.bx.set s c } l := by
          intro υ
          cases l with
          | bx s' => exact ⟨by rw [List.getElem?_set_ne (fun e => hne (by rw [e]))], fun _ => rfl⟩
          | tm t => exact ⟨rfl, rfl⟩
          | fb => exact ⟨rfl, fun _ _ _ => rfl⟩
          | mem => trivial
        exact ⟨(hs σ).trans (h3 l hn).1, (hs τ).trans (h3 l hn).2⟩
    · cases h
  | getF f s k ih =>
    intro σ τ b σ1 tr h hag
    simp only [Prog.runT, Option.map_eq_some_iff] at h
    obtain ⟨⟨b', σ1', tr'⟩, h, e⟩ := h
    simp only [Prod.mk.injEq] at e
    obtain ⟨rfl, rfl, rfl⟩ := e
    have h0 : agL σ τ .fb := hag _ (Loc.hit_cons.2 (.inl (.inl rfl)))
    obtain ⟨τ1, h1, h2, h3⟩ := ih _ σ τ _ _ _ h fun l hl => hag l (Loc.hit_cons.2 (.inr hl))
    refine ⟨τ1, ?_, h2, h3⟩
    have e : τ.fr = σ.fr := h0.1.symm
    simp only [Prog.runT, e, h1, Option.map_some]
  | putF f s c k ih =>
    intro σ τ b σ1 tr h hag
    simp only [Prog.runT, Option.map_eq_some_iff] at h
    obtain ⟨⟨b', σ1', tr'⟩, h, e⟩ := h
    simp only [Prod.mk.injEq] at e
    obtain ⟨rfl, rfl, rfl⟩ := e
    have h0 : agL σ τ .fb := hag _ (Loc.hit_cons.2 (.inl (.inl rfl)))
    have hset : ∀ l, (l = .fb ∨ agL σ τ l) → agL { σ with fr := σ.fr.set f ((σ.fr.getD f []).set s c) } { τ with fr := τ.fr.set f ((τ.fr.getD f []).set s c) } l := by
      rintro l (rfl | hl)
      · exact ⟨by show _ = _; rw [h0.1], h0.2⟩
      · cases l with
        | fb => exact ⟨by show _ = _; rw [h0.1], h0.2⟩
        | tm t => exact hl
        | bx s => exact hl
        | mem => trivial
    obtain ⟨τ1, h1, h2, h3⟩ := ih { σ with fr := σ.fr.set f ((σ.fr.getD f []).set s c) } { τ with fr := τ.fr.set f ((τ.fr.getD f []).set s c) } _ _ _ h fun l hl => hset l (.inr (hag l (Loc.hit_cons.2 (.inr hl))))
    refine ⟨τ1, ?_, fun l hl => ?_, fun l hl => ?_⟩
    · simp only [Prog.runT, h1, Option.map_some]
    · by_cases hw : l.hit tr'.wr
      · exact h2 l hw
      · rcases Loc.hit_cons.1 hl with (rfl | ⟨e, _⟩) | hl
        · exact ((h3 _ hw).1.symm.trans (hset _ (.inl rfl))).trans (h3 _ hw).2
        · cases e
        · exact absurd hl hw
    · have hn : ¬ l.hit tr'.wr := fun h => hl (Loc.hit_cons.2 (.inr h))
      have hne : l ≠ .fb := fun e => hl (Loc.hit_cons.2 (.inl (.inl e)))
      have hs : ∀ υ : St, agL υ { υ with fr := υ.fr.set f ((υ.fr.getD f []).set s c) } l := by
        intro υ
        cases l with
        | fb => exact absurd rfl hne
        | tm t => exact ⟨rfl, rfl⟩
        | bx s => exact ⟨rfl, fun _ => rfl⟩
        | mem => trivial
      exact ⟨(hs σ).trans (h3 l hn).1, (hs τ).trans (h3 l hn).2⟩
  | call g as k ih =>
    intro σ τ b σ1 tr h hag
    simp only [Prog.runT] at h ⊢
    cases hc : C g as [] with
    | none => rw [hc] at h; cases h
    | some r =>
      rw [hc] at h
      simp only [Option.bind_some] at h ⊢
      cases hr : r.1 with
      | pan x => rw [hr] at h; cases h
      | val d =>
        rw [hr] at h
        simp only at h ⊢
        exact ih d σ τ _ _ _ h hag
  | callF g as k ih =>
    intro σ τ b σ1 tr h hag
    simp only [Prog.runT] at h
    cases hc : C g (liftL σ.fr.length as) (liftF σ.fr.length (σ.fr ++ [σ.bx])) with
    | none => rw [hc] at h; cases h
    | some r =>
      rw [hc] at h
      simp only [Option.bind_some] at h
      cases hr : r.1 with
      | pan x => rw [hr] at h; cases h
      | val d =>
        rw [hr] at h
        simp only [Option.map_eq_some_iff] at h
        obtain ⟨⟨b', σ1', tr'⟩, h, e⟩ := h
        simp only [Prod.mk.injEq] at e
        obtain ⟨rfl, rfl, rfl⟩ := e
        obtain ⟨hb, hf, hv⟩ := agL_of_mem (ls := tr'.rd) hag
        have hset : ∀ l, (l.memory = true ∨ agL σ τ l) → agL { fr := (unliftF σ.fr.length r.2).dropLast, bx := (unliftF σ.fr.length r.2).getLastD [], tm := σ.tm, ver := σ.ver, vg := σ.vg + 1 } { fr := (unliftF σ.fr.length r.2).dropLast, bx := (unliftF σ.fr.length r.2).getLastD [], tm := τ.tm, ver := τ.ver, vg := τ.vg + 1 } l := by
          have hv' : ∀ q : Pl, q.boxed = true → verOf σ.ver q + (σ.vg + 1) = verOf τ.ver q + (τ.vg + 1) := fun q hq => by
            have := hv q hq
            simp only [St.verAt, hq, if_true] at this
            omega
          intro l hl
          cases l with
          | tm t => exact hl.resolve_left (by simp [Loc.memory])
          | bx s => exact ⟨rfl, fun o => by simp only [St.verAt, Pl.boxed, if_true]; exact hv' _ rfl⟩
          | fb => exact ⟨rfl, fun f s o => by simp only [St.verAt, Pl.boxed, if_true]; exact hv' _ rfl⟩
          | mem => trivial
        obtain ⟨τ1, h1, h2, h3⟩ := ih _ _ { fr := (unliftF σ.fr.length r.2).dropLast, bx := (unliftF σ.fr.length r.2).getLastD [], tm := τ.tm, ver := τ.ver, vg := τ.vg + 1 } _ _ _ h fun l hl => hset l (.inr (hag l (Loc.hit_cons.2 (.inr hl))))
        refine ⟨τ1, ?_, fun l hl => ?_, fun l hl => ?_⟩
        · simp only [Prog.runT, ← hf, ← hb, hc, Option.bind_some, hr, h1, Option.map_some]
        · by_cases hw : l.hit tr'.wr
          · exact h2 l hw
          · rcases Loc.hit_cons.1 hl with (rfl | ⟨_, hm⟩) | hl
            · trivial
            · exact ((h3 _ hw).1.symm.trans (hset _ (.inl hm))).trans (h3 _ hw).2
            · exact absurd hl hw
        · have hn : ¬ l.hit tr'.wr := fun h => hl (Loc.hit_cons.2 (.inr h))
          have hne : ¬ l.memory = true := fun e => hl (Loc.hit_cons.2 (.inl (.inr ⟨rfl, e⟩)))
          cases l with
          | tm t => exact ⟨agL.trans (τ := { fr := (unliftF σ.fr.length r.2).dropLast, bx := (unliftF σ.fr.length r.2).getLastD [], tm := σ.tm, ver := σ.ver, vg := σ.vg + 1 }) ⟨rfl, by simp [St.verAt, Pl.boxed]⟩ (h3 _ hn).1, agL.trans (τ := { fr := (unliftF σ.fr.length r.2).dropLast, bx := (unliftF σ.fr.length r.2).getLastD [], tm := τ.tm, ver := τ.ver, vg := τ.vg + 1 }) ⟨rfl, by simp [St.verAt, Pl.boxed]⟩ (h3 _ hn).2⟩
          | bx s => exact absurd rfl hne
          | fb => exact absurd rfl hne
          | mem => exact ⟨trivial, trivial⟩
  | getV q k ih =>
    intro σ τ b σ1 tr h hag
    simp only [Prog.runT, Option.map_eq_some_iff] at h
    obtain ⟨⟨b', σ1', tr'⟩, h, e⟩ := h
    simp only [Prod.mk.injEq] at e
    obtain ⟨rfl, rfl, rfl⟩ := e
    have h0 : agL σ τ q.loc := hag _ (Loc.hit_cons.2 (.inl (.inl rfl)))
    obtain ⟨τ1, h1, h2, h3⟩ := ih _ σ τ _ _ _ h fun l hl => hag l (Loc.hit_cons.2 (.inr hl))
    refine ⟨τ1, ?_, h2, h3⟩
    have e : τ.verAt q = σ.verAt q := by
      cases q with
      | tm t => exact h0.2.symm
      | bx s o => exact (h0.2 o).symm
      | fb f s o => exact (h0.2 f s o).symm
    simp only [Prog.runT, e, h1, Option.map_some]
  | bump q k ih =>
    intro σ τ b σ1 tr h hag
    simp only [Prog.runT, Option.map_eq_some_iff] at h
    obtain ⟨⟨b', σ1', tr'⟩, h, e⟩ := h
    simp only [Prod.mk.injEq] at e
    obtain ⟨rfl, rfl, rfl⟩ := e
    have h0 : agL σ τ q.loc := hag _ (Loc.hit_cons.2 (.inl (.inl rfl)))
    have hset : ∀ l, agL σ τ l → agL { σ with ver := (q, verOf σ.ver q + 1) :: σ.ver } { τ with ver := (q, verOf τ.ver q + 1) :: τ.ver } l := by
      intro l hl
      cases l with
      | tm t => exact ⟨hl.1, by simp only [ver_bump, hl.2]⟩
      | bx s => exact ⟨hl.1, fun o => by simp only [ver_bump, hl.2 o]⟩
      | fb => exact ⟨hl.1, fun f s o => by simp only [ver_bump, hl.2 f s o]⟩
      | mem => trivial
    obtain ⟨τ1, h1, h2, h3⟩ := ih { σ with ver := (q, verOf σ.ver q + 1) :: σ.ver } { τ with ver := (q, verOf τ.ver q + 1) :: τ.ver } _ _ _ h fun l hl => hset l (hag l (Loc.hit_cons.2 (.inr hl)))
    refine ⟨τ1, ?_, fun l hl => ?_, fun l hl => ?_⟩
    · simp only [Prog.runT, h1, Option.map_some]
    · by_cases hw : l.hit tr'.wr
      · exact h2 l hw
      · rcases Loc.hit_cons.1 hl with (rfl | ⟨e, _⟩) | hl
        · exact ((h3 _ hw).1.symm.trans (hset _ h0)).trans (h3 _ hw).2
        · cases q <;> cases e
        · exact absurd hl hw
    · have hn : ¬ l.hit tr'.wr := fun h => hl (Loc.hit_cons.2 (.inr h))
      have hne : l ≠ q.loc := fun e => hl (Loc.hit_cons.2 (.inl (.inl e)))
      have hs : ∀ υ : St, agL υ { υ with ver := (q, verOf υ.ver q + 1) :: υ.ver } l := by
        intro υ
        cases l with
        | tm t => exact ⟨rfl, by rw [ver_bump, if_neg (fun e => hne (by rw [← e]; rfl))]⟩
        | bx s => exact ⟨rfl, fun o => by rw [ver_bump, if_neg (fun e => hne (by rw [← e]; rfl))]⟩
        | fb => exact ⟨rfl, fun f s o => by rw [ver_bump, if_neg (fun e => hne (by rw [← e]; rfl))]⟩
        | mem => trivial
      exact ⟨(hs σ).trans (h3 l hn).1, (hs τ).trans (h3 l hn).2⟩
end Go.Pv

/- Regions that draw their order: whatever order is drawn, the text's is as good. -/
namespace Go.Pv
open Go.RowKit
variable {P : Program} {B fr : Nat} {G : Gh} {σ σ' τ : St} {act : Act} {w w' : World} {C : Callee} {K : Act → World → Prop} {Q : Exit → Act → World → Prop} {H : Hint} {ops : Array Oper}

/-- With its trace or without. -/
theorem run_of_runT {α : Type} (m : Prog α) : ∀ (σ : St) a σ1 tr, m.runT C σ = some (a, σ1, tr) → m.run C σ = some (.ok a, σ1) := by
  induction m with
  | ret a =>
    intro σ b σ1 tr h
    simp only [Prog.runT, Option.some.injEq, Prod.mk.injEq] at h
    obtain ⟨rfl, rfl, rfl⟩ := h
    rfl
  | fail => intro σ b σ1 tr h; cases h
  | panic x => intro σ b σ1 tr h; cases h
  | getT t k ih | getB t k ih | getF f t k ih | getV t k ih | bump t k ih | putF f s c k ih =>
    intro σ b σ1 tr h
    simp only [Prog.runT, Option.map_eq_some_iff] at h
    obtain ⟨⟨b', σ1', tr'⟩, h, e⟩ := h
    simp only [Prod.mk.injEq] at e
    obtain ⟨rfl, rfl, rfl⟩ := e
    first | exact ih _ _ _ _ _ h | exact ih _ _ _ _ h
  | putT t d k ih | putB t d k ih =>
    intro σ b σ1 tr h
    simp only [Prog.runT] at h
    simp only [Prog.run]
    split at h
    · rename_i hlt
      rw [if_pos hlt]
      simp only [Option.map_eq_some_iff] at h
      obtain ⟨⟨b', σ1', tr'⟩, h, e⟩ := h
      simp only [Prod.mk.injEq] at e
      obtain ⟨rfl, rfl, rfl⟩ := e
      exact ih _ _ _ _ h
    · cases h
  | call g as k ih =>
    intro σ b σ1 tr h
    simp only [Prog.runT] at h
    simp only [Prog.run]
    cases hc : C g as [] with
    | none => rw [hc] at h; cases h
    | some r =>
      rw [hc] at h
      simp only [Option.bind_some] at h ⊢
      cases hr : r.1 with
      | pan x => rw [hr] at h; cases h
      | val d =>
        rw [hr] at h
        exact ih d _ _ _ _ h
  | callF g as k ih =>
    intro σ b σ1 tr h
    simp only [Prog.runT] at h
    simp only [Prog.run]
    cases hc : C g (liftL σ.fr.length as) (liftF σ.fr.length (σ.fr ++ [σ.bx])) with
    | none => rw [hc] at h; cases h
    | some r =>
      rw [hc] at h
      simp only [Option.bind_some] at h ⊢
      cases hr : r.1 with
      | pan x => rw [hr] at h; cases h
      | val d =>
        rw [hr] at h
        simp only [Option.map_eq_some_iff] at h
        obtain ⟨⟨b', σ1', tr'⟩, h, e⟩ := h
        simp only [Prod.mk.injEq] at e
        obtain ⟨rfl, rfl, rfl⟩ := e
        exact ih _ _ _ _ _ h

/-! ### what comes before -/
theorem befs_prefix (l : List Oper) (acc : List Nat) : ∀ i, i < acc.length → (befs l acc).getD i 0 = acc.getD i 0 := by
  induction l generalizing acc with
  | nil => intro i _; rfl
  | cons o l ih =>
    intro i hi
    rw [befs, ih _ i (by rw [List.length_append]; omega)]
    simp [List.getD_eq_getElem?_getD, List.getElem?_append_left hi]
theorem predsOf_bit {acc : List Nat} {es : List Edge} {s0 j : Nat} (h : (es.foldl (fun s e => if Region.binds .any e then s ||| 2 ^ e.on ||| acc.getD e.on 0 else s) s0).testBit j = true) :
    s0.testBit j = true ∨ ∃ e ∈ es, Region.binds .any e = true ∧ (j = e.on ∨ (acc.getD e.on 0).testBit j = true) := by
  induction es generalizing s0 with
  | nil => exact .inl h
  | cons e es ih =>
    rw [List.foldl_cons] at h
    rcases ih h with h | ⟨e', he', h⟩
    · split at h
      · rename_i hb
        simp only [Nat.testBit_or, Bool.or_eq_true, Nat.testBit_two_pow, decide_eq_true_eq] at h
        rcases h with (h | h) | h
        · exact .inl h
        · exact .inr ⟨e, List.mem_cons_self, hb, .inl h.symm⟩
        · exact .inr ⟨e, List.mem_cons_self, hb, .inr h⟩
      · exact .inl h
    · exact .inr ⟨e', List.mem_cons_of_mem _ he', h⟩
/-- Whatever comes before is named, or comes before what is named. -/
theorem befs_bit {l : List Oper} {acc : List Nat} (k : Nat) : ∀ {i : Nat} {o : Oper}, acc.length = k → l[i]? = some o → ∀ {j : Nat}, ((befs l acc).getD (k + i) 0).testBit j = true →
    ∃ e ∈ o.after.toList, Region.binds .any e = true ∧ (j = e.on ∨ ((befs l acc).getD e.on 0).testBit j = true) := by
  induction l generalizing acc k with
  | nil => intro i o _ h; simp at h
  | cons a l ih =>
    intro i o hk h j hj
    cases i with
    | zero =>
      simp only [List.getElem?_cons_zero, Option.some.injEq] at h
      subst h
      rw [befs, befs_prefix _ _ _ (by rw [List.length_append]; simp; omega)] at hj
      have e1 : (acc ++ [predsOf acc a]).getD (k + 0) 0 = predsOf acc a := by
        subst hk; simp [List.getD_eq_getElem?_getD]
      rw [e1] at hj
      rcases predsOf_bit hj with h | ⟨e, he, hb, h⟩
      · simp at h
      · refine ⟨e, he, hb, h.imp id fun h => ?_⟩
        have hl : e.on < acc.length := by
          rcases Nat.lt_or_ge e.on acc.length with hl | hl
          · exact hl
          · rw [List.getD_eq_getElem?_getD, List.getElem?_eq_none hl] at h; simp at h
        rw [befs, befs_prefix _ _ _ (by rw [List.length_append]; omega)]
        rw [List.getD_eq_getElem?_getD, List.getElem?_append_left hl, ← List.getD_eq_getElem?_getD]
        exact h
    | succ i =>
      rw [befs] at hj ⊢
      rw [show k + (i + 1) = (k + 1) + i by omega] at hj
      exact ih (k + 1) (by simp [hk]) (by simpa using h) hj
theorem backs_at {l : List Oper} {k : Nat} (h : backs l k = true) : ∀ {i : Nat} {o : Oper}, l[i]? = some o → ∀ e ∈ o.after.toList, Region.binds .any e = true → e.on < k + i := by
  induction l generalizing k with
  | nil => intro i o h; simp at h
  | cons a l ih =>
    intro i o hi e he hb
    simp only [backs, Bool.and_eq_true] at h
    cases i with
    | zero =>
      simp only [List.getElem?_cons_zero, Option.some.injEq] at hi
      subst hi
      have := List.all_eq_true.1 h.1 e he
      simpa [hb] using this
    | succ i =>
      have := ih h.2 (i := i) (by simpa using hi) e he hb
      omega

/-! ### the text's order, state by state -/
theorem runTr_at {l : List Oper} {trs : List Tr} (h : runTr P H C ops l σ = some (trs, σ')) : trs.length = l.length ∧ ∃ s : Nat → St, s 0 = σ ∧ s l.length = σ' ∧
    ∀ (i : Nat) o, l[i]? = some o → ∃ tr, trs[i]? = some tr ∧ (gStep P H ops o).runT C (s i) = some ((), s (i + 1), tr) := by
  induction l generalizing σ trs with
  | nil =>
    simp only [runTr, Option.some.injEq, Prod.mk.injEq] at h
    obtain ⟨rfl, rfl⟩ := h
    exact ⟨rfl, fun _ => σ, rfl, rfl, fun i o h => by simp at h⟩
  | cons o l ih =>
    simp only [runTr] at h
    split at h
    · rename_i u σ1 tr h1
      simp only [Option.map_eq_some_iff] at h
      obtain ⟨⟨trs', σ2⟩, h2, e⟩ := h
      simp only [Prod.mk.injEq] at e
      obtain ⟨rfl, rfl⟩ := e
      obtain ⟨a, s, b, c, d⟩ := ih h2
      refine ⟨by simp [a], fun i => match i with | 0 => σ | i + 1 => s i, rfl, c, fun i o' ho => ?_⟩
      cases i with
      | zero =>
        simp only [List.getElem?_cons_zero, Option.some.injEq] at ho
        subst ho
        exact ⟨tr, rfl, by rw [h1]; show some ((), σ1, tr) = some ((), s 0, tr); rw [b]⟩
      | succ i =>
        obtain ⟨tr', h3, h4⟩ := d i o' (by simpa using ho)
        exact ⟨tr', by simpa using h3, h4⟩
    · cases h

theorem meets_of {a b : Tr} {l : Loc} (_hl : l ≠ .mem) (h : (l.hit a.wr ∧ (l.hit b.rd ∨ l.hit b.wr)) ∨ (l.hit a.rd ∧ l.hit b.wr)) : a.meets b = true := by
  have key : ∀ {xs ys : List Loc}, l.hit xs → l.hit ys → ∃ x ∈ xs, ∃ y ∈ ys, x.meets y = true := by
    rintro xs ys ⟨x, hx, h1⟩ ⟨y, hy, h2⟩
    refine ⟨x, hx, y, hy, ?_⟩
    rcases h1 with rfl | ⟨rfl, hm⟩
    · rcases h2 with rfl | ⟨rfl, hm⟩
      · simp [Loc.meets]
      · simp [Loc.meets, hm]
    · rcases h2 with rfl | ⟨rfl, _⟩
      · simp [Loc.meets, hm]
      · simp [Loc.meets]
  simp only [Tr.meets, Bool.or_eq_true, List.any_eq_true]
  rcases h with ⟨h1, h2 | h2⟩ | ⟨h1, h2⟩
  · obtain ⟨x, hx, y, hy, hm⟩ := key h1 h2
    exact .inl ⟨x, hx, .inl ⟨y, hy, hm⟩⟩
  · obtain ⟨x, hx, y, hy, hm⟩ := key h1 h2
    exact .inl ⟨x, hx, .inr ⟨y, hy, hm⟩⟩
  · obtain ⟨x, hx, y, hy, hm⟩ := key h1 h2
    exact .inr ⟨x, hx, y, hy, hm⟩

theorem Sim.drawn (S : Sim B fr G σ act w) (n : Nat) : Sim B fr G σ act { w with drawn := n } ∧ Step fr G w G { w with drawn := n } := by
  have hc : Closed fun _ => True := fun _ _ _ => trivial
  have K : Keep fr G σ.verAt w G σ.verAt { w with drawn := n } (fun _ => True) (fun _ _ => True) :=
    ⟨Nat.le_refl _, fun _ _ h => h, fun _ _ _ => rfl, fun _ _ h _ => ⟨h, rfl⟩, fun _ => Nat.le_refl _, fun _ _ => rfl, fun _ _ _ _ => rfl, fun _ _ h => ⟨h, rfl⟩, fun _ _ _ _ => ⟨rfl, rfl⟩⟩
  exact ⟨S.upd K hc S.len (fun t d h => .inl ⟨h, rfl, fun _ => trivial⟩) (fun s c h _ => .inl ⟨h, trivial, fun _ _ _ _ => trivial⟩) S.bxn (fun f b h s c hc _ => .inl ⟨⟨b, h, hc⟩, trivial, fun _ _ _ _ => trivial⟩) S.frl S.alf S.alt S.old S.dfs,
    ⟨rfl, rfl, rfl, Nat.le_refl _, fun _ _ h => ⟨h, rfl⟩, fun _ h => ⟨h, rfl⟩, fun _ _ _ h _ _ => ⟨h, rfl⟩, fun _ _ _ h => ⟨h, rfl⟩⟩⟩

theorem draw_ok (hm : P.follows .mixedOrders = true) (hC : Good P C) : DrawOk P C := by
  intro H B fr G σ σ' act w Q ops trs id S h hord hK
  obtain ⟨hlen, s, hs0, hsn, hstep⟩ := runTr_at h
  have hn : ops.toList.length = ops.size := by simp
  simp only [orderly, Bool.and_eq_true, List.all_eq_true, List.mem_range] at hord
  obtain ⟨hback, hord⟩ := hord
  let bef := befs ops.toList []
  let T : Nat → Tr := fun i => trs.getD i ⟨[], []⟩
  -- who meets comes before
  have hmeet : ∀ i j (l : Loc), i < j → j < ops.size → l ≠ .mem → ((l.hit (T i).wr ∧ (l.hit (T j).rd ∨ l.hit (T j).wr)) ∨ (l.hit (T i).rd ∧ l.hit (T j).wr)) → (bef.getD j 0).testBit i = true := by
    intro i j l hij hj hl hh
    have := hord j (by rw [hlen, hn]; exact hj) i hij
    rw [show (trs.getD i ⟨[], []⟩).meets (trs.getD j ⟨[], []⟩) = true from meets_of hl hh] at this
    simpa using this
  have hT : ∀ i o, ops[i]? = some o → (gStep P H ops o).runT C (s i) = some ((), s (i + 1), T i) := by
    intro i o ho
    obtain ⟨tr, h1, h2⟩ := hstep i o (by simpa using ho)
    have : T i = tr := by simp [T, List.getD_eq_getElem?_getD, h1]
    rw [this]; exact h2
  -- what is not written stays
  have hstay : ∀ (l : Loc) i, i < ops.size → ¬ l.hit (T i).wr → agL (s i) (s (i + 1)) l := by
    intro l i hi hl
    obtain ⟨τ1, h1, h2, h3⟩ := frm C _ (s i) (s i) _ _ _ (hT i _ (Array.getElem?_eq_getElem hi)) fun _ _ => agL.rfl'
    exact (h3 l hl).1
  have hchain : ∀ (l : Loc) m k, m ≤ k → k ≤ ops.size → (∀ j, m ≤ j → j < k → ¬ l.hit (T j).wr) → agL (s m) (s k) l := by
    intro l m k hmk
    induction hmk with
    | refl => intro _ _; exact agL.rfl'
    | step hmk ih =>
      rename_i k
      intro hk hj
      exact (ih (by omega) fun j a b => hj j a (by omega)).trans (hstay l k (by omega) (hj k hmk (by omega)))
  -- the law, for any set that is listed
  have main : ∀ fuel (listed : Array Bool) (τ : St) (G1 : Gh) (a1 : Act) (w1 : World), listed.size = ops.size →
      (∀ k, listed.getD k false = true → ∀ j, (bef.getD k 0).testBit j = true → listed.getD j false = true) →
      (∀ l : Loc, l ≠ .mem → ∃ m, m ≤ ops.size ∧ agL τ (s m) l ∧ (∀ j, listed.getD j false = true → l.hit (T j).wr → j < m) ∧ (m = 0 ∨ listed.getD (m - 1) false = true ∧ l.hit (T (m - 1)).wr)) →
      (listed.toList.countP (fun b => !b)) ≤ fuel →
      Sim B fr G1 τ a1 w1 → Step fr G w G1 w1 → wpAny P .any ops Q fuel listed a1 w1 := by
    intro fuel
    have hdone : ∀ (listed : Array Bool) (τ : St) (G1 : Gh) (a1 : Act) (w1 : World), listed.size = ops.size →
      (∀ l : Loc, l ≠ .mem → ∃ m, m ≤ ops.size ∧ agL τ (s m) l ∧ (∀ j, listed.getD j false = true → l.hit (T j).wr → j < m) ∧ (m = 0 ∨ listed.getD (m - 1) false = true ∧ l.hit (T (m - 1)).wr)) →
      Region.ready .any ops listed = [] → Sim B fr G1 τ a1 w1 → Step fr G w G1 w1 → Q .normal a1 w1 := by
      intro listed τ G1 a1 w1 hsz hinv hr S1 st1
      have hall : ∀ k, k < ops.size → listed.getD k false = true := by
        intro k
        induction k using Nat.strongRecOn with
        | ind k ih =>
          intro hk
          cases hlk : listed.getD k false with
          | true => rfl
          | false =>
            have hmem : k ∈ Region.ready .any ops listed := by
              rw [mem_ready]
              refine ⟨?_, ops[k], Array.getElem?_eq_getElem hk, fun e he hb => ?_⟩
              · have hk' : k < listed.size := by omega
                simp only [Array.getD, hk', dif_pos] at hlk ⊢
                exact hlk
              · have hlt := backs_at hback (i := k) (o := ops[k]) (by simp [hk]) e (by simpa using he) hb
                exact ih e.on (by omega) (by omega)
            rw [hr] at hmem
            cases hmem
      have hag : ∀ l, l ≠ .mem → agL τ σ' l := by
        intro l hlm
        obtain ⟨m, hm1, hm2, hm3, _⟩ := hinv l hlm
        refine hm2.trans ?_
        rw [← hsn, hn]
        exact hchain l m _ hm1 (Nat.le_refl _) fun j h1 h2 h3 => by
          have := hm3 j (hall j h2) h3
          omega
      have e1 : τ.tm = σ'.tm := List.ext_getElem? fun t => (hag (.tm t) (by simp)).1
      have e2 : τ.bx = σ'.bx := List.ext_getElem? fun t => (hag (.bx t) (by simp)).1
      have e3 : τ.fr = σ'.fr := (hag .fb (by simp)).1
      have e4 : τ.over = σ'.over := by simp only [St.over, e1, e2, e3]
      have := S1.over
      rw [e4] at this
      obtain ⟨G2, S2, st2⟩ := this.seam H
      exact hK _ _ _ S2 ((st1.trans (Step.anew _)).trans st2)
    induction fuel with
    | zero =>
      intro listed τ G1 a1 w1 hsz hdn hinv hcount S1 st1
      have hr : Region.ready .any ops listed = [] := by
        refine List.eq_nil_iff_forall_not_mem.2 fun i hi => ?_
        obtain ⟨h1, o, ho, _⟩ := mem_ready.1 hi
        have hi' : i < listed.size := by rw [hsz]; exact (Array.getElem?_eq_some_iff.1 ho).1
        have h2 : listed[i] ∈ listed.toList := by simp
        have h3 : listed.toList.countP (fun b => !b) = 0 := by omega
        have h4 := List.countP_eq_zero.1 h3 _ h2
        simp only [Array.getD, hi', dif_pos] at h1
        have h5 : listed[i] = false := h1
        rw [h5] at h4
        exact h4 rfl
      exact ⟨hr, hdone listed τ G1 a1 w1 hsz hinv hr S1 st1⟩
    | succ fuel ih =>
      intro listed τ G1 a1 w1 hsz hdn hinv hcount S1 st1
      refine ⟨fun hr => hdone listed τ G1 a1 w1 hsz hinv hr S1 st1, fun i hi => ?_⟩
      obtain ⟨hun, o, ho, hafter⟩ := mem_ready.1 hi
      have hio : i < ops.size := (Array.getElem?_eq_some_iff.1 ho).1
      have hil : i < listed.size := by omega
      have hunf : listed.getD i false = false := by
        simp only [Array.getD, hil, dif_pos] at hun ⊢
        exact hun
      -- all that comes before i is listed
      have hbefore : ∀ j, (bef.getD i 0).testBit j = true → listed.getD j false = true := by
        intro j hj
        obtain ⟨e, he, hb, h⟩ := befs_bit 0 (l := ops.toList) (acc := []) (i := i) (o := o) rfl (by simpa using ho) (by rw [Nat.zero_add]; exact hj)
        have h1 := hafter e (by simpa using he) hb
        rcases h with rfl | h
        · exact h1
        · exact hdn _ h1 j h
      have hlater : ∀ (l : Loc) k, l ≠ .mem → listed.getD k false = true → ((l.hit (T i).wr ∧ (l.hit (T k).rd ∨ l.hit (T k).wr)) ∨ (l.hit (T i).rd ∧ l.hit (T k).wr)) → k < i := by
        intro l k hl hk hh
        have hks : k < ops.size := by
          rcases Nat.lt_or_ge k listed.size with h | h
          · omega
          · simp [Array.getD, Nat.not_lt.2 h] at hk
        rcases Nat.lt_trichotomy k i with h | h | h
        · exact h
        · subst h; rw [hunf] at hk; cases hk
        · have := hdn k hk i (hmeet i k l h hks hl hh)
          rw [hunf] at this
          cases this
      have hread : ∀ l, l.hit (T i).rd → agL (s i) τ l := by
        intro l hl
        by_cases hlm : l = .mem
        · subst hlm; trivial
        obtain ⟨m, hm1, hm2, hm3, hm4⟩ := hinv l hlm
        have hmi : m ≤ i := by
          rcases hm4 with rfl | ⟨h1, h2⟩
          · omega
          · have := hlater l (m - 1) hlm h1 (.inr ⟨hl, h2⟩)
            omega
        refine (hm2.trans (hchain l m i hmi (by omega) fun j h1 h2 h3 => ?_)).symm
        have := hm3 j (hbefore j (hmeet j i l h2 hio hlm (.inl ⟨h3, .inl hl⟩))) h3
        omega
      obtain ⟨τ1, ht1, ht2, ht3⟩ := frm C _ (s i) τ _ _ _ (hT i o ho) hread
      have hrun := run_of_runT (C := C) _ _ _ _ _ ht1
      have hget : ∀ k, (listed.setIfInBounds i true).getD k false = true ↔ (k = i ∨ listed.getD k false = true) := by
        intro k
        by_cases e : k = i
        · subst e; simp [hil]
        · simp [Array.getElem?_setIfInBounds_ne (Ne.symm e), e]
      have hnext : ∀ G2 a2 w2, Sim B fr G2 τ1 a2 w2 → Step fr G1 w1 G2 w2 → wpAny P .any ops Q fuel (listed.setIfInBounds i true) a2 w2 := by
        intro G2 a2 w2 S2 st2
        refine ih _ τ1 G2 a2 w2 (by simpa using hsz) (fun k hk j hj => ?_) (fun l => ?_) ?_ S2 (st1.trans st2)
        · rw [hget] at hk ⊢
          rcases hk with rfl | hk
          · exact .inr (hbefore j hj)
          · exact .inr (hdn k hk j hj)
        · intro hlm
          by_cases hlw : l.hit (T i).wr
          · refine ⟨i + 1, hio, (ht2 l hlw).symm, fun j hj hjw => ?_, .inr ⟨(hget _).2 (.inl (by omega)), by simpa using hlw⟩⟩
            rcases (hget j).1 hj with rfl | hj
            · omega
            · have := hlater l j hlm hj (.inl ⟨hlw, .inr hjw⟩)
              omega
          · obtain ⟨m, hm1, hm2, hm3, hm4⟩ := hinv l hlm
            refine ⟨m, hm1, (ht3 l hlw).2.symm.trans hm2, fun j hj hjw => ?_, hm4.imp (fun h => h) fun ⟨a, b⟩ => ⟨(hget _).2 (.inr a), b⟩⟩
            rcases (hget j).1 hj with rfl | hj
            · exact absurd hjw hlw
            · exact hm3 j hj hjw
        · have e : (listed.setIfInBounds i true).toList = listed.toList.set i true := by simp
          have hl2 : listed.toList[i]'(by simpa using hil) = false := by
            simp only [Array.getD, hil, dif_pos] at hunf
            simpa using hunf
          have h0 : 0 < listed.toList.countP (fun b => !b) := List.countP_pos_iff.2 ⟨false, by rw [← hl2]; exact List.getElem_mem _, rfl⟩
          rw [e, List.countP_set (by simpa using hil), hl2]
          simp
          simp at h0 hcount
          omega
      unfold wpOp
      rw [ho]
      simp only
      have hg := op_guard (K := wpAny P .any ops Q fuel (listed.setIfInBounds i true)) (Q := Q) hC S1 hrun fun G2 a2 w2 S2 st2 => hnext G2 a2 w2 S2 st2
      split at hg
      · rename_i hw
        rw [if_pos hw]
        exact .inl hg
      · rename_i hw
        rw [if_neg hw]
        exact hg
  refine wp_region_any hm ?_
  obtain ⟨S1, st1⟩ := S.drawn (w.drawn + 1)
  refine main _ _ σ G act _ (by simp) (fun k hk => ?_) (fun l _ => ⟨0, Nat.zero_le _, by rw [hs0]; exact agL.rfl', fun j hj => ?_, .inl rfl⟩) ?_ S1 st1
  · simp [Array.getElem?_replicate] at hk
    split at hk <;> simp at hk
  · simp [Array.getElem?_replicate] at hj
    split at hj <;> simp at hj
  · refine Nat.le_trans (List.countP_le_length) (by simp)
end Go.Pv

/- The limit over fuel: equations without fuel. -/
namespace Go.Pv
open Go.RowKit

/-! ### more fuel answers no less -/
def Callee.le (C C' : Callee) : Prop := ∀ f a fr r, C f a fr = some r → C' f a fr = some r
theorem Callee.le_refl (C : Callee) : C.le C := fun _ _ _ _ h => h
/-- A family that grows, and its limit. -/
structure Lim (Cs : Nat → Callee) (C : Callee) : Prop where
  up : ∀ j k, j ≤ k → (Cs j).le (Cs k)
  lim : ∀ f a fr r, C f a fr = some r → ∃ k, Cs k f a fr = some r
  sup : ∀ k, (Cs k).le C
variable {P : Program} {H : Hint} {C C' : Callee} {Cs : Nat → Callee} {ops : Array Oper}

theorem run_le {α : Type} (h : C.le C') (m : Prog α) : ∀ (σ : St) r, m.run C σ = some r → m.run C' σ = some r := by
  induction m with
  | ret a => exact fun _ _ h => h
  | fail => exact fun _ _ h => h
  | panic x => exact fun _ _ h => h
  | getT t k ih | getB t k ih | getF f t k ih | getV t k ih => exact fun σ r h => ih _ σ r h
  | putF f s c k ih | bump q k ih => exact fun σ r h => ih _ r h
  | putT t d k ih | putB t d k ih =>
    intro σ r hr
    simp only [Prog.run] at hr ⊢
    split at hr
    · rename_i hlt; rw [if_pos hlt]; exact ih _ r hr
    · cases hr
  | call g as k ih =>
    intro σ r hr
    simp only [Prog.run] at hr ⊢
    cases hc : C g as [] with
    | none => rw [hc] at hr; cases hr
    | some x =>
      rw [hc] at hr
      rw [h _ _ _ _ hc]
      simp only [Option.bind_some] at hr ⊢
      cases hx : x.1 with
      | val d => rw [hx] at hr; exact ih d σ r hr
      | pan y => rw [hx] at hr; exact hr
  | callF g as k ih =>
    intro σ r hr
    simp only [Prog.run] at hr ⊢
    cases hc : C g (liftL σ.fr.length as) (liftF σ.fr.length (σ.fr ++ [σ.bx])) with
    | none => rw [hc] at hr; cases hr
    | some x =>
      rw [hc] at hr
      rw [h _ _ _ _ hc]
      simp only [Option.bind_some] at hr ⊢
      cases hx : x.1 with
      | val d => rw [hx] at hr; exact ih _ _ r hr
      | pan y => rw [hx] at hr; exact hr
theorem runT_le {α : Type} (h : C.le C') (m : Prog α) : ∀ (σ : St) r, m.runT C σ = some r → m.runT C' σ = some r := by
  induction m with
  | ret a => exact fun _ _ h => h
  | fail => exact fun _ _ h => h
  | panic x => exact fun _ _ h => h
  | getT t k ih | getB t k ih | getF f t k ih | getV t k ih =>
    intro σ r hr
    simp only [Prog.runT, Option.map_eq_some_iff] at hr ⊢
    obtain ⟨x, hx, e⟩ := hr
    exact ⟨x, ih _ σ x hx, e⟩
  | putF f s c k ih | bump q k ih =>
    intro σ r hr
    simp only [Prog.runT, Option.map_eq_some_iff] at hr ⊢
    obtain ⟨x, hx, e⟩ := hr
    exact ⟨x, ih _ x hx, e⟩
  | putT t d k ih | putB t d k ih =>
    intro σ r hr
    simp only [Prog.runT] at hr ⊢
    split at hr
    · rename_i hlt
      rw [if_pos hlt]
      simp only [Option.map_eq_some_iff] at hr ⊢
      obtain ⟨x, hx, e⟩ := hr
      exact ⟨x, ih _ x hx, e⟩
    · cases hr
  | call g as k ih =>
    intro σ r hr
    simp only [Prog.runT] at hr ⊢
    cases hc : C g as [] with
    | none => rw [hc] at hr; cases hr
    | some x =>
      rw [hc] at hr
      rw [h _ _ _ _ hc]
      simp only [Option.bind_some] at hr ⊢
      cases hx : x.1 with
      | val d => rw [hx] at hr; exact ih d σ r hr
      | pan y => rw [hx] at hr; exact hr
  | callF g as k ih =>
    intro σ r hr
    simp only [Prog.runT] at hr ⊢
    cases hc : C g (liftL σ.fr.length as) (liftF σ.fr.length (σ.fr ++ [σ.bx])) with
    | none => rw [hc] at hr; cases hr
    | some x =>
      rw [hc] at hr
      rw [h _ _ _ _ hc]
      simp only [Option.bind_some] at hr ⊢
      cases hx : x.1 with
      | val d =>
        rw [hx] at hr
        simp only [Option.map_eq_some_iff] at hr ⊢
        obtain ⟨y, hy, e⟩ := hr
        exact ⟨y, ih _ _ y hy, e⟩
      | pan y => rw [hx] at hr; exact hr
theorem runOps_le (h : C.le C') : ∀ (l : List Oper) (σ : St) r, runOps P H C ops l σ = some r → runOps P H C' ops l σ = some r := by
  intro l
  induction l with
  | nil => exact fun _ _ h => h
  | cons o l ih =>
    intro σ r hr
    simp only [runOps] at hr ⊢
    split at hr
    · rename_i u σ1 h1
      rw [run_le h _ _ _ h1]
      exact ih _ _ hr
    · cases hr
theorem runTr_le (h : C.le C') : ∀ (l : List Oper) (σ : St) r, runTr P H C ops l σ = some r → runTr P H C' ops l σ = some r := by
  intro l
  induction l with
  | nil => exact fun _ _ h => h
  | cons o l ih =>
    intro σ r hr
    simp only [runTr] at hr ⊢
    split at hr
    · rename_i u σ1 tr h1
      rw [runT_le h _ _ _ h1]
      simp only [Option.map_eq_some_iff] at hr ⊢
      obtain ⟨y, hy, e⟩ := hr
      exact ⟨y, ih _ _ hy, e⟩
    · cases hr
theorem exec_le (h : C.le C') : ∀ (k k' : Nat) (c : Code) (σ : St) r, k ≤ k' → exec P H C k c σ = some r → exec P H C' k' c σ = some r := by
  intro k
  induction k with
  | zero => intro k' c σ r _ hr; simp [exec] at hr
  | succ k ih =>
    intro k' c σ r hk hr
    obtain ⟨k', rfl⟩ : ∃ j, k' = j + 1 := ⟨k' - 1, by omega⟩
    have hk' : k ≤ k' := by omega
    cases c with
    | skip => simp only [exec] at hr ⊢; exact hr
    | region id ops d =>
      cases d with
      | false =>
        simp only [exec, Option.map_eq_some_iff] at hr ⊢
        obtain ⟨x, hx, e⟩ := hr
        exact ⟨x, runOps_le h _ _ _ hx, e⟩
      | true =>
        simp only [exec] at hr ⊢
        split at hr
        · rename_i trs σ1 h1
          rw [runTr_le h _ _ _ h1]
          exact hr
        · cases hr
    | seq a b =>
      simp only [exec] at hr ⊢
      split at hr
      · rename_i σ1 h1
        rw [ih k' a σ _ hk' h1]
        exact ih k' b σ1 r hk' hr
      · rename_i hn
        rw [ih k' a σ _ hk' hr]
        split
        · rename_i σ1 e
          cases e
          exact absurd hr (hn σ1)
        · rfl
    | cond c a b =>
      simp only [exec] at hr ⊢
      split at hr
      · rename_i d σ1 h1
        rw [run_le h _ _ _ h1]
        simp only at hr ⊢
        split at hr
        · exact ih k' _ _ _ hk' hr
        · cases hr
      · cases hr
    | block id c =>
      simp only [exec] at hr ⊢
      split at hr
      · rename_i i σ1 h1
        rw [ih k' c σ _ hk' h1]
        exact hr
      · rename_i hn
        rw [ih k' c σ _ hk' hr]
        split
        · rename_i i σ1 e
          cases e
          exact absurd hr (hn i σ1)
        · rfl
    | loop c =>
      simp only [exec] at hr ⊢
      split at hr
      · rename_i σ1 h1
        rw [ih k' c _ _ hk' h1]
        exact ih k' _ _ _ hk' hr
      · rename_i o σ1 hn h1
        rw [ih k' c _ _ hk' h1]
        cases o with
        | normal => exact (hn rfl).elim
        | _ => exact hr
      · cases hr
    | exit id => simp only [exec] at hr ⊢; exact hr
    | ret => simp only [exec] at hr ⊢; exact hr
    | label l => simp only [exec] at hr ⊢; exact hr
    | _ => simp [exec] at hr
theorem call_le {R : Lore} : ∀ j k, j ≤ k → (call P R j).le (call P R k) := by
  intro j
  induction j with
  | zero => intro k _ f a fr r h; cases h
  | succ j ih =>
    intro k hk f a fr r h
    obtain ⟨k, rfl⟩ : ∃ i, k = i + 1 := ⟨k - 1, by omega⟩
    have hl := ih k (by omega)
    simp only [call, wrapC, Option.map_eq_some_iff] at h ⊢
    obtain ⟨r0, h, e⟩ := h
    refine ⟨r0, ?_, e⟩
    simp only [call1] at h ⊢
    split at h
    · rename_i s hs; exact h
    · rename_i hs
      split at h
      · rename_i fn hf
        split at h
        · rename_i c hc
          generalize hex : exec P (R.hint f) (call P R j) (j + 1) c _ = x at h
          cases x with
          | none => cases h
          | some y =>
            rw [exec_le hl _ (k + 1) _ _ _ (by omega) hex]
            exact h
        · cases h
      · cases h

/-! ### what is answered at the limit is answered on the way -/
theorem run_lim {α : Type} (L : Lim Cs C) (m : Prog α) : ∀ (σ : St) r, m.run C σ = some r → ∃ k, m.run (Cs k) σ = some r := by
  induction m with
  | ret a => exact fun _ _ h => ⟨0, h⟩
  | fail => intro σ r h; cases h
  | panic x => exact fun _ _ h => ⟨0, h⟩
  | getT t k ih | getB t k ih | getF f t k ih | getV t k ih => exact fun σ r h => ih _ σ r h
  | putF f s c k ih | bump q k ih => exact fun σ r h => ih _ r h
  | putT t d k ih | putB t d k ih =>
    intro σ r hr
    simp only [Prog.run] at hr ⊢
    split at hr
    · rename_i hlt
      obtain ⟨j, hj⟩ := ih _ r hr
      exact ⟨j, by rw [if_pos hlt]; exact hj⟩
    · cases hr
  | call g as k ih =>
    intro σ r hr
    simp only [Prog.run] at hr ⊢
    cases hc : C g as [] with
    | none => rw [hc] at hr; cases hr
    | some x =>
      rw [hc] at hr
      obtain ⟨i, hi⟩ := L.lim _ _ _ _ hc
      simp only [Option.bind_some] at hr
      cases hx : x.1 with
      | val d =>
        rw [hx] at hr
        obtain ⟨j, hj⟩ := ih d σ r hr
        refine ⟨max i j, ?_⟩
        rw [L.up i _ (Nat.le_max_left _ _) _ _ _ _ hi]
        simp only [Option.bind_some, hx]
        exact run_le (L.up j _ (Nat.le_max_right _ _)) _ _ _ hj
      | pan y =>
        rw [hx] at hr
        refine ⟨i, ?_⟩
        rw [hi]
        simp only [Option.bind_some, hx]
        exact hr
  | callF g as k ih =>
    intro σ r hr
    simp only [Prog.run] at hr ⊢
    cases hc : C g (liftL σ.fr.length as) (liftF σ.fr.length (σ.fr ++ [σ.bx])) with
    | none => rw [hc] at hr; cases hr
    | some x =>
      rw [hc] at hr
      obtain ⟨i, hi⟩ := L.lim _ _ _ _ hc
      simp only [Option.bind_some] at hr
      cases hx : x.1 with
      | val d =>
        rw [hx] at hr
        obtain ⟨j, hj⟩ := ih _ _ r hr
        refine ⟨max i j, ?_⟩
        rw [L.up i _ (Nat.le_max_left _ _) _ _ _ _ hi]
        simp only [Option.bind_some, hx]
        exact run_le (L.up j _ (Nat.le_max_right _ _)) _ _ _ hj
      | pan y =>
        rw [hx] at hr
        refine ⟨i, ?_⟩
        rw [hi]
        simp only [Option.bind_some, hx]
        exact hr
theorem runT_lim {α : Type} (L : Lim Cs C) (m : Prog α) : ∀ (σ : St) r, m.runT C σ = some r → ∃ k, m.runT (Cs k) σ = some r := by
  induction m with
  | ret a => exact fun _ _ h => ⟨0, h⟩
  | fail => intro σ r h; cases h
  | panic x => intro σ r h; cases h
  | getT t k ih | getB t k ih | getF f t k ih | getV t k ih =>
    intro σ r hr
    simp only [Prog.runT, Option.map_eq_some_iff] at hr ⊢
    obtain ⟨x, hx, e⟩ := hr
    obtain ⟨j, hj⟩ := ih _ σ x hx
    exact ⟨j, x, hj, e⟩
  | putF f s c k ih | bump q k ih =>
    intro σ r hr
    simp only [Prog.runT, Option.map_eq_some_iff] at hr ⊢
    obtain ⟨x, hx, e⟩ := hr
    obtain ⟨j, hj⟩ := ih _ x hx
    exact ⟨j, x, hj, e⟩
  | putT t d k ih | putB t d k ih =>
    intro σ r hr
    simp only [Prog.runT] at hr ⊢
    split at hr
    · rename_i hlt
      simp only [Option.map_eq_some_iff] at hr
      obtain ⟨x, hx, e⟩ := hr
      obtain ⟨j, hj⟩ := ih _ x hx
      exact ⟨j, by rw [if_pos hlt, hj]; simp [e]⟩
    · cases hr
  | call g as k ih =>
    intro σ r hr
    simp only [Prog.runT] at hr ⊢
    cases hc : C g as [] with
    | none => rw [hc] at hr; cases hr
    | some x =>
      rw [hc] at hr
      obtain ⟨i, hi⟩ := L.lim _ _ _ _ hc
      simp only [Option.bind_some] at hr
      cases hx : x.1 with
      | val d =>
        rw [hx] at hr
        obtain ⟨j, hj⟩ := ih d σ r hr
        refine ⟨max i j, ?_⟩
        rw [L.up i _ (Nat.le_max_left _ _) _ _ _ _ hi]
        simp only [Option.bind_some, hx]
        exact runT_le (L.up j _ (Nat.le_max_right _ _)) _ _ _ hj
      | pan y => rw [hx] at hr; cases hr
  | callF g as k ih =>
    intro σ r hr
    simp only [Prog.runT] at hr ⊢
    cases hc : C g (liftL σ.fr.length as) (liftF σ.fr.length (σ.fr ++ [σ.bx])) with
    | none => rw [hc] at hr; cases hr
    | some x =>
      rw [hc] at hr
      obtain ⟨i, hi⟩ := L.lim _ _ _ _ hc
      simp only [Option.bind_some] at hr
      cases hx : x.1 with
      | val d =>
        rw [hx] at hr
        simp only [Option.map_eq_some_iff] at hr
        obtain ⟨y, hy, e⟩ := hr
        obtain ⟨j, hj⟩ := ih _ _ y hy
        refine ⟨max i j, ?_⟩
        rw [L.up i _ (Nat.le_max_left _ _) _ _ _ _ hi]
        simp only [Option.bind_some, hx]
        rw [runT_le (L.up j _ (Nat.le_max_right _ _)) _ _ _ hj]
        simp [e]
      | pan y => rw [hx] at hr; cases hr
theorem runOps_lim (L : Lim Cs C) : ∀ (l : List Oper) (σ : St) r, runOps P H C ops l σ = some r → ∃ k, runOps P H (Cs k) ops l σ = some r := by
  intro l
  induction l with
  | nil => exact fun _ _ h => ⟨0, h⟩
  | cons o l ih =>
    intro σ r hr
    simp only [runOps] at hr ⊢
    split at hr
    · rename_i u σ1 h1
      obtain ⟨i, hi⟩ := run_lim L _ _ _ h1
      obtain ⟨j, hj⟩ := ih _ _ hr
      refine ⟨max i j, ?_⟩
      rw [run_le (L.up i _ (Nat.le_max_left _ _)) _ _ _ hi]
      exact runOps_le (L.up j _ (Nat.le_max_right _ _)) _ _ _ hj
    · cases hr
theorem runTr_lim (L : Lim Cs C) : ∀ (l : List Oper) (σ : St) r, runTr P H C ops l σ = some r → ∃ k, runTr P H (Cs k) ops l σ = some r := by
  intro l
  induction l with
  | nil => exact fun _ _ h => ⟨0, h⟩
  | cons o l ih =>
    intro σ r hr
    simp only [runTr] at hr ⊢
    split at hr
    · rename_i u σ1 tr h1
      simp only [Option.map_eq_some_iff] at hr
      obtain ⟨y, hy, e⟩ := hr
      obtain ⟨i, hi⟩ := runT_lim L _ _ _ h1
      obtain ⟨j, hj⟩ := ih _ _ hy
      refine ⟨max i j, ?_⟩
      rw [runT_le (L.up i _ (Nat.le_max_left _ _)) _ _ _ hi]
      simp only [runTr_le (L.up j _ (Nat.le_max_right _ _)) _ _ _ hj, Option.map_some, e]
    · cases hr
theorem exec_lim (L : Lim Cs C) : ∀ (k : Nat) (c : Code) (σ : St) r, exec P H C k c σ = some r → ∃ j, exec P H (Cs j) k c σ = some r := by
  intro k
  induction k with
  | zero => intro c σ r hr; simp [exec] at hr
  | succ k ih =>
    intro c σ r hr
    cases c with
    | skip => simp only [exec] at hr ⊢; exact ⟨0, hr⟩
    | region id ops d =>
      cases d with
      | false =>
        simp only [exec, Option.map_eq_some_iff] at hr ⊢
        obtain ⟨x, hx, e⟩ := hr
        obtain ⟨i, hi⟩ := runOps_lim L _ _ _ hx
        exact ⟨i, x, hi, e⟩
      | true =>
        simp only [exec] at hr ⊢
        split at hr
        · rename_i trs σ1 h1
          obtain ⟨i, hi⟩ := runTr_lim L _ _ _ h1
          exact ⟨i, by rw [hi]; exact hr⟩
        · cases hr
    | seq a b =>
      simp only [exec] at hr ⊢
      split at hr
      · rename_i σ1 h1
        obtain ⟨i, hi⟩ := ih _ _ _ h1
        obtain ⟨j, hj⟩ := ih _ _ _ hr
        refine ⟨max i j, ?_⟩
        rw [exec_le (L.up i _ (Nat.le_max_left _ _)) _ _ _ _ _ (Nat.le_refl _) hi]
        exact exec_le (L.up j _ (Nat.le_max_right _ _)) _ _ _ _ _ (Nat.le_refl _) hj
      · rename_i hn
        obtain ⟨i, hi⟩ := ih _ _ _ hr
        refine ⟨i, ?_⟩
        rw [hi]
        split
        · rename_i σ1 e
          cases e
          exact absurd hr (hn σ1)
        · rfl
    | cond c a b =>
      simp only [exec] at hr ⊢
      split at hr
      · rename_i d σ1 h1
        obtain ⟨i, hi⟩ := run_lim L _ _ _ h1
        split at hr
        · rename_i b' hb
          obtain ⟨j, hj⟩ := ih _ _ _ hr
          refine ⟨max i j, ?_⟩
          rw [run_le (L.up i _ (Nat.le_max_left _ _)) _ _ _ hi]
          simp only [hb]
          exact exec_le (L.up j _ (Nat.le_max_right _ _)) _ _ _ _ _ (Nat.le_refl _) hj
        · cases hr
      · cases hr
    | block id c =>
      simp only [exec] at hr ⊢
      split at hr
      · rename_i i σ1 h1
        obtain ⟨i, hi⟩ := ih _ _ _ h1
        exact ⟨i, by rw [hi]; exact hr⟩
      · rename_i hn
        obtain ⟨i, hi⟩ := ih _ _ _ hr
        refine ⟨i, ?_⟩
        rw [hi]
        split
        · rename_i i σ1 e
          cases e
          exact absurd hr (hn i σ1)
        · rfl
    | loop c =>
      simp only [exec] at hr ⊢
      split at hr
      · rename_i σ1 h1
        obtain ⟨i, hi⟩ := ih _ _ _ h1
        obtain ⟨j, hj⟩ := ih _ _ _ hr
        refine ⟨max i j, ?_⟩
        rw [exec_le (L.up i _ (Nat.le_max_left _ _)) _ _ _ _ _ (Nat.le_refl _) hi]
        exact exec_le (L.up j _ (Nat.le_max_right _ _)) _ _ _ _ _ (Nat.le_refl _) hj
      · rename_i o σ1 hn h1
        obtain ⟨i, hi⟩ := ih _ _ _ h1
        refine ⟨i, ?_⟩
        rw [hi]
        cases o with
        | normal => exact (hn rfl).elim
        | _ => exact hr
      · cases hr
    | exit id => simp only [exec] at hr ⊢; exact ⟨0, hr⟩
    | ret => simp only [exec] at hr ⊢; exact ⟨0, hr⟩
    | label l => simp only [exec] at hr ⊢; exact ⟨0, hr⟩
    | _ => simp [exec] at hr

/-! ### the limits -/
open Classical in
noncomputable def cO (P : Program) (R : Lore) : Callee := fun f a fr => if h : ∃ r k, call P R k f a fr = some r then some h.choose else none
open Classical in
noncomputable def eO (P : Program) (H : Hint) (C : Callee) (c : Code) (σ : St) : Option (Out × St) := if h : ∃ r k, exec P H C k c σ = some r then some h.choose else none
theorem cO_iff {R : Lore} {f : FuncId} {a : List D} {fr : Frames} {r : Res × Frames} : cO P R f a fr = some r ↔ ∃ k, call P R k f a fr = some r := by
  unfold cO
  constructor
  · intro h
    split at h
    · rename_i hx
      cases h
      exact hx.choose_spec
    · cases h
  · rintro ⟨k, hk⟩
    have hx : ∃ r k, call P R k f a fr = some r := ⟨r, k, hk⟩
    rw [dif_pos hx]
    obtain ⟨j, hj⟩ := hx.choose_spec
    have h1 := call_le j (max j k) (Nat.le_max_left _ _) _ _ _ _ hj
    have h2 := call_le k (max j k) (Nat.le_max_right _ _) _ _ _ _ hk
    rw [h1] at h2
    exact h2
theorem eO_iff {c : Code} {σ : St} {r : Out × St} : eO P H C c σ = some r ↔ ∃ k, exec P H C k c σ = some r := by
  unfold eO
  constructor
  · intro h
    split at h
    · rename_i hx
      cases h
      exact hx.choose_spec
    · cases h
  · rintro ⟨k, hk⟩
    have hx : ∃ r k, exec P H C k c σ = some r := ⟨r, k, hk⟩
    rw [dif_pos hx]
    obtain ⟨j, hj⟩ := hx.choose_spec
    have h1 := exec_le (Callee.le_refl C) j (max j k) _ _ _ (Nat.le_max_left _ _) hj
    have h2 := exec_le (Callee.le_refl C) k (max j k) _ _ _ (Nat.le_max_right _ _) hk
    rw [h1] at h2
    exact h2
theorem cO_lim {R : Lore} : Lim (call P R) (cO P R) := ⟨call_le, fun _ _ _ _ h => cO_iff.1 h, fun k _ _ _ _ h => cO_iff.2 ⟨k, h⟩⟩
theorem cO_good {R : Lore} (hm : P.follows .mixedOrders = true) (hT : ToldOk P R.told) : Good P (cO P R) := by
  intro f ds frs r frs' h
  obtain ⟨k, hk⟩ := cO_iff.1 h
  exact call_good (fun C hC => draw_ok hm hC) hT k f ds frs r frs' hk

/-! ### equations -/
def seqThen (r : Option (Out × St)) (k : St → Option (Out × St)) : Option (Out × St) := match r with | some (.normal, σ) => k σ | r => r
def blockThen (id : Nat) (r : Option (Out × St)) : Option (Out × St) := match r with | some (.exit i, σ) => if i = id then some (.normal, σ) else some (.exit i, σ) | r => r
theorem opt_ext {α : Type} {a b : Option α} (h : ∀ r, a = some r ↔ b = some r) : a = b := by
  cases a with
  | none => cases b with
    | none => rfl
    | some b => exact ((h b).2 rfl)
  | some a => exact ((h a).1 rfl).symm
theorem eO_skip (σ : St) : eO P H C .skip σ = some (.normal, σ) := eO_iff.2 ⟨1, rfl⟩
theorem eO_exit (i : Nat) (σ : St) : eO P H C (.exit i) σ = some (.exit i, σ) := eO_iff.2 ⟨1, rfl⟩
theorem eO_ret (σ : St) : eO P H C .ret σ = some (.ret, σ) := eO_iff.2 ⟨1, rfl⟩
theorem eO_label (l : Nat) (σ : St) : eO P H C (.label l) σ = some (.normal, σ) := eO_iff.2 ⟨1, rfl⟩
theorem eO_region (i : Nat) (ops : Array Oper) (σ : St) : eO P H C (.region i ops false) σ = (runOps P H C ops ops.toList σ).map fun r => (r.1, r.2.over.seam H) := by
  refine opt_ext fun r => ?_
  rw [eO_iff]
  constructor
  · rintro ⟨k, hk⟩
    cases k with
    | zero => simp [exec] at hk
    | succ k => simpa only [exec] using hk
  · intro h
    exact ⟨1, by simpa only [exec] using h⟩
def drawThen (H : Hint) (ops : Array Oper) (r : Option (List Tr × St)) : Option (Out × St) :=
  match r with
  | some (trs, σ) => if orderly ops trs then some (.normal, σ.over.seam H) else none
  | none => none
theorem eO_draw (i : Nat) (ops : Array Oper) (σ : St) : eO P H C (.region i ops true) σ = drawThen H ops (runTr P H C ops ops.toList σ) := by
  refine opt_ext fun r => ?_
  rw [eO_iff]
  constructor
  · rintro ⟨k, hk⟩
    cases k with
    | zero => simp [exec] at hk
    | succ k => simp only [exec] at hk; exact hk
  · intro h
    exact ⟨1, by simp only [exec]; exact h⟩
theorem eO_seq (a b : Code) (σ : St) : eO P H C (.seq a b) σ = seqThen (eO P H C a σ) (eO P H C b) := by
  refine opt_ext fun r => ?_
  rw [eO_iff]
  constructor
  · rintro ⟨k, hk⟩
    cases k with
    | zero => simp [exec] at hk
    | succ k =>
      simp only [exec] at hk
      split at hk
      · rename_i σ1 h1
        rw [eO_iff.2 ⟨k, h1⟩]
        exact eO_iff.2 ⟨k, hk⟩
      · rename_i hn
        rw [eO_iff.2 ⟨k, hk⟩]
        unfold seqThen
        split
        · rename_i σ1 e; cases e; exact absurd hk (hn σ1)
        · rfl
  · intro h
    unfold seqThen at h
    split at h
    · rename_i σ1 h1
      obtain ⟨i, hi⟩ := eO_iff.1 h1
      obtain ⟨j, hj⟩ := eO_iff.1 h
      refine ⟨max i j + 1, ?_⟩
      simp only [exec]
      rw [exec_le (Callee.le_refl C) i (max i j) _ _ _ (Nat.le_max_left _ _) hi]
      exact exec_le (Callee.le_refl C) j (max i j) _ _ _ (Nat.le_max_right _ _) hj
    · rename_i hn
      obtain ⟨i, hi⟩ := eO_iff.1 h
      refine ⟨i + 1, ?_⟩
      simp only [exec]
      rw [hi]
      split
      · rename_i σ1 e; cases e; exact absurd h (hn σ1)
      · rfl
def condThen (r : Option (Except T D × St)) (a b : St → Option (Out × St)) : Option (Out × St) :=
  match r with
  | some (.ok d, σ) => (match d.bool? with | some b' => if b' then a σ else b σ | none => none)
  | _ => none
theorem eO_cond (c : Operand) (a b : Code) (σ : St) : eO P H C (.cond c a b) σ = condThen ((rd c).run C σ) (eO P H C a) (eO P H C b) := by
  refine opt_ext fun r => ?_
  rw [eO_iff]
  constructor
  · rintro ⟨k, hk⟩
    cases k with
    | zero => simp [exec] at hk
    | succ k =>
      simp only [exec] at hk
      split at hk
      · rename_i d σ1 h1
        rw [h1]
        simp only [condThen]
        split at hk
        · rename_i b' hb
          rw [hb]
          cases b'
          · exact eO_iff.2 ⟨k, hk⟩
          · exact eO_iff.2 ⟨k, hk⟩
        · cases hk
      · cases hk
  · intro h
    unfold condThen at h
    split at h
    · rename_i d σ1 h1
      split at h
      · rename_i b' hb
        cases b'
        · obtain ⟨k, hk⟩ := eO_iff.1 h
          exact ⟨k + 1, by simp only [exec]; rw [h1]; simp only [hb]; exact hk⟩
        · obtain ⟨k, hk⟩ := eO_iff.1 h
          exact ⟨k + 1, by simp only [exec]; rw [h1]; simp only [hb]; exact hk⟩
      · cases h
    · cases h
theorem eO_block (id : Nat) (c : Code) (σ : St) : eO P H C (.block id c) σ = blockThen id (eO P H C c σ) := by
  refine opt_ext fun r => ?_
  rw [eO_iff]
  constructor
  · rintro ⟨k, hk⟩
    cases k with
    | zero => simp [exec] at hk
    | succ k =>
      simp only [exec] at hk
      split at hk
      · rename_i i σ1 h1
        rw [eO_iff.2 ⟨k, h1⟩]
        exact hk
      · rename_i hn
        rw [eO_iff.2 ⟨k, hk⟩]
        unfold blockThen
        split
        · rename_i i σ1 e; cases e; exact absurd hk (hn i σ1)
        · rfl
  · intro h
    unfold blockThen at h
    split at h
    · rename_i i σ1 h1
      obtain ⟨k, hk⟩ := eO_iff.1 h1
      exact ⟨k + 1, by simp only [exec]; rw [hk]; exact h⟩
    · rename_i hn
      obtain ⟨k, hk⟩ := eO_iff.1 h
      refine ⟨k + 1, ?_⟩
      simp only [exec]
      rw [hk]
      split
      · rename_i i σ1 e; cases e; exact absurd h (hn i σ1)
      · rfl
def loopThen (keep : List Nat) (r : Option (Out × St)) (k : St → Option (Out × St)) : Option (Out × St) :=
  match r with
  | some (.normal, σ) => k σ
  | some (o, σ) => some (o, norm keep σ)
  | none => none
theorem eO_loop (c : Code) (σ : St) : eO P H C (.loop c) σ = loopThen (H.outAt c) (eO P H C c (norm (H.at c) σ)) (eO P H C (.loop c)) := by
  refine opt_ext fun r => ?_
  rw [eO_iff]
  constructor
  · rintro ⟨k, hk⟩
    cases k with
    | zero => simp [exec] at hk
    | succ k =>
      simp only [exec] at hk
      split at hk
      · rename_i σ1 h1
        rw [eO_iff.2 ⟨k, h1⟩]
        exact eO_iff.2 ⟨k, hk⟩
      · rename_i o σ1 hn h1
        rw [eO_iff.2 ⟨k, h1⟩]
        cases o with
        | normal => exact (hn rfl).elim
        | _ => exact hk
      · cases hk
  · intro h
    unfold loopThen at h
    split at h
    · rename_i σ1 h1
      obtain ⟨i, hi⟩ := eO_iff.1 h1
      obtain ⟨j, hj⟩ := eO_iff.1 h
      refine ⟨max i j + 1, ?_⟩
      simp only [exec]
      rw [exec_le (Callee.le_refl C) i (max i j) _ _ _ (Nat.le_max_left _ _) hi]
      exact exec_le (Callee.le_refl C) j (max i j) _ _ _ (Nat.le_max_right _ _) hj
    · rename_i o σ1 hn h1
      obtain ⟨i, hi⟩ := eO_iff.1 h1
      refine ⟨i + 1, ?_⟩
      simp only [exec]
      rw [hi]
      cases o with
      | normal => exact (hn rfl).elim
      | _ => exact h
    · cases h
/-- Loops, round by round: A is what is told at the head; a round goes on, or comes to an end. -/
def iterN {A B : Type} (S : A → Option (A ⊕ B)) : Nat → A → Option B
  | 0, _ => none
  | k + 1, a => match S a with
    | some (.inl a') => iterN S k a'
    | some (.inr b) => some b
    | none => none
theorem iterN_le {A B : Type} {S : A → Option (A ⊕ B)} : ∀ (j k : Nat) (a : A) (b : B), j ≤ k → iterN S j a = some b → iterN S k a = some b := by
  intro j
  induction j with
  | zero => intro k a b _ h; cases h
  | succ j ih =>
    intro k a b hk h
    obtain ⟨k, rfl⟩ : ∃ i, k = i + 1 := ⟨k - 1, by omega⟩
    simp only [iterN] at h ⊢
    split at h
    · exact ih k _ _ (by omega) h
    · exact h
    · cases h
open Classical in
noncomputable def iterO {A B : Type} (S : A → Option (A ⊕ B)) (a : A) : Option B := if h : ∃ b k, iterN S k a = some b then some h.choose else none
theorem iterO_iff {A B : Type} {S : A → Option (A ⊕ B)} {a : A} {b : B} : iterO S a = some b ↔ ∃ k, iterN S k a = some b := by
  unfold iterO
  constructor
  · intro h
    split at h
    · rename_i hx
      cases h
      exact hx.choose_spec
    · cases h
  · rintro ⟨k, hk⟩
    have hx : ∃ b k, iterN S k a = some b := ⟨b, k, hk⟩
    rw [dif_pos hx]
    obtain ⟨j, hj⟩ := hx.choose_spec
    have h1 := iterN_le j (max j k) _ _ (Nat.le_max_left _ _) hj
    have h2 := iterN_le k (max j k) _ _ (Nat.le_max_right _ _) hk
    rw [h1] at h2
    exact h2
theorem iterO_eq {A B : Type} (S : A → Option (A ⊕ B)) (a : A) : iterO S a = match S a with
    | some (.inl a') => iterO S a'
    | some (.inr b) => some b
    | none => none := by
  refine opt_ext fun r => ?_
  rw [iterO_iff]
  constructor
  · rintro ⟨k, hk⟩
    cases k with
    | zero => cases hk
    | succ k =>
      simp only [iterN] at hk
      split at hk
      · rename_i a' h; exact iterO_iff.2 ⟨k, hk⟩
      · rename_i b h; exact hk
      · cases hk
  · intro h
    split at h
    · rename_i a' h1
      obtain ⟨k, hk⟩ := iterO_iff.1 h
      exact ⟨k + 1, by simp only [iterN, h1]; exact hk⟩
    · rename_i b h1; exact ⟨1, by simp only [iterN, h1]; exact h⟩
    · cases h
/-- What a round of a loop comes to, as it is told. -/
def roundOf (keep out : List Nat) (r : Option (Out × St)) : Option (Out × St) :=
  match r with
  | some (.normal, σ) => some (.normal, norm keep σ)
  | some (o, σ) => some (o, norm out σ)
  | none => none
/-- A loop is its rounds. -/
theorem loop_iter {A B : Type} {c : Code} (N : A → St) (E : B → Out × St) (S : A → Option (A ⊕ B)) (hE : ∀ b, (E b).1 ≠ .normal)
    (h : ∀ a, roundOf (H.at c) (H.outAt c) (eO P H C c (N a)) = (S a).map fun x => match x with | .inl a' => (Out.normal, N a') | .inr b => E b) (a : A) (σ : St) (hσ : norm (H.at c) σ = N a) :
    eO P H C (.loop c) σ = (iterO S a).map E := by
  refine opt_ext fun r => ?_
  rw [eO_iff, Option.map_eq_some_iff]
  constructor
  · rintro ⟨k, hk⟩
    induction k generalizing a σ with
    | zero => simp [exec] at hk
    | succ k ih =>
      simp only [exec, hσ] at hk
      have h1 := h a
      split at hk
      · rename_i σ1 hx
        rw [eO_iff.2 ⟨k, hx⟩] at h1
        simp only [roundOf] at h1
        obtain ⟨x, hx1, hx2⟩ := Option.map_eq_some_iff.1 h1.symm
        cases x with
        | inl a' =>
          simp only [Prod.mk.injEq, true_and] at hx2
          obtain ⟨b, hb, e⟩ := ih a' σ1 hx2.symm hk
          exact ⟨b, by rw [iterO_eq, hx1]; exact hb, e⟩
        | inr b => exact absurd (congrArg Prod.fst hx2) (hE b)
      · rename_i o σ1 hn hx
        rw [eO_iff.2 ⟨k, hx⟩] at h1
        cases o with
        | normal => exact (hn rfl).elim
        | _ =>
          simp only [roundOf] at h1
          obtain ⟨x, hx1, hx2⟩ := Option.map_eq_some_iff.1 h1.symm
          cases x with
          | inl a' => cases hx2
          | inr b => exact ⟨b, by rw [iterO_eq, hx1], by rw [← Option.some.inj hk]; exact hx2⟩
      · cases hk
  · rintro ⟨b, hb, rfl⟩
    obtain ⟨k, hk⟩ := iterO_iff.1 hb
    have : eO P H C (.loop c) σ = some (E b) := by
      clear hb
      induction k generalizing a σ with
      | zero => cases hk
      | succ k ih =>
        rw [eO_loop, hσ]
        have h1 := h a
        simp only [iterN] at hk
        split at hk
        · rename_i a' hx
          rw [hx] at h1
          simp only [Option.map_some] at h1
          rcases hr : eO P H C c (N a) with _ | ⟨o, σ1⟩
          · rw [hr] at h1; cases h1
          · rw [hr] at h1
            cases o with
            | normal =>
              simp only [roundOf, Option.some.injEq, Prod.mk.injEq, true_and] at h1
              exact ih a' σ1 h1 hk
            | _ => simp [roundOf] at h1
        · rename_i b' hx
          cases hk
          rw [hx] at h1
          simp only [Option.map_some] at h1
          rcases hr : eO P H C c (N a) with _ | ⟨o, σ1⟩
          · rw [hr] at h1; cases h1
          · rw [hr] at h1
            cases o with
            | normal =>
              simp only [roundOf, Option.some.injEq] at h1
              exact absurd (by rw [← h1]) (hE b)
            | _ => exact h1
        · cases hk
    exact eO_iff.1 this
/-- What a function's end comes to. -/
def endThen (P : Program) (shr : List Nat) (rs : List ResultVar) (r : Option (Out × St)) : Option (Res × Frames) :=
  match r with
  | some (.panic _, _) => none
  | some (.exit _, _) => none
  | some (_, σ) =>
    match resOf P shr rs σ with
    | some ds => if outOkL ds && decide (resSlots rs).Nodup && σ.fr.all (fun b => b.all fun c => c.all D.outer) then some (.val (res1 ds), σ.fr) else none
    | none => none
  | none => none
def wrapThen (ms : List (List Mode)) (r : Option (Res × Frames)) : Option (Res × Frames) := r.map fun r => (r.1.seam ms, r.2)
theorem cO_eq {R : Lore} {f : FuncId} {fn : Func} {c : Code} (ht : R.told f = none) (hf : P.funcs[f]? = some fn) (hb : fn.body = some c) (args : List D) (fr : Frames) :
    cO P R f args fr = wrapThen (R.hint f).res (endThen P (R.hint f).shr fn.results.toList (eO P (R.hint f) (cO P R) c { tm := seamVs (noOwn (R.hint f).par) args ++ List.replicate (fn.ntmps - (seamVs (noOwn (R.hint f).par) args).length) .dead, bx := List.replicate fn.ntmps [], fr := fr })) := by
  have hcall : ∀ k, call P R (k + 1) f args fr = wrapThen (R.hint f).res (endThen P (R.hint f).shr fn.results.toList (exec P (R.hint f) (call P R k) (k + 1) c { tm := seamVs (noOwn (R.hint f).par) args ++ List.replicate (fn.ntmps - (seamVs (noOwn (R.hint f).par) args).length) .dead, bx := List.replicate fn.ntmps [], fr := fr })) := by
    intro k
    simp only [call, wrapC, call1, ht, hf, hb]
    rfl
  refine opt_ext fun r => ?_
  rw [cO_iff]
  constructor
  · rintro ⟨k, hk⟩
    cases k with
    | zero => cases hk
    | succ k =>
      rw [hcall] at hk
      generalize hx : exec P (R.hint f) (call P R k) (k + 1) c _ = x at hk
      cases x with
      | none => cases hk
      | some y =>
        rw [eO_iff.2 ⟨k + 1, exec_le (fun f a fr r h => cO_iff.2 ⟨k, h⟩) _ _ _ _ _ (Nat.le_refl _) hx⟩]
        exact hk
  · intro h
    generalize hx : eO P (R.hint f) (cO P R) c _ = x at h
    cases x with
    | none => cases h
    | some y =>
      obtain ⟨k, hk⟩ := eO_iff.1 hx
      obtain ⟨j, hj⟩ := exec_lim cO_lim k c _ _ hk
      refine ⟨max j k + 1, ?_⟩
      rw [hcall, exec_le (call_le j (max j k) (Nat.le_max_left _ _)) k _ _ _ _ (by have := Nat.le_max_right j k; omega) hj]
      exact h
theorem cO_toldF {R : Lore} {f : FuncId} {s : List D → Frames → Option (D × Frames)} (ht : R.told f = some s) (args : List D) (fr : Frames) : cO P R f args fr = wrapThen (R.hint f).res ((s (seamVs (noOwn (R.hint f).par) args) fr).map fun x => (.val x.1, x.2)) := by
  refine opt_ext fun r => ?_
  rw [cO_iff]
  constructor
  · rintro ⟨k, hk⟩
    cases k with
    | zero => cases hk
    | succ k => simpa only [call, wrapC, call1, ht, wrapThen] using hk
  · intro h
    exact ⟨1, by simpa only [call, wrapC, call1, ht, wrapThen] using h⟩
theorem cO_told {R : Lore} {f : FuncId} {s : List D → Option D} (ht : R.told f = some (plainT s)) (args : List D) (fr : Frames) : cO P R f args fr = wrapThen (R.hint f).res ((s (seamVs (noOwn (R.hint f).par) args)).map fun d => (.val d, fr)) := by
  rw [cO_toldF ht]
  unfold plainT
  cases s (seamVs (noOwn (R.hint f).par) args) <;> rfl
end Go.Pv
