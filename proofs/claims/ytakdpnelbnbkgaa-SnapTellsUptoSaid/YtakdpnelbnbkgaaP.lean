/- A part of the road: the interpreter of plain data and the proof that it is right. -/
import Derived.Test.YtakdpnelbnbkgaaW
import Derived.Test.YtakdpnelbnbkgaaO
import Derived.Test.YtakdpnelbnbkgaaK
import Derived.Test.YtakdpnelbnbkgaaT
set_option linter.unusedVariables false
set_option linter.unusedSimpArgs false
/- Snap's functions: what is told of them is so. -/
namespace Go.Pv
open Go Go.Proofs Go.RowKit
set_option linter.unusedVariables false
set_option linter.unusedSimpArgs false
theorem vdI {B fr : Nat} {vr : Pl → Nat} {w : World} {p : Ap} (n : Int) : VD B fr gAll vr w p (.int .i64 n) (I n) := .t _ _ _ (.sc _ rfl)
theorem w64_wrap (n : Int) : w64 n = RowKit.wrap64 n := by
  unfold w64 RowKit.wrap64
  simp [IntKind.wrap, IntKind.bits, IntKind.signed]
  omega
abbrev TellsP (f : FuncId) (s : List D → Option D) : Prop := ∀ ds d, s ds = some d → ∀ B G frs w (vs : Array Value), FrS B G frs w → vs.size = ds.length →
    (∀ (i : Nat) u d, vs[i]? = some u → ds[i]? = some d → d.hasOwn = false ∧ VD B frs.length G vr0 w (.pn frs.length i []) u d) →
    d.outOk = true ∧ Calls Try.prog f vs w fun out w' => ∃ v G', out = .returned v ∧ FrS B G' frs w' ∧ Step frs.length G w G' w' ∧ VD B frs.length G' vr0 w' (.pn frs.length 0 []) v d
theorem canon_told : TellsP 74 canonS := by
  intro ds d hs B G frs w vs F hlen hargs
  unfold canonS at hs
  split at hs
  · rename_i b
    cases hs
    obtain ⟨u, hv⟩ : ∃ u, vs = #[u] := by
      match vs, hlen with
      | ⟨[u]⟩, _ => exact ⟨u, rfl⟩
    subst hv
    have e1 := (hargs 0 u _ rfl rfl).2.sc
    subst e1
    refine ⟨rfl, (canon_any b w).mono fun r w' ⟨h1, h2⟩ => ?_⟩
    subst h1 h2
    refine ⟨_, G, rfl, F, .refl _ _ _, ?_⟩
    have e : (if nanW (IntKind.u64.wrap b).toNat = true then (9221120237041090561 : Int) else RowKit.wrap64 (IntKind.u64.wrap b).toNat) = canonF b := by
      rw [canon_val]
      unfold canonF nanB
      simp only [decide_eq_true_eq, w64_wrap]
    rw [e]
    exact VD.scal rfl
  · cases hs
theorem mixed0 : Try.prog.follows .mixedOrders = true := by kernel_rfl
theorem toldB : ToldOk Try.prog loreB.told := by
  intro f s h
  unfold loreB at h
  simp only at h
  split at h
  · cases h; exact plain_ok canon_told
  · cases h
theorem goodB : Pv.Good Try.prog (cO Try.prog loreB) := cO_good mixed0 toldB
/-! ### what the base lore says of calls -/
theorem of_any (s : ByteArray) (W : World) (hs : s.size ≤ big) : Calls Try.prog 21 #[.string s] W fun e W' => e = .returned (.int .i64 ((sumV 0#32 s).toNat : Int)) ∧ Below W.heap.size W W' := by
  refine (call_data goodB (Bs.f_crc_Of s (by unfold big at hs; omega)) rfl (fun i x d hx hd => ?_)).mono ?_
  · match i, hx, hd with
    | 0, hx, hd => cases hx; cases hd; exact ⟨rfl, .t _ _ _ (.sc _ rfl)⟩
    | i + 1, hx, hd => simp at hd
  · rintro e w' ⟨v, G', rfl, hb, hv⟩
    exact ⟨by rw [hv.sc], hb⟩
theorem bytesI_le (v : V) : bytesI (v.toNat : Int) = bytesOfL (leB 4 (v.toNat : Int)) := by
  apply ByteArray.ext
  apply Array.ext'
  rw [bytesI_V]
  have hv := v.isLt
  show _ = leB 4 (v.toNat : Int)
  simp only [leB, Int.ediv_ediv_of_nonneg (show (0 : Int) ≤ 256 by omega)]
  simp only [List.cons.injEq, and_true]
  refine ⟨?_, ?_, ?_, ?_⟩ <;> congr 1 <;> omega
theorem bytes_any (v : V) (W : World) : Calls Try.prog 20 #[.int .i64 (v.toNat : Int)] W fun e W' => e = .returned (.string (bytesOfL (leB 4 (v.toNat : Int)))) ∧ Below W.heap.size W W' := by
  refine (call_data goodB (Bs.f_crc_Bytes (v.toNat : Int)) rfl (fun i x d hx hd => ?_)).mono ?_
  · match i, hx, hd with
    | 0, hx, hd => cases hx; cases hd; exact ⟨rfl, vdI _⟩
    | i + 1, hx, hd => simp at hd
  · rintro e w' ⟨x, G', rfl, hb, hv⟩
    refine ⟨?_, hb⟩
    rw [hv.sc, if_pos (okSum_toNat v), bytesI_le]
theorem may_any {W : World} {u0 rv : Value} {h : GHeap} {r : List Int} (hu : RA W u0 (.sl 6 (els h.Objs))) (hr : RA W rv (.sl 1 (els r))) (hs : Slim h) :
    Calls Try.prog 27 #[.agg #[u0, .int .i64 h.Cap, .int .i64 h.Last], rv] W fun e W' => e = .returned (.bool (mayP h r)) ∧ Below W.heap.size W W' := by
  have g := Bs.f_snap_may h.Objs h.Cap h.Last r
  rw [show (⟨h.Objs, h.Cap, h.Last⟩ : GHeap) = h from rfl, Bs.snap_may_eq h r hs, ob_some] at g
  refine (call_data goodB g rfl (fun i x d hx hd => ?_)).mono ?_
  · match i, hx, hd with
    | 0, hx, hd =>
      cases hx; cases hd
      refine ⟨rfl, .agg _ _ _ rfl (fun x hx => ?_) fun i x d hx hd => ?_⟩
      · simp only [List.mem_toArray, List.mem_cons, List.not_mem_nil, or_false] at hx
        rcases hx with rfl | rfl | rfl
        · exact hu.one
        · rfl
        · rfl
      · match i, hx, hd with
        | 0, hx, hd => cases hx; cases hd; exact hu.vd
        | 1, hx, hd => cases hx; cases hd; exact vdI _
        | 2, hx, hd => cases hx; cases hd; exact vdI _
        | i + 3, hx, hd => simp at hd
    | 1, hx, hd => cases hx; cases hd; exact ⟨rfl, hr.vd⟩
    | i + 2, hx, hd => simp at hd
  · rintro e w' ⟨x, G', rfl, hb, hv⟩
    exact ⟨by rw [hv.sc], hb⟩
/-! ### rows, as the walks have them -/
theorem add_flat (b o k : Nat) : (⟨b, o, none⟩ : Addr).add k = ⟨b, o + k, none⟩ := by
  unfold Addr.add
  by_cases h : k = 0
  · subst h; rfl
  · rw [if_neg h]
theorem num_row {w : World} {l : Value} {xs : List Int} (h : RA w l (.sl 1 (els xs))) : NumRow w l xs := by
  cases h with
  | sl A n cap sz es f hn hc hz hA hR =>
    refine ⟨A, cap, ?_, fun hne => ?_⟩
    · rw [hn, els_len]
    · obtain ⟨a, rfl, _, hcell⟩ := hA (by cases xs with | nil => exact absurd rfl hne | cons _ _ => exact fun e => by cases e)
      have hx : ∀ k x, xs[k]? = some x → w.cell? (a.add k) = some (.int .i64 x) := fun k x hk => by
        have h1 := hcell k _ 0 _ (by show (els xs)[k]? = some [T.sc (.int .i64 x)]; simp [els, hk]) rfl
        have h2 := hR k _ 0 _ (by show (els xs)[k]? = some [T.sc (.int .i64 x)]; simp [els, hk]) rfl
        rw [show k * 1 + 0 = k by omega] at h1
        generalize f k 0 = u at h1 h2
        cases h2 with
        | sc v h => exact h1
      obtain ⟨b, o, s⟩ := a
      have hs : s = none := by
        cases xs with
        | nil => exact absurd rfl hne
        | cons x r =>
          exact World.cell?_spot (hx 0 x rfl)
      subst hs
      exact ⟨b, o, rfl, fun k x hk => by have := hx k x hk; rwa [add_flat] at this⟩
theorem obj_row {w : World} {l : Value} {os : List GObj} (h : RA w l (.sl 6 (els os))) : ObjRow w l os := by
  cases h with
  | sl A n cap sz es f hn hc hz hA hR =>
    refine ⟨A, cap, ?_, fun hne => ?_⟩
    · rw [hn, els_len]
    · obtain ⟨a, rfl, _, hcell⟩ := hA (by cases os with | nil => exact absurd rfl hne | cons _ _ => exact fun e => by cases e)
      have he : ∀ (k : Nat) (x : GObj), os[k]? = some x → (els os)[k]? = some (Enc.enc x) := fun k x hk => by simp [els, hk]
      obtain ⟨b, o, s⟩ := a
      have hs : s = none := by
        cases os with
        | nil => exact absurd rfl hne
        | cons x r => exact World.cell?_spot (hcell 0 _ 0 _ (he 0 x rfl) rfl)
      subst hs
      refine ⟨b, o, rfl, fun k ob hk => ?_⟩
      have hc := fun j x => hcell k _ j x (he k ob hk)
      have hr := fun j x => hR k _ j x (he k ob hk)
      rw [enc_GObj] at hc hr
      have h0 := hc 0 _ rfl; have h1 := hc 1 _ rfl; have h2 := hc 2 _ rfl; have h3 := hc 3 _ rfl; have h4 := hc 4 _ rfl; have h5 := hc 5 _ rfl
      have r0 := hr 0 _ rfl; have r1 := hr 1 _ rfl; have r2 := hr 2 _ rfl; have r3 := hr 3 _ rfl; have r4 := hr 4 _ rfl; have r5 := hr 5 _ rfl
      rw [add_flat] at h0 h1 h2 h3 h4 h5
      have s0 : f k 0 = .int .i64 ob.Class := by generalize f k 0 = u at r0; cases r0; rfl
      have s1 : f k 1 = .int .i64 ob.Kind := by generalize f k 1 = u at r1; cases r1; rfl
      have s3 : f k 3 = .string ob.Text := by generalize f k 3 = u at r3; cases r3; rfl
      have s4 : f k 4 = .int .i64 ob.Bits := by generalize f k 4 = u at r4; cases r4; rfl
      have s5 : f k 5 = .int .i64 ob.Hash := by generalize f k 5 = u at r5; cases r5; rfl
      rw [s0] at h0; rw [s1] at h1; rw [s3] at h3; rw [s4] at h4; rw [s5] at h5
      exact ⟨f k 2, num_row r2, by simpa using h0, by simpa [Nat.add_assoc] using h1, by simpa [Nat.add_assoc] using h2, by simpa [Nat.add_assoc] using h3, by simpa [Nat.add_assoc] using h4, by simpa [Nat.add_assoc] using h5⟩
theorem args2 {B fr : Nat} {G : Gh} {w : World} {vs : Array Value} {a b : D} (hlen : vs.size = 2)
    (hargs : ∀ (i : Nat) u d, vs[i]? = some u → [a, b][i]? = some d → d.hasOwn = false ∧ VD B fr G vr0 w (.pn fr i []) u d) : ∃ u v, vs = #[u, v] ∧ VD B fr G vr0 w (.pn fr 0 []) u a ∧ VD B fr G vr0 w (.pn fr 1 []) v b := by
  obtain ⟨vs⟩ := vs
  match vs, hlen with
  | [x, y], _ => exact ⟨x, y, rfl, (hargs 0 x _ rfl rfl).2, (hargs 1 y _ rfl rfl).2⟩
theorem args1 {B fr : Nat} {G : Gh} {w : World} {vs : Array Value} {a : D} (hlen : vs.size = 1)
    (hargs : ∀ (i : Nat) u d, vs[i]? = some u → [a][i]? = some d → d.hasOwn = false ∧ VD B fr G vr0 w (.pn fr i []) u d) : ∃ u, vs = #[u] ∧ VD B fr G vr0 w (.pn fr 0 []) u a := by
  obtain ⟨vs⟩ := vs
  match vs, hlen with
  | [x], _ => exact ⟨x, rfl, (hargs 0 x _ rfl rfl).2⟩
theorem heap_data {B fr : Nat} {G : Gh} {vr : Pl → Nat} {w : World} {p : Ap} {u : Value} {h : GHeap} (hv : VD B fr G vr w p u (.agg [.t (.sl 6 (els h.Objs)), I h.Cap, I h.Last])) :
    ∃ u0, u = .agg #[u0, .int .i64 h.Cap, .int .i64 h.Last] ∧ RA w u0 (.sl 6 (els h.Objs)) := by
  cases hv with
  | agg _ us _ hs h1 hh =>
    obtain ⟨us⟩ := us
    match us, hs with
    | [a, b, c], _ =>
      have h0 := VD.data (hh 0 a _ rfl rfl)
      have h1 := (hh 1 b _ rfl rfl).sc
      have h2 := (hh 2 c _ rfl rfl).sc
      subst h1 h2
      exact ⟨a, rfl, h0⟩
/-! ### told right -/
theorem crc_told : TellsP 21 crcS := by
  intro ds d hs B G frs w vs F hlen hargs
  unfold crcS at hs
  split at hs
  · rename_i s
    split at hs
    · rename_i hb
      cases hs
      obtain ⟨u, rfl, hu⟩ := args1 hlen hargs
      have hu := hu.sc
      subst hu
      refine ⟨rfl, (of_any s w hb).mono ?_⟩
      rintro e w' ⟨rfl, hbw⟩
      obtain ⟨F', S'⟩ := frs_below F hbw
      exact ⟨_, G, rfl, F', S', VD.scal rfl⟩
    · cases hs
  · cases hs
theorem enc_told : TellsP 12 encS := by
  intro ds d hs B G frs w vs F hlen hargs
  unfold encS at hs
  split at hs
  · rename_i hd rs
    split at hs
    · rename_i h r eh er
      split at hs
      · rename_i hrb
        cases hs
        obtain ⟨rfl, hsl⟩ := decH_ok eh
        obtain rfl := decIs_ok er
        obtain ⟨u, v, rfl, hu, hv⟩ := args2 hlen hargs
        obtain ⟨u0, rfl, H⟩ := heap_data hu
        have hv := VD.data hv
        refine ⟨rfl, (encode_in u0 v h r w (obj_row H) (num_row hv) (fun W hW => may_any (H.below hW) (hv.below hW) hsl) (fun s W hs => of_any s W hs) (fun x W => bytes_any x W)).mono ?_⟩
        rintro e w' ⟨rfl, hbw⟩
        obtain ⟨F', S'⟩ := frs_below F hbw
        exact ⟨_, G, rfl, F', S', VD.scal rfl⟩
      · cases hs
    · cases hs
  · cases hs
theorem ownRow_RT {ok ok' : Nat → Prop} {w : World} {B : Nat} {e : TypeId} {sz : Nat} {v : Value} {els : List (List T)} {us : List Value} (ho : w.ownsRow B e sz v els.length us) (hr : RTrow ok w sz us els) (hk : ∀ b, ok b → ok' b) (hB : ∀ b, B ≤ b → ok' b) : RT ok' w v (.sl sz els) := by
  rcases ownsRow_form ho with ⟨rfl, hn⟩ | ⟨g, cap, rfl, hn⟩
  · obtain rfl : els = [] := List.eq_nil_of_length_eq_zero hn
    exact RT.nil0 _
  · have := row_RT ho hr hk rfl (hB g (ho.lt g rfl).1) 0 els.length cap (by omega) hn
    simpa using this
theorem IntRow.rt {B : Nat} {w : World} {u : Value} {xs : List Int} (h : IntRow B w u xs) : RT (fun b => B ≤ b) w u (.sl 1 (els xs)) := by
  refine ownRow_RT (ok := fun b => B ≤ b) (us := xs.map (Value.int .i64)) (by rw [els_len]; exact h) ⟨by rw [List.length_map, els_len, Nat.mul_one], fun e he => ?_, fun i e j x hi hj => ?_⟩ (fun _ h => h) (fun _ h => h)
  · unfold els at he
    obtain ⟨n, _, rfl⟩ := List.mem_map.1 he
    rfl
  · unfold els at hi
    rw [List.getElem?_map, Option.map_eq_some_iff] at hi
    obtain ⟨n, hn, rfl⟩ := hi
    cases j with
    | zero =>
      cases hj
      exact ⟨_, by rw [Nat.mul_one, Nat.add_zero, List.getElem?_map, hn]; rfl, .sc _ rfl⟩
    | succ j => cases hj
theorem ObjsIn.rt {B : Nat} {w : World} : ∀ {os : List GObj} {us : List Value}, ObjsIn B w os us → RTrow (fun b => B ≤ b) w 6 us (els os)
  | [], us, h => by
    cases h
    exact ⟨rfl, (fun e he => nomatch he), (fun i e j x hi => by rw [els_nil] at hi; simp at hi)⟩
  | o :: os, us, ⟨u, us', e, h1, h2⟩ => by
    subst e
    have ih := h2.rt
    refine ⟨?_, fun e he => ?_, fun i e j x hi hj => ?_⟩
    · have := ih.len
      rw [els_len] at this
      rw [List.length_append, this, els_len]
      show 6 + _ = (os.length + 1) * 6
      omega
    · rcases List.mem_cons.1 he with rfl | he
      · rw [enc_GObj]; rfl
      · exact ih.each e he
    · cases i with
      | zero =>
        have hi : Enc.enc o = e := by simpa [els] using hi
        subst hi
        rw [enc_GObj] at hj
        match j, hj with
        | 0, hj => cases hj; exact ⟨_, rfl, .sc _ rfl⟩
        | 1, hj => cases hj; exact ⟨_, rfl, .sc _ rfl⟩
        | 2, hj => cases hj; exact ⟨_, rfl, h1.rt⟩
        | 3, hj => cases hj; exact ⟨_, rfl, .sc _ rfl⟩
        | 4, hj => cases hj; exact ⟨_, rfl, .sc _ rfl⟩
        | 5, hj => cases hj; exact ⟨_, rfl, .sc _ rfl⟩
        | j + 6, hj => simp at hj
      | succ i =>
        obtain ⟨v, hv, hr⟩ := ih.cell i e j x (by simpa [els] using hi) hj
        refine ⟨v, ?_, hr⟩
        rw [show (i + 1) * 6 + j = 6 + (i * 6 + j) by omega, List.getElem?_append_right (by show 6 ≤ _; omega)]
        show us'[6 + (i * 6 + j) - 6]? = some v
        rw [show 6 + (i * 6 + j) - 6 = i * 6 + j by omega]
        exact hv
theorem ObRow.rt {B : Nat} {w : World} {u : Value} {os : List GObj} (h : ObRow B w u os) : RT (fun b => B ≤ b) w u (.sl 6 (els os)) := by
  obtain ⟨us, ho, hi⟩ := h
  exact ownRow_RT (us := us) (by rw [els_len]; exact ho) hi.rt (fun _ h => h) (fun _ h => h)
theorem read_told : TellsP 22 readS := by
  intro ds d hs B G frs w vs F hlen hargs
  unfold readS at hs
  split at hs
  · rename_i s
    split at hs
    · rename_i hb
      cases hs
      obtain ⟨u, rfl, hu⟩ := args1 hlen hargs
      have hu := hu.sc
      subst hu
      refine ⟨rfl, (read_any s hb w).mono ?_⟩
      rintro e w' ⟨hbw, u, rv, rfl, hO, hI⟩
      obtain ⟨F', S'⟩ := frs_below F hbw
      have sh : ∀ b, w.heap.size ≤ b → G.sh b := fun b hb => by
        cases hg : G.L b with
        | none => exact hg
        | some τ => have := (F.old b τ hg).1; omega
      have r0 : RT G.sh w' u (.sl 6 (els (readR s).1.Objs)) := hO.rt.mono fun b hb _ => ⟨sh b hb, rfl⟩
      have r1 : RT G.sh w' rv (.sl 1 (els (readR s).2.1)) := hI.rt.mono fun b hb _ => ⟨sh b hb, rfl⟩
      refine ⟨_, G, rfl, F', S', .tup _ _ _ rfl fun i x d hx hd => ?_⟩
      match i, hx, hd with
      | 0, hx, hd =>
        cases hx; cases hd
        refine .agg _ _ _ rfl (fun x hx => ?_) fun i x d hx hd => ?_
        · simp only [List.mem_toArray, List.mem_cons, List.not_mem_nil, or_false] at hx
          rcases hx with rfl | rfl | rfl
          · exact r0.one
          · rfl
          · rfl
        · match i, hx, hd with
          | 0, hx, hd => cases hx; cases hd; exact .t _ _ _ r0
          | 1, hx, hd => cases hx; cases hd; exact VD.scal rfl
          | 2, hx, hd => cases hx; cases hd; exact VD.scal rfl
          | i + 3, hx, hd => simp at hd
      | 1, hx, hd => cases hx; cases hd; exact .t _ _ _ r1
      | 2, hx, hd => cases hx; cases hd; exact VD.scal rfl
      | i + 3, hx, hd => simp at hd
    · cases hs
  · cases hs
theorem allTold : ToldOk Try.prog lore.told := by
  intro f s h
  unfold lore at h
  simp only at h
  split at h
  · cases h; exact plain_ok enc_told
  · cases h; exact plain_ok crc_told
  · cases h; exact plain_ok read_told
  · cases h; exact plain_ok canon_told
  · cases h
theorem goodL : Pv.Good Try.prog (cO Try.prog lore) := cO_good mixed0 allTold
end Go.Pv
