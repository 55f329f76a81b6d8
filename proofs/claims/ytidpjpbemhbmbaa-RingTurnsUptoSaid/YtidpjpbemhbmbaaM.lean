/- A part of the road: the interpreter of plain data and the proof that it is right. -/
import Derived.Test.YtidpjpbemhbmbaaT
import Derived.Test.YtidpjpbemhbmbaaR
import Derived.Test.YtidpjpbemhbmbaaG
/- Rings, in plain words: how much room records take. -/
namespace Go.Pv
def GRecord.more (r : GRecord) : Nat := if r.Kind = 1 then r.Obj.Slots.length + (r.Obj.Text.size + 7) / 8 else 0
def GRecord.big (r : GRecord) : Nat := r.Obj.Slots.length + r.Obj.Text.size
def packN (l : List GRecord) : Nat := (l.map fun r => r.more + 1).sum
def bigN (l : List GRecord) : Nat := (l.map fun r => r.big + 1).sum
def roomN (g : List (List GRecord)) : Nat := (g.map fun l => packN l + 1).sum
def bulkN (g : List (List GRecord)) : Nat := (g.map fun l => bigN l + 1).sum

theorem more_le (r : GRecord) : r.more ≤ r.big := by
  unfold GRecord.more GRecord.big
  split <;> omega
theorem packN_le (l : List GRecord) : packN l ≤ bigN l := by
  induction l with
  | nil => exact Nat.le_refl _
  | cons r l ih =>
    have := more_le r
    simp only [packN, bigN, List.map_cons, List.sum_cons] at ih ⊢
    omega
theorem len_le_pack (l : List GRecord) : l.length ≤ packN l := by
  induction l with
  | nil => exact Nat.le_refl _
  | cons r l ih =>
    simp only [packN, List.map_cons, List.sum_cons, List.length_cons] at ih ⊢
    omega
theorem roomN_le (g : List (List GRecord)) : roomN g ≤ bulkN g := by
  induction g with
  | nil => exact Nat.le_refl _
  | cons r l ih =>
    have := packN_le r
    simp only [roomN, bulkN, List.map_cons, List.sum_cons] at ih ⊢
    omega
theorem len_le_room (g : List (List GRecord)) : g.length ≤ roomN g := by
  induction g with
  | nil => exact Nat.le_refl _
  | cons r l ih =>
    simp only [roomN, List.map_cons, List.sum_cons, List.length_cons] at ih ⊢
    omega
theorem R19_Pack_eq (l : List GRecord) (h : bigN l ≤ 1099511627776) : F_R19_Pack l = some (packN l : Int) := by
  have hp := packN_le l
  have hl := len_le_pack l
  have hit := iter_acc (S := fun p : Int × Int => s0_R19_Pack l p.1 p.2) (fun k => ((packN (l.take k) : Int), (k : Int))) l.length (b := (packN l : Int)) (fun k hk => by
    have e : packN (l.take (k + 1)) = packN (l.take k) + (l[k].more + 1) := sum_map_take _ l k hk
    have e2 : packN (l.take (k + 1)) ≤ packN l := sum_take_le _ l _
    simp only [s0_R19_Pack, atI_nat l k hk]
    rw [if_pos (by omega), if_pos (by omega)]
    by_cases hK : l[k].Kind = 1
    · have em : l[k].more = l[k].Obj.Slots.length + (l[k].Obj.Text.size + 7) / 8 := if_pos hK
      rw [if_pos hK, if_pos (by omega), if_pos (by omega)]
      simp (disch := omega) only [w64_id, Int.tdiv_eq_ediv_of_nonneg]
      simp only [Option.some.injEq, Sum.inl.injEq, Prod.mk.injEq]
      constructor <;> omega
    · have em : l[k].more = 0 := if_neg hK
      rw [if_neg hK]
      simp (disch := omega) only [w64_id]
      simp only [Option.some.injEq, Sum.inl.injEq, Prod.mk.injEq]
      constructor <;> omega) (by simp [s0_R19_Pack])
  have hit' : iterO (fun p : Int × Int => s0_R19_Pack l p.1 p.2) ((0 : Int), (0 : Int)) = some (packN l : Int) := by simpa [packN] using hit
  rw [F_R19_Pack, hit']; rfl
theorem record_Pack_eq (l : List GRecord) (h : bigN l ≤ 1099511627776) : F_record_Pack l = some (packN l : Int) := by
  have hp := packN_le l
  have hl := len_le_pack l
  have hs : ∀ l : List GRecord, packN l = l.length + (l.map GRecord.more).sum := by
    intro l
    induction l with
    | nil => rfl
    | cons r l ih => simp only [packN, List.map_cons, List.sum_cons, List.length_cons] at ih ⊢; omega
  have hl2 := hs l
  have hit := iter_acc (S := fun p : Int × Int => s0_record_Pack l (l.length : Int) p.1 p.2) (fun k => (((l.length + ((l.take k).map GRecord.more).sum : Nat) : Int), (k : Int))) l.length (b := (packN l : Int)) (fun k hk => by
    have e := sum_map_take GRecord.more l k hk
    have e2 := sum_take_le GRecord.more l (k + 1)
    simp only [s0_record_Pack, atI_nat l k hk]
    rw [if_pos (by omega), if_pos (by omega)]
    by_cases hK : l[k].Kind = 1
    · have em : l[k].more = l[k].Obj.Slots.length + (l[k].Obj.Text.size + 7) / 8 := if_pos hK
      rw [if_pos hK]
      simp (disch := omega) only [w64_id, Int.tdiv_eq_ediv_of_nonneg]
      simp only [Option.some.injEq, Sum.inl.injEq, Prod.mk.injEq]
      constructor <;> omega
    · have em : l[k].more = 0 := if_neg hK
      rw [if_neg hK]
      simp (disch := omega) only [w64_id]
      simp only [Option.some.injEq, Sum.inl.injEq, Prod.mk.injEq]
      constructor <;> omega) (by simp [s0_record_Pack, hl2])
  have hit' : iterO (fun p : Int × Int => s0_record_Pack l (l.length : Int) p.1 p.2) ((l.length : Int), (0 : Int)) = some (packN l : Int) := by simpa using hit
  rw [F_record_Pack, hit']; rfl
theorem bigN_at (g : List (List GRecord)) (k : Nat) (h : k < g.length) : bigN g[k] + 1 ≤ bulkN g := sum_at_le (fun l => bigN l + 1) g k h
theorem ring_room_eq (g : List (List GRecord)) (h : bulkN g ≤ 1099511627776) : F_ring_room g = some (roomN g : Int) := by
  have hp := roomN_le g
  have hl := len_le_room g
  have hs : ∀ l : List (List GRecord), roomN l = l.length + (l.map packN).sum := by
    intro l
    induction l with
    | nil => rfl
    | cons r l ih => simp only [roomN, List.map_cons, List.sum_cons, List.length_cons] at ih ⊢; omega
  have hl2 := hs g
  have hit := iter_acc (S := fun p : Int × Int => s0_ring_room g (g.length : Int) p.1 p.2) (fun k => (((g.length + ((g.take k).map packN).sum : Nat) : Int), (k : Int))) g.length (b := (roomN g : Int)) (fun k hk => by
    have e := sum_map_take packN g k hk
    have e2 := sum_take_le packN g (k + 1)
    have e3 := bigN_at g k hk
    simp only [s0_ring_room, atI_nat g k hk, record_Pack_eq g[k] (by omega), ob_some]
    rw [if_pos (by omega), if_pos (by omega)]
    simp (disch := omega) only [w64_id]
    simp only [Option.some.injEq, Sum.inl.injEq, Prod.mk.injEq]
    constructor <;> omega) (by simp [s0_ring_room, hl2])
  have hit' : iterO (fun p : Int × Int => s0_ring_room g (g.length : Int) p.1 p.2) ((g.length : Int), (0 : Int)) = some (roomN g : Int) := by simpa using hit
  rw [F_ring_room, hit']; rfl
theorem R20_Room_eq (r : GRing) (h : bulkN r.Groups ≤ 1099511627776) : F_R20_Room r = some (roomN r.Groups : Int) := by
  have hp := roomN_le r.Groups
  have hl := len_le_room r.Groups
  have hit := iter_acc (S := fun p : Int × Int => s0_R20_Room r.Cap r.Groups p.1 p.2) (fun k => ((roomN (r.Groups.take k) : Int), (k : Int))) r.Groups.length (b := (roomN r.Groups : Int)) (fun k hk => by
    have e : roomN (r.Groups.take (k + 1)) = roomN (r.Groups.take k) + (packN r.Groups[k] + 1) := sum_map_take _ r.Groups k hk
    have e2 : roomN (r.Groups.take (k + 1)) ≤ roomN r.Groups := sum_take_le _ r.Groups _
    have e3 := bigN_at r.Groups k hk
    have e4 := packN_le r.Groups[k]
    simp only [s0_R20_Room, atI_nat r.Groups k hk, R19_Pack_eq r.Groups[k] (by omega), ob_some]
    rw [if_pos (by omega), if_pos (by omega)]
    simp (disch := omega) only [w64_id]
    simp only [Option.some.injEq, Sum.inl.injEq, Prod.mk.injEq]
    constructor <;> omega) (by simp [s0_R20_Room])
  have hit' : iterO (fun p : Int × Int => s0_R20_Room r.Cap r.Groups p.1 p.2) ((0 : Int), (0 : Int)) = some (roomN r.Groups : Int) := by simpa [roomN] using hit
  rw [F_R20_Room, hit']; rfl
def okRing (r : GRing) : Prop := 0 ≤ r.Cap ∧ r.Cap ≤ 100000 ∧ (roomN r.Groups : Int) ≤ r.Cap
instance (r : GRing) : Decidable (okRing r) := by unfold okRing; infer_instance
theorem ring_may_eq (r : GRing) (h : bulkN r.Groups ≤ 1099511627776) : F_ring_may r = some (decide (okRing r)) := by
  simp only [F_ring_may, ring_room_eq r.Groups h, ob_some, okRing]
  by_cases h1 : 0 ≤ r.Cap
  · by_cases h2 : r.Cap ≤ 100000
    · simp [h1, h2]
    · simp [h2]
  · simp [h1]
theorem R20_Check_eq (r : GRing) (h : bulkN r.Groups ≤ 1099511627776) : F_R20_Check r = some (if okRing r then 0 else 200) := by
  simp only [F_R20_Check, R20_Room_eq r h, ob_some, okRing]
  by_cases h1 : 0 ≤ r.Cap
  · by_cases h2 : r.Cap ≤ 100000
    · by_cases h3 : r.Cap < (roomN r.Groups : Int)
      · have : ¬ ((roomN r.Groups : Int) ≤ r.Cap) := by omega
        simp [h1, h2, h3, this]
      · have : (roomN r.Groups : Int) ≤ r.Cap := by omega
        simp [h1, h2, h3, this]
    · simp [h2]
  · simp [h1]
end Go.Pv

/- Rings, in plain words: what is the same, what is put and taken. -/
namespace Go.Pv
theorem ob_ext (a b : GObj) : a = b ↔ a.Class = b.Class ∧ a.Kind = b.Kind ∧ a.Text = b.Text ∧ a.Bits = b.Bits ∧ a.Hash = b.Hash ∧ a.Slots = b.Slots := by
  cases a; cases b
  simp only [GObj.mk.injEq]
  constructor
  · rintro ⟨h1, h2, h3, h4, h5, h6⟩; exact ⟨h1, h2, h4, h5, h6, h3⟩
  · rintro ⟨h1, h2, h4, h5, h6, h3⟩; exact ⟨h1, h2, h3, h4, h5, h6⟩
theorem R03_One_eq (a b : GObj) (h : a.Slots.length ≤ 1099511627776) : F_R03_One a b = some (decide (a = b)) := by
  unfold F_R03_One
  by_cases e1 : a.Class = b.Class
  case neg => simp [e1, ob_ext]
  by_cases e2 : a.Kind = b.Kind
  case neg => simp [e2, ob_ext]
  by_cases e3 : a.Text = b.Text
  case neg => simp [e3, ob_ext]
  by_cases e4 : a.Bits = b.Bits
  case neg => simp [e4, ob_ext]
  by_cases e5 : a.Hash = b.Hash
  case neg => simp [e5, ob_ext]
  by_cases e6 : (a.Slots.length : Int) = b.Slots.length
  case neg =>
    have : a.Slots ≠ b.Slots := fun e => e6 (by rw [e])
    simp [e6, ob_ext, this]
  simp only [if_pos e1, if_pos e2, if_pos e3, if_pos e4, if_pos e5, if_pos e6]
  rw [iter_same (a := a.Slots) (b := b.Slots) (by omega)]
  · simp [ob_ext, e1, e2, e3, e4, e5]
  · intro k h1 h2
    simp only [s0_R03_One, atI_nat _ k h1, atI_nat _ k h2]
    rw [if_pos (by omega), if_pos (by omega), if_pos (by omega)]
    rw [w64_id (by omega) (by omega)]; rfl
  · simp [s0_R03_One]
theorem rec_ext (a b : GRecord) : a = b ↔ a.Kind = b.Kind ∧ a.At = b.At ∧ a.Slot = b.Slot ∧ a.Old = b.Old ∧ a.Obj = b.Obj := by
  cases a; cases b; simp
theorem slots_le (a : List GRecord) (i : Nat) (h : i < a.length) : a[i].Obj.Slots.length ≤ bigN a := by
  have h1 := sum_at_le (fun r : GRecord => r.big + 1) a i h
  simp only [GRecord.big] at h1
  unfold bigN GRecord.big
  omega
theorem R19_Same_eq (a b : List GRecord) (h : bigN a ≤ 1099511627776) : F_R19_Same a b = some (decide (a = b)) := by
  have hlen : a.length ≤ bigN a := Nat.le_trans (len_le_pack a) (packN_le a)
  unfold F_R19_Same
  by_cases hl : (a.length : Int) = b.length
  case neg =>
    have : a ≠ b := fun e => hl (by rw [e])
    simp [hl, this]
  rw [if_pos hl, iter_same (a := a) (b := b) (by omega)]
  · intro k h1 h2
    have h3 := slots_le a k h1
    have hk : (0 : Int) ≤ k ∧ (k : Int) < a.length := by omega
    have hk2 : (0 : Int) ≤ k ∧ (k : Int) < b.length := by omega
    simp only [s0_R19_Same, atI_nat _ k h1, atI_nat _ k h2, if_pos hk, if_pos hk2, if_pos hk.2]
    have ho := R03_One_eq a[k].Obj b[k].Obj (by omega)
    rw [ho, ob_some, w64_id (by omega) (by omega)]
    by_cases e1 : a[k].Kind = b[k].Kind
    case neg => simp [e1, rec_ext]
    by_cases e2 : a[k].At = b[k].At
    case neg => simp [e2, rec_ext]
    by_cases e3 : a[k].Slot = b[k].Slot
    case neg => simp [e3, rec_ext]
    by_cases e4 : a[k].Old = b[k].Old
    case neg => simp [e4, rec_ext]
    by_cases e5 : a[k].Obj = b[k].Obj
    · simp [e1, e2, e3, e4, e5, rec_ext]
    · simp [e1, e2, e3, e4, e5, rec_ext]
  · simp [s0_R19_Same]
theorem ring_ext (a b : GRing) : a = b ↔ a.Cap = b.Cap ∧ a.Groups = b.Groups := by
  cases a; cases b; simp
theorem R20_Same_eq (a b : GRing) (h : bulkN a.Groups ≤ 1099511627776) : F_R20_Same a b = some (decide (a = b)) := by
  have hlen : a.Groups.length ≤ bulkN a.Groups := Nat.le_trans (len_le_room _) (roomN_le _)
  unfold F_R20_Same
  by_cases hc : a.Cap = b.Cap
  case neg => simp [hc, ring_ext]
  by_cases hl : (a.Groups.length : Int) = b.Groups.length
  case neg =>
    have : a.Groups ≠ b.Groups := fun e => hl (by rw [e])
    simp [hl, ring_ext, this]
  rw [if_pos hc, if_pos hl, iter_same (a := a.Groups) (b := b.Groups) (by omega)]
  · simp [ring_ext, hc]
  · intro k h1 h2
    have h3 := bigN_at a.Groups k h1
    have hk : (0 : Int) ≤ k ∧ (k : Int) < a.Groups.length := by omega
    have hk2 : (0 : Int) ≤ k ∧ (k : Int) < b.Groups.length := by omega
    simp only [s0_R20_Same, atI_nat _ k h1, atI_nat _ k h2, if_pos hk, if_pos hk2, if_pos hk.2]
    rw [R19_Same_eq _ _ (by omega), ob_some, w64_id (by omega) (by omega)]
    by_cases e : a.Groups[k] = b.Groups[k] <;> simp [e]
  · simp [s0_R20_Same]
/-- The newest groups that fit. -/
def sfx (cap : Int) : List (List GRecord) → List (List GRecord)
  | [] => []
  | g :: gs => if (roomN (g :: gs) : Int) ≤ cap then g :: gs else sfx cap gs
theorem roomN_drop_le (L : List (List GRecord)) (k : Nat) : roomN (L.drop k) ≤ roomN L := by
  have h : roomN L = roomN (L.take k) + roomN (L.drop k) := by
    unfold roomN
    rw [← List.sum_append, ← List.map_append, List.take_append_drop]
  omega
theorem bulkN_drop_le (L : List (List GRecord)) (k : Nat) : bulkN (L.drop k) ≤ bulkN L := by
  have h : bulkN L = bulkN (L.take k) + bulkN (L.drop k) := by
    unfold bulkN
    rw [← List.sum_append, ← List.map_append, List.take_append_drop]
  omega
theorem bulkN_take_le (L : List (List GRecord)) (k : Nat) : bulkN (L.take k) ≤ bulkN L := by
  have h : bulkN L = bulkN (L.take k) + bulkN (L.drop k) := by
    unfold bulkN
    rw [← List.sum_append, ← List.map_append, List.take_append_drop]
  omega
theorem roomN_append (L M : List (List GRecord)) : roomN (L ++ M) = roomN L + roomN M := by simp [roomN]
theorem bulkN_append (L M : List (List GRecord)) : bulkN (L ++ M) = bulkN L + bulkN M := by simp [bulkN]
theorem roomN_one (g : List GRecord) : roomN [g] = packN g + 1 := by simp [roomN]
theorem bulkN_one (g : List GRecord) : bulkN [g] = bigN g + 1 := by simp [bulkN]
theorem sfx_fits {cap : Int} {L : List (List GRecord)} (h : (roomN L : Int) ≤ cap) : sfx cap L = L := by
  cases L with
  | nil => rfl
  | cons g gs => simp only [sfx, if_pos h]
theorem sfx_drop {cap : Int} : ∀ (k : Nat) (L : List (List GRecord)), k ≤ L.length → (roomN (L.drop k) : Int) ≤ cap → (k = 0 ∨ cap < (roomN (L.drop (k - 1)) : Int)) → sfx cap L = L.drop k := by
  intro k
  induction k with
  | zero => intro L _ h _; exact sfx_fits h
  | succ k ih =>
    intro L hk h1 h2
    cases L with
    | nil => rfl
    | cons g gs =>
      have h3 : cap < (roomN ((g :: gs).drop k) : Int) := by
        rcases h2 with h | h
        · omega
        · exact h
      have h4 := roomN_drop_le (g :: gs) k
      have h5 : ¬ (roomN (g :: gs) : Int) ≤ cap := by omega
      simp only [sfx, if_neg h5, List.drop_succ_cons]
      refine ih gs (by simpa using hk) (by simpa using h1) ?_
      cases k with
      | zero => exact .inl rfl
      | succ k => exact .inr (by simpa using h3)
theorem sfx_room {cap : Int} (h0 : 0 ≤ cap) (L : List (List GRecord)) : (roomN (sfx cap L) : Int) ≤ cap := by
  induction L with
  | nil => exact h0
  | cons g gs ih =>
    simp only [sfx]
    split
    · assumption
    · exact ih
theorem sfx_is_drop (cap : Int) (L : List (List GRecord)) : ∃ k, k ≤ L.length ∧ sfx cap L = L.drop k ∧ (k = 0 ∨ cap < (roomN (L.drop (k - 1)) : Int)) := by
  induction L with
  | nil => exact ⟨0, Nat.le_refl _, rfl, .inl rfl⟩
  | cons g gs ih =>
    simp only [sfx]
    split
    · exact ⟨0, Nat.zero_le _, rfl, .inl rfl⟩
    · rename_i hn
      obtain ⟨k, h1, h2, h3⟩ := ih
      refine ⟨k + 1, by simpa using h1, by simpa using h2, .inr ?_⟩
      cases k with
      | zero => simp; simp at hn; omega
      | succ k =>
        rcases h3 with h | h
        · omega
        · simpa using h
end Go.Pv

/- Rings, in plain words: put and take. -/
namespace Go.Pv
theorem R19_Short_ex (l : List GRecord) (h : bigN l ≤ 1099511627776) : ∃ b, F_R19_Short l = some b := by
  have hlen : l.length ≤ bigN l := Nat.le_trans (len_le_pack l) (packN_le l)
  obtain ⟨r, h1, _⟩ := iter_post (S := fun p : Int × Int => s0_R19_Short l p.fst p.snd) (fun p => l.length - p.2.toNat) (fun p => ∃ k : Nat, p.2 = k ∧ k ≤ l.length ∧ 0 ≤ p.1 ∧ p.1 ≤ (l.length : Int) + bigN (l.take k)) (fun _ => True) (fun p hp => by
    obtain ⟨n, i⟩ := p
    obtain ⟨k, hk, hk2, hn, hn2⟩ := hp
    simp only at hk hn hn2
    subst hk
    rcases Nat.lt_or_ge k l.length with hlt | hge
    · have e : bigN (l.take (k + 1)) = bigN (l.take k) + (l[k].big + 1) := sum_map_take _ l k hlt
      have e2 : bigN (l.take (k + 1)) ≤ bigN l := sum_take_le _ l _
      have e3 : l[k].big = l[k].Obj.Slots.length + l[k].Obj.Text.size := rfl
      have hk0 : (0 : Int) ≤ k ∧ (k : Int) < l.length := by omega
      simp only [s0_R19_Short, atI_nat _ k hlt, if_pos hk0, if_pos hk0.2]
      by_cases h5 : n < 5000
      · rw [if_pos h5]
        refine .inl ⟨_, rfl, ⟨k + 1, ?_, by omega, ?_, ?_⟩, ?_⟩
        · simp only; rw [w64_id (by omega) (by omega)]; omega
        · simp only; rw [w64_id (n := (l[k].Obj.Slots.length : Int) + l[k].Obj.Text.size) (by omega) (by omega), w64_id (by omega) (by omega)]; omega
        · simp only; rw [w64_id (n := (l[k].Obj.Slots.length : Int) + l[k].Obj.Text.size) (by omega) (by omega), w64_id (by omega) (by omega)]; omega
        · simp only; rw [w64_id (n := (k : Int) + 1) (by omega) (by omega)]; omega
      · rw [if_neg h5]
        exact .inr ⟨_, rfl, trivial⟩
    · have : ¬ ((k : Int) < l.length) := by omega
      simp only [s0_R19_Short, if_neg this]
      exact .inr ⟨_, rfl, trivial⟩) ((l.length : Int), (0 : Int)) ⟨0, rfl, Nat.zero_le _, by simp, by simp [bigN]⟩
  exact ⟨_, by rw [F_R19_Short, h1]; rfl⟩
theorem R20_Small_ex (r : GRing) (h : bulkN r.Groups ≤ 1099511627776) : ∃ b, F_R20_Small r = some b := by
  have hlen : r.Groups.length ≤ bulkN r.Groups := Nat.le_trans (len_le_room _) (roomN_le _)
  obtain ⟨x, h1, _⟩ := iter_post (S := fun p : Int × Int => s0_R20_Small r.Cap r.Groups p.fst p.snd) (fun p => r.Groups.length - p.2.toNat) (fun p => ∃ k : Nat, p.2 = k ∧ k ≤ r.Groups.length ∧ 0 ≤ p.1 ∧ p.1 ≤ 4 * 1099511627776) (fun _ => True) (fun p hp => by
    obtain ⟨n, i⟩ := p
    obtain ⟨k, hk, hk2, hn, hn2⟩ := hp
    simp only at hk hn hn2
    subst hk
    rcases Nat.lt_or_ge k r.Groups.length with hlt | hge
    · have hk0 : (0 : Int) ≤ k ∧ (k : Int) < r.Groups.length := by omega
      have e3 := bigN_at r.Groups k hlt
      simp only [s0_R20_Small, atI_nat _ k hlt, if_pos hk0, if_pos hk0.2]
      by_cases h5 : n < 5000
      · rw [if_pos h5]
        obtain ⟨b, hb⟩ := R19_Short_ex r.Groups[k] (by omega)
        rw [hb, ob_some]
        cases b with
        | false => exact .inr ⟨_, rfl, trivial⟩
        | true =>
          have hw : w64 ((k : Int) + 1) = ((k + 1 : Nat) : Int) := by rw [w64_id (by omega) (by omega)]; rfl
          have hs : List.drop (k : Int).toNat (List.take ((k + 1 : Nat) : Int).toNat r.Groups) = [r.Groups[k]] := by
            rw [Int.toNat_natCast, Int.toNat_natCast, List.drop_take, show k + 1 - k = 1 by omega, List.drop_eq_getElem_cons hlt]; rfl
          have e4 := packN_le r.Groups[k]
          simp only [hw, hs, Bool.true_eq_false, if_false]
          rw [if_pos (by omega), R20_Room_eq _ (by simp only [bulkN_one]; omega), ob_some]
          simp only [roomN_one]
          refine .inl ⟨_, rfl, ⟨k + 1, rfl, by omega, ?_, ?_⟩, ?_⟩
          · simp only; rw [w64_id (by omega) (by omega)]; omega
          · simp only; rw [w64_id (by omega) (by omega)]; omega
          · simp only [Int.toNat_natCast]; omega
      · rw [if_neg h5]
        exact .inr ⟨_, rfl, trivial⟩
    · have : ¬ ((k : Int) < r.Groups.length) := by omega
      simp only [s0_R20_Small, if_neg this]
      exact .inr ⟨_, rfl, trivial⟩) ((r.Groups.length : Int), (0 : Int)) ⟨0, rfl, Nat.zero_le _, by simp, by simp only; omega⟩
  rw [F_R20_Small, h1, ob_some]
  cases x with
  | inl a => exact ⟨_, rfl⟩
  | inr a => exact ⟨_, rfl⟩
def putR (r : GRing) (g : List GRecord) : GRing × Int := if okRing r then (⟨r.Cap, sfx r.Cap (r.Groups ++ [g])⟩, 0) else (⟨0, []⟩, 200)
theorem sfx_none {cap : Int} (h0 : 0 ≤ cap) (L : List (List GRecord)) (g : List GRecord) (h : cap < (packN g + 1 : Nat)) : sfx cap (L ++ [g]) = [] := by
  have := sfx_drop (cap := cap) (L.length + 1) (L ++ [g]) (by simp) (by simpa [roomN] using h0) (.inr (by simp [roomN_one]; omega))
  rw [this]; simp
theorem ring_Put_eq (r : GRing) (g : List GRecord) (h : bulkN r.Groups + bigN g ≤ 549755813888) : F_ring_Put r g = some (putR r g) := by
  have hlen : r.Groups.length ≤ bulkN r.Groups := Nat.le_trans (len_le_room _) (roomN_le _)
  have hg := packN_le g
  have hgl := len_le_pack g
  unfold F_ring_Put putR
  rw [ring_may_eq r (by omega), ob_some]
  by_cases hok : okRing r
  case neg => simp [hok]
  obtain ⟨c0, c1, c2⟩ := hok
  have hok : okRing r := ⟨c0, c1, c2⟩
  simp only [hok, decide_true, Bool.true_eq_false, if_false, if_true]
  rw [ring_room_eq [g] (by rw [bulkN_one]; omega), ob_some, roomN_one, w64_id (by omega) (by omega)]
  by_cases hneg : r.Cap - ((packN g + 1 : Nat) : Int) < 0
  · rw [if_pos hneg, sfx_none c0 _ _ (by omega)]
  rw [if_neg hneg]
  obtain ⟨b, h1, k, hb, hk, hr, hmax⟩ := iter_post (S := fun p : Int × Int => s0_ring_Put g r.Cap r.Groups (0 : Int) [] p.fst p.snd) (fun p => p.2.toNat)
    (fun p => ∃ k : Nat, p.2 = k ∧ k ≤ r.Groups.length ∧ p.1 = r.Cap - (roomN (r.Groups.drop k ++ [g]) : Int) ∧ 0 ≤ p.1)
    (fun b => ∃ k : Nat, b = k ∧ k ≤ r.Groups.length ∧ (roomN (r.Groups.drop k ++ [g]) : Int) ≤ r.Cap ∧ (k = 0 ∨ r.Cap < (roomN (r.Groups.drop (k - 1) ++ [g]) : Int))) (fun p hp => by
      obtain ⟨left, fr⟩ := p
      obtain ⟨k, hk, hk2, hl, hl2⟩ := hp
      simp only at hk hl hl2
      subst hk
      cases k with
      | zero =>
        refine .inr ⟨_, by simp [s0_ring_Put], 0, rfl, hk2, by omega, .inl rfl⟩
      | succ k =>
        have hlt : k < r.Groups.length := by omega
        have e1 : w64 (((k + 1 : Nat) : Int) - 1) = (k : Int) := by rw [w64_id (by omega) (by omega)]; omega
        have hd : r.Groups.drop k = r.Groups[k] :: r.Groups.drop (k + 1) := List.drop_eq_getElem_cons hlt
        have hroom : roomN (r.Groups.drop k ++ [g]) = packN r.Groups[k] + 1 + roomN (r.Groups.drop (k + 1) ++ [g]) := by rw [hd]; simp only [roomN, List.cons_append, List.map_cons, List.sum_cons]
        have e3 := bigN_at r.Groups k hlt
        have e4 := packN_le r.Groups[k]
        simp only [s0_ring_Put, e1, atI_nat _ k hlt]
        rw [if_pos (by omega), if_pos (by omega), ring_room_eq [r.Groups[k]] (by rw [bulkN_one]; omega), ob_some, ob_some, roomN_one]
        by_cases hfit : ((packN r.Groups[k] + 1 : Nat) : Int) ≤ left
        · rw [if_pos hfit, if_pos (by omega)]
          refine .inl ⟨_, rfl, ⟨k, rfl, by omega, ?_, ?_⟩, ?_⟩
          · simp only; rw [w64_id (by omega) (by omega), hroom]; omega
          · simp only; rw [w64_id (by omega) (by omega)]; omega
          · simp only [Int.toNat_natCast]; omega
        · rw [if_neg hfit]
          exact .inr ⟨_, rfl, k + 1, rfl, hk2, by omega, .inr (by rw [Nat.add_sub_cancel, hroom]; omega)⟩)
    (r.Cap - ((packN g + 1 : Nat) : Int), (r.Groups.length : Int)) ⟨r.Groups.length, rfl, Nat.le_refl _, by simp [roomN_one], by simp only; omega⟩
  have h1' : iterO (fun p : Int × Int => s0_ring_Put g r.Cap r.Groups (0 : Int) [] p.fst p.snd) (r.Cap - ((packN g + 1 : Nat) : Int), (r.Groups.length : Int)) = some b := h1
  rw [h1', ob_some]
  subst hb
  have hm : most = 140737488355328 := rfl
  rw [if_pos (by omega), Int.toNat_natCast, if_pos (by omega), if_pos (by omega), if_pos (by omega)]
  have hdrop : (r.Groups ++ [g]).drop k = r.Groups.drop k ++ [g] := by rw [List.drop_append_of_le_length hk]
  rw [sfx_drop k (r.Groups ++ [g]) (by simp; omega) (by rw [hdrop]; exact hr) (hmax.imp id fun h => by rw [List.drop_append_of_le_length (by omega)]; exact h), hdrop]
theorem R20_Put_eq (r : GRing) (g : List GRecord) (h : bulkN r.Groups + bigN g ≤ 549755813888) : F_R20_Put r g = some (putR r g) := by
  have hlen : r.Groups.length ≤ bulkN r.Groups := Nat.le_trans (len_le_room _) (roomN_le _)
  unfold F_R20_Put putR
  rw [R20_Check_eq r (by omega), ob_some]
  by_cases hok : okRing r
  case neg => simp [hok]
  simp only [hok, if_true]
  have hm : most = 140737488355328 := rfl
  rw [if_pos (by omega), if_pos (by omega)]
  have h0 : 0 ≤ r.Cap := hok.1
  have hit := iter_fun (S := fun p => s0_R20_Put r.Cap r.Groups (0 : Int) [] r.Cap p) (sfx r.Cap) List.length (fun L => bulkN L ≤ 1099511627776) (fun L hL => by
    cases L with
    | nil => exact .inr (by simp [s0_R20_Put, sfx])
    | cons x xs =>
      have hb : bulkN (x :: xs) = bigN x + 1 + bulkN xs := by simp [bulkN]
      simp only [s0_R20_Put]
      rw [if_pos (by simp), R20_Room_eq _ hL, ob_some]
      by_cases hc : r.Cap < (roomN (x :: xs) : Int)
      · rw [if_pos hc, if_pos (by simp only [List.length_cons]; omega)]
        refine .inl ⟨_, rfl, by simp only [List.tail_cons]; omega, by simp, ?_⟩
        have : ¬ (roomN (x :: xs) : Int) ≤ r.Cap := by omega
        simp only [List.tail_cons, sfx, if_neg this]
      · rw [if_neg hc]
        have : (roomN (x :: xs) : Int) ≤ r.Cap := by omega
        exact .inr (by simp only [sfx, if_pos this])) (r.Groups ++ [g]) (by simp only [bulkN_append, bulkN_one]; omega)
  rw [hit]; rfl
def takeR (r : GRing) : List GRecord × GRing × Int :=
  if okRing r then (match r.Groups.getLast? with | none => ([], r, 201) | some x => (x, ⟨r.Cap, r.Groups.dropLast⟩, 0)) else ([], ⟨0, []⟩, 200)
theorem ring_Take_eq (r : GRing) (h : bulkN r.Groups ≤ 1099511627776) : F_ring_Take r = some (takeR r) := by
  have hlen : r.Groups.length ≤ bulkN r.Groups := Nat.le_trans (len_le_room _) (roomN_le _)
  unfold F_ring_Take takeR
  rw [ring_may_eq r h, ob_some]
  by_cases hok : okRing r
  case neg => simp [hok]
  simp only [hok, decide_true, Bool.true_eq_false, if_false, if_true]
  rcases List.eq_nil_or_concat r.Groups with hn | ⟨L, x, hx⟩
  · simp [hn]
  · rw [List.concat_eq_append] at hx
    have hne : ¬ (r.Groups = []) := by rw [hx]; simp
    have hl : r.Groups.length = L.length + 1 := by rw [hx]; simp
    have hw : w64 ((r.Groups.length : Int) - 1) = (L.length : Int) := by rw [w64_id (by omega) (by omega)]; omega
    have hat : atI r.Groups (L.length : Int) = x := by rw [atI_nat _ _ (by omega)]; simp [hx]
    have htk : r.Groups.take L.length = L := by rw [hx]; simp
    have hxs : x.length ≤ bulkN r.Groups := by
      have h1 := len_le_pack x
      have h2 := packN_le x
      have h3 : bulkN r.Groups = bulkN L + (bigN x + 1) := by rw [hx, bulkN_append, bulkN_one]
      omega
    have hm : most = 140737488355328 := rfl
    rw [if_neg hne, hw, hat, Int.toNat_natCast, htk]
    rw [if_pos (by omega), if_pos (by omega), if_pos (by omega), if_pos (by omega), hx]
    simp
theorem R20_Take_eq (r : GRing) (h : bulkN r.Groups ≤ 1099511627776) : F_R20_Take r = some (takeR r) := by
  have hlen : r.Groups.length ≤ bulkN r.Groups := Nat.le_trans (len_le_room _) (roomN_le _)
  unfold F_R20_Take takeR
  rw [R20_Check_eq r h, ob_some]
  by_cases hok : okRing r
  case neg => simp [hok]
  simp only [hok, if_true]
  rcases List.eq_nil_or_concat r.Groups with hn | ⟨L, x, hx⟩
  · simp [hn]
  · rw [List.concat_eq_append] at hx
    have hne : ¬ (r.Groups = []) := by rw [hx]; simp
    have hl : r.Groups.length = L.length + 1 := by rw [hx]; simp
    have hw : w64 ((r.Groups.length : Int) - 1) = (L.length : Int) := by rw [w64_id (by omega) (by omega)]; omega
    have hat : atI r.Groups (L.length : Int) = x := by rw [atI_nat _ _ (by omega)]; simp [hx]
    have htk : r.Groups.take L.length = L := by rw [hx]; simp
    have hm : most = 140737488355328 := rfl
    rw [if_neg hne, hw, hat, Int.toNat_natCast, htk]
    rw [if_pos (by omega), if_pos (by omega), if_pos (by omega), hx]
    simp
end Go.Pv

/- Rings, in plain words: the laws. -/
namespace Go.Pv
theorem sfx_bulk (cap : Int) (L : List (List GRecord)) : bulkN (sfx cap L) ≤ bulkN L := by
  obtain ⟨k, _, h, _⟩ := sfx_is_drop cap L
  rw [h]; exact bulkN_drop_le L k
theorem putR_bulk (r : GRing) (g : List GRecord) : bulkN (putR r g).1.Groups ≤ bulkN r.Groups + bigN g + 1 := by
  unfold putR
  split
  · have := sfx_bulk r.Cap (r.Groups ++ [g])
    rw [bulkN_append, bulkN_one] at this
    simp only
    omega
  · simp [bulkN]
theorem takeR_bulk (r : GRing) : bigN (takeR r).1 ≤ bulkN r.Groups ∧ bulkN (takeR r).2.1.Groups ≤ bulkN r.Groups := by
  unfold takeR
  split
  · rcases List.eq_nil_or_concat r.Groups with hn | ⟨L, x, hx⟩
    · simp [hn, bigN]
    · rw [List.concat_eq_append] at hx
      have h3 : bulkN r.Groups = bulkN L + (bigN x + 1) := by rw [hx, bulkN_append, bulkN_one]
      simp only [hx, List.getLast?_append, List.getLast?_singleton, Option.some_or, List.dropLast_concat]
      rw [← hx, h3]
      exact ⟨by omega, by omega⟩
  · simp [bigN, bulkN]
theorem ringTells (r : GRing) (g : List GRecord) (h : bulkN r.Groups + bigN g ≤ 274877906944) : F_L20_RingTells r g = some true := by
  obtain ⟨b, hb⟩ := R20_Small_ex r (by omega)
  obtain ⟨c, hc⟩ := R19_Short_ex g (by omega)
  have h1 := putR_bulk r g
  have h2 := takeR_bulk r
  unfold F_L20_RingTells
  rw [hb, ob_some]
  cases b with
  | false => simp
  | true =>
    rw [if_pos rfl, hc, ob_some]
    cases c with
    | false => simp
    | true =>
      rw [if_neg (by simp), ring_Put_eq r g (by omega), ob_some, R20_Put_eq r g (by omega), ob_some, ring_Take_eq r (by omega), ob_some, R20_Take_eq r (by omega), ob_some]
      simp only [F_ring_Check, F_ring_Room, ring_may_eq r (by omega), R20_Check_eq r (by omega), ring_room_eq r.Groups (by omega), R20_Room_eq r (by omega), ob_some, R20_Same_eq _ _ (show bulkN (putR r g).1.Groups ≤ 1099511627776 by omega),
        R19_Same_eq _ _ (show bigN (takeR r).1 ≤ 1099511627776 by omega), R20_Same_eq _ _ (show bulkN (takeR r).2.1.Groups ≤ 1099511627776 by omega)]
      by_cases hok : okRing r <;> simp [hok]
theorem sfx_snoc (cap : Int) (L : List (List GRecord)) (g : List GRecord) (h0 : 0 ≤ cap) : sfx cap (sfx cap L ++ [g]) = sfx cap (L ++ [g]) := by
  obtain ⟨k, hk, h1, h2⟩ := sfx_is_drop cap L
  obtain ⟨j, hj, h3, h4⟩ := sfx_is_drop cap (L.drop k ++ [g])
  have hr := sfx_room h0 (L.drop k ++ [g])
  rw [h1, h3]
  rw [h3] at hr
  have e : ∀ m, (L ++ [g]).drop (k + m) = (L.drop k ++ [g]).drop m := fun m => by
    rw [← List.drop_drop, List.drop_append_of_le_length hk]
  rw [← e j] at hr ⊢
  have hj' : j ≤ L.length - k + 1 := by simpa using hj
  refine (sfx_drop (k + j) (L ++ [g]) (by simp; omega) hr ?_).symm
  rcases h4 with rfl | h4
  · rcases h2 with rfl | h2
    · exact .inl rfl
    · by_cases hk0 : k = 0
      · exact .inl (by omega)
      · right
        rw [Nat.add_zero, List.drop_append_of_le_length (by omega), roomN_append]
        omega
  · by_cases hj0 : j = 0
    · subst hj0
      have : (L ++ [g]).drop k = L.drop k ++ [g] := List.drop_append_of_le_length hk
      simp only [Nat.add_zero, this] at hr
      simp at h4
      omega
    · right
      have e2 := e (j - 1)
      rw [show k + (j - 1) = k + j - 1 by omega] at e2
      rw [e2]; exact h4
theorem sfx_le (a b : Int) (l : List (List GRecord)) (ha : 0 ≤ a) (hab : a ≤ b) : ∃ i j, i ≤ l.length ∧ j ≤ i ∧ sfx a l = l.drop i ∧ sfx b l = l.drop j := by
  obtain ⟨i, h1, h2, h3⟩ := sfx_is_drop a l
  obtain ⟨j, h4, h5, h6⟩ := sfx_is_drop b l
  refine ⟨i, j, h1, ?_, h2, h5⟩
  rcases Nat.lt_or_ge i j with h | h
  · rcases h6 with h6 | h6
    · omega
    · have hr := sfx_room ha l
      rw [h2] at hr
      have e : l.drop (j - 1) = (l.drop i).drop (j - 1 - i) := by rw [List.drop_drop, show i + (j - 1 - i) = j - 1 by omega]
      have := roomN_drop_le (l.drop i) (j - 1 - i)
      rw [← e] at this
      omega
  · exact h
theorem okSfx (cap : Int) (L : List (List GRecord)) (h0 : 0 ≤ cap) (h1 : cap ≤ 100000) : okRing ⟨cap, sfx cap L⟩ := ⟨h0, h1, sfx_room h0 L⟩
theorem put_sfx (cap : Int) (l : List (List GRecord)) (k : Nat) (hk : k < l.length) (h0 : 0 ≤ cap) (h1 : cap ≤ 100000) (hb : bulkN l ≤ 274877906944) :
    F_ring_Put ⟨cap, sfx cap (l.take k)⟩ l[k] = some (⟨cap, sfx cap (l.take (k + 1))⟩, 0) := by
  have h2 := sfx_bulk cap (l.take k)
  have h3 := bulkN_take_le l k
  have h4 := bigN_at l k hk
  rw [ring_Put_eq _ _ (by simp only; omega), putR, if_pos (okSfx cap _ h0 h1)]
  simp only
  rw [sfx_snoc cap _ _ h0, take_succ' l k hk]
theorem ringNewest (most : Int) (l : List (List GRecord)) (h : bulkN l ≤ 274877906944) : F_L20_RingNewest most l = some true := by
  have hlen : l.length ≤ bulkN l := Nat.le_trans (len_le_room _) (roomN_le _)
  unfold F_L20_RingNewest
  by_cases c0 : 0 ≤ most
  case neg => simp [c0]
  by_cases c1 : most ≤ 100000
  case neg => simp [c1]
  by_cases c2 : (l.length : Int) ≤ 50
  case neg => simp [c2]
  rw [if_pos c0, if_pos c1, if_pos c2]
  obtain ⟨b, hb⟩ := R20_Small_ex ⟨0, l⟩ (by simp only; omega)
  rw [hb, ob_some]
  cases b with
  | false => simp
  | true =>
    have hit := iter_acc (S := fun p : Int × Int × List (List GRecord) => s0_L20_RingNewest most l p.fst p.snd.fst p.snd.snd) (fun k => ((k : Int), most, sfx most (l.take k))) l.length (b := .inr (most, sfx most l)) (fun k hk => by
      have h2 := sfx_bulk most (l.take (k + 1))
      have h3 := bulkN_take_le l (k + 1)
      simp only [s0_L20_RingNewest, atI_nat _ k hk]
      rw [if_pos (by omega), if_pos (by omega), put_sfx most l k hk c0 c1 h, ob_some]
      simp only [if_true]
      rw [R20_Room_eq _ (by simp only; omega), ob_some, if_pos (sfx_room c0 _), w64_id (by omega) (by omega)]
      rfl) (by simp [s0_L20_RingNewest])
    have hit' : iterO (fun p : Int × Int × List (List GRecord) => s0_L20_RingNewest most l p.fst p.snd.fst p.snd.snd) ((0 : Int), most, []) = some (.inr (most, sfx most l)) := by simpa [sfx] using hit
    rw [if_neg (by simp), hit', ob_some, sm_inr]
    obtain ⟨k, hk, hd, hmax⟩ := sfx_is_drop most l
    have hb2 := sfx_bulk most l
    have hl2 : (sfx most l).length = l.length - k := by rw [hd]; simp
    simp only
    have hw : w64 ((l.length : Int) - ((sfx most l).length : Int)) = (k : Int) := by rw [w64_id (by omega) (by omega)]; omega
    rw [if_pos (by omega), hw, if_pos (by omega), R20_Same_eq _ _ (by simp only; omega), ob_some]
    simp only [Int.toNat_natCast, hd, decide_true, Bool.true_eq_false, if_false]
    by_cases he : ((l.drop k).length : Int) = l.length
    · rw [if_pos he]
    · rw [if_neg he]
      have hk0 : k ≠ 0 := fun e => he (by subst e; simp)
      have hw2 : w64 ((k : Int) - 1) = ((k - 1 : Nat) : Int) := by rw [w64_id (by omega) (by omega)]; omega
      have hb3 := bulkN_drop_le l (k - 1)
      rw [hw2, if_pos (by omega), Int.toNat_natCast, R20_Room_eq _ (by simp only; omega), ob_some]
      rcases hmax with h | h
      · exact absurd h hk0
      · simp only [decide_eq_true h]
theorem ringWider (a b : Int) (l : List (List GRecord)) (h : bulkN l ≤ 274877906944) : F_L20_RingWider a b l = some true := by
  have hlen : l.length ≤ bulkN l := Nat.le_trans (len_le_room _) (roomN_le _)
  unfold F_L20_RingWider
  by_cases c0 : 0 ≤ a
  case neg => simp [c0]
  by_cases c3 : a ≤ b
  case neg => simp [c3]
  by_cases c1 : b ≤ 100000
  case neg => simp [c1]
  by_cases c2 : (l.length : Int) ≤ 50
  case neg => simp [c2]
  rw [if_pos c0, if_pos c3, if_pos c1, if_pos c2]
  obtain ⟨q, hq⟩ := R20_Small_ex ⟨0, l⟩ (by simp only; omega)
  rw [hq, ob_some]
  cases q with
  | false => simp
  | true =>
    have hit := iter_acc (S := fun p : Int × Int × List (List GRecord) × Int × List (List GRecord) => s0_L20_RingWider l p.fst p.snd.fst p.snd.snd.fst p.snd.snd.snd.fst p.snd.snd.snd.snd) (fun k => ((k : Int), a, sfx a (l.take k), b, sfx b (l.take k))) l.length (b := .inr (a, sfx a l, b, sfx b l)) (fun k hk => by
      simp only [s0_L20_RingWider, atI_nat _ k hk]
      rw [if_pos (by omega), if_pos (by omega), put_sfx a l k hk c0 (by omega) h, ob_some, if_pos (by omega), put_sfx b l k hk (by omega) c1 h, ob_some]
      simp only [if_true]
      rw [w64_id (by omega) (by omega)]
      rfl) (by simp [s0_L20_RingWider])
    have hit' : iterO (fun p : Int × Int × List (List GRecord) × Int × List (List GRecord) => s0_L20_RingWider l p.fst p.snd.fst p.snd.snd.fst p.snd.snd.snd.fst p.snd.snd.snd.snd) ((0 : Int), a, [], b, []) = some (.inr (a, sfx a l, b, sfx b l)) := by simpa [sfx] using hit
    rw [if_neg (by simp), hit', ob_some, sm_inr]
    obtain ⟨i, j, hi, hj, ha, hb⟩ := sfx_le a b l c0 c3
    have hb2 := bulkN_drop_le l i
    have hb3 := bulkN_drop_le l j
    have hd : (l.drop j).drop (i - j) = l.drop i := by rw [List.drop_drop, show j + (i - j) = i by omega]
    have hr := roomN_drop_le (l.drop j) (i - j)
    rw [hd] at hr
    simp only [ha, hb, List.length_drop]
    have hw : w64 (((l.length - j : Nat) : Int) - ((l.length - i : Nat) : Int)) = ((i - j : Nat) : Int) := by rw [w64_id (by omega) (by omega)]; omega
    rw [hw, if_pos (by omega), if_pos (by omega), Int.toNat_natCast, hd, R20_Same_eq _ _ (by simp only; omega), ob_some]
    simp only [decide_true, if_true, F_ring_Room]
    rw [ring_room_eq _ (by omega), ob_some, ring_room_eq _ (by omega), ob_some, ob_some, ob_some]
    have : (roomN (l.drop i) : Int) ≤ roomN (l.drop j) := by omega
    simp [this]
theorem ringTurns (r : GRing) (g : List GRecord) (h : bulkN r.Groups + bigN g ≤ 274877906944) : F_L20_RingTurns r g = some true := by
  have hlen : r.Groups.length ≤ bulkN r.Groups := Nat.le_trans (len_le_room _) (roomN_le _)
  have hpg := packN_le g
  obtain ⟨b, hb⟩ := R20_Small_ex r (by omega)
  obtain ⟨c, hc⟩ := R19_Short_ex g (by omega)
  unfold F_L20_RingTurns
  rw [hb, ob_some]
  cases b with
  | false => simp
  | true =>
  rw [if_pos rfl, hc, ob_some]
  cases c with
  | false => simp
  | true =>
  rw [if_pos rfl, R20_Check_eq r (by omega), ob_some]
  by_cases hok : okRing r
  case neg => simp [hok]
  have h0 := hok.1
  have h1 := hok.2.1
  rw [if_pos hok, if_pos rfl, ring_Put_eq r g (by omega), ob_some, putR, if_pos hok]
  simp only [if_true]
  rw [R19_Pack_eq g (by omega), ob_some, w64_id (by omega) (by omega)]
  by_cases hbig : r.Cap < 1 + (packN g : Int)
  · rw [if_pos hbig, sfx_none h0 _ _ (by omega)]; simp
  rw [if_neg hbig]
  obtain ⟨k, hk, hd, hmax⟩ := sfx_is_drop r.Cap (r.Groups ++ [g])
  have hk' : k ≤ r.Groups.length := by
    rcases Nat.lt_or_ge r.Groups.length k with hlt | hge
    · have : k = r.Groups.length + 1 := by simp at hk; omega
      subst this
      rcases hmax with hm | hm
      · omega
      · simp [roomN_one] at hm; omega
    · exact hge
  have hs : sfx r.Cap (r.Groups ++ [g]) = r.Groups.drop k ++ [g] := by rw [hd, List.drop_append_of_le_length hk']
  have hroom := sfx_room h0 (r.Groups ++ [g])
  rw [hs] at hroom ⊢
  have hbd := bulkN_drop_le r.Groups k
  have hta : F_ring_Take ⟨r.Cap, r.Groups.drop k ++ [g]⟩ = some (g, ⟨r.Cap, r.Groups.drop k⟩, 0) := by
    rw [ring_Take_eq _ (by simp only [bulkN_append, bulkN_one]; omega), takeR, if_pos ⟨h0, h1, hroom⟩]
    simp
  rw [hta, ob_some]
  simp only [if_true]
  rw [R19_Same_eq _ _ (by omega), ob_some]
  simp only [decide_true, if_true, List.length_drop]
  have hw : w64 ((r.Groups.length : Int) - ((r.Groups.length - k : Nat) : Int)) = (k : Int) := by rw [w64_id (by omega) (by omega)]; omega
  rw [if_pos (by omega), hw, if_pos (by omega), Int.toNat_natCast, R20_Same_eq _ _ (by simp only; omega), ob_some]
  simp only [decide_true, Bool.true_eq_false, if_false]
  have hroomD : (roomN (r.Groups.drop k) : Int) ≤ r.Cap := by rw [roomN_append] at hroom; omega
  generalize hD : r.Groups.drop k = D at hbd hroomD
  have hDl : D.length = r.Groups.length - k := by rw [← hD]; simp
  have hpre : ∀ m, (roomN (D.take m) : Int) ≤ r.Cap := fun m => by
    have e : roomN D = roomN (D.take m) + roomN (D.drop m) := by
      conv => lhs; rw [← List.take_append_drop m D]
      exact roomN_append _ _
    omega
  have hit := iter_acc (S := fun p : Int × Int × List (List GRecord) => s0_L20_RingTurns p.fst p.snd.fst p.snd.snd) (fun j => (((D.length - j : Nat) : Int), r.Cap, D.take (D.length - j))) D.length (b := .inr (r.Cap, [])) (fun j hj => by
    have htk : D.take (D.length - j) = D.take (D.length - (j + 1)) ++ [D[D.length - (j + 1)]] := by
      rw [← take_succ' D _ (by omega)]; congr 1; omega
    have hbt := bulkN_take_le D (D.length - j)
    have hT : F_ring_Take ⟨r.Cap, D.take (D.length - j)⟩ = some (D[D.length - (j + 1)], ⟨r.Cap, D.take (D.length - (j + 1))⟩, 0) := by
      rw [ring_Take_eq _ (by simp only; omega), takeR, if_pos ⟨h0, h1, hpre _⟩]
      simp only
      rw [htk]
      simp only [List.getLast?_append, List.getLast?_singleton, Option.some_or, List.dropLast_concat]
    simp only [s0_L20_RingTurns]
    have hw2 : w64 (((D.length - j : Nat) : Int) - 1) = ((D.length - (j + 1) : Nat) : Int) := by rw [w64_id (by omega) (by omega)]; omega
    rw [if_pos (by omega), hT, ob_some, hw2]
    simp only [if_true]
    rw [if_pos (by simp)]) (by simp [s0_L20_RingTurns])
  have hit' : iterO (fun p : Int × Int × List (List GRecord) => s0_L20_RingTurns p.fst p.snd.fst p.snd.snd) (((r.Groups.length - k : Nat) : Int), r.Cap, D) = some (.inr (r.Cap, [])) := by
    rw [← hDl]; simpa using hit
  rw [hit', ob_some, sm_inr]
  have hend : F_ring_Take ⟨r.Cap, []⟩ = some ([], ⟨r.Cap, []⟩, 201) := by
    rw [ring_Take_eq _ (by simp [bulkN]), takeR, if_pos ⟨h0, h1, by simpa [roomN] using h0⟩]; rfl
  simp only
  rw [hend, ob_some]; rfl
end Go.Pv

/- Rings: from the laws' arguments to plain data. -/
namespace Go.Pv
open Go Go.Proofs
abbrev iT : Ty := .int .i64
abbrev objT : Ty := .pair iT (.pair iT (.pair (.sl iT) (.pair .str (.pair iT (.pair iT .unit)))))
abbrev recT : Ty := .pair iT (.pair iT (.pair iT (.pair iT (.pair objT .unit))))
abbrev ringT : Ty := .pair iT (.pair (.sl (.sl recT)) .unit)
def toObj (x : objT.den) : GObj := ⟨x.1, x.2.1, x.2.2.1, x.2.2.2.1, x.2.2.2.2.1, x.2.2.2.2.2.1⟩
def toRec (x : recT.den) : GRecord := ⟨x.1, x.2.1, x.2.2.1, x.2.2.2.1, toObj x.2.2.2.2.1⟩
def toRecs (l : (Ty.sl recT).den) : List GRecord := List.map toRec l
def toGroups (l : (Ty.sl (.sl recT)).den) : List (List GRecord) := List.map toRecs l
theorem recT_enc (x : recT.den) : recT.enc x = Enc.enc (toRec x) := rfl
theorem map_enc {α β : Type} [Enc β] (e : α → List T) (f : α → β) (h : ∀ x, e x = Enc.enc (f x)) (l : List α) : List.map e l = els (List.map f l) := by
  unfold els
  rw [List.map_map]
  exact List.map_congr_left fun x _ => h x
theorem recs_enc (l : (Ty.sl recT).den) : List.map (α := recT.den) recT.enc l = els (toRecs l) := map_enc recT.enc toRec recT_enc l
theorem groups_enc (l : (Ty.sl (.sl recT)).den) : List.map (α := (Ty.sl recT).den) (Ty.sl recT).enc l = els (toGroups l) :=
  map_enc (Ty.sl recT).enc toRecs (fun x => congrArg (fun e => [T.sl 10 e]) (recs_enc x)) l
theorem argD_recs (l : (Ty.sl recT).den) : argD (.sl recT) l = .t (.sl 10 (els (toRecs l))) := congrArg (fun e => D.t (.sl 10 e)) (recs_enc l)
theorem argD_groups (l : (Ty.sl (.sl recT)).den) : argD (.sl (.sl recT)) l = .t (.sl 1 (els (toGroups l))) := congrArg (fun e => D.t (.sl 1 e)) (groups_enc l)
theorem argD_ring (c : Int) (l : (Ty.sl (.sl recT)).den) (u : Unit) : argD ringT (c, l, u) = .agg [I c, .t (.sl 1 (els (toGroups l)))] := congrArg (fun e => D.agg [I c, .t (.sl 1 e)]) (groups_enc l)
theorem ones {α : Type} (f : α → Nat) (hf : ∀ x, f x = 1) (l : List α) : (l.map f).sum = l.length := by
  induction l with
  | nil => rfl
  | cons a l ih => simp only [List.map_cons, List.sum_cons, List.length_cons, ih, hf]; omega
theorem rec_bulk (x : recT.den) : (toRec x).big + 1 ≤ recT.bulk x := by
  obtain ⟨k, a, s, o, ⟨c, kd, sl, tx, b, h, u⟩, v⟩ := x
  have hs := ones (Ty.bulk iT) (fun _ => rfl) sl
  show List.length (α := iT.den) sl + ByteArray.size tx + 1 ≤ 1 + (1 + (1 + (1 + ((1 + (1 + ((List.map (α := iT.den) (Ty.bulk iT) sl).sum + 1 + (ByteArray.size tx + 1 + (1 + (1 + 0)))))) + 0))))
  rw [hs]; omega
theorem sum_le {α : Type} (f g : α → Nat) (h : ∀ x, f x ≤ g x) (l : List α) : (l.map f).sum ≤ (l.map g).sum := by
  induction l with
  | nil => exact Nat.le_refl _
  | cons a l ih => have := h a; simp only [List.map_cons, List.sum_cons]; omega
theorem sum_le2 {α β : Type} (c : α → β) (f : β → Nat) (g : α → Nat) (h : ∀ x, f (c x) ≤ g x) (l : List α) : ((l.map c).map f).sum ≤ (l.map g).sum := by
  rw [List.map_map]
  exact sum_le _ _ h l
theorem recs_bulk (l : (Ty.sl recT).den) : bigN (toRecs l) + 1 ≤ (Ty.sl recT).bulk l := by
  exact Nat.succ_le_succ (sum_le2 toRec (fun r : GRecord => r.big + 1) recT.bulk rec_bulk l)
theorem groups_bulk (l : (Ty.sl (.sl recT)).den) : bulkN (toGroups l) + 1 ≤ (Ty.sl (.sl recT)).bulk l := by
  exact Nat.succ_le_succ (sum_le2 toRecs (fun r => bigN r + 1) (Ty.sl recT).bulk recs_bulk l)
theorem law_ringTells (x : (Ty.den (.pair ringT (.pair (.sl recT) .unit)))) (_hx : Ty.wf (.pair ringT (.pair (.sl recT) .unit)) x) (hk : Ty.bulk (.pair ringT (.pair (.sl recT) .unit)) x ≤ 1048576) : cO Try.prog lore 7 (argDs (.pair ringT (.pair (.sl recT) .unit)) x) [] = some (.val (Bo true), []) := by
  obtain ⟨⟨c, gs, u⟩, g, v⟩ := x
  have h1 := groups_bulk gs
  have h2 := recs_bulk g
  have h3 : (1 + ((Ty.sl (.sl recT)).bulk gs + 0)) + ((Ty.sl recT).bulk g + 0) ≤ 1048576 := hk
  show cO Try.prog lore 7 [argD ringT (c, gs, u), argD (.sl recT) g] [] = _
  rw [argD_ring c gs u, argD_recs g]
  exact (f_L20_RingTells c (toGroups gs) (toRecs g)).trans (by rw [ringTells ⟨c, toGroups gs⟩ (toRecs g) (by simp only; omega)]; rfl)
theorem law_ringTurns (x : (Ty.den (.pair ringT (.pair (.sl recT) .unit)))) (_hx : Ty.wf (.pair ringT (.pair (.sl recT) .unit)) x) (hk : Ty.bulk (.pair ringT (.pair (.sl recT) .unit)) x ≤ 1048576) : cO Try.prog lore 9 (argDs (.pair ringT (.pair (.sl recT) .unit)) x) [] = some (.val (Bo true), []) := by
  obtain ⟨⟨c, gs, u⟩, g, v⟩ := x
  have h1 := groups_bulk gs
  have h2 := recs_bulk g
  have h3 : (1 + ((Ty.sl (.sl recT)).bulk gs + 0)) + ((Ty.sl recT).bulk g + 0) ≤ 1048576 := hk
  show cO Try.prog lore 9 [argD ringT (c, gs, u), argD (.sl recT) g] [] = _
  rw [argD_ring c gs u, argD_recs g]
  exact (f_L20_RingTurns c (toGroups gs) (toRecs g)).trans (by rw [ringTurns ⟨c, toGroups gs⟩ (toRecs g) (by simp only; omega)]; rfl)
theorem law_ringNewest (x : (Ty.den (.pair iT (.pair (.sl (.sl recT)) .unit)))) (_hx : Ty.wf (.pair iT (.pair (.sl (.sl recT)) .unit)) x) (hk : Ty.bulk (.pair iT (.pair (.sl (.sl recT)) .unit)) x ≤ 1048576) : cO Try.prog lore 8 (argDs (.pair iT (.pair (.sl (.sl recT)) .unit)) x) [] = some (.val (Bo true), []) := by
  obtain ⟨m, gs, u⟩ := x
  have h1 := groups_bulk gs
  have h3 : 1 + ((Ty.sl (.sl recT)).bulk gs + 0) ≤ 1048576 := hk
  show cO Try.prog lore 8 [I m, argD (.sl (.sl recT)) gs] [] = _
  rw [argD_groups gs]
  exact (f_L20_RingNewest m (toGroups gs)).trans (by rw [ringNewest m (toGroups gs) (by omega)]; rfl)
theorem law_ringWider (x : (Ty.den (.pair iT (.pair iT (.pair (.sl (.sl recT)) .unit))))) (_hx : Ty.wf (.pair iT (.pair iT (.pair (.sl (.sl recT)) .unit))) x) (hk : Ty.bulk (.pair iT (.pair iT (.pair (.sl (.sl recT)) .unit))) x ≤ 1048576) : cO Try.prog lore 10 (argDs (.pair iT (.pair iT (.pair (.sl (.sl recT)) .unit))) x) [] = some (.val (Bo true), []) := by
  obtain ⟨a, b, gs, u⟩ := x
  have h1 := groups_bulk gs
  have h3 : 1 + (1 + ((Ty.sl (.sl recT)).bulk gs + 0)) ≤ 1048576 := hk
  show cO Try.prog lore 10 [I a, I b, argD (.sl (.sl recT)) gs] [] = _
  rw [argD_groups gs]
  exact (f_L20_RingWider a b (toGroups gs)).trans (by rw [ringWider a b (toGroups gs) (by omega)]; rfl)
end Go.Pv
