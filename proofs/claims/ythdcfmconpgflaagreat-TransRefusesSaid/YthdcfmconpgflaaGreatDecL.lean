/- Decoders that go byte by byte: what comes of all, however it is cut: the laws of the machine, without a program. -/
import Derived.Test.YthdcfmconpgflaaGreatMach
set_option linter.unusedVariables false
set_option linter.unusedSimpArgs false
namespace Go.Proofs.YthdcfmconpgflaaGreat

/-- What comes of the bytes that are left, and of their end. -/
def decRun {X : Type} (next : X → Int → Bool × X × List Int) (cut : X → Bool) : DB → X → List Int → List Int × Int × Int
  | B, x, [] => ([], (endB B (cut x)).err, (endB B (cut x)).fat)
  | B, x, b :: t =>
    if B.going = true then
      if (next x b).1 = true then ((next x b).2.2 ++ (decRun next cut { B with at_ := B.at_ + 1 } (next x b).2.1 t).1, (decRun next cut { B with at_ := B.at_ + 1 } (next x b).2.1 t).2)
      else ((next x b).2.2, 3, B.at_)
    else ([], B.err, B.fat)
theorem decRun_off {X : Type} {next : X → Int → Bool × X × List Int} {cut : X → Bool} {B : DB} (h : B.going = false) (x : X) (t : List Int) : decRun next cut B x t = ([], B.err, B.fat) := by
  cases t with
  | nil => simp only [decRun, endB_no h]
  | cons c l => rw [decRun, if_neg (by rw [h]; decide)]
theorem feedL_tot {X : Type} (next : X → Int → Bool × X × List Int) (cut : X → Bool) (room : Int) (m : List Int) : ∀ (t : List Int) (B : DB) (x : X) (xs : List Int) (r : Nat × DB × X × List Int), r = feedL next room B x xs t →
    xs ++ (decRun next cut B x (t ++ m)).1 = r.2.2.2 ++ (decRun next cut r.2.1 r.2.2.1 ((t ++ m).drop r.1)).1 ∧ (decRun next cut B x (t ++ m)).2 = (decRun next cut r.2.1 r.2.2.1 ((t ++ m).drop r.1)).2 := by
  intro t
  induction t with
  | nil => intro B x xs r hr; subst hr; exact ⟨rfl, rfl⟩
  | cons b t ih =>
    intro B x xs r hr
    rw [feedL] at hr
    split at hr
    · rename_i h
      obtain ⟨hroom, hg⟩ := h
      split at hr
      · rename_i hs
        obtain ⟨h1, h2⟩ := ih { B with at_ := B.at_ + 1 } (next x b).2.1 (xs ++ (next x b).2.2) _ rfl
        subst hr
        simp only [List.cons_append, decRun, if_pos hg, if_pos hs, List.drop_succ_cons]
        exact ⟨by rw [← h1, List.append_assoc], h2⟩
      · rename_i hs
        subst hr
        simp only [List.cons_append, decRun, if_pos hg, if_neg hs, List.drop_zero]
        have : (DB.going { B with err := 3, fat := B.at_ }) = false := by simp [DB.going]
        rw [if_neg (by rw [this]; decide)]
        exact ⟨by simp, rfl⟩
    · subst hr
      exact ⟨rfl, rfl⟩
theorem feedL_inv {X : Type} (next : X → Int → Bool × X × List Int) (Ok : X → Prop) (hone : ∀ x b, (next x b).2.2.length ≤ 1) (hok : ∀ x b, Ok x → 0 ≤ b → b ≤ 255 → Ok (next x b).2.1) (room : Int) :
    ∀ (t : List Int) (B : DB) (x : X) (xs : List Int) (r : Nat × DB × X × List Int), r = feedL next room B x xs t → Byt t → Ok x → (xs.length : Int) ≤ max room 0 →
      r.1 ≤ t.length ∧ Ok r.2.2.1 ∧ (r.2.2.2.length : Int) ≤ max room 0 ∧ r.2.1.at_ = B.at_ + r.1 := by
  intro t
  induction t with
  | nil => intro B x xs r hr _ h1 h2; subst hr; exact ⟨Nat.le_refl _, h1, h2, by simp [feedL]⟩
  | cons b t ih =>
    intro B x xs r hr hb h1 h2
    have hb0 := hb b (by simp)
    have h1b := hone x b
    rw [feedL] at hr
    split at hr
    · rename_i h
      obtain ⟨hroom, hg⟩ := h
      split at hr
      · obtain ⟨a1, a2, a3, a4⟩ := ih { B with at_ := B.at_ + 1 } (next x b).2.1 (xs ++ (next x b).2.2) _ rfl (fun y hy => hb y (List.mem_cons_of_mem _ hy)) (hok x b h1 hb0.1 (by omega)) (by simp; omega)
        subst hr
        dsimp only
        exact ⟨by simp; exact a1, a2, a3, by simp only at a4 ⊢; omega⟩
      · subst hr
        exact ⟨Nat.zero_le _, hok x b h1 hb0.1 (by omega), by simp; omega, by simp⟩
    · subst hr
      exact ⟨Nat.zero_le _, h1, h2, by simp⟩
theorem feedL_plain {X : Type} (next : X → Int → Bool × X × List Int) (room : Int) : ∀ (t : List Int) (B : DB) (x : X) (xs : List Int) (r : Nat × DB × X × List Int), r = feedL next room B x xs t →
      r.2.1.en = B.en ∧ (B.going = false → r.1 = 0 ∧ r.2.1 = B) ∧ (B.going = true → (xs.length : Int) < room → t ≠ [] → 0 < r.1 ∨ r.2.1.going = false) := by
  intro t
  induction t with
  | nil => intro B x xs r hr; subst hr; exact ⟨rfl, fun _ => ⟨rfl, rfl⟩, fun _ _ h => absurd rfl h⟩
  | cons b t ih =>
    intro B x xs r hr
    rw [feedL] at hr
    split at hr
    · rename_i h
      obtain ⟨hroom, hg⟩ := h
      split at hr
      · obtain ⟨a8, a9, a10⟩ := ih { B with at_ := B.at_ + 1 } (next x b).2.1 (xs ++ (next x b).2.2) _ rfl
        subst hr
        dsimp only
        exact ⟨a8, fun h => by (rw [hg] at h; cases h), fun _ _ _ => .inl (by simp)⟩
      · subst hr
        exact ⟨rfl, fun h => by (rw [hg] at h; cases h), fun _ _ _ => .inr (by simp [DB.going])⟩
    · rename_i h
      subst hr
      exact ⟨rfl, fun _ => ⟨rfl, rfl⟩, fun hg hp _ => absurd ⟨hp, hg⟩ h⟩

/-! ### as a machine's laws -/
abbrev DSt (X : Type) := DB × X
def dFeed {X : Type} (next : X → Int → Bool × X × List Int) (s : DSt X) (t : List Int) (room : Int) : Nat × List Int × DSt X :=
  let r := feedL next room s.1 s.2 [] t
  (r.1, r.2.2.2, (r.2.1, r.2.2.1))
def dStop {X : Type} (cut : X → Bool) (s : DSt X) : DSt X := (endB s.1 (cut s.2), s.2)
def dOk {X : Type} (Ok : X → Prop) (s : DSt X) (n : Nat) : Prop := Ok s.2 ∧ 0 ≤ s.1.at_ ∧ s.1.at_ + n ≤ 1000000000 ∧ n ≤ 100000000
def dTot {X : Type} (next : X → Int → Bool × X × List Int) (cut : X → Bool) (s : DSt X) (t : List Int) : List Int × Int × Int := decRun next cut s.1 s.2 t
theorem endB_at (B : DB) (c : Bool) : (endB B c).at_ = B.at_ := by
  unfold endB DB.endd DB.stop; (repeat' split) <;> rfl
theorem endB_off (B : DB) (c : Bool) : (endB B c).going = false := by
  cases h : B.going
  · rw [endB_no h]; exact h
  · cases c
    · rw [endB_ok h]; simp [DB.going]
    · rw [endB_cut h]; simp [DB.going]
theorem dFeed_ok {X : Type} {next : X → Int → Bool × X × List Int} {Ok : X → Prop} (hone : ∀ x b, (next x b).2.2.length ≤ 1) (hok : ∀ x b, Ok x → 0 ≤ b → b ≤ 255 → Ok (next x b).2.1)
    {s : DSt X} {n : Nat} {t : List Int} {room : Int} (h : dOk Ok s n) (hl : t.length ≤ n) (hb : Byt t) :
    (dFeed next s t room).1 ≤ t.length ∧ dOk Ok (dFeed next s t room).2.2 (n - (dFeed next s t room).1) ∧ ((dFeed next s t room).2.1.length : Int) ≤ max room 0 := by
  obtain ⟨h1, h2, h3, h4⟩ := h
  obtain ⟨a1, a2, a3, a4⟩ := feedL_inv next Ok hone hok room t s.1 s.2 [] _ rfl hb h1 (by simp; omega)
  refine ⟨a1, ⟨a2, ?_, ?_, ?_⟩, a3⟩
  · show 0 ≤ (feedL next room s.1 s.2 [] t).2.1.at_; omega
  · show (feedL next room s.1 s.2 [] t).2.1.at_ + ((n - (feedL next room s.1 s.2 [] t).1 : Nat) : Int) ≤ _; omega
  · show n - _ ≤ _; omega
theorem dTot_feed {X : Type} {next : X → Int → Bool × X × List Int} (cut : X → Bool) (s : DSt X) (t : List Int) (room : Int) (m : List Int) :
    dTot next cut s (t ++ m) = ((dFeed next s t room).2.1 ++ (dTot next cut (dFeed next s t room).2.2 ((t ++ m).drop (dFeed next s t room).1)).1, (dTot next cut (dFeed next s t room).2.2 ((t ++ m).drop (dFeed next s t room).1)).2) := by
  obtain ⟨h1, h2⟩ := feedL_tot next cut room m t s.1 s.2 [] _ rfl
  exact Prod.ext h1 h2
theorem dTot_stop {X : Type} (next : X → Int → Bool × X × List Int) (cut : X → Bool) (s : DSt X) : dTot next cut s [] = dTot next cut (dStop cut s) [] := by
  show ([], (endB s.1 (cut s.2)).err, (endB s.1 (cut s.2)).fat) = ([], (endB (endB s.1 (cut s.2)) (cut s.2)).err, (endB (endB s.1 (cut s.2)) (cut s.2)).fat)
  rw [endB_no (endB_off _ _)]
theorem decRun_len {X : Type} {next : X → Int → Bool × X × List Int} (cut : X → Bool) (hone : ∀ x b, (next x b).2.2.length ≤ 1) (t : List Int) : ∀ (B : DB) (x : X), (decRun next cut B x t).1.length ≤ t.length := by
  induction t with
  | nil => intro B x; simp [decRun]
  | cons b t ih =>
    intro B x
    have h1 := hone x b
    rw [decRun]
    split
    · split
      · have := ih { B with at_ := B.at_ + 1 } (next x b).2.1
        simp; omega
      · simp; omega
    · simp
end Go.Proofs.YthdcfmconpgflaaGreat
