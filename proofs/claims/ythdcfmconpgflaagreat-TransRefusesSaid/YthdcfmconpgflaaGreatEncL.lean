/- Encoders that go scalar by scalar: what comes of all, however it is cut: the laws of the machine, without a program. -/
import Derived.Test.YthdcfmconpgflaaGreatMach
set_option linter.unusedVariables false
set_option linter.unusedSimpArgs false
namespace Go.Proofs.YthdcfmconpgflaaGreat

/-- What comes of the scalars that are left, and of their end. -/
def encRun {X : Type} (bytes : X → Int → List Int × X) : DB → X → List Int → List Int × Int × Int
  | B, _, [] => ([], B.err, B.fat)
  | B, x, c :: l =>
    if B.going = true then
      if isS c = true then ((bytes x c).1 ++ (encRun bytes { B with at_ := B.at_ + 1 } (bytes x c).2 l).1, (encRun bytes { B with at_ := B.at_ + 1 } (bytes x c).2 l).2)
      else ([], 2, B.at_)
    else ([], B.err, B.fat)
theorem encRun_off {X : Type} {bytes : X → Int → List Int × X} {B : DB} (h : B.going = false) (x : X) (l : List Int) : encRun bytes B x l = ([], B.err, B.fat) := by
  cases l with
  | nil => rfl
  | cons c l => rw [encRun, if_neg (by rw [h]; decide)]

theorem encL_tot {X : Type} (bytes : X → Int → List Int × X) (room : Int) (m : List Int) : ∀ (l : List Int) (B : DB) (x : X) (p out : List Int) (r : Nat × DB × X × List Int × List Int), r = encL bytes room B x p out l →
    out ++ (p ++ (encRun bytes B x (l ++ m)).1) = r.2.2.2.2 ++ (r.2.2.2.1 ++ (encRun bytes r.2.1 r.2.2.1 ((l ++ m).drop r.1)).1) ∧ (encRun bytes B x (l ++ m)).2 = (encRun bytes r.2.1 r.2.2.1 ((l ++ m).drop r.1)).2 := by
  intro l
  induction l with
  | nil => intro B x p out r hr; subst hr; exact ⟨rfl, rfl⟩
  | cons c l ih =>
    intro B x p out r hr
    rw [encL] at hr
    split at hr
    · rename_i h
      obtain ⟨rfl, hg⟩ := h
      split at hr
      · rename_i hs
        obtain ⟨h1, h2⟩ := ih { B with at_ := B.at_ + 1 } (bytes x c).2 ((bytes x c).1.drop (give (room - out.length) (bytes x c).1)) (out ++ (bytes x c).1.take (give (room - out.length) (bytes x c).1)) _ rfl
        subst hr
        simp only [List.cons_append, encRun, if_pos hg, if_pos hs, List.nil_append, List.drop_succ_cons]
        refine ⟨?_, h2⟩
        rw [← h1]
        simp only [List.append_assoc]
        rw [← List.append_assoc ((bytes x c).1.take _), List.take_append_drop]
      · rename_i hs
        subst hr
        simp only [List.cons_append, encRun, if_pos hg, if_neg hs, List.drop_zero]
        have : (DB.going { B with err := 2, fat := B.at_ }) = false := by simp [DB.going]
        rw [if_neg (by rw [this]; decide)]
        exact ⟨rfl, rfl⟩
    · subst hr
      exact ⟨rfl, rfl⟩
/-- What holds along the loop. -/
theorem encL_inv {X : Type} (bytes : X → Int → List Int × X) (Ok : X → Prop) (hlen : ∀ x c, (bytes x c).1.length ≤ 8) (hby : ∀ x c, Ok x → isS c = true → 0 ≤ c → Byt (bytes x c).1) (hok : ∀ x c, Ok x → isS c = true → 0 ≤ c → Ok (bytes x c).2) (room : Int) :
    ∀ (l : List Int) (B : DB) (x : X) (p out : List Int) (r : Nat × DB × X × List Int × List Int), r = encL bytes room B x p out l → (∀ c ∈ l, 0 ≤ c) → Ok x → Byt p → Byt out → (out.length : Int) ≤ max room 0 →
      r.1 ≤ l.length ∧ Ok r.2.2.1 ∧ Byt r.2.2.2.1 ∧ Byt r.2.2.2.2 ∧ (r.2.2.2.2.length : Int) ≤ max room 0 ∧ (r.2.2.2.1.length ≤ p.length ∨ r.2.2.2.1.length ≤ 8) ∧ r.2.1.at_ = B.at_ + r.1 ∧ r.2.1.en = B.en ∧ (B.going = false → r.1 = 0 ∧ r.2.1 = B) ∧
      (B.going = true → p = [] → l ≠ [] → 0 < r.1 ∨ r.2.1.going = false) ∧ out.length ≤ r.2.2.2.2.length := by
  intro l
  induction l with
  | nil => intro B x p out r hr _ h1 h2 h3 h4; subst hr; exact ⟨Nat.le_refl _, h1, h2, h3, h4, .inl (Nat.le_refl _), by simp [encL], rfl, fun _ => ⟨rfl, rfl⟩, fun _ _ h => absurd rfl h, Nat.le_refl _⟩
  | cons c l ih =>
    intro B x p out r hr hn h1 h2 h3 h4
    rw [encL] at hr
    split at hr
    · rename_i h
      obtain ⟨rfl, hg⟩ := h
      have hc := hn c (by simp)
      split at hr
      · rename_i hs
        have hge := give_eq (room - out.length) (bytes x c).1
        have hgl := give_le (room - out.length) (bytes x c).1
        have hl8 := hlen x c
        obtain ⟨a1, a2, a3, a4, a5, a6, a7, a8, a9, a10, a11⟩ := ih { B with at_ := B.at_ + 1 } (bytes x c).2 ((bytes x c).1.drop (give (room - out.length) (bytes x c).1)) (out ++ (bytes x c).1.take (give (room - out.length) (bytes x c).1)) _ rfl (fun d hd => hn d (List.mem_cons_of_mem _ hd)) (hok x c h1 hs hc) ((hby x c h1 hs hc).drop _) (h3.app ((hby x c h1 hs hc).take _)) (by simp; omega)
        subst hr
        dsimp only
        refine ⟨by simp; exact a1, a2, a3, a4, a5, ?_, ?_, a8, fun h => by (rw [hg] at h; cases h), fun _ _ _ => .inl (by simp), ?_⟩
        · rcases a6 with h | h
          · rw [List.length_drop] at h; exact .inr (by omega)
          · exact .inr h
        · simp only at a7 ⊢; omega
        · simp only [List.length_append] at a11 ⊢; omega
      · subst hr
        exact ⟨Nat.zero_le _, h1, h2, h3, h4, .inl (Nat.le_refl _), by simp, rfl, fun h => by (rw [hg] at h; cases h), fun _ _ _ => .inr (by simp [DB.going]), Nat.le_refl _⟩
    · rename_i h
      subst hr
      exact ⟨Nat.zero_le _, h1, h2, h3, h4, .inl (Nat.le_refl _), by simp, rfl, fun _ => ⟨rfl, rfl⟩, fun hg hp _ => absurd ⟨hp, hg⟩ h, Nat.le_refl _⟩

/-! ### as a machine's laws -/
abbrev ESt (X : Type) := DB × X × List Int
def eFeed {X : Type} (bytes : X → Int → List Int × X) (s : ESt X) (l : List Int) (room : Int) : Nat × List Int × ESt X :=
  let r := encF bytes room s.1 s.2.1 s.2.2 l
  (r.1, r.2.2.2.2, (r.2.1, r.2.2.1, r.2.2.2.1))
def eStop {X : Type} (s : ESt X) : ESt X := (s.1.endd, s.2.1, s.2.2)
def eOk {X : Type} (Ok : X → Prop) (s : ESt X) (n : Nat) : Prop := Ok s.2.1 ∧ Byt s.2.2 ∧ s.2.2.length ≤ 1000 ∧ 0 ≤ s.1.at_ ∧ s.1.at_ + n ≤ 1000000000 ∧ n ≤ 100000000
def eTot {X : Type} (bytes : X → Int → List Int × X) (s : ESt X) (l : List Int) : List Int × Int × Int := (s.2.2 ++ (encRun bytes s.1 s.2.1 l).1, (encRun bytes s.1 s.2.1 l).2)
section
variable {X : Type} {bytes : X → Int → List Int × X} {Ok : X → Prop} (hlen : ∀ x c, (bytes x c).1.length ≤ 8) (hby : ∀ x c, Ok x → isS c = true → 0 ≤ c → Byt (bytes x c).1) (hok : ∀ x c, Ok x → isS c = true → 0 ≤ c → Ok (bytes x c).2)
include hlen hby hok
theorem eFeed_inv {s : ESt X} {n : Nat} {l : List Int} {room : Int} (h : eOk Ok s n) (hn : ∀ c ∈ l, 0 ≤ c) :
    (eFeed bytes s l room).1 ≤ l.length ∧ Ok (eFeed bytes s l room).2.2.2.1 ∧ Byt (eFeed bytes s l room).2.2.2.2 ∧ Byt (eFeed bytes s l room).2.1 ∧ ((eFeed bytes s l room).2.1.length : Int) ≤ max room 0 ∧
    ((eFeed bytes s l room).2.2.2.2.length ≤ s.2.2.length ∨ (eFeed bytes s l room).2.2.2.2.length ≤ 8) ∧ (eFeed bytes s l room).2.2.1.at_ = s.1.at_ + (eFeed bytes s l room).1 ∧ (eFeed bytes s l room).2.2.1.en = s.1.en ∧
    (s.1.going = false → (eFeed bytes s l room).1 = 0 ∧ (eFeed bytes s l room).2.2.1 = s.1) ∧
    (s.1.going = true → s.2.2 = [] → l ≠ [] → 0 < (eFeed bytes s l room).1 ∨ (eFeed bytes s l room).2.2.1.going = false) ∧ give room s.2.2 ≤ (eFeed bytes s l room).2.1.length := by
  obtain ⟨h1, h2, h3, h4, h5, h6⟩ := h
  have hg := give_le room s.2.2
  have hge := give_eq room s.2.2
  obtain ⟨a1, a2, a3, a4, a5, a6, a7, a8, a9, a10, a11⟩ := encL_inv bytes Ok hlen hby hok room l s.1 s.2.1 (s.2.2.drop (give room s.2.2)) (s.2.2.take (give room s.2.2)) _ rfl hn h1 (h2.drop _) (h2.take _) (by simp; omega)
  refine ⟨a1, a2, a3, a4, a5, ?_, a7, a8, a9, fun g e ne => a10 g (by rw [e]; simp) ne, ?_⟩
  · rw [List.length_drop] at a6; exact a6.imp (fun h => Nat.le_trans h (Nat.sub_le _ _)) id
  · rw [List.length_take] at a11; show _ ≤ (encL _ _ _ _ _ _ _).2.2.2.2.length; omega
end
theorem eTot_len {X : Type} {bytes : X → Int → List Int × X} (hlen : ∀ x c, (bytes x c).1.length ≤ 8) (l : List Int) : ∀ (B : DB) (x : X), (encRun bytes B x l).1.length ≤ 8 * l.length := by
  induction l with
  | nil => intro B x; simp [encRun]
  | cons c l ih =>
    intro B x
    rw [encRun]
    split
    · split
      · have := ih { B with at_ := B.at_ + 1 } (bytes x c).2
        have := hlen x c
        simp; omega
      · simp
    · simp
theorem eTot_feed {X : Type} {bytes : X → Int → List Int × X} (s : ESt X) (l : List Int) (room : Int) (m : List Int) :
    eTot bytes s (l ++ m) = ((eFeed bytes s l room).2.1 ++ (eTot bytes (eFeed bytes s l room).2.2 ((l ++ m).drop (eFeed bytes s l room).1)).1, (eTot bytes (eFeed bytes s l room).2.2 ((l ++ m).drop (eFeed bytes s l room).1)).2) := by
  obtain ⟨h1, h2⟩ := encL_tot bytes room m l s.1 s.2.1 (s.2.2.drop (give room s.2.2)) (s.2.2.take (give room s.2.2)) _ rfl
  refine Prod.ext ?_ h2
  rw [← List.append_assoc, List.take_append_drop] at h1
  exact h1
theorem encL_plain {X : Type} (bytes : X → Int → List Int × X) (room : Int) : ∀ (l : List Int) (B : DB) (x : X) (p out : List Int) (r : Nat × DB × X × List Int × List Int), r = encL bytes room B x p out l →
      r.2.1.en = B.en ∧ (B.going = false → r.1 = 0 ∧ r.2.1 = B) ∧ (B.going = true → p = [] → l ≠ [] → 0 < r.1 ∨ r.2.1.going = false) ∧ out.length ≤ r.2.2.2.2.length := by
  intro l
  induction l with
  | nil => intro B x p out r hr; subst hr; exact ⟨rfl, fun _ => ⟨rfl, rfl⟩, fun _ _ h => absurd rfl h, Nat.le_refl _⟩
  | cons c l ih =>
    intro B x p out r hr
    rw [encL] at hr
    split at hr
    · rename_i h
      obtain ⟨rfl, hg⟩ := h
      split at hr
      · obtain ⟨a8, a9, a10, a11⟩ := ih { B with at_ := B.at_ + 1 } (bytes x c).2 ((bytes x c).1.drop (give (room - out.length) (bytes x c).1)) (out ++ (bytes x c).1.take (give (room - out.length) (bytes x c).1)) _ rfl
        subst hr
        dsimp only
        refine ⟨a8, fun h => by (rw [hg] at h; cases h), fun _ _ _ => .inl (by simp), ?_⟩
        simp only [List.length_append] at a11 ⊢; omega
      · subst hr
        exact ⟨rfl, fun h => by (rw [hg] at h; cases h), fun _ _ _ => .inr (by simp [DB.going]), Nat.le_refl _⟩
    · rename_i h
      subst hr
      exact ⟨rfl, fun _ => ⟨rfl, rfl⟩, fun hg hp _ => absurd ⟨hp, hg⟩ h, Nat.le_refl _⟩
theorem eFeed_plain {X : Type} (bytes : X → Int → List Int × X) (s : ESt X) (l : List Int) (room : Int) :
    (eFeed bytes s l room).2.2.1.en = s.1.en ∧ (s.1.going = false → (eFeed bytes s l room).1 = 0 ∧ (eFeed bytes s l room).2.2.1 = s.1) ∧
    (s.1.going = true → s.2.2 = [] → l ≠ [] → 0 < (eFeed bytes s l room).1 ∨ (eFeed bytes s l room).2.2.1.going = false) ∧ give room s.2.2 ≤ (eFeed bytes s l room).2.1.length := by
  obtain ⟨a8, a9, a10, a11⟩ := encL_plain bytes room l s.1 s.2.1 (s.2.2.drop (give room s.2.2)) (s.2.2.take (give room s.2.2)) _ rfl
  refine ⟨a8, a9, fun g e ne => a10 g (by rw [e]; simp) ne, ?_⟩
  have hg := give_le room s.2.2
  rw [List.length_take] at a11; show _ ≤ (encL _ _ _ _ _ _ _).2.2.2.2.length; omega
end Go.Proofs.YthdcfmconpgflaaGreat
