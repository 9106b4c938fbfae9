/- The encoder of package uni32 behind the interface. -/
import Derived.Test.YthdcfmconpgflaaGreatIface
import Derived.Test.YthdcfmconpgflaaGreatEncL
import Derived.Test.YthdcfmconpgflaaGreatE32f
set_option linter.unusedVariables false
set_option linter.unusedSimpArgs false
namespace Go.Proofs.YthdcfmconpgflaaGreat
open Go.RowKit

/-- The encoder at a block: its state, where it lies. -/
def E32.Is (g : Nat) (F : Nat → Prop) (s : ESt Bool) (w : World) : Prop := F = (fun k => k = g) ∧ w.heap[g]? = some (.cells (E32.cells s.1 s.2.2 s.2.1) 172 (0, 0))
def encI32 : EncI where
  T := 110
  fFeed := 213
  fEnd := 198
  St := ESt Bool
  B := fun s => s.1
  p := fun s => s.2.2
  feed := eFeed E32.bytes
  stop := eStop
  ok := eOk E32.Ok
  total := eTot E32.bytes
  Is := E32.Is
  own := by
    rintro g F s w ⟨rfl, hb⟩
    exact ⟨rfl, fun k e => by subst e; exact blk_lt hb, ⟨_, _, hb, rfl, rfl, rfl, rfl⟩, blk_cell hb 4⟩
  kept := by
    rintro g F s w w' S ⟨rfl, hb⟩ hk hS
    exact ⟨rfl, hk.heap hb (hS g rfl)⟩
  feed_c := by
    rintro g F s n v l room w ⟨rfl, hb⟩ ⟨h1, h2, h3, h4, h5, h6⟩ hn hl hv hnn hr0 hr1
    refine (e32_feed g s.1 s.2.2 s.2.1 v l room w hb h1 hl (fun hne e => hv hne g e rfl) hnn (by omega) (by omega) h4 (by omega) hr0 hr1).mono ?_
    rintro e w' ⟨rfl, hb', hk⟩
    exact ⟨_, rfl, ⟨rfl, hb'⟩, fun k h => .inl h, hk⟩
  end_c := by
    rintro g F s n w ⟨rfl, hb⟩ _
    refine (oend_c g s.1 w ⟨_, _, hb, rfl, rfl, rfl, rfl⟩).mono ?_
    rintro e w' ⟨rfl, rfl⟩
    cases hg : s.1.going
    · have e1 : eStop s = s := by simp [eStop, DB.endd, hg]
      rw [e1]
      exact ⟨_, rfl, ⟨rfl, hb⟩, fun k h => .inl h, Kept.refl _ _⟩
    · have e1 : eStop s = ({ s.1 with en := true }, s.2.1, s.2.2) := by simp [eStop, DB.endd, hg]
      rw [e1]
      exact ⟨_, rfl, ⟨rfl, blk_set hb 3 _⟩, fun k h => .inl h, Kept.one ..⟩
  m_feed := fun g w => by kernel_rfl
  m_end := fun g w => by kernel_rfl
  m_done := fun g w => by kernel_rfl
  m_fail := fun g w => by kernel_rfl
  e_feed := fun args w => by kernel_rfl
  e_end := fun args w => by kernel_rfl
  feed_ok := by
    intro s n l room h hl hn
    obtain ⟨a1, a2, a3, a4, a5, a6, a7, -⟩ := eFeed_inv (room := room) E32.len E32.by (fun _ _ h hs h0 => E32.Ok.next h hs h0) h hn
    obtain ⟨h1, h2, h3, h4, h5, h6⟩ := h
    exact ⟨a1, ⟨a2, a3, by rcases a6 with a | a <;> omega, by rw [a7]; omega, by rw [a7]; omega, by omega⟩, a4, a5⟩
  feed_en := fun _ => (eFeed_plain E32.bytes _ _ _).1
  feed_off := fun _ => (eFeed_plain E32.bytes _ _ _).2.1
  stop_ok := by
    rintro s n ⟨h1, h2, h3, h4, h5, h6⟩
    have : (eStop s).1.at_ = s.1.at_ := by show s.1.endd.at_ = _; unfold DB.endd; split <;> rfl
    exact ⟨h1, h2, h3, by rw [this]; exact h4, by rw [this]; exact h5, h6⟩
  stop_off := by
    intro s n _
    show s.1.endd.going = false
    unfold DB.endd; split
    · simp [DB.going]
    · rename_i h; simpa using h
  tot_feed := fun _ _ _ m => eTot_feed _ _ _ m
  tot_off := by
    intro s n _ hg l
    show (s.2.2 ++ (encRun E32.bytes s.1 s.2.1 l).1, (encRun E32.bytes s.1 s.2.1 l).2) = _
    rw [encRun_off hg]; simp
  tot_stop := by
    intro s n _
    have : s.1.endd.err = s.1.err ∧ s.1.endd.fat = s.1.fat := by unfold DB.endd; split <;> exact ⟨rfl, rfl⟩
    show (s.2.2 ++ [], s.1.err, s.1.fat) = (s.2.2 ++ [], s.1.endd.err, s.1.endd.fat)
    rw [this.1, this.2]
  tot_len := by
    rintro s n ⟨h1, h2, h3, h4, h5, h6⟩ l hl
    have := eTot_len E32.len l s.1 s.2.1
    show (s.2.2 ++ _).length ≤ _
    rw [List.length_append]; omega
  prog1 := by
    intro s n l room _ hr hp he
    have := (eFeed_plain E32.bytes s l room).2.2.2
    rw [he] at this
    have h2 : s.2.2.length ≠ 0 := fun e => hp (List.eq_nil_of_length_eq_zero e)
    unfold give at this
    rw [List.length_nil] at this
    omega
  prog2 := fun _ hg hp hl => (eFeed_plain E32.bytes _ _ _).2.2.1 hg hp hl

end Go.Proofs.YthdcfmconpgflaaGreat
