/- UTF-8's decoder behind the interface. -/
import Derived.Test.YthdcfmconpgflaaGreatIface
import Derived.Test.YthdcfmconpgflaaGreatDecL
import Derived.Test.YthdcfmconpgflaaGreatU8f
set_option linter.unusedVariables false
set_option linter.unusedSimpArgs false
namespace Go.Proofs.YthdcfmconpgflaaGreat
open Go.RowKit

--INST
/-- The decoder at a block: its state, where it lies. -/
def U8.Is (g : Nat) (F : Nat → Prop) (s : DSt U8) (w : World) : Prop := F = (fun k => k = g) ∧ w.heap[g]? = some (.cells (s.2.cells s.1 (.slice none 0 0)) 191 (0, 0))
def decI8 : DecI where
  T := 120
  fFeed := 289
  fEnd := 288
  St := DSt U8
  B := fun s => s.1
  h := fun _ => []
  feed := dFeed U8.next
  stop := dStop U8.cut
  ok := dOk U8.Ok
  total := dTot U8.next U8.cut
  Is := U8.Is
  own := by
    rintro g F s w ⟨rfl, hb⟩
    exact ⟨rfl, fun k e => by subst e; exact blk_lt hb, ⟨_, _, hb, rfl, rfl, rfl, rfl⟩, none, 0, blk_cell hb 4⟩
  kept := by
    rintro g F s w w' S ⟨rfl, hb⟩ hk hS
    exact ⟨rfl, hk.heap hb (hS g rfl)⟩
  feed_c := by
    rintro g F s n t room w ⟨rfl, hb⟩ ⟨h1, h2, h3, h4⟩ hn ht hr0 hr1
    refine (u8_feed g s.1 s.2 t room w hb ht (by omega) h1 h2 (by omega)).mono ?_
    rintro e w' ⟨v, rfl, hb', hrow, hk⟩
    exact ⟨_, v, rfl, hrow, ⟨rfl, hb'⟩, fun k h => .inl h, fun k e h => by have := (hrow.lt k e).1; have := blk_lt hb; omega, hk⟩
  end_c := by
    rintro g F s n w ⟨rfl, hb⟩ _
    refine (u8_end g s.1 s.2 w hb).mono ?_
    rintro e w' ⟨rfl, hb', hk⟩
    exact ⟨_, rfl, ⟨rfl, hb'⟩, fun k h => .inl h, hk⟩
  m_feed := fun g w => by kernel_rfl
  m_end := fun g w => by kernel_rfl
  m_done := fun g w => by kernel_rfl
  m_fail := fun g w => by kernel_rfl
  e_feed := fun args w => by kernel_rfl
  e_end := fun args w => by kernel_rfl
  feed_ok := fun h hl hb => dFeed_ok U8.one (fun _ _ h b0 b1 => h.next b0 b1) h hl hb
  feed_en := fun _ => (feedL_plain U8.next _ _ _ _ _ _ rfl).1
  feed_off := fun _ => (feedL_plain U8.next _ _ _ _ _ _ rfl).2.1
  stop_ok := by
    rintro s n ⟨h1, h2, h3, h4⟩
    exact ⟨h1, by show 0 ≤ (endB s.1 _).at_; rw [endB_at]; exact h2, by show (endB s.1 _).at_ + _ ≤ _; rw [endB_at]; exact h3, h4⟩
  stop_off := fun _ => endB_off _ _
  tot_feed := fun _ _ _ m => dTot_feed _ _ _ _ m
  tot_off := fun _ hg t => decRun_off hg _ _
  tot_stop := fun _ => dTot_stop _ _ _
  tot_len := by
    rintro s n ⟨h1, h2, h3, h4⟩ t hl
    have := decRun_len U8.cut U8.one t s.1 s.2
    show (decRun _ _ _ _ _).1.length ≤ _
    omega
  prog1 := fun _ _ h => absurd rfl h
  prog2 := fun _ hr hg _ hl => (feedL_plain U8.next _ _ _ _ _ _ rfl).2.2 hg (by simpa using hr) hl

--END
theorem decNew8 : DecNew 1 decI8 (DB.zero, ⟨0, 0, 0, 0⟩) := by
  intro w
  go_enter Tryz.func24, Tryz.ntmps24
  go_wp2
  go_ret2
  refine ⟨w.heap.size, fun k => k = w.heap.size, rfl, ⟨rfl, ?_⟩, fun k h => by omega, (Kept.refl _ w).alloc _⟩
  exact blk_new _ _
end Go.Proofs.YthdcfmconpgflaaGreat
