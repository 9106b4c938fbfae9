/- The reference of layer 20, but what knows a codec; the reference's four bytes. -/
import Derived.Test.YthdcfmconpgflaaGreatBlk
set_option linter.unusedVariables false
set_option linter.unusedSimpArgs false
namespace Go.Proofs.YthdcfmconpgflaaGreat
open Go.RowKit

theorem rfour_c (n : Int) (w : World) (h0 : 0 ≤ n) (h1 : n < 4294967296) :
    Calls Tryz.prog 92 #[.int .u32 n] w fun e w' => e = .returned (.string (strOfNums (four n))) ∧ Kept (fun _ => False) w w' := by
  have hw := IntWalk.u8_in (n / 16777216) (by omega)
  have hw0 := IntWalk.u8_in (n % 256) (by omega)
  have hw1 := IntWalk.u8_in (n / 256 % 256) (by omega)
  have hw2 := IntWalk.u8_in (n / 65536 % 256) (by omega)
  go_enter Tryz.func92, Tryz.ntmps92
  go_wp2
  go_ret
  exact ⟨rfl, (Kept.refl _ w).alloc _⟩
set_option maxRecDepth 100000 in
set_option maxHeartbeats 1000000 in
theorem rright_c (n s : Int) (p : List Int) (w : World) :
    Calls Tryz.prog 47 #[blkV n s p] w fun e w' => e = .returned (.int .i64 (rightOf n p)) ∧ Kept (fun _ => False) w w' := by
  have hsz := strOfNums_size p
  unfold blkV
  by_cases h1 : n < 1
  · have e1 : rightOf n p = 8 := by unfold rightOf; rw [if_pos (by omega)]
    rw [e1]; clear e1
    go_enter Tryz.func47, Tryz.ntmps47
    go_wp2
    go_ret
    exact ⟨rfl, (Kept.refl _ w).alloc _⟩
  by_cases h2 : 65536 < n
  · have e1 : rightOf n p = 8 := by unfold rightOf; rw [if_pos (by omega)]
    rw [e1]; clear e1
    go_enter Tryz.func47, Tryz.ntmps47
    go_wp2
    go_ret
    exact ⟨rfl, (Kept.refl _ w).alloc _⟩
  by_cases h3 : (p.length : Int) < 1
  · have e1 : rightOf n p = 5 := by unfold rightOf; rw [if_neg (by omega), if_pos (by omega)]
    rw [e1]; clear e1
    go_enter Tryz.func47, Tryz.ntmps47
    go_wp2
    go_ret
    exact ⟨rfl, (Kept.refl _ w).alloc _⟩
  by_cases h4 : 1048576 < (p.length : Int)
  · have e1 : rightOf n p = 5 := by unfold rightOf; rw [if_neg (by omega), if_pos (by omega)]
    rw [e1]; clear e1
    go_enter Tryz.func47, Tryz.ntmps47
    go_wp2
    go_ret
    exact ⟨rfl, (Kept.refl _ w).alloc _⟩
  · have e1 : rightOf n p = 0 := by unfold rightOf; rw [if_neg (by omega), if_neg (by omega)]
    rw [e1]; clear e1
    go_enter Tryz.func47, Tryz.ntmps47
    go_wp2
    go_ret
    exact ⟨rfl, (Kept.refl _ w).alloc _⟩
set_option maxRecDepth 100000 in
set_option maxHeartbeats 4000000 in
theorem rbytes_c (n s : Int) (p : List Int) (w : World) (h : rightOf n p = 0) (hs0 : 0 ≤ s) (hs1 : s < 4294967296) :
    Calls Tryz.prog 48 #[blkV n s p] w fun e w' => e = .returned (.string (strOfNums (blkBytes n s p))) ∧ Kept (fun _ => False) w w' := by
  have HB := Lib.hid (show blkBytes n s p = 66 :: (four n ++ (four p.length ++ (four s ++ p))) by simp [blkBytes])
  have hsz := strOfNums_size p
  have hb : (1 ≤ n ∧ n ≤ 65536) ∧ 1 ≤ (p.length : Int) ∧ (p.length : Int) ≤ 1048576 := by
    unfold rightOf at h; (repeat' split at h) <;> omega
  clear h
  unfold blkV
  have hc66 : (⟨#[66]⟩ : ByteArray) = strOfNums [66] := rfl
  go_enter Tryz.func48, Tryz.ntmps48
  go_wp2
  have c0 : (w.alloc (.cells #[.int .i64 n, .int .u32 s, .string (strOfNums p)] 84)).cell? ⟨w.heap.size, 0, none⟩ = some (.int .i64 n) := blk_cell (blk_new _ _) 0
  have c1 : (w.alloc (.cells #[.int .i64 n, .int .u32 s, .string (strOfNums p)] 84)).cell? ⟨w.heap.size, 1, none⟩ = some (.int .u32 s) := blk_cell (blk_new _ _) 1
  have c2 : (w.alloc (.cells #[.int .i64 n, .int .u32 s, .string (strOfNums p)] 84)).cell? ⟨w.heap.size, 2, none⟩ = some (.string (strOfNums p)) := blk_cell (blk_new _ _) 2
  have hK : Kept (fun _ => False) w (w.alloc (.cells #[.int .i64 n, .int .u32 s, .string (strOfNums p)] 84)) := (Kept.refl _ w).alloc _
  obtain ⟨w1, hw1⟩ : ∃ w1, w1 = w.alloc (.cells #[.int .i64 n, .int .u32 s, .string (strOfNums p)] 84) := ⟨_, rfl⟩
  rw [← hw1] at c0 c1 c2 hK ⊢
  obtain ⟨h, hh⟩ : ∃ h, h = w.heap.size := ⟨_, rfl⟩
  rw [← hh] at c0 c1 c2 ⊢
  clear hh hw1
  have hS : ∀ W, Kept (fun _ => False) w1 W → W.cell? ⟨h, 0, none⟩ = some (.int .i64 n) ∧ W.cell? ⟨h, 1, none⟩ = some (.int .u32 s) ∧ W.cell? ⟨h, 2, none⟩ = some (.string (strOfNums p)) ∧ Kept (fun _ => False) w1 W :=
    fun W hW => ⟨hW.cell c0 id, hW.cell c1 id, hW.cell c2 id, hW⟩
  have HS := Lib.hid hS
  clear hS
  have hz : ∀ l, (strOfNums l).size = l.length := strOfNums_size
  have hf : ∀ x, (four x).length = 4 := fun _ => rfl
  have ha : ∀ a b, strOfNums a ++ strOfNums b = strOfNums (a ++ b) := S_app
  have hw1 : IntKind.u32.wrap n = n := IntWalk.u32_in n (by omega)
  have hw2 : IntKind.u32.wrap p.length = p.length := IntWalk.u32_in _ (by omega)
  have hbig : ¬ (9223372036854775807 < 13 + p.length) := by omega
  go_region_held3 (fun w' => w'.cell? ⟨h, 0, none⟩ = some (.int .i64 n) ∧ w'.cell? ⟨h, 1, none⟩ = some (.int .u32 s) ∧ w'.cell? ⟨h, 2, none⟩ = some (.string (strOfNums p)) ∧ Kept (fun _ => False) w1 w')
    ((refine HS.out _ ?_; repeat (first | exact Kept.refl _ _ | assumption | refine Kept.drew ?_ | refine Kept.alloc ?_ _ | refine Kept.trans ?_ (by assumption))))
    (first | (go_at_call 92; refine (rfour_c _ _ (by omega) (by omega)).mono ?_; rintro e w' ⟨rfl, hk'⟩))
  all_goals go_wp2
  all_goals go_ret
  all_goals
    refine ⟨by rw [HB.out]; rfl, hK.trans ?_⟩
    repeat (first | exact Kept.refl _ _ | assumption | refine Kept.drew ?_ | refine Kept.alloc ?_ _ | refine Kept.trans ?_ (by assumption))
end Go.Proofs.YthdcfmconpgflaaGreat
