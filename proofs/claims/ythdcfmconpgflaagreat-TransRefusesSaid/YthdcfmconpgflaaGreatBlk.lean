/- The contracts of package block that know no codec. -/
import Derived.Test.YthdcfmconpgflaaGreatIface
import Derived.Test.YthdcfmconpgflaaGreatCrc
import Derived.Deep.RegionHeld3
set_option linter.unusedVariables false
set_option linter.unusedSimpArgs false
namespace Go.Proofs.YthdcfmconpgflaaGreat
open Go.RowKit

/-- A block as a value. -/
def blkV (n s : Int) (p : List Int) : Value := .agg #[.int .i64 n, .int .u32 s, .string (strOfNums p)]
def failV (e a : Int) : Value := .agg #[.int .i64 e, .int .i64 a]
def rightOf (n : Int) (p : List Int) : Int := if n < 1 ∨ 65536 < n then 8 else if p.length < 1 ∨ 1048576 < p.length then 5 else 0
/-- A block's bytes. -/
def blkBytes (n s : Int) (p : List Int) : List Int := 66 :: (four n ++ four p.length ++ four s ++ p)

set_option maxRecDepth 100000 in
set_option maxHeartbeats 1000000 in
theorem right_c (n s : Int) (p : List Int) (w : World) :
    Calls Tryz.prog 90 #[blkV n s p] w fun e w' => e = .returned (.int .i64 (rightOf n p)) ∧ Kept (fun _ => False) w w' := by
  have hsz := strOfNums_size p
  unfold blkV
  by_cases h1 : n < 1
  · have e1 : rightOf n p = 8 := by unfold rightOf; rw [if_pos (by omega)]
    rw [e1]; clear e1
    go_enter Tryz.func90, Tryz.ntmps90
    go_wp2
    go_ret
    exact ⟨rfl, (Kept.refl _ w).alloc _⟩
  by_cases h2 : 65536 < n
  · have e1 : rightOf n p = 8 := by unfold rightOf; rw [if_pos (by omega)]
    rw [e1]; clear e1
    go_enter Tryz.func90, Tryz.ntmps90
    go_wp2
    go_ret
    exact ⟨rfl, (Kept.refl _ w).alloc _⟩
  by_cases h3 : (p.length : Int) < 1
  · have e1 : rightOf n p = 5 := by unfold rightOf; rw [if_neg (by omega), if_pos (by omega)]
    rw [e1]; clear e1
    go_enter Tryz.func90, Tryz.ntmps90
    go_wp2
    go_ret
    exact ⟨rfl, (Kept.refl _ w).alloc _⟩
  by_cases h4 : 1048576 < (p.length : Int)
  · have e1 : rightOf n p = 5 := by unfold rightOf; rw [if_neg (by omega), if_pos (by omega)]
    rw [e1]; clear e1
    go_enter Tryz.func90, Tryz.ntmps90
    go_wp2
    go_ret
    exact ⟨rfl, (Kept.refl _ w).alloc _⟩
  · have e1 : rightOf n p = 0 := by unfold rightOf; rw [if_neg (by omega), if_neg (by omega)]
    rw [e1]; clear e1
    go_enter Tryz.func90, Tryz.ntmps90
    go_wp2
    go_ret
    exact ⟨rfl, (Kept.refl _ w).alloc _⟩
theorem failed_c (x a : Int) (w : World) :
    Calls Tryz.prog 93 #[.int .i64 x, .int .i64 a] w fun e w' => e = .returned (.tuple #[blkV 0 0 [], .int .i64 0, failV x a]) ∧ Kept (fun _ => False) w w' := by
  unfold blkV failV
  go_enter Tryz.func93, Tryz.ntmps93
  go_wp2
  refine bodyPost_ret (v := .tuple #[.agg #[.int .i64 0, .int .u32 0, .string (strOfNums [])], .int .i64 0, .agg #[.int .i64 x, .int .i64 a]]) (by simp [results, Tryz.results93, go_sem]; rfl) rfl ⟨rfl, ?_⟩
  exact ((Kept.refl _ w).alloc _).alloc _
theorem cell66a {X w' : World} (h : Kept (fun _ => False) (X.alloc (.cells #[.int .u8 66] 5)).drew w') : w'.cell? ⟨X.heap.size, 0, none⟩ = some (.int .u8 66) := h.cell (blk_cell (blk_drew (blk_new _ _)) 0) id
theorem cell66c {X w' : World} (h : Kept (fun _ => False) (X.alloc (.cells #[.int .u8 66] 5)) w') : w'.cell? ⟨X.heap.size, 0, none⟩ = some (.int .u8 66) := h.cell (blk_cell (blk_new _ _) 0) id
theorem cell66b {W w' : World} {p : Addr} (h : Kept (fun _ => False) W w') (hc : W.cell? p = some (.int .u8 66)) : w'.cell? p = some (.int .u8 66) := h.cell hc id
theorem conv_one (a : Int) (W : World) (k : Nat) (h : W.cell? ⟨k, 0, none⟩ = some (.int .u8 a)) : (convert 135 9 (.slice (some ⟨k, 0, none⟩) 1 1)).run Tryz.prog W = .ok (.string (strOfNums [a])) W :=
  run_convert_bytes_arg W 135 5 Tryz.underlying135 Tryz.underlying5 k 0 1 1 [a] rfl (fun i hi => by match i, hi with | 0, _ => exact h) 9 Tryz.underlying9
set_option maxRecDepth 100000 in
set_option maxHeartbeats 4000000 in
theorem bytes_bad (n s : Int) (p : List Int) (w : World) (h : rightOf n p ≠ 0) :
    Calls Tryz.prog 46 #[blkV n s p] w fun e w' => e = .returned (.tuple #[.string (strOfNums []), .int .i64 (rightOf n p)]) ∧ Kept (fun _ => False) w w' := by
  have hr := right_c n s p
  have hne : (rightOf n p != 0) = true := by simpa using h
  unfold blkV at hr ⊢
  go_enter Tryz.func46, Tryz.ntmps46
  go_wp2_with (go_at_call 90; refine (hr _).mono ?_)
  rintro e w1 ⟨rfl, hk⟩
  go_wp2
  go_ret2
  exact ⟨rfl, ((Kept.refl _ w).alloc _).trans hk⟩
end Go.Proofs.YthdcfmconpgflaaGreat
