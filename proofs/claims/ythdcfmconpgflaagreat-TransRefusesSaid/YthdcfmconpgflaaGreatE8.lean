/- UTF-8's encoder: what it computes, and that its Go text computes just this. -/
import Derived.Test.YthdcfmconpgflaaGreatMach
import Derived.Deep.LoopGhost
import Derived.StillTailTactics
import Derived.RegionCalls
import Derived.Deep.RegionWith
import Derived.Deep.RegionHeld3
import Derived.Deep.QuietTactic
import Derived.BigQuiet
import Derived.Lib.Hide
set_option linter.unusedVariables false
set_option linter.unusedSimpArgs false
namespace Go.Proofs.YthdcfmconpgflaaGreat
open Go.RowKit

def u8b (c : Int) : List Int :=
  if c < 128 then [c] else if c < 2048 then [192 + c / 64, 128 + c % 64] else if c < 65536 then [224 + c / 4096, 128 + c / 64 % 64, 128 + c % 64]
  else [240 + c / 262144, 128 + c / 4096 % 64, 128 + c / 64 % 64, 128 + c % 64]

theorem e8_tail0 (b : Nat) (c : Int) (w : World) (hc : w.cell? ⟨b, 0, none⟩ = some (.int .u32 c)) (c0 : 0 ≤ c) (c1 : c ≤ 1114111) :
    Calls Tryz.prog 209 #[.int .i64 0, .pointer (some ⟨b, 0, none⟩)] w fun e w' => e = .returned (.int .u8 (128 + c % 64)) ∧ w' = w := by
    go_enter Tryz.func209, Tryz.ntmps209
    go_wp2
    go_ret
    exact ⟨rfl, rfl⟩
theorem e8_tail1 (b : Nat) (c : Int) (w : World) (hc : w.cell? ⟨b, 0, none⟩ = some (.int .u32 c)) (c0 : 0 ≤ c) (c1 : c ≤ 1114111) :
    Calls Tryz.prog 209 #[.int .i64 1, .pointer (some ⟨b, 0, none⟩)] w fun e w' => e = .returned (.int .u8 (128 + c / 64 % 64)) ∧ w' = w := by
    go_enter Tryz.func209, Tryz.ntmps209
    go_wp2
    go_ret
    exact ⟨rfl, rfl⟩
theorem e8_tail2 (b : Nat) (c : Int) (w : World) (hc : w.cell? ⟨b, 0, none⟩ = some (.int .u32 c)) (c0 : 0 ≤ c) (c1 : c ≤ 1114111) :
    Calls Tryz.prog 209 #[.int .i64 2, .pointer (some ⟨b, 0, none⟩)] w fun e w' => e = .returned (.int .u8 (128 + c / 4096 % 64)) ∧ w' = w := by
    go_enter Tryz.func209, Tryz.ntmps209
    go_wp2
    go_ret
    exact ⟨rfl, rfl⟩

set_option maxRecDepth 100000 in
set_option maxHeartbeats 4000000 in
theorem e8_bytes (p : Value) (c : Int) (w : World) (c0 : 0 ≤ c) (c1 : c ≤ 1114111) :
    Calls Tryz.prog 207 #[p, .int .u32 c] w fun e w' => e = .returned (.string (strOfNums (u8b c))) ∧ Kept (fun _ => False) w w' := by
  by_cases h1 : c < 128
  · have e1 : u8b c = [c] := by simp [u8b, h1]
    rw [e1]; clear e1
    go_enter Tryz.func207, Tryz.ntmps207
    go_wp2
    go_ret
    exact ⟨rfl, ((Kept.refl _ w).alloc _).alloc _⟩
  by_cases h2 : c < 2048
  · have e1 : u8b c = [192 + c / 64, 128 + c % 64] := by simp [u8b, h1, h2]
    have hw := IntWalk.u8_in (c / 64) (by omega)
    rw [e1]; clear e1
    go_enter Tryz.func207, Tryz.ntmps207
    go_wp2_with fail
    refine wp_region_still_tail 6 (by kernel_rfl) (by kernel_rfl) ?_
    simp only [List.take_succ_cons, List.take_zero, List.drop_succ_cons, List.drop_zero]
    change wpStill _ _ (World.drew _) _ _ _
    repeat still_step
    still_call (e8_tail0 _ c _ (by simp [go_sem]) (by omega) c1)
    repeat still_step
    refine wpStill_nil ?_
    change wpList _ _ _ _ _ (World.drew _)
    go_wp2
    go_ret
    exact ⟨rfl, ((Kept.refl _ w).alloc _).drew.alloc _⟩
  by_cases h3 : c < 65536
  · have e1 : u8b c = [224 + c / 4096, 128 + c / 64 % 64, 128 + c % 64] := by simp [u8b, h1, h2, h3]
    have hw := IntWalk.u8_in (c / 4096) (by omega)
    rw [e1]; clear e1
    go_enter Tryz.func207, Tryz.ntmps207
    go_wp2_with fail
    refine wp_region_still_tail 8 (by kernel_rfl) (by kernel_rfl) ?_
    simp only [List.take_succ_cons, List.take_zero, List.drop_succ_cons, List.drop_zero]
    change wpStill _ _ (World.drew _) _ _ _
    repeat still_step
    still_call (e8_tail1 _ c _ (by simp [go_sem]) (by omega) c1)
    repeat still_step
    still_call (e8_tail0 _ c _ (by simp [go_sem]) (by omega) c1)
    repeat still_step
    refine wpStill_nil ?_
    change wpList _ _ _ _ _ (World.drew _)
    go_wp2
    go_ret
    exact ⟨rfl, ((Kept.refl _ w).alloc _).drew.alloc _⟩
  · have e1 : u8b c = [240 + c / 262144, 128 + c / 4096 % 64, 128 + c / 64 % 64, 128 + c % 64] := by simp [u8b, h1, h2, h3]
    have hw := IntWalk.u8_in (c / 262144) (by omega)
    rw [e1]; clear e1
    go_enter Tryz.func207, Tryz.ntmps207
    go_wp2_with fail
    refine wp_region_still_tail 10 (by kernel_rfl) (by kernel_rfl) ?_
    simp only [List.take_succ_cons, List.take_zero, List.drop_succ_cons, List.drop_zero]
    change wpStill _ _ (World.drew _) _ _ _
    repeat still_step
    still_call (e8_tail2 _ c _ (by simp [go_sem]) (by omega) c1)
    repeat still_step
    still_call (e8_tail1 _ c _ (by simp [go_sem]) (by omega) c1)
    repeat still_step
    still_call (e8_tail0 _ c _ (by simp [go_sem]) (by omega) c1)
    repeat still_step
    refine wpStill_nil ?_
    change wpList _ _ _ _ _ (World.drew _)
    go_wp2
    go_ret
    exact ⟨rfl, ((Kept.refl _ w).alloc _).drew.alloc _⟩
end Go.Proofs.YthdcfmconpgflaaGreat
