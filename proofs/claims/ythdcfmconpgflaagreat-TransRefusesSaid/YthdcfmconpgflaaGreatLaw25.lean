/- What law 25 asks first. -/
import Derived.Test.YthdcfmconpgflaaGreatTrans
import Derived.Test.YthdcfmconpgflaaGreatLaw20
import Derived.Test.YthdcfmconpgflaaGreatIE16
import Derived.Test.YthdcfmconpgflaaGreatIE32
set_option linter.unusedVariables false
set_option linter.unusedSimpArgs false
namespace Go.Proofs.YthdcfmconpgflaaGreat
open Go.RowKit

theorem encNew2 : EncNew 2 encI16 (DB.zero, true, []) := fun w => (madeE2 w).mono fun e w' ⟨g, he, hb, hg, hk⟩ => ⟨g, fun k => k = g, he, ⟨rfl, hb⟩, fun k h => by rw [h]; exact hg, hk⟩
theorem encNew3 : EncNew 3 encI16 (DB.zero, false, []) := fun w => (madeE3 w).mono fun e w' ⟨g, he, hb, hg, hk⟩ => ⟨g, fun k => k = g, he, ⟨rfl, hb⟩, fun k h => by rw [h]; exact hg, hk⟩
theorem encNew4 : EncNew 4 encI32 (DB.zero, true, []) := fun w => (madeE4 w).mono fun e w' ⟨g, he, hb, hg, hk⟩ => ⟨g, fun k => k = g, he, ⟨rfl, hb⟩, fun k h => by rw [h]; exact hg, hk⟩
theorem encNew5 : EncNew 5 encI32 (DB.zero, false, []) := fun w => (madeE5 w).mono fun e w' ⟨g, he, hb, hg, hk⟩ => ⟨g, fun k => k = g, he, ⟨rfl, hb⟩, fun k h => by rw [h]; exact hg, hk⟩
theorem encC2 (l : List Int) (hn : ∀ c ∈ l, 0 ≤ c) (hl : l.length ≤ 100000000) : EncC 2 l (eTot E16.bytes (DB.zero, true, []) l) := by
  intro w v hv
  exact encode_c 2 encI16 (DB.zero, true, []) encNew2 v l w hv hn ⟨trivial, Byt.nil, by simp, by decide, by simp [DB.zero]; omega, hl⟩ rfl hl

theorem aw25_a : (dTot U8.next U8.cut (DB.zero, ⟨0, 0, 0, 0⟩) [195, 169]) = ([233], 0, 0) := by decide
theorem aw25_b : (dTot U8.next U8.cut (DB.zero, ⟨0, 0, 0, 0⟩) [65, 195]) = ([65], 4, 2) := by decide
theorem aw25_c : eTot E16.bytes (DB.zero, true, []) [233] = ([0, 233], 0, 0) := by decide
theorem aw25_d : eTot E16.bytes (DB.zero, true, []) [65] = ([0, 65], 0, 0) := by decide
theorem held_pipe (g : Nat) (x y z : Value) (n c : Nat) (A : Option Addr) (w : World) (hb : w.heap[g]? = some (.cells #[x, y, z, .slice A n c] 151 (0, 0))) :
    Calls Tryz.prog 83 #[.pointer (some ⟨g, 0, none⟩)] w fun e w' => e = .returned (.int .i64 n) ∧ w = w' := by
  have h3 : w.cell? ⟨g, 3, none⟩ = some (.slice A n c) := blk_cell hb 3
  go_enter Tryz.func83, Tryz.ntmps83
  go_wp2
  go_ret
  exact ⟨rfl, rfl⟩
set_option maxRecDepth 100000 in
set_option maxHeartbeats 4000000 in
theorem done_pipe8 (g g1 : Nat) (B : DB) (y z s : Value) (w : World) (hb : w.heap[g]? = some (.cells #[.iface 120 (.pointer (some ⟨g1, 0, none⟩)), y, z, s] 151 (0, 0))) (hB : HasB w g1 B) (hg : B.going = true)
    (n c : Nat) (A : Option Addr) (hs : w.cell? ⟨g1, 4, none⟩ = some (.slice A n c)) :
    Calls Tryz.prog 84 #[.pointer (some ⟨g, 0, none⟩)] w fun e w' => e = .returned (.bool false) ∧ w = w' := by
  have md : ∀ g w, (method 455 120 (.pointer (some ⟨g, 0, none⟩)) "Done").run Tryz.prog w = .ok (287, .pointer (some ⟨g, 0, none⟩)) w := decI8.m_done
  have hd := idone_c g1 B A n c w hB hs
  rw [hg] at hd
  have h0 : w.cell? ⟨g, 0, none⟩ = some (.iface 120 (.pointer (some ⟨g1, 0, none⟩))) := blk_cell hb 0
  clear hb
  go_enter Tryz.func84, Tryz.ntmps84
  go_wp2_with (go_at_call 287; refine hd.mono ?_; rintro e w' ⟨rfl, rfl⟩)
  go_ret
  exact ⟨rfl, rfl⟩

set_option maxRecDepth 100000 in
set_option maxHeartbeats 4000000 in
theorem awake25 (w : World) : Calls Tryz.prog 36 #[] w fun e w' => e = .returned (.bool true) ∧ Kept (fun _ => False) w w' := by
  have HA := Lib.hid (show ∀ W, Calls Tryz.prog 37 #[.int .i64 1, .int .i64 2, .string ⟨#[195, 169]⟩] W fun e w' => e = .returned (.tuple #[.string (strOfNums [0, 233]), .agg #[.int .i64 0, .int .i64 0]]) ∧ Kept (fun _ => False) W w' from fun W => by
    have := text_c 1 2 [195, 169] _ _ (decC8 [195, 169] (byt_of (by decide)) (by simp)) (encC2 _ (by rw [aw25_a]; simp) (by rw [aw25_a]; simp)) W (by decide) (by decide)
    rw [aw25_a, aw25_c] at this; exact this)
  have HB := Lib.hid (show ∀ W, Calls Tryz.prog 37 #[.int .i64 1, .int .i64 2, .string ⟨#[65, 195]⟩] W fun e w' => e = .returned (.tuple #[.string (strOfNums [0, 65]), .agg #[.int .i64 4, .int .i64 2]]) ∧ Kept (fun _ => False) W w' from fun W => by
    have := text_c 1 2 [65, 195] _ _ (decC8 [65, 195] (byt_of (by decide)) (by simp)) (encC2 _ (by rw [aw25_b]; simp) (by rw [aw25_b]; simp)) W (by decide) (by decide)
    rw [aw25_b, aw25_d] at this; exact this)
  have HC := Lib.hid (fun W => pipe_bad2 1 0 5 W _ _ madeD1 (by decide))
  have HD := Lib.hid (fun W => pipe_new 1 2 1 W _ _ _ _ madeD1 madeE2 (fun _ _ _ h k => k.heap h id) (fun _ _ _ h k => k.heap h id) (by decide) (by decide))
  go_enter Tryz.func36, Tryz.ntmps36
  go_wp2_with fail
  refine (HA.out _).mono ?_
  rintro e w1 ⟨rfl, hk1⟩
  go_wp2_with fail
  refine (HB.out _).mono ?_
  rintro e w2 ⟨rfl, hk2⟩
  have g2 := hk2.heap (blk_new w1 _) id
  have hK2 : Kept (fun _ => False) w w2 := (hk1.alloc _).trans hk2
  clear hk1 hk2
  go_wp2_with fail
  refine (HC.out _).mono ?_
  rintro e w3 ⟨rfl, hk3⟩
  have g2 := hk3.heap (blk_alloc g2 _) id
  have g4 := hk3.heap (blk_new w2 _) id
  have hK3 : Kept (fun _ => False) w w3 := (hK2.alloc _).trans hk3
  clear hk3
  go_wp2_with fail
  refine (HD.out _).mono ?_
  rintro e w4 ⟨g, g1, ge, rfl, hb, hd, he, hk4⟩
  have g2 := hk4.heap g2 id
  have g4 := hk4.heap g4 id
  have hK4 : Kept (fun _ => False) w w4 := hK3.trans hk4
  clear hk4 he
  have a0 : w4.cell? ⟨w1.heap.size, 0, none⟩ = some (.int .i64 0) := blk_cell g2 0
  have a1 : w4.cell? ⟨w1.heap.size, 1, none⟩ = some (.int .i64 0) := blk_cell g2 1
  have b0 : w4.cell? ⟨w2.heap.size, 0, none⟩ = some (.int .i64 4) := blk_cell g4 0
  have b1 : w4.cell? ⟨w2.heap.size, 1, none⟩ = some (.int .i64 2) := blk_cell g4 1
  have hlit1 : strOfNums [0, 233] = (⟨#[0, 233]⟩ : ByteArray) := rfl
  have hlit2 : strOfNums [0, 65] = (⟨#[0, 65]⟩ : ByteArray) := rfl
  clear g2 g4
  have hheld := held_pipe g _ _ _ _ _ _ w4 hb
  have hdone := done_pipe8 g g1 DB.zero _ _ _ w4 hb ⟨_, _, hd, rfl, rfl, rfl, rfl⟩ rfl 0 0 none (blk_cell hd 4)
  clear hb hd
  go_wp2_with (first | (go_at_call 83; refine hheld.mono ?_; rintro e w' ⟨rfl, rfl⟩) | (go_at_call 84; refine hdone.mono ?_; rintro e w' ⟨rfl, rfl⟩))
  go_ret
  exact ⟨rfl, hK4⟩
end Go.Proofs.YthdcfmconpgflaaGreat
