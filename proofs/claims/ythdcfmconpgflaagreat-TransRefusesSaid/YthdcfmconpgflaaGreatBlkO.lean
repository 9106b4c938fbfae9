/- block.Open, whatever the codec. Printed by genblko.py. -/
import Derived.Test.YthdcfmconpgflaaGreatBlkM
set_option linter.unusedVariables false
set_option linter.unusedSimpArgs false
namespace Go.Proofs.YthdcfmconpgflaaGreat
open Go.RowKit

set_option maxRecDepth 100000 in
set_option maxHeartbeats 4000000 in
theorem open_right (c n s : Int) (p : List Int) (R : List Int × Int × Int) (w : World) (h : rightOf n p ≠ 0) :
    Calls Tryz.prog 51 #[.int .i64 c, blkV n s p] w (OpPost (opBlk c n s p R) w) := by
  have HE := Lib.hid (show opBlk c n s p R = ([], rightOf n p, 0) by unfold opBlk; rw [if_pos h])
  have hr := right_c n s p
  obtain ⟨x, hx⟩ : ∃ x, x = rightOf n p := ⟨_, rfl⟩
  rw [← hx] at h hr HE
  have hne : (x != 0) = true := by simpa using h
  clear hx
  unfold blkV at hr ⊢
  go_enter Tryz.func51, Tryz.ntmps51
  go_wp2_with fail
  refine (hr _).mono ?_
  rintro e w1 ⟨rfl, hk⟩
  have hb3 := hk.heap (blk_alloc (blk_new w _) _) id
  have hb5 := hk.heap (blk_new' (w.alloc _) _ (w.heap.size + 1) (by simp)) id
  have hK : Kept (fun _ => False) w w1 := (((Kept.refl _ w).alloc _).alloc _).trans hk
  have hsz5 : w.heap.size + 1 < w1.heap.size := blk_lt hb5
  have hsz4 : w.heap.size < w1.heap.size := blk_lt hb3
  have c0 : w1.cell? ⟨w.heap.size, 0, none⟩ = some (.int .i64 n) := blk_cell hb3 0
  have c1 : w1.cell? ⟨w.heap.size, 1, none⟩ = some (.int .u32 s) := blk_cell hb3 1
  have c2 : w1.cell? ⟨w.heap.size, 2, none⟩ = some (.string (strOfNums p)) := blk_cell hb3 2
  have e0 : w1.cell? ⟨w.heap.size + 1, 0, none⟩ = some (.int .i64 0) := blk_cell hb5 0
  have e1 : w1.cell? ⟨w.heap.size + 1, 1, none⟩ = some (.int .i64 0) := blk_cell hb5 1
  have f5 := blk_free hb5
  go_wp2
  refine bodyPost_ret (v := .tuple #[.slice none 0 0, .agg #[.int .i64 (x), .int .i64 (0)]]) (by simp [results, Tryz.results51, go_sem, c0, c1, c2, e0, e1, hsz4, hsz5]; try rfl) rfl ⟨.slice none 0 0, by rw [HE.out]; rfl, by rw [HE.out]; exact Rd.nil _ _, fun b h => by (cases h), ?_⟩
  repeat (first | with_reducible exact Kept.refl _ _ | with_reducible exact hK | with_reducible refine Kept.drewN ?_ _ | with_reducible refine Kept.drew ?_ | with_reducible refine Kept.setNew ?_ _ _ (by simp) _ | with_reducible refine Kept.alloc ?_ _)
set_option maxRecDepth 100000 in
set_option maxHeartbeats 4000000 in
theorem open_name (c n s : Int) (p : List Int) (R : List Int × Int × Int) (w : World) (h : rightOf n p = 0) (hn : nameOf c = []) :
    Calls Tryz.prog 51 #[.int .i64 c, blkV n s p] w (OpPost (opBlk c n s p R) w) := by
  have HE := Lib.hid (show opBlk c n s p R = ([], 11, 0) by unfold opBlk; rw [if_neg (by simp [h]), if_pos hn])
  have hr := right_c n s p
  have hnm := name_c c
  rw [h] at hr
  obtain ⟨nm, hnme⟩ : ∃ nm, nm = nameOf c := ⟨_, rfl⟩
  rw [← hnme] at hn hnm
  clear hnme h
  subst hn
  have he1 : (strOfNums []).toList.isEmpty = true := by rw [S_empty]; rfl
  unfold blkV at hr ⊢
  go_enter Tryz.func51, Tryz.ntmps51
  go_wp2_with fail
  refine (hr _).mono ?_
  rintro e w1 ⟨rfl, hk⟩
  have hb3 := hk.heap (blk_alloc (blk_new w _) _) id
  have hb5 := hk.heap (blk_new' (w.alloc _) _ (w.heap.size + 1) (by simp)) id
  have hK : Kept (fun _ => False) w w1 := (((Kept.refl _ w).alloc _).alloc _).trans hk
  have hsz5 : w.heap.size + 1 < w1.heap.size := blk_lt hb5
  have hsz4 : w.heap.size < w1.heap.size := blk_lt hb3
  have c0 : w1.cell? ⟨w.heap.size, 0, none⟩ = some (.int .i64 n) := blk_cell hb3 0
  have c1 : w1.cell? ⟨w.heap.size, 1, none⟩ = some (.int .u32 s) := blk_cell hb3 1
  have c2 : w1.cell? ⟨w.heap.size, 2, none⟩ = some (.string (strOfNums p)) := blk_cell hb3 2
  have e0 : w1.cell? ⟨w.heap.size + 1, 0, none⟩ = some (.int .i64 0) := blk_cell hb5 0
  have e1 : w1.cell? ⟨w.heap.size + 1, 1, none⟩ = some (.int .i64 0) := blk_cell hb5 1
  have f5 := blk_free hb5
  go_wp2_with fail
  refine (hnm _).mono ?_
  rintro e w2 ⟨rfl, hk2⟩
  clear c0 c1 c2 e0 e1 f5
  have hb3 := hk2.heap (hb3) id
  have hb5 := hk2.heap (hb5) id
  have hK : Kept (fun _ => False) w w2 := hK.trans hk2
  have hsz5 : w.heap.size + 1 < w2.heap.size := blk_lt hb5
  have hsz4 : w.heap.size < w2.heap.size := blk_lt hb3
  have c0 : w2.cell? ⟨w.heap.size, 0, none⟩ = some (.int .i64 n) := blk_cell hb3 0
  have c1 : w2.cell? ⟨w.heap.size, 1, none⟩ = some (.int .u32 s) := blk_cell hb3 1
  have c2 : w2.cell? ⟨w.heap.size, 2, none⟩ = some (.string (strOfNums p)) := blk_cell hb3 2
  have e0 : w2.cell? ⟨w.heap.size + 1, 0, none⟩ = some (.int .i64 0) := blk_cell hb5 0
  have e1 : w2.cell? ⟨w.heap.size + 1, 1, none⟩ = some (.int .i64 0) := blk_cell hb5 1
  have f5 := blk_free hb5
  go_wp2
  refine bodyPost_ret (v := .tuple #[.slice none 0 0, .agg #[.int .i64 (11), .int .i64 (0)]]) (by simp [results, Tryz.results51, go_sem, c0, c1, c2, e0, e1, hsz4, hsz5]; try rfl) rfl ⟨.slice none 0 0, by rw [HE.out]; rfl, by rw [HE.out]; exact Rd.nil _ _, fun b h => by (cases h), ?_⟩
  repeat (first | with_reducible exact Kept.refl _ _ | with_reducible exact hK | with_reducible refine Kept.drewN ?_ _ | with_reducible refine Kept.drew ?_ | with_reducible refine Kept.setNew ?_ _ _ (by simp) _ | with_reducible refine Kept.alloc ?_ _)
set_option maxRecDepth 100000 in
set_option maxHeartbeats 4000000 in
theorem open_sum (c n s : Int) (p : List Int) (R : List Int × Int × Int) (w : World) (hp : Byt p) (hl : p.length ≤ 1000000000) (h : rightOf n p = 0) (hn : nameOf c ≠ []) (hc : (crcOf p : Int) ≠ s) :
    Calls Tryz.prog 51 #[.int .i64 c, blkV n s p] w (OpPost (opBlk c n s p R) w) := by
  have HE := Lib.hid (show opBlk c n s p R = ([], 6, 0) by unfold opBlk; rw [if_neg (by simp [h]), if_neg hn, if_pos hc])
  have hr := right_c n s p
  have hnm := name_c c
  rw [h] at hr
  obtain ⟨nm, hnme⟩ : ∃ nm, nm = nameOf c := ⟨_, rfl⟩
  rw [← hnme] at hn hnm
  clear hnme h
  have he1 : (strOfNums nm).toList.isEmpty = false := by rw [S_empty]; cases nm <;> simp_all
  have hsum := fun w => is_sum s p w hp hl
  obtain ⟨cs, hcs⟩ : ∃ cs, cs = ((crcOf p : Nat) : Int) := ⟨_, rfl⟩
  rw [← hcs] at hc
  simp only [← hcs] at hsum
  clear hcs
  have hcb : (cs == s) = false := by simpa using hc
  have HS := Lib.hid hsum
  clear hsum hc
  unfold blkV at hr ⊢
  go_enter Tryz.func51, Tryz.ntmps51
  go_wp2_with fail
  refine (hr _).mono ?_
  rintro e w1 ⟨rfl, hk⟩
  have hb3 := hk.heap (blk_alloc (blk_new w _) _) id
  have hb5 := hk.heap (blk_new' (w.alloc _) _ (w.heap.size + 1) (by simp)) id
  have hK : Kept (fun _ => False) w w1 := (((Kept.refl _ w).alloc _).alloc _).trans hk
  have hsz5 : w.heap.size + 1 < w1.heap.size := blk_lt hb5
  have hsz4 : w.heap.size < w1.heap.size := blk_lt hb3
  have c0 : w1.cell? ⟨w.heap.size, 0, none⟩ = some (.int .i64 n) := blk_cell hb3 0
  have c1 : w1.cell? ⟨w.heap.size, 1, none⟩ = some (.int .u32 s) := blk_cell hb3 1
  have c2 : w1.cell? ⟨w.heap.size, 2, none⟩ = some (.string (strOfNums p)) := blk_cell hb3 2
  have e0 : w1.cell? ⟨w.heap.size + 1, 0, none⟩ = some (.int .i64 0) := blk_cell hb5 0
  have e1 : w1.cell? ⟨w.heap.size + 1, 1, none⟩ = some (.int .i64 0) := blk_cell hb5 1
  have f5 := blk_free hb5
  go_wp2_with fail
  refine (hnm _).mono ?_
  rintro e w2 ⟨rfl, hk2⟩
  clear c0 c1 c2 e0 e1 f5
  have hb3 := hk2.heap (hb3) id
  have hb5 := hk2.heap (hb5) id
  have hK : Kept (fun _ => False) w w2 := hK.trans hk2
  have hsz5 : w.heap.size + 1 < w2.heap.size := blk_lt hb5
  have hsz4 : w.heap.size < w2.heap.size := blk_lt hb3
  have c0 : w2.cell? ⟨w.heap.size, 0, none⟩ = some (.int .i64 n) := blk_cell hb3 0
  have c1 : w2.cell? ⟨w.heap.size, 1, none⟩ = some (.int .u32 s) := blk_cell hb3 1
  have c2 : w2.cell? ⟨w.heap.size, 2, none⟩ = some (.string (strOfNums p)) := blk_cell hb3 2
  have e0 : w2.cell? ⟨w.heap.size + 1, 0, none⟩ = some (.int .i64 0) := blk_cell hb5 0
  have e1 : w2.cell? ⟨w.heap.size + 1, 1, none⟩ = some (.int .i64 0) := blk_cell hb5 1
  have f5 := blk_free hb5
  go_wp2_with fail
  refine (HS.out _).mono ?_
  rintro e w3 ⟨rfl, hk3⟩
  clear c0 c1 c2 e0 e1 f5
  have hb3 := hk3.heap (hb3) id
  have hb5 := hk3.heap (hb5) id
  have hK : Kept (fun _ => False) w w3 := hK.trans hk3
  have hsz5 : w.heap.size + 1 < w3.heap.size := blk_lt hb5
  have hsz4 : w.heap.size < w3.heap.size := blk_lt hb3
  have c0 : w3.cell? ⟨w.heap.size, 0, none⟩ = some (.int .i64 n) := blk_cell hb3 0
  have c1 : w3.cell? ⟨w.heap.size, 1, none⟩ = some (.int .u32 s) := blk_cell hb3 1
  have c2 : w3.cell? ⟨w.heap.size, 2, none⟩ = some (.string (strOfNums p)) := blk_cell hb3 2
  have e0 : w3.cell? ⟨w.heap.size + 1, 0, none⟩ = some (.int .i64 0) := blk_cell hb5 0
  have e1 : w3.cell? ⟨w.heap.size + 1, 1, none⟩ = some (.int .i64 0) := blk_cell hb5 1
  have f5 := blk_free hb5
  go_wp2
  refine bodyPost_ret (v := .tuple #[.slice none 0 0, .agg #[.int .i64 (6), .int .i64 (0)]]) (by simp [results, Tryz.results51, go_sem, c0, c1, c2, e0, e1, hsz4, hsz5]; try rfl) rfl ⟨.slice none 0 0, by rw [HE.out]; rfl, by rw [HE.out]; exact Rd.nil _ _, fun b h => by (cases h), ?_⟩
  repeat (first | with_reducible exact Kept.refl _ _ | with_reducible exact hK | with_reducible refine Kept.drewN ?_ _ | with_reducible refine Kept.drew ?_ | with_reducible refine Kept.setNew ?_ _ _ (by simp) _ | with_reducible refine Kept.alloc ?_ _)
set_option maxRecDepth 100000 in
set_option maxHeartbeats 4000000 in
theorem open_fail (c n s : Int) (p : List Int) (R : List Int × Int × Int) (w : World) (hD : DecC c p R) (hp : Byt p) (hl : p.length ≤ 1000000000) (h : rightOf n p = 0) (hn : nameOf c ≠ []) (hc : (crcOf p : Int) = s) (hx : R.2.1 ≠ 0) :
    Calls Tryz.prog 51 #[.int .i64 c, blkV n s p] w (OpPost (opBlk c n s p R) w) := by
  have HE := Lib.hid (show opBlk c n s p R = ([], R.2.1, R.2.2) by unfold opBlk; rw [if_neg (by simp [h]), if_neg hn, if_neg (by simpa using hc), if_pos hx])
  have hr := right_c n s p
  have hnm := name_c c
  rw [h] at hr
  obtain ⟨nm, hnme⟩ : ∃ nm, nm = nameOf c := ⟨_, rfl⟩
  rw [← hnme] at hn hnm
  clear hnme h
  have he1 : (strOfNums nm).toList.isEmpty = false := by rw [S_empty]; cases nm <;> simp_all
  have hsum := fun w => is_sum s p w hp hl
  obtain ⟨cs, hcs⟩ : ∃ cs, cs = ((crcOf p : Nat) : Int) := ⟨_, rfl⟩
  rw [← hcs] at hc
  simp only [← hcs] at hsum
  clear hcs
  have hcb : (cs == s) = true := by simpa using hc
  have HS := Lib.hid hsum
  clear hsum
  clear hc
  unfold DecC failV at hD
  obtain ⟨ys, x, y⟩ := R
  simp only at hD hx
  have HD := Lib.hid hD
  clear hD
  have hxb : (x != 0) = true := by simpa using hx
  clear hx
  unfold blkV at hr ⊢
  go_enter Tryz.func51, Tryz.ntmps51
  go_wp2_with fail
  refine (hr _).mono ?_
  rintro e w1 ⟨rfl, hk⟩
  have hb3 := hk.heap (blk_alloc (blk_new w _) _) id
  have hb5 := hk.heap (blk_new' (w.alloc _) _ (w.heap.size + 1) (by simp)) id
  have hK : Kept (fun _ => False) w w1 := (((Kept.refl _ w).alloc _).alloc _).trans hk
  have hsz5 : w.heap.size + 1 < w1.heap.size := blk_lt hb5
  have hsz4 : w.heap.size < w1.heap.size := blk_lt hb3
  have c0 : w1.cell? ⟨w.heap.size, 0, none⟩ = some (.int .i64 n) := blk_cell hb3 0
  have c1 : w1.cell? ⟨w.heap.size, 1, none⟩ = some (.int .u32 s) := blk_cell hb3 1
  have c2 : w1.cell? ⟨w.heap.size, 2, none⟩ = some (.string (strOfNums p)) := blk_cell hb3 2
  have e0 : w1.cell? ⟨w.heap.size + 1, 0, none⟩ = some (.int .i64 0) := blk_cell hb5 0
  have e1 : w1.cell? ⟨w.heap.size + 1, 1, none⟩ = some (.int .i64 0) := blk_cell hb5 1
  have f5 := blk_free hb5
  go_wp2_with fail
  refine (hnm _).mono ?_
  rintro e w2 ⟨rfl, hk2⟩
  clear c0 c1 c2 e0 e1 f5
  have hb3 := hk2.heap (hb3) id
  have hb5 := hk2.heap (hb5) id
  have hK : Kept (fun _ => False) w w2 := hK.trans hk2
  have hsz5 : w.heap.size + 1 < w2.heap.size := blk_lt hb5
  have hsz4 : w.heap.size < w2.heap.size := blk_lt hb3
  have c0 : w2.cell? ⟨w.heap.size, 0, none⟩ = some (.int .i64 n) := blk_cell hb3 0
  have c1 : w2.cell? ⟨w.heap.size, 1, none⟩ = some (.int .u32 s) := blk_cell hb3 1
  have c2 : w2.cell? ⟨w.heap.size, 2, none⟩ = some (.string (strOfNums p)) := blk_cell hb3 2
  have e0 : w2.cell? ⟨w.heap.size + 1, 0, none⟩ = some (.int .i64 0) := blk_cell hb5 0
  have e1 : w2.cell? ⟨w.heap.size + 1, 1, none⟩ = some (.int .i64 0) := blk_cell hb5 1
  have f5 := blk_free hb5
  go_wp2_with fail
  refine (HS.out _).mono ?_
  rintro e w3 ⟨rfl, hk3⟩
  clear c0 c1 c2 e0 e1 f5
  have hb3 := hk3.heap (hb3) id
  have hb5 := hk3.heap (hb5) id
  have hK : Kept (fun _ => False) w w3 := hK.trans hk3
  have hsz5 : w.heap.size + 1 < w3.heap.size := blk_lt hb5
  have hsz4 : w.heap.size < w3.heap.size := blk_lt hb3
  have c0 : w3.cell? ⟨w.heap.size, 0, none⟩ = some (.int .i64 n) := blk_cell hb3 0
  have c1 : w3.cell? ⟨w.heap.size, 1, none⟩ = some (.int .u32 s) := blk_cell hb3 1
  have c2 : w3.cell? ⟨w.heap.size, 2, none⟩ = some (.string (strOfNums p)) := blk_cell hb3 2
  have e0 : w3.cell? ⟨w.heap.size + 1, 0, none⟩ = some (.int .i64 0) := blk_cell hb5 0
  have e1 : w3.cell? ⟨w.heap.size + 1, 1, none⟩ = some (.int .i64 0) := blk_cell hb5 1
  have f5 := blk_free hb5
  go_wp2_with fail
  refine (HD.out _).mono ?_
  rintro e w4 ⟨v, rfl, hrow, hk4⟩
  clear c0 c1 c2 e0 e1 f5
  have hb3 := hk4.heap (hb3) id
  have hb5 := hk4.heap (hb5) id
  have hK : Kept (fun _ => False) w w4 := hK.trans hk4
  have hsz5 : w.heap.size + 1 < w4.heap.size := blk_lt hb5
  have hsz4 : w.heap.size < w4.heap.size := blk_lt hb3
  have c0 : w4.cell? ⟨w.heap.size, 0, none⟩ = some (.int .i64 n) := blk_cell hb3 0
  have c1 : w4.cell? ⟨w.heap.size, 1, none⟩ = some (.int .u32 s) := blk_cell hb3 1
  have c2 : w4.cell? ⟨w.heap.size, 2, none⟩ = some (.string (strOfNums p)) := blk_cell hb3 2
  have e0 : w4.cell? ⟨w.heap.size + 1, 0, none⟩ = some (.int .i64 0) := blk_cell hb5 0
  have e1 : w4.cell? ⟨w.heap.size + 1, 1, none⟩ = some (.int .i64 0) := blk_cell hb5 1
  have f5 := blk_free hb5
  clear hrow
  go_wp2
  go_region
  all_goals
    go_wp2
    refine bodyPost_ret (v := .tuple #[.slice none 0 0, .agg #[.int .i64 (x), .int .i64 (y)]]) (by simp [results, Tryz.results51, go_sem, c0, c1, c2, e0, e1, hsz4, hsz5]; try rfl) rfl ⟨.slice none 0 0, by rw [HE.out]; rfl, by rw [HE.out]; exact Rd.nil _ _, fun b h => by (cases h), ?_⟩
    repeat (first | with_reducible exact Kept.refl _ _ | with_reducible exact hK | with_reducible refine Kept.drewN ?_ _ | with_reducible refine Kept.drew ?_ | with_reducible refine Kept.setNew ?_ _ _ (by simp) _ | with_reducible refine Kept.alloc ?_ _)
set_option maxRecDepth 100000 in
set_option maxHeartbeats 4000000 in
theorem open_count (c n s : Int) (p : List Int) (R : List Int × Int × Int) (w : World) (hD : DecC c p R) (hp : Byt p) (hl : p.length ≤ 1000000000) (h : rightOf n p = 0) (hn : nameOf c ≠ []) (hc : (crcOf p : Int) = s) (hx : R.2.1 = 0) (hq : (R.1.length : Int) ≠ n) :
    Calls Tryz.prog 51 #[.int .i64 c, blkV n s p] w (OpPost (opBlk c n s p R) w) := by
  have HE := Lib.hid (show opBlk c n s p R = ([], 8, (R.1.length : Int)) by unfold opBlk; rw [if_neg (by simp [h]), if_neg hn, if_neg (by simpa using hc), if_neg (by simpa using hx), if_pos hq])
  have hr := right_c n s p
  have hnm := name_c c
  rw [h] at hr
  obtain ⟨nm, hnme⟩ : ∃ nm, nm = nameOf c := ⟨_, rfl⟩
  rw [← hnme] at hn hnm
  clear hnme h
  have he1 : (strOfNums nm).toList.isEmpty = false := by rw [S_empty]; cases nm <;> simp_all
  have hsum := fun w => is_sum s p w hp hl
  obtain ⟨cs, hcs⟩ : ∃ cs, cs = ((crcOf p : Nat) : Int) := ⟨_, rfl⟩
  rw [← hcs] at hc
  simp only [← hcs] at hsum
  clear hcs
  have hcb : (cs == s) = true := by simpa using hc
  have HS := Lib.hid hsum
  clear hsum
  clear hc
  unfold DecC failV at hD
  obtain ⟨ys, x, y⟩ := R
  simp only at hD hx hq HE
  have HD := Lib.hid hD
  clear hD
  subst hx
  obtain ⟨m, hm⟩ : ∃ m, m = ys.length := ⟨_, rfl⟩
  rw [← hm] at hq HE
  have hqb : ((m : Int) != n) = true := by simpa using hq
  have HM := Lib.hid hm
  clear hq hm
  unfold blkV at hr ⊢
  go_enter Tryz.func51, Tryz.ntmps51
  go_wp2_with fail
  refine (hr _).mono ?_
  rintro e w1 ⟨rfl, hk⟩
  have hb3 := hk.heap (blk_alloc (blk_new w _) _) id
  have hb5 := hk.heap (blk_new' (w.alloc _) _ (w.heap.size + 1) (by simp)) id
  have hK : Kept (fun _ => False) w w1 := (((Kept.refl _ w).alloc _).alloc _).trans hk
  have hsz5 : w.heap.size + 1 < w1.heap.size := blk_lt hb5
  have hsz4 : w.heap.size < w1.heap.size := blk_lt hb3
  have c0 : w1.cell? ⟨w.heap.size, 0, none⟩ = some (.int .i64 n) := blk_cell hb3 0
  have c1 : w1.cell? ⟨w.heap.size, 1, none⟩ = some (.int .u32 s) := blk_cell hb3 1
  have c2 : w1.cell? ⟨w.heap.size, 2, none⟩ = some (.string (strOfNums p)) := blk_cell hb3 2
  have e0 : w1.cell? ⟨w.heap.size + 1, 0, none⟩ = some (.int .i64 0) := blk_cell hb5 0
  have e1 : w1.cell? ⟨w.heap.size + 1, 1, none⟩ = some (.int .i64 0) := blk_cell hb5 1
  have f5 := blk_free hb5
  go_wp2_with fail
  refine (hnm _).mono ?_
  rintro e w2 ⟨rfl, hk2⟩
  clear c0 c1 c2 e0 e1 f5
  have hb3 := hk2.heap (hb3) id
  have hb5 := hk2.heap (hb5) id
  have hK : Kept (fun _ => False) w w2 := hK.trans hk2
  have hsz5 : w.heap.size + 1 < w2.heap.size := blk_lt hb5
  have hsz4 : w.heap.size < w2.heap.size := blk_lt hb3
  have c0 : w2.cell? ⟨w.heap.size, 0, none⟩ = some (.int .i64 n) := blk_cell hb3 0
  have c1 : w2.cell? ⟨w.heap.size, 1, none⟩ = some (.int .u32 s) := blk_cell hb3 1
  have c2 : w2.cell? ⟨w.heap.size, 2, none⟩ = some (.string (strOfNums p)) := blk_cell hb3 2
  have e0 : w2.cell? ⟨w.heap.size + 1, 0, none⟩ = some (.int .i64 0) := blk_cell hb5 0
  have e1 : w2.cell? ⟨w.heap.size + 1, 1, none⟩ = some (.int .i64 0) := blk_cell hb5 1
  have f5 := blk_free hb5
  go_wp2_with fail
  refine (HS.out _).mono ?_
  rintro e w3 ⟨rfl, hk3⟩
  clear c0 c1 c2 e0 e1 f5
  have hb3 := hk3.heap (hb3) id
  have hb5 := hk3.heap (hb5) id
  have hK : Kept (fun _ => False) w w3 := hK.trans hk3
  have hsz5 : w.heap.size + 1 < w3.heap.size := blk_lt hb5
  have hsz4 : w.heap.size < w3.heap.size := blk_lt hb3
  have c0 : w3.cell? ⟨w.heap.size, 0, none⟩ = some (.int .i64 n) := blk_cell hb3 0
  have c1 : w3.cell? ⟨w.heap.size, 1, none⟩ = some (.int .u32 s) := blk_cell hb3 1
  have c2 : w3.cell? ⟨w.heap.size, 2, none⟩ = some (.string (strOfNums p)) := blk_cell hb3 2
  have e0 : w3.cell? ⟨w.heap.size + 1, 0, none⟩ = some (.int .i64 0) := blk_cell hb5 0
  have e1 : w3.cell? ⟨w.heap.size + 1, 1, none⟩ = some (.int .i64 0) := blk_cell hb5 1
  have f5 := blk_free hb5
  go_wp2_with fail
  refine (HD.out _).mono ?_
  rintro e w4 ⟨v, rfl, hrow, hk4⟩
  clear c0 c1 c2 e0 e1 f5
  have hb3 := hk4.heap (hb3) id
  have hb5 := hk4.heap (hb5) id
  have hK : Kept (fun _ => False) w w4 := hK.trans hk4
  have hsz5 : w.heap.size + 1 < w4.heap.size := blk_lt hb5
  have hsz4 : w.heap.size < w4.heap.size := blk_lt hb3
  have c0 : w4.cell? ⟨w.heap.size, 0, none⟩ = some (.int .i64 n) := blk_cell hb3 0
  have c1 : w4.cell? ⟨w.heap.size, 1, none⟩ = some (.int .u32 s) := blk_cell hb3 1
  have c2 : w4.cell? ⟨w.heap.size, 2, none⟩ = some (.string (strOfNums p)) := blk_cell hb3 2
  have e0 : w4.cell? ⟨w.heap.size + 1, 0, none⟩ = some (.int .i64 0) := blk_cell hb5 0
  have e1 : w4.cell? ⟨w.heap.size + 1, 1, none⟩ = some (.int .i64 0) := blk_cell hb5 1
  have f5 := blk_free hb5
  obtain ⟨A, cp, rfl, -⟩ := hrow.slice
  rw [← HM.out]
  clear hrow
  go_wp2
  refine bodyPost_ret (v := .tuple #[.slice none 0 0, .agg #[.int .i64 (8), .int .i64 (m)]]) (by simp [results, Tryz.results51, go_sem, c0, c1, c2, e0, e1, hsz4, hsz5]; try rfl) rfl ⟨.slice none 0 0, by rw [HE.out]; rfl, by rw [HE.out]; exact Rd.nil _ _, fun b h => by (cases h), ?_⟩
  repeat (first | with_reducible exact Kept.refl _ _ | with_reducible exact hK | with_reducible refine Kept.drewN ?_ _ | with_reducible refine Kept.drew ?_ | with_reducible refine Kept.setNew ?_ _ _ (by simp) _ | with_reducible refine Kept.alloc ?_ _)
set_option maxRecDepth 100000 in
set_option maxHeartbeats 4000000 in
theorem open_ok (c n s : Int) (p : List Int) (R : List Int × Int × Int) (w : World) (hD : DecC c p R) (hp : Byt p) (hl : p.length ≤ 1000000000) (h : rightOf n p = 0) (hn : nameOf c ≠ []) (hc : (crcOf p : Int) = s) (hx : R.2.1 = 0) (hq : (R.1.length : Int) = n) :
    Calls Tryz.prog 51 #[.int .i64 c, blkV n s p] w (OpPost (opBlk c n s p R) w) := by
  have HE := Lib.hid (show opBlk c n s p R = (R.1, 0, 0) by unfold opBlk; rw [if_neg (by simp [h]), if_neg hn, if_neg (by simpa using hc), if_neg (by simpa using hx), if_neg (by simpa using hq)])
  have hr := right_c n s p
  have hnm := name_c c
  rw [h] at hr
  obtain ⟨nm, hnme⟩ : ∃ nm, nm = nameOf c := ⟨_, rfl⟩
  rw [← hnme] at hn hnm
  clear hnme h
  have he1 : (strOfNums nm).toList.isEmpty = false := by rw [S_empty]; cases nm <;> simp_all
  have hsum := fun w => is_sum s p w hp hl
  obtain ⟨cs, hcs⟩ : ∃ cs, cs = ((crcOf p : Nat) : Int) := ⟨_, rfl⟩
  rw [← hcs] at hc
  simp only [← hcs] at hsum
  clear hcs
  have hcb : (cs == s) = true := by simpa using hc
  have HS := Lib.hid hsum
  clear hsum
  clear hc
  unfold DecC failV at hD
  obtain ⟨ys, x, y⟩ := R
  simp only at hD hx hq HE
  have HD := Lib.hid hD
  clear hD
  subst hx
  obtain ⟨m, hm⟩ : ∃ m, m = ys.length := ⟨_, rfl⟩
  rw [← hm] at hq
  have hqb : ((m : Int) != n) = false := by simpa using hq
  have HM := Lib.hid hm
  clear hq hm
  unfold blkV at hr ⊢
  go_enter Tryz.func51, Tryz.ntmps51
  go_wp2_with fail
  refine (hr _).mono ?_
  rintro e w1 ⟨rfl, hk⟩
  have hb3 := hk.heap (blk_alloc (blk_new w _) _) id
  have hb5 := hk.heap (blk_new' (w.alloc _) _ (w.heap.size + 1) (by simp)) id
  have hK : Kept (fun _ => False) w w1 := (((Kept.refl _ w).alloc _).alloc _).trans hk
  have hsz5 : w.heap.size + 1 < w1.heap.size := blk_lt hb5
  have hsz4 : w.heap.size < w1.heap.size := blk_lt hb3
  have c0 : w1.cell? ⟨w.heap.size, 0, none⟩ = some (.int .i64 n) := blk_cell hb3 0
  have c1 : w1.cell? ⟨w.heap.size, 1, none⟩ = some (.int .u32 s) := blk_cell hb3 1
  have c2 : w1.cell? ⟨w.heap.size, 2, none⟩ = some (.string (strOfNums p)) := blk_cell hb3 2
  have e0 : w1.cell? ⟨w.heap.size + 1, 0, none⟩ = some (.int .i64 0) := blk_cell hb5 0
  have e1 : w1.cell? ⟨w.heap.size + 1, 1, none⟩ = some (.int .i64 0) := blk_cell hb5 1
  have f5 := blk_free hb5
  go_wp2_with fail
  refine (hnm _).mono ?_
  rintro e w2 ⟨rfl, hk2⟩
  clear c0 c1 c2 e0 e1 f5
  have hb3 := hk2.heap (hb3) id
  have hb5 := hk2.heap (hb5) id
  have hK : Kept (fun _ => False) w w2 := hK.trans hk2
  have hsz5 : w.heap.size + 1 < w2.heap.size := blk_lt hb5
  have hsz4 : w.heap.size < w2.heap.size := blk_lt hb3
  have c0 : w2.cell? ⟨w.heap.size, 0, none⟩ = some (.int .i64 n) := blk_cell hb3 0
  have c1 : w2.cell? ⟨w.heap.size, 1, none⟩ = some (.int .u32 s) := blk_cell hb3 1
  have c2 : w2.cell? ⟨w.heap.size, 2, none⟩ = some (.string (strOfNums p)) := blk_cell hb3 2
  have e0 : w2.cell? ⟨w.heap.size + 1, 0, none⟩ = some (.int .i64 0) := blk_cell hb5 0
  have e1 : w2.cell? ⟨w.heap.size + 1, 1, none⟩ = some (.int .i64 0) := blk_cell hb5 1
  have f5 := blk_free hb5
  go_wp2_with fail
  refine (HS.out _).mono ?_
  rintro e w3 ⟨rfl, hk3⟩
  clear c0 c1 c2 e0 e1 f5
  have hb3 := hk3.heap (hb3) id
  have hb5 := hk3.heap (hb5) id
  have hK : Kept (fun _ => False) w w3 := hK.trans hk3
  have hsz5 : w.heap.size + 1 < w3.heap.size := blk_lt hb5
  have hsz4 : w.heap.size < w3.heap.size := blk_lt hb3
  have c0 : w3.cell? ⟨w.heap.size, 0, none⟩ = some (.int .i64 n) := blk_cell hb3 0
  have c1 : w3.cell? ⟨w.heap.size, 1, none⟩ = some (.int .u32 s) := blk_cell hb3 1
  have c2 : w3.cell? ⟨w.heap.size, 2, none⟩ = some (.string (strOfNums p)) := blk_cell hb3 2
  have e0 : w3.cell? ⟨w.heap.size + 1, 0, none⟩ = some (.int .i64 0) := blk_cell hb5 0
  have e1 : w3.cell? ⟨w.heap.size + 1, 1, none⟩ = some (.int .i64 0) := blk_cell hb5 1
  have f5 := blk_free hb5
  go_wp2_with fail
  refine (HD.out _).mono ?_
  rintro e w4 ⟨v, rfl, hrow, hk4⟩
  clear c0 c1 c2 e0 e1 f5
  have hb3 := hk4.heap (hb3) id
  have hb5 := hk4.heap (hb5) id
  have hK : Kept (fun _ => False) w w4 := hK.trans hk4
  have hsz5 : w.heap.size + 1 < w4.heap.size := blk_lt hb5
  have hsz4 : w.heap.size < w4.heap.size := blk_lt hb3
  have c0 : w4.cell? ⟨w.heap.size, 0, none⟩ = some (.int .i64 n) := blk_cell hb3 0
  have c1 : w4.cell? ⟨w.heap.size, 1, none⟩ = some (.int .u32 s) := blk_cell hb3 1
  have c2 : w4.cell? ⟨w.heap.size, 2, none⟩ = some (.string (strOfNums p)) := blk_cell hb3 2
  have e0 : w4.cell? ⟨w.heap.size + 1, 0, none⟩ = some (.int .i64 0) := blk_cell hb5 0
  have e1 : w4.cell? ⟨w.heap.size + 1, 1, none⟩ = some (.int .i64 0) := blk_cell hb5 1
  have f5 := blk_free hb5
  obtain ⟨A, cp, hv, -⟩ := hrow.slice
  rw [← HM.out] at hv
  subst hv
  have HR := Lib.hid hrow
  clear hrow
  go_wp2
  refine bodyPost_ret (v := .tuple #[.slice A m cp, .agg #[.int .i64 0, .int .i64 0]]) (by simp [results, Tryz.results51, go_sem, c0, c1, c2, e0, e1, hsz4, hsz5]; try rfl) rfl ?_
  have hrow := HR.out
  refine ⟨_, by rw [HE.out]; rfl, ?_, fun b hb => ?_, ?_⟩
  · rw [HE.out]
    rw [HM.out] at hrow ⊢
    exact hrow.rd.kept (S := fun k => k = w.heap.size + 1) (by repeat (first | with_reducible exact Kept.refl _ _ | with_reducible refine Kept.set1 ?_ _ _ ?_ _ | with_reducible refine Kept.alloc ?_ _ | exact rfl)) (fun _ b hb e => by have := (hrow.lt b hb).1; omega)
  · have := (hrow.lt b hb).1; omega
  · repeat (first | with_reducible exact Kept.refl _ _ | with_reducible exact hK | with_reducible refine Kept.drewN ?_ _ | with_reducible refine Kept.drew ?_ | with_reducible refine Kept.setNew ?_ _ _ (by simp) _ | with_reducible refine Kept.alloc ?_ _)
theorem open_c (c n s : Int) (p : List Int) (R : List Int × Int × Int) (w : World) (hD : nameOf c ≠ [] → DecC c p R) (hp : Byt p) (hl : p.length ≤ 1000000000) :
    Calls Tryz.prog 51 #[.int .i64 c, blkV n s p] w (OpPost (opBlk c n s p R) w) := by
  by_cases h : rightOf n p = 0
  · by_cases hn : nameOf c = []
    · exact open_name c n s p R w h hn
    · by_cases hc : (crcOf p : Int) = s
      · by_cases hx : R.2.1 = 0
        · by_cases hq : (R.1.length : Int) = n
          · exact open_ok c n s p R w (hD hn) hp hl h hn hc hx hq
          · exact open_count c n s p R w (hD hn) hp hl h hn hc hx hq
        · exact open_fail c n s p R w (hD hn) hp hl h hn hc hx
      · exact open_sum c n s p R w hp hl h hn hc
  · exact open_right c n s p R w h
end Go.Proofs.YthdcfmconpgflaaGreat
