/- What law 20 asks first: answers that the document fixes, of UTF-8 alone. -/
import Derived.Test.YthdcfmconpgflaaGreatBlkO
import Derived.Test.YthdcfmconpgflaaGreatBlkB
import Derived.Test.YthdcfmconpgflaaGreatBlkR
import Derived.Test.YthdcfmconpgflaaGreatIE8
import Derived.Test.YthdcfmconpgflaaGreatID8
import Derived.Test.YthdcfmconpgflaaGreatCodE
import Derived.Test.YthdcfmconpgflaaGreatCodD
set_option linter.unusedVariables false
set_option linter.unusedSimpArgs false
namespace Go.Proofs.YthdcfmconpgflaaGreat
open Go.RowKit

theorem encC8 (l : List Int) (hn : ∀ c ∈ l, 0 ≤ c) (hl : l.length ≤ 100000000) : EncC 1 l (eTot E8.bytes (DB.zero, (), []) l) := by
  intro w v hv
  exact encode_c 1 encI8 (DB.zero, (), []) encNew8 v l w hv hn ⟨trivial, Byt.nil, by simp, by decide, by simp [DB.zero]; omega, hl⟩ rfl hl
theorem u8_ok0 : U8.Ok ⟨0, 0, 0, 0⟩ := by constructor <;> simp
theorem decC8 (t : List Int) (ht : Byt t) (hl : t.length ≤ 100000000) : DecC 1 t (dTot U8.next U8.cut (DB.zero, ⟨0, 0, 0, 0⟩) t) := by
  intro w
  exact decode_c 1 decI8 (DB.zero, ⟨0, 0, 0, 0⟩) decNew8 t w ht ⟨u8_ok0, by decide, by simp [DB.zero]; omega, hl⟩ rfl hl

theorem aw20_mk : mkBlk [65] (eTot E8.bytes (DB.zero, (), []) [65]) = ((1, 3554254475, [65]), 0, 0) := by decide
theorem aw20_by : blkBytes 1 3554254475 [65] = [66, 1, 0, 0, 0, 1, 0, 0, 0, 139, 158, 217, 211, 65] := by decide
theorem aw20_rd : rdBlk [120, 66, 1, 0, 0, 0, 1, 0, 0, 0, 139, 158, 217, 211, 65] 1 = ((1, 3554254475, [65]), 15, 0, 0) := by decide
theorem aw20_op : opBlk 1 1 3554254475 [65] (dTot U8.next U8.cut (DB.zero, ⟨0, 0, 0, 0⟩) [65]) = ([65], 0, 0) := by decide
theorem aw20_no : mkBlk [] (eTot E8.bytes (DB.zero, (), []) []) = ((0, 0, []), 8, 0) := by decide

theorem byt_of {l : List Int} (h : (l.all fun x => decide (0 ≤ x ∧ x < 256)) = true) : Byt l := fun x hx => by simpa using (List.all_eq_true.1 h) x hx

set_option maxRecDepth 100000 in
set_option maxHeartbeats 4000000 in
theorem awake20 (w : World) : Calls Tryz.prog 43 #[] w fun e w' => e = .returned (.bool true) ∧ Kept (fun _ => False) w w' := by
  have HM := Lib.hid (show ∀ W v, Rd W .u32 v [65] → Calls Tryz.prog 44 #[.int .i64 1, v] W fun e w' => e = .returned (.tuple #[.agg #[.int .i64 1, .int .u32 3554254475, .string (strOfNums [65])], .agg #[.int .i64 0, .int .i64 0]]) ∧ Kept (fun _ => False) W w' from fun W v hv => by
    have := make_c 1 [65] _ (encC8 [65] (by simp) (by simp)) W v hv (by simp) (byt_of (by decide)) (by decide)
    rw [aw20_mk] at this; exact this)
  have HB := Lib.hid (show ∀ W, Calls Tryz.prog 46 #[.agg #[.int .i64 1, .int .u32 3554254475, .string (strOfNums [65])]] W fun e w' => e = .returned (.tuple #[.string (strOfNums [66, 1, 0, 0, 0, 1, 0, 0, 0, 139, 158, 217, 211, 65]), .int .i64 0]) ∧ Kept (fun _ => False) W w' from fun W => by
    have := bytes_ok 1 3554254475 [65] W (by decide) (by decide) (by decide)
    rw [aw20_by] at this; exact this)
  have HR := Lib.hid (show ∀ W, Calls Tryz.prog 49 #[.string (strOfNums [120, 66, 1, 0, 0, 0, 1, 0, 0, 0, 139, 158, 217, 211, 65]), .int .i64 1] W fun e w' => e = .returned (.tuple #[.agg #[.int .i64 1, .int .u32 3554254475, .string (strOfNums [65])], .int .i64 15, .agg #[.int .i64 0, .int .i64 0]]) ∧ Kept (fun _ => False) W w' from fun W => by
    have := read_c [120, 66, 1, 0, 0, 0, 1, 0, 0, 0, 139, 158, 217, 211, 65] 1 W (byt_of (by decide)) (by decide)
    rw [aw20_rd] at this; exact this)
  have HO := Lib.hid (show ∀ W, Calls Tryz.prog 51 #[.int .i64 1, .agg #[.int .i64 1, .int .u32 3554254475, .string (strOfNums [65])]] W fun e w' => ∃ v, e = .returned (.tuple #[v, .agg #[.int .i64 0, .int .i64 0]]) ∧ Rd w' .u32 v [65] ∧ (∀ b, v.ownBlock = some b → W.heap.size ≤ b) ∧ Kept (fun _ => False) W w' from fun W => by
    have := open_c 1 1 3554254475 [65] _ W (fun _ => decC8 [65] (byt_of (by decide)) (by simp)) (byt_of (by decide)) (by simp)
    rw [aw20_op] at this; exact this)
  have HN := Lib.hid (show ∀ W, Calls Tryz.prog 44 #[.int .i64 1, .slice none 0 0] W fun e w' => e = .returned (.tuple #[.agg #[.int .i64 0, .int .u32 0, .string (strOfNums [])], .agg #[.int .i64 8, .int .i64 0]]) ∧ Kept (fun _ => False) W w' from fun W => by
    have := make_c 1 [] _ (encC8 [] (by simp) (by simp)) W (.slice none 0 0) (Rd.nil _ _) (by simp) (byt_of (by decide)) (by decide)
    rw [aw20_no] at this; exact this)
  go_enter Tryz.func43, Tryz.ntmps43
  go_wp2_with fail
  refine (HM.out _ _ ?_).mono ?_
  · exact ⟨_, _, rfl, by decide, fun _ => ⟨_, _, rfl, by simp, fun j hj => by (have : j = 0 := by simpa using hj); subst this; exact blk_cell (blk_new _ _) 0⟩⟩
  rintro e w1 ⟨rfl, hk1⟩
  have hK1 : Kept (fun _ => False) w w1 := ((Kept.refl _ w).alloc _).trans hk1
  clear hk1
  go_wp2_with fail
  refine (HB.out _).mono ?_
  rintro e w2 ⟨rfl, hk2⟩
  have g1 := hk2.heap (blk_alloc (blk_new w1 _) _) id
  have g2 := hk2.heap (blk_new' (w1.alloc _) _ (w1.heap.size + 1) (by simp)) id
  have hK2 : Kept (fun _ => False) w w2 := ((hK1.alloc _).alloc _).trans hk2
  clear hk2
  have hcat : (⟨#[120]⟩ : ByteArray) ++ strOfNums [66, 1, 0, 0, 0, 1, 0, 0, 0, 139, 158, 217, 211, 65] = strOfNums [120, 66, 1, 0, 0, 0, 1, 0, 0, 0, 139, 158, 217, 211, 65] := rfl
  have hcs := strOfNums_size [66, 1, 0, 0, 0, 1, 0, 0, 0, 139, 158, 217, 211, 65]
  go_wp2_with fail
  refine (HR.out _).mono ?_
  rintro e w3 ⟨rfl, hk3⟩
  have g1 := hk3.heap g1 id
  have g2 := hk3.heap g2 id
  have hK3 : Kept (fun _ => False) w w3 := hK2.trans hk3
  clear hk3 hcat hcs
  go_wp2_with fail
  refine (HO.out _).mono ?_
  rintro e w4 ⟨v, rfl, hv, hvb, hk4⟩
  have g1 := hk4.heap (blk_alloc (blk_alloc g1 _) _) id
  have g2 := hk4.heap (blk_alloc (blk_alloc g2 _) _) id
  have g5 := hk4.heap (blk_alloc (blk_new w3 _) _) id
  have g7 := hk4.heap (blk_new' (w3.alloc _) _ (w3.heap.size + 1) (by simp)) id
  have hK4 : Kept (fun _ => False) w w4 := ((hK3.alloc _).alloc _).trans hk4
  clear hk4
  go_wp2_with fail
  refine (HN.out _).mono ?_
  rintro e w5 ⟨rfl, hk5⟩
  have g1 := hk5.heap (blk_alloc g1 _) id
  have g2 := hk5.heap (blk_alloc g2 _) id
  have g5 := hk5.heap (blk_alloc g5 _) id
  have g7 := hk5.heap (blk_alloc g7 _) id
  have g9 := hk5.heap (blk_new w4 _) id
  have hv5 : Rd w5 .u32 v [65] := (hv.kept ((Kept.refl (fun _ => False) w4).alloc _) (fun _ _ _ => id)).kept hk5 (fun _ _ _ => id)
  have hK5 : Kept (fun _ => False) w w5 := (hK4.alloc _).trans hk5
  clear hk5 hv
  have hl1 := blk_lt g1; have hl2 := blk_lt g2; have hl5 := blk_lt g5; have hl7 := blk_lt g7; have hl9 := blk_lt g9
  have a0 : w5.cell? ⟨w1.heap.size, 0, none⟩ = some (.int .i64 1) := blk_cell g1 0
  have a1 : w5.cell? ⟨w1.heap.size, 1, none⟩ = some (.int .u32 3554254475) := blk_cell g1 1
  have a2 : w5.cell? ⟨w1.heap.size, 2, none⟩ = some (.string (strOfNums [65])) := blk_cell g1 2
  have b0 : w5.cell? ⟨w1.heap.size + 1, 0, none⟩ = some (.int .i64 0) := blk_cell g2 0
  have b1 : w5.cell? ⟨w1.heap.size + 1, 1, none⟩ = some (.int .i64 0) := blk_cell g2 1
  have c0 : w5.cell? ⟨w3.heap.size, 0, none⟩ = some (.int .i64 1) := blk_cell g5 0
  have c1 : w5.cell? ⟨w3.heap.size, 1, none⟩ = some (.int .u32 3554254475) := blk_cell g5 1
  have c2 : w5.cell? ⟨w3.heap.size, 2, none⟩ = some (.string (strOfNums [65])) := blk_cell g5 2
  have d0 : w5.cell? ⟨w3.heap.size + 1, 0, none⟩ = some (.int .i64 0) := blk_cell g7 0
  have d1 : w5.cell? ⟨w3.heap.size + 1, 1, none⟩ = some (.int .i64 0) := blk_cell g7 1
  have e0 : w5.cell? ⟨w4.heap.size, 0, none⟩ = some (.int .i64 0) := blk_cell g9 0
  have e1 : w5.cell? ⟨w4.heap.size, 1, none⟩ = some (.int .i64 0) := blk_cell g9 1
  clear g1 g2 g5 g7 g9
  have hlit : strOfNums [66, 1, 0, 0, 0, 1, 0, 0, 0, 139, 158, 217, 211, 65] = (⟨#[66, 1, 0, 0, 0, 1, 0, 0, 0, 139, 158, 217, 211, 65]⟩ : ByteArray) := rfl
  go_wp2_with fail
  refine (same_c v _ [65] [65] _ ?_ ?_ (by decide) (by decide)).mono ?_
  · exact hv5.kept (S := fun _ => False) ((((Kept.refl _ w5).alloc _).alloc _).alloc _) (fun _ _ _ => id)
  · exact ⟨_, _, rfl, by decide, fun _ => ⟨_, _, rfl, by simp, fun j hj => by (have : j = 0 := by simpa using hj); subst this; exact blk_cell (blk_new' ((w5.alloc _).alloc _) _ _ (by simp)) 0⟩⟩
  rintro e w6 ⟨rfl, hk6⟩
  have hK6 : Kept (fun _ => False) w w6 := (((hK5.alloc _).alloc _).alloc _).trans hk6
  have x9 : Kept (fun _ => False) w5 w6 := ((((Kept.refl _ w5).alloc _).alloc _).alloc _).trans hk6
  have p0 : w6.cell? ⟨w4.heap.size, 0, none⟩ = some (.int .i64 0) := x9.cell e0 id
  have p1 : w6.cell? ⟨w4.heap.size, 1, none⟩ = some (.int .i64 0) := x9.cell e1 id
  have g11 := hk6.heap (blk_alloc (blk_new' (w5.alloc _) _ (w5.heap.size + 1) (by simp)) _) id
  have q0 : w6.cell? ⟨w5.heap.size + 1, 0, none⟩ = some (.int .i64 8) := blk_cell g11 0
  have q1 : w6.cell? ⟨w5.heap.size + 1, 1, none⟩ = some (.int .i64 0) := blk_cell g11 1
  clear g11 hk6 x9
  rw [show decide (([65] : List Int) = [65]) = true from rfl]
  go_wp2
  go_ret
  exact ⟨rfl, hK6⟩
end Go.Proofs.YthdcfmconpgflaaGreat
