/- block.Read: what stands at a place. Printed by genblkr.py. -/
import Derived.Test.YthdcfmconpgflaaGreatBlk
set_option linter.unusedVariables false
set_option linter.unusedSimpArgs false
namespace Go.Proofs.YthdcfmconpgflaaGreat
open Go.RowKit

/-- What Read makes of a place: the block, the place behind it, what is wrong. -/
def rdBlk (l : List Int) (at_ : Int) : (Int × Int × List Int) × Int × Int × Int :=
  if at_ < 0 ∨ (l.length : Int) < at_ then ((0, 0, []), 0, 1, 0)
  else
    let r := l.drop at_.toNat
    if r ≠ [] ∧ r.getD 0 0 ≠ 66 then ((0, 0, []), 0, 7, at_)
    else if r.length < 13 then ((0, 0, []), 0, 4, l.length)
    else
      let c := numOf (r.drop 1)
      let z := numOf (r.drop 5)
      if c < 1 ∨ 65536 < c then ((0, 0, []), 0, 8, at_ + 1)
      else if z < 1 ∨ 1048576 < z then ((0, 0, []), 0, 5, at_ + 5)
      else if (r.length : Int) - 13 < z then ((0, 0, []), 0, 4, l.length)
      else ((c, numOf (r.drop 9), (r.take (13 + z.toNat)).drop 13), at_ + (13 + z), 0, 0)
def rdV (r : (Int × Int × List Int) × Int × Int × Int) : Value := .tuple #[blkV r.1.1 r.1.2.1 r.1.2.2, .int .i64 r.2.1, failV r.2.2.1 r.2.2.2]
def RdPost (r : (Int × Int × List Int) × Int × Int × Int) (w : World) (e : Ending) (w' : World) : Prop := e = .returned (rdV r) ∧ Kept (fun _ => False) w w'
theorem blk_drewN {w : World} {k : Nat} {o : Obj} (h : w.heap[k]? = some o) (n : Nat) : (w.drewN n).heap[k]? = some o := h
theorem numOf_rng {l : List Int} (h : Byt l) : 0 ≤ numOf l ∧ numOf l < 4294967296 := by
  have h0 := h.at 0; have h1 := h.at 1; have h2 := h.at 2; have h3 := h.at 3
  unfold numOf; split <;> omega

set_option maxRecDepth 100000 in
set_option maxHeartbeats 4000000 in
theorem read_arg (l : List Int) (a : Int) (w : World) (h : a < 0 ∨ (l.length : Int) < a) :
    Calls Tryz.prog 49 #[.string (strOfNums l), .int .i64 a] w (RdPost (rdBlk l a) w) := by
  have HE := Lib.hid (show rdBlk l a = ((0, 0, []), 0, 1, 0) by unfold rdBlk; rw [if_pos h])
  have hsz := strOfNums_size l
  rcases h with h | h
  · have hf := failed_c (1) (0)
    unfold blkV failV at hf
    go_enter Tryz.func49, Tryz.ntmps49
    go_wp2_with (go_at_call 93; refine (hf _).mono ?_)
    rintro e w1 ⟨rfl, hk⟩
    have hb4 := hk.heap (blk_alloc (blk_new w _) _) id
    have hb6 := hk.heap (blk_new' (w.alloc _) _ (w.heap.size + 1) (by simp)) id
    have d0 := blk_cell hb4 0
    have d1 := blk_cell hb4 1
    have d2 := blk_cell hb4 2
    have e0 := blk_cell hb6 0
    have e1 := blk_cell hb6 1
    have f4 := blk_free hb4
    have f6 := blk_free hb6
    have hK : Kept (fun _ => False) w w1 := ((((Kept.refl _ w).alloc _).alloc _)).trans hk
    go_wp2
    refine bodyPost_ret (v := .tuple #[.agg #[.int .i64 0, .int .u32 0, .string (strOfNums [])], .int .i64 0, .agg #[.int .i64 1, .int .i64 (0)]]) (by simp [results, Tryz.results49, go_sem, d0, d1, d2, e0, e1]) rfl ⟨by rw [HE.out]; rfl, ?_⟩
    exact ((((hK.setNew _ _ (Nat.le_refl _) _).setNew _ _ (Nat.le_refl _) _).setNew _ _ (Nat.le_refl _) _).setNew _ _ (Nat.le_succ _) _).setNew _ _ (Nat.le_succ _) _
  · have hf := failed_c (1) (0)
    unfold blkV failV at hf
    go_enter Tryz.func49, Tryz.ntmps49
    go_wp2_with (go_at_call 93; refine (hf _).mono ?_)
    rintro e w1 ⟨rfl, hk⟩
    have hb4 := hk.heap (blk_alloc (blk_new w _) _) id
    have hb6 := hk.heap (blk_new' (w.alloc _) _ (w.heap.size + 1) (by simp)) id
    have d0 := blk_cell hb4 0
    have d1 := blk_cell hb4 1
    have d2 := blk_cell hb4 2
    have e0 := blk_cell hb6 0
    have e1 := blk_cell hb6 1
    have f4 := blk_free hb4
    have f6 := blk_free hb6
    have hK : Kept (fun _ => False) w w1 := ((((Kept.refl _ w).alloc _).alloc _)).trans hk
    go_wp2
    refine bodyPost_ret (v := .tuple #[.agg #[.int .i64 0, .int .u32 0, .string (strOfNums [])], .int .i64 0, .agg #[.int .i64 1, .int .i64 (0)]]) (by simp [results, Tryz.results49, go_sem, d0, d1, d2, e0, e1]) rfl ⟨by rw [HE.out]; rfl, ?_⟩
    exact ((((hK.setNew _ _ (Nat.le_refl _) _).setNew _ _ (Nat.le_refl _) _).setNew _ _ (Nat.le_refl _) _).setNew _ _ (Nat.le_succ _) _).setNew _ _ (Nat.le_succ _) _

set_option maxRecDepth 100000 in
set_option maxHeartbeats 4000000 in
theorem read_magic (l : List Int) (k : Nat) (w : World) (hl : Byt l) (hlen : l.length ≤ 1000000000) (hkl : k ≤ l.length) (h1 : l.drop k ≠ []) (h2 : (l.drop k).getD 0 0 ≠ 66) :
    Calls Tryz.prog 49 #[.string (strOfNums l), .int .i64 k] w (RdPost (rdBlk l k) w) := by
  obtain ⟨r, hr⟩ : ∃ r, r = l.drop k := ⟨_, rfl⟩
  rw [← hr] at h1 h2
  have HE := Lib.hid (show rdBlk l k = ((0, 0, []), 0, 7, (k : Int)) by unfold rdBlk; rw [if_neg (by omega), Int.toNat_natCast, ← hr]; simp only; rw [if_pos ⟨h1, h2⟩])
  have hsz := strOfNums_size l
  have hsr := strOfNums_size r
  have hrl : r.length = l.length - k := by rw [hr, List.length_drop]
  have hrb : Byt r := by rw [hr]; exact hl.drop k
  have hx : (strOfNums l).extract k l.length = strOfNums r := by rw [S_extract, List.take_length, hr]
  have HR := Lib.hid hr
  clear hr
  have he1 : (strOfNums r).toList.isEmpty = false := by rw [S_empty]; cases r <;> simp_all
  have hpos : 0 < r.length := List.length_pos_iff.2 h1
  have hby := hrb.at 0
  have hget : ∀ h, (((strOfNums r)[0]'h).toNat : Int) = r.getD 0 0 := S_get hrb 0
  obtain ⟨b, hb⟩ : ∃ b, b = r.getD 0 0 := ⟨_, rfl⟩
  rw [← hb] at h2 hby
  simp only [← hb] at hget
  have hne : (b != 66) = true := by simpa using h2
  have HRL := Lib.hid hrl
  clear hb hrl h1 h2
  have hf := failed_c (7) (k)
  unfold blkV failV at hf
  go_enter Tryz.func49, Tryz.ntmps49
  go_wp2_with (go_at_call 93; refine (hf _).mono ?_)
  rintro e w1 ⟨rfl, hk⟩
  have hb4 := hk.heap (blk_alloc (blk_new w _) _) id
  have hb6 := hk.heap (blk_new' (w.alloc _) _ (w.heap.size + 1) (by simp)) id
  have d0 := blk_cell hb4 0
  have d1 := blk_cell hb4 1
  have d2 := blk_cell hb4 2
  have e0 := blk_cell hb6 0
  have e1 := blk_cell hb6 1
  have f4 := blk_free hb4
  have f6 := blk_free hb6
  have hK : Kept (fun _ => False) w w1 := ((((Kept.refl _ w).alloc _).alloc _)).trans hk
  go_wp2
  refine bodyPost_ret (v := .tuple #[.agg #[.int .i64 0, .int .u32 0, .string (strOfNums [])], .int .i64 0, .agg #[.int .i64 7, .int .i64 (k)]]) (by simp [results, Tryz.results49, go_sem, d0, d1, d2, e0, e1]) rfl ⟨by rw [HE.out]; rfl, ?_⟩
  exact ((((hK.setNew _ _ (Nat.le_refl _) _).setNew _ _ (Nat.le_refl _) _).setNew _ _ (Nat.le_refl _) _).setNew _ _ (Nat.le_succ _) _).setNew _ _ (Nat.le_succ _) _

set_option maxRecDepth 100000 in
set_option maxHeartbeats 4000000 in
theorem read_cut (l : List Int) (k : Nat) (w : World) (hl : Byt l) (hlen : l.length ≤ 1000000000) (hkl : k ≤ l.length) (h1 : ¬ (l.drop k ≠ [] ∧ (l.drop k).getD 0 0 ≠ 66)) (h13 : (l.drop k).length < 13) :
    Calls Tryz.prog 49 #[.string (strOfNums l), .int .i64 k] w (RdPost (rdBlk l k) w) := by
  obtain ⟨r, hr⟩ : ∃ r, r = l.drop k := ⟨_, rfl⟩
  rw [← hr] at h1 h13
  have HE := Lib.hid (show rdBlk l k = ((0, 0, []), 0, 4, (l.length : Int)) by unfold rdBlk; rw [if_neg (by omega), Int.toNat_natCast, ← hr]; simp only; rw [if_neg h1, if_pos h13])
  have hsz := strOfNums_size l
  have hsr := strOfNums_size r
  have hrl : r.length = l.length - k := by rw [hr, List.length_drop]
  have hrb : Byt r := by rw [hr]; exact hl.drop k
  have hx : (strOfNums l).extract k l.length = strOfNums r := by rw [S_extract, List.take_length, hr]
  have HR := Lib.hid hr
  clear hr
  have HRL := Lib.hid hrl
  clear hrl
  by_cases h0 : r = []
  · subst h0
    have he1 : (strOfNums []).toList.isEmpty = true := by rw [S_empty]; rfl
    clear h1 h13 hx
    have hx : (strOfNums l).extract k l.length = strOfNums [] := by rw [S_extract, List.take_length, ← HR.out]
    have hf := failed_c (4) (l.length)
    unfold blkV failV at hf
    go_enter Tryz.func49, Tryz.ntmps49
    go_wp2_with (go_at_call 93; refine (hf _).mono ?_)
    rintro e w1 ⟨rfl, hk⟩
    have hb4 := hk.heap (blk_alloc (blk_new w _) _) id
    have hb6 := hk.heap (blk_new' (w.alloc _) _ (w.heap.size + 1) (by simp)) id
    have d0 := blk_cell hb4 0
    have d1 := blk_cell hb4 1
    have d2 := blk_cell hb4 2
    have e0 := blk_cell hb6 0
    have e1 := blk_cell hb6 1
    have f4 := blk_free hb4
    have f6 := blk_free hb6
    have hK : Kept (fun _ => False) w w1 := ((((Kept.refl _ w).alloc _).alloc _)).trans hk
    go_wp2
    refine bodyPost_ret (v := .tuple #[.agg #[.int .i64 0, .int .u32 0, .string (strOfNums [])], .int .i64 0, .agg #[.int .i64 4, .int .i64 (l.length)]]) (by simp [results, Tryz.results49, go_sem, d0, d1, d2, e0, e1]) rfl ⟨by rw [HE.out]; rfl, ?_⟩
    exact ((((hK.setNew _ _ (Nat.le_refl _) _).setNew _ _ (Nat.le_refl _) _).setNew _ _ (Nat.le_refl _) _).setNew _ _ (Nat.le_succ _) _).setNew _ _ (Nat.le_succ _) _
  · have he1 : (strOfNums r).toList.isEmpty = false := by rw [S_empty]; cases r <;> simp_all
    have hpos : 0 < r.length := List.length_pos_iff.2 h0
    have hget : ∀ h, (((strOfNums r)[0]'h).toNat : Int) = r.getD 0 0 := S_get hrb 0
    have h66 : r.getD 0 0 = 66 := Classical.byContradiction fun h => h1 ⟨h0, h⟩
    simp only [h66] at hget
    clear h1 h0 h66
    have hf := failed_c (4) (l.length)
    unfold blkV failV at hf
    go_enter Tryz.func49, Tryz.ntmps49
    go_wp2_with (go_at_call 93; refine (hf _).mono ?_)
    rintro e w1 ⟨rfl, hk⟩
    have hb4 := hk.heap (blk_alloc (blk_new w _) _) id
    have hb6 := hk.heap (blk_new' (w.alloc _) _ (w.heap.size + 1) (by simp)) id
    have d0 := blk_cell hb4 0
    have d1 := blk_cell hb4 1
    have d2 := blk_cell hb4 2
    have e0 := blk_cell hb6 0
    have e1 := blk_cell hb6 1
    have f4 := blk_free hb4
    have f6 := blk_free hb6
    have hK : Kept (fun _ => False) w w1 := ((((Kept.refl _ w).alloc _).alloc _)).trans hk
    go_wp2
    refine bodyPost_ret (v := .tuple #[.agg #[.int .i64 0, .int .u32 0, .string (strOfNums [])], .int .i64 0, .agg #[.int .i64 4, .int .i64 (l.length)]]) (by simp [results, Tryz.results49, go_sem, d0, d1, d2, e0, e1]) rfl ⟨by rw [HE.out]; rfl, ?_⟩
    exact ((((hK.setNew _ _ (Nat.le_refl _) _).setNew _ _ (Nat.le_refl _) _).setNew _ _ (Nat.le_refl _) _).setNew _ _ (Nat.le_succ _) _).setNew _ _ (Nat.le_succ _) _

set_option maxRecDepth 100000 in
set_option maxHeartbeats 4000000 in
theorem read_count (l : List Int) (k : Nat) (w : World) (hl : Byt l) (hlen : l.length ≤ 1000000000) (hkl : k ≤ l.length) (h1 : ¬ (l.drop k ≠ [] ∧ (l.drop k).getD 0 0 ≠ 66)) (h13 : ¬ (l.drop k).length < 13) (hc : numOf ((l.drop k).drop 1) < 1 ∨ 65536 < numOf ((l.drop k).drop 1)) :
    Calls Tryz.prog 49 #[.string (strOfNums l), .int .i64 k] w (RdPost (rdBlk l k) w) := by
  obtain ⟨r, hr⟩ : ∃ r, r = l.drop k := ⟨_, rfl⟩
  rw [← hr] at h1 h13 hc
  have HE := Lib.hid (show rdBlk l k = ((0, 0, []), 0, 8, (k : Int) + 1) by unfold rdBlk; rw [if_neg (by omega), Int.toNat_natCast, ← hr]; simp only; rw [if_neg h1, if_neg h13, if_pos hc])
  have hsz := strOfNums_size l
  have hsr := strOfNums_size r
  have hrl : r.length = l.length - k := by rw [hr, List.length_drop]
  have hrb : Byt r := by rw [hr]; exact hl.drop k
  have hx : (strOfNums l).extract k l.length = strOfNums r := by rw [S_extract, List.take_length, hr]
  have HR := Lib.hid hr
  clear hr
  have he1 : (strOfNums r).toList.isEmpty = false := by rw [S_empty]; cases r with
    | nil => simp at h13
    | cons _ _ => rfl
  have hpos : 0 < r.length := by omega
  have hget : ∀ h, (((strOfNums r)[0]'h).toNat : Int) = r.getD 0 0 := S_get hrb 0
  have h66 : r.getD 0 0 = 66 := Classical.byContradiction fun h => h1 ⟨by intro e; rw [e] at hpos; simp at hpos, h⟩
  simp only [h66] at hget
  have hxr : ∀ i, (strOfNums r).extract i r.length = strOfNums (r.drop i) := fun i => by rw [S_extract, List.take_length]
  have h13' : 13 ≤ r.length := by omega
  have hb1 : Byt r.tail := by rw [← List.drop_one]; exact hrb.drop 1
  have hb5 : Byt (r.drop 5) := hrb.drop 5
  have hl1 : r.tail.length ≤ 1000000000 := by rw [List.length_tail]; omega
  have hl5 : (r.drop 5).length ≤ 1000000000 := by rw [List.length_drop]; omega
  have hnum1 := fun w => number_c r.tail w hb1 hl1
  have hnum5 := fun w => number_c (r.drop 5) w hb5 hl5
  have hn1 : 1 ≤ r.length := by omega
  have hn5 : 5 ≤ r.length := by omega
  have hn9 : 9 ≤ r.length := by omega
  have hi1 : (1 : Int) ≤ (r.length : Int) := by omega
  have hi5 : (5 : Int) ≤ (r.length : Int) := by omega
  have hi9 : (9 : Int) ≤ (r.length : Int) := by omega
  have hrl' : r.length ≤ 1000000000 := by omega
  have HRL := Lib.hid hrl
  clear hrl h1 h13 h66
  obtain ⟨c, hcd⟩ : ∃ c, c = numOf r.tail := ⟨_, rfl⟩
  rw [List.drop_one, ← hcd] at hc
  have hcr := numOf_rng hb1
  rw [← hcd] at hcr
  simp only [← hcd] at hnum1
  have HC := Lib.hid hcd; have HN1 := Lib.hid hnum1; have HN5 := Lib.hid hnum5
  clear hcd hnum1 hnum5
  rcases hc with hc | hc
  · have hf := failed_c (8) (k + 1)
    unfold blkV failV at hf
    go_enter Tryz.func49, Tryz.ntmps49
    go_wp2
    go_quiet ((first | (go_at_call 94; with_reducible exact Calls.quiet_of (HN1.out _)) | (go_at_call 94; with_reducible exact Calls.quiet_of (HN5.out _))))
    go_wp2_with (go_at_call 93; refine (hf _).mono ?_)
    rintro e w1 ⟨rfl, hk⟩
    have hb4 := hk.heap (blk_drewN (blk_alloc (blk_new w _) _) nq) id
    have hb6 := hk.heap (blk_drewN (blk_new' (w.alloc _) _ (w.heap.size + 1) (by simp)) nq) id
    have d0 := blk_cell hb4 0
    have d1 := blk_cell hb4 1
    have d2 := blk_cell hb4 2
    have e0 := blk_cell hb6 0
    have e1 := blk_cell hb6 1
    have f4 := blk_free hb4
    have f6 := blk_free hb6
    have hK : Kept (fun _ => False) w w1 := ((((Kept.refl _ w).alloc _).alloc _).drewN nq).trans hk
    go_wp2
    refine bodyPost_ret (v := .tuple #[.agg #[.int .i64 0, .int .u32 0, .string (strOfNums [])], .int .i64 0, .agg #[.int .i64 8, .int .i64 (k + 1)]]) (by simp [results, Tryz.results49, go_sem, d0, d1, d2, e0, e1]) rfl ⟨by rw [HE.out]; rfl, ?_⟩
    exact ((((hK.setNew _ _ (Nat.le_refl _) _).setNew _ _ (Nat.le_refl _) _).setNew _ _ (Nat.le_refl _) _).setNew _ _ (Nat.le_succ _) _).setNew _ _ (Nat.le_succ _) _
  · have hf := failed_c (8) (k + 1)
    unfold blkV failV at hf
    go_enter Tryz.func49, Tryz.ntmps49
    go_wp2
    go_quiet ((first | (go_at_call 94; with_reducible exact Calls.quiet_of (HN1.out _)) | (go_at_call 94; with_reducible exact Calls.quiet_of (HN5.out _))))
    go_wp2_with (go_at_call 93; refine (hf _).mono ?_)
    rintro e w1 ⟨rfl, hk⟩
    have hb4 := hk.heap (blk_drewN (blk_alloc (blk_new w _) _) nq) id
    have hb6 := hk.heap (blk_drewN (blk_new' (w.alloc _) _ (w.heap.size + 1) (by simp)) nq) id
    have d0 := blk_cell hb4 0
    have d1 := blk_cell hb4 1
    have d2 := blk_cell hb4 2
    have e0 := blk_cell hb6 0
    have e1 := blk_cell hb6 1
    have f4 := blk_free hb4
    have f6 := blk_free hb6
    have hK : Kept (fun _ => False) w w1 := ((((Kept.refl _ w).alloc _).alloc _).drewN nq).trans hk
    go_wp2
    refine bodyPost_ret (v := .tuple #[.agg #[.int .i64 0, .int .u32 0, .string (strOfNums [])], .int .i64 0, .agg #[.int .i64 8, .int .i64 (k + 1)]]) (by simp [results, Tryz.results49, go_sem, d0, d1, d2, e0, e1]) rfl ⟨by rw [HE.out]; rfl, ?_⟩
    exact ((((hK.setNew _ _ (Nat.le_refl _) _).setNew _ _ (Nat.le_refl _) _).setNew _ _ (Nat.le_refl _) _).setNew _ _ (Nat.le_succ _) _).setNew _ _ (Nat.le_succ _) _

set_option maxRecDepth 100000 in
set_option maxHeartbeats 4000000 in
theorem read_long (l : List Int) (k : Nat) (w : World) (hl : Byt l) (hlen : l.length ≤ 1000000000) (hkl : k ≤ l.length) (h1 : ¬ (l.drop k ≠ [] ∧ (l.drop k).getD 0 0 ≠ 66)) (h13 : ¬ (l.drop k).length < 13) (hc : ¬ (numOf ((l.drop k).drop 1) < 1 ∨ 65536 < numOf ((l.drop k).drop 1))) (hz : numOf ((l.drop k).drop 5) < 1 ∨ 1048576 < numOf ((l.drop k).drop 5)) :
    Calls Tryz.prog 49 #[.string (strOfNums l), .int .i64 k] w (RdPost (rdBlk l k) w) := by
  obtain ⟨r, hr⟩ : ∃ r, r = l.drop k := ⟨_, rfl⟩
  rw [← hr] at h1 h13 hc hz
  have HE := Lib.hid (show rdBlk l k = ((0, 0, []), 0, 5, (k : Int) + 5) by unfold rdBlk; rw [if_neg (by omega), Int.toNat_natCast, ← hr]; simp only; rw [if_neg h1, if_neg h13, if_neg hc, if_pos hz])
  have hsz := strOfNums_size l
  have hsr := strOfNums_size r
  have hrl : r.length = l.length - k := by rw [hr, List.length_drop]
  have hrb : Byt r := by rw [hr]; exact hl.drop k
  have hx : (strOfNums l).extract k l.length = strOfNums r := by rw [S_extract, List.take_length, hr]
  have HR := Lib.hid hr
  clear hr
  have he1 : (strOfNums r).toList.isEmpty = false := by rw [S_empty]; cases r with
    | nil => simp at h13
    | cons _ _ => rfl
  have hpos : 0 < r.length := by omega
  have hget : ∀ h, (((strOfNums r)[0]'h).toNat : Int) = r.getD 0 0 := S_get hrb 0
  have h66 : r.getD 0 0 = 66 := Classical.byContradiction fun h => h1 ⟨by intro e; rw [e] at hpos; simp at hpos, h⟩
  simp only [h66] at hget
  have hxr : ∀ i, (strOfNums r).extract i r.length = strOfNums (r.drop i) := fun i => by rw [S_extract, List.take_length]
  have h13' : 13 ≤ r.length := by omega
  have hb1 : Byt r.tail := by rw [← List.drop_one]; exact hrb.drop 1
  have hb5 : Byt (r.drop 5) := hrb.drop 5
  have hl1 : r.tail.length ≤ 1000000000 := by rw [List.length_tail]; omega
  have hl5 : (r.drop 5).length ≤ 1000000000 := by rw [List.length_drop]; omega
  have hnum1 := fun w => number_c r.tail w hb1 hl1
  have hnum5 := fun w => number_c (r.drop 5) w hb5 hl5
  have hn1 : 1 ≤ r.length := by omega
  have hn5 : 5 ≤ r.length := by omega
  have hn9 : 9 ≤ r.length := by omega
  have hi1 : (1 : Int) ≤ (r.length : Int) := by omega
  have hi5 : (5 : Int) ≤ (r.length : Int) := by omega
  have hi9 : (9 : Int) ≤ (r.length : Int) := by omega
  have hrl' : r.length ≤ 1000000000 := by omega
  have HRL := Lib.hid hrl
  clear hrl h1 h13 h66
  obtain ⟨c, hcd⟩ : ∃ c, c = numOf r.tail := ⟨_, rfl⟩
  rw [List.drop_one, ← hcd] at hc
  have hcr := numOf_rng hb1
  rw [← hcd] at hcr
  simp only [← hcd] at hnum1
  obtain ⟨z, hzd⟩ : ∃ z, z = numOf (r.drop 5) := ⟨_, rfl⟩
  rw [← hzd] at hz
  have hzr := numOf_rng hb5
  rw [← hzd] at hzr
  simp only [← hzd] at hnum5
  have HC := Lib.hid hcd; have HZ := Lib.hid hzd; have HN1 := Lib.hid hnum1; have HN5 := Lib.hid hnum5
  clear hcd hzd hnum1 hnum5
  have hc1 : 1 ≤ c := by omega
  have hc2 : c ≤ 65536 := by omega
  clear hc
  rcases hz with hz | hz
  · have hf := failed_c (5) (k + 5)
    unfold blkV failV at hf
    go_enter Tryz.func49, Tryz.ntmps49
    go_wp2
    go_quiet ((first | (go_at_call 94; with_reducible exact Calls.quiet_of (HN1.out _)) | (go_at_call 94; with_reducible exact Calls.quiet_of (HN5.out _))))
    go_wp2_with (go_at_call 93; refine (hf _).mono ?_)
    rintro e w1 ⟨rfl, hk⟩
    have hb4 := hk.heap (blk_drewN (blk_alloc (blk_new w _) _) nq) id
    have hb6 := hk.heap (blk_drewN (blk_new' (w.alloc _) _ (w.heap.size + 1) (by simp)) nq) id
    have d0 := blk_cell hb4 0
    have d1 := blk_cell hb4 1
    have d2 := blk_cell hb4 2
    have e0 := blk_cell hb6 0
    have e1 := blk_cell hb6 1
    have f4 := blk_free hb4
    have f6 := blk_free hb6
    have hK : Kept (fun _ => False) w w1 := ((((Kept.refl _ w).alloc _).alloc _).drewN nq).trans hk
    go_wp2
    refine bodyPost_ret (v := .tuple #[.agg #[.int .i64 0, .int .u32 0, .string (strOfNums [])], .int .i64 0, .agg #[.int .i64 5, .int .i64 (k + 5)]]) (by simp [results, Tryz.results49, go_sem, d0, d1, d2, e0, e1]) rfl ⟨by rw [HE.out]; rfl, ?_⟩
    exact ((((hK.setNew _ _ (Nat.le_refl _) _).setNew _ _ (Nat.le_refl _) _).setNew _ _ (Nat.le_refl _) _).setNew _ _ (Nat.le_succ _) _).setNew _ _ (Nat.le_succ _) _
  · have hf := failed_c (5) (k + 5)
    unfold blkV failV at hf
    go_enter Tryz.func49, Tryz.ntmps49
    go_wp2
    go_quiet ((first | (go_at_call 94; with_reducible exact Calls.quiet_of (HN1.out _)) | (go_at_call 94; with_reducible exact Calls.quiet_of (HN5.out _))))
    go_wp2_with (go_at_call 93; refine (hf _).mono ?_)
    rintro e w1 ⟨rfl, hk⟩
    have hb4 := hk.heap (blk_drewN (blk_alloc (blk_new w _) _) nq) id
    have hb6 := hk.heap (blk_drewN (blk_new' (w.alloc _) _ (w.heap.size + 1) (by simp)) nq) id
    have d0 := blk_cell hb4 0
    have d1 := blk_cell hb4 1
    have d2 := blk_cell hb4 2
    have e0 := blk_cell hb6 0
    have e1 := blk_cell hb6 1
    have f4 := blk_free hb4
    have f6 := blk_free hb6
    have hK : Kept (fun _ => False) w w1 := ((((Kept.refl _ w).alloc _).alloc _).drewN nq).trans hk
    go_wp2
    refine bodyPost_ret (v := .tuple #[.agg #[.int .i64 0, .int .u32 0, .string (strOfNums [])], .int .i64 0, .agg #[.int .i64 5, .int .i64 (k + 5)]]) (by simp [results, Tryz.results49, go_sem, d0, d1, d2, e0, e1]) rfl ⟨by rw [HE.out]; rfl, ?_⟩
    exact ((((hK.setNew _ _ (Nat.le_refl _) _).setNew _ _ (Nat.le_refl _) _).setNew _ _ (Nat.le_refl _) _).setNew _ _ (Nat.le_succ _) _).setNew _ _ (Nat.le_succ _) _

set_option maxRecDepth 100000 in
set_option maxHeartbeats 4000000 in
theorem read_cut2 (l : List Int) (k : Nat) (w : World) (hl : Byt l) (hlen : l.length ≤ 1000000000) (hkl : k ≤ l.length) (h1 : ¬ (l.drop k ≠ [] ∧ (l.drop k).getD 0 0 ≠ 66)) (h13 : ¬ (l.drop k).length < 13) (hc : ¬ (numOf ((l.drop k).drop 1) < 1 ∨ 65536 < numOf ((l.drop k).drop 1))) (hz : ¬ (numOf ((l.drop k).drop 5) < 1 ∨ 1048576 < numOf ((l.drop k).drop 5))) (hq : ((l.drop k).length : Int) - 13 < numOf ((l.drop k).drop 5)) :
    Calls Tryz.prog 49 #[.string (strOfNums l), .int .i64 k] w (RdPost (rdBlk l k) w) := by
  obtain ⟨r, hr⟩ : ∃ r, r = l.drop k := ⟨_, rfl⟩
  rw [← hr] at h1 h13 hc hz hq
  have HE := Lib.hid (show rdBlk l k = ((0, 0, []), 0, 4, (l.length : Int)) by unfold rdBlk; rw [if_neg (by omega), Int.toNat_natCast, ← hr]; simp only; rw [if_neg h1, if_neg h13, if_neg hc, if_neg hz, if_pos hq])
  have hsz := strOfNums_size l
  have hsr := strOfNums_size r
  have hrl : r.length = l.length - k := by rw [hr, List.length_drop]
  have hrb : Byt r := by rw [hr]; exact hl.drop k
  have hx : (strOfNums l).extract k l.length = strOfNums r := by rw [S_extract, List.take_length, hr]
  have HR := Lib.hid hr
  clear hr
  have he1 : (strOfNums r).toList.isEmpty = false := by rw [S_empty]; cases r with
    | nil => simp at h13
    | cons _ _ => rfl
  have hpos : 0 < r.length := by omega
  have hget : ∀ h, (((strOfNums r)[0]'h).toNat : Int) = r.getD 0 0 := S_get hrb 0
  have h66 : r.getD 0 0 = 66 := Classical.byContradiction fun h => h1 ⟨by intro e; rw [e] at hpos; simp at hpos, h⟩
  simp only [h66] at hget
  have hxr : ∀ i, (strOfNums r).extract i r.length = strOfNums (r.drop i) := fun i => by rw [S_extract, List.take_length]
  have h13' : 13 ≤ r.length := by omega
  have hb1 : Byt r.tail := by rw [← List.drop_one]; exact hrb.drop 1
  have hb5 : Byt (r.drop 5) := hrb.drop 5
  have hl1 : r.tail.length ≤ 1000000000 := by rw [List.length_tail]; omega
  have hl5 : (r.drop 5).length ≤ 1000000000 := by rw [List.length_drop]; omega
  have hnum1 := fun w => number_c r.tail w hb1 hl1
  have hnum5 := fun w => number_c (r.drop 5) w hb5 hl5
  have hn1 : 1 ≤ r.length := by omega
  have hn5 : 5 ≤ r.length := by omega
  have hn9 : 9 ≤ r.length := by omega
  have hi1 : (1 : Int) ≤ (r.length : Int) := by omega
  have hi5 : (5 : Int) ≤ (r.length : Int) := by omega
  have hi9 : (9 : Int) ≤ (r.length : Int) := by omega
  have hrl' : r.length ≤ 1000000000 := by omega
  have HRL := Lib.hid hrl
  clear hrl h1 h13 h66
  obtain ⟨c, hcd⟩ : ∃ c, c = numOf r.tail := ⟨_, rfl⟩
  rw [List.drop_one, ← hcd] at hc
  have hcr := numOf_rng hb1
  rw [← hcd] at hcr
  simp only [← hcd] at hnum1
  obtain ⟨z, hzd⟩ : ∃ z, z = numOf (r.drop 5) := ⟨_, rfl⟩
  rw [← hzd] at hz hq
  have hzr := numOf_rng hb5
  rw [← hzd] at hzr
  simp only [← hzd] at hnum5
  have HC := Lib.hid hcd; have HZ := Lib.hid hzd; have HN1 := Lib.hid hnum1; have HN5 := Lib.hid hnum5
  clear hcd hzd hnum1 hnum5
  have hc1 : 1 ≤ c := by omega
  have hc2 : c ≤ 65536 := by omega
  clear hc
  have hz1 : 1 ≤ z := by omega
  have hz2 : z ≤ 1048576 := by omega
  have hzw : IntKind.i64.wrap z = z := IntWalk.i64_in z (by omega)
  clear hz
  have hf := failed_c (4) (l.length)
  unfold blkV failV at hf
  go_enter Tryz.func49, Tryz.ntmps49
  go_wp2
  go_quiet ((first | (go_at_call 94; with_reducible exact Calls.quiet_of (HN1.out _)) | (go_at_call 94; with_reducible exact Calls.quiet_of (HN5.out _))))
  go_wp2_with (go_at_call 93; refine (hf _).mono ?_)
  rintro e w1 ⟨rfl, hk⟩
  have hb4 := hk.heap (blk_drewN (blk_alloc (blk_new w _) _) nq) id
  have hb6 := hk.heap (blk_drewN (blk_new' (w.alloc _) _ (w.heap.size + 1) (by simp)) nq) id
  have d0 := blk_cell hb4 0
  have d1 := blk_cell hb4 1
  have d2 := blk_cell hb4 2
  have e0 := blk_cell hb6 0
  have e1 := blk_cell hb6 1
  have f4 := blk_free hb4
  have f6 := blk_free hb6
  have hK : Kept (fun _ => False) w w1 := ((((Kept.refl _ w).alloc _).alloc _).drewN nq).trans hk
  go_wp2
  refine bodyPost_ret (v := .tuple #[.agg #[.int .i64 0, .int .u32 0, .string (strOfNums [])], .int .i64 0, .agg #[.int .i64 4, .int .i64 (l.length)]]) (by simp [results, Tryz.results49, go_sem, d0, d1, d2, e0, e1]) rfl ⟨by rw [HE.out]; rfl, ?_⟩
  exact ((((hK.setNew _ _ (Nat.le_refl _) _).setNew _ _ (Nat.le_refl _) _).setNew _ _ (Nat.le_refl _) _).setNew _ _ (Nat.le_succ _) _).setNew _ _ (Nat.le_succ _) _

set_option maxRecDepth 100000 in
set_option maxHeartbeats 4000000 in
theorem read_ok (l : List Int) (k : Nat) (w : World) (hl : Byt l) (hlen : l.length ≤ 1000000000) (hkl : k ≤ l.length) (h1 : ¬ (l.drop k ≠ [] ∧ (l.drop k).getD 0 0 ≠ 66)) (h13 : ¬ (l.drop k).length < 13) (hc : ¬ (numOf ((l.drop k).drop 1) < 1 ∨ 65536 < numOf ((l.drop k).drop 1))) (hz : ¬ (numOf ((l.drop k).drop 5) < 1 ∨ 1048576 < numOf ((l.drop k).drop 5))) (hq : ¬ ((l.drop k).length : Int) - 13 < numOf ((l.drop k).drop 5)) :
    Calls Tryz.prog 49 #[.string (strOfNums l), .int .i64 k] w (RdPost (rdBlk l k) w) := by
  obtain ⟨r, hr⟩ : ∃ r, r = l.drop k := ⟨_, rfl⟩
  rw [← hr] at h1 h13 hc hz hq
  have HE := Lib.hid (show rdBlk l k = ((numOf (r.drop 1), numOf (r.drop 9), (r.take (13 + (numOf (r.drop 5)).toNat)).drop 13), (k : Int) + (13 + numOf (r.drop 5)), 0, 0) by unfold rdBlk; rw [if_neg (by omega), Int.toNat_natCast, ← hr]; simp only; rw [if_neg h1, if_neg h13, if_neg hc, if_neg hz, if_neg hq])
  have hsz := strOfNums_size l
  have hsr := strOfNums_size r
  have hrl : r.length = l.length - k := by rw [hr, List.length_drop]
  have hrb : Byt r := by rw [hr]; exact hl.drop k
  have hx : (strOfNums l).extract k l.length = strOfNums r := by rw [S_extract, List.take_length, hr]
  have HR := Lib.hid hr
  clear hr
  have he1 : (strOfNums r).toList.isEmpty = false := by rw [S_empty]; cases r with
    | nil => simp at h13
    | cons _ _ => rfl
  have hpos : 0 < r.length := by omega
  have hget : ∀ h, (((strOfNums r)[0]'h).toNat : Int) = r.getD 0 0 := S_get hrb 0
  have h66 : r.getD 0 0 = 66 := Classical.byContradiction fun h => h1 ⟨by intro e; rw [e] at hpos; simp at hpos, h⟩
  simp only [h66] at hget
  have hxr : ∀ i, (strOfNums r).extract i r.length = strOfNums (r.drop i) := fun i => by rw [S_extract, List.take_length]
  have h13' : 13 ≤ r.length := by omega
  have hb1 : Byt r.tail := by rw [← List.drop_one]; exact hrb.drop 1
  have hb5 : Byt (r.drop 5) := hrb.drop 5
  have hl1 : r.tail.length ≤ 1000000000 := by rw [List.length_tail]; omega
  have hl5 : (r.drop 5).length ≤ 1000000000 := by rw [List.length_drop]; omega
  have hnum1 := fun w => number_c r.tail w hb1 hl1
  have hnum5 := fun w => number_c (r.drop 5) w hb5 hl5
  have hn1 : 1 ≤ r.length := by omega
  have hn5 : 5 ≤ r.length := by omega
  have hn9 : 9 ≤ r.length := by omega
  have hi1 : (1 : Int) ≤ (r.length : Int) := by omega
  have hi5 : (5 : Int) ≤ (r.length : Int) := by omega
  have hi9 : (9 : Int) ≤ (r.length : Int) := by omega
  have hrl' : r.length ≤ 1000000000 := by omega
  have HRL := Lib.hid hrl
  clear hrl h1 h13 h66
  obtain ⟨c, hcd⟩ : ∃ c, c = numOf r.tail := ⟨_, rfl⟩
  rw [List.drop_one, ← hcd] at hc
  have hcr := numOf_rng hb1
  rw [← hcd] at hcr
  simp only [← hcd] at hnum1
  obtain ⟨z, hzd⟩ : ∃ z, z = numOf (r.drop 5) := ⟨_, rfl⟩
  rw [← hzd] at hz hq
  have hzr := numOf_rng hb5
  rw [← hzd] at hzr
  simp only [← hzd] at hnum5
  simp only [List.drop_one] at HE
  have HC := Lib.hid hcd; have HZ := Lib.hid hzd; have HN1 := Lib.hid hnum1; have HN5 := Lib.hid hnum5
  clear hcd hzd hnum1 hnum5
  have hc1 : 1 ≤ c := by omega
  have hc2 : c ≤ 65536 := by omega
  clear hc
  have hz1 : 1 ≤ z := by omega
  have hz2 : z ≤ 1048576 := by omega
  have hzw : IntKind.i64.wrap z = z := IntWalk.i64_in z (by omega)
  clear hz
  have hb9 := hrb.drop 9
  have hl9 : (r.drop 9).length ≤ 1000000000 := by rw [List.length_drop]; omega
  have hnum9 := fun w => number_c (r.drop 9) w hb9 hl9
  have HN9 := Lib.hid hnum9
  clear hnum9
  go_enter Tryz.func49, Tryz.ntmps49
  go_wp2
  go_quiet ((first | (go_at_call 94; with_reducible exact Calls.quiet_of (HN1.out _)) | (go_at_call 94; with_reducible exact Calls.quiet_of (HN5.out _))))
  go_wp2
  have hxz : (strOfNums r).extract 13 (13 + z).toNat = strOfNums ((r.take (13 + z.toNat)).drop 13) := by rw [S_extract, show (13 + z).toNat = 13 + z.toNat by omega]
  have hcw : IntKind.i64.wrap c = c := IntWalk.i64_in c (by omega)
  have hzz : 0 ≤ 13 + z := by omega
  have hzk : IntKind.i64.wrap ((k : Int) + (13 + z)) = (k : Int) + (13 + z) := IntWalk.i64_in _ (by omega)
  have hzl : (13 + z : Int) ≤ (r.length : Int) := by omega
  have hz13 : (13 : Int) ≤ 13 + z := by omega
  go_region_with ((first | (go_at_call 94; refine (HN9.out _).mono ?_; rintro e w' ⟨rfl, m, rfl⟩)))
  go_wp2
  refine bodyPost_ret (v := .tuple #[.agg #[.int .i64 c, .int .u32 (numOf (r.drop 9)), .string (strOfNums ((r.take (13 + z.toNat)).drop 13))], .int .i64 ((k : Int) + (13 + z)), .agg #[.int .i64 0, .int .i64 0]]) (by simp [results, Tryz.results49, go_sem]) rfl ⟨by rw [HE.out, ← HC.out, ← HZ.out]; rfl, ?_⟩
  exact ((((((((Kept.refl _ w).alloc _).alloc _).drewN _).setNew _ _ (Nat.le_refl _) _).setNew _ _ (Nat.le_refl _) _).setNew _ _ (Nat.le_refl _) _).setNew _ _ (Nat.le_succ _) _).setNew _ _ (Nat.le_succ _) _
theorem read_c (l : List Int) (a : Int) (w : World) (hl : Byt l) (hlen : l.length ≤ 1000000000) :
    Calls Tryz.prog 49 #[.string (strOfNums l), .int .i64 a] w (RdPost (rdBlk l a) w) := by
  by_cases h : a < 0 ∨ (l.length : Int) < a
  · exact read_arg l a w h
  · obtain ⟨k, rfl⟩ := Int.eq_ofNat_of_zero_le (show 0 ≤ a by omega)
    have hk : k ≤ l.length := by omega
    by_cases h1 : l.drop k ≠ [] ∧ (l.drop k).getD 0 0 ≠ 66
    · exact read_magic l k w hl hlen hk h1.1 h1.2
    by_cases h13 : (l.drop k).length < 13
    · exact read_cut l k w hl hlen hk h1 h13
    by_cases hc : numOf ((l.drop k).drop 1) < 1 ∨ 65536 < numOf ((l.drop k).drop 1)
    · exact read_count l k w hl hlen hk h1 h13 hc
    by_cases hz : numOf ((l.drop k).drop 5) < 1 ∨ 1048576 < numOf ((l.drop k).drop 5)
    · exact read_long l k w hl hlen hk h1 h13 hc hz
    by_cases hq : ((l.drop k).length : Int) - 13 < numOf ((l.drop k).drop 5)
    · exact read_cut2 l k w hl hlen hk h1 h13 hc hz hq
    · exact read_ok l k w hl hlen hk h1 h13 hc hz hq
end Go.Proofs.YthdcfmconpgflaaGreat
