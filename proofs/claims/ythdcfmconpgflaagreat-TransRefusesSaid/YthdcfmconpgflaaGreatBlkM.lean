/- codec.Name; block.Make and block.Open, whatever the codec. -/
import Derived.Test.YthdcfmconpgflaaGreatBlk
import Derived.Test.YthdcfmconpgflaaGreatRef01
set_option linter.unusedVariables false
set_option linter.unusedSimpArgs false
namespace Go.Proofs.YthdcfmconpgflaaGreat
open Go.RowKit

/-- The codecs' names. -/
def nameOf (c : Int) : List Int :=
  if c = 1 then [117, 116, 102, 45, 56] else if c = 2 then [117, 116, 102, 45, 49, 54, 98, 101] else if c = 3 then [117, 116, 102, 45, 49, 54, 108, 101]
  else if c = 4 then [117, 116, 102, 45, 51, 50, 98, 101] else if c = 5 then [117, 116, 102, 45, 51, 50, 108, 101] else if c = 6 then [117, 116, 102, 45, 101, 98, 99, 100, 105, 99]
  else if c = 7 then [112, 117, 110, 121, 99, 111, 100, 101] else if c = 8 then [98, 111, 99, 117, 45, 49] else if c = 9 then [115, 99, 115, 117]
  else if c = 10 then [115, 99, 115, 117, 45, 112, 108, 97, 105, 110] else []
set_option maxRecDepth 100000 in
set_option maxHeartbeats 4000000 in
theorem name_c (c : Int) (w : World) :
    Calls Tryz.prog 55 #[.int .i64 c] w fun e w' => e = .returned (.string (strOfNums (nameOf c))) ∧ Kept (fun _ => False) w w' := by
  by_cases h1 : c < 1
  · have HE := Lib.hid (show nameOf c = [] by unfold nameOf; (repeat rw [if_neg (by omega)]))
    go_enter Tryz.func55, Tryz.ntmps55
    go_wp2
    go_ret
    exact ⟨by rw [HE.out]; rfl, (Kept.refl _ w).alloc _⟩
  by_cases h2 : 10 < c
  · have HE := Lib.hid (show nameOf c = [] by unfold nameOf; (repeat rw [if_neg (by omega)]))
    go_enter Tryz.func55, Tryz.ntmps55
    go_wp2
    go_ret
    exact ⟨by rw [HE.out]; rfl, (Kept.refl _ w).alloc _⟩
  have hc : c = 1 ∨ c = 2 ∨ c = 3 ∨ c = 4 ∨ c = 5 ∨ c = 6 ∨ c = 7 ∨ c = 8 ∨ c = 9 ∨ c = 10 := by omega
  rcases hc with rfl | rfl | rfl | rfl | rfl | rfl | rfl | rfl | rfl | rfl
  all_goals
    go_enter Tryz.func55, Tryz.ntmps55
    go_wp2
    go_ret
    exact ⟨rfl, (Kept.refl _ w).alloc _⟩

/-- What Encode comes to, of a codec and some numbers. -/
def EncC (c : Int) (l : List Int) (R : List Int × Int × Int) : Prop :=
  ∀ w v, Rd w .u32 v l → Calls Tryz.prog 25 #[.int .i64 c, v] w fun e w' => e = .returned (.tuple #[.string (strOfNums R.1), failV R.2.1 R.2.2]) ∧ Kept (fun _ => False) w w'
/-- What Decode comes to. -/
def DecC (c : Int) (t : List Int) (R : List Int × Int × Int) : Prop :=
  ∀ w, Calls Tryz.prog 26 #[.int .i64 c, .string (strOfNums t)] w fun e w' => ∃ v, e = .returned (.tuple #[v, failV R.2.1 R.2.2]) ∧ Row w' w.heap.size 47 .u32 v R.1 ∧ Kept (fun _ => False) w w'
def mkBlk (l : List Int) (R : List Int × Int × Int) : (Int × Int × List Int) × Int × Int :=
  if l.length < 1 ∨ 65536 < l.length then ((0, 0, []), 8, 0)
  else if R.2.1 ≠ 0 then ((0, 0, []), R.2.1, R.2.2)
  else if 1048576 < R.1.length then ((0, 0, []), 5, 0)
  else ((l.length, crcOf R.1, R.1), 0, 0)
def MkPost (r : (Int × Int × List Int) × Int × Int) (w : World) (e : Ending) (w' : World) : Prop := e = .returned (.tuple #[blkV r.1.1 r.1.2.1 r.1.2.2, failV r.2.1 r.2.2]) ∧ Kept (fun _ => False) w w'

set_option maxRecDepth 100000 in
set_option maxHeartbeats 4000000 in
theorem make_count (c : Int) (l : List Int) (R : List Int × Int × Int) (w : World) (v : Value) (hv : Rd w .u32 v l) (hl : l.length ≤ 1000000000) (h : l.length < 1 ∨ 65536 < l.length) :
    Calls Tryz.prog 44 #[.int .i64 c, v] w (MkPost (mkBlk l R) w) := by
  have HE := Lib.hid (show mkBlk l R = ((0, 0, []), 8, 0) by unfold mkBlk; rw [if_pos h])
  obtain ⟨A, cp, rfl, -⟩ := hv
  rcases h with h | h
  · go_enter Tryz.func44, Tryz.ntmps44
    go_wp2
    refine bodyPost_ret (v := .tuple #[.agg #[.int .i64 0, .int .u32 0, .string (strOfNums [])], .agg #[.int .i64 8, .int .i64 0]]) (by simp [results, Tryz.results44, go_sem]; try rfl) rfl ⟨by rw [HE.out]; rfl, ?_⟩
    repeat (first | with_reducible exact Kept.refl _ _ | with_reducible refine Kept.drewN ?_ _ | with_reducible refine Kept.drew ?_ | with_reducible refine Kept.setNew ?_ _ _ (by simp) _ | with_reducible refine Kept.alloc ?_ _)
  · go_enter Tryz.func44, Tryz.ntmps44
    go_wp2
    refine bodyPost_ret (v := .tuple #[.agg #[.int .i64 0, .int .u32 0, .string (strOfNums [])], .agg #[.int .i64 8, .int .i64 0]]) (by simp [results, Tryz.results44, go_sem]; try rfl) rfl ⟨by rw [HE.out]; rfl, ?_⟩
    repeat (first | with_reducible exact Kept.refl _ _ | with_reducible refine Kept.drewN ?_ _ | with_reducible refine Kept.drew ?_ | with_reducible refine Kept.setNew ?_ _ _ (by simp) _ | with_reducible refine Kept.alloc ?_ _)
set_option maxRecDepth 100000 in
set_option maxHeartbeats 4000000 in
theorem make_fail (c : Int) (l : List Int) (R : List Int × Int × Int) (hE : EncC c l R) (w : World) (v : Value) (hv : Rd w .u32 v l) (hl : 1 ≤ l.length ∧ l.length ≤ 65536) (h : R.2.1 ≠ 0) :
    Calls Tryz.prog 44 #[.int .i64 c, v] w (MkPost (mkBlk l R) w) := by
  have HE := Lib.hid (show mkBlk l R = ((0, 0, []), R.2.1, R.2.2) by unfold mkBlk; rw [if_neg (by omega), if_pos h])
  have hv0 := hv
  obtain ⟨A, cp, rfl, -⟩ := hv
  obtain ⟨s, x, y⟩ := R
  have hE' := fun w => hE w (.slice A l.length cp)
  unfold failV at hE'
  simp only at h hE'
  have hx : (x != 0) = true := by simpa using h
  have HEE := Lib.hid hE'
  clear hE hE' h
  obtain ⟨h1, h2⟩ := hl
  go_enter Tryz.func44, Tryz.ntmps44
  go_wp2_with fail
  refine (HEE.out _ ?_).mono ?_
  · exact hv0.kept (S := fun _ => False) (((Kept.refl _ w).alloc _).alloc _) (fun _ _ _ => id)
  rintro e w1 ⟨rfl, hk⟩
  have hb4 := hk.heap (blk_alloc (blk_new w _) _) id
  have hb5 := hk.heap (blk_new' (w.alloc _) _ (w.heap.size + 1) (by simp)) id
  have hK : Kept (fun _ => False) w w1 := (((Kept.refl _ w).alloc _).alloc _).trans hk
  have hsz5 : w.heap.size + 1 < w1.heap.size := blk_lt hb5
  have hsz4 : w.heap.size < w1.heap.size := blk_lt hb4
  have d0 : w1.cell? ⟨w.heap.size, 0, none⟩ = some (.int .i64 0) := blk_cell hb4 0
  have d1 : w1.cell? ⟨w.heap.size, 1, none⟩ = some (.int .u32 0) := blk_cell hb4 1
  have d2 : w1.cell? ⟨w.heap.size, 2, none⟩ = some (.string ⟨#[]⟩) := blk_cell hb4 2
  have e0 : w1.cell? ⟨w.heap.size + 1, 0, none⟩ = some (.int .i64 0) := blk_cell hb5 0
  have e1 : w1.cell? ⟨w.heap.size + 1, 1, none⟩ = some (.int .i64 0) := blk_cell hb5 1
  have f4 := blk_free hb4
  have f5 := blk_free hb5
  go_wp2
  go_region
  all_goals
    go_wp2
    refine bodyPost_ret (v := .tuple #[.agg #[.int .i64 0, .int .u32 0, .string (strOfNums [])], .agg #[.int .i64 x, .int .i64 y]]) (by simp [results, Tryz.results44, go_sem, d0, d1, d2, e0, e1, hsz4, hsz5]; try rfl) rfl ⟨by rw [HE.out]; rfl, ?_⟩
    repeat (first | with_reducible exact Kept.refl _ _ | with_reducible exact hK | with_reducible refine Kept.drewN ?_ _ | with_reducible refine Kept.drew ?_ | with_reducible refine Kept.setNew ?_ _ _ (by simp) _ | with_reducible refine Kept.alloc ?_ _)
set_option maxRecDepth 100000 in
set_option maxHeartbeats 4000000 in
theorem make_ok (c : Int) (l : List Int) (R : List Int × Int × Int) (hE : EncC c l R) (w : World) (v : Value) (hv : Rd w .u32 v l) (hl : 1 ≤ l.length ∧ l.length ≤ 65536) (h : R.2.1 = 0) (hby : Byt R.1) (hlen : R.1.length ≤ 1000000000) :
    Calls Tryz.prog 44 #[.int .i64 c, v] w (MkPost (mkBlk l R) w) := by
  have HE := Lib.hid (show mkBlk l R = if 1048576 < R.1.length then ((0, 0, []), 5, 0) else (((l.length : Int), (crcOf R.1 : Int), R.1), 0, 0) by unfold mkBlk; rw [if_neg (by omega), if_neg (by simp [h])])
  have hv0 := hv
  obtain ⟨A, cp, rfl, -⟩ := hv
  obtain ⟨s, x, y⟩ := R
  have hE' := fun w => hE w (.slice A l.length cp)
  unfold failV at hE'
  simp only at h hE' hby hlen HE
  subst h
  have HEE := Lib.hid hE'
  clear hE hE'
  have hsz := strOfNums_size s
  obtain ⟨h1, h2⟩ := hl
  go_enter Tryz.func44, Tryz.ntmps44
  go_wp2_with fail
  refine (HEE.out _ ?_).mono ?_
  · exact hv0.kept (S := fun _ => False) (((Kept.refl _ w).alloc _).alloc _) (fun _ _ _ => id)
  rintro e w1 ⟨rfl, hk⟩
  have hb4 := hk.heap (blk_alloc (blk_new w _) _) id
  have hb5 := hk.heap (blk_new' (w.alloc _) _ (w.heap.size + 1) (by simp)) id
  have hK : Kept (fun _ => False) w w1 := (((Kept.refl _ w).alloc _).alloc _).trans hk
  have hsz5 : w.heap.size + 1 < w1.heap.size := blk_lt hb5
  have hsz4 : w.heap.size < w1.heap.size := blk_lt hb4
  have d0 : w1.cell? ⟨w.heap.size, 0, none⟩ = some (.int .i64 0) := blk_cell hb4 0
  have d1 : w1.cell? ⟨w.heap.size, 1, none⟩ = some (.int .u32 0) := blk_cell hb4 1
  have d2 : w1.cell? ⟨w.heap.size, 2, none⟩ = some (.string ⟨#[]⟩) := blk_cell hb4 2
  have e0 : w1.cell? ⟨w.heap.size + 1, 0, none⟩ = some (.int .i64 0) := blk_cell hb5 0
  have e1 : w1.cell? ⟨w.heap.size + 1, 1, none⟩ = some (.int .i64 0) := blk_cell hb5 1
  have f4 := blk_free hb4
  have f5 := blk_free hb5
  by_cases hlong : 1048576 < s.length
  · rw [if_pos hlong] at HE
    go_wp2_with fail
    refine bodyPost_ret (v := .tuple #[.agg #[.int .i64 0, .int .u32 0, .string (strOfNums [])], .agg #[.int .i64 5, .int .i64 0]]) (by simp [results, Tryz.results44, go_sem, d0, d1, d2, e0, e1, hsz4, hsz5]; try rfl) rfl ⟨by rw [HE.out]; rfl, ?_⟩
    repeat (first | with_reducible exact Kept.refl _ _ | with_reducible exact hK | with_reducible refine Kept.drewN ?_ _ | with_reducible refine Kept.drew ?_ | with_reducible refine Kept.setNew ?_ _ _ (by simp) _ | with_reducible refine Kept.alloc ?_ _)
  · rw [if_neg hlong] at HE
    go_wp2_with fail
    refine (of_c (w1.heap.size + 1) 0 1 s _ (by simp [go_sem]) hby hlen).mono ?_
    rintro e w2 ⟨rfl, hk2⟩
    clear d0 d1 d2 e0 e1 f4 f5
    have hb4 := hk2.heap (blk_alloc (blk_alloc hb4 _) _) id
    have hb5 := hk2.heap (blk_alloc (blk_alloc hb5 _) _) id
    have hK : Kept (fun _ => False) w w2 := ((hK.alloc _).alloc _).trans hk2
    have hsz5 : w.heap.size + 1 < w2.heap.size := blk_lt hb5
    have hsz4 : w.heap.size < w2.heap.size := blk_lt hb4
    have d0 : w2.cell? ⟨w.heap.size, 0, none⟩ = some (.int .i64 0) := blk_cell hb4 0
    have d1 : w2.cell? ⟨w.heap.size, 1, none⟩ = some (.int .u32 0) := blk_cell hb4 1
    have d2 : w2.cell? ⟨w.heap.size, 2, none⟩ = some (.string ⟨#[]⟩) := blk_cell hb4 2
    have e0 : w2.cell? ⟨w.heap.size + 1, 0, none⟩ = some (.int .i64 0) := blk_cell hb5 0
    have e1 : w2.cell? ⟨w.heap.size + 1, 1, none⟩ = some (.int .i64 0) := blk_cell hb5 1
    have f4 := blk_free hb4
    have f5 := blk_free hb5
    go_wp2
    refine bodyPost_ret (v := .tuple #[.agg #[.int .i64 l.length, .int .u32 (crcOf s), .string (strOfNums s)], .agg #[.int .i64 0, .int .i64 0]]) (by simp [results, Tryz.results44, go_sem, d0, d1, d2, e0, e1, hsz4, hsz5]; try rfl) rfl ⟨by rw [HE.out]; rfl, ?_⟩
    repeat (first | with_reducible exact Kept.refl _ _ | with_reducible exact hK | with_reducible refine Kept.drewN ?_ _ | with_reducible refine Kept.drew ?_ | with_reducible refine Kept.setNew ?_ _ _ (by simp) _ | with_reducible refine Kept.alloc ?_ _)
theorem make_c (c : Int) (l : List Int) (R : List Int × Int × Int) (hE : EncC c l R) (w : World) (v : Value) (hv : Rd w .u32 v l) (hl : l.length ≤ 1000000000) (hby : Byt R.1) (hlen : R.1.length ≤ 1000000000) :
    Calls Tryz.prog 44 #[.int .i64 c, v] w (MkPost (mkBlk l R) w) := by
  by_cases h : l.length < 1 ∨ 65536 < l.length
  · exact make_count c l R w v hv hl h
  · by_cases hx : R.2.1 = 0
    · exact make_ok c l R hE w v hv (by omega) hx hby hlen
    · exact make_fail c l R hE w v hv (by omega) hx

/-- What Open makes of a block, where its text reads as R. -/
def opBlk (c n s : Int) (p : List Int) (R : List Int × Int × Int) : List Int × Int × Int :=
  if rightOf n p ≠ 0 then ([], rightOf n p, 0)
  else if nameOf c = [] then ([], 11, 0)
  else if (crcOf p : Int) ≠ s then ([], 6, 0)
  else if R.2.1 ≠ 0 then ([], R.2.1, R.2.2)
  else if (R.1.length : Int) ≠ n then ([], 8, R.1.length)
  else (R.1, 0, 0)
def OpPost (r : List Int × Int × Int) (w : World) (e : Ending) (w' : World) : Prop := ∃ v, e = .returned (.tuple #[v, failV r.2.1 r.2.2]) ∧ Rd w' .u32 v r.1 ∧ (∀ b, v.ownBlock = some b → w.heap.size ≤ b) ∧ Kept (fun _ => False) w w'
end Go.Proofs.YthdcfmconpgflaaGreat
