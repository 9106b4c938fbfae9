/- trans.New; trans.Text, whatever the codecs. -/
import Derived.Test.YthdcfmconpgflaaGreatNew
import Derived.Test.YthdcfmconpgflaaGreatBlkM
set_option linter.unusedVariables false
set_option linter.unusedSimpArgs false
namespace Go.Proofs.YthdcfmconpgflaaGreat
open Go.RowKit

theorem pipe_bad1 (c1 c2 size : Int) (w : World) (h : c1 < 1 ∨ 10 < c1) :
    Calls Tryz.prog 39 #[.int .i64 c1, .int .i64 c2, .int .i64 size] w fun e w' => e = .returned (.tuple #[.pointer none, .int .i64 11]) ∧ Kept (fun _ => False) w w' := by
  have hn := noNewDecoder c1 h w
  clear h
  go_enter Tryz.func39, Tryz.ntmps39
  go_wp2_with (go_at_call 24; refine hn.mono ?_; rintro e w' ⟨rfl, rfl⟩)
  go_ret2
  exact ⟨rfl, Kept.refl _ _⟩
theorem pipe_bad2 (c1 c2 size : Int) (w : World) (T : TypeId) (P : Nat → World → Prop) (hm : Made 24 c1 T P) (h : c2 < 1 ∨ 10 < c2) :
    Calls Tryz.prog 39 #[.int .i64 c1, .int .i64 c2, .int .i64 size] w fun e w' => e = .returned (.tuple #[.pointer none, .int .i64 11]) ∧ Kept (fun _ => False) w w' := by
  have hn := fun w => noNewEncoder c2 h w
  have HN := Lib.hid hn
  have hd := hm w
  clear h hn hm
  go_enter Tryz.func39, Tryz.ntmps39
  go_wp2_with fail
  refine hd.mono ?_
  rintro e w1 ⟨g, rfl, hP, hg, hk⟩
  clear hd
  go_wp2_with fail
  refine (HN.out _).mono ?_
  rintro e w2 ⟨rfl, rfl⟩
  go_wp2
  go_ret2
  exact ⟨rfl, hk⟩
theorem pipe_size (c1 c2 size : Int) (w : World) (T T2 : TypeId) (P P2 : Nat → World → Prop) (hm : Made 24 c1 T P) (hm2 : Made 23 c2 T2 P2) (h : size < 1 ∨ 65536 < size) :
    Calls Tryz.prog 39 #[.int .i64 c1, .int .i64 c2, .int .i64 size] w fun e w' => e = .returned (.tuple #[.pointer none, .int .i64 1]) ∧ Kept (fun _ => False) w w' := by
  have hd := hm w
  have HE := Lib.hid hm2
  clear hm hm2
  rcases h with h | h
  all_goals
    go_enter Tryz.func39, Tryz.ntmps39
    go_wp2_with fail
    refine hd.mono ?_
    rintro e w1 ⟨g, rfl, hP, hg, hk⟩
    clear hd
    go_wp2_with fail
    refine (HE.out _).mono ?_
    rintro e w2 ⟨g2, rfl, hP2, hg2, hk2⟩
    go_wp2
    go_ret2
    exact ⟨rfl, hk.trans hk2⟩
theorem pipe_new (c1 c2 size : Int) (w : World) (T T2 : TypeId) (P P2 : Nat → World → Prop) (hm : Made 24 c1 T P) (hm2 : Made 23 c2 T2 P2)
    (mono : ∀ g w w', P g w → Kept (fun _ => False) w w' → P g w') (mono2 : ∀ g w w', P2 g w → Kept (fun _ => False) w w' → P2 g w') (h1 : 1 ≤ size) (h2 : size ≤ 65536) :
    Calls Tryz.prog 39 #[.int .i64 c1, .int .i64 c2, .int .i64 size] w fun e w' => ∃ g g1 g2, e = .returned (.tuple #[.pointer (some ⟨g, 0, none⟩), .int .i64 0]) ∧
      w'.heap[g]? = some (.cells #[.iface T (.pointer (some ⟨g1, 0, none⟩)), .iface T2 (.pointer (some ⟨g2, 0, none⟩)), .int .i64 size, .slice none 0 0] 151 (0, 0)) ∧ P g1 w' ∧ P2 g2 w' ∧ Kept (fun _ => False) w w' := by
  have hd := hm w
  have HE := Lib.hid hm2
  have HM := Lib.hid mono; have HM2 := Lib.hid mono2
  clear hm hm2 mono mono2
  go_enter Tryz.func39, Tryz.ntmps39
  go_wp2_with fail
  refine hd.mono ?_
  rintro e w1 ⟨g, rfl, hP, hg, hk⟩
  clear hd
  go_wp2_with fail
  refine (HE.out _).mono ?_
  rintro e w2 ⟨g2, rfl, hP2, hg2, hk2⟩
  go_wp2
  go_ret2
  exact ⟨_, g, g2, rfl, blk_new _ _, HM.out _ _ _ hP (hk2.alloc _), HM2.out _ _ _ hP2 ((Kept.refl _ _).alloc _), (hk.trans hk2).alloc _⟩

def txV (R : List Int) (f : Int × Int) : Value := .tuple #[.string (strOfNums R), failV f.1 f.2]
set_option maxRecDepth 100000 in
set_option maxHeartbeats 4000000 in
theorem text_no (c1 c2 : Int) (t : List Int) (w : World) (h : nameOf c1 = [] ∨ nameOf c2 = []) :
    Calls Tryz.prog 37 #[.int .i64 c1, .int .i64 c2, .string (strOfNums t)] w fun e w' => e = .returned (txV [] (11, 0)) ∧ Kept (fun _ => False) w w' := by
  have hn1 := fun w => name_c c1 w
  have hn2 := fun w => name_c c2 w
  have he0 : (strOfNums []).toList.isEmpty = true := by rw [S_empty]; rfl
  obtain ⟨n1, e1⟩ : ∃ n, n = nameOf c1 := ⟨_, rfl⟩
  obtain ⟨n2, e2⟩ : ∃ n, n = nameOf c2 := ⟨_, rfl⟩
  rw [← e1, ← e2] at h
  simp only [← e1] at hn1
  simp only [← e2] at hn2
  have HN1 := Lib.hid hn1; have HN2 := Lib.hid hn2
  clear hn1 hn2 e1 e2
  by_cases h1 : n1 = []
  · subst h1
    clear h
    go_enter Tryz.func37, Tryz.ntmps37
    go_wp2_with fail
    refine (HN1.out _).mono ?_
    rintro e w1 ⟨rfl, hk⟩
    have hb7 := hk.heap (blk_new w _) id
    have d0 := blk_cell hb7 0
    have d1 := blk_cell hb7 1
    have f7 := blk_free hb7
    go_wp2
    refine bodyPost_ret (v := .tuple #[.string (strOfNums []), .agg #[.int .i64 11, .int .i64 0]]) (by simp [results, Tryz.results37, go_sem, d0, d1]; try rfl) rfl ⟨rfl, ?_⟩
    exact ((((Kept.refl _ w).alloc _).trans hk).setNew _ _ (Nat.le_refl _) _).setNew _ _ (Nat.le_refl _) _
  · have h2 : n2 = [] := h.resolve_left h1
    subst h2
    have he1 : (strOfNums n1).toList.isEmpty = false := by rw [S_empty]; cases n1 <;> simp_all
    clear h h1
    go_enter Tryz.func37, Tryz.ntmps37
    go_wp2_with fail
    refine (HN1.out _).mono ?_
    rintro e w1 ⟨rfl, hk⟩
    go_wp2_with fail
    refine (HN2.out _).mono ?_
    rintro e w2 ⟨rfl, hk2⟩
    have hk := hk.trans hk2
    have hb7 := hk.heap (blk_new w _) id
    have d0 := blk_cell hb7 0
    have d1 := blk_cell hb7 1
    have f7 := blk_free hb7
    go_wp2
    refine bodyPost_ret (v := .tuple #[.string (strOfNums []), .agg #[.int .i64 11, .int .i64 0]]) (by simp [results, Tryz.results37, go_sem, d0, d1]; try rfl) rfl ⟨rfl, ?_⟩
    exact ((((Kept.refl _ w).alloc _).trans hk).setNew _ _ (Nat.le_refl _) _).setNew _ _ (Nat.le_refl _) _
set_option maxRecDepth 100000 in
set_option maxHeartbeats 4000000 in
theorem text_c (c1 c2 : Int) (t : List Int) (R1 R2 : List Int × Int × Int) (hD : DecC c1 t R1) (hE : EncC c2 R1.1 R2) (w : World) (h1 : nameOf c1 ≠ []) (h2 : nameOf c2 ≠ []) :
    Calls Tryz.prog 37 #[.int .i64 c1, .int .i64 c2, .string (strOfNums t)] w fun e w' => e = .returned (txV R2.1 (R1.2.1, R1.2.2)) ∧ Kept (fun _ => False) w w' := by
  have hn1 := fun w => name_c c1 w
  have hn2 := fun w => name_c c2 w
  obtain ⟨n1, e1⟩ : ∃ n, n = nameOf c1 := ⟨_, rfl⟩
  obtain ⟨n2, e2⟩ : ∃ n, n = nameOf c2 := ⟨_, rfl⟩
  rw [← e1] at h1
  rw [← e2] at h2
  simp only [← e1] at hn1
  simp only [← e2] at hn2
  have he1 : (strOfNums n1).toList.isEmpty = false := by rw [S_empty]; cases n1 <;> simp_all
  have he2 : (strOfNums n2).toList.isEmpty = false := by rw [S_empty]; cases n2 <;> simp_all
  have HN1 := Lib.hid hn1; have HN2 := Lib.hid hn2
  clear hn1 hn2 e1 e2 h1 h2
  unfold DecC failV at hD
  unfold EncC failV at hE
  obtain ⟨ys, x, y⟩ := R1
  obtain ⟨s2, x2, y2⟩ := R2
  simp only at hD hE
  have HD := Lib.hid hD; have HE := Lib.hid hE
  clear hD hE
  go_enter Tryz.func37, Tryz.ntmps37
  go_wp2_with fail
  refine (HN1.out _).mono ?_
  rintro e w1 ⟨rfl, hk⟩
  go_wp2_with fail
  refine (HN2.out _).mono ?_
  rintro e w2 ⟨rfl, hk2⟩
  have hk2 := hk.trans hk2
  go_wp2_with fail
  refine (HD.out _).mono ?_
  rintro e w3 ⟨v, rfl, hrow, hk3⟩
  have hk3 := hk2.trans hk3
  go_wp2_with fail
  refine (HE.out _ _ ?_).mono ?_
  · exact (show Row _ w2.heap.size 47 .u32 v ys from hrow.alloc _).rd
  rintro e w4 ⟨rfl, hk4⟩
  have hb7 := hk4.heap (blk_alloc (hk3.heap (blk_new w _) id) _) id
  have hb9 := hk4.heap (blk_new w3 _) id
  have hK : Kept (fun _ => False) w w4 := ((((Kept.refl _ w).alloc _).trans hk3).alloc _).trans hk4
  have hl7 : w.heap.size < w4.heap.size := blk_lt hb7
  have hl9 : w3.heap.size < w4.heap.size := blk_lt hb9
  have d0 : w4.cell? ⟨w.heap.size, 0, none⟩ = some (.int .i64 0) := blk_cell hb7 0
  have d1 : w4.cell? ⟨w.heap.size, 1, none⟩ = some (.int .i64 0) := blk_cell hb7 1
  have e0 : w4.cell? ⟨w3.heap.size, 0, none⟩ = some (.int .i64 x) := blk_cell hb9 0
  have e1 : w4.cell? ⟨w3.heap.size, 1, none⟩ = some (.int .i64 y) := blk_cell hb9 1
  have f7 := blk_free hb7
  clear hk hk2 hk3 hk4 hrow HN1 HN2 HD HE
  go_wp2
  go_region
  all_goals
    go_wp2
    refine bodyPost_ret (v := .tuple #[.string (strOfNums s2), .agg #[.int .i64 x, .int .i64 y]]) (by simp [results, Tryz.results37, go_sem, d0, d1, hl7]; try rfl) rfl ⟨rfl, ?_⟩
    repeat (first | with_reducible exact hK | with_reducible refine Kept.drewN ?_ _ | with_reducible refine Kept.drew ?_ | with_reducible refine Kept.setNew ?_ _ _ (Nat.le_refl _) _ | with_reducible refine Kept.alloc ?_ _)
end Go.Proofs.YthdcfmconpgflaaGreat
