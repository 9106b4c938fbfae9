/- pilcrowref20.Read: the block at a place, by the document. Printed by genref20.py. -/
import Derived.Test.YthdcfmconpgflaaGreatBlkR
set_option linter.unusedVariables false
set_option linter.unusedSimpArgs false
namespace Go.Proofs.YthdcfmconpgflaaGreat
open Go.RowKit

def rrV (r : (Int × Int × List Int) × Int × Int × Int) : Value := .tuple #[blkV r.1.1 r.1.2.1 r.1.2.2, .int .i64 r.2.1, .int .i64 r.2.2.1, .int .i64 r.2.2.2]
def RrPost (r : (Int × Int × List Int) × Int × Int × Int) (w : World) (e : Ending) (w' : World) : Prop := e = .returned (rrV r) ∧ Kept (fun _ => False) w w'

set_option maxRecDepth 100000 in
set_option maxHeartbeats 1000000 in
theorem rnum_c (l : List Int) (k : Nat) (w : World) (hl : Byt l) (hlen : l.length ≤ 1000000000) (h4 : k + 4 ≤ l.length) :
    Calls Tryz.prog 95 #[.string (strOfNums l), .int .i64 k] w fun e w' => e = .returned (.int .u32 (numOf (l.drop k))) ∧ ∃ n, w' = w.drewN n := by
  have hsz := strOfNums_size l
  have e1 : numOf (l.drop k) = l.getD k 0 + l.getD (k + 1) 0 * 256 + l.getD (k + 2) 0 * 65536 + l.getD (k + 3) 0 * 16777216 := by
    unfold numOf
    rw [if_neg (by rw [List.length_drop]; omega)]
    simp only [List.getD_eq_getElem?_getD, List.getElem?_drop, Nat.add_zero]
  rw [e1]; clear e1
  have ha := hl.at k
  have hb := hl.at (k + 1)
  have hc := hl.at (k + 2)
  have hd := hl.at (k + 3)
  have g0 := S_get hl k
  have g1 := S_get hl (k + 1)
  have g2 := S_get hl (k + 2)
  have g3 := S_get hl (k + 3)
  obtain ⟨a, ea⟩ : ∃ a, a = l.getD k 0 := ⟨_, rfl⟩
  obtain ⟨b, eb⟩ : ∃ a, a = l.getD (k + 1) 0 := ⟨_, rfl⟩
  obtain ⟨c, ec⟩ : ∃ a, a = l.getD (k + 2) 0 := ⟨_, rfl⟩
  obtain ⟨d, ed⟩ : ∃ a, a = l.getD (k + 3) 0 := ⟨_, rfl⟩
  rw [← ea] at ha g0 ⊢
  rw [← eb] at hb g1 ⊢
  rw [← ec] at hc g2 ⊢
  rw [← ed] at hd g3 ⊢
  clear ea eb ec ed
  have w1 : IntKind.u32.wrap (256 * b) = 256 * b := IntWalk.u32_in _ (by omega)
  have w2 : IntKind.u32.wrap (65536 * c) = 65536 * c := IntWalk.u32_in _ (by omega)
  have w3 : IntKind.u32.wrap (16777216 * d) = 16777216 * d := IntWalk.u32_in _ (by omega)
  have w4 : IntKind.u32.wrap (a + 256 * b) = a + 256 * b := IntWalk.u32_in _ (by omega)
  have w5 : IntKind.u32.wrap (a + 256 * b + 65536 * c) = a + 256 * b + 65536 * c := IntWalk.u32_in _ (by omega)
  have w6 : IntKind.u32.wrap (a + 256 * b + 65536 * c + 16777216 * d) = a + 256 * b + 65536 * c + 16777216 * d := IntWalk.u32_in _ (by omega)
  have v1 : IntKind.i64.wrap ((k : Int) + 1) = (k : Int) + 1 := IntWalk.i64_in _ (by omega)
  have v2 : IntKind.i64.wrap ((k : Int) + 2) = (k : Int) + 2 := IntWalk.i64_in _ (by omega)
  have v3 : IntKind.i64.wrap ((k : Int) + 3) = (k : Int) + 3 := IntWalk.i64_in _ (by omega)
  have t1 : ((k : Int) + 1).toNat = k + 1 := by omega
  have t2 : ((k : Int) + 2).toNat = k + 2 := by omega
  have t3 : ((k : Int) + 3).toNat = k + 3 := by omega
  have i0 : k < l.length := by omega
  have i1 : k + 1 < l.length := by omega
  have i2 : k + 2 < l.length := by omega
  have i3 : k + 3 < l.length := by omega
  have p1 : (0 : Int) ≤ (k : Int) + 1 := by omega
  have p2 : (0 : Int) ≤ (k : Int) + 2 := by omega
  have p3 : (0 : Int) ≤ (k : Int) + 3 := by omega
  have q1 : (k : Int) + 1 < (l.length : Int) := by omega
  have q2 : (k : Int) + 2 < (l.length : Int) := by omega
  have q3 : (k : Int) + 3 < (l.length : Int) := by omega
  obtain ⟨n, hn⟩ : ∃ n, n = l.length := ⟨_, rfl⟩
  rw [← hn] at hsz hlen h4 i0 i1 i2 i3 q1 q2 q3
  clear hn
  go_enter Tryz.func95, Tryz.ntmps95
  go_wp2
  go_quiet (fail)
  go_wp2
  go_ret
  refine ⟨?_, nq, rfl⟩
  show Ending.returned (.int .u32 (a + 256 * b + 65536 * c + 16777216 * d)) = _
  rw [show a + 256 * b + 65536 * c + 16777216 * d = a + b * 256 + c * 65536 + d * 16777216 by omega]

set_option maxRecDepth 100000 in
set_option maxHeartbeats 4000000 in
theorem rread_arg (l : List Int) (a : Int) (w : World) (h : a < 0 ∨ (l.length : Int) < a) :
    Calls Tryz.prog 50 #[.string (strOfNums l), .int .i64 a] w (RrPost (rdBlk l a) w) := by
  have HE := Lib.hid (show rdBlk l a = ((0, 0, []), 0, 1, 0) by unfold rdBlk; rw [if_pos h])
  have hsz := strOfNums_size l
  rcases h with h | h
  · go_enter Tryz.func50, Tryz.ntmps50
    go_wp2
    refine bodyPost_ret (v := .tuple #[.agg #[.int .i64 0, .int .u32 0, .string (strOfNums [])], .int .i64 0, .int .i64 1, .int .i64 (0)]) (by simp [results, Tryz.results50, go_sem]; try rfl) rfl ⟨by rw [HE.out]; rfl, ?_⟩
    repeat (first | exact Kept.refl _ _ | refine Kept.drewN ?_ _ | refine Kept.drew ?_ | refine Kept.setNew ?_ _ _ (by simp) _ | refine Kept.alloc ?_ _)
  · go_enter Tryz.func50, Tryz.ntmps50
    go_wp2
    refine bodyPost_ret (v := .tuple #[.agg #[.int .i64 0, .int .u32 0, .string (strOfNums [])], .int .i64 0, .int .i64 1, .int .i64 (0)]) (by simp [results, Tryz.results50, go_sem]; try rfl) rfl ⟨by rw [HE.out]; rfl, ?_⟩
    repeat (first | exact Kept.refl _ _ | refine Kept.drewN ?_ _ | refine Kept.drew ?_ | refine Kept.setNew ?_ _ _ (by simp) _ | refine Kept.alloc ?_ _)

set_option maxRecDepth 100000 in
set_option maxHeartbeats 4000000 in
theorem rread_magic (l : List Int) (k : Nat) (w : World) (hl : Byt l) (hlen : l.length ≤ 1000000000) (hkl : k ≤ l.length) (h1 : l.drop k ≠ []) (h2 : (l.drop k).getD 0 0 ≠ 66) :
    Calls Tryz.prog 50 #[.string (strOfNums l), .int .i64 k] w (RrPost (rdBlk l k) w) := by
  have hrl : (l.drop k).length = l.length - k := List.length_drop
  obtain ⟨r, hr⟩ : ∃ r, r = l.drop k := ⟨_, rfl⟩
  rw [← hr] at h1 h2 hrl
  have HE := Lib.hid (show rdBlk l k = ((0, 0, []), 0, 7, (k : Int)) by unfold rdBlk; rw [if_neg (by omega), Int.toNat_natCast, ← hr]; simp only; rw [if_pos ⟨h1, h2⟩])
  have hsz := strOfNums_size l
  have hr0 : r.getD 0 0 = l.getD k 0 := by rw [hr]; simp [List.getD_eq_getElem?_getD]
  have hget := S_get hl k
  rw [← hr0] at hget
  have hdr : ∀ i, l.drop (k + i) = r.drop i := fun i => by rw [hr, List.drop_drop]
  have hkd : IntKind.i64.wrap ((l.length : Int) - (k : Int)) = (l.length : Int) - (k : Int) := IntWalk.i64_in _ (by omega)
  have HR := Lib.hid hr; have HDR := Lib.hid hdr
  clear hr hdr
  have hpos : 0 < r.length := List.length_pos_iff.2 h1
  have hklt : k < l.length := by omega
  have hby := hl.at k
  rw [← hr0] at hby
  obtain ⟨b, hb⟩ : ∃ b, b = r.getD 0 0 := ⟨_, rfl⟩
  rw [← hb] at h2 hby
  simp only [← hb] at hget
  have hne : (b != 66) = true := by simpa using h2
  clear hb hr0 h1 h2 hrl hpos
  go_enter Tryz.func50, Tryz.ntmps50
  go_wp2
  refine bodyPost_ret (v := .tuple #[.agg #[.int .i64 0, .int .u32 0, .string (strOfNums [])], .int .i64 0, .int .i64 7, .int .i64 (k)]) (by simp [results, Tryz.results50, go_sem]; try rfl) rfl ⟨by rw [HE.out]; rfl, ?_⟩
  repeat (first | exact Kept.refl _ _ | refine Kept.drewN ?_ _ | refine Kept.drew ?_ | refine Kept.setNew ?_ _ _ (by simp) _ | refine Kept.alloc ?_ _)

set_option maxRecDepth 100000 in
set_option maxHeartbeats 4000000 in
theorem rread_cut (l : List Int) (k : Nat) (w : World) (hl : Byt l) (hlen : l.length ≤ 1000000000) (hkl : k ≤ l.length) (h1 : ¬ (l.drop k ≠ [] ∧ (l.drop k).getD 0 0 ≠ 66)) (h13 : (l.drop k).length < 13) :
    Calls Tryz.prog 50 #[.string (strOfNums l), .int .i64 k] w (RrPost (rdBlk l k) w) := by
  have hrl : (l.drop k).length = l.length - k := List.length_drop
  obtain ⟨r, hr⟩ : ∃ r, r = l.drop k := ⟨_, rfl⟩
  rw [← hr] at h1 h13 hrl
  have HE := Lib.hid (show rdBlk l k = ((0, 0, []), 0, 4, (l.length : Int)) by unfold rdBlk; rw [if_neg (by omega), Int.toNat_natCast, ← hr]; simp only; rw [if_neg h1, if_pos h13])
  have hsz := strOfNums_size l
  have hr0 : r.getD 0 0 = l.getD k 0 := by rw [hr]; simp [List.getD_eq_getElem?_getD]
  have hget := S_get hl k
  rw [← hr0] at hget
  have hdr : ∀ i, l.drop (k + i) = r.drop i := fun i => by rw [hr, List.drop_drop]
  have hkd : IntKind.i64.wrap ((l.length : Int) - (k : Int)) = (l.length : Int) - (k : Int) := IntWalk.i64_in _ (by omega)
  have HR := Lib.hid hr; have HDR := Lib.hid hdr
  clear hr hdr
  have hk13 : decide ((l.length : Int) - (k : Int) < 13) = true := by simp; omega
  by_cases h0 : k < l.length
  · have h66 : r.getD 0 0 = 66 := Classical.byContradiction fun h => h1 ⟨by intro e; rw [e] at hrl; simp at hrl; omega, h⟩
    simp only [h66] at hget
    clear h66 hr0 h1 hrl h13
    go_enter Tryz.func50, Tryz.ntmps50
    go_wp2
    refine bodyPost_ret (v := .tuple #[.agg #[.int .i64 0, .int .u32 0, .string (strOfNums [])], .int .i64 0, .int .i64 4, .int .i64 (l.length)]) (by simp [results, Tryz.results50, go_sem]; try rfl) rfl ⟨by rw [HE.out]; rfl, ?_⟩
    repeat (first | exact Kept.refl _ _ | refine Kept.drewN ?_ _ | refine Kept.drew ?_ | refine Kept.setNew ?_ _ _ (by simp) _ | refine Kept.alloc ?_ _)
  · clear hr0 h1 hrl h13 hget
    go_enter Tryz.func50, Tryz.ntmps50
    go_wp2
    refine bodyPost_ret (v := .tuple #[.agg #[.int .i64 0, .int .u32 0, .string (strOfNums [])], .int .i64 0, .int .i64 4, .int .i64 (l.length)]) (by simp [results, Tryz.results50, go_sem]; try rfl) rfl ⟨by rw [HE.out]; rfl, ?_⟩
    repeat (first | exact Kept.refl _ _ | refine Kept.drewN ?_ _ | refine Kept.drew ?_ | refine Kept.setNew ?_ _ _ (by simp) _ | refine Kept.alloc ?_ _)

set_option maxRecDepth 100000 in
set_option maxHeartbeats 4000000 in
theorem rread_count (l : List Int) (k : Nat) (w : World) (hl : Byt l) (hlen : l.length ≤ 1000000000) (hkl : k ≤ l.length) (h1 : ¬ (l.drop k ≠ [] ∧ (l.drop k).getD 0 0 ≠ 66)) (h13 : ¬ (l.drop k).length < 13) (hc : numOf ((l.drop k).drop 1) < 1 ∨ 65536 < numOf ((l.drop k).drop 1)) :
    Calls Tryz.prog 50 #[.string (strOfNums l), .int .i64 k] w (RrPost (rdBlk l k) w) := by
  have hrl : (l.drop k).length = l.length - k := List.length_drop
  obtain ⟨r, hr⟩ : ∃ r, r = l.drop k := ⟨_, rfl⟩
  rw [← hr] at h1 h13 hc hrl
  have HE := Lib.hid (show rdBlk l k = ((0, 0, []), 0, 8, (k : Int) + 1) by unfold rdBlk; rw [if_neg (by omega), Int.toNat_natCast, ← hr]; simp only; rw [if_neg h1, if_neg h13, if_pos hc])
  have hsz := strOfNums_size l
  have hr0 : r.getD 0 0 = l.getD k 0 := by rw [hr]; simp [List.getD_eq_getElem?_getD]
  have hget := S_get hl k
  rw [← hr0] at hget
  have hdr : ∀ i, l.drop (k + i) = r.drop i := fun i => by rw [hr, List.drop_drop]
  have hkd : IntKind.i64.wrap ((l.length : Int) - (k : Int)) = (l.length : Int) - (k : Int) := IntWalk.i64_in _ (by omega)
  have HR := Lib.hid hr; have HDR := Lib.hid hdr
  clear hr hdr
  have h13' : 13 ≤ r.length := by omega
  have hklt : k < l.length := by omega
  have h66 : r.getD 0 0 = 66 := Classical.byContradiction fun h => h1 ⟨by intro e; rw [e] at h13'; simp at h13', h⟩
  simp only [h66] at hget
  have hk13 : (13 : Int) ≤ (l.length : Int) - (k : Int) := by omega
  have hk13' : decide ((l.length : Int) - (k : Int) < 13) = false := by simp; omega
  have HRL := Lib.hid hrl
  clear h66 hr0 h1 hrl
  have hrb : Byt r := by rw [HR.out]; exact hl.drop k
  have hb1 := hrb.drop 1
  have hb5 := hrb.drop 5
  have hcr := numOf_rng hb1
  have hzr := numOf_rng hb5
  have hnum1 : ∀ w, Calls Tryz.prog 95 #[.string (strOfNums l), .int .i64 ((k : Int) + 1)] w fun e w' => e = .returned (.int .u32 (numOf (r.drop 1))) ∧ ∃ n, w' = w.drewN n := fun w => by
    have := rnum_c l (k + 1) w hl hlen (by have := HRL.out; omega)
    rw [HDR.out, show ((k + 1 : Nat) : Int) = (k : Int) + 1 by omega] at this
    exact this
  have hnum5 : ∀ w, Calls Tryz.prog 95 #[.string (strOfNums l), .int .i64 ((k : Int) + 5)] w fun e w' => e = .returned (.int .u32 (numOf (r.drop 5))) ∧ ∃ n, w' = w.drewN n := fun w => by
    have := rnum_c l (k + 5) w hl hlen (by have := HRL.out; omega)
    rw [HDR.out, show ((k + 5 : Nat) : Int) = (k : Int) + 5 by omega] at this
    exact this
  obtain ⟨c, hcd⟩ : ∃ c, c = numOf (r.drop 1) := ⟨_, rfl⟩
  rw [← hcd] at hc hcr
  simp only [← hcd] at hnum1
  obtain ⟨z, hzd⟩ : ∃ z, z = numOf (r.drop 5) := ⟨_, rfl⟩
  rw [← hzd] at hzr
  simp only [← hzd] at hnum5
  have HC := Lib.hid hcd; have HZD := Lib.hid hzd; have HN1 := Lib.hid hnum1; have HN5 := Lib.hid hnum5
  clear hcd hzd hnum1 hnum5
  rcases hc with hc | hc
  · obtain rfl : c = 0 := by omega
    go_enter Tryz.func50, Tryz.ntmps50
    go_wp2_with fail
    with_reducible refine (HN1.out _).mono ?_
    rintro e w' ⟨rfl, m1, rfl⟩
    go_wp2_with fail
    with_reducible refine (HN5.out _).mono ?_
    rintro e w' ⟨rfl, m2, rfl⟩
    go_wp2
    refine bodyPost_ret (v := .tuple #[.agg #[.int .i64 0, .int .u32 0, .string (strOfNums [])], .int .i64 0, .int .i64 8, .int .i64 (k + 1)]) (by simp [results, Tryz.results50, go_sem]; try rfl) rfl ⟨by rw [HE.out]; rfl, ?_⟩
    repeat (first | exact Kept.refl _ _ | refine Kept.drewN ?_ _ | refine Kept.drew ?_ | refine Kept.setNew ?_ _ _ (by simp) _ | refine Kept.alloc ?_ _)
  · have hc0 : (c == 0) = false := by simp; omega
    go_enter Tryz.func50, Tryz.ntmps50
    go_wp2_with fail
    with_reducible refine (HN1.out _).mono ?_
    rintro e w' ⟨rfl, m1, rfl⟩
    go_wp2_with fail
    with_reducible refine (HN5.out _).mono ?_
    rintro e w' ⟨rfl, m2, rfl⟩
    go_wp2
    refine bodyPost_ret (v := .tuple #[.agg #[.int .i64 0, .int .u32 0, .string (strOfNums [])], .int .i64 0, .int .i64 8, .int .i64 (k + 1)]) (by simp [results, Tryz.results50, go_sem]; try rfl) rfl ⟨by rw [HE.out]; rfl, ?_⟩
    repeat (first | exact Kept.refl _ _ | refine Kept.drewN ?_ _ | refine Kept.drew ?_ | refine Kept.setNew ?_ _ _ (by simp) _ | refine Kept.alloc ?_ _)

set_option maxRecDepth 100000 in
set_option maxHeartbeats 4000000 in
theorem rread_long (l : List Int) (k : Nat) (w : World) (hl : Byt l) (hlen : l.length ≤ 1000000000) (hkl : k ≤ l.length) (h1 : ¬ (l.drop k ≠ [] ∧ (l.drop k).getD 0 0 ≠ 66)) (h13 : ¬ (l.drop k).length < 13) (hc : ¬ (numOf ((l.drop k).drop 1) < 1 ∨ 65536 < numOf ((l.drop k).drop 1))) (hz : numOf ((l.drop k).drop 5) < 1 ∨ 1048576 < numOf ((l.drop k).drop 5)) :
    Calls Tryz.prog 50 #[.string (strOfNums l), .int .i64 k] w (RrPost (rdBlk l k) w) := by
  have hrl : (l.drop k).length = l.length - k := List.length_drop
  obtain ⟨r, hr⟩ : ∃ r, r = l.drop k := ⟨_, rfl⟩
  rw [← hr] at h1 h13 hc hz hrl
  have HE := Lib.hid (show rdBlk l k = ((0, 0, []), 0, 5, (k : Int) + 5) by unfold rdBlk; rw [if_neg (by omega), Int.toNat_natCast, ← hr]; simp only; rw [if_neg h1, if_neg h13, if_neg hc, if_pos hz])
  have hsz := strOfNums_size l
  have hr0 : r.getD 0 0 = l.getD k 0 := by rw [hr]; simp [List.getD_eq_getElem?_getD]
  have hget := S_get hl k
  rw [← hr0] at hget
  have hdr : ∀ i, l.drop (k + i) = r.drop i := fun i => by rw [hr, List.drop_drop]
  have hkd : IntKind.i64.wrap ((l.length : Int) - (k : Int)) = (l.length : Int) - (k : Int) := IntWalk.i64_in _ (by omega)
  have HR := Lib.hid hr; have HDR := Lib.hid hdr
  clear hr hdr
  have h13' : 13 ≤ r.length := by omega
  have hklt : k < l.length := by omega
  have h66 : r.getD 0 0 = 66 := Classical.byContradiction fun h => h1 ⟨by intro e; rw [e] at h13'; simp at h13', h⟩
  simp only [h66] at hget
  have hk13 : (13 : Int) ≤ (l.length : Int) - (k : Int) := by omega
  have hk13' : decide ((l.length : Int) - (k : Int) < 13) = false := by simp; omega
  have HRL := Lib.hid hrl
  clear h66 hr0 h1 hrl
  have hrb : Byt r := by rw [HR.out]; exact hl.drop k
  have hb1 := hrb.drop 1
  have hb5 := hrb.drop 5
  have hcr := numOf_rng hb1
  have hzr := numOf_rng hb5
  have hnum1 : ∀ w, Calls Tryz.prog 95 #[.string (strOfNums l), .int .i64 ((k : Int) + 1)] w fun e w' => e = .returned (.int .u32 (numOf (r.drop 1))) ∧ ∃ n, w' = w.drewN n := fun w => by
    have := rnum_c l (k + 1) w hl hlen (by have := HRL.out; omega)
    rw [HDR.out, show ((k + 1 : Nat) : Int) = (k : Int) + 1 by omega] at this
    exact this
  have hnum5 : ∀ w, Calls Tryz.prog 95 #[.string (strOfNums l), .int .i64 ((k : Int) + 5)] w fun e w' => e = .returned (.int .u32 (numOf (r.drop 5))) ∧ ∃ n, w' = w.drewN n := fun w => by
    have := rnum_c l (k + 5) w hl hlen (by have := HRL.out; omega)
    rw [HDR.out, show ((k + 5 : Nat) : Int) = (k : Int) + 5 by omega] at this
    exact this
  obtain ⟨c, hcd⟩ : ∃ c, c = numOf (r.drop 1) := ⟨_, rfl⟩
  rw [← hcd] at hc hcr
  simp only [← hcd] at hnum1
  obtain ⟨z, hzd⟩ : ∃ z, z = numOf (r.drop 5) := ⟨_, rfl⟩
  rw [← hzd] at hz hzr
  simp only [← hzd] at hnum5
  have HC := Lib.hid hcd; have HZD := Lib.hid hzd; have HN1 := Lib.hid hnum1; have HN5 := Lib.hid hnum5
  clear hcd hzd hnum1 hnum5
  have hc0 : (c == 0) = false := by simp; omega
  have hc2 : c ≤ 65536 := by omega
  clear hc
  rcases hz with hz | hz
  · obtain rfl : z = 0 := by omega
    go_enter Tryz.func50, Tryz.ntmps50
    go_wp2_with fail
    with_reducible refine (HN1.out _).mono ?_
    rintro e w' ⟨rfl, m1, rfl⟩
    go_wp2_with fail
    with_reducible refine (HN5.out _).mono ?_
    rintro e w' ⟨rfl, m2, rfl⟩
    go_wp2
    refine bodyPost_ret (v := .tuple #[.agg #[.int .i64 0, .int .u32 0, .string (strOfNums [])], .int .i64 0, .int .i64 5, .int .i64 (k + 5)]) (by simp [results, Tryz.results50, go_sem]; try rfl) rfl ⟨by rw [HE.out]; rfl, ?_⟩
    repeat (first | exact Kept.refl _ _ | refine Kept.drewN ?_ _ | refine Kept.drew ?_ | refine Kept.setNew ?_ _ _ (by simp) _ | refine Kept.alloc ?_ _)
  · have hz0 : (z == 0) = false := by simp; omega
    go_enter Tryz.func50, Tryz.ntmps50
    go_wp2_with fail
    with_reducible refine (HN1.out _).mono ?_
    rintro e w' ⟨rfl, m1, rfl⟩
    go_wp2_with fail
    with_reducible refine (HN5.out _).mono ?_
    rintro e w' ⟨rfl, m2, rfl⟩
    go_wp2
    refine bodyPost_ret (v := .tuple #[.agg #[.int .i64 0, .int .u32 0, .string (strOfNums [])], .int .i64 0, .int .i64 5, .int .i64 (k + 5)]) (by simp [results, Tryz.results50, go_sem]; try rfl) rfl ⟨by rw [HE.out]; rfl, ?_⟩
    repeat (first | exact Kept.refl _ _ | refine Kept.drewN ?_ _ | refine Kept.drew ?_ | refine Kept.setNew ?_ _ _ (by simp) _ | refine Kept.alloc ?_ _)

set_option maxRecDepth 100000 in
set_option maxHeartbeats 4000000 in
theorem rread_cut2 (l : List Int) (k : Nat) (w : World) (hl : Byt l) (hlen : l.length ≤ 1000000000) (hkl : k ≤ l.length) (h1 : ¬ (l.drop k ≠ [] ∧ (l.drop k).getD 0 0 ≠ 66)) (h13 : ¬ (l.drop k).length < 13) (hc : ¬ (numOf ((l.drop k).drop 1) < 1 ∨ 65536 < numOf ((l.drop k).drop 1))) (hz : ¬ (numOf ((l.drop k).drop 5) < 1 ∨ 1048576 < numOf ((l.drop k).drop 5))) (hq : ((l.drop k).length : Int) - 13 < numOf ((l.drop k).drop 5)) :
    Calls Tryz.prog 50 #[.string (strOfNums l), .int .i64 k] w (RrPost (rdBlk l k) w) := by
  have hrl : (l.drop k).length = l.length - k := List.length_drop
  obtain ⟨r, hr⟩ : ∃ r, r = l.drop k := ⟨_, rfl⟩
  rw [← hr] at h1 h13 hc hz hq hrl
  have HE := Lib.hid (show rdBlk l k = ((0, 0, []), 0, 4, (l.length : Int)) by unfold rdBlk; rw [if_neg (by omega), Int.toNat_natCast, ← hr]; simp only; rw [if_neg h1, if_neg h13, if_neg hc, if_neg hz, if_pos hq])
  have hsz := strOfNums_size l
  have hr0 : r.getD 0 0 = l.getD k 0 := by rw [hr]; simp [List.getD_eq_getElem?_getD]
  have hget := S_get hl k
  rw [← hr0] at hget
  have hdr : ∀ i, l.drop (k + i) = r.drop i := fun i => by rw [hr, List.drop_drop]
  have hkd : IntKind.i64.wrap ((l.length : Int) - (k : Int)) = (l.length : Int) - (k : Int) := IntWalk.i64_in _ (by omega)
  have HR := Lib.hid hr; have HDR := Lib.hid hdr
  clear hr hdr
  have h13' : 13 ≤ r.length := by omega
  have hklt : k < l.length := by omega
  have h66 : r.getD 0 0 = 66 := Classical.byContradiction fun h => h1 ⟨by intro e; rw [e] at h13'; simp at h13', h⟩
  simp only [h66] at hget
  have hk13 : (13 : Int) ≤ (l.length : Int) - (k : Int) := by omega
  have hk13' : decide ((l.length : Int) - (k : Int) < 13) = false := by simp; omega
  have HRL := Lib.hid hrl
  clear h66 hr0 h1 hrl
  have hrb : Byt r := by rw [HR.out]; exact hl.drop k
  have hb1 := hrb.drop 1
  have hb5 := hrb.drop 5
  have hcr := numOf_rng hb1
  have hzr := numOf_rng hb5
  have hnum1 : ∀ w, Calls Tryz.prog 95 #[.string (strOfNums l), .int .i64 ((k : Int) + 1)] w fun e w' => e = .returned (.int .u32 (numOf (r.drop 1))) ∧ ∃ n, w' = w.drewN n := fun w => by
    have := rnum_c l (k + 1) w hl hlen (by have := HRL.out; omega)
    rw [HDR.out, show ((k + 1 : Nat) : Int) = (k : Int) + 1 by omega] at this
    exact this
  have hnum5 : ∀ w, Calls Tryz.prog 95 #[.string (strOfNums l), .int .i64 ((k : Int) + 5)] w fun e w' => e = .returned (.int .u32 (numOf (r.drop 5))) ∧ ∃ n, w' = w.drewN n := fun w => by
    have := rnum_c l (k + 5) w hl hlen (by have := HRL.out; omega)
    rw [HDR.out, show ((k + 5 : Nat) : Int) = (k : Int) + 5 by omega] at this
    exact this
  obtain ⟨c, hcd⟩ : ∃ c, c = numOf (r.drop 1) := ⟨_, rfl⟩
  rw [← hcd] at hc hcr
  simp only [← hcd] at hnum1
  obtain ⟨z, hzd⟩ : ∃ z, z = numOf (r.drop 5) := ⟨_, rfl⟩
  rw [← hzd] at hz hzr hq
  simp only [← hzd] at hnum5
  have HC := Lib.hid hcd; have HZD := Lib.hid hzd; have HN1 := Lib.hid hnum1; have HN5 := Lib.hid hnum5
  clear hcd hzd hnum1 hnum5
  have hc0 : (c == 0) = false := by simp; omega
  have hc2 : c ≤ 65536 := by omega
  clear hc
  have hz0 : (z == 0) = false := by simp; omega
  have hz2 : z ≤ 1048576 := by omega
  have hk14 : IntKind.i64.wrap ((l.length : Int) - (k : Int) - 13) = (l.length : Int) - (k : Int) - 13 := IntWalk.i64_in _ (by omega)
  have hk15 : IntKind.u32.wrap ((l.length : Int) - (k : Int) - 13) = (l.length : Int) - (k : Int) - 13 := IntWalk.u32_in _ (by omega)
  clear hz
  have hq1 : decide ((l.length : Int) - (k : Int) - 13 < z) = true := by have := HRL.out; simp; omega
  clear hq
  go_enter Tryz.func50, Tryz.ntmps50
  go_wp2_with fail
  with_reducible refine (HN1.out _).mono ?_
  rintro e w' ⟨rfl, m1, rfl⟩
  go_wp2_with fail
  with_reducible refine (HN5.out _).mono ?_
  rintro e w' ⟨rfl, m2, rfl⟩
  go_wp2
  refine bodyPost_ret (v := .tuple #[.agg #[.int .i64 0, .int .u32 0, .string (strOfNums [])], .int .i64 0, .int .i64 4, .int .i64 (l.length)]) (by simp [results, Tryz.results50, go_sem]; try rfl) rfl ⟨by rw [HE.out]; rfl, ?_⟩
  repeat (first | exact Kept.refl _ _ | refine Kept.drewN ?_ _ | refine Kept.drew ?_ | refine Kept.setNew ?_ _ _ (by simp) _ | refine Kept.alloc ?_ _)

set_option maxRecDepth 100000 in
set_option maxHeartbeats 4000000 in
theorem rread_ok (l : List Int) (k : Nat) (w : World) (hl : Byt l) (hlen : l.length ≤ 1000000000) (hkl : k ≤ l.length) (h1 : ¬ (l.drop k ≠ [] ∧ (l.drop k).getD 0 0 ≠ 66)) (h13 : ¬ (l.drop k).length < 13) (hc : ¬ (numOf ((l.drop k).drop 1) < 1 ∨ 65536 < numOf ((l.drop k).drop 1))) (hz : ¬ (numOf ((l.drop k).drop 5) < 1 ∨ 1048576 < numOf ((l.drop k).drop 5))) (hq : ¬ ((l.drop k).length : Int) - 13 < numOf ((l.drop k).drop 5)) :
    Calls Tryz.prog 50 #[.string (strOfNums l), .int .i64 k] w (RrPost (rdBlk l k) w) := by
  have hrl : (l.drop k).length = l.length - k := List.length_drop
  obtain ⟨r, hr⟩ : ∃ r, r = l.drop k := ⟨_, rfl⟩
  rw [← hr] at h1 h13 hc hz hq hrl
  have HE := Lib.hid (show rdBlk l k = ((numOf (r.drop 1), numOf (r.drop 9), (r.take (13 + (numOf (r.drop 5)).toNat)).drop 13), (k : Int) + (13 + numOf (r.drop 5)), 0, 0) by unfold rdBlk; rw [if_neg (by omega), Int.toNat_natCast, ← hr]; simp only; rw [if_neg h1, if_neg h13, if_neg hc, if_neg hz, if_neg hq])
  have hsz := strOfNums_size l
  have hr0 : r.getD 0 0 = l.getD k 0 := by rw [hr]; simp [List.getD_eq_getElem?_getD]
  have hget := S_get hl k
  rw [← hr0] at hget
  have hdr : ∀ i, l.drop (k + i) = r.drop i := fun i => by rw [hr, List.drop_drop]
  have hkd : IntKind.i64.wrap ((l.length : Int) - (k : Int)) = (l.length : Int) - (k : Int) := IntWalk.i64_in _ (by omega)
  have HR := Lib.hid hr; have HDR := Lib.hid hdr
  clear hr hdr
  have h13' : 13 ≤ r.length := by omega
  have hklt : k < l.length := by omega
  have h66 : r.getD 0 0 = 66 := Classical.byContradiction fun h => h1 ⟨by intro e; rw [e] at h13'; simp at h13', h⟩
  simp only [h66] at hget
  have hk13 : (13 : Int) ≤ (l.length : Int) - (k : Int) := by omega
  have hk13' : decide ((l.length : Int) - (k : Int) < 13) = false := by simp; omega
  have HRL := Lib.hid hrl
  clear h66 hr0 h1 hrl
  have hrb : Byt r := by rw [HR.out]; exact hl.drop k
  have hb1 := hrb.drop 1
  have hb5 := hrb.drop 5
  have hcr := numOf_rng hb1
  have hzr := numOf_rng hb5
  have hnum1 : ∀ w, Calls Tryz.prog 95 #[.string (strOfNums l), .int .i64 ((k : Int) + 1)] w fun e w' => e = .returned (.int .u32 (numOf (r.drop 1))) ∧ ∃ n, w' = w.drewN n := fun w => by
    have := rnum_c l (k + 1) w hl hlen (by have := HRL.out; omega)
    rw [HDR.out, show ((k + 1 : Nat) : Int) = (k : Int) + 1 by omega] at this
    exact this
  have hnum5 : ∀ w, Calls Tryz.prog 95 #[.string (strOfNums l), .int .i64 ((k : Int) + 5)] w fun e w' => e = .returned (.int .u32 (numOf (r.drop 5))) ∧ ∃ n, w' = w.drewN n := fun w => by
    have := rnum_c l (k + 5) w hl hlen (by have := HRL.out; omega)
    rw [HDR.out, show ((k + 5 : Nat) : Int) = (k : Int) + 5 by omega] at this
    exact this
  obtain ⟨c, hcd⟩ : ∃ c, c = numOf (r.drop 1) := ⟨_, rfl⟩
  rw [← hcd] at hc hcr
  simp only [← hcd] at hnum1
  obtain ⟨z, hzd⟩ : ∃ z, z = numOf (r.drop 5) := ⟨_, rfl⟩
  rw [← hzd] at hz hzr hq
  simp only [← hzd] at hnum5
  have HC := Lib.hid hcd; have HZD := Lib.hid hzd; have HN1 := Lib.hid hnum1; have HN5 := Lib.hid hnum5
  clear hcd hzd hnum1 hnum5
  have hc0 : (c == 0) = false := by simp; omega
  have hc2 : c ≤ 65536 := by omega
  clear hc
  have hz0 : (z == 0) = false := by simp; omega
  have hz2 : z ≤ 1048576 := by omega
  have hk14 : IntKind.i64.wrap ((l.length : Int) - (k : Int) - 13) = (l.length : Int) - (k : Int) - 13 := IntWalk.i64_in _ (by omega)
  have hk15 : IntKind.u32.wrap ((l.length : Int) - (k : Int) - 13) = (l.length : Int) - (k : Int) - 13 := IntWalk.u32_in _ (by omega)
  clear hz
  have hq1 : decide ((l.length : Int) - (k : Int) - 13 < z) = false := by have := HRL.out; simp; omega
  have hnum9 : ∀ w, Calls Tryz.prog 95 #[.string (strOfNums l), .int .i64 ((k : Int) + 9)] w fun e w' => e = .returned (.int .u32 (numOf (r.drop 9))) ∧ ∃ n, w' = w.drewN n := fun w => by
    have := rnum_c l (k + 9) w hl hlen (by have := HRL.out; omega)
    rw [HDR.out, show ((k + 9 : Nat) : Int) = (k : Int) + 9 by omega] at this
    exact this
  have HN9 := Lib.hid hnum9
  clear hnum9 hq
  go_enter Tryz.func50, Tryz.ntmps50
  go_wp2_with fail
  with_reducible refine (HN1.out _).mono ?_
  rintro e w' ⟨rfl, m1, rfl⟩
  go_wp2_with fail
  with_reducible refine (HN5.out _).mono ?_
  rintro e w' ⟨rfl, m2, rfl⟩
  go_wp2
  have hcw : IntKind.i64.wrap c = c := IntWalk.i64_in c (by omega)
  have v9 : IntKind.i64.wrap ((k : Int) + 9) = (k : Int) + 9 := IntWalk.i64_in _ (by omega)
  have v13 : IntKind.i64.wrap ((k : Int) + 13) = (k : Int) + 13 := IntWalk.i64_in _ (by omega)
  have hlk : (k : Int) + 13 + z ≤ (l.length : Int) := by have := HRL.out; simp at hq1; omega
  have hxz : (strOfNums l).extract ((k : Int) + 13).toNat ((k : Int) + 13 + z).toNat = strOfNums ((r.take (13 + z.toNat)).drop 13) := by
    rw [S_extract, show ((k : Int) + 13).toNat = k + 13 by omega, show ((k : Int) + 13 + z).toNat = k + 13 + z.toNat by omega, List.drop_take, List.drop_take, HDR.out]
    congr 2; omega
  have p13 : (0 : Int) ≤ (k : Int) + 13 := by omega
  have p14 : (k : Int) + 13 ≤ (k : Int) + 13 + z := by omega
  have p15 : (0 : Int) ≤ (k : Int) + 13 + z := by omega
  go_region_with ((first | (go_at_call 95; with_reducible refine (HN9.out _).mono ?_; rintro e w' ⟨rfl, m, rfl⟩)))
  go_wp2
  refine bodyPost_ret (v := .tuple #[.agg #[.int .i64 c, .int .u32 (numOf (r.drop 9)), .string (strOfNums ((r.take (13 + z.toNat)).drop 13))], .int .i64 ((k : Int) + 13 + z), .int .i64 0, .int .i64 0]) (by simp [results, Tryz.results50, go_sem]) rfl ⟨by rw [HE.out, ← HC.out, ← HZD.out, ← Int.add_assoc]; rfl, ?_⟩
  repeat (first | exact Kept.refl _ _ | refine Kept.drewN ?_ _ | refine Kept.drew ?_ | refine Kept.setNew ?_ _ _ (by simp) _ | refine Kept.alloc ?_ _)
theorem rread_c (l : List Int) (a : Int) (w : World) (hl : Byt l) (hlen : l.length ≤ 1000000000) :
    Calls Tryz.prog 50 #[.string (strOfNums l), .int .i64 a] w (RrPost (rdBlk l a) w) := by
  by_cases h : a < 0 ∨ (l.length : Int) < a
  · exact rread_arg l a w h
  · obtain ⟨k, rfl⟩ := Int.eq_ofNat_of_zero_le (show 0 ≤ a by omega)
    have hk : k ≤ l.length := by omega
    by_cases h1 : l.drop k ≠ [] ∧ (l.drop k).getD 0 0 ≠ 66
    · exact rread_magic l k w hl hlen hk h1.1 h1.2
    by_cases h13 : (l.drop k).length < 13
    · exact rread_cut l k w hl hlen hk h1 h13
    by_cases hc : numOf ((l.drop k).drop 1) < 1 ∨ 65536 < numOf ((l.drop k).drop 1)
    · exact rread_count l k w hl hlen hk h1 h13 hc
    by_cases hz : numOf ((l.drop k).drop 5) < 1 ∨ 1048576 < numOf ((l.drop k).drop 5)
    · exact rread_long l k w hl hlen hk h1 h13 hc hz
    by_cases hq : ((l.drop k).length : Int) - 13 < numOf ((l.drop k).drop 5)
    · exact rread_cut2 l k w hl hlen hk h1 h13 hc hz hq
    · exact rread_ok l k w hl hlen hk h1 h13 hc hz hq
end Go.Proofs.YthdcfmconpgflaaGreat
