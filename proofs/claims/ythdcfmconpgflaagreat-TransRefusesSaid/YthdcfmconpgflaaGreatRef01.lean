/- The reference of layer 1: two lists held against each other. -/
import Derived.Test.YthdcfmconpgflaaGreatMach
import Derived.Deep.LoopGhost
import Derived.Deep.QuietTactic
import Derived.BigQuiet
import Derived.Lib.Hide
set_option linter.unusedVariables false
set_option linter.unusedSimpArgs false
namespace Go.Proofs.YthdcfmconpgflaaGreat
open Go.RowKit

/-- How two lists stand to each other. -/
def ordL : List Int → List Int → Int
  | [], [] => 0
  | [], _ :: _ => -1
  | _ :: _, [] => 1
  | x :: xs, y :: ys => if x < y then -1 else if y < x then 1 else ordL xs ys
theorem ordL_zero : ∀ xs ys : List Int, ordL xs ys = 0 ↔ xs = ys
  | [], [] => by simp [ordL]
  | [], _ :: _ => by simp [ordL]
  | _ :: _, [] => by simp [ordL]
  | x :: xs, y :: ys => by
    rw [ordL]
    split
    · simp; omega
    · split
      · simp; omega
      · rw [ordL_zero xs ys]; simp; intro _; omega
theorem ordL_step {xs ys : List Int} {k : Nat} (h1 : k < xs.length) (h2 : k < ys.length) : ordL (xs.drop k) (ys.drop k) = if xs.getD k 0 < ys.getD k 0 then -1 else if ys.getD k 0 < xs.getD k 0 then 1 else ordL (xs.drop (k + 1)) (ys.drop (k + 1)) := by
  rw [drop_cons h1, drop_cons h2, ordL]
theorem ordL_end {xs ys : List Int} {k : Nat} (hx : k ≤ xs.length) (hy : k ≤ ys.length) (h : ¬ (k < xs.length ∧ k < ys.length)) : ordL (xs.drop k) (ys.drop k) = if xs.length < ys.length then -1 else if ys.length < xs.length then 1 else 0 := by
  rcases Nat.lt_or_ge k xs.length with h1 | h1
  · have h2 : k = ys.length := by omega
    rw [drop_cons h1, List.drop_eq_nil_of_le (by omega : ys.length ≤ k), ordL, if_neg (by omega), if_pos (by omega)]
  · rw [List.drop_eq_nil_of_le h1]
    rcases Nat.lt_or_ge k ys.length with h2 | h2
    · rw [drop_cons h2, ordL, if_pos (by omega)]
    · rw [List.drop_eq_nil_of_le h2, ordL, if_neg (by omega), if_neg (by omega)]

set_option maxRecDepth 100000 in
set_option maxHeartbeats 1000000 in
theorem order_c (v1 v2 : Value) (xs ys : List Int) (w : World) (h1 : Rd w .u32 v1 xs) (h2 : Rd w .u32 v2 ys) (l1 : xs.length ≤ 1000000000) (l2 : ys.length ≤ 1000000000) :
    Calls Tryz.prog 72 #[v1, v2] w fun e w' => e = .returned (.int .i64 (ordL xs ys)) ∧ Kept (fun _ => False) w w' := by
  obtain ⟨A1, c1, rfl, hc1, hx1⟩ := id h1
  obtain ⟨A2, c2, rfl, hc2, hx2⟩ := id h2
  obtain ⟨R, hR⟩ : ∃ R, R = ordL xs ys := ⟨_, rfl⟩
  rw [← hR]
  have HR := Lib.hid hR
  have H1 := Lib.hid hx1; have H2 := Lib.hid hx2
  clear hR hx1 hx2 h1 h2
  go_enter Tryz.func72, Tryz.ntmps72
  go_wp2
  go_loopg [5] (xs.length) (fun m i wr => ∃ k : Nat, i = .int .i64 k ∧ k + m = xs.length ∧ k ≤ ys.length ∧ Kept (fun _ => False) w wr ∧ R = ordL (xs.drop k) (ys.drop k))
  case atStart => exact ⟨0, rfl, by omega, by omega, Kept.refl _ _, HR.out⟩
  case round =>
    obtain ⟨k, rfl, hk, hk2, hkp, hRR⟩ := hrel
    by_cases hb : k < xs.length ∧ k < ys.length
    · obtain ⟨hb1, hb2⟩ := hb
      obtain ⟨b1, o1, rfl, _, hcell1⟩ := H1.out (by intro e; rw [e] at hb1; simp at hb1)
      obtain ⟨b2, o2, rfl, _, hcell2⟩ := H2.out (by intro e; rw [e] at hb2; simp at hb2)
      have g1 := hkp.cell (hcell1 k hb1) id
      have g2 := hkp.cell (hcell2 k hb2) id
      rw [ordL_step hb1 hb2] at hRR
      obtain ⟨x, hx⟩ : ∃ x, x = xs.getD k 0 := ⟨_, rfl⟩
      obtain ⟨y, hy⟩ : ∃ y, y = ys.getD k 0 := ⟨_, rfl⟩
      rw [← hx] at g1 hRR
      rw [← hy] at g2 hRR
      have HRR := Lib.hid hRR
      clear hx hy hRR hcell1 hcell2
      have d1 : (k : Int) < (xs.length : Int) := by omega
      have d2 : (k : Int) < (ys.length : Int) := by omega
      by_cases hlt : x < y
      · have hd : decide (x < y) = true := by simpa using hlt
        go_wp2
        go_quiet (fail)
        go_wp2
        go_ret
        exact ⟨by rw [HRR.out, if_pos hlt]; rfl, hkp.drewN _⟩
      · have hd : decide (x < y) = false := by simpa using hlt
        by_cases hgt : y < x
        · have hd2 : decide (y < x) = true := by simpa using hgt
          go_wp2
          go_quiet (fail)
          go_wp2
          go_quiet (fail)
          go_wp2
          go_ret
          exact ⟨by rw [HRR.out, if_neg (by omega), if_pos hgt]; rfl, (hkp.drewN _).drewN _⟩
        · have hd2 : decide (y < x) = false := by simpa using hgt
          go_wp2
          go_quiet (fail)
          go_wp2
          go_quiet (fail)
          go_wp2
          go_roundg (gk - 1)
          case rel => exact ⟨k + 1, by go_num, by omega, by omega, hkp.drewN _, by rw [HRR.out, if_neg (by omega), if_neg (by omega)]⟩
          case measure => omega
    · rw [ordL_end (by omega) hk2 hb] at hRR
      have HRR := Lib.hid hRR
      clear hRR
      by_cases h1 : xs.length < ys.length
      · by_cases hk1 : k < xs.length
        · exact absurd ⟨hk1, by omega⟩ hb
        · clear hb
          go_wp2
          go_ret
          exact ⟨by rw [HRR.out, if_pos h1]; rfl, hkp⟩
      · by_cases h2 : ys.length < xs.length
        · have hk2 : ¬ k < ys.length := fun h => hb ⟨by omega, h⟩
          have hk1 : k < xs.length := by omega
          clear hb
          go_wp2
          go_ret
          exact ⟨by rw [HRR.out, if_neg h1, if_pos h2]; rfl, hkp⟩
        · by_cases hk1 : k < xs.length
          · exact absurd ⟨hk1, by omega⟩ hb
          · clear hb
            go_wp2
            go_ret
            exact ⟨by rw [HRR.out, if_neg h1, if_neg h2]; rfl, hkp⟩
theorem same_c (v1 v2 : Value) (xs ys : List Int) (w : World) (h1 : Rd w .u32 v1 xs) (h2 : Rd w .u32 v2 ys) (l1 : xs.length ≤ 1000000000) (l2 : ys.length ≤ 1000000000) :
    Calls Tryz.prog 27 #[v1, v2] w fun e w' => e = .returned (.bool (decide (xs = ys))) ∧ Kept (fun _ => False) w w' := by
  have hz := ordL_zero xs ys
  have ho := order_c v1 v2 xs ys w h1 h2 l1 l2
  have hd : decide (xs = ys) = (ordL xs ys == 0) := by rw [Bool.eq_iff_iff]; simp [hz]
  rw [hd]
  obtain ⟨A1, c1, rfl, -⟩ := h1
  obtain ⟨A2, c2, rfl, -⟩ := h2
  clear hz hd
  go_enter Tryz.func27, Tryz.ntmps27
  go_wp2_with (go_at_call 72; refine ho.mono ?_)
  rintro e w' ⟨rfl, hk⟩
  go_wp2
  go_ret
  exact ⟨rfl, hk⟩
end Go.Proofs.YthdcfmconpgflaaGreat
