/- The contracts of package crc. -/
import Derived.Test.YthdcfmconpgflaaGreatMach
import Derived.Test.YthdcfmconpgflaaGreatCrcL
import Derived.Deep.LoopGhost
import Derived.Deep.QuietTactic
import Derived.BigQuiet
import Derived.Lib.Hide
set_option linter.unusedVariables false
set_option linter.unusedSimpArgs false
namespace Go.Proofs.YthdcfmconpgflaaGreat
open Go.RowKit

theorem compl32 (a : Nat) (h : a < 4294967296) : bits .xor .u32 IntKind.u32.max (a : Int) = ((4294967295 - a : Nat) : Int) := by
  have : 4294967295 ^^^ a = 4294967295 - a := by
    apply Nat.eq_of_testBit_eq; intro i
    rw [Nat.testBit_xor, show 4294967295 - a = 2 ^ 32 - (a + 1) by omega, Nat.testBit_two_pow_sub_succ (by omega), show (4294967295 : Nat) = 2 ^ 32 - 1 from rfl, Nat.testBit_two_pow_sub_one]
    by_cases hi : i < 32
    · simp [hi]
    · have : a.testBit i = false := Nat.testBit_lt_two_pow (Nat.lt_of_lt_of_le h (show 2 ^ 32 ≤ 2 ^ i from Nat.pow_le_pow_right (by decide) (by omega)))
      simp [hi, this]
  rw [show IntKind.u32.max = ((4294967295 : Nat) : Int) from rfl, u32_xor_nat _ _ (by decide) h, this]
theorem crc_step (x : Nat) (h : x < 4294967296) : bits .xor .u32 ((x : Int) / 2) (bits .and .u32 3988292384 (-bits .and .u32 (x : Int) 1 % 4294967296)) = ((crcBit x : Nat) : Int) := by
  unfold crcBit
  rw [show bits .and .u32 (x : Int) 1 = ((x % 2 : Nat) : Int) by rw [show (1 : Int) = ((1 : Nat) : Int) from rfl, u32_and_nat _ _ h (by decide), Nat.and_one_is_mod]]
  rcases Nat.mod_two_eq_zero_or_one x with h0 | h1
  · rw [if_neg (by omega), h0, show -((0 : Nat) : Int) % 4294967296 = ((0 : Nat) : Int) from by decide, show (3988292384 : Int) = ((3988292384 : Nat) : Int) from rfl, u32_and_nat _ _ (by decide) (by decide), show ((x : Int) / 2) = ((x / 2 : Nat) : Int) by omega, u32_xor_nat _ _ (by omega) (by decide)]
    simp
  · rw [if_pos h1, h1, show -((1 : Nat) : Int) % 4294967296 = ((4294967295 : Nat) : Int) from by decide, show (3988292384 : Int) = ((3988292384 : Nat) : Int) from rfl, u32_and_nat _ _ (by decide) (by decide), show ((x : Int) / 2) = ((x / 2 : Nat) : Int) by omega, u32_xor_nat _ _ (by omega) (by decide)]
    rfl
theorem getD_nat (l : List Int) (hl : Byt l) (k : Nat) : ((l.getD k 0).toNat : Int) = l.getD k 0 := by have := hl.at k; omega

set_option maxRecDepth 100000 in
set_option maxHeartbeats 1000000 in
theorem add_c (b t : Nat) (l : List Int) (w : World) (hc : w.cell? ⟨b, 0, none⟩ = some (.int .u32 (t : Int))) (hf : w.frozen? ⟨b, 0, none⟩ = false) (ht : t < 4294967296) (hl : Byt l) (hlen : l.length ≤ 1000000000) :
    Calls Tryz.prog 122 #[.pointer (some ⟨b, 0, none⟩), .string (strOfNums l)] w fun e w' => e = .returned (.tuple #[]) ∧ w.setCell ⟨b, 0, none⟩ (.int .u32 ((4294967295 - crcRun (4294967295 - t) l : Nat) : Int)) = w' := by
  have hsz := strOfNums_size l
  have hx := compl32 t ht
  have hx0 : 4294967295 - t < 4294967296 := by omega
  go_enter Tryz.func122, Tryz.ntmps122
  go_wp2
  clear hx
  obtain ⟨x0, hx1⟩ : ∃ x0, x0 = 4294967295 - t := ⟨_, rfl⟩
  rw [← hx1] at hx0 ⊢
  have HX0 := Lib.hid hx1
  clear hx1
  go_loop [4, 5] (fun x i => ∃ k : Nat, k ≤ l.length ∧ i = .int .i64 k ∧ x = .int .u32 ((crcRun x0 (l.take k) : Nat) : Int)) (fun _ i => l.length - (intOf i).toNat)
  case atStart => exact ⟨0, Nat.zero_le _, rfl, rfl⟩
  case round =>
    obtain ⟨k, hk, rfl, rfl⟩ := hrel
    by_cases hlt : k < l.length
    · obtain ⟨y, hy⟩ : ∃ y, y = l.getD k 0 := ⟨_, rfl⟩
      have hby := hl.at k
      rw [← hy] at hby
      have hget : ∀ h, (((strOfNums l)[k]'h).toNat : Int) = y := fun h => by rw [S_get hl k h, hy]
      obtain ⟨x1, hx1⟩ : ∃ x1, x1 = crcRun x0 (l.take k) := ⟨_, rfl⟩
      have hx1' : x1 < 4294967296 := by rw [hx1]; exact crcRun_lt _ hx0 (hl.take k)
      have hnext : crcRun x0 (l.take (k + 1)) = crcByte x1 y := by
        rw [List.take_succ_eq_append_getElem hlt, crcRun_snoc, ← hx1, hy, List.getD_eq_getElem?_getD, List.getElem?_eq_getElem hlt]; rfl
      have hxor := u32_xor (x1 : Int) y (by omega) (by omega) hby.1 (by omega)
      rw [Int.toNat_natCast] at hxor
      rw [← hx1]
      have HX := Lib.hid hx1; have HY := Lib.hid hy; have HN := Lib.hid hnext
      clear hx1 hy hnext
      go_wp2
      obtain ⟨z, hz⟩ : ∃ z, z = x1 ^^^ y.toNat := ⟨_, rfl⟩
      have hz1 : z < 4294967296 := by rw [hz]; exact Nat.xor_lt_two_pow (n := 32) hx1' (by omega)
      rw [← hz]
      have HZ := Lib.hid hz
      clear hz hxor hget
      go_loop [4, 23] (fun x j => ∃ m : Nat, m ≤ 8 ∧ j = .int .i64 m ∧ x = .int .u32 ((crcBits m z : Nat) : Int)) (fun _ j => 8 - (intOf j).toNat)
      case atStart => exact ⟨0, Nat.zero_le _, rfl, rfl⟩
      case round =>
        obtain ⟨m, hm, rfl, rfl⟩ := hrel
        obtain ⟨q, hq⟩ : ∃ q, q = crcBits m z := ⟨_, rfl⟩
        have hq1 : q < 4294967296 := by rw [hq]; exact crcBits_lt m hz1
        have hs : crcBits (m + 1) z = crcBit q := by rw [crcBits_succ, hq]
        have hstep := crc_step q hq1
        rw [← hq]
        have HQ := Lib.hid hq; have HS := Lib.hid hs
        clear hq hs
        by_cases h8 : m < 8
        · go_wp2
          go_round
          case rel => exact ⟨m + 1, by omega, by go_num, by rw [HS.out, ← hstep]⟩
          case measure => simp [intOf]; omega
        · have : m = 8 := by omega
          subst this
          clear hstep
          go_wp2
          go_round
          case rel => exact ⟨k + 1, by omega, by go_num, by rw [HN.out, crcByte, ← HZ.out, HQ.out]⟩
          case measure => simp [intOf]; omega
    · have : k = l.length := by omega
      subst this
      rw [List.take_length]
      have hx := compl32 (crcRun x0 l) (crcRun_lt l hx0 hl)
      go_wp2
      go_end0
      exact ⟨rfl, by rw [HX0.out]⟩
theorem now_c (b t : Nat) (w : World) (hc : w.cell? ⟨b, 0, none⟩ = some (.int .u32 (t : Int))) :
    Calls Tryz.prog 123 #[.pointer (some ⟨b, 0, none⟩)] w fun e w' => e = .returned (.int .u32 (t : Int)) ∧ w = w' := by
  go_enter Tryz.func123, Tryz.ntmps123
  go_wp2
  go_ret
  exact ⟨rfl, rfl⟩

set_option maxRecDepth 100000 in
set_option maxHeartbeats 1000000 in
/-- Of one text, handed in as a list of one. -/
theorem of_c (k o c : Nat) (l : List Int) (w : World) (hk : w.cell? ⟨k, o, none⟩ = some (.string (strOfNums l))) (hl : Byt l) (hlen : l.length ≤ 1000000000) :
    Calls Tryz.prog 88 #[.slice (some ⟨k, o, none⟩) 1 c] w fun e w' => e = .returned (.int .u32 (crcOf l : Int)) ∧ Kept (fun _ => False) w w' := by
  have hkl := block_lt_of_cell hk
  go_enter Tryz.func88, Tryz.ntmps88
  go_wp2
  refine wp_loop_rounds 2 ?_
  rw [rounds_succ]
  go_wp2_with (go_at_call 122; refine (add_c w.heap.size 0 l _ (by simp [go_sem]) (by simp [go_sem]) (by decide) hl hlen).mono ?_; rintro e w' ⟨rfl, rfl⟩)
  rw [rounds_succ]
  go_wp2_with (go_at_call 123; refine (now_c w.heap.size (4294967295 - crcRun 4294967295 l) _ (by simp [go_sem])).mono ?_; rintro e w' ⟨rfl, rfl⟩)
  go_ret
  exact ⟨rfl, (Kept.refl _ w).alloc _⟩
theorem or32l (k : Nat) (x y : Int) (hx : 0 ≤ x) (hx' : x < 4294967296) (hd : x % (2 ^ k : Nat) = 0) (hy : 0 ≤ y) (hy' : y < (2 ^ k : Nat)) (hk : y < 4294967296) : bits .or .u32 y x = y + x := by
  obtain ⟨a, rfl⟩ := Int.eq_ofNat_of_zero_le hx
  obtain ⟨b, rfl⟩ := Int.eq_ofNat_of_zero_le hy
  rw [u32_or_nat b a (by omega) (by omega), Nat.or_comm, nat_join k a b (by exact_mod_cast hd) (by exact_mod_cast hy')]
  omega
theorem four_c (n : Int) (w : World) (h0 : 0 ≤ n) (h1 : n < 4294967296) :
    Calls Tryz.prog 91 #[.int .u32 n] w fun e w' => e = .returned (.string (strOfNums (four n))) ∧ Kept (fun _ => False) w w' := by
  have hw := IntWalk.u8_in (n / 16777216) (by omega)
  go_enter Tryz.func91, Tryz.ntmps91
  go_wp2
  go_ret
  exact ⟨rfl, (Kept.refl _ w).alloc _⟩
theorem number_c (l : List Int) (w : World) (hl : Byt l) (hlen : l.length ≤ 1000000000) :
    Calls Tryz.prog 94 #[.string (strOfNums l)] w fun e w' => e = .returned (.int .u32 (numOf l)) ∧ ∃ n, w' = w.drewN n := by
  have hsz := strOfNums_size l
  by_cases h4 : l.length < 4
  · have e1 : numOf l = 0 := if_pos h4
    rw [e1]; clear e1
    go_enter Tryz.func94, Tryz.ntmps94
    go_wp2
    go_ret
    exact ⟨rfl, 0, rfl⟩
  · have e1 : numOf l = l.getD 0 0 + l.getD 1 0 * 256 + l.getD 2 0 * 65536 + l.getD 3 0 * 16777216 := if_neg h4
    rw [e1]; clear e1
    have ha := hl.at 0
    have hb := hl.at 1
    have hc := hl.at 2
    have hd := hl.at 3
    have g0 := S_get hl 0
    have g1 := S_get hl 1
    have g2 := S_get hl 2
    have g3 := S_get hl 3
    obtain ⟨a, ea⟩ : ∃ a, a = l.getD 0 0 := ⟨_, rfl⟩
    obtain ⟨b, eb⟩ : ∃ a, a = l.getD 1 0 := ⟨_, rfl⟩
    obtain ⟨c, ec⟩ : ∃ a, a = l.getD 2 0 := ⟨_, rfl⟩
    obtain ⟨d, ed⟩ : ∃ a, a = l.getD 3 0 := ⟨_, rfl⟩
    rw [← ea] at ha g0 ⊢
    rw [← eb] at hb g1 ⊢
    rw [← ec] at hc g2 ⊢
    rw [← ed] at hd g3 ⊢
    clear ea eb ec ed
    have o1 := or32l 8 (b * 256) a (by omega) (by omega) (by omega) (by omega) (by omega) (by omega)
    have o2 := or32l 16 (c * 65536) (a + b * 256) (by omega) (by omega) (by omega) (by omega) (by omega) (by omega)
    have o3 := or32l 24 (d * 16777216) (a + b * 256 + c * 65536) (by omega) (by omega) (by omega) (by omega) (by omega) (by omega)
    obtain ⟨n, hn⟩ : ∃ n, n = l.length := ⟨_, rfl⟩
    have hn4 : 4 ≤ n := by omega
    rw [← hn] at hsz hlen
    clear hn h4
    go_enter Tryz.func94, Tryz.ntmps94
    go_wp2
    go_quiet (fail)
    go_wp2
    go_ret
    exact ⟨rfl, nq, rfl⟩
theorem is_sum (k : Int) (l : List Int) (w : World) (hl : Byt l) (hlen : l.length ≤ 1000000000) :
    Calls Tryz.prog 96 #[.string (strOfNums l), .int .u32 k] w fun e w' => e = .returned (.bool ((crcOf l : Int) == k)) ∧ Kept (fun _ => False) w w' := by
  go_enter Tryz.func96, Tryz.ntmps96
  go_wp2_with (go_at_call 88; refine (of_c w.heap.size 0 1 l _ (by simp [go_sem]) hl hlen).mono ?_)
  rintro e w' ⟨rfl, hk⟩
  go_wp2
  go_ret
  exact ⟨rfl, ((Kept.refl _ w).alloc _).trans hk⟩
end Go.Proofs.YthdcfmconpgflaaGreat
