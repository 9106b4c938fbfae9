/- UTF-16's encoder: what it computes, and that its Go text computes just this. -/
import Derived.Test.YthdcfmconpgflaaGreatMach
import Derived.Deep.LoopGhost
import Derived.StillTailTactics
import Derived.RegionCalls
import Derived.Deep.RegionWith
import Derived.Deep.RegionHeld3
import Derived.Deep.QuietTactic
import Derived.BigQuiet
import Derived.Lib.Hide
set_option linter.unusedVariables false
set_option linter.unusedSimpArgs false
namespace Go.Proofs.YthdcfmconpgflaaGreat
open Go.RowKit

def u16u (big : Bool) (u : Int) : List Int := if big then [u / 256, u % 256] else [u % 256, u / 256]
def u16b (big : Bool) (c : Int) : List Int := if c < 65536 then u16u big c else u16u big (55296 + (c - 65536) / 1024) ++ u16u big (56320 + (c - 65536) % 1024)
theorem u16u_byt (big : Bool) (u : Int) (u0 : 0 ≤ u) (u1 : u < 65536) : Byt (u16u big u) := by
  intro y hy
  unfold u16u at hy
  split at hy <;> simp at hy <;> omega
theorem u16u_len (big : Bool) (u : Int) : (u16u big u).length = 2 := by unfold u16u; split <;> rfl

theorem or32x (k : Nat) (x y : Int) (hx : 0 ≤ x) (hx' : x < 4294967296) (hd : x % (2 ^ k : Nat) = 0) (hy : 0 ≤ y) (hy' : y < (2 ^ k : Nat)) (hk : y < 4294967296) : bits .or .u32 x y = x + y := or32 k x y hx hx' hd hy hy' hk
set_option maxRecDepth 100000 in
set_option maxHeartbeats 4000000 in
theorem e16_unit (g : Nat) (big : Bool) (u : Int) (w : World) (h5 : w.cell? ⟨g, 5, none⟩ = some (.bool big)) (u0 : 0 ≤ u) (u1 : u < 65536) :
    Calls Tryz.prog 212 #[.pointer (some ⟨g, 0, none⟩), .int .u32 u] w fun e w' => e = .returned (.string (strOfNums (u16u big u))) ∧ Kept (fun _ => False) w w' := by
  have hw := IntWalk.u8_in (u / 256) (by omega)
  cases big
  · go_enter Tryz.func212, Tryz.ntmps212
    go_wp2
    go_ret
    exact ⟨rfl, (Kept.refl _ w).alloc _⟩
  · go_enter Tryz.func212, Tryz.ntmps212
    go_wp2
    go_ret
    exact ⟨rfl, (Kept.refl _ w).alloc _⟩

set_option maxRecDepth 100000 in
set_option maxHeartbeats 4000000 in
theorem e16_bytes (g : Nat) (big : Bool) (c : Int) (w : World) (h5 : w.cell? ⟨g, 5, none⟩ = some (.bool big)) (c0 : 0 ≤ c) (c1 : c ≤ 1114111) :
    Calls Tryz.prog 211 #[.pointer (some ⟨g, 0, none⟩), .int .u32 c] w fun e w' => e = .returned (.string (strOfNums (u16b big c))) ∧ Kept (fun _ => False) w w' := by
  by_cases h : c < 65536
  · have e1 : u16b big c = u16u big c := by unfold u16b; rw [if_pos h]
    rw [e1]; clear e1
    go_enter Tryz.func211, Tryz.ntmps211
    go_wp2_with (go_at_call 212; refine (e16_unit g big c _ h5 c0 h).mono ?_)
    rintro e w1 ⟨rfl, hk⟩
    go_wp2
    go_ret
    exact ⟨rfl, hk⟩
  · have e1 : u16b big c = u16u big (55296 + (c - 65536) / 1024) ++ u16u big (56320 + (c - 65536) % 1024) := by unfold u16b; rw [if_neg h]
    rw [e1]; clear e1
    obtain ⟨d, hd⟩ : ∃ d, d = c - 65536 := ⟨_, rfl⟩
    have d0 : 0 ≤ d := by omega
    have d1 : d ≤ 1048575 := by omega
    rw [← hd]
    have hx : IntKind.u32.wrap (c - 65536) = d := by rw [hd]; exact IntWalk.u32_in _ (by omega)
    have o1 := or32x 10 55296 (d / 1024) (by omega) (by omega) (by omega) (by omega) (by omega) (by omega)
    have o2 := or32x 10 56320 (d % 1024) (by omega) (by omega) (by omega) (by omega) (by omega) (by omega)
    have o3 : bits .and .u32 d 1023 = d % 1024 := by
      obtain ⟨n, rfl⟩ := Int.eq_ofNat_of_zero_le d0
      rw [show (1023 : Int) = ((1023 : Nat) : Int) from rfl, u32_and_nat n 1023 (by omega) (by decide), show (1023 : Nat) = 2 ^ 10 - 1 from rfl, Nat.and_two_pow_sub_one_eq_mod]
      omega
    have hl1 := u16u_len big (55296 + d / 1024)
    have hl2 := u16u_len big (56320 + d % 1024)
    have hs1 := strOfNums_size (u16u big (55296 + d / 1024))
    have hs2 := strOfNums_size (u16u big (56320 + d % 1024))
    have ha := S_app (u16u big (55296 + d / 1024)) (u16u big (56320 + d % 1024))
    have HU := Lib.hid (fun u w h5 h0 h1 => e16_unit g big u w h5 h0 h1)
    have hcd : c - 65536 = d := hd.symm
    clear hd
    go_enter Tryz.func211, Tryz.ntmps211
    go_wp2_with fail
    refine (e16_unit g big (55296 + d / 1024) _ h5 (by omega) (by omega)).mono ?_
    rintro e w1 ⟨rfl, hk1⟩
    have h5' := hk1.cell h5 id
    go_wp2_with fail
    refine (e16_unit g big (56320 + d % 1024) _ h5' (by omega) (by omega)).mono ?_
    rintro e w2 ⟨rfl, hk2⟩
    go_wp2
    go_ret
    exact ⟨rfl, hk1.trans hk2⟩

def E16.bytes (x : Bool) (c : Int) : List Int × Bool := (u16b x c, x)
def E16.cells (B : DB) (p : List Int) (x : Bool) : Array Value := #[.int .i64 B.at_, .int .i64 B.err, .int .i64 B.fat, .bool B.en, .string (strOfNums p), .bool x]
def E16.Ok (x : Bool) : Prop := True
theorem E16.len (x : Bool) (c : Int) : (E16.bytes x c).1.length ≤ 8 := by
  unfold E16.bytes u16b; simp only; split
  · rw [u16u_len]; decide
  · rw [List.length_append, u16u_len, u16u_len]; decide
theorem E16.Ok.next {x : Bool} (h : E16.Ok x) {c : Int} (hc : isS c = true) (h0 : 0 ≤ c) : E16.Ok (E16.bytes x c).2 := trivial
theorem E16.by (x : Bool) (c : Int) (hx : E16.Ok x) (hs : isS c = true) (h0 : 0 ≤ c) : Byt (E16.bytes x c).1 := by
  have h1 : c ≤ 1114111 := by simp [isS] at hs; omega
  unfold E16.bytes u16b
  simp only
  split
  · exact u16u_byt _ _ h0 (by omega)
  · exact (u16u_byt _ _ (by omega) (by omega)).app (u16u_byt _ _ (by omega) (by omega))
theorem E16.c (g : Nat) (B : DB) (p : List Int) (x : Bool) (c : Int) (w : World) (hb : w.heap[g]? = some (.cells (E16.cells B p x) 170 (0, 0))) (hok : E16.Ok x) (hc : isS c = true) (h0 : 0 ≤ c) :
    Calls Tryz.prog 211 #[.pointer (some ⟨g, 0, none⟩), .int .u32 c] w fun e w' => e = .returned (.string (strOfNums (E16.bytes x c).1)) ∧ w'.heap[g]? = some (.cells (E16.cells B p (E16.bytes x c).2) 170 (0, 0)) ∧ Kept (fun k => k = g) w w' := by
  have h1 : c ≤ 1114111 := by simp [isS] at hc; omega
  refine (e16_bytes g x c w (blk_cell hb 5) h0 h1).mono ?_
  rintro e w' ⟨rfl, hk⟩
  exact ⟨rfl, hk.heap hb id, hk.mono fun _ _ h => h.elim⟩
end Go.Proofs.YthdcfmconpgflaaGreat
