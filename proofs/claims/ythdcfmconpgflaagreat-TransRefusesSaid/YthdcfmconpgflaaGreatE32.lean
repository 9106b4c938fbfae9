/- UTF-32's encoder: what it computes, and that its Go text computes just this. -/
import Derived.Test.YthdcfmconpgflaaGreatMach
import Derived.Deep.LoopGhost
import Derived.StillTailTactics
import Derived.RegionCalls
import Derived.Deep.RegionWith
import Derived.Deep.RegionHeld3
import Derived.Deep.QuietTactic
import Derived.BigQuiet
import Derived.Lib.Hide
set_option linter.unusedVariables false
set_option linter.unusedSimpArgs false
namespace Go.Proofs.YthdcfmconpgflaaGreat
open Go.RowKit

def u32b (big : Bool) (c : Int) : List Int := if big then [c / 16777216, c / 65536 % 256, c / 256 % 256, c % 256] else [c % 256, c / 256 % 256, c / 65536 % 256, c / 16777216]
theorem u32b_len (big : Bool) (c : Int) : (u32b big c).length = 4 := by unfold u32b; split <;> rfl

set_option maxRecDepth 100000 in
set_option maxHeartbeats 4000000 in
theorem e32_bytes (g : Nat) (big : Bool) (c : Int) (w : World) (h5 : w.cell? ⟨g, 5, none⟩ = some (.bool big)) (c0 : 0 ≤ c) (c1 : c ≤ 1114111) :
    Calls Tryz.prog 214 #[.pointer (some ⟨g, 0, none⟩), .int .u32 c] w fun e w' => e = .returned (.string (strOfNums (u32b big c))) ∧ Kept (fun _ => False) w w' := by
  have hw := IntWalk.u8_in (c / 16777216) (by omega)
  have hm : c / 65536 % 256 = c / 65536 := by omega
  unfold u32b
  rw [hm]
  clear hm
  cases big
  all_goals
    go_enter Tryz.func214, Tryz.ntmps214
    go_wp2
    go_ret
    exact ⟨rfl, (Kept.refl _ w).alloc _⟩

def E32.bytes (x : Bool) (c : Int) : List Int × Bool := (u32b x c, x)
def E32.cells (B : DB) (p : List Int) (x : Bool) : Array Value := #[.int .i64 B.at_, .int .i64 B.err, .int .i64 B.fat, .bool B.en, .string (strOfNums p), .bool x]
def E32.Ok (x : Bool) : Prop := True
theorem E32.len (x : Bool) (c : Int) : (E32.bytes x c).1.length ≤ 8 := by
  unfold E32.bytes; simp only; rw [u32b_len]; decide
theorem E32.Ok.next {x : Bool} (h : E32.Ok x) {c : Int} (hc : isS c = true) (h0 : 0 ≤ c) : E32.Ok (E32.bytes x c).2 := trivial
theorem E32.by (x : Bool) (c : Int) (hx : E32.Ok x) (hs : isS c = true) (h0 : 0 ≤ c) : Byt (E32.bytes x c).1 := by
  have h1 : c ≤ 1114111 := by simp [isS] at hs; omega
  unfold E32.bytes u32b
  simp only
  intro y hy
  split at hy <;> simp at hy <;> omega
theorem E32.c (g : Nat) (B : DB) (p : List Int) (x : Bool) (c : Int) (w : World) (hb : w.heap[g]? = some (.cells (E32.cells B p x) 172 (0, 0))) (hok : E32.Ok x) (hc : isS c = true) (h0 : 0 ≤ c) :
    Calls Tryz.prog 214 #[.pointer (some ⟨g, 0, none⟩), .int .u32 c] w fun e w' => e = .returned (.string (strOfNums (E32.bytes x c).1)) ∧ w'.heap[g]? = some (.cells (E32.cells B p (E32.bytes x c).2) 172 (0, 0)) ∧ Kept (fun k => k = g) w w' := by
  have h1 : c ≤ 1114111 := by simp [isS] at hc; omega
  refine (e32_bytes g x c w (blk_cell hb 5) h0 h1).mono ?_
  rintro e w' ⟨rfl, hk⟩
  exact ⟨rfl, hk.heap hb id, hk.mono fun _ _ h => h.elim⟩
end Go.Proofs.YthdcfmconpgflaaGreat
