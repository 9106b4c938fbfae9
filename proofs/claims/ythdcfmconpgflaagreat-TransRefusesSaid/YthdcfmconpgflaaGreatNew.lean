/- What the makers of machines lay: a block for each machine, and its table or its windows. -/
import Derived.Test.YthdcfmconpgflaaGreatIface
import Derived.Test.YthdcfmconpgflaaGreatPerm
set_option linter.unusedVariables false
set_option linter.unusedSimpArgs false
namespace Go.Proofs.YthdcfmconpgflaaGreat
open Go.RowKit

/-- The windows at the beginning. -/
def winC0 : Array Value := #[.int .u32 128, .int .u32 192, .int .u32 1024, .int .u32 1536, .int .u32 2304, .int .u32 12352, .int .u32 12448, .int .u32 65280, .int .i64 7, .int .i64 6, .int .i64 5, .int .i64 4, .int .i64 3, .int .i64 2, .int .i64 1, .int .i64 0]
set_option maxRecDepth 100000 in
set_option maxHeartbeats 4000000 in
theorem wnew_c (w : World) : Calls Tryz.prog 98 #[] w fun e w' => e = .returned (.pointer (some ⟨w.heap.size, 0, none⟩)) ∧ w'.heap[w.heap.size]? = some (.cells winC0 238 (0, 0)) ∧ Kept (fun _ => False) w w' := by
  go_enter Tryz.func98, Tryz.ntmps98
  go_wp2
  go_ret
  exact ⟨rfl, blk_new _ _, (Kept.refl _ w).alloc _⟩

/-- What NewEncoder, NewDecoder hand out: a machine at a new block. -/
def Made (f : FuncId) (c : Int) (T : TypeId) (P : Nat → World → Prop) : Prop :=
  ∀ w, Calls Tryz.prog f #[.int .i64 c] w fun e w' => ∃ g, e = .returned (.tuple #[.iface T (.pointer (some ⟨g, 0, none⟩)), .int .i64 0]) ∧ P g w' ∧ w.heap.size ≤ g ∧ Kept (fun _ => False) w w'
set_option maxRecDepth 100000 in
set_option maxHeartbeats 4000000 in
theorem madeE1 : Made 23 1 106 fun g w => w.heap[g]? = some (.cells #[.int .i64 0, .int .i64 0, .int .i64 0, .bool false, .string ⟨#[]⟩] 168 (0, 0)) := by
  intro w
  go_enter Tryz.func23, Tryz.ntmps23
  go_wp2
  go_ret2
  exact ⟨_, rfl, blk_new _ _, Nat.le_refl _, (Kept.refl _ w).alloc _⟩
set_option maxRecDepth 100000 in
set_option maxHeartbeats 4000000 in
theorem madeE2 : Made 23 2 108 fun g w => w.heap[g]? = some (.cells #[.int .i64 0, .int .i64 0, .int .i64 0, .bool false, .string ⟨#[]⟩, .bool true] 170 (0, 0)) := by
  intro w
  go_enter Tryz.func23, Tryz.ntmps23
  go_wp2
  go_ret2
  exact ⟨_, rfl, blk_new _ _, Nat.le_refl _, (Kept.refl _ w).alloc _⟩
set_option maxRecDepth 100000 in
set_option maxHeartbeats 4000000 in
theorem madeE3 : Made 23 3 108 fun g w => w.heap[g]? = some (.cells #[.int .i64 0, .int .i64 0, .int .i64 0, .bool false, .string ⟨#[]⟩, .bool false] 170 (0, 0)) := by
  intro w
  go_enter Tryz.func23, Tryz.ntmps23
  go_wp2
  go_ret2
  exact ⟨_, rfl, blk_new _ _, Nat.le_refl _, (Kept.refl _ w).alloc _⟩
set_option maxRecDepth 100000 in
set_option maxHeartbeats 4000000 in
theorem madeE4 : Made 23 4 110 fun g w => w.heap[g]? = some (.cells #[.int .i64 0, .int .i64 0, .int .i64 0, .bool false, .string ⟨#[]⟩, .bool true] 172 (0, 0)) := by
  intro w
  go_enter Tryz.func23, Tryz.ntmps23
  go_wp2
  go_ret2
  exact ⟨_, rfl, blk_new _ _, Nat.le_refl _, (Kept.refl _ w).alloc _⟩
set_option maxRecDepth 100000 in
set_option maxHeartbeats 4000000 in
theorem madeE5 : Made 23 5 110 fun g w => w.heap[g]? = some (.cells #[.int .i64 0, .int .i64 0, .int .i64 0, .bool false, .string ⟨#[]⟩, .bool false] 172 (0, 0)) := by
  intro w
  go_enter Tryz.func23, Tryz.ntmps23
  go_wp2
  go_ret2
  exact ⟨_, rfl, blk_new _ _, Nat.le_refl _, (Kept.refl _ w).alloc _⟩
set_option maxRecDepth 100000 in
set_option maxHeartbeats 4000000 in
theorem madeE7 : Made 23 7 114 fun g w => w.heap[g]? = some (.cells #[.int .i64 0, .int .i64 0, .int .i64 0, .bool false, .string ⟨#[]⟩, .slice none 0 0] 179 (0, 0)) := by
  intro w
  go_enter Tryz.func23, Tryz.ntmps23
  go_wp2
  go_ret2
  exact ⟨_, rfl, blk_new _ _, Nat.le_refl _, (Kept.refl _ w).alloc _⟩
set_option maxRecDepth 100000 in
set_option maxHeartbeats 4000000 in
theorem madeE8 : Made 23 8 116 fun g w => w.heap[g]? = some (.cells #[.int .i64 0, .int .i64 0, .int .i64 0, .bool false, .string ⟨#[]⟩, .int .u32 64] 181 (0, 0)) := by
  intro w
  go_enter Tryz.func23, Tryz.ntmps23
  go_wp2
  go_ret2
  exact ⟨_, rfl, blk_new _ _, Nat.le_refl _, (Kept.refl _ w).alloc _⟩
set_option maxRecDepth 100000 in
set_option maxHeartbeats 4000000 in
theorem madeD1 : Made 24 1 120 fun g w => w.heap[g]? = some (.cells #[.int .i64 0, .int .i64 0, .int .i64 0, .bool false, .slice none 0 0, .int .i64 0, .int .u8 0, .int .u8 0, .int .u32 0] 191 (0, 0)) := by
  intro w
  go_enter Tryz.func24, Tryz.ntmps24
  go_wp2
  go_ret2
  exact ⟨_, rfl, blk_new _ _, Nat.le_refl _, (Kept.refl _ w).alloc _⟩
set_option maxRecDepth 100000 in
set_option maxHeartbeats 4000000 in
theorem madeD2 : Made 24 2 122 fun g w => w.heap[g]? = some (.cells #[.int .i64 0, .int .i64 0, .int .i64 0, .bool false, .slice none 0 0, .bool true, .bool false, .int .u8 0, .int .u32 0] 193 (0, 0)) := by
  intro w
  go_enter Tryz.func24, Tryz.ntmps24
  go_wp2
  go_ret2
  exact ⟨_, rfl, blk_new _ _, Nat.le_refl _, (Kept.refl _ w).alloc _⟩
set_option maxRecDepth 100000 in
set_option maxHeartbeats 4000000 in
theorem madeD3 : Made 24 3 122 fun g w => w.heap[g]? = some (.cells #[.int .i64 0, .int .i64 0, .int .i64 0, .bool false, .slice none 0 0, .bool false, .bool false, .int .u8 0, .int .u32 0] 193 (0, 0)) := by
  intro w
  go_enter Tryz.func24, Tryz.ntmps24
  go_wp2
  go_ret2
  exact ⟨_, rfl, blk_new _ _, Nat.le_refl _, (Kept.refl _ w).alloc _⟩
set_option maxRecDepth 100000 in
set_option maxHeartbeats 4000000 in
theorem madeD4 : Made 24 4 124 fun g w => w.heap[g]? = some (.cells #[.int .i64 0, .int .i64 0, .int .i64 0, .bool false, .slice none 0 0, .bool true, .int .i64 0, .int .u32 0] 195 (0, 0)) := by
  intro w
  go_enter Tryz.func24, Tryz.ntmps24
  go_wp2
  go_ret2
  exact ⟨_, rfl, blk_new _ _, Nat.le_refl _, (Kept.refl _ w).alloc _⟩
set_option maxRecDepth 100000 in
set_option maxHeartbeats 4000000 in
theorem madeD5 : Made 24 5 124 fun g w => w.heap[g]? = some (.cells #[.int .i64 0, .int .i64 0, .int .i64 0, .bool false, .slice none 0 0, .bool false, .int .i64 0, .int .u32 0] 195 (0, 0)) := by
  intro w
  go_enter Tryz.func24, Tryz.ntmps24
  go_wp2
  go_ret2
  exact ⟨_, rfl, blk_new _ _, Nat.le_refl _, (Kept.refl _ w).alloc _⟩
set_option maxRecDepth 100000 in
set_option maxHeartbeats 4000000 in
theorem madeD7 : Made 24 7 128 fun g w => w.heap[g]? = some (.cells #[.int .i64 0, .int .i64 0, .int .i64 0, .bool false, .slice none 0 0, .slice none 0 0] 201 (0, 0)) := by
  intro w
  go_enter Tryz.func24, Tryz.ntmps24
  go_wp2
  go_ret2
  exact ⟨_, rfl, blk_new _ _, Nat.le_refl _, (Kept.refl _ w).alloc _⟩
set_option maxRecDepth 100000 in
set_option maxHeartbeats 4000000 in
theorem madeD8 : Made 24 8 130 fun g w => w.heap[g]? = some (.cells #[.int .i64 0, .int .i64 0, .int .i64 0, .bool false, .slice none 0 0, .int .u32 64, .string ⟨#[]⟩] 203 (0, 0)) := by
  intro w
  go_enter Tryz.func24, Tryz.ntmps24
  go_wp2
  go_ret2
  exact ⟨_, rfl, blk_new _ _, Nat.le_refl _, (Kept.refl _ w).alloc _⟩
set_option maxRecDepth 100000 in
set_option maxHeartbeats 4000000 in
theorem madeE6_in (w : World) : Calls Tryz.prog 59 #[] w fun e w' => ∃ g q, e = .returned (.pointer (some ⟨g, 0, none⟩)) ∧ w'.heap[g]? = some (.cells #[.int .i64 0, .int .i64 0, .int .i64 0, .bool false, .string ⟨#[]⟩, .pointer (some ⟨q, 0, none⟩)] 177 (0, 0)) ∧ w'.heap[q]? = some (.cells (tabC ebTo ebFrom) 231 (0, 0)) ∧ w.heap.size ≤ q ∧ q < g ∧ Kept (fun _ => False) w w' := by
  have hp := perm_c w
  go_enter Tryz.func59, Tryz.ntmps59
  go_wp2_with (go_at_call 97; refine hp.mono ?_)
  rintro e w1 ⟨rfl, hb, hk⟩
  go_wp2
  go_ret
  exact ⟨_, _, rfl, blk_new _ _, blk_alloc hb _, Nat.le_refl _, blk_lt hb, hk.alloc _⟩
set_option maxRecDepth 100000 in
set_option maxHeartbeats 4000000 in
theorem madeE6 : Made 23 6 112 fun g w => ∃ q, w.heap[g]? = some (.cells #[.int .i64 0, .int .i64 0, .int .i64 0, .bool false, .string ⟨#[]⟩, .pointer (some ⟨q, 0, none⟩)] 177 (0, 0)) ∧ w.heap[q]? = some (.cells (tabC ebTo ebFrom) 231 (0, 0)) ∧ q ≠ g := by
  intro w
  have hp := madeE6_in w
  go_enter Tryz.func23, Tryz.ntmps23
  go_wp2_with fail
  refine hp.mono ?_
  rintro e w1 ⟨g, q, rfl, hb, hq, h1, h2, hk⟩
  go_wp2
  go_ret2
  exact ⟨_, rfl, ⟨q, hb, hq, by omega⟩, by omega, hk⟩
set_option maxRecDepth 100000 in
set_option maxHeartbeats 4000000 in
theorem madeD6_in (w : World) : Calls Tryz.prog 66 #[] w fun e w' => ∃ g q, e = .returned (.pointer (some ⟨g, 0, none⟩)) ∧ w'.heap[g]? = some (.cells #[.int .i64 0, .int .i64 0, .int .i64 0, .bool false, .slice none 0 0, .int .i64 0, .int .u8 0, .int .u32 0, .bool false, .pointer (some ⟨q, 0, none⟩)] 199 (0, 0)) ∧ w'.heap[q]? = some (.cells (tabC ebTo ebFrom) 231 (0, 0)) ∧ w.heap.size ≤ q ∧ q < g ∧ Kept (fun _ => False) w w' := by
  have hp := perm_c w
  go_enter Tryz.func66, Tryz.ntmps66
  go_wp2_with (go_at_call 97; refine hp.mono ?_)
  rintro e w1 ⟨rfl, hb, hk⟩
  go_wp2
  go_ret
  exact ⟨_, _, rfl, blk_new _ _, blk_alloc hb _, Nat.le_refl _, blk_lt hb, hk.alloc _⟩
set_option maxRecDepth 100000 in
set_option maxHeartbeats 4000000 in
theorem madeD6 : Made 24 6 126 fun g w => ∃ q, w.heap[g]? = some (.cells #[.int .i64 0, .int .i64 0, .int .i64 0, .bool false, .slice none 0 0, .int .i64 0, .int .u8 0, .int .u32 0, .bool false, .pointer (some ⟨q, 0, none⟩)] 199 (0, 0)) ∧ w.heap[q]? = some (.cells (tabC ebTo ebFrom) 231 (0, 0)) ∧ q ≠ g := by
  intro w
  have hp := madeD6_in w
  go_enter Tryz.func24, Tryz.ntmps24
  go_wp2_with fail
  refine hp.mono ?_
  rintro e w1 ⟨g, q, rfl, hb, hq, h1, h2, hk⟩
  go_wp2
  go_ret2
  exact ⟨_, rfl, ⟨q, hb, hq, by omega⟩, by omega, hk⟩
set_option maxRecDepth 100000 in
set_option maxHeartbeats 4000000 in
theorem madeE9_in (w : World) : Calls Tryz.prog 62 #[.bool false] w fun e w' => ∃ g q, e = .returned (.pointer (some ⟨g, 0, none⟩)) ∧ w'.heap[g]? = some (.cells #[.int .i64 0, .int .i64 0, .int .i64 0, .bool false, .string ⟨#[]⟩, .bool false, .pointer (some ⟨q, 0, none⟩), .bool false, .int .i64 0, .bool false, .int .u32 2147483648] 185 (0, 0)) ∧ w'.heap[q]? = some (.cells winC0 238 (0, 0)) ∧ w.heap.size ≤ q ∧ q < g ∧ Kept (fun _ => False) w w' := by
  have hp := wnew_c w
  go_enter Tryz.func62, Tryz.ntmps62
  go_wp2_with (go_at_call 98; refine hp.mono ?_)
  rintro e w1 ⟨rfl, hb, hk⟩
  go_wp2
  go_ret
  exact ⟨_, _, rfl, blk_new _ _, blk_alloc hb _, Nat.le_refl _, blk_lt hb, hk.alloc _⟩
set_option maxRecDepth 100000 in
set_option maxHeartbeats 4000000 in
theorem madeE9 : Made 23 9 118 fun g w => ∃ q, w.heap[g]? = some (.cells #[.int .i64 0, .int .i64 0, .int .i64 0, .bool false, .string ⟨#[]⟩, .bool false, .pointer (some ⟨q, 0, none⟩), .bool false, .int .i64 0, .bool false, .int .u32 2147483648] 185 (0, 0)) ∧ w.heap[q]? = some (.cells winC0 238 (0, 0)) ∧ q ≠ g := by
  intro w
  have hp := madeE9_in w
  go_enter Tryz.func23, Tryz.ntmps23
  go_wp2_with fail
  refine hp.mono ?_
  rintro e w1 ⟨g, q, rfl, hb, hq, h1, h2, hk⟩
  go_wp2
  go_ret2
  exact ⟨_, rfl, ⟨q, hb, hq, by omega⟩, by omega, hk⟩
set_option maxRecDepth 100000 in
set_option maxHeartbeats 4000000 in
theorem madeE10_in (w : World) : Calls Tryz.prog 62 #[.bool true] w fun e w' => ∃ g q, e = .returned (.pointer (some ⟨g, 0, none⟩)) ∧ w'.heap[g]? = some (.cells #[.int .i64 0, .int .i64 0, .int .i64 0, .bool false, .string ⟨#[]⟩, .bool true, .pointer (some ⟨q, 0, none⟩), .bool false, .int .i64 0, .bool false, .int .u32 2147483648] 185 (0, 0)) ∧ w'.heap[q]? = some (.cells winC0 238 (0, 0)) ∧ w.heap.size ≤ q ∧ q < g ∧ Kept (fun _ => False) w w' := by
  have hp := wnew_c w
  go_enter Tryz.func62, Tryz.ntmps62
  go_wp2_with (go_at_call 98; refine hp.mono ?_)
  rintro e w1 ⟨rfl, hb, hk⟩
  go_wp2
  go_ret
  exact ⟨_, _, rfl, blk_new _ _, blk_alloc hb _, Nat.le_refl _, blk_lt hb, hk.alloc _⟩
set_option maxRecDepth 100000 in
set_option maxHeartbeats 4000000 in
theorem madeE10 : Made 23 10 118 fun g w => ∃ q, w.heap[g]? = some (.cells #[.int .i64 0, .int .i64 0, .int .i64 0, .bool false, .string ⟨#[]⟩, .bool true, .pointer (some ⟨q, 0, none⟩), .bool false, .int .i64 0, .bool false, .int .u32 2147483648] 185 (0, 0)) ∧ w.heap[q]? = some (.cells winC0 238 (0, 0)) ∧ q ≠ g := by
  intro w
  have hp := madeE10_in w
  go_enter Tryz.func23, Tryz.ntmps23
  go_wp2_with fail
  refine hp.mono ?_
  rintro e w1 ⟨g, q, rfl, hb, hq, h1, h2, hk⟩
  go_wp2
  go_ret2
  exact ⟨_, rfl, ⟨q, hb, hq, by omega⟩, by omega, hk⟩
set_option maxRecDepth 100000 in
set_option maxHeartbeats 4000000 in
theorem madeD9_in (w : World) : Calls Tryz.prog 69 #[] w fun e w' => ∃ g q, e = .returned (.pointer (some ⟨g, 0, none⟩)) ∧ w'.heap[g]? = some (.cells #[.int .i64 0, .int .i64 0, .int .i64 0, .bool false, .slice none 0 0, .pointer (some ⟨q, 0, none⟩), .bool false, .int .i64 0, .int .i64 0, .int .i64 0, .int .u8 0, .int .u32 0] 205 (0, 0)) ∧ w'.heap[q]? = some (.cells winC0 238 (0, 0)) ∧ w.heap.size ≤ q ∧ q < g ∧ Kept (fun _ => False) w w' := by
  have hp := wnew_c w
  go_enter Tryz.func69, Tryz.ntmps69
  go_wp2_with (go_at_call 98; refine hp.mono ?_)
  rintro e w1 ⟨rfl, hb, hk⟩
  go_wp2
  go_ret
  exact ⟨_, _, rfl, blk_new _ _, blk_alloc hb _, Nat.le_refl _, blk_lt hb, hk.alloc _⟩
set_option maxRecDepth 100000 in
set_option maxHeartbeats 4000000 in
theorem madeD9 : Made 24 9 132 fun g w => ∃ q, w.heap[g]? = some (.cells #[.int .i64 0, .int .i64 0, .int .i64 0, .bool false, .slice none 0 0, .pointer (some ⟨q, 0, none⟩), .bool false, .int .i64 0, .int .i64 0, .int .i64 0, .int .u8 0, .int .u32 0] 205 (0, 0)) ∧ w.heap[q]? = some (.cells winC0 238 (0, 0)) ∧ q ≠ g := by
  intro w
  have hp := madeD9_in w
  go_enter Tryz.func24, Tryz.ntmps24
  go_wp2_with fail
  refine hp.mono ?_
  rintro e w1 ⟨g, q, rfl, hb, hq, h1, h2, hk⟩
  go_wp2
  go_ret2
  exact ⟨_, rfl, ⟨q, hb, hq, by omega⟩, by omega, hk⟩
set_option maxRecDepth 100000 in
set_option maxHeartbeats 4000000 in
theorem madeD10 : Made 24 10 132 fun g w => ∃ q, w.heap[g]? = some (.cells #[.int .i64 0, .int .i64 0, .int .i64 0, .bool false, .slice none 0 0, .pointer (some ⟨q, 0, none⟩), .bool false, .int .i64 0, .int .i64 0, .int .i64 0, .int .u8 0, .int .u32 0] 205 (0, 0)) ∧ w.heap[q]? = some (.cells winC0 238 (0, 0)) ∧ q ≠ g := by
  intro w
  have hp := madeD9_in w
  go_enter Tryz.func24, Tryz.ntmps24
  go_wp2_with fail
  refine hp.mono ?_
  rintro e w1 ⟨g, q, rfl, hb, hq, h1, h2, hk⟩
  go_wp2
  go_ret2
  exact ⟨_, rfl, ⟨q, hb, hq, by omega⟩, by omega, hk⟩
set_option maxRecDepth 100000 in
set_option maxHeartbeats 4000000 in
theorem noNewEncoder (c : Int) (h : c < 1 ∨ 10 < c) (w : World) : Calls Tryz.prog 23 #[.int .i64 c] w fun e w' => e = .returned (.tuple #[.nilIface, .int .i64 11]) ∧ w = w' := by
  have hd : ∀ k : Int, 1 ≤ k → k ≤ 10 → (c == k) = false := fun k h1 h2 => by simp; omega
  have k1 := hd 1 (by decide) (by decide)
  have k2 := hd 2 (by decide) (by decide)
  have k3 := hd 3 (by decide) (by decide)
  have k4 := hd 4 (by decide) (by decide)
  have k5 := hd 5 (by decide) (by decide)
  have k6 := hd 6 (by decide) (by decide)
  have k7 := hd 7 (by decide) (by decide)
  have k8 := hd 8 (by decide) (by decide)
  have k9 := hd 9 (by decide) (by decide)
  have k10 := hd 10 (by decide) (by decide)
  clear hd h
  go_enter Tryz.func23, Tryz.ntmps23
  go_wp2
  go_ret2
  exact ⟨rfl, rfl⟩
set_option maxRecDepth 100000 in
set_option maxHeartbeats 4000000 in
theorem noNewDecoder (c : Int) (h : c < 1 ∨ 10 < c) (w : World) : Calls Tryz.prog 24 #[.int .i64 c] w fun e w' => e = .returned (.tuple #[.nilIface, .int .i64 11]) ∧ w = w' := by
  have hd : ∀ k : Int, 1 ≤ k → k ≤ 10 → (c == k) = false := fun k h1 h2 => by simp; omega
  have k1 := hd 1 (by decide) (by decide)
  have k2 := hd 2 (by decide) (by decide)
  have k3 := hd 3 (by decide) (by decide)
  have k4 := hd 4 (by decide) (by decide)
  have k5 := hd 5 (by decide) (by decide)
  have k6 := hd 6 (by decide) (by decide)
  have k7 := hd 7 (by decide) (by decide)
  have k8 := hd 8 (by decide) (by decide)
  have k9 := hd 9 (by decide) (by decide)
  have k10 := hd 10 (by decide) (by decide)
  clear hd h
  go_enter Tryz.func24, Tryz.ntmps24
  go_wp2
  go_ret2
  exact ⟨rfl, rfl⟩
end Go.Proofs.YthdcfmconpgflaaGreat
