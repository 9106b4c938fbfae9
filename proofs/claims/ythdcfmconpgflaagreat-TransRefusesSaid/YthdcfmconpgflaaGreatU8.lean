/- UTF-8's decoder: what it computes, and that its Go text computes just this. -/
import Derived.Test.YthdcfmconpgflaaGreatMach
import Derived.Deep.LoopGhost
import Derived.StillTailTactics
import Derived.Deep.RegionWith
import Derived.Deep.RegionHeld3
import Derived.Deep.QuietTactic
import Derived.BigQuiet
import Derived.Lib.Hide
set_option linter.unusedVariables false
set_option linter.unusedSimpArgs false
namespace Go.Proofs.YthdcfmconpgflaaGreat
open Go.RowKit

structure U8 where
  need : Int
  lo : Int
  hi : Int
  c : Int
def U8.lead (d : U8) (b : Int) : Bool × U8 :=
  if b < 194 ∨ 244 < b then (false, { d with lo := 128, hi := 191 })
  else
    let lo := if b = 224 then 160 else if b = 240 then 144 else 128
    let hi := if b = 237 then 159 else if b = 244 then 143 else 191
    if b < 224 then (true, ⟨1, lo, hi, b % 32⟩) else if b < 240 then (true, ⟨2, lo, hi, b % 16⟩) else (true, ⟨3, lo, hi, b % 8⟩)
def U8.next (d : U8) (b : Int) : Bool × U8 × List Int :=
  if d.need = 0 then
    if b < 128 then (true, d, [b]) else ((d.lead b).1, (d.lead b).2, [])
  else if b < d.lo ∨ d.hi < b then (false, d, [])
  else (true, ⟨d.need - 1, 128, 191, d.c * 64 + b % 64⟩, if d.need - 1 = 0 then [d.c * 64 + b % 64] else [])
structure U8.Ok (d : U8) : Prop where
  n0 : 0 ≤ d.need
  n3 : d.need ≤ 3
  l0 : 0 ≤ d.lo
  l1 : d.lo ≤ 255
  h0 : 0 ≤ d.hi
  h1 : d.hi ≤ 255
  c0 : 0 ≤ d.c
  c1 : d.c < 2097152
  c2 : 3 ≤ d.need → d.c < 8
  c3 : 2 ≤ d.need → d.c < 512
  c4 : 1 ≤ d.need → d.c < 32768
def U8.cells (B : DB) (v : Value) (d : U8) : Array Value := #[.int .i64 B.at_, .int .i64 B.err, .int .i64 B.fat, .bool B.en, v, .int .i64 d.need, .int .u8 d.lo, .int .u8 d.hi, .int .u32 d.c]

set_option maxHeartbeats 800000 in
theorem u8_lead (g : Nat) (B : DB) (v : Value) (d : U8) (b : Int) (w : World) (hb : w.heap[g]? = some (.cells (d.cells B v) 191 (0, 0))) (b0 : 0 ≤ b) (b1 : b ≤ 255) :
    Calls Tryz.prog 294 #[.pointer (some ⟨g, 0, none⟩), .int .u8 b] w fun e w' => e = .returned (.bool (d.lead b).1) ∧ w'.heap[g]? = some (.cells ((d.lead b).2.cells B v) 191 (0, 0)) ∧ Kept (fun k => k = g) w w' := by
  obtain ⟨need, lo, hi, c⟩ := d
  unfold U8.cells at hb
  have hc := blk_cell hb
  have hf := blk_free hb
  go_enter Tryz.func294, Tryz.ntmps294
  go_wp2
  all_goals go_ret
  all_goals go_tidy
  all_goals simp only [beq_iff_eq, beq_eq_false_iff_ne, ne_eq] at *
  all_goals
    refine ⟨?_, ?_, ?_⟩
    · unfold U8.lead; (repeat' split) <;> first | (exfalso; omega) | rfl
    · simp only [heap_put, hb, Option.map_some, Obj.put]
      unfold U8.lead U8.cells; (repeat' split) <;> first | (exfalso; omega) | rfl
    · repeat' (first | with_reducible refine Kept.set1 ?_ _ _ ?_ _ | with_reducible exact Kept.refl _ _ | exact rfl)

/-- What 'next' leaves. -/
def U8.Next (g base : Nat) (B : DB) (xs : List Int) (r : Bool × U8 × List Int) (w : World) (e : Ending) (w' : World) : Prop :=
  ∃ v', e = .returned (.bool r.1) ∧ w'.heap[g]? = some (.cells (r.2.1.cells B v') 191 (0, 0)) ∧ Row w' base 47 .u32 v' (xs ++ r.2.2) ∧ Kept (fun k => k = g ∨ base ≤ k) w w'

set_option maxRecDepth 100000 in
set_option maxHeartbeats 800000 in
theorem u8_next (g base : Nat) (B : DB) (v : Value) (xs : List Int) (d : U8) (b : Int) (w : World) (hb : w.heap[g]? = some (.cells (d.cells B v) 191 (0, 0))) (b0 : 0 ≤ b) (b1 : b ≤ 255)
    (hr : Row w base 47 .u32 v xs) (hlen : xs.length ≤ 1000000000) (hbase : base ≤ w.heap.size) (hg : g < base) (hok : d.Ok) :
    Calls Tryz.prog 291 #[.pointer (some ⟨g, 0, none⟩), .int .u8 b] w (U8.Next g base B xs (d.next b) w) := by
  have hlead := u8_lead g B v d b w hb b0 b1
  have hgs := blk_lt hb
  obtain ⟨need, lo, hi, c⟩ := d
  obtain ⟨n0, n3, l0, l1, h0, h1, c0, c1, c2, c3, c4⟩ := hok
  simp only at n0 n3 l0 l1 h0 h1 c0 c1 c2 c3 c4
  have hc := blk_cell hb
  have hf := blk_free hb
  simp only [U8.cells] at hc
  by_cases hn : need = 0
  · subst hn
    by_cases hb8 : b < 128
    · have e1 : U8.next ⟨0, lo, hi, c⟩ b = (true, ⟨0, lo, hi, c⟩, [b]) := by simp [U8.next, hb8]
      rw [e1]; clear e1 hlead
      go_enter Tryz.func291, Tryz.ntmps291
      go_wp2_with (go_at_call 293; refine (hold_c g _ _ _ base b v xs _ (blk_alloc hb _) rfl (blk_new _ _) (hr.alloc _) hlen (by simp; omega) hg).mono ?_; rintro e w' ⟨rfl, v', hb', hr', hk'⟩)
      go_ret
      exact ⟨v', rfl, hb', hr', ((Kept.refl _ w).alloc _).trans hk'⟩
    · have e1 : U8.next ⟨0, lo, hi, c⟩ b = ((U8.lead ⟨0, lo, hi, c⟩ b).1, (U8.lead ⟨0, lo, hi, c⟩ b).2, []) := by simp [U8.next, hb8]
      rw [e1]; clear e1
      go_enter Tryz.func291, Tryz.ntmps291
      go_wp2_with (go_at_call 294; refine hlead.mono ?_; rintro e w' ⟨rfl, hb', hk⟩)
      go_ret
      exact ⟨v, rfl, hb', by rw [List.append_nil]; exact hr.kept hk (fun k h => by have := (hr.lt k h).1; omega), hk.mono (fun k _ h => .inl h)⟩
  · have hn' : (need == 0) = false := by simpa using hn
    clear hlead
    have hor := or32 6 (c * 64) (b % 64) (by omega) (by omega) (by omega) (by omega) (by omega) (by omega)
    by_cases hbad : b < lo ∨ hi < b
    · have e1 : U8.next ⟨need, lo, hi, c⟩ b = (false, ⟨need, lo, hi, c⟩, []) := by simp [U8.next, hn, hbad]
      rw [e1]; clear e1
      go_enter Tryz.func291, Tryz.ntmps291
      go_wp2
      all_goals go_ret
      all_goals exact ⟨v, rfl, hb, by rw [List.append_nil]; exact hr, Kept.refl _ _⟩
    · by_cases hlast : need = 1
      · subst hlast
        have e1 : U8.next ⟨1, lo, hi, c⟩ b = (true, ⟨0, 128, 191, c * 64 + b % 64⟩, [c * 64 + b % 64]) := by simp [U8.next, hbad]
        rw [e1]; clear e1
        go_enter Tryz.func291, Tryz.ntmps291
        go_wp2_with fail
        have hk : Kept (fun k => k = g) w ((((w.setCell ⟨g, 6, none⟩ (.int .u8 128)).setCell ⟨g, 7, none⟩ (.int .u8 191)).setCell ⟨g, 8, none⟩ (.int .u32 (c * 64 + b % 64))).setCell ⟨g, 5, none⟩ (.int .i64 0)) := by
          repeat' (first | with_reducible refine Kept.set1 ?_ _ _ ?_ _ | with_reducible exact Kept.refl _ _ | exact rfl)
        refine wp_gen (fun W => W.heap[g]? = some (.cells (U8.cells B v ⟨0, 128, 191, c * 64 + b % 64⟩) 191 (0, 0)) ∧ Row W base 47 .u32 v xs ∧ Kept (fun k => k = g) w W) ⟨?_, hr.far hg hk, hk⟩ ?_
        · simp only [heap_put, hb, Option.map_some, Obj.put]; rfl
        clear hc hf hb hor hr hk
        rintro W ⟨hb, hr, hk⟩
        have hc := blk_cell hb
        simp only [U8.cells] at hc
        have hsz := hk.size
        go_region_with ((go_at_call 293; refine (hold_c g _ _ _ base (c * 64 + b % 64) v xs _ (blk_alloc (blk_drew hb) _) rfl (blk_new _ _) ((show Row W.drew base _ _ v xs from hr).alloc _) hlen (by simp; omega) hg).mono ?_; rintro e w' ⟨rfl, v', hb', hr', hk'⟩))
        go_wp2
        go_ret
        exact ⟨v', rfl, hb', hr', (((hk.mono fun _ _ h => .inl h).drew).alloc _).trans hk'⟩
      · have hl' : (need - 1 == 0) = false := by simp; omega
        have e1 : U8.next ⟨need, lo, hi, c⟩ b = (true, ⟨need - 1, 128, 191, c * 64 + b % 64⟩, []) := by simp [U8.next, hn, hbad]; omega
        rw [e1]; clear e1
        go_enter Tryz.func291, Tryz.ntmps291
        go_wp2
        go_ret
        have hk : Kept (fun k => k = g) w ((((w.setCell ⟨g, 6, none⟩ (.int .u8 128)).setCell ⟨g, 7, none⟩ (.int .u8 191)).setCell ⟨g, 8, none⟩ (.int .u32 (c * 64 + b % 64))).setCell ⟨g, 5, none⟩ (.int .i64 (need - 1))) := by
          repeat' (first | with_reducible refine Kept.set1 ?_ _ _ ?_ _ | with_reducible exact Kept.refl _ _ | exact rfl)
        refine ⟨v, rfl, ?_, by rw [List.append_nil]; exact hr.far hg hk, hk.mono fun _ _ h => .inl h⟩
        simp only [heap_put, hb, Option.map_some, Obj.put]; rfl

theorem U8.one (d : U8) (b : Int) : (d.next b).2.2.length ≤ 1 := by unfold U8.next; (repeat' split) <;> simp
theorem U8.Ok.next {d : U8} (h : d.Ok) {b : Int} (b0 : 0 ≤ b) (b1 : b ≤ 255) : (d.next b).2.1.Ok := by
  obtain ⟨n0, n3, l0, l1, h0, h1, c0, c1, c2, c3, c4⟩ := h
  unfold U8.next U8.lead
  (repeat' split) <;> (constructor <;> simp only <;> omega)

def U8.cut (d : U8) : Bool := decide (0 < d.need)
end Go.Proofs.YthdcfmconpgflaaGreat
