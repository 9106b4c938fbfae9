/- The contracts of package step: what all machines have in common, at the head of a block: at, error, its place, ended; then the row of scalars that wait, or the text that waits. -/
import Derived.Test.YthdcfmconpgflaaGreatProg
import Derived.Test.YthdcfmconpgflaaGreatBase
import Derived.Outline
import Derived.WalkLawsBesides
import Derived.WalkSpells
set_option linter.unusedVariables false
set_option linter.unusedSimpArgs false
namespace Go.Proofs.YthdcfmconpgflaaGreat
open Go.RowKit

/-- How far a machine has come. -/
structure DB where
  at_ : Int
  err : Int
  fat : Int
  en : Bool
def DB.going (B : DB) : Bool := B.err == 0 && !B.en
def DB.stop (B : DB) (e : Int) : DB := if B.going then { B with err := e, fat := B.at_ } else B
def DB.eat (B : DB) : DB := if B.going then { B with at_ := B.at_ + 1 } else B
def DB.endd (B : DB) : DB := if B.going then { B with en := true } else B
def DB.zero : DB := ⟨0, 0, 0, false⟩

theorem info_u32 : (Tryz.prog.info? 47).map (fun i => (i.zero, i.size, i.bytes)) = some (some (.int .u32 0), 1, 4) := by kernel_rfl

/-- Is the block a machine that has come so far? -/
def HasB (w : World) (g : Nat) (B : DB) : Prop := ∃ cs T, w.heap[g]? = some (.cells cs T (0, 0)) ∧ cs[0]? = some (.int .i64 B.at_) ∧ cs[1]? = some (.int .i64 B.err) ∧ cs[2]? = some (.int .i64 B.fat) ∧ cs[3]? = some (.bool B.en)

theorem going_c (g : Nat) (B : DB) (w : World) (h : HasB w g B) :
    Calls Tryz.prog 202 #[.pointer (some ⟨g, 0, none⟩)] w fun r w' => r = .returned (.bool B.going) ∧ w = w' := by
  obtain ⟨cs, T, hb, -, h1, -, h3⟩ := h
  have k1 := (blk_cell hb 1).trans h1
  have k3 := (blk_cell hb 3).trans h3
  clear h1 h3 hb
  go_enter Tryz.func202, Tryz.ntmps202
  go_wp2
  all_goals go_ret
  all_goals go_tidy
  all_goals (refine ⟨?_, rfl⟩; unfold DB.going; simp [*])

theorem held_c (g : Nat) (A : Option Addr) (n c : Nat) (w : World) (h : w.cell? ⟨g, 4, none⟩ = some (.slice A n c)) :
    Calls Tryz.prog 290 #[.pointer (some ⟨g, 4, none⟩)] w fun r w' => r = .returned (.int .i64 n) ∧ w = w' := by
  go_enter Tryz.func290, Tryz.ntmps290
  go_wp2
  go_ret
  exact ⟨rfl, rfl⟩

theorem kept_c (g : Nat) (s : ByteArray) (w : World) (h : w.cell? ⟨g, 4, none⟩ = some (.string s)) :
    Calls Tryz.prog 201 #[.pointer (some ⟨g, 4, none⟩)] w fun r w' => r = .returned (.int .i64 s.size) ∧ w = w' := by
  go_enter Tryz.func201, Tryz.ntmps201
  go_wp2
  go_ret
  exact ⟨rfl, rfl⟩

theorem hold_c (g : Nat) (cs : Array Value) (T k base : Nat) (x : Int) (v : Value) (xs : List Int) (w : World) (hb : w.heap[g]? = some (.cells cs T (0, 0))) (h4 : cs[4]? = some v)
    (hk : w.heap[k]? = some (.cells #[.int .u32 x] 47 (0, 0))) (hr : Row w base 47 .u32 v xs) (hlen : xs.length ≤ 1000000000) (hbase : base ≤ w.heap.size) (hg : g < base) :
    Calls Tryz.prog 293 #[.pointer (some ⟨g, 4, none⟩), .slice (some ⟨k, 0, none⟩) 1 1] w fun e w' => e = .returned (.tuple #[]) ∧
      ∃ v', w'.heap[g]? = some (.cells (cs.setIfInBounds 4 v') T (0, 0)) ∧ Row w' base 47 .u32 v' (xs ++ [x]) ∧ Kept (fun k => k = g ∨ base ≤ k) w w' := by
  obtain ⟨i0, hi, hz0, hz1, hz2⟩ := info_parts info_u32
  have c4 := (blk_cell hb 4).trans h4
  have f4 := blk_free hb 4
  go_enter Tryz.func293, Tryz.ntmps293
  go_wp2_with (at_builtin; refine wpList_append_own _ rfl (.tmp 8) (.tmp 9) 22 rfl base 47 i0 (.int .u32 0) 1 4 Tryz.underlying22 hi hz0 hz1 hz2 rfl (by decide) v xs.length (nums .u32 xs) rfl hr ⟨k, 0, none⟩ 1 1 [.int .u32 x] rfl rfl ?c1 ?c2 ?c3 ?c4 hbase ?_)
  case c1 =>
    intro j u hu
    match j, hu with
    | 0, hu => simp at hu; subst hu; exact blk_cell hk 0
  case c2 => intro u hu; simp at hu; subst hu; rfl
  case c3 => unfold maxLen; omega
  case c4 => omega
  intro v' w1 hown1 hgr _
  obtain ⟨b, cap, rfl⟩ : ∃ b cap, v' = .slice (some ⟨b, 0, none⟩) (xs.length + 1) cap := by
    rcases hown1.2 with ⟨_, h⟩ | ⟨b, cap, _, h, _⟩
    · omega
    · exact ⟨b, cap, h⟩
  have hne : some g ≠ v.ownBlock := fun e => by have := hr.lt g e.symm; omega
  have hb1 : w1.heap[g]? = some (.cells cs T (0, 0)) := (hgr.block g (blk_lt hb) hne).trans hb
  have k4 := (blk_cell hb1 4).trans h4
  have e4 := blk_free hb1 4
  go_wp2
  go_end0
  refine ⟨rfl, _, blk_set hb1 4 _, ?_, ?_⟩
  · unfold Row
    rw [nums_app]
    simp only [List.length_append, List.length_singleton]
    exact ownsRow_setCell_below hown1 hg _
  · exact (((Kept.refl _ w).grown hgr (fun k hk => .inl (.inr (hr.lt k hk).1)))).setCell (.inl (.inl rfl)) _

/-- What Tell leaves. -/
def Told (g : Nat) (cs : Array Value) (T n : Nat) (v : Value) (xs : List Int) (w : World) (e : Ending) (w' : World) : Prop :=
  ∃ v' vr, e = .returned v' ∧ w'.heap[g]? = some (.cells (cs.setIfInBounds 4 vr) T (0, 0)) ∧ Rd w' .u32 vr (xs.drop n) ∧ (n = xs.length → vr = .slice none 0 0) ∧ (vr.ownBlock = none ∨ vr.ownBlock = v.ownBlock) ∧
    Row w' w.heap.size 47 .u32 v' (xs.take n) ∧ Kept (fun k => k = g) w w'
theorem told_all {g : Nat} {cs : Array Value} {T n : Nat} {v v' x : Value} {xs : List Int} {w w1 : World} (hg : g < w.heap.size) (hr1 : Row w1 w.heap.size 47 .u32 v' (xs.take n)) (hgr : w.grownBy w1 none) (hb1 : w1.heap[g]? = some (.cells cs T (0, 0))) (hn : n = xs.length) :
    Told g cs T n v xs w (.returned v') ((w1.setCell ⟨g, 4, none⟩ x).setCell ⟨g, 4, none⟩ (.slice none 0 0)) := by
  refine ⟨v', .slice none 0 0, rfl, ?_, ?_, fun _ => rfl, .inl rfl, ?_, ?_⟩
  · rw [blk_set (blk_set hb1 4 x) 4, Array.setIfInBounds_setIfInBounds]
  · rw [hn, List.drop_length]; exact Rd.nil _ _
  · exact ownsRow_setCell_below (ownsRow_setCell_below hr1 hg _) hg _
  · exact (((Kept.refl (fun k => k = g) w).grown hgr (by simp)).set1 _ _ rfl _).set1 _ _ rfl _
theorem told_some {g : Nat} {cs : Array Value} {T n : Nat} {A A' : Option Addr} {c c' m : Nat} {v' : Value} {xs : List Int} {w w1 : World} (hg : g < w.heap.size) (hr1 : Row w1 w.heap.size 47 .u32 v' (xs.take n)) (hgr : w.grownBy w1 none) (hb1 : w1.heap[g]? = some (.cells cs T (0, 0))) (hn : n < xs.length)
    (hne : (Value.slice A xs.length c).ownBlock ≠ some g) (hx : Rd w .u32 (.slice A xs.length c) xs) (hm : m = xs.length - n) (hc' : m ≤ c') (hA : A' = A.map (·.add n)) :
    Told g cs T n (.slice A xs.length c) xs w (.returned v') (w1.setCell ⟨g, 4, none⟩ (.slice A' m c')) := by
  have hk : Kept (fun k => k = g) w w1 := (Kept.refl _ w).grown hgr (by simp)
  have hk' : Kept (fun k => k = g) w (w1.setCell ⟨g, 4, none⟩ (.slice A' m c')) := hk.set1 _ _ rfl _
  refine ⟨v', _, rfl, blk_set hb1 4 _, ?_, fun h => by omega, .inr ?_, ownsRow_setCell_below hr1 hg _, hk'⟩
  · exact Rd.back (hx.kept hk' (fun _ b hb e => hne (by rw [hb, e]))) (by omega) hm hc' (fun _ => hA)
  · subst hA
    cases A with
    | none => rfl
    | some a =>
      obtain ⟨b, o, s⟩ := a
      simp [Value.ownBlock, Addr.add]
      split <;> rfl

set_option maxRecDepth 100000 in
set_option maxHeartbeats 400000 in
/-- The first n scalars that wait are told: they are a row in new memory, or nil. -/
theorem tell_n (g : Nat) (cs : Array Value) (T : Nat) (room : Int) (n : Nat) (v : Value) (xs : List Int) (w : World) (hb : w.heap[g]? = some (.cells cs T (0, 0))) (h4 : cs[4]? = some v)
    (hr : Rd w .u32 v xs) (hlen : xs.length ≤ 1000000000) (hroom : (n : Int) = min (max room 0) xs.length) (hne : v.ownBlock ≠ some g) :
    Calls Tryz.prog 292 #[.pointer (some ⟨g, 4, none⟩), .int .i64 room] w (Told g cs T n v xs w) := by
  obtain ⟨i0, hi, hz0, hz1, hz2⟩ := info_parts info_u32
  have c4 := (blk_cell hb 4).trans h4
  have f4 := blk_free hb 4
  have hg := blk_lt hb
  have hr0 := hr
  obtain ⟨A, c, rfl, hcap, hx⟩ := hr
  have hn : n ≤ xs.length := by omega
  have hcases : (room < 0 ∧ n = 0) ∨ (0 ≤ room ∧ room = n ∧ n ≠ c) ∨ (0 ≤ room ∧ room = n ∧ n = c) ∨ (0 ≤ room ∧ (xs.length : Int) < room ∧ n = xs.length ∧ n ≠ c) ∨ (0 ≤ room ∧ (xs.length : Int) < room ∧ n = xs.length ∧ n = c) := by omega
  clear hroom
  rcases hcases with ⟨h1, rfl⟩ | ⟨h1, rfl, h2⟩ | ⟨h1, rfl, rfl⟩ | ⟨h1, h2, rfl, h3⟩ | ⟨h1, h2, rfl, rfl⟩
  · go_enter Tryz.func292, Tryz.ntmps292
    go_wp2_with (at_builtin; refine wpList_app _ rfl (.const (.slice none 0 0)) (.tmp 20) 22 rfl w.heap.size 47 .u32 i0 4 Tryz.underlying22 hi hz0 hz1 hz2 (.slice none 0 0) [] rfl (Row.nil _ _ _ _) _ (xs.take 0) rfl ?rd ?r3 ?r4 (Nat.le_refl _) ?_)
    case rd => exact Rd.front hr0 hn
    case r3 => show 0 + (xs.take 0).length ≤ _; have := List.length_take_le 0 xs; unfold maxLen; omega
    case r4 => show (0 + (xs.take 0).length) * 4 ≤ _; have := List.length_take_le 0 xs; omega
    intro v' w1 hr1 hgr _
    have hb1 := (hgr.block g hg (by simp [Value.ownBlock])).trans hb
    have k4 := (blk_cell hb1 4).trans h4
    have e4 := blk_free hb1 4
    go_wp2
    all_goals go_ret
    · exact told_all hg hr1 hgr hb1 (by have h : (((xs.length : Nat) : Int) == 0) = true := by assumption
                                        simp at h; simp [h])
    · exact told_some hg hr1 hgr hb1 (by have h : (((xs.length : Nat) : Int) == 0) = false := by assumption
                                         simp at h; cases xs <;> simp_all) hne hr0 rfl (by omega) (by cases A <;> simp [Addr.add])
  · go_enter Tryz.func292, Tryz.ntmps292
    go_wp2_with (at_builtin; refine wpList_app _ rfl (.const (.slice none 0 0)) (.tmp 20) 22 rfl w.heap.size 47 .u32 i0 4 Tryz.underlying22 hi hz0 hz1 hz2 (.slice none 0 0) [] rfl (Row.nil _ _ _ _) _ (xs.take n) rfl ?rd ?r3 ?r4 (Nat.le_refl _) ?_)
    case rd => exact Rd.front hr0 hn
    case r3 => show 0 + (xs.take n).length ≤ _; have := List.length_take_le n xs; unfold maxLen; omega
    case r4 => show (0 + (xs.take n).length) * 4 ≤ _; have := List.length_take_le n xs; omega
    intro v' w1 hr1 hgr _
    have hb1 := (hgr.block g hg (by simp [Value.ownBlock])).trans hb
    have k4 := (blk_cell hb1 4).trans h4
    have e4 := blk_free hb1 4
    go_wp2
    all_goals go_ret
    · exact told_all hg hr1 hgr hb1 (by have h : (((xs.length - n : Nat) : Int) == 0) = true := by assumption
                                        simp at h; omega)
    · exact told_some hg hr1 hgr hb1 (by have h : (((xs.length - n : Nat) : Int) == 0) = false := by assumption
                                         simp at h; omega) hne hr0 rfl (by omega) rfl
  · go_enter Tryz.func292, Tryz.ntmps292
    go_wp2_with (at_builtin; refine wpList_app _ rfl (.const (.slice none 0 0)) (.tmp 20) 22 rfl w.heap.size 47 .u32 i0 4 Tryz.underlying22 hi hz0 hz1 hz2 (.slice none 0 0) [] rfl (Row.nil _ _ _ _) _ (xs.take n) rfl ?rd ?r3 ?r4 (Nat.le_refl _) ?_)
    case rd => exact Rd.front hr0 hn
    case r3 => show 0 + (xs.take n).length ≤ _; have := List.length_take_le n xs; unfold maxLen; omega
    case r4 => show (0 + (xs.take n).length) * 4 ≤ _; have := List.length_take_le n xs; omega
    intro v' w1 hr1 hgr _
    have hb1 := (hgr.block g hg (by simp [Value.ownBlock])).trans hb
    have k4 := (blk_cell hb1 4).trans h4
    have e4 := blk_free hb1 4
    go_wp2
    all_goals go_ret
    all_goals exact told_all hg hr1 hgr hb1 (by omega)
  · go_enter Tryz.func292, Tryz.ntmps292
    go_wp2_with (at_builtin; refine wpList_app _ rfl (.const (.slice none 0 0)) (.tmp 20) 22 rfl w.heap.size 47 .u32 i0 4 Tryz.underlying22 hi hz0 hz1 hz2 (.slice none 0 0) [] rfl (Row.nil _ _ _ _) _ (xs.take xs.length) rfl ?rd ?r3 ?r4 (Nat.le_refl _) ?_)
    case rd => exact Rd.front hr0 hn
    case r3 => show 0 + (xs.take xs.length).length ≤ _; have := List.length_take_le xs.length xs; unfold maxLen; omega
    case r4 => show (0 + (xs.take xs.length).length) * 4 ≤ _; have := List.length_take_le xs.length xs; omega
    intro v' w1 hr1 hgr _
    have hb1 := (hgr.block g hg (by simp [Value.ownBlock])).trans hb
    have k4 := (blk_cell hb1 4).trans h4
    have e4 := blk_free hb1 4
    go_wp2
    all_goals go_ret
    all_goals exact told_all hg (by rw [List.take_length]; exact hr1) hgr hb1 rfl
  · go_enter Tryz.func292, Tryz.ntmps292
    go_wp2_with (at_builtin; refine wpList_app _ rfl (.const (.slice none 0 0)) (.tmp 20) 22 rfl w.heap.size 47 .u32 i0 4 Tryz.underlying22 hi hz0 hz1 hz2 (.slice none 0 0) [] rfl (Row.nil _ _ _ _) _ (xs.take xs.length) rfl ?rd ?r3 ?r4 (Nat.le_refl _) ?_)
    case rd => exact Rd.front hr0 hn
    case r3 => show 0 + (xs.take xs.length).length ≤ _; have := List.length_take_le xs.length xs; unfold maxLen; omega
    case r4 => show (0 + (xs.take xs.length).length) * 4 ≤ _; have := List.length_take_le xs.length xs; omega
    intro v' w1 hr1 hgr _
    have hb1 := (hgr.block g hg (by simp [Value.ownBlock])).trans hb
    have k4 := (blk_cell hb1 4).trans h4
    have e4 := blk_free hb1 4
    go_wp2
    all_goals go_ret
    all_goals exact told_all hg (by rw [List.take_length]; exact hr1) hgr hb1 rfl

theorem DB.going_parts {B : DB} (h : B.going = true) : B.err = 0 ∧ B.en = false := by simpa [DB.going] using h

theorem eat_c (g : Nat) (B : DB) (w : World) (h : HasB w g B) (hgo : B.going = true) (h0 : 0 ≤ B.at_) (h1 : B.at_ ≤ 1000000000) :
    Calls Tryz.prog 208 #[.pointer (some ⟨g, 0, none⟩), .int .i64 1] w fun r w' => r = .returned (.tuple #[]) ∧ w.setCell ⟨g, 0, none⟩ (.int .i64 (B.at_ + 1)) = w' := by
  have hc := going_c g B w h
  obtain ⟨cs, T, hb, k0, -, -, -⟩ := h
  have c0 := (blk_cell hb 0).trans k0
  have f0 := blk_free hb 0
  clear hb
  go_enter Tryz.func208, Tryz.ntmps208
  go_wp2_with (go_at_call 202; refine hc.mono ?_; rintro e w' ⟨rfl, rfl⟩)
  go_end0
  exact ⟨rfl, rfl⟩
theorem stop_c (g : Nat) (B : DB) (e : Int) (w : World) (h : HasB w g B) (hgo : B.going = true) (he : (e != 0) = true) :
    Calls Tryz.prog 205 #[.pointer (some ⟨g, 0, none⟩), .int .i64 e] w fun r w' => r = .returned (.tuple #[]) ∧ (w.setCell ⟨g, 1, none⟩ (.int .i64 e)).setCell ⟨g, 2, none⟩ (.int .i64 B.at_) = w' := by
  have hc := going_c g B w h
  obtain ⟨cs, T, hb, k0, k1, k2, -⟩ := h
  have c0 := (blk_cell hb 0).trans k0
  have c1 := (blk_cell hb 1).trans k1
  have c2 := (blk_cell hb 2).trans k2
  have f1 := blk_free hb 1
  have f2 := blk_free hb 2
  clear hb
  go_enter Tryz.func205, Tryz.ntmps205
  go_wp2_with (go_at_call 202; refine hc.mono ?_; rintro e w' ⟨rfl, rfl⟩)
  go_end0
  exact ⟨rfl, rfl⟩
theorem stop_no (g : Nat) (B : DB) (e : Int) (w : World) (h : HasB w g B) (hgo : B.going = false) :
    Calls Tryz.prog 205 #[.pointer (some ⟨g, 0, none⟩), .int .i64 e] w fun r w' => r = .returned (.tuple #[]) ∧ w = w' := by
  have hc := going_c g B w h
  clear h
  go_enter Tryz.func205, Tryz.ntmps205
  go_wp2_with (go_at_call 202; refine hc.mono ?_; rintro e w' ⟨rfl, rfl⟩)
  go_end0
  exact ⟨rfl, rfl⟩
theorem end_c (g : Nat) (B : DB) (w : World) (h : HasB w g B) (hgo : B.going = true) :
    Calls Tryz.prog 198 #[.pointer (some ⟨g, 0, none⟩)] w fun r w' => r = .returned (.tuple #[]) ∧ w.setCell ⟨g, 3, none⟩ (.bool true) = w' := by
  have hc := going_c g B w h
  obtain ⟨cs, T, hb, -, -, -, k3⟩ := h
  have c3 := (blk_cell hb 3).trans k3
  have f3 := blk_free hb 3
  clear hb
  go_enter Tryz.func198, Tryz.ntmps198
  go_wp2_with (go_at_call 202; refine hc.mono ?_; rintro e w' ⟨rfl, rfl⟩)
  go_end0
  exact ⟨rfl, rfl⟩
theorem end_no (g : Nat) (B : DB) (w : World) (h : HasB w g B) (hgo : B.going = false) :
    Calls Tryz.prog 198 #[.pointer (some ⟨g, 0, none⟩)] w fun r w' => r = .returned (.tuple #[]) ∧ w = w' := by
  have hc := going_c g B w h
  clear h
  go_enter Tryz.func198, Tryz.ntmps198
  go_wp2_with (go_at_call 202; refine hc.mono ?_; rintro e w' ⟨rfl, rfl⟩)
  go_end0
  exact ⟨rfl, rfl⟩

theorem keep_c (g : Nat) (p q : List Int) (w : World) (h : w.cell? ⟨g, 4, none⟩ = some (.string (strOfNums p))) (hf : w.frozen? ⟨g, 4, none⟩ = false) (hp : p.length ≤ 1000000000) (hq : q.length ≤ 1000000000) :
    Calls Tryz.prog 206 #[.pointer (some ⟨g, 4, none⟩), .string (strOfNums q)] w fun r w' => r = .returned (.tuple #[]) ∧ w.setCell ⟨g, 4, none⟩ (.string (strOfNums (p ++ q))) = w' := by
  have hs := S_app p q
  have hs1 := strOfNums_size p
  have hs2 := strOfNums_size q
  go_enter Tryz.func206, Tryz.ntmps206
  go_wp2
  go_end0
  exact ⟨rfl, rfl⟩

theorem give_c (g : Nat) (p : List Int) (room : Int) (n : Nat) (w : World) (h : w.cell? ⟨g, 4, none⟩ = some (.string (strOfNums p))) (hf : w.frozen? ⟨g, 4, none⟩ = false) (hlen : p.length ≤ 1000000000) (hroom : (n : Int) = min (max room 0) p.length) :
    Calls Tryz.prog 203 #[.pointer (some ⟨g, 4, none⟩), .int .i64 room] w fun r w' => r = .returned (.string (strOfNums (p.take n))) ∧ w.setCell ⟨g, 4, none⟩ (.string (strOfNums (p.drop n))) = w' := by
  have hn : n ≤ p.length := by omega
  have hsz := strOfNums_size p
  have e1 : ∀ i j, (strOfNums p).extract i j = strOfNums ((p.take j).drop i) := S_extract p
  have hcases : (room < 0 ∧ n = 0) ∨ (0 ≤ room ∧ room = n) ∨ (0 ≤ room ∧ (p.length : Int) < room ∧ n = p.length) := by omega
  clear hroom
  rcases hcases with ⟨h1, rfl⟩ | ⟨h1, rfl⟩ | ⟨h1, h2, rfl⟩
  all_goals
    go_enter Tryz.func203, Tryz.ntmps203
    go_wp2
    go_ret
    first | exact ⟨rfl, rfl⟩ | (rw [List.take_length, List.drop_length]; exact ⟨rfl, rfl⟩)
end Go.Proofs.YthdcfmconpgflaaGreat
