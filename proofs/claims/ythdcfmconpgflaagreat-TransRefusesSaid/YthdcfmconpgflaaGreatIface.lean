/- Machines behind an interface: what package codec's callers know of an encoder and of a decoder, whatever its codec. -/
import Derived.Test.YthdcfmconpgflaaGreatBld
import Derived.Deep.QuietTactic
import Derived.BigQuiet
set_option linter.unusedVariables false
set_option linter.unusedSimpArgs false
namespace Go.Proofs.YthdcfmconpgflaaGreat
open Go.RowKit

theorem fail_c (g : Nat) (B : DB) (w : World) (h : HasB w g B) :
    Calls Tryz.prog 199 #[.pointer (some ⟨g, 0, none⟩)] w fun e w' => e = .returned (.agg #[.int .i64 B.err, .int .i64 B.fat]) ∧ Kept (fun _ => False) w w' := by
  obtain ⟨cs, T, hb, -, h1, h2, -⟩ := h
  have k1 : ∀ o, (w.alloc o).cell? ⟨g, 1, none⟩ = some (.int .i64 B.err) := fun o => (blk_cell (blk_alloc hb o) 1).trans h1
  have k2 : ∀ o, (w.alloc o).cell? ⟨g, 2, none⟩ = some (.int .i64 B.fat) := fun o => (blk_cell (blk_alloc hb o) 2).trans h2
  go_enter Tryz.func199, Tryz.ntmps199
  go_wp2
  refine bodyPost_ret (v := .agg #[.int .i64 B.err, .int .i64 B.fat]) (by simp [results, Tryz.results199, go_sem]) rfl ⟨rfl, ?_⟩
  exact (Kept.refl _ w).alloc _
@[go_sem] theorem fail_err (a b : Value) (w : World) : (Instr.field 34 (.agg #[a, b]) 0).run Tryz.prog w = .ok a w := by kernel_rfl
theorem odone_c (g : Nat) (B : DB) (p : List Int) (w : World) (h : HasB w g B) (hp : w.cell? ⟨g, 4, none⟩ = some (.string (strOfNums p))) :
    Calls Tryz.prog 197 #[.pointer (some ⟨g, 0, none⟩)] w fun e w' => e = .returned (.bool (!B.going && p.isEmpty)) ∧ w = w' := by
  have hgo := going_c g B w h
  have hk := kept_c g _ w hp
  rw [strOfNums_size] at hk
  cases hg : B.going
  · rw [hg] at hgo
    cases p with
    | nil =>
      go_enter Tryz.func197, Tryz.ntmps197
      go_wp2_with (first | (go_at_call 202; refine hgo.mono ?_; rintro e w' ⟨rfl, rfl⟩) | (go_at_call 201; refine hk.mono ?_; rintro e w' ⟨rfl, rfl⟩))
      go_ret
      exact ⟨rfl, rfl⟩
    | cons a b =>
      have hne : (((a :: b).length : Int) == 0) = false := by simp; omega
      go_enter Tryz.func197, Tryz.ntmps197
      go_wp2_with (first | (go_at_call 202; refine hgo.mono ?_; rintro e w' ⟨rfl, rfl⟩) | (go_at_call 201; refine hk.mono ?_; rintro e w' ⟨rfl, rfl⟩))
      go_ret
      exact ⟨rfl, rfl⟩
  · rw [hg] at hgo
    go_enter Tryz.func197, Tryz.ntmps197
    go_wp2_with (first | (go_at_call 202; refine hgo.mono ?_; rintro e w' ⟨rfl, rfl⟩) | (go_at_call 201; refine hk.mono ?_; rintro e w' ⟨rfl, rfl⟩))
    go_ret
    exact ⟨rfl, rfl⟩
theorem idone_c (g : Nat) (B : DB) (A : Option Addr) (n c : Nat) (w : World) (h : HasB w g B) (hp : w.cell? ⟨g, 4, none⟩ = some (.slice A n c)) :
    Calls Tryz.prog 287 #[.pointer (some ⟨g, 0, none⟩)] w fun e w' => e = .returned (.bool (!B.going && n == 0)) ∧ w = w' := by
  have hgo := going_c g B w h
  have hk := held_c g A n c w hp
  cases hg : B.going
  · rw [hg] at hgo
    cases n with
    | zero =>
      go_enter Tryz.func287, Tryz.ntmps287
      go_wp2_with (first | (go_at_call 202; refine hgo.mono ?_; rintro e w' ⟨rfl, rfl⟩) | (go_at_call 290; refine hk.mono ?_; rintro e w' ⟨rfl, rfl⟩))
      go_ret
      exact ⟨rfl, rfl⟩
    | succ m =>
      have hne : (((m + 1 : Nat) : Int) == 0) = false := by simp; omega
      go_enter Tryz.func287, Tryz.ntmps287
      go_wp2_with (first | (go_at_call 202; refine hgo.mono ?_; rintro e w' ⟨rfl, rfl⟩) | (go_at_call 290; refine hk.mono ?_; rintro e w' ⟨rfl, rfl⟩))
      go_ret
      exact ⟨rfl, rfl⟩
  · rw [hg] at hgo
    go_enter Tryz.func287, Tryz.ntmps287
    go_wp2_with (first | (go_at_call 202; refine hgo.mono ?_; rintro e w' ⟨rfl, rfl⟩) | (go_at_call 290; refine hk.mono ?_; rintro e w' ⟨rfl, rfl⟩))
    go_ret
    exact ⟨rfl, rfl⟩

theorem oend_c (g : Nat) (B : DB) (w : World) (h : HasB w g B) :
    Calls Tryz.prog 198 #[.pointer (some ⟨g, 0, none⟩)] w fun r w' => r = .returned (.tuple #[]) ∧ w' = (if B.going then w.setCell ⟨g, 3, none⟩ (.bool true) else w) := by
  cases hg : B.going
  · refine (end_no g B w h hg).mono ?_
    rintro e w' ⟨rfl, rfl⟩; exact ⟨rfl, rfl⟩
  · refine (end_c g B w h hg).mono ?_
    rintro e w' ⟨rfl, rfl⟩; exact ⟨rfl, rfl⟩

/-- The fuel with which the model looks a method up. -/
abbrev look : Nat := 455


/-- An encoder: a machine, and the program's own functions that carry it out. -/
structure EncI where
  T : TypeId
  fFeed : FuncId
  fEnd : FuncId
  St : Type
  B : St → DB
  p : St → List Int
  feed : St → List Int → Int → Nat × List Int × St
  stop : St → St
  ok : St → Nat → Prop
  total : St → List Int → List Int × Int × Int
  Is : Nat → (Nat → Prop) → St → World → Prop
  -- where it lies
  own : ∀ {g F s w}, Is g F s w → F g ∧ (∀ k, F k → k < w.heap.size) ∧ HasB w g (B s) ∧ w.cell? ⟨g, 4, none⟩ = some (.string (strOfNums (p s)))
  kept : ∀ {g F s w w'} {S : Nat → Prop}, Is g F s w → Kept S w w' → (∀ k, F k → ¬ S k) → Is g F s w'
  -- what its functions do
  feed_c : ∀ {g F s n v l room w}, Is g F s w → ok s n → l.length ≤ n → Rd w .u32 v l → (l ≠ [] → ∀ k, v.ownBlock = some k → ¬ F k) → (∀ c ∈ l, 0 ≤ c) → -9223372036854775808 ≤ room → room ≤ 9223372036854775807 →
    Calls Tryz.prog fFeed #[.pointer (some ⟨g, 0, none⟩), v, .int .i64 room] w fun e w' => ∃ F', e = .returned (.tuple #[.int .i64 (feed s l room).1, .string (strOfNums (feed s l room).2.1)]) ∧ Is g F' (feed s l room).2.2 w' ∧ (∀ k, F' k → F k ∨ w.heap.size ≤ k) ∧ Kept F w w'
  end_c : ∀ {g F s n w}, Is g F s w → ok s n →
    Calls Tryz.prog fEnd #[.pointer (some ⟨g, 0, none⟩)] w fun e w' => ∃ F', e = .returned (.tuple #[]) ∧ Is g F' (stop s) w' ∧ (∀ k, F' k → F k ∨ w.heap.size ≤ k) ∧ Kept F w w'
  m_feed : ∀ g w, (method look T (.pointer (some ⟨g, 0, none⟩)) "Feed").run Tryz.prog w = .ok (fFeed, .pointer (some ⟨g, 0, none⟩)) w
  m_end : ∀ g w, (method look T (.pointer (some ⟨g, 0, none⟩)) "End").run Tryz.prog w = .ok (fEnd, .pointer (some ⟨g, 0, none⟩)) w
  m_done : ∀ g w, (method look T (.pointer (some ⟨g, 0, none⟩)) "Done").run Tryz.prog w = .ok (197, .pointer (some ⟨g, 0, none⟩)) w
  m_fail : ∀ g w, (method look T (.pointer (some ⟨g, 0, none⟩)) "Fail").run Tryz.prog w = .ok (199, .pointer (some ⟨g, 0, none⟩)) w
  e_feed : ∀ args w, (callFunc fFeed args).run Tryz.prog w = .ok (.enter fFeed args) w
  e_end : ∀ args w, (callFunc fEnd args).run Tryz.prog w = .ok (.enter fEnd args) w
  -- the machine's own laws
  feed_ok : ∀ {s n l room}, ok s n → l.length ≤ n → (∀ c ∈ l, 0 ≤ c) → (feed s l room).1 ≤ l.length ∧ ok (feed s l room).2.2 (n - (feed s l room).1) ∧ Byt (feed s l room).2.1 ∧ ((feed s l room).2.1.length : Int) ≤ max room 0
  feed_en : ∀ {s n l room}, ok s n → (B (feed s l room).2.2).en = (B s).en
  feed_off : ∀ {s n l room}, ok s n → (B s).going = false → (feed s l room).1 = 0 ∧ B (feed s l room).2.2 = B s
  stop_ok : ∀ {s n}, ok s n → ok (stop s) n
  stop_off : ∀ {s n}, ok s n → (B (stop s)).going = false
  tot_feed : ∀ {s n l room}, ok s n → l.length ≤ n → (∀ c ∈ l, 0 ≤ c) → ∀ m, total s (l ++ m) = ((feed s l room).2.1 ++ (total (feed s l room).2.2 ((l ++ m).drop (feed s l room).1)).1, (total (feed s l room).2.2 ((l ++ m).drop (feed s l room).1)).2)
  tot_off : ∀ {s n}, ok s n → (B s).going = false → ∀ l, total s l = (p s, (B s).err, (B s).fat)
  tot_stop : ∀ {s n}, ok s n → total s [] = total (stop s) []
  tot_len : ∀ {s n}, ok s n → ∀ l, l.length ≤ n → (total s l).1.length ≤ 1000000000
  prog1 : ∀ {s n l room}, ok s n → 0 < room → p s ≠ [] → (feed s l room).2.1 ≠ []
  prog2 : ∀ {s n l room}, ok s n → (B s).going = true → p s = [] → l ≠ [] → 0 < (feed s l room).1 ∨ (B (feed s l room).2.2).going = false

/-- What NewEncoder hands out for a codec. -/
def EncNew (c : Int) (M : EncI) (s0 : M.St) : Prop :=
  ∀ w, Calls Tryz.prog 23 #[.int .i64 c] w fun e w' => ∃ g F, e = .returned (.tuple #[.iface M.T (.pointer (some ⟨g, 0, none⟩)), .int .i64 0]) ∧ M.Is g F s0 w' ∧ (∀ k, F k → w.heap.size ≤ k) ∧ Kept (fun _ => False) w w'

/-- A decoder: a machine, and the program's own functions that carry it out. -/
structure DecI where
  T : TypeId
  fFeed : FuncId
  fEnd : FuncId
  St : Type
  B : St → DB
  h : St → List Int
  feed : St → List Int → Int → Nat × List Int × St
  stop : St → St
  ok : St → Nat → Prop
  total : St → List Int → List Int × Int × Int
  Is : Nat → (Nat → Prop) → St → World → Prop
  -- where it lies
  own : ∀ {g F s w}, Is g F s w → F g ∧ (∀ k, F k → k < w.heap.size) ∧ HasB w g (B s) ∧ ∃ A c, w.cell? ⟨g, 4, none⟩ = some (.slice A (h s).length c)
  kept : ∀ {g F s w w'} {S : Nat → Prop}, Is g F s w → Kept S w w' → (∀ k, F k → ¬ S k) → Is g F s w'
  -- what its functions do
  feed_c : ∀ {g F s n t room w}, Is g F s w → ok s n → t.length ≤ n → Byt t → -9223372036854775808 ≤ room → room ≤ 9223372036854775807 →
    Calls Tryz.prog fFeed #[.pointer (some ⟨g, 0, none⟩), .string (strOfNums t), .int .i64 room] w fun e w' => ∃ F' v, e = .returned (.tuple #[.int .i64 (feed s t room).1, v]) ∧ Row w' w.heap.size 47 .u32 v (feed s t room).2.1 ∧ Is g F' (feed s t room).2.2 w' ∧ (∀ k, F' k → F k ∨ w.heap.size ≤ k) ∧ (∀ k, v.ownBlock = some k → ¬ F' k) ∧ Kept F w w'
  end_c : ∀ {g F s n w}, Is g F s w → ok s n →
    Calls Tryz.prog fEnd #[.pointer (some ⟨g, 0, none⟩)] w fun e w' => ∃ F', e = .returned (.tuple #[]) ∧ Is g F' (stop s) w' ∧ (∀ k, F' k → F k ∨ w.heap.size ≤ k) ∧ Kept F w w'
  m_feed : ∀ g w, (method look T (.pointer (some ⟨g, 0, none⟩)) "Feed").run Tryz.prog w = .ok (fFeed, .pointer (some ⟨g, 0, none⟩)) w
  m_end : ∀ g w, (method look T (.pointer (some ⟨g, 0, none⟩)) "End").run Tryz.prog w = .ok (fEnd, .pointer (some ⟨g, 0, none⟩)) w
  m_done : ∀ g w, (method look T (.pointer (some ⟨g, 0, none⟩)) "Done").run Tryz.prog w = .ok (287, .pointer (some ⟨g, 0, none⟩)) w
  m_fail : ∀ g w, (method look T (.pointer (some ⟨g, 0, none⟩)) "Fail").run Tryz.prog w = .ok (199, .pointer (some ⟨g, 0, none⟩)) w
  e_feed : ∀ args w, (callFunc fFeed args).run Tryz.prog w = .ok (.enter fFeed args) w
  e_end : ∀ args w, (callFunc fEnd args).run Tryz.prog w = .ok (.enter fEnd args) w
  -- the machine's own laws
  feed_ok : ∀ {s n t room}, ok s n → t.length ≤ n → Byt t → (feed s t room).1 ≤ t.length ∧ ok (feed s t room).2.2 (n - (feed s t room).1) ∧ ((feed s t room).2.1.length : Int) ≤ max room 0
  feed_en : ∀ {s n t room}, ok s n → (B (feed s t room).2.2).en = (B s).en
  feed_off : ∀ {s n t room}, ok s n → (B s).going = false → (feed s t room).1 = 0 ∧ B (feed s t room).2.2 = B s
  stop_ok : ∀ {s n}, ok s n → ok (stop s) n
  stop_off : ∀ {s n}, ok s n → (B (stop s)).going = false
  tot_feed : ∀ {s n t room}, ok s n → t.length ≤ n → Byt t → ∀ m, total s (t ++ m) = ((feed s t room).2.1 ++ (total (feed s t room).2.2 ((t ++ m).drop (feed s t room).1)).1, (total (feed s t room).2.2 ((t ++ m).drop (feed s t room).1)).2)
  tot_off : ∀ {s n}, ok s n → (B s).going = false → ∀ t, total s t = (h s, (B s).err, (B s).fat)
  tot_stop : ∀ {s n}, ok s n → total s [] = total (stop s) []
  tot_len : ∀ {s n}, ok s n → ∀ t, t.length ≤ n → (total s t).1.length ≤ 1000000000
  prog1 : ∀ {s n t room}, ok s n → 0 < room → h s ≠ [] → (feed s t room).2.1 ≠ []
  prog2 : ∀ {s n t room}, ok s n → 0 < room → (B s).going = true → h s = [] → t ≠ [] → 0 < (feed s t room).1 ∨ (B (feed s t room).2.2).going = false

/-- What NewDecoder hands out for a codec. -/
def DecNew (c : Int) (M : DecI) (s0 : M.St) : Prop :=
  ∀ w, Calls Tryz.prog 24 #[.int .i64 c] w fun e w' => ∃ g F, e = .returned (.tuple #[.iface M.T (.pointer (some ⟨g, 0, none⟩)), .int .i64 0]) ∧ M.Is g F s0 w' ∧ (∀ k, F k → w.heap.size ≤ k) ∧ Kept (fun _ => False) w w'
end Go.Proofs.YthdcfmconpgflaaGreat
