/- EBCDIC's table, without a program: how it is laid. -/
import Derived.Test.YthdcfmconpgflaaGreatBase
set_option linter.unusedVariables false
set_option linter.unusedSimpArgs false
namespace Go.Proofs.YthdcfmconpgflaaGreat

/-- What the first bytes become. -/
def knL : List Int := [0, 1, 2, 3, 55, 45, 46, 47, 22, 5, 21, 11, 12, 13, 14, 15, 16, 17, 18, 19, 60, 61, 50, 38, 24, 25, 63, 39, 28, 29, 30, 31, 64, 90, 127, 123, 91, 108, 80, 125, 77, 93, 92, 78, 107, 96, 75, 97, 240, 241, 242, 243, 244, 245, 246, 247, 248, 249, 122, 94, 76, 126, 110, 111, 124, 193, 194, 195, 196, 197, 198, 199, 200, 201, 209, 210, 211, 212, 213, 214, 215, 216, 217, 226, 227, 228, 229, 230, 231, 232, 233, 173, 224, 189, 95, 109, 121, 129, 130, 131, 132, 133, 134, 135, 136, 137, 145, 146, 147, 148, 149, 150, 151, 152, 153, 162, 163, 164, 165, 166, 167, 168, 169, 192, 79, 208, 161, 7, 32, 33, 34, 35, 36, 37, 6, 23, 40, 41, 42, 43, 44, 9, 10, 27, 48, 49, 26, 51, 52, 53, 54, 8, 56, 57, 58, 59, 4, 20, 62, 255]
/-- The first loop, after k rounds: the table's first half, and which bytes are taken. -/
def pm1 : Nat → List Int × List Bool
  | 0 => (List.replicate 256 0, List.replicate 256 false)
  | k + 1 => match pm1 k with
    | (l, t) => (l.set k (knL.getD k 0), t.set (knL.getD k 0).toNat true)
/-- The second one: the table's first half, and how far it is laid. -/
def pm2 (l : List Int) (tk : List Bool) : Nat → List Int × Nat
  | 0 => (l, 160)
  | b + 1 => match pm2 l tk b with
    | (l, n) => if tk.getD b false = true then (l, n) else (l.set n b, n + 1)
/-- The third one: the table's second half. -/
def pm3 (tt : List Int) : Nat → List Int
  | 0 => List.replicate 256 0
  | i + 1 => (pm3 tt i).set (tt.getD i 0).toNat i
def ebTo : List Int := (pm2 (pm1 160).1 (pm1 160).2 256).1
def ebFrom : List Int := pm3 ebTo 256
theorem knL_len : knL.length = 160 := by decide +kernel
theorem knL_rng : ∀ x ∈ knL, 0 ≤ x ∧ x < 256 := by decide +kernel
theorem pm1_len (k : Nat) : (pm1 k).1.length = 256 ∧ (pm1 k).2.length = 256 := by
  induction k with
  | zero => exact ⟨List.length_replicate, List.length_replicate⟩
  | succ k ih => simp only [pm1, List.length_set]; exact ih
theorem pm2_len (l : List Int) (tk : List Bool) (k : Nat) : (pm2 l tk k).1.length = l.length := by
  induction k with
  | zero => rfl
  | succ k ih =>
    simp only [pm2]
    split
    · exact ih
    · rw [List.length_set]; exact ih
def cntF (l : List Bool) : Nat := (l.filter fun b => !b).length
theorem cntF_take (tk : List Bool) (b : Nat) (h : b < tk.length) : cntF (tk.take (b + 1)) = cntF (tk.take b) + if tk.getD b false = true then 0 else 1 := by
  rw [List.take_succ_eq_append_getElem h]
  unfold cntF
  rw [List.filter_append, List.length_append, List.getD_eq_getElem?_getD, List.getElem?_eq_getElem h]
  cases tk[b] <;> simp
theorem pm2_at (l : List Int) (tk : List Bool) (k : Nat) (h : k ≤ tk.length) : (pm2 l tk k).2 = 160 + cntF (tk.take k) := by
  induction k with
  | zero => simp [pm2, cntF]
  | succ k ih =>
    have := ih (by omega)
    rw [cntF_take tk k (by omega)]
    simp only [pm2]
    split
    · exact this
    · simp only; omega
theorem cntF_pm1 : cntF (pm1 160).2 = 96 := by decide +kernel
theorem cntF_le (tk : List Bool) (k : Nat) : cntF (tk.take k) ≤ cntF tk := by
  unfold cntF
  exact List.Sublist.length_le (List.Sublist.filter _ (List.take_sublist _ _))
theorem pm2_lt (l : List Int) (k : Nat) (h : k < 256) (hf : ¬ (pm1 160).2.getD k false = true) : (pm2 l (pm1 160).2 k).2 < 256 := by
  have hl := (pm1_len 160).2
  have h1 := pm2_at l (pm1 160).2 k (by omega)
  have h2 := cntF_take (pm1 160).2 k (by omega)
  have h3 := cntF_le (pm1 160).2 (k + 1)
  rw [if_neg hf] at h2
  rw [cntF_pm1] at h3
  omega
theorem ebTo_len : ebTo.length = 256 := by unfold ebTo; rw [pm2_len]; exact (pm1_len 160).1
theorem ebTo_rng : ∀ x ∈ ebTo, 0 ≤ x ∧ x < 256 := by decide +kernel
theorem pm3_len (tt : List Int) (k : Nat) : (pm3 tt k).length = 256 := by
  induction k with
  | zero => exact List.length_replicate
  | succ k ih => simp only [pm3, List.length_set]; exact ih
end Go.Proofs.YthdcfmconpgflaaGreat
