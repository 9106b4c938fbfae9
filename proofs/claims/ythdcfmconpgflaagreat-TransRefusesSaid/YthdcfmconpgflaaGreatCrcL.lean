/- Sums of bytes, without a program. -/
import Derived.Test.YthdcfmconpgflaaGreatBase
set_option linter.unusedVariables false
set_option linter.unusedSimpArgs false
namespace Go.Proofs.YthdcfmconpgflaaGreat

/-- One bit is worked off. -/
def crcBit (x : Nat) : Nat := if x % 2 = 1 then (x / 2) ^^^ 3988292384 else x / 2
def crcBits : Nat → Nat → Nat
  | 0, x => x
  | k + 1, x => crcBits k (crcBit x)
def crcByte (x : Nat) (b : Int) : Nat := crcBits 8 (x ^^^ b.toNat)
def crcRun (x : Nat) (l : List Int) : Nat := l.foldl crcByte x
/-- The sum of some bytes. -/
def crcOf (l : List Int) : Nat := 4294967295 - crcRun 4294967295 l
def four (n : Int) : List Int := [n % 256, n / 256 % 256, n / 65536 % 256, n / 16777216]
/-- The number that the first four bytes are. -/
def numOf (l : List Int) : Int := if l.length < 4 then 0 else l.getD 0 0 + l.getD 1 0 * 256 + l.getD 2 0 * 65536 + l.getD 3 0 * 16777216
theorem crcBits_succ (k : Nat) : ∀ x, crcBits (k + 1) x = crcBit (crcBits k x) := by
  induction k with
  | zero => intro x; rfl
  | succ k ih => intro x; exact ih (crcBit x)
theorem crcBit_lt {x : Nat} (h : x < 4294967296) : crcBit x < 4294967296 := by
  unfold crcBit
  split
  · exact Nat.xor_lt_two_pow (n := 32) (by omega) (by decide)
  · omega
theorem crcBits_lt (k : Nat) : ∀ {x : Nat}, x < 4294967296 → crcBits k x < 4294967296 := by
  induction k with
  | zero => intro x h; exact h
  | succ k ih => intro x h; exact ih (crcBit_lt h)
theorem crcByte_lt {x : Nat} {b : Int} (h : x < 4294967296) (hb : b < 256) : crcByte x b < 4294967296 :=
  crcBits_lt 8 (Nat.xor_lt_two_pow (n := 32) h (by omega))
theorem crcRun_lt (l : List Int) : ∀ {x : Nat}, x < 4294967296 → Byt l → crcRun x l < 4294967296 := by
  induction l with
  | nil => intro x h _; exact h
  | cons b l ih => intro x h hb; exact ih (crcByte_lt h (hb b (by simp)).2) (fun y hy => hb y (List.mem_cons_of_mem _ hy))
theorem crcRun_snoc (x : Nat) (l : List Int) (b : Int) : crcRun x (l ++ [b]) = crcByte (crcRun x l) b := by simp [crcRun]
theorem crcOf_lt {l : List Int} (h : Byt l) : crcOf l < 4294967296 := by unfold crcOf; omega
theorem four_byt {n : Int} (h0 : 0 ≤ n) (h1 : n < 4294967296) : Byt (four n) := by
  intro y hy
  simp [four] at hy
  omega
theorem num_four {n : Int} (h0 : 0 ≤ n) (h1 : n < 4294967296) (r : List Int) : numOf (four n ++ r) = n := by
  simp [numOf, four]
  omega
end Go.Proofs.YthdcfmconpgflaaGreat
