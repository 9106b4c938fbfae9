/- Machines, without a program: how a decoder of bytes is fed, byte by byte. -/
import Derived.Test.YthdcfmconpgflaaGreatStep
import Derived.RegionCalls
set_option linter.unusedVariables false
set_option linter.unusedSimpArgs false
namespace Go.Proofs.YthdcfmconpgflaaGreat
open Go.RowKit

/-- The loop of Feed: from a state, with so many scalars told already, over the bytes that are left: how many are eaten, and what comes of it. -/
def feedL {X : Type} (next : X → Int → Bool × X × List Int) (room : Int) : DB → X → List Int → List Int → Nat × DB × X × List Int
  | B, x, xs, [] => (0, B, x, xs)
  | B, x, xs, b :: s =>
    if (xs.length : Int) < room ∧ B.going = true then
      if (next x b).1 = true then
        let q := feedL next room { B with at_ := B.at_ + 1 } (next x b).2.1 (xs ++ (next x b).2.2) s
        (q.1 + 1, q.2)
      else (0, { B with err := 3, fat := B.at_ }, (next x b).2.1, xs ++ (next x b).2.2)
    else (0, B, x, xs)
theorem feedL_nil {X : Type} (next : X → Int → Bool × X × List Int) (room : Int) (B : DB) (x : X) (xs : List Int) : feedL next room B x xs [] = (0, B, x, xs) := rfl
theorem feedL_stop {X : Type} {next : X → Int → Bool × X × List Int} {room : Int} {B : DB} {x : X} {xs : List Int} (h : ¬ ((xs.length : Int) < room ∧ B.going = true)) (s : List Int) : feedL next room B x xs s = (0, B, x, xs) := by
  cases s with
  | nil => rfl
  | cons b s => unfold feedL; rw [if_neg h]
theorem feedL_bad {X : Type} {next : X → Int → Bool × X × List Int} {room : Int} {B : DB} {x : X} {xs : List Int} {b : Int} (h : (xs.length : Int) < room) (hg : B.going = true) (hb : (next x b).1 = false) (s : List Int) :
    feedL next room B x xs (b :: s) = (0, { B with err := 3, fat := B.at_ }, (next x b).2.1, xs ++ (next x b).2.2) := by
  rw [feedL, if_pos ⟨h, hg⟩, if_neg (by rw [hb]; decide)]
theorem feedL_good {X : Type} {next : X → Int → Bool × X × List Int} {room : Int} {B : DB} {x : X} {xs : List Int} {b : Int} (h : (xs.length : Int) < room) (hg : B.going = true) (hb : (next x b).1 = true) (s : List Int) :
    feedL next room B x xs (b :: s) = ((feedL next room { B with at_ := B.at_ + 1 } (next x b).2.1 (xs ++ (next x b).2.2) s).1 + 1, (feedL next room { B with at_ := B.at_ + 1 } (next x b).2.1 (xs ++ (next x b).2.2) s).2) := by
  rw [feedL, if_pos ⟨h, hg⟩, if_pos hb]
theorem drop_cons {s : List Int} {k : Nat} (h : k < s.length) : s.drop k = s.getD k 0 :: s.drop (k + 1) := by
  rw [List.drop_eq_getElem_cons h, List.getD_eq_getElem?_getD, List.getElem?_eq_getElem h]
  rfl
/-- What the loop comes to, seen from a round's head: k bytes were eaten. -/
def Comes {X : Type} (next : X → Int → Bool × X × List Int) (room : Int) (s : List Int) (r : Nat × DB × X × List Int) (k : Nat) (B : DB) (x : X) (xs : List Int) : Prop :=
  r.1 = k + (feedL next room B x xs (s.drop k)).1 ∧ r.2 = (feedL next room B x xs (s.drop k)).2
theorem Comes.start {X : Type} (next : X → Int → Bool × X × List Int) (room : Int) (s : List Int) (B : DB) (x : X) : Comes next room s (feedL next room B x [] s) 0 B x [] := ⟨by simp, rfl⟩
theorem Comes.done {X : Type} {next : X → Int → Bool × X × List Int} {room : Int} {s : List Int} {r : Nat × DB × X × List Int} {k : Nat} {B : DB} {x : X} {xs : List Int} (h : Comes next room s r k B x xs)
    (hs : ¬ (k < s.length ∧ (xs.length : Int) < room ∧ B.going = true)) : r = (k, B, x, xs) := by
  obtain ⟨h1, h2⟩ := h
  by_cases hk : k < s.length
  · have : ¬ ((xs.length : Int) < room ∧ B.going = true) := fun h => hs ⟨hk, h⟩
    rw [feedL_stop this] at h1 h2
    exact Prod.ext h1 h2
  · rw [List.drop_eq_nil_of_le (by omega)] at h1 h2
    exact Prod.ext h1 h2
theorem Comes.bad {X : Type} {next : X → Int → Bool × X × List Int} {room : Int} {s : List Int} {r : Nat × DB × X × List Int} {k : Nat} {B : DB} {x : X} {xs : List Int} (h : Comes next room s r k B x xs) {b : Int} (hb : b = s.getD k 0)
    (hk : k < s.length) (hr : (xs.length : Int) < room) (hg : B.going = true) (hn : (next x b).1 = false) : r = (k, { B with err := 3, fat := B.at_ }, (next x b).2.1, xs ++ (next x b).2.2) := by
  obtain ⟨h1, h2⟩ := h
  rw [drop_cons hk, ← hb, feedL_bad hr hg hn] at h1 h2
  exact Prod.ext h1 h2
theorem Comes.good {X : Type} {next : X → Int → Bool × X × List Int} {room : Int} {s : List Int} {r : Nat × DB × X × List Int} {k : Nat} {B : DB} {x : X} {xs : List Int} (h : Comes next room s r k B x xs) {b : Int} (hb : b = s.getD k 0)
    (hk : k < s.length) (hr : (xs.length : Int) < room) (hg : B.going = true) (hn : (next x b).1 = true) : Comes next room s r (k + 1) { B with at_ := B.at_ + 1 } (next x b).2.1 (xs ++ (next x b).2.2) := by
  obtain ⟨h1, h2⟩ := h
  rw [drop_cons hk, ← hb, feedL_good hr hg hn] at h1 h2
  exact ⟨by simp only at h1; omega, h2⟩

/-- What End makes of a machine; c: does it end in the middle of something? -/
def endB (B : DB) (c : Bool) : DB := (if c then B.stop 4 else B).endd
theorem endB_no {B : DB} (h : B.going = false) (c : Bool) : endB B c = B := by
  have h1 : B.stop 4 = B := if_neg (by rw [h]; decide)
  have h2 : B.endd = B := if_neg (by rw [h]; decide)
  cases c
  · exact h2
  · show (B.stop 4).endd = B
    rw [h1, h2]
theorem endB_cut {B : DB} (h : B.going = true) : endB B true = { B with err := 4, fat := B.at_ } := by
  have h1 : B.stop 4 = { B with err := 4, fat := B.at_ } := if_pos h
  show (B.stop 4).endd = _
  rw [h1]
  exact if_neg (by simp [DB.going])
theorem endB_ok {B : DB} (h : B.going = true) : endB B false = { B with en := true } := if_pos h

/-! ### encoders: a scalar after the other -/
/-- Is a number a scalar? -/
def isS (c : Int) : Bool := decide (c ≤ 1114111) && (decide (c < 55296) || decide (57343 < c))
theorem is_c (c : Int) (w : World) : Calls Tryz.prog 204 #[.int .u32 c] w fun e w' => e = .returned (.bool (isS c)) ∧ w = w' := by
  unfold isS
  cases h1 : decide (c ≤ 1114111)
  all_goals cases h2 : decide (c < 55296)
  all_goals cases h3 : decide (57343 < c)
  all_goals
    simp only [decide_eq_true_eq, decide_eq_false_iff_not] at h1 h2 h3
    go_enter Tryz.func204, Tryz.ntmps204
    go_wp2
    go_ret
    exact ⟨rfl, rfl⟩
/-- How many may be given. -/
def give (room : Int) (p : List Int) : Nat := min room.toNat p.length
/-- The loop of an encoder's Feed: a scalar only where nothing waits. -/
def encL {X : Type} (bytes : X → Int → List Int × X) (room : Int) : DB → X → List Int → List Int → List Int → Nat × DB × X × List Int × List Int
  | B, x, p, out, [] => (0, B, x, p, out)
  | B, x, p, out, c :: s =>
    if p = [] ∧ B.going = true then
      if isS c = true then
        let b := (bytes x c).1
        let m := give (room - out.length) b
        let q := encL bytes room { B with at_ := B.at_ + 1 } (bytes x c).2 (b.drop m) (out ++ b.take m) s
        (q.1 + 1, q.2)
      else (0, { B with err := 2, fat := B.at_ }, x, p, out)
    else (0, B, x, p, out)
/-- What Feed comes to: how much was eaten, the state, what waits, what is told. -/
def encF {X : Type} (bytes : X → Int → List Int × X) (room : Int) (B : DB) (x : X) (p : List Int) (l : List Int) : Nat × DB × X × List Int × List Int :=
  encL bytes room B x (p.drop (give room p)) (p.take (give room p)) l
/-- What the loop comes to, seen from a round's head. -/
def ComesE {X : Type} (bytes : X → Int → List Int × X) (room : Int) (l : List Int) (r : Nat × DB × X × List Int × List Int) (k : Nat) (B : DB) (x : X) (p out : List Int) : Prop :=
  r.1 = k + (encL bytes room B x p out (l.drop k)).1 ∧ r.2 = (encL bytes room B x p out (l.drop k)).2
theorem ComesE.start {X : Type} (bytes : X → Int → List Int × X) (room : Int) (l : List Int) (B : DB) (x : X) (p : List Int) : ComesE bytes room l (encF bytes room B x p l) 0 B x (p.drop (give room p)) (p.take (give room p)) := ⟨by simp [encF], rfl⟩
theorem ComesE.done {X : Type} {bytes : X → Int → List Int × X} {room : Int} {l : List Int} {r : Nat × DB × X × List Int × List Int} {k : Nat} {B : DB} {x : X} {p out : List Int} (h : ComesE bytes room l r k B x p out)
    (hs : ¬ (k < l.length ∧ p = [] ∧ B.going = true)) : r = (k, B, x, p, out) := by
  obtain ⟨h1, h2⟩ := h
  by_cases hk : k < l.length
  · have : ¬ (p = [] ∧ B.going = true) := fun h => hs ⟨hk, h⟩
    rw [drop_cons hk, encL, if_neg this] at h1 h2
    exact Prod.ext h1 h2
  · rw [List.drop_eq_nil_of_le (by omega)] at h1 h2
    exact Prod.ext h1 h2
theorem ComesE.bad {X : Type} {bytes : X → Int → List Int × X} {room : Int} {l : List Int} {r : Nat × DB × X × List Int × List Int} {k : Nat} {B : DB} {x : X} {out : List Int} (h : ComesE bytes room l r k B x [] out) {c : Int} (hc : c = l.getD k 0)
    (hk : k < l.length) (hg : B.going = true) (hn : isS c = false) : r = (k, { B with err := 2, fat := B.at_ }, x, [], out) := by
  obtain ⟨h1, h2⟩ := h
  rw [drop_cons hk, ← hc, encL, if_pos ⟨rfl, hg⟩, if_neg (by rw [hn]; decide)] at h1 h2
  exact Prod.ext h1 h2
theorem ComesE.good {X : Type} {bytes : X → Int → List Int × X} {room : Int} {l : List Int} {r : Nat × DB × X × List Int × List Int} {k : Nat} {B : DB} {x : X} {out : List Int} (h : ComesE bytes room l r k B x [] out) {c : Int} (hc : c = l.getD k 0)
    (hk : k < l.length) (hg : B.going = true) (hn : isS c = true) {b : List Int} {x' : X} (hb : bytes x c = (b, x')) {m : Nat} (hm : m = give (room - out.length) b) :
    ComesE bytes room l r (k + 1) { B with at_ := B.at_ + 1 } x' (b.drop m) (out ++ b.take m) := by
  obtain ⟨h1, h2⟩ := h
  rw [drop_cons hk, ← hc, encL, if_pos ⟨rfl, hg⟩, if_pos hn, hb] at h1 h2
  subst hm
  exact ⟨by simp only at h1; omega, h2⟩
theorem give_eq (room : Int) (p : List Int) : ((give room p : Nat) : Int) = min (max room 0) p.length := by unfold give; omega
theorem give_le (room : Int) (p : List Int) : give room p ≤ p.length := by unfold give; omega

/-! ### some bytes as a text -/
theorem run_conv (W : World) (k n c : Nat) (cs : Array Value) (t : TypeId) (fr : Nat × Nat) (xs : List Int) (hb : W.heap[k]? = some (.cells cs t fr)) (hl : xs.length = n) (hc : ∀ i, i < n → cs[i]? = some (.int .u8 (xs.getD i 0))) :
    (convert 135 9 (.slice (some ⟨k, 0, none⟩) n c)).run Tryz.prog W = .ok (.string (strOfNums xs)) W :=
  run_convert_bytes_arg W 135 5 Tryz.underlying135 Tryz.underlying5 k 0 n c xs hl (fun i hi => by rw [Nat.zero_add, cell_of_row W k i cs t fr hb]; exact hc i hi) 9 Tryz.underlying9
theorem lit1 (a : Int) : ∀ i, i < 1 → (#[Value.int .u8 a] : Array Value)[i]? = some (.int .u8 ([a].getD i 0)) := by
  intro i hi; match i, hi with | 0, _ => rfl
@[go_sem] theorem run_conv1 (w : World) (n : Nat) (a : Int) (hn : n = w.heap.size) :
    (convert 135 9 (.slice (some ⟨n, 0, none⟩) 1 1)).run Tryz.prog (w.alloc (.cells #[.int .u8 a] 5)) = .ok (.string (strOfNums [a])) (w.alloc (.cells #[.int .u8 a] 5)) := by
  subst hn; exact run_conv _ _ 1 1 _ _ _ [a] (blk_new _ _) rfl (lit1 a)
@[go_sem] theorem run_conv1d (w : World) (n : Nat) (a : Int) (hn : n = w.heap.size) :
    (convert 135 9 (.slice (some ⟨n, 0, none⟩) 1 1)).run Tryz.prog (w.alloc (.cells #[.int .u8 a] 5)).drew = .ok (.string (strOfNums [a])) (w.alloc (.cells #[.int .u8 a] 5)).drew := by
  subst hn; exact run_conv _ _ 1 1 _ _ _ [a] (blk_new _ _) rfl (lit1 a)
theorem lit2 (a b : Int) : ∀ i, i < 2 → (#[Value.int .u8 a, Value.int .u8 b] : Array Value)[i]? = some (.int .u8 ([a, b].getD i 0)) := by
  intro i hi; match i, hi with | 0, _ => rfl | 1, _ => rfl
@[go_sem] theorem run_conv2 (w : World) (n : Nat) (a b : Int) (hn : n = w.heap.size) :
    (convert 135 9 (.slice (some ⟨n, 0, none⟩) 2 2)).run Tryz.prog (w.alloc (.cells #[.int .u8 a, .int .u8 b] 5)) = .ok (.string (strOfNums [a, b])) (w.alloc (.cells #[.int .u8 a, .int .u8 b] 5)) := by
  subst hn; exact run_conv _ _ 2 2 _ _ _ [a, b] (blk_new _ _) rfl (lit2 a b)
@[go_sem] theorem run_conv2d (w : World) (n : Nat) (a b : Int) (hn : n = w.heap.size) :
    (convert 135 9 (.slice (some ⟨n, 0, none⟩) 2 2)).run Tryz.prog (w.alloc (.cells #[.int .u8 a, .int .u8 b] 5)).drew = .ok (.string (strOfNums [a, b])) (w.alloc (.cells #[.int .u8 a, .int .u8 b] 5)).drew := by
  subst hn; exact run_conv _ _ 2 2 _ _ _ [a, b] (blk_new _ _) rfl (lit2 a b)
theorem lit3 (a b c : Int) : ∀ i, i < 3 → (#[Value.int .u8 a, Value.int .u8 b, Value.int .u8 c] : Array Value)[i]? = some (.int .u8 ([a, b, c].getD i 0)) := by
  intro i hi; match i, hi with | 0, _ => rfl | 1, _ => rfl | 2, _ => rfl
@[go_sem] theorem run_conv3 (w : World) (n : Nat) (a b c : Int) (hn : n = w.heap.size) :
    (convert 135 9 (.slice (some ⟨n, 0, none⟩) 3 3)).run Tryz.prog (w.alloc (.cells #[.int .u8 a, .int .u8 b, .int .u8 c] 5)) = .ok (.string (strOfNums [a, b, c])) (w.alloc (.cells #[.int .u8 a, .int .u8 b, .int .u8 c] 5)) := by
  subst hn; exact run_conv _ _ 3 3 _ _ _ [a, b, c] (blk_new _ _) rfl (lit3 a b c)
@[go_sem] theorem run_conv3d (w : World) (n : Nat) (a b c : Int) (hn : n = w.heap.size) :
    (convert 135 9 (.slice (some ⟨n, 0, none⟩) 3 3)).run Tryz.prog (w.alloc (.cells #[.int .u8 a, .int .u8 b, .int .u8 c] 5)).drew = .ok (.string (strOfNums [a, b, c])) (w.alloc (.cells #[.int .u8 a, .int .u8 b, .int .u8 c] 5)).drew := by
  subst hn; exact run_conv _ _ 3 3 _ _ _ [a, b, c] (blk_new _ _) rfl (lit3 a b c)
theorem lit4 (a b c d : Int) : ∀ i, i < 4 → (#[Value.int .u8 a, Value.int .u8 b, Value.int .u8 c, Value.int .u8 d] : Array Value)[i]? = some (.int .u8 ([a, b, c, d].getD i 0)) := by
  intro i hi; match i, hi with | 0, _ => rfl | 1, _ => rfl | 2, _ => rfl | 3, _ => rfl
@[go_sem] theorem run_conv4 (w : World) (n : Nat) (a b c d : Int) (hn : n = w.heap.size) :
    (convert 135 9 (.slice (some ⟨n, 0, none⟩) 4 4)).run Tryz.prog (w.alloc (.cells #[.int .u8 a, .int .u8 b, .int .u8 c, .int .u8 d] 5)) = .ok (.string (strOfNums [a, b, c, d])) (w.alloc (.cells #[.int .u8 a, .int .u8 b, .int .u8 c, .int .u8 d] 5)) := by
  subst hn; exact run_conv _ _ 4 4 _ _ _ [a, b, c, d] (blk_new _ _) rfl (lit4 a b c d)
@[go_sem] theorem run_conv4d (w : World) (n : Nat) (a b c d : Int) (hn : n = w.heap.size) :
    (convert 135 9 (.slice (some ⟨n, 0, none⟩) 4 4)).run Tryz.prog (w.alloc (.cells #[.int .u8 a, .int .u8 b, .int .u8 c, .int .u8 d] 5)).drew = .ok (.string (strOfNums [a, b, c, d])) (w.alloc (.cells #[.int .u8 a, .int .u8 b, .int .u8 c, .int .u8 d] 5)).drew := by
  subst hn; exact run_conv _ _ 4 4 _ _ _ [a, b, c, d] (blk_new _ _) rfl (lit4 a b c d)
end Go.Proofs.YthdcfmconpgflaaGreat
