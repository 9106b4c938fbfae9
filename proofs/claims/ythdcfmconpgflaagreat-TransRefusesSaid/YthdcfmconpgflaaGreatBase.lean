/- Words on worlds that all walks of this seat use: what is kept but for some blocks, what a block holds behind a store, a row of whole numbers. No program in sight. -/
import Derived.WalkKit
import Derived.Deep.Draws
import Derived.Laws.OwnMore
import Derived.Maps.AppendAt
import Derived.Laws.BitsAllLaws
set_option linter.unusedVariables false
set_option linter.unusedSimpArgs false
namespace Go.Proofs.YthdcfmconpgflaaGreat
open Go.RowKit

/-- w' is w but for the blocks of S, and for new ones. -/
structure Kept (S : Nat → Prop) (w w' : World) : Prop where
  os : w'.os = w.os
  tape : w'.tape = w.tape
  output : w'.output = w.output
  size : w.heap.size ≤ w'.heap.size
  block : ∀ k, k < w.heap.size → ¬ S k → w'.heap[k]? = w.heap[k]?

theorem Kept.refl (S : Nat → Prop) (w : World) : Kept S w w := ⟨rfl, rfl, rfl, Nat.le_refl _, fun _ _ _ => rfl⟩
theorem Kept.trans {S : Nat → Prop} {a b c : World} (h : Kept S a b) (k : Kept S b c) : Kept S a c :=
  ⟨k.os.trans h.os, k.tape.trans h.tape, k.output.trans h.output, Nat.le_trans h.size k.size, fun i hi hs => (k.block i (Nat.lt_of_lt_of_le hi h.size) hs).trans (h.block i hi hs)⟩
theorem Kept.trans' {S T : Nat → Prop} {a b c : World} (h : Kept S a b) (k : Kept T b c) (ht : ∀ i, i < a.heap.size → T i → S i) : Kept S a c :=
  ⟨k.os.trans h.os, k.tape.trans h.tape, k.output.trans h.output, Nat.le_trans h.size k.size, fun i hi hs => (k.block i (Nat.lt_of_lt_of_le hi h.size) (fun x => hs (ht i hi x))).trans (h.block i hi hs)⟩
theorem Kept.mono {S T : Nat → Prop} {a b : World} (h : Kept S a b) (ht : ∀ i, i < a.heap.size → S i → T i) : Kept T a b :=
  ⟨h.os, h.tape, h.output, h.size, fun i hi hs => h.block i hi (fun x => hs (ht i hi x))⟩
theorem Kept.drew {S : Nat → Prop} {a b : World} (h : Kept S a b) : Kept S a b.drew := ⟨h.os, h.tape, h.output, h.size, h.block⟩
theorem Kept.drewN {S : Nat → Prop} {a b : World} (h : Kept S a b) (n : Nat) : Kept S a (b.drewN n) := ⟨h.os, h.tape, h.output, h.size, h.block⟩
theorem Kept.alloc {S : Nat → Prop} {a b : World} (h : Kept S a b) (o : Obj) : Kept S a (b.alloc o) :=
  h.trans ⟨rfl, rfl, rfl, by simp, fun k hk _ => Below.heap_alloc _ _ _ hk⟩
theorem Kept.setCell {S : Nat → Prop} {a b : World} (h : Kept S a b) {p : Addr} (hp : S p.block ∨ a.heap.size ≤ p.block) (u : Value) : Kept S a (b.setCell p u) :=
  ⟨h.os, h.tape, h.output, by simpa using h.size, fun k hk hs => by
    rw [Below.heap_setCell _ _ _ _ (fun e => by subst e; rcases hp with hp | hp; exact hs hp; omega)]
    exact h.block k hk hs⟩
theorem Kept.grown {S : Nat → Prop} {a b c : World} (h : Kept S a b) {row : Option Nat} (hg : b.grownBy c row) (hr : ∀ k, row = some k → S k ∨ a.heap.size ≤ k) : Kept S a c :=
  ⟨hg.os.trans h.os, hg.tape.trans h.tape, hg.output.trans h.output, Nat.le_trans h.size hg.size, fun k hk hs => by
    rw [hg.block k (Nat.lt_of_lt_of_le hk h.size) (fun e => by rcases hr k e.symm with x | x; exact hs x; omega)]
    exact h.block k hk hs⟩
theorem Kept.below {S : Nat → Prop} {a b c : World} (h : Kept S a b) (hb : Below b.heap.size b c) : Kept S a c :=
  ⟨hb.os.trans h.os, hb.tape.trans h.tape, hb.output.trans h.output, Nat.le_trans h.size hb.size, fun k hk hs => (hb.block k (Nat.lt_of_lt_of_le hk h.size)).trans (h.block k hk hs)⟩
theorem Kept.ofBelow {w w' : World} (h : Below w.heap.size w w') (S : Nat → Prop) : Kept S w w' := (Kept.refl S w).below h
/-- Where nothing that was there may turn. -/
theorem Kept.toBelow {S : Nat → Prop} {w w' : World} (h : Kept S w w') (hs : ∀ k, k < w.heap.size → ¬ S k) : Below w.heap.size w w' :=
  ⟨h.os, h.tape, h.output, h.size, fun k hk => h.block k hk (hs k hk)⟩
theorem Kept.heap {S : Nat → Prop} {w w' : World} (h : Kept S w w') {k : Nat} {o : Obj} (hk : w.heap[k]? = some o) (hs : ¬ S k) : w'.heap[k]? = some o :=
  (h.block k (lt_of_block hk) hs).trans hk
theorem Kept.cell {S : Nat → Prop} {w w' : World} (h : Kept S w w') {p : Addr} {v : Value} (hc : w.cell? p = some v) (hs : ¬ S p.block) : w'.cell? p = some v :=
  (World.cell?_of_block (h.block p.block (block_lt_of_cell hc) hs)).trans hc
theorem Kept.owns {S : Nat → Prop} {w w' : World} (h : Kept S w w') {base : Nat} {e : TypeId} {size n : Nat} {v : Value} {xs : List Value} (ho : w.ownsRow base e size v n xs) (hs : ∀ k, v.ownBlock = some k → ¬ S k) : w'.ownsRow base e size v n xs := by
  refine ⟨ho.1, ?_⟩
  rcases ho.2 with h2 | ⟨g, cap, cur, hv, hg, hh, r⟩
  · exact .inl h2
  · exact .inr ⟨g, cap, cur, hv, hg, h.heap hh (hs g (by subst hv; rfl)), r⟩

/-! ### a block of cells -/
theorem blk_cell {w : World} {g : Nat} {cs : Array Value} {t : TypeId} (h : w.heap[g]? = some (.cells cs t (0, 0))) (i : Nat) : w.cell? ⟨g, i, none⟩ = cs[i]? := cell_of_row w g i cs t _ h
theorem blk_free {w : World} {g : Nat} {cs : Array Value} {t : TypeId} (h : w.heap[g]? = some (.cells cs t (0, 0))) (i : Nat) : w.frozen? ⟨g, i, none⟩ = false := frozen_of_row w g i cs t h
theorem blk_set {w : World} {g : Nat} {cs : Array Value} {t : TypeId} (h : w.heap[g]? = some (.cells cs t (0, 0))) (i : Nat) (v : Value) :
    (w.setCell ⟨g, i, none⟩ v).heap[g]? = some (.cells (cs.setIfInBounds i v) t (0, 0)) := heap_setCell_same w g i cs t v h
theorem blk_far {w : World} {k : Nat} {o : Obj} (h : w.heap[k]? = some o) {p : Addr} (hne : k ≠ p.block) (v : Value) : (w.setCell p v).heap[k]? = some o := (heap_setCell_other w p k v hne).trans h
theorem blk_alloc {w : World} {k : Nat} {o : Obj} (h : w.heap[k]? = some o) (o' : Obj) : (w.alloc o').heap[k]? = some o := (Below.heap_alloc w o' k (lt_of_block h)).trans h
theorem blk_new (w : World) (o : Obj) : (w.alloc o).heap[w.heap.size]? = some o := Go.heap_alloc_new w o
theorem blk_new' (w : World) (o : Obj) (k : Nat) (h : k = w.heap.size) : (w.alloc o).heap[k]? = some o := by subst h; exact blk_new w o
theorem blk_lt {w : World} {k : Nat} {o : Obj} (h : w.heap[k]? = some o) : k < w.heap.size := lt_of_block h
theorem blk_drew {w : World} {k : Nat} {o : Obj} (h : w.heap[k]? = some o) : w.drew.heap[k]? = some o := h

def Obj.put (i : Nat) (v : Value) : Obj → Obj
  | .cells c e f => .cells (c.setIfInBounds i v) e f
  | o => o
/-- What a block holds behind a store into it: for simp, where the block's own literal is known. -/
theorem heap_put (w : World) (g i : Nat) (v : Value) : (w.setCell ⟨g, i, none⟩ v).heap[g]? = (w.heap[g]?).map (Obj.put i v) := by
  simp only [World.setCell, Array.getElem?_modify, if_true]
  rcases w.heap[g]? with _ | o
  · rfl
  · cases o <;> rfl
theorem Kept.set1 {S : Nat → Prop} {a b : World} (h : Kept S a b) (g i : Nat) (hs : S g) (u : Value) : Kept S a (b.setCell ⟨g, i, none⟩ u) := h.setCell (.inl hs) u
theorem Kept.one (w : World) (g i : Nat) (u : Value) : Kept (fun k => k = g) w (w.setCell ⟨g, i, none⟩ u) := (Kept.refl (fun k => k = g) w).set1 g i rfl u
theorem Kept.two (w : World) (g i j : Nat) (u v : Value) : Kept (fun k => k = g) w ((w.setCell ⟨g, i, none⟩ u).setCell ⟨g, j, none⟩ v) := (Kept.one w g i u).set1 g j rfl v
theorem Kept.setNew {S : Nat → Prop} {a b : World} (h : Kept S a b) (g i : Nat) (hs : a.heap.size ≤ g) (u : Value) : Kept S a (b.setCell ⟨g, i, none⟩ u) := h.setCell (.inr hs) u

/-- The world under one name, and what is known of it. -/
theorem wp_gen {P : Program} {c : Code} {Q : Exit → Act → World → Prop} {a : Act} {w : World} (I : World → Prop) (h : I w) (k : ∀ W, I W → c.wp P Q a W) : c.wp P Q a w := k w h

theorem wpList_gen {P : Program} {ops : Array Oper} {Q : Exit → Act → World → Prop} {l : List Oper} {a : Act} {w : World} (I : World → Prop) (h : I w) (k : ∀ W, I W → wpList P ops Q l a W) : wpList P ops Q l a w := k w h

/-! ### bits -/
theorem or32 (k : Nat) (x y : Int) (hx : 0 ≤ x) (hx' : x < 4294967296) (hd : x % (2 ^ k : Nat) = 0) (hy : 0 ≤ y) (hy' : y < (2 ^ k : Nat)) (hk : y < 4294967296) : bits .or .u32 x y = x + y := by
  obtain ⟨a, rfl⟩ := Int.eq_ofNat_of_zero_le hx
  obtain ⟨b, rfl⟩ := Int.eq_ofNat_of_zero_le hy
  rw [u32_or_nat a b (by omega) (by omega), nat_join k a b (by exact_mod_cast hd) (by exact_mod_cast hy')]
  omega

theorem and8 (k : Nat) (x y : Int) (hx : 0 ≤ x) (hx' : x < 256) (hy : y = (2 ^ k - 1 : Nat)) (hy' : y < 256) : bits .and .u8 x y = x % (2 ^ k : Nat) := by
  obtain ⟨a, rfl⟩ := Int.eq_ofNat_of_zero_le hx
  subst hy
  rw [u8_and_nat a _ (by omega) (by omega), Nat.and_two_pow_sub_one_eq_mod]
  omega

/-! ### lists of numbers -/
def nums (k : IntKind) (xs : List Int) : List Value := xs.map (Value.int k)
theorem nums_len (k : IntKind) (xs : List Int) : (nums k xs).length = xs.length := by simp [nums]
theorem nums_app (k : IntKind) (xs ys : List Int) : nums k (xs ++ ys) = nums k xs ++ nums k ys := by simp [nums]
theorem nums_get (k : IntKind) (xs : List Int) (j : Nat) (h : j < xs.length) : (nums k xs)[j]? = some (.int k (xs.getD j 0)) := by
  simp [nums, List.getElem?_eq_getElem h, List.getD_eq_getElem?_getD]

/-! ### strings: 'strOfNums l' is the text of the bytes l -/
/-- The bytes of a text. -/
def bs (s : ByteArray) : List Int := s.data.toList.map fun b => (b.toNat : Int)
/-- All are bytes. -/
def Byt (l : List Int) : Prop := ∀ x ∈ l, 0 ≤ x ∧ x < 256
theorem S_bs (s : ByteArray) : strOfNums (bs s) = s := by
  obtain ⟨⟨d⟩⟩ := s
  simp [strOfNums, bs, Function.comp_def]
theorem bs_byt (s : ByteArray) : Byt (bs s) := by
  intro x hx
  obtain ⟨b, _, rfl⟩ := List.mem_map.1 hx
  have := b.toNat_lt
  omega
theorem bs_length (s : ByteArray) : (bs s).length = s.size := by
  simp [bs]
theorem bs_S {l : List Int} (h : Byt l) : bs (strOfNums l) = l := by
  simp only [strOfNums, bs, List.map_map]
  conv => rhs; rw [← List.map_id l]
  refine List.map_congr_left fun x hx => ?_
  have := h x hx
  simp only [Function.comp_apply, id_eq, UInt8.toNat_ofNat']
  omega
theorem S_app (a b : List Int) : strOfNums a ++ strOfNums b = strOfNums (a ++ b) := by
  apply ByteArray.ext
  simp [strOfNums, ByteArray.data_append]
theorem Byt.app {a b : List Int} (ha : Byt a) (hb : Byt b) : Byt (a ++ b) := fun x hx => (List.mem_append.1 hx).elim (ha x) (hb x)
theorem Byt.nil : Byt [] := fun _ h => by cases h
theorem Byt.take {a : List Int} (h : Byt a) (n : Nat) : Byt (a.take n) := fun x hx => h x (List.mem_of_mem_take hx)
theorem Byt.drop {a : List Int} (h : Byt a) (n : Nat) : Byt (a.drop n) := fun x hx => h x (List.mem_of_mem_drop hx)
theorem Byt.cons {a : List Int} {x : Int} (h0 : 0 ≤ x) (h1 : x < 256) (h : Byt a) : Byt (x :: a) := fun y hy => by
  rcases List.mem_cons.1 hy with rfl | hy
  · exact ⟨h0, h1⟩
  · exact h y hy
theorem Byt.at {a : List Int} (h : Byt a) (i : Nat) : 0 ≤ a.getD i 0 ∧ a.getD i 0 < 256 := by
  rw [List.getD_eq_getElem?_getD]
  rcases Nat.lt_or_ge i a.length with hi | hi
  · rw [List.getElem?_eq_getElem hi]; exact h _ (List.getElem_mem hi)
  · rw [List.getElem?_eq_none hi]; exact ⟨by decide, by decide⟩
theorem S_inj {a b : List Int} (ha : Byt a) (hb : Byt b) (h : strOfNums a = strOfNums b) : a = b := by rw [← bs_S ha, ← bs_S hb, h]
theorem S_get {l : List Int} (hl : Byt l) (i : Nat) (h : i < (strOfNums l).size) : (((strOfNums l)[i]'h).toNat : Int) = l.getD i 0 := by
  have hi : i < l.length := by rwa [strOfNums_size] at h
  have hb := hl.at i
  show (((l.map fun i => UInt8.ofNat i.toNat).toArray[i]'(by simpa using hi)).toNat : Int) = _
  simp only [List.getElem_toArray, List.getElem_map, UInt8.toNat_ofNat']
  rw [List.getD_eq_getElem?_getD, List.getElem?_eq_getElem hi] at hb ⊢
  simp only [Option.getD_some] at hb ⊢
  omega
theorem S_extract (l : List Int) (i j : Nat) : (strOfNums l).extract i j = strOfNums ((l.take j).drop i) := by
  apply ByteArray.ext
  simp only [strOfNums, ByteArray.data_extract, List.extract_toArray, List.map_drop, List.map_take, List.extract_eq_take_drop, List.drop_take]

theorem S_toList (l : List Int) : (strOfNums l).toList = l.map fun i => UInt8.ofNat i.toNat := by
  rw [ByteArray.toList_eq]; rfl
theorem S_empty (l : List Int) : (strOfNums l).toList.isEmpty = l.isEmpty := by
  rw [S_toList]; cases l <;> rfl

/-- A row of numbers that the call made: nil, or at the head of a block from base on. -/
def Row (w : World) (base : Nat) (E : TypeId) (k : IntKind) (v : Value) (xs : List Int) : Prop := w.ownsRow base E 1 v xs.length (nums k xs)
theorem Row.nil (w : World) (base : Nat) (E : TypeId) (k : IntKind) : Row w base E k (.slice none 0 0) [] := World.ownsRow_nil w base E 1
theorem Row.kept {w w' : World} {base : Nat} {E : TypeId} {k : IntKind} {v : Value} {xs : List Int} (h : Row w base E k v xs) {S : Nat → Prop} (hk : Kept S w w') (hs : ∀ k, v.ownBlock = some k → ¬ S k) : Row w' base E k v xs := hk.owns h hs
theorem Row.lt {w : World} {base : Nat} {E : TypeId} {k : IntKind} {v : Value} {xs : List Int} (h : Row w base E k v xs) : ∀ i, v.ownBlock = some i → base ≤ i ∧ i < w.heap.size := World.ownsRow.lt h
theorem Row.far {w : World} {base : Nat} {E : TypeId} {k : IntKind} {v : Value} {xs : List Int} (h : Row w base E k v xs) {g : Nat} (hg : g < base) {w' : World} (hk : Kept (fun k => k = g) w w') : Row w' base E k v xs := h.kept hk (fun i hi e => by have := (h.lt i hi).1; omega)
theorem Row.slice {w : World} {base : Nat} {E : TypeId} {k : IntKind} {v : Value} {xs : List Int} (h : Row w base E k v xs) : ∃ A c, v = .slice A xs.length c ∧ xs.length ≤ c := by
  rcases h.2 with ⟨rfl, h0⟩ | ⟨g, cap, cur, rfl, _, _, hc, _⟩
  · exact ⟨none, 0, by rw [h0], by omega⟩
  · exact ⟨_, cap, rfl, hc⟩

/-- A slice of whole numbers that is read: nil, empty or other, wherever it lies. -/
def Rd (w : World) (k : IntKind) (v : Value) (xs : List Int) : Prop :=
  ∃ A c, v = .slice A xs.length c ∧ xs.length ≤ c ∧ (xs ≠ [] → ∃ b o, A = some ⟨b, o, none⟩ ∧ b < w.heap.size ∧ ∀ j, j < xs.length → w.cell? ⟨b, o + j, none⟩ = some (.int k (xs.getD j 0)))
theorem Rd.slice {w : World} {k : IntKind} {v : Value} {xs : List Int} (h : Rd w k v xs) : ∃ A c, v = .slice A xs.length c := by
  obtain ⟨A, c, e, _⟩ := h; exact ⟨A, c, e⟩
theorem Rd.nil (w : World) (k : IntKind) : Rd w k (.slice none 0 0) [] := ⟨none, 0, rfl, Nat.le_refl _, fun h => absurd rfl h⟩
theorem Rd.kept {w w' : World} {k : IntKind} {v : Value} {xs : List Int} (h : Rd w k v xs) {S : Nat → Prop} (hk : Kept S w w') (hs : xs ≠ [] → ∀ b, v.ownBlock = some b → ¬ S b) : Rd w' k v xs := by
  obtain ⟨A, c, rfl, hc, hx⟩ := h
  refine ⟨A, c, rfl, hc, fun hne => ?_⟩
  obtain ⟨b, o, rfl, hb, hj⟩ := hx hne
  exact ⟨b, o, rfl, Nat.lt_of_lt_of_le hb hk.size, fun j hl => hk.cell (hj j hl) (hs hne b rfl)⟩
theorem Rd.below {w w' : World} {k : IntKind} {v : Value} {xs : List Int} (h : Rd w k v xs) (hb : Below w.heap.size w w') : Rd w' k v xs :=
  h.kept (Kept.ofBelow hb fun _ => False) (fun _ _ _ => id)
theorem Row.rd {w : World} {base : Nat} {E : TypeId} {k : IntKind} {v : Value} {xs : List Int} (h : Row w base E k v xs) : Rd w k v xs := by
  rcases h.2 with ⟨rfl, h0⟩ | ⟨g, cap, cur, rfl, _, hg, hc, _⟩
  · have : xs = [] := List.eq_nil_of_length_eq_zero h0
    subst this
    exact Rd.nil w k
  · refine ⟨_, cap, rfl, hc, fun _ => ⟨g, 0, rfl, blk_lt hg, fun j hj => ?_⟩⟩
    rw [Nat.zero_add]
    have := World.ownsRow.cells h (g := g) rfl j _ (nums_get k xs j hj)
    rwa [show (⟨g, 0, none⟩ : Addr).add j = ⟨g, j, none⟩ from by unfold Addr.add; split <;> simp_all] at this

theorem Rd.front {w : World} {k : IntKind} {A : Option Addr} {l c : Nat} {xs : List Int} (h : Rd w k (.slice A l c) xs) {n : Nat} (hn : n ≤ xs.length) : Rd w k (.slice A n c) (xs.take n) := by
  obtain ⟨A', c', e, hc, hx⟩ := h
  cases e
  refine ⟨A, c, by rw [List.length_take, Nat.min_eq_left hn], by rw [List.length_take]; omega, fun hne => ?_⟩
  obtain ⟨b, o, rfl, hb, hj⟩ := hx (by rintro rfl; simp at hne)
  refine ⟨b, o, rfl, hb, fun j hl => ?_⟩
  rw [List.length_take] at hl
  rw [hj j (by omega)]
  simp only [List.getD_eq_getElem?_getD, List.getElem?_take, if_pos (show j < n by omega)]
theorem Rd.back {w : World} {k : IntKind} {A A' : Option Addr} {l m c c' : Nat} {xs : List Int} (h : Rd w k (.slice A l c) xs) {n : Nat} (hn : n ≤ xs.length) (hm : m = xs.length - n) (hc' : m ≤ c') (hA : n < xs.length → A' = A.map (·.add n)) : Rd w k (.slice A' m c') (xs.drop n) := by
  obtain ⟨A0, c0, e, hc, hx⟩ := h
  cases e
  refine ⟨A', c', by rw [List.length_drop, hm], by rw [List.length_drop]; omega, fun hne => ?_⟩
  have hlt : n < xs.length := by
    rcases Nat.lt_or_ge n xs.length with h | h
    · exact h
    · exact absurd (List.drop_eq_nil_of_le h) hne
  obtain ⟨b, o, rfl, hb, hj⟩ := hx (by rintro rfl; simp at hlt)
  refine ⟨b, o + n, ?_, hb, fun j hl => ?_⟩
  · rw [hA hlt]
    show some ((⟨b, o, none⟩ : Addr).add n) = _
    unfold Addr.add; split <;> simp_all
  · rw [List.length_drop] at hl
    rw [Nat.add_assoc, hj (n + j) (by omega)]
    simp only [List.getD_eq_getElem?_getD, List.getElem?_drop]

/-- 'append(s, x...)' onto a row of the call's own, from whatever slice. -/
theorem wp_app {P : Program} (w : World) {o : Oper} {a : Act} {K : Act → World → Prop} {Q : Exit → Act → World → Prop} (s x : Operand) (t : TypeId)
    (ho : o.op = .call { callee := .builtin .append, args := #[s, x], argTypes := #[t, t] })
    (base : Nat) (e : TypeId) (k : IntKind) (i : TypeInfo) (bytes : Nat) (ht : P.underlying t = some (.slice e)) (hi : P.info? e = some i) (hz : i.zero = some (.int k 0))
    (hsize : i.size = 1) (hby : i.bytes = bytes)
    (v : Value) (xs : List Int) (hs : a.eval s = v) (hown : Row w base e k v xs)
    (y : Value) (ys : List Int) (hx : a.eval x = y) (hy : Rd w k y ys)
    (h63 : xs.length + ys.length ≤ maxLen) (hbytes : (xs.length + ys.length) * bytes ≤ 140737488355328) (hbase : base ≤ w.heap.size)
    (h : ∀ v' w', Row w' base e k v' (xs ++ ys) → w.grownBy w' v.ownBlock → (v' = .slice none 0 0 ↔ v = .slice none 0 0 ∧ ys = []) → K (a.put o.dst v') w') : o.wp P a w K Q := by
  obtain ⟨A, c, rfl, hc, hxs⟩ := hy
  have e0 : ys.length = 0 ↔ ys = [] := List.length_eq_zero_iff
  cases A with
  | some ad =>
    refine wp_append_own w s x t ho base e i (.int k 0) 1 bytes ht hi hz hsize hby rfl (by decide) v xs.length (nums k xs) hs hown ad ys.length c (nums k ys) hx (by simp [nums_len]) ?_ ?_ h63 hbytes hbase ?_
    · intro j u hu
      have hj : j < ys.length := by
        have := (List.getElem?_eq_some_iff.1 hu).1
        simpa [nums_len] using this
      obtain ⟨b, o', he, _, hcell⟩ := hxs (by intro e; subst e; simp at hj)
      cases he
      rw [nums_get k ys j hj] at hu
      cases hu
      rw [show (⟨b, o', none⟩ : Addr).add j = ⟨b, o' + j, none⟩ from by unfold Addr.add; split <;> simp_all]
      exact hcell j hj
    · intro u hu
      obtain ⟨_, _, rfl⟩ := List.mem_map.1 hu
      rfl
    · intro v' w' hr hg hn
      refine h v' w' ?_ hg (by rw [hn, e0])
      unfold Row
      rw [nums_app, List.length_append]
      exact hr
  | none =>
    have hy0 : ys = [] := by
      rcases Classical.em (ys = []) with h | h
      · exact h
      · obtain ⟨_, _, he, _⟩ := hxs h; cases he
    subst hy0
    have hrun : (Builtin.append_ #[t, t] o.type #[v, .slice none 0 c]).run P w = .ok v w := by
      obtain ⟨A, c', rfl, hc'⟩ := hown.slice
      have hst : ∀ a' : Addr, (storeCells a' []).run P w = .ok () w := fun _ => rfl
      cases A <;> simp [Builtin.append_, run_underlying ht, sizeOf, typeInfo, hi, Builtin.lenOf, Builtin.firstCells, hc', hst]
    unfold Oper.wp execOp
    simp only [ho, resolve, invoke, builtin, Sem.run_bind, Sem.run_pure, Result.andThen_ok, List.map_toArray, List.map_cons, List.map_nil, hs, hx, List.length_nil, hrun]
    exact h v w (by simpa using hown) ⟨rfl, rfl, rfl, Nat.le_refl _, fun _ _ _ => rfl⟩ (by simp)
theorem wpList_app {P : Program} (w : World) {ops : Array Oper} {rest : List Oper} {o : Oper} {a : Act} {Q : Exit → Act → World → Prop} (hgd : o.guard = none) (s x : Operand) (t : TypeId)
    (ho : o.op = .call { callee := .builtin .append, args := #[s, x], argTypes := #[t, t] })
    (base : Nat) (e : TypeId) (k : IntKind) (i : TypeInfo) (bytes : Nat) (ht : P.underlying t = some (.slice e)) (hi : P.info? e = some i) (hz : i.zero = some (.int k 0))
    (hsize : i.size = 1) (hby : i.bytes = bytes)
    (v : Value) (xs : List Int) (hs : a.eval s = v) (hown : Row w base e k v xs)
    (y : Value) (ys : List Int) (hx : a.eval x = y) (hy : Rd w k y ys)
    (h63 : xs.length + ys.length ≤ maxLen) (hbytes : (xs.length + ys.length) * bytes ≤ 140737488355328) (hbase : base ≤ w.heap.size)
    (h : ∀ v' w', Row w' base e k v' (xs ++ ys) → w.grownBy w' v.ownBlock → (v' = .slice none 0 0 ↔ v = .slice none 0 0 ∧ ys = []) → wpList P ops Q rest (a.put o.dst v') w') : wpList P ops Q (o :: rest) a w :=
  wpList_plain hgd fun _ hK => wp_app w s x t ho base e k i bytes ht hi hz hsize hby v xs hs hown y ys hx hy h63 hbytes hbase fun v' w' h2 h3 h4 => hK _ _ (h v' w' h2 h3 h4)
/-- .. and where the new row lies. -/
theorem wpList_appAt {P : Program} (w : World) {ops : Array Oper} {rest : List Oper} {o : Oper} {a : Act} {Q : Exit → Act → World → Prop} (hgd : o.guard = none) (s x : Operand) (t : TypeId)
    (ho : o.op = .call { callee := .builtin .append, args := #[s, x], argTypes := #[t, t] })
    (base : Nat) (e : TypeId) (k : IntKind) (i : TypeInfo) (bytes : Nat) (ht : P.underlying t = some (.slice e)) (hi : P.info? e = some i) (hz : i.zero = some (.int k 0))
    (hsize : i.size = 1) (hby : i.bytes = bytes)
    (v : Value) (xs : List Int) (hs : a.eval s = v) (hown : Row w base e k v xs)
    (y : Value) (ys : List Int) (hx : a.eval x = y) (hy : Rd w k y ys)
    (h63 : xs.length + ys.length ≤ maxLen) (hbytes : (xs.length + ys.length) * bytes ≤ 140737488355328) (hbase : base ≤ w.heap.size)
    (h : ∀ v' w', Row w' base e k v' (xs ++ ys) → w.grownBy w' v.ownBlock → (v'.ownBlock = v.ownBlock ∨ v'.ownBlock = some w.heap.size) → wpList P ops Q rest (a.put o.dst v') w') : wpList P ops Q (o :: rest) a w := by
  obtain ⟨A, c, rfl, hc, hxs⟩ := hy
  cases A with
  | some ad =>
    refine wpList_append_own_at w hgd s x t ho base e i (.int k 0) 1 bytes ht hi hz hsize hby rfl (by decide) v xs.length (nums k xs) hs hown ad ys.length c (nums k ys) hx (by simp [nums_len]) ?_ ?_ h63 hbytes hbase ?_
    · intro j u hu
      have hj : j < ys.length := by
        have := (List.getElem?_eq_some_iff.1 hu).1
        simpa [nums_len] using this
      obtain ⟨b, o', he, _, hcell⟩ := hxs (by intro e; subst e; simp at hj)
      cases he
      rw [nums_get k ys j hj] at hu
      cases hu
      rw [show (⟨b, o', none⟩ : Addr).add j = ⟨b, o' + j, none⟩ from by unfold Addr.add; split <;> simp_all]
      exact hcell j hj
    · intro u hu
      obtain ⟨_, _, rfl⟩ := List.mem_map.1 hu
      rfl
    · intro v' w' hr hg _ hat
      refine h v' w' ?_ hg hat
      unfold Row
      rw [nums_app, List.length_append]
      exact hr
  | none =>
    have hy0 : ys = [] := by
      rcases Classical.em (ys = []) with h | h
      · exact h
      · obtain ⟨_, _, he, _⟩ := hxs h; cases he
    subst hy0
    have hrun : (Builtin.append_ #[t, t] o.type #[v, .slice none 0 c]).run P w = .ok v w := by
      obtain ⟨A, c', rfl, hc'⟩ := hown.slice
      have hst : ∀ a' : Addr, (storeCells a' []).run P w = .ok () w := fun _ => rfl
      cases A <;> simp [Builtin.append_, run_underlying ht, sizeOf, typeInfo, hi, Builtin.lenOf, Builtin.firstCells, hc', hst]
    refine wpList_plain hgd fun K hK => ?_
    unfold Oper.wp execOp
    simp only [ho, resolve, invoke, builtin, Sem.run_bind, Sem.run_pure, Result.andThen_ok, List.map_toArray, List.map_cons, List.map_nil, hs, hx, List.length_nil, hrun]
    exact hK _ _ (h v w (by simpa using hown) ⟨rfl, rfl, rfl, Nat.le_refl _, fun _ _ _ => rfl⟩ (.inl rfl))
end Go.Proofs.YthdcfmconpgflaaGreat
