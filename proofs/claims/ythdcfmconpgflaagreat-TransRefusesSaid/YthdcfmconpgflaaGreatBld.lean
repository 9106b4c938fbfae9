/- strings.Builder: contracts with its own blocks named: what is written, what is handed out, and that nothing else turns. -/
import Derived.Test.YthdcfmconpgflaaGreatMach
import Derived.Lib.Builder
import Derived.Lib.UnsafeStr
set_option linter.unusedVariables false
set_option linter.unusedSimpArgs false
namespace Go.Proofs.YthdcfmconpgflaaGreat
open Go.RowKit

/-- A Builder at block b that holds the bytes l; F: the blocks that it may write. -/
def Bld (w : World) (F : Nat → Prop) (b : Nat) (l : List Int) : Prop :=
  ∃ p v, (p = .pointer none ∨ p = .pointer (some ⟨b, 0, none⟩)) ∧ w.heap[b]? = some (.cells #[p, v] 137 (0, 0)) ∧ Row w 0 5 .u8 v l ∧ v.ownBlock ≠ some b ∧ F b ∧ (∀ k, v.ownBlock = some k → F k) ∧ Byt l ∧ ∀ k, F k → k < w.heap.size
theorem Bld.new (w : World) : Bld (w.alloc (.cells #[.pointer none, .slice none 0 0] 137)) (fun k => k = w.heap.size) w.heap.size [] :=
  ⟨_, _, .inl rfl, blk_new _ _, Row.nil _ _ _ _, by simp [Value.ownBlock], rfl, by simp [Value.ownBlock], Byt.nil, by simp⟩
theorem Bld.kept {w w' : World} {F S : Nat → Prop} {b : Nat} {l : List Int} (h : Bld w F b l) (hk : Kept S w w') (hs : ∀ k, F k → ¬ S k) : Bld w' F b l := by
  obtain ⟨p, v, h1, h2, h3, h4, h5, h6, h7, h8⟩ := h
  exact ⟨p, v, h1, hk.heap h2 (hs b h5), h3.kept hk (fun k e => hs k (h6 k e)), h4, h5, h6, h7, fun k e => Nat.lt_of_lt_of_le (h8 k e) hk.size⟩
theorem Bld.lt {w : World} {F : Nat → Prop} {b : Nat} {l : List Int} (h : Bld w F b l) : ∀ k, F k → k < w.heap.size := by
  obtain ⟨p, v, h1, h2, h3, h4, h5, h6, h7, h8⟩ := h; exact h8
theorem strCells_S (l : List Int) (h : Byt l) : Lib.strCells (strOfNums l) = nums .u8 l := by
  rw [Lib.strCells, show (strOfNums l).data.toList = l.map (fun i => UInt8.ofNat i.toNat) from rfl, List.map_map]
  refine List.map_congr_left fun x hx => ?_
  have := h x hx
  simp only [Function.comp_apply, UInt8.toNat_ofNat']
  congr 1; omega

theorem info_u8 : (Tryz.prog.info? 5).map (fun i => (i.zero, i.size, i.bytes)) = some (some (.int .u8 0), 1, 1) := by kernel_rfl
theorem bld_size : (Tryz.prog.info? 137).map (fun i => i.size) = some 2 := by kernel_rfl
theorem bld_lies : liesAt Tryz.prog Tryz.prog.depth 137 (2 / Tryz.prog.cellsOf 137) 0 137 1 = true := by kernel_rfl
theorem u8_cells : Tryz.prog.cellsOf 5 = 1 := by kernel_rfl

set_option maxRecDepth 100000 in
set_option maxHeartbeats 1000000 in
theorem bld_check (b : Nat) (p v : Value) (w : World) (hp : p = .pointer none ∨ p = .pointer (some ⟨b, 0, none⟩)) (hb : w.heap[b]? = some (.cells #[p, v] 137 (0, 0))) :
    Calls Tryz.prog 99 #[.pointer (some ⟨b, 0, none⟩)] w fun e w' => e = .returned (.tuple #[]) ∧ w'.heap[b]? = some (.cells #[.pointer (some ⟨b, 0, none⟩), v] 137 (0, 0)) ∧ Kept (fun k => k = b) w w' := by
  obtain ⟨j, hj, hjs⟩ := Option.map_eq_some_iff.1 bld_size
  have h0 := blk_cell hb 0
  have f0 := blk_free hb 0
  rcases hp with rfl | rfl
  · have hsh : w.shape? b = some (137, 2) := by simp [World.shape?, hb]
    go_enter Tryz.func99, Tryz.ntmps99
    go_wp2
    rw [Lib.run_to_unsafe w ⟨b, 0, none⟩ Tryz.underlying134 Tryz.underlying239 hj (by rw [hjs]; decide) hsh (Nat.zero_lt_succ 1)]
    simp only [Result.andThen]
    rw [Oper.upon_value]
    go_wp2
    rw [run_callFunc_extern Tryz.func126 (by kernel_rfl) (by kernel_rfl) (by kernel_rfl) (e := Extern.AbiNoEscape.same) (by kernel_rfl)]
    rw [Lib.run_noEscape]
    simp only [Result.andThen]
    rw [Oper.upon_value]
    go_wp2
    rw [Lib.run_from_unsafe w ⟨b, 0, none⟩ Tryz.underlying239 Tryz.underlying134 hj hsh bld_lies]
    simp only [Result.andThen]
    rw [Oper.upon_value]
    go_wp2
    go_end0
    exact ⟨rfl, blk_set hb 0 _, Kept.one ..⟩
  · go_enter Tryz.func99, Tryz.ntmps99
    go_wp2
    rw [Lib.run_neq_ptr_same w _ Tryz.underlying134 hj]
    go_wp2
    go_end0
    exact ⟨rfl, hb, Kept.refl _ _⟩

theorem app_str {w : World} (base : Nat) (v : Value) (l : List Int) (hr : Row w base 5 .u8 v l) (s : List Int) (hs : Byt s) (hl : l.length ≤ 1000000000000) (hsl : s.length ≤ 1000000000000) (hbase : base ≤ w.heap.size) (ty : TypeId) :
    ∃ v' w', (Builtin.append_ #[135, 9] ty #[v, .string (strOfNums s)]).run Tryz.prog w = .ok v' w' ∧ Row w' base 5 .u8 v' (l ++ s) ∧ w.grownBy w' v.ownBlock ∧ (v'.ownBlock = v.ownBlock ∨ ∀ k, v'.ownBlock = some k → w.heap.size ≤ k) := by
  obtain ⟨i0, hi, hz0, hz1, hz2⟩ := info_parts info_u8
  have hsz := strOfNums_size s
  have key : ∀ b, b ≤ w.heap.size → Row w b 5 .u8 v l → ∃ v' w', (Builtin.append_ #[135, 9] ty #[v, .string (strOfNums s)]).run Tryz.prog w = .ok v' w' ∧ Row w' b 5 .u8 v' (l ++ s) ∧ w.grownBy w' v.ownBlock := by
    intro b hb hrb
    obtain ⟨v', w', h1, h2, h3, _⟩ := Lib.run_append_own_string (P := Tryz.prog) w b 135 9 ty 5 i0 Tryz.underlying135 Tryz.underlying9 hi hz0 hz1 hz2 v l.length (nums .u8 l) hrb (strOfNums s) (by unfold maxLen; omega) (by omega) hb
    refine ⟨v', w', h1, ?_, h3⟩
    unfold Row
    rw [nums_app, List.length_append, ← strCells_S s hs, ← hsz]
    rw [strCells_S s hs] at h2 ⊢
    exact h2
  obtain ⟨v', w', h1, h2, h3⟩ := key base hbase hr
  refine ⟨v', w', h1, h2, h3, ?_⟩
  rcases hr.2 with ⟨rfl, h0⟩ | ⟨g, cap, cur, rfl, hg, hh, hc, hm, hcs, htk⟩
  · have : l = [] := List.eq_nil_of_length_eq_zero h0
    subst this
    obtain ⟨v2, w2, k1, k2, k3⟩ := key w.heap.size (Nat.le_refl _) (Row.nil _ _ _ _)
    rw [h1] at k1
    cases k1
    exact .inr fun k hk => (k2.lt k hk).1
  · by_cases hroom : l.length + s.length ≤ cap
    · have := Lib.run_append_room_string (P := Tryz.prog) w 135 9 ty 5 i0 Tryz.underlying135 Tryz.underlying9 hi hz1 g l.length cap cur hh (strOfNums s) (by omega) (by rw [hcs]; omega)
      rw [h1] at this
      cases this
      exact .inl rfl
    · have := Lib.run_append_grow_string (P := Tryz.prog) w 135 9 ty 5 i0 _ Tryz.underlying135 Tryz.underlying9 hi hz0 ⟨g, 0, none⟩ l.length cap (nums .u8 l) (by rw [hz1, nums_len, Nat.mul_one]) (World.ownsRow.cells hr rfl) (strOfNums s) (by omega) (by omega) (by rw [hz2]; exact growslice_fits (by omega) (by omega))
      rw [h1] at this
      cases this
      exact .inr fun k hk => by cases hk; exact Nat.le_refl _

theorem wpList_appStr {w : World} {ops : Array Oper} {rest : List Oper} {o : Oper} {a : Act} {Q : Exit → Act → World → Prop} (hgd : o.guard = none) (sl x : Operand)
    (ho : o.op = .call { callee := .builtin .append, args := #[sl, x], argTypes := #[135, 9] })
    (base : Nat) (v : Value) (l : List Int) (he : a.eval sl = v) (hr : Row w base 5 .u8 v l) (s : List Int) (hx : a.eval x = .string (strOfNums s)) (hs : Byt s) (hl : l.length ≤ 1000000000000) (hsl : s.length ≤ 1000000000000) (hbase : base ≤ w.heap.size)
    (h : ∀ v' w', Row w' base 5 .u8 v' (l ++ s) → w.grownBy w' v.ownBlock → (v'.ownBlock = v.ownBlock ∨ ∀ k, v'.ownBlock = some k → w.heap.size ≤ k) → wpList Tryz.prog ops Q rest (a.put o.dst v') w') : wpList Tryz.prog ops Q (o :: rest) a w := by
  refine wpList_plain hgd fun K hK => ?_
  obtain ⟨v', w', hrun, h2, h3, h4⟩ := app_str base v l hr s hs hl hsl hbase o.type
  unfold Oper.wp execOp
  simp only [ho, resolve, invoke, builtin, Sem.run_bind, Sem.run_pure, Result.andThen_ok, List.map_toArray, List.map_cons, List.map_nil, he, hx, hrun]
  exact hK _ _ (h v' w' h2 h3 h4)

set_option maxRecDepth 100000 in
set_option maxHeartbeats 1000000 in
theorem bld_write (b : Nat) (F : Nat → Prop) (l s : List Int) (w : World) (h : Bld w F b l) (hs : Byt s) (hl : l.length ≤ 1000000000000) (hsl : s.length ≤ 1000000000000) :
    Calls Tryz.prog 70 #[.pointer (some ⟨b, 0, none⟩), .string (strOfNums s)] w fun e w' => ∃ F', e = .returned (.tuple #[.int .i64 s.length, .nilIface]) ∧ Bld w' F' b (l ++ s) ∧ (∀ k, F' k → F k ∨ w.heap.size ≤ k) ∧ Kept F w w' := by
  obtain ⟨p, v, hp, hb, hr, hne, hFb, hFv, hbl, hF⟩ := h
  have hsz := strOfNums_size s
  have hcopy := bld_check b p v w hp hb
  go_enter Tryz.func70, Tryz.ntmps70
  go_wp2_with (go_at_call 99; refine hcopy.mono ?_)
  rintro e w1 ⟨rfl, hb1, hk1⟩
  have hr1 : Row w1 0 5 .u8 v l := hr.kept hk1 (fun k e x => hne (by rw [e, x]))
  have c1 : w1.cell? ⟨b, 1, none⟩ = some v := blk_cell hb1 1
  go_wp2_with (at_builtin; refine wpList_appStr rfl _ _ rfl 0 v l rfl hr1 s rfl hs hl hsl (Nat.zero_le _) ?_)
  intro v' w2 hr2 hgr hown2
  have hb2 := (hgr.block b (blk_lt hb1) (fun e => hne e.symm)).trans hb1
  have d1 := blk_cell hb2 1
  have f1 := blk_free hb2 1
  have hne2 : v'.ownBlock ≠ some b := fun e => by
    rcases hown2 with h | h
    · exact hne (h ▸ e)
    · have := h b e; have := blk_lt hb1; omega
  have hsz1 := hk1.size
  have hgs := hgr.size
  have fin : ∀ x : Value, ∃ F', Bld (w2.setCell ⟨b, 1, none⟩ v') F' b (l ++ s) ∧ (∀ k, F' k → F k ∨ w.heap.size ≤ k) ∧ Kept F w (w2.setCell ⟨b, 1, none⟩ v') := by
    intro x
    have hk2 : Kept F w w2 := (hk1.mono fun k _ e => by rw [e]; exact hFb).grown hgr (fun k e => .inl (hFv k e))
    refine ⟨fun k => F k ∨ w.heap.size ≤ k ∧ k < w2.heap.size, ⟨_, _, .inr rfl, blk_set hb2 1 _, hr2.kept (Kept.one w2 b 1 v') (fun k e x => hne2 (by rw [e, x])), hne2, .inl hFb, ?_, hbl.app hs, ?_⟩, fun k h => h.elim .inl (fun h => .inr h.1), hk2.set1 _ _ hFb _⟩
    · intro k e
      rcases hown2 with h | h
      · exact .inl (hFv k (h ▸ e))
      · have := (hr2.lt k e).2
        have := h k e
        exact .inr ⟨by omega, by omega⟩
    · rintro k (h | h)
      · have := hF k h; simp; omega
      · simp; omega
  obtain ⟨A', c', rfl, hcap'⟩ := hr2.slice
  simp only [List.length_append] at fin
  go_wp2
  go_ret2
  obtain ⟨F', h1, h2, h3⟩ := fin .nilIface
  exact ⟨F', by simp [hsz], h1, h2, h3⟩

set_option maxRecDepth 100000 in
set_option maxHeartbeats 2000000 in
theorem bld_string (b : Nat) (F : Nat → Prop) (l : List Int) (w : World) (h : Bld w F b l) :
    Calls Tryz.prog 71 #[.pointer (some ⟨b, 0, none⟩)] w fun e w' => e = .returned (.string (strOfNums l)) ∧ Kept F w w' := by
  obtain ⟨p, v, hp, hb, hr, hne, hFb, hFv, hbl, hF⟩ := h
  have hnone : ∀ (W : World) (q : Option Addr), (Builtin.unsafeString_ #[206, 3] 9 #[.pointer q, .int .i64 0]).run Tryz.prog W = .ok (.string .empty) W := fun W q => Lib.run_unsafeString_none W _ _ _ q
  have c1 : w.drew.cell? ⟨b, 1, none⟩ = some v := blk_cell (blk_drew hb) 1
  rcases hr.2 with ⟨rfl, h0⟩ | ⟨g, cap, cur, rfl, hg, hh, hc, hm, hcs, htk⟩
  · have : l = [] := List.eq_nil_of_length_eq_zero h0
    subst this
    have hSD : (Builtin.unsafeSliceData_ #[135] 206 #[.slice none 0 0]).run Tryz.prog w.drew = .ok (.pointer none) w.drew := rfl
    go_enter Tryz.func71, Tryz.ntmps71
    go_wp2_with fail
    go_region
    all_goals (go_wp2; go_ret; exact ⟨rfl, (Kept.refl F w).drew⟩)
  · have hFg : F g := hFv g rfl
    by_cases h0 : l = []
    · subst h0
      by_cases hc0 : cap = 0
      · subst hc0
        have hSD : (Builtin.unsafeSliceData_ #[135] 206 #[.slice (some ⟨g, 0, none⟩) 0 0]).run Tryz.prog w.drew = .ok (.pointer (some ⟨w.drew.heap.size, 0, none⟩)) (w.drew.alloc (.view ⟨g, 0, none⟩ 5)) :=
          Lib.run_unsafeSliceData_zero w.drew _ _ 5 Tryz.underlying206 ⟨g, 0, none⟩ 0 (5, cur.size) (by have hg' := blk_drew hh; simp [World.shape?, hg'])
        have c2 : (w.drew.alloc (.view ⟨g, 0, none⟩ 5)).cell? ⟨b, 1, none⟩ = some (.slice (some ⟨g, 0, none⟩) 0 0) := blk_cell (blk_alloc (blk_drew hb) _) 1
        have c3 : (w.alloc (.view ⟨g, 0, none⟩ 5)).drew.cell? ⟨b, 1, none⟩ = some (.slice (some ⟨g, 0, none⟩) 0 0) := c2
        have c0 : w.cell? ⟨b, 1, none⟩ = some (.slice (some ⟨g, 0, none⟩) 0 0) := c1
        have c4 : (w.alloc (.view ⟨g, 0, none⟩ 5)).cell? ⟨b, 1, none⟩ = some (.slice (some ⟨g, 0, none⟩) 0 0) := c2
        simp only [List.length_nil] at c1
        go_enter Tryz.func71, Tryz.ntmps71
        go_wp2_with fail
        go_region
        all_goals (go_wp2; go_ret; exact ⟨rfl, ((Kept.refl F w).drew).alloc _⟩)
      · have hSD : (Builtin.unsafeSliceData_ #[135] 206 #[.slice (some ⟨g, 0, none⟩) 0 cap]).run Tryz.prog w.drew = .ok (.pointer (some ⟨g, 0, none⟩)) w.drew :=
          Lib.run_unsafeSliceData_row _ _ _ _ _ _ hc0
        simp only [List.length_nil] at c1
        clear hc0
        go_enter Tryz.func71, Tryz.ntmps71
        go_wp2_with fail
        go_region
        all_goals (go_wp2; go_ret; exact ⟨rfl, (Kept.refl F w).drew⟩)
    · have hl0 : l.length ≠ 0 := by simpa using h0
      have e8 : (⟨(l.map fun i => UInt8.ofNat i.toNat).toArray⟩ : ByteArray) = strOfNums l := rfl
      have hSD : (Builtin.unsafeSliceData_ #[135] 206 #[.slice (some ⟨g, 0, none⟩) l.length cap]).run Tryz.prog w.drew = .ok (.pointer (some ⟨g, 0, none⟩)) w.drew :=
        Lib.run_unsafeSliceData_row _ _ _ _ _ _ (by omega)
      have hUS : (Builtin.unsafeString_ #[206, 3] 9 #[.pointer (some ⟨g, 0, none⟩), .int .i64 l.length]).run Tryz.prog w.drew = .ok (.string (strOfNums l)) (w.drew.freeze ⟨g, 0, none⟩ l.length) := by
        have := Lib.run_unsafeString_row (P := Tryz.prog) w.drew 206 3 9 5 Tryz.underlying206 u8_cells g cur.size (by have hg' := blk_drew hh; simp [World.shape?, hg']) (l.map fun i => UInt8.ofNat i.toNat) (by simpa using h0) (by rw [List.length_map]; omega) (by rw [List.length_map]; unfold maxLen at hm; omega) (by
          intro j x hx
          refine World.ownsRow.cells hr (g := g) rfl j (.int .u8 x.toNat) ?_
          rw [← strCells_S l hbl]
          simp only [Lib.strCells, strOfNums, List.getElem?_map]
          simp only [List.getElem?_map] at hx
          rw [hx]; rfl)
        rw [List.length_map] at this
        exact this
      have hfz : Kept F w (w.drew.freeze ⟨g, 0, none⟩ l.length) := by
        have h2 : ∀ W : World, Kept (fun k => k = g) W (W.freeze ⟨g, 0, none⟩ l.length) := by
          intro W
          have := Lib.below_freeze (Below.refl 0 W) (p := ⟨g, 0, none⟩) (Nat.zero_le _) l.length
          refine ⟨this.os, this.tape, this.output, this.size, fun k hk hne => ?_⟩
          unfold World.freeze
          split
          · rfl
          · simp only [Array.getElem?_modify]
            rw [if_neg (fun e => hne e.symm)]
        exact (Kept.refl F w).drew.trans ((h2 w.drew).mono fun k _ e => by rw [e]; exact hFg)
      go_enter Tryz.func71, Tryz.ntmps71
      go_wp2_with fail
      go_region
      all_goals (go_wp2; go_ret; exact ⟨rfl, hfz⟩)
end Go.Proofs.YthdcfmconpgflaaGreat
