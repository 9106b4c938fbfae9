/- EBCDIC's table: that package permute lays just it. -/
import Derived.Test.YthdcfmconpgflaaGreatMach
import Derived.Test.YthdcfmconpgflaaGreatPermL
import Derived.Laws.Rows
import Derived.Great.BuildSlice
import Derived.Great.Walk
import Derived.Deep.LoopGhost
import Derived.Deep.MidRow
import Derived.Deep.DeepCutAuto
import Derived.Lib.Hide
set_option linter.unusedVariables false
set_option linter.unusedSimpArgs false
namespace Go.Proofs.YthdcfmconpgflaaGreat
open Go.RowKit

/-- A table's cells. -/
def tabC (tt fr : List Int) : Array Value := (nums .u8 tt ++ nums .u8 fr).toArray
def boolC (t : List Bool) : Array Value := (t.map Value.bool).toArray
def numC (l : List Int) : Array Value := (nums .u8 l).toArray
theorem tabC_get (tt fr : List Int) (k : Nat) (h : k < tt.length) : (tabC tt fr)[k]? = some (.int .u8 (tt.getD k 0)) := by
  unfold tabC
  rw [List.getElem?_toArray, List.getElem?_append_left (by rw [nums_len]; exact h)]
  exact nums_get .u8 tt k h
theorem tabC_get2 (tt fr : List Int) (n k : Nat) (hn : tt.length = n) (h : k < fr.length) : (tabC tt fr)[n + k]? = some (.int .u8 (fr.getD k 0)) := by
  unfold tabC
  rw [List.getElem?_toArray, List.getElem?_append_right (by rw [nums_len]; omega), nums_len, show n + k - tt.length = k by omega]
  exact nums_get .u8 fr k h
theorem tabC_set (tt fr : List Int) (k : Nat) (v : Int) (h : k < tt.length) : (tabC tt fr).setIfInBounds k (.int .u8 v) = tabC (tt.set k v) fr := by
  unfold tabC nums
  rw [List.setIfInBounds_toArray, List.set_append_left _ _ (by simpa using h), List.map_set]
theorem tabC_set2 (tt fr : List Int) (n k : Nat) (v : Int) (hn : tt.length = n) : (tabC tt fr).setIfInBounds (n + k) (.int .u8 v) = tabC tt (fr.set k v) := by
  unfold tabC nums
  rw [List.setIfInBounds_toArray, List.set_append_right _ _ (by rw [List.length_map]; omega), List.length_map, show n + k - tt.length = k by omega, List.map_set]
theorem boolC_get (t : List Bool) (k : Nat) (h : k < t.length) : (boolC t)[k]? = some (.bool (t.getD k false)) := by
  unfold boolC
  rw [List.getElem?_toArray, List.getElem?_map, List.getElem?_eq_getElem h, List.getD_eq_getElem?_getD, List.getElem?_eq_getElem h]; rfl
theorem boolC_set (t : List Bool) (k : Nat) (v : Bool) : (boolC t).setIfInBounds k (.bool v) = boolC (t.set k v) := by
  unfold boolC
  rw [List.setIfInBounds_toArray, List.map_set]
theorem setRow_far (w : World) (g k : Nat) (cs : Array Value) (h : k ≠ g) : (w.setRow g cs).heap[k]? = w.heap[k]? := by
  simp only [World.setRow, Array.getElem?_modify]
  rw [if_neg (fun e => h e.symm)]
theorem idx_c (T : TypeId) (n : Nat) (l : List Int) (hT : Tryz.prog.underlying T = some (.array n 5)) (hl : l.length = n) (kk : IntKind) (i : Int) (h0 : 0 ≤ i) (h1 : i < n) (W : World) :
    (Instr.index T (.agg (numC l)) (.int kk i)).run Tryz.prog W = .ok (.int .u8 (l.getD i.toNat 0)) W := by
  obtain ⟨k, rfl⟩ := Int.eq_ofNat_of_zero_le h0
  have hk : k < l.length := by omega
  have hs : (sizeOf 5).run Tryz.prog W = .ok 1 W := by kernel_rfl
  have hg : (numC l)[k]? = some (.int .u8 (l.getD k 0)) := by
    unfold numC
    rw [List.getElem?_toArray]
    exact nums_get .u8 l k hk
  have hp : (part 5 (numC l) k).run Tryz.prog W = .ok (.int .u8 (l.getD k 0)) W := by
    have ha : (isAgg 5).run Tryz.prog W = .ok false W := by kernel_rfl
    simp only [part, Sem.run_bind, ha, Result.andThen_ok, hg]
    rfl
  have hk' : k < n := by omega
  simp [Instr.index, asIntOf, run_underlying hT, h1, hs, hp, hk']
theorem wpList_callR {P : Program} {ops : Array Oper} {rest : List Oper} {o : Oper} {a : Act} {w : World} {Q : Exit → Act → World → Prop} (hg : o.guard = none) (d : Option Tmp) (hd : o.dst = d)
    (f : FuncId) (args : Array Value) (hrun : (execOp a.eval o).run P w = .ok (.enter f args) w) (v : Value) (R : World → Prop)
    (hc : Calls P f args w fun e w'' => e = .returned v ∧ R w'')
    (h : ∀ w', R w' → wpList P ops Q rest (a.put d v) w') : wpList P ops Q (o :: rest) a w := by
  subst hd
  refine wpList_plain hg fun K hK => ?_
  unfold Oper.wp
  rw [hrun, Oper.upon_enter]
  refine hc.mono fun e w'' hh => ?_
  obtain ⟨rfl, hR⟩ := hh
  exact hK _ _ (h _ hR)
def zero160 : Array Value := (List.replicate 160 (Value.int .u8 0)).toArray
section
attribute [local irreducible] wpList Code.wp
set_option maxRecDepth 1000000 in
set_option maxHeartbeats 40000000 in
theorem known_c (w : World) : Calls Tryz.prog 125 #[] w fun e w' => e = .returned (.agg (numC knL)) ∧ Kept (fun _ => False) w w' := by
  go_enter Tryz.func125, Tryz.ntmps125
  apply wp_seq_k; intro K0 hK0
  apply wp_region_lit
  refine Great.wpList_allocTo rfl (some 0) rfl (.pointer (some ⟨w.heap.size, 0, none⟩)) (.cells zero160 233) (by as_aux_lemma => kernel_rfl) ?_
  apply wpList_nil
  refine hK0 _ _ ?_
  clear hK0 K0
  apply wp_seq_k; intro K1 hK1
  apply wp_region_lit
  refine wpList_buildFlatArrTo rfl 233 5 160 _ rfl .u8 knL (some 1) rfl (by as_aux_lemma => kernel_rfl) (by as_aux_lemma => kernel_rfl) (by as_aux_lemma => kernel_rfl) (by as_aux_lemma => kernel_rfl) ?_
  refine wpList_store_rowTo rfl 233 _ _ rfl rfl w.heap.size (numC knL) rfl (by as_aux_lemma => kernel_rfl) 233 zero160 (blk_new w _) (by as_aux_lemma => kernel_rfl) (by as_aux_lemma => kernel_rfl) (by as_aux_lemma => kernel_rfl) ?_
  apply wpList_nil
  refine hK1 _ _ ?_
  clear hK1 K1
  refine wp_ret ?_
  have hg : ((w.alloc (.cells zero160 233)).setRow w.heap.size (numC knL)).heap[w.heap.size]? = some (.cells (numC knL) 233 (0, 0)) := setRow_heap _ _ _ _ _ _ (blk_new w _)
  refine bodyPost_ret (v := .agg (numC knL)) (results_cell_row (p := 0) (by as_aux_lemma => kernel_rfl) _ _ w.heap.size 233 (numC knL) (0, 0) _ (by as_aux_lemma => kernel_rfl) hg Tryz.underlying233 rfl (by as_aux_lemma => kernel_rfl)) (by as_aux_lemma => kernel_rfl) ⟨rfl, ?_⟩
  refine ⟨rfl, rfl, rfl, by simp, fun k hk _ => ?_⟩
  rw [setRow_far _ _ _ _ (by omega)]
  exact Below.heap_alloc _ _ _ hk
def zero512 : Array Value := (List.replicate 512 (Value.int .u8 0)).toArray
def zeroB : Array Value := (List.replicate 256 (Value.bool false)).toArray
set_option maxRecDepth 1000000 in
set_option maxHeartbeats 40000000 in
theorem perm_c (w : World) : Calls Tryz.prog 97 #[] w fun e w' => e = .returned (.pointer (some ⟨w.heap.size, 0, none⟩)) ∧ w'.heap[w.heap.size]? = some (.cells (tabC ebTo ebFrom) 231 (0, 0)) ∧ Kept (fun _ => False) w w' := by
  go_enter Tryz.func97, Tryz.ntmps97
  apply wp_seq_k; intro K0 hK0
  apply wp_region_lit
  refine Great.wpList_readTo rfl (some 0) rfl (.pointer none) (by as_aux_lemma => kernel_rfl) ?_
  apply wpList_nil
  refine hK0 _ _ ?_
  clear hK0 K0
  apply wp_seq_k; intro K1 hK1
  apply wp_region_lit
  refine wpList_buildTo rfl 231 _ rfl (some 10) rfl zero512 (by as_aux_lemma => kernel_rfl) ?_
  refine Great.wpList_allocTo rfl (some 11) rfl (.pointer (some ⟨w.heap.size, 0, none⟩)) (.cells zero512 231) (by as_aux_lemma => kernel_rfl) ?_
  refine Great.wpList_readTo rfl (some 1) rfl (.pointer (some ⟨w.heap.size, 0, none⟩)) (by as_aux_lemma => kernel_rfl) ?_
  apply wpList_nil
  refine hK1 _ _ ?_
  clear hK1 K1
  have hb1 : (w.alloc (.cells zero512 231)).heap[w.heap.size]? = some (.cells zero512 231 (0, 0)) := blk_new _ _
  have hk1 : Kept (fun _ => False) w (w.alloc (.cells zero512 231)) := (Kept.refl _ w).alloc _
  generalize w.alloc (.cells zero512 231) = w1 at *
  apply wp_seq_k; intro K2 hK2
  apply wp_region_lit
  refine Great.wpList_allocTo rfl (some 2) rfl (.pointer (some ⟨w1.heap.size, 0, none⟩)) (.cells zeroB 232) (by as_aux_lemma => kernel_rfl) ?_
  apply wpList_nil
  refine hK2 _ _ ?_
  clear hK2 K2
  have hl1 := blk_lt hb1
  have hb2 : (w1.alloc (.cells zeroB 232)).heap[w1.heap.size]? = some (.cells zeroB 232 (0, 0)) := blk_new _ _
  have hb1 : (w1.alloc (.cells zeroB 232)).heap[w.heap.size]? = some (.cells zero512 231 (0, 0)) := blk_alloc hb1 _
  have hk2 : Kept (fun _ => False) w (w1.alloc (.cells zeroB 232)) := hk1.alloc _
  obtain ⟨g2, hg2⟩ : ∃ g2, g2 = w1.heap.size := ⟨_, rfl⟩
  rw [← hg2] at hb2 ⊢
  have hne : w.heap.size < g2 := by omega
  clear hk1
  generalize w1.alloc (.cells zeroB 232) = w2 at *
  apply wp_seq_k; intro K3 hK3
  apply wp_region_lit
  refine wpList_callR rfl (some 12) rfl 125 #[] (by as_aux_lemma => kernel_rfl) (.agg (numC knL)) _ (known_c w2) fun w3 hk3 => ?_
  have hb1 := hk3.heap hb1 id
  have hb2 := hk3.heap hb2 id
  have hk3 : Kept (fun _ => False) w w3 := hk2.trans hk3
  refine Great.wpList_allocTo rfl (some 3) rfl (.pointer (some ⟨w3.heap.size, 0, none⟩)) (.cells zero160 233) (by as_aux_lemma => kernel_rfl) ?_
  refine wpList_store_rowTo rfl 233 _ _ rfl rfl w3.heap.size (numC knL) (by as_aux_lemma => kernel_rfl) (by as_aux_lemma => kernel_rfl) 233 zero160 (blk_new w3 _) (by as_aux_lemma => kernel_rfl) (by as_aux_lemma => kernel_rfl) (by as_aux_lemma => kernel_rfl) ?_
  apply wpList_nil
  refine hK3 _ _ ?_
  clear hK3 K3 hk2
  have hl2 := blk_lt hb2; have hl1 := blk_lt hb1
  have hb3 : ((w3.alloc (.cells zero160 233)).setRow w3.heap.size (numC knL)).heap[w3.heap.size]? = some (.cells (numC knL) 233 (0, 0)) := setRow_heap _ _ _ _ _ _ (blk_new w3 _)
  have hb1 : ((w3.alloc (.cells zero160 233)).setRow w3.heap.size (numC knL)).heap[w.heap.size]? = some (.cells zero512 231 (0, 0)) := by rw [setRow_far _ _ _ _ (by omega)]; exact blk_alloc hb1 _
  have hb2 : ((w3.alloc (.cells zero160 233)).setRow w3.heap.size (numC knL)).heap[g2]? = some (.cells zeroB 232 (0, 0)) := by rw [setRow_far _ _ _ _ (by omega)]; exact blk_alloc hb2 _
  have hk4 : Kept (fun _ => False) w ((w3.alloc (.cells zero160 233)).setRow w3.heap.size (numC knL)) := by
    refine (hk3.alloc (.cells zero160 233)).trans' (T := fun k => k = w3.heap.size) ⟨rfl, rfl, rfl, by simp, fun k _ hk => setRow_far _ _ _ _ hk⟩ (fun i hi e => ?_)
    have := hk3.size; omega
  obtain ⟨g3, hg3⟩ : ∃ g3, g3 = w3.heap.size := ⟨_, rfl⟩
  rw [← hg3] at hb3 hb1 hb2 hk4 ⊢
  have hne3 : g2 < g3 := by omega
  generalize (w3.alloc (.cells zero160 233)).setRow g3 (numC knL) = w4 at *
  clear hg2 hg3
  have z1 : zero512 = tabC (pm1 0).1 (pm3 ebTo 0) := by as_aux_lemma => kernel_rfl
  have z2 : zeroB = boolC (pm1 0).2 := by as_aux_lemma => kernel_rfl
  rw [z1] at hb1
  rw [z2] at hb2
  clear z1 z2 hl1 hl2 hk3
  apply wp_seq_k; intro K4 hK4
  apply wp_seq_k; intro K5 hK5
  apply wp_region_lit
  refine wpList_load_row rfl 233 (.tmp 3) rfl g3 (by as_aux_lemma => kernel_rfl) 233 (numC knL) (0, 0) _ hb3 Tryz.underlying233 rfl (by as_aux_lemma => kernel_rfl) ?_
  refine Great.wpList_readTo rfl (some 14) rfl (.int .i64 0) (by as_aux_lemma => kernel_rfl) ?_
  refine wpList_frame (a' := { tmps := #[.pointer none, .pointer (some ⟨w.heap.size, 0, none⟩), .pointer (some ⟨g2, 0, none⟩), .pointer (some ⟨g3, 0, none⟩), undef, undef, undef, undef, undef, undef, .agg zero512, .pointer (some ⟨w.heap.size, 0, none⟩), .agg (numC knL), .agg (numC knL), .int .i64 0, undef, undef, undef, undef, undef, undef, undef, undef, undef, undef, undef, undef, undef, undef, undef, undef, undef, undef, undef, undef, undef, undef, undef, undef, undef, undef, undef, undef, undef, undef, undef, undef, undef, undef, undef, undef, undef, undef, undef, undef, undef, undef, undef, undef, undef, undef], defers := [] }) (by as_aux_lemma => kernel_rfl) ?_
  apply wpList_nil
  refine hK5 _ _ ?_
  clear hK5 K5 hb3
  generalize hz5 : zero512 = z5
  clear hz5
  go_wp2
  go_loopg [14] (160) (fun m i wr => ∃ k : Nat, i = .int .i64 k ∧ k + m = 160 ∧ wr.heap[w.heap.size]? = some (.cells (tabC (pm1 k).1 (pm3 ebTo 0)) 231 (0, 0)) ∧ wr.heap[g2]? = some (.cells (boolC (pm1 k).2) 232 (0, 0)) ∧ Kept (fun _ => False) w wr)
  case atStart => exact ⟨0, rfl, rfl, hb1, hb2, hk4⟩
  case round =>
    have hkn : Byt knL := knL_rng
    obtain ⟨k, rfl, hkm, h1, h2, hkp⟩ := hrel
    by_cases hlt : k < 160
    · have hb0 := hkn.at k
      have hi := fun W => idx_c 233 160 knL Tryz.underlying233 knL_len .i64 (k : Int) (by omega) (by omega) W
      rw [Int.toNat_natCast] at hi
      have hl1 := (pm1_len k).1
      have hl2 := (pm1_len k).2
      have hnext : pm1 (k + 1) = ((pm1 k).1.set k (knL.getD k 0), (pm1 k).2.set (knL.getD k 0).toNat true) := by rw [pm1]
      obtain ⟨b, hbd⟩ : ∃ b, b = knL.getD k 0 := ⟨_, rfl⟩
      rw [← hbd] at hb0 hi hnext
      have HN := Lib.hid hnext
      clear hbd hnext
      have c1 := (blk_cell h1 k).trans (tabC_get _ _ k (by omega))
      have c2 := (blk_cell h2 b.toNat).trans (boolC_get _ b.toNat (by omega))
      have f1 := blk_free h1
      have f2 := blk_free h2
      have hne1 : ¬ g2 = w.heap.size := by omega
      have hne2 : ¬ w.heap.size = g2 := by omega
      have hk256 : (k : Int) < 256 := by omega
      go_wp2
      go_roundg (gk - 1)
      case rel =>
        refine ⟨k + 1, by go_num, by omega, ?_, ?_, (hkp.setNew _ _ (Nat.le_refl _) _).setNew _ _ (Nat.le_of_lt hne) _⟩
        · rw [HN.out, ← tabC_set _ _ k b (by omega)]
          exact blk_far (blk_set h1 k _) hne2 _
        · rw [HN.out, ← boolC_set]
          exact blk_set (blk_far h2 hne1 _) _ _
      case measure => omega
    · obtain rfl : k = 160 := by omega
      clear hb1 hb2 hk4 hkn hkm
      have hl1 := (pm1_len 160).1
      have hl2 := (pm1_len 160).2
      have hlt2 := fun k h hf => pm2_lt (pm1 160).1 k h hf
      have hto := ebTo_rng
      unfold ebTo at hto
      have hE : ebTo = (pm2 (pm1 160).1 (pm1 160).2 256).1 := rfl
      have HE := Lib.hid hE
      obtain ⟨P1, hP1⟩ : ∃ P, P = (pm1 160).1 := ⟨_, rfl⟩
      obtain ⟨P2, hP2⟩ : ∃ P, P = (pm1 160).2 := ⟨_, rfl⟩
      rw [← hP1, ← hP2] at hto hE
      rw [← hP1] at hl1 h1
      rw [← hP2] at hl2 h2
      simp only [← hP1, ← hP2] at hlt2
      have HE := Lib.hid hE; have HL := Lib.hid hlt2; have HT := Lib.hid hto
      clear hP1 hP2 hE hlt2 hto
      go_wp2
      go_loopg [6, 27] (256) (fun m s6 s27 wr2 => ∃ k : Nat, s27 = .int .i64 k ∧ k + m = 256 ∧ s6 = .int .i64 ((pm2 P1 P2 k).2 : Nat) ∧ wr2.heap[w.heap.size]? = some (.cells (tabC (pm2 P1 P2 k).1 (pm3 ebTo 0)) 231 (0, 0)) ∧ wr2.heap[g2]? = some (.cells (boolC P2) 232 (0, 0)) ∧ Kept (fun _ => False) w wr2)
      case atStart => exact ⟨0, rfl, rfl, rfl, h1, h2, hkp⟩
      case round =>
        clear h1 h2 hkp
        obtain ⟨k, rfl, hkm, rfl, h1, h2, hkp⟩ := hrel
        by_cases hlt : k < 256
        · have hlen := pm2_len P1 P2 k
          have hw := IntWalk.u8_in (k : Int) (by omega)
          have c2 := (blk_cell h2 k).trans (boolC_get _ k (by omega))
          have f2 := blk_free h2
          have hne1 : ¬ g2 = w.heap.size := by omega
          have hne2 : ¬ w.heap.size = g2 := by omega
          by_cases htk : P2.getD k false = true
          · have hnext : pm2 P1 P2 (k + 1) = pm2 P1 P2 k := by simp only [pm2, htk, if_true]
            have HN := Lib.hid hnext
            rw [htk] at c2
            clear hnext htk
            go_wp2
            go_roundg (gk - 1)
            case rel => exact ⟨k + 1, by go_num, by omega, by rw [HN.out], by rw [HN.out]; exact h1, h2, hkp⟩
            case measure => omega
          · have hat := HL.out k hlt htk
            have hnext : pm2 P1 P2 (k + 1) = ((pm2 P1 P2 k).1.set (pm2 P1 P2 k).2 (k : Int), (pm2 P1 P2 k).2 + 1) := by simp only [pm2]; rw [if_neg htk]
            have HN := Lib.hid hnext
            have htk' : P2.getD k false = false := by simpa using htk
            rw [htk'] at c2
            clear hnext htk htk'
            obtain ⟨n, hn⟩ : ∃ n, n = (pm2 P1 P2 k).2 := ⟨_, rfl⟩
            rw [← hn] at hat ⊢
            have hn2 : (n : Int) < 256 := by omega
            have c1 := (blk_cell h1 n).trans (tabC_get _ _ n (by omega))
            have f1 := blk_free h1
            have HNN := Lib.hid hn
            clear hn
            go_wp2
            go_roundg (gk - 1)
            case rel =>
              refine ⟨k + 1, by go_num, by omega, by rw [HN.out, ← HNN.out]; go_num, ?_, ?_, hkp.setNew _ _ (Nat.le_refl _) _⟩
              · rw [HN.out, ← HNN.out, ← tabC_set _ _ n k (by omega)]
                exact blk_set h1 n _
              · exact blk_far h2 hne1 _
            case measure => omega
        · obtain rfl : k = 256 := by omega
          have hlen := (pm2_len P1 P2 256).trans hl1
          have hE := HE.out
          rw [← hE] at h1 hlen
          have hto := HT.out
          rw [← hE] at hto
          have HTO := Lib.hid hto
          clear hto hE hkm h2 hl1 hl2 HT HL
          have hran : wr.rangeAt w.heap.size 0 (nums .u8 ebTo) := fun j v hv => by
            rw [Nat.zero_add, blk_cell h1 j]
            unfold tabC
            rw [List.getElem?_toArray, List.getElem?_append_left (List.getElem?_eq_some_iff.1 hv).1]
            exact hv
          have hsz : (Tryz.prog.info? 229).map (·.size) = some (nums .u8 ebTo).length := by
            rw [nums_len, hlen]; kernel_rfl
          go_upto_region 18 with (fail)
          apply wp_region_lit
          refine Great.wpList_readTo rfl (some 44) rfl (.pointer (some ⟨w.heap.size, 0, none⟩)) (by as_aux_lemma => kernel_rfl) ?_
          refine Great.wpList_readTo rfl (some 45) rfl (.pointer (some ⟨w.heap.size, 0, none⟩)) (by as_aux_lemma => kernel_rfl) ?_
          refine Great.wpList_readTo rfl (some 46) rfl (.pointer (some ⟨w.heap.size, 0, none⟩)) (by as_aux_lemma => kernel_rfl) ?_
          refine wpList_load_mid rfl 229 (.tmp 46) rfl w.heap.size 0 (by as_aux_lemma => kernel_rfl) (nums .u8 ebTo) _ hran Tryz.underlying229 rfl hsz ?_
          rw [show (nums .u8 ebTo).toArray = numC ebTo from rfl]
          refine Great.wpList_readTo rfl (some 48) rfl (.int .i64 0) (by as_aux_lemma => kernel_rfl) ?_
          simp only [Act.put, List.setIfInBounds_toArray, List.set_cons_zero, List.set_cons_succ]
          apply wpList_nil
          clear hran hsz
          go_wp2
          go_loopg [48] (256) (fun m s48 wr2 => ∃ k : Nat, s48 = .int .i64 k ∧ k + m = 256 ∧ wr2.heap[w.heap.size]? = some (.cells (tabC ebTo (pm3 ebTo k)) 231 (0, 0)) ∧ Kept (fun _ => False) w wr2)
          case atStart => exact ⟨0, rfl, rfl, h1, hkp⟩
          case round =>
            clear h1 hkp
            obtain ⟨k, rfl, hkm, h1, hkp⟩ := hrel
            by_cases hlt : k < 256
            · have hb0 := (show Byt ebTo from HTO.out).at k
              have hi := fun W => idx_c 229 256 ebTo Tryz.underlying229 hlen .i64 (k : Int) (by omega) (by omega) W
              rw [Int.toNat_natCast] at hi
              have hnext : pm3 ebTo (k + 1) = (pm3 ebTo k).set (ebTo.getD k 0).toNat (k : Int) := by rw [pm3]
              have hl3 := pm3_len ebTo k
              have hw := IntWalk.u8_in (k : Int) (by omega)
              obtain ⟨b, hbd⟩ : ∃ b, b = ebTo.getD k 0 := ⟨_, rfl⟩
              rw [← hbd] at hb0 hi hnext
              have HN := Lib.hid hnext
              clear hbd hnext
              have c1 := (blk_cell h1 (256 + b.toNat)).trans (tabC_get2 _ _ 256 b.toNat hlen (by omega))
              have f1 := blk_free h1
              go_wp2
              go_roundg (gk - 1)
              case rel =>
                refine ⟨k + 1, by go_num, by omega, ?_, hkp.setNew _ _ (Nat.le_refl _) _⟩
                rw [HN.out, ← tabC_set2 _ _ 256 b.toNat k hlen]
                exact blk_set h1 _ _
              case measure => omega
            · obtain rfl : k = 256 := by omega
              go_wp2
              go_ret
              exact ⟨rfl, h1, hkp⟩
end
end Go.Proofs.YthdcfmconpgflaaGreat
