/- BlockReads (law 20): for every text and every place block.Read and the reference tell the same block, the same place behind it, and the same error with its place.
   No condition. -/
import Derived.Test.YthdcfmconpgflaaGreatRows
import Derived.Test.YthdcfmconpgflaaGreatLaw20
import Derived.Test.YthdcfmconpgflaaGreatRef20R
import Derived.Test.YthdcfmconpgflaaGreatRow
import Derived.ProofKit
import Derived.OpenShut
import Derived.ShutString
set_option linter.unusedVariables false
set_option linter.unusedSimpArgs false
namespace Go.Proofs.YthdcfmconpgflaaGreat.blockReads
open Go.ChangeShapes Go.WideShapes Go.ChangeAt Go.RowKit
open Go.ChangeMaps (open_string shut_string)

theorem own : ownKnob Tryz.prog.godebug = none := by kernel_rfl

set_option maxRecDepth 100000 in
set_option maxHeartbeats 4000000 in
theorem walk (a0 : ByteArray) (a1 : Int) (w0 : a0.size ≤ maxLen) (w1 : (Lit.int .i64 a1).wf = true) (w : World) :
    Calls Tryz.prog 17 #[.string a0, .int .i64 a1] w fun e w' => e = .returned (.bool true) ∧ Kept (fun _ => False) w w' := by
  have haw := awake20
  have HA := Lib.hid haw
  clear haw
  by_cases h : 2000 < a0.size
  · go_enter Tryz.func17, Tryz.ntmps17
    go_wp2_with fail
    refine (HA.out _).mono ?_
    rintro e w2 ⟨rfl, hk2⟩
    go_wp2_with fail
    refine (HA.out _).mono ?_
    rintro e w3 ⟨rfl, hk3⟩
    go_wp2
    go_ret
    exact ⟨rfl, hk2.trans hk3⟩
  · have hl : (bs a0).length ≤ 1000000000 := by rw [bs_length]; omega
    have hr1 := fun w => read_c (bs a0) a1 w (bs_byt a0) hl
    have hr2 := fun w => rread_c (bs a0) a1 w (bs_byt a0) hl
    rw [S_bs] at hr1 hr2
    obtain ⟨r, hr⟩ : ∃ r, r = rdBlk (bs a0) a1 := ⟨_, rfl⟩
    rw [← hr] at hr1 hr2
    clear hr hl
    obtain ⟨⟨n, s, p⟩, nx, x, y⟩ := r
    have HR1 := Lib.hid (show ∀ w, Calls Tryz.prog 49 #[.string a0, .int .i64 a1] w fun e w' => e = .returned (.tuple #[.agg #[.int .i64 n, .int .u32 s, .string (strOfNums p)], .int .i64 nx, .agg #[.int .i64 x, .int .i64 y]]) ∧ Kept (fun _ => False) w w' from hr1)
    have HR2 := Lib.hid (show ∀ w, Calls Tryz.prog 50 #[.string a0, .int .i64 a1] w fun e w' => e = .returned (.tuple #[.agg #[.int .i64 n, .int .u32 s, .string (strOfNums p)], .int .i64 nx, .int .i64 x, .int .i64 y]) ∧ Kept (fun _ => False) w w' from hr2)
    clear hr1 hr2
    go_enter Tryz.func17, Tryz.ntmps17
    go_wp2_with fail
    refine (HA.out _).mono ?_
    rintro e w2 ⟨rfl, hk2⟩
    go_wp2_with fail
    refine (HR1.out _).mono ?_
    rintro e w3 ⟨rfl, hk3⟩
    have hK3 := hk2.trans hk3
    go_wp2_with fail
    refine (HR2.out _).mono ?_
    rintro e w4 ⟨rfl, hk4⟩
    have g5 := hk4.heap (blk_alloc (blk_new w3 _) _) id
    have g7 := hk4.heap (blk_new' (w3.alloc _) _ (w3.heap.size + 1) (by simp)) id
    have hK4 : Kept (fun _ => False) w w4 := ((hK3.alloc _).alloc _).trans hk4
    have hl5 := blk_lt g5; have hl7 := blk_lt g7
    have c0 : w4.cell? ⟨w3.heap.size, 0, none⟩ = some (.int .i64 n) := blk_cell g5 0
    have c1 : w4.cell? ⟨w3.heap.size, 1, none⟩ = some (.int .u32 s) := blk_cell g5 1
    have c2 : w4.cell? ⟨w3.heap.size, 2, none⟩ = some (.string (strOfNums p)) := blk_cell g5 2
    have d0 : w4.cell? ⟨w3.heap.size + 1, 0, none⟩ = some (.int .i64 x) := blk_cell g7 0
    have d1 : w4.cell? ⟨w3.heap.size + 1, 1, none⟩ = some (.int .i64 y) := blk_cell g7 1
    clear g5 g7 hk4 hK3 hk3 hk2
    go_wp2
    go_ret
    exact ⟨rfl, hK4.alloc _⟩

set_option maxRecDepth 100000 in
theorem lifted (os : Os) (started : os.Started) (H : Type) (enc : TypeId × Value → H) :
    ReturnsInHanded {} Tryz.checked os 17 .any (Rows.blockReadsSpec.pre6 enc Tryz.prog Tryz.f17 Rows.blockReadsRow.domain false) (Rows.blockReadsSpec.post enc Tryz.prog Tryz.f17 false true false false) := by
  refine returnsInHanded_of_change (C := Tryz.checked) own started (by kernel_rfl) Tryz.func17
    (ChangeSpec.witness6 (enc := enc) (C := Tryz.checked) false ⟨#[], #[.string ByteArray.empty, .int .i64 0], []⟩ 8 (by kernel_rfl) (by kernel_rfl) (by kernel_rfl) (by kernel_rfl)) ?_
  intro W base args ds gs before hval0 hW hcnd _
  have hval : ∀ (j : Nat) t v, Tryz.f17.params[j]? = some t → args[j]? = some v → Value.okWide Tryz.prog W .any base t v := hval0
  have hW' := hW
  obtain ⟨p, q, hA0, hV, rfl, hfz, hnd⟩ := hW
  have hA : DataW.TrodAll enc Tryz.prog W 0 (fun _ => true) true Tryz.f17.params.toList args.toList ds p := hA0
  rw [Tryz.params17] at hA hval
  obtain ⟨v0, vs0, d0, ds0, p0, q0, hargs, rfl, rfl, h0, r0⟩ := trodAll_cons hA
  obtain ⟨v1, vs1, d1, ds1, p1, q1, rfl, rfl, rfl, h1, r1⟩ := trodAll_cons r0
  obtain ⟨rfl, rfl, rfl⟩ := trodAll_nil r1
  obtain rfl : args = #[v0, v1] := by cases args; simp_all
  obtain ⟨rfl, rfl⟩ := trodVars_none hV
  obtain ⟨a0, rfl, rfl, rfl, w0⟩ := open_string Tryz.underlying9 (hval 0 9 v0 rfl rfl) h0
  obtain ⟨a1, rfl, rfl, rfl, w1⟩ := open_int Tryz.underlying3 (hval 1 3 v1 rfl rfl) h1
  clear hA0 hval0
  simp only [List.append_nil] at hW'
  refine (walk a0 a1 w0 w1 W).mono fun e W' ⟨he, hk⟩ => ?_
  subst he
  exact ⟨_, rfl, post_kept (pa := []) (pv := []) hk hW' rfl (fun _ _ _ => (trodAll_cons_mk (shut_bool Tryz.underlying4 _) trodAll_mk0)) (fun sp _ => (trodAll_cons_mk (shut_string Tryz.underlying9 w0) (trodAll_cons_mk (shut_int Tryz.underlying3 w1) trodAll_mk0))) (fun _ _ => rfl)
    (ok_one (by kernel_rfl) rfl (okWide_bool_mk Tryz.underlying4 _))⟩

set_option maxRecDepth 100000 in
set_option maxHeartbeats 100000000 in
theorem facts : joinedFacts Tryz.prog 17 Tryz.f17 Rows.blockReadsSpec Rows.blockReadsRow = true := by
  unfold joinedFacts
  repeat' (with_reducible refine and_mk ?_ ?_)
  all_goals (as_aux_lemma => kernel_rfl)

theorem over : Rows.blockReadsRow.holds Tryz.pinned (OpenSpec.ofChange Rows.blockReadsSpec) :=
  OpenClaim.holds_of_wide 17 Tryz.f17 rfl rfl rfl rfl rfl rfl rfl ⟨rfl, rfl, rfl, rfl, rfl⟩ rfl rfl rfl rfl rfl (by as_aux_lemma => kernel_rfl) Tryz.func17 facts
    (of_decide_eq_true (by as_aux_lemma => kernel_rfl)) (by unfold Func.isWrapper; first | (rw [if_pos (by decide +kernel)]; kernel_rfl) | (rw [if_neg (by decide +kernel)]; exact ⟨rfl, rfl⟩))
    (fun os started H enc _ => lifted os started H enc)

theorem proved : Rows.BlockReadsSaid :=
  over
end Go.Proofs.YthdcfmconpgflaaGreat.blockReads
