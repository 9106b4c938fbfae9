/- TransRefuses (law 25): trans.New answers, for every two codecs and every size, with a Pipe or with the one error code that its arguments ask for.
   No condition. -/
import Derived.Test.YthdcfmconpgflaaGreatRows
import Derived.Test.YthdcfmconpgflaaGreatLaw25
import Derived.Test.YthdcfmconpgflaaGreatRow
import Derived.ProofKit
import Derived.OpenShut
import Derived.ShutString
set_option linter.unusedVariables false
set_option linter.unusedSimpArgs false
namespace Go.Proofs.YthdcfmconpgflaaGreat.transRefuses
open Go.ChangeShapes Go.WideShapes Go.ChangeAt Go.RowKit

theorem own : ownKnob Tryz.prog.godebug = none := by kernel_rfl

theorem dec_all (c : Int) (h1 : 1 ≤ c) (h2 : c ≤ 10) : ∃ T P, Made 24 c T P ∧ ∀ g w w', P g w → Kept (fun _ => False) w w' → P g w' := by
  obtain rfl | rfl | rfl | rfl | rfl | rfl | rfl | rfl | rfl | rfl : c = 1 ∨ c = 2 ∨ c = 3 ∨ c = 4 ∨ c = 5 ∨ c = 6 ∨ c = 7 ∨ c = 8 ∨ c = 9 ∨ c = 10 := by omega
  · exact ⟨_, _, madeD1, fun g w w' h k => k.heap h id⟩
  · exact ⟨_, _, madeD2, fun g w w' h k => k.heap h id⟩
  · exact ⟨_, _, madeD3, fun g w w' h k => k.heap h id⟩
  · exact ⟨_, _, madeD4, fun g w w' h k => k.heap h id⟩
  · exact ⟨_, _, madeD5, fun g w w' h k => k.heap h id⟩
  · exact ⟨_, _, madeD6, fun g w w' ⟨q, h, h', hq⟩ k => ⟨q, k.heap h id, k.heap h' id, hq⟩⟩
  · exact ⟨_, _, madeD7, fun g w w' h k => k.heap h id⟩
  · exact ⟨_, _, madeD8, fun g w w' h k => k.heap h id⟩
  · exact ⟨_, _, madeD9, fun g w w' ⟨q, h, h', hq⟩ k => ⟨q, k.heap h id, k.heap h' id, hq⟩⟩
  · exact ⟨_, _, madeD10, fun g w w' ⟨q, h, h', hq⟩ k => ⟨q, k.heap h id, k.heap h' id, hq⟩⟩
theorem enc_all (c : Int) (h1 : 1 ≤ c) (h2 : c ≤ 10) : ∃ T P, Made 23 c T P ∧ ∀ g w w', P g w → Kept (fun _ => False) w w' → P g w' := by
  obtain rfl | rfl | rfl | rfl | rfl | rfl | rfl | rfl | rfl | rfl : c = 1 ∨ c = 2 ∨ c = 3 ∨ c = 4 ∨ c = 5 ∨ c = 6 ∨ c = 7 ∨ c = 8 ∨ c = 9 ∨ c = 10 := by omega
  · exact ⟨_, _, madeE1, fun g w w' h k => k.heap h id⟩
  · exact ⟨_, _, madeE2, fun g w w' h k => k.heap h id⟩
  · exact ⟨_, _, madeE3, fun g w w' h k => k.heap h id⟩
  · exact ⟨_, _, madeE4, fun g w w' h k => k.heap h id⟩
  · exact ⟨_, _, madeE5, fun g w w' h k => k.heap h id⟩
  · exact ⟨_, _, madeE6, fun g w w' ⟨q, h, h', hq⟩ k => ⟨q, k.heap h id, k.heap h' id, hq⟩⟩
  · exact ⟨_, _, madeE7, fun g w w' h k => k.heap h id⟩
  · exact ⟨_, _, madeE8, fun g w w' h k => k.heap h id⟩
  · exact ⟨_, _, madeE9, fun g w w' ⟨q, h, h', hq⟩ k => ⟨q, k.heap h id, k.heap h' id, hq⟩⟩
  · exact ⟨_, _, madeE10, fun g w w' ⟨q, h, h', hq⟩ k => ⟨q, k.heap h id, k.heap h' id, hq⟩⟩

/-- The pointer and the code that New answers. -/
theorem new_all (a0 a1 a2 : Int) (w : World) : Calls Tryz.prog 39 #[.int .i64 a0, .int .i64 a1, .int .i64 a2] w fun e w' =>
    ∃ (o : Option Addr) (c : Int), e = .returned (.tuple #[.pointer o, .int .i64 c]) ∧ Kept (fun _ => False) w w' ∧
      (o = none ∧ c = 11 ∧ (a0 < 1 ∨ 10 < a0 ∨ a1 < 1 ∨ 10 < a1) ∨
       o = none ∧ c = 1 ∧ (1 ≤ a0 ∧ a0 ≤ 10 ∧ 1 ≤ a1 ∧ a1 ≤ 10) ∧ (a2 < 1 ∨ 65536 < a2) ∨
       (∃ a, o = some a) ∧ c = 0 ∧ (1 ≤ a0 ∧ a0 ≤ 10 ∧ 1 ≤ a1 ∧ a1 ≤ 10) ∧ 1 ≤ a2 ∧ a2 ≤ 65536) := by
  by_cases h0 : a0 < 1 ∨ 10 < a0
  · exact (pipe_bad1 a0 a1 a2 w h0).mono fun e w' ⟨he, hk⟩ => ⟨none, 11, he, hk, .inl ⟨rfl, rfl, by omega⟩⟩
  obtain ⟨T, P, hd, md⟩ := dec_all a0 (by omega) (by omega)
  by_cases h1 : a1 < 1 ∨ 10 < a1
  · exact (pipe_bad2 a0 a1 a2 w T P hd h1).mono fun e w' ⟨he, hk⟩ => ⟨none, 11, he, hk, .inl ⟨rfl, rfl, by omega⟩⟩
  obtain ⟨T2, P2, hn, mn⟩ := enc_all a1 (by omega) (by omega)
  by_cases h2 : a2 < 1 ∨ 65536 < a2
  · exact (pipe_size a0 a1 a2 w T T2 P P2 hd hn h2).mono fun e w' ⟨he, hk⟩ => ⟨none, 1, he, hk, .inr (.inl ⟨rfl, rfl, by omega, h2⟩)⟩
  · exact (pipe_new a0 a1 a2 w T T2 P P2 hd hn md mn (by omega) (by omega)).mono fun e w' ⟨g, g1, g2, he, _, _, _, hk⟩ => ⟨some ⟨g, 0, none⟩, 0, he, hk, .inr (.inr ⟨⟨_, rfl⟩, rfl, by omega, by omega, by omega⟩)⟩

set_option maxRecDepth 100000 in
set_option maxHeartbeats 4000000 in
theorem walk (a0 a1 a2 : Int) (w0 : (Lit.int .i64 a0).wf = true) (w1 : (Lit.int .i64 a1).wf = true) (w2 : (Lit.int .i64 a2).wf = true) (w : World) :
    Calls Tryz.prog 12 #[.int .i64 a0, .int .i64 a1, .int .i64 a2] w fun e w' => e = .returned (.bool true) ∧ Kept (fun _ => False) w w' := by
  have HA := Lib.hid awake25
  have HN := Lib.hid (fun w => new_all a0 a1 a2 w)
  go_enter Tryz.func12, Tryz.ntmps12
  go_wp2_with fail
  refine (HN.out _).mono ?_
  rintro e w3 ⟨o, c, rfl, hk3, hc⟩
  rcases hc with ⟨rfl, rfl, hx⟩ | ⟨rfl, rfl, hx, hy⟩ | ⟨⟨a, rfl⟩, rfl, hx, hy⟩
  all_goals
    go_wp2_with (go_at_call 36; refine (HA.out _).mono ?_; rintro e w4 ⟨rfl, hk4⟩)
    all_goals
      first
      | (exfalso; omega)
      | (go_ret
         exact ⟨rfl, hk3.trans hk4⟩)

set_option maxRecDepth 100000 in
theorem lifted (os : Os) (started : os.Started) (H : Type) (enc : TypeId × Value → H) :
    ReturnsInHanded {} Tryz.checked os 12 .any (Rows.transRefusesSpec.pre6 enc Tryz.prog Tryz.f12 Rows.transRefusesRow.domain false) (Rows.transRefusesSpec.post enc Tryz.prog Tryz.f12 false true false false) := by
  refine returnsInHanded_of_change (C := Tryz.checked) own started (by kernel_rfl) Tryz.func12
    (ChangeSpec.witness6 (enc := enc) (C := Tryz.checked) false ⟨#[], #[.int .i64 0, .int .i64 0, .int .i64 0], []⟩ 8 (by kernel_rfl) (by kernel_rfl) (by kernel_rfl) (by kernel_rfl)) ?_
  intro W base args ds gs before hval0 hW hcnd _
  have hval : ∀ (j : Nat) t v, Tryz.f12.params[j]? = some t → args[j]? = some v → Value.okWide Tryz.prog W .any base t v := hval0
  have hW' := hW
  obtain ⟨p, q, hA0, hV, rfl, hfz, hnd⟩ := hW
  have hA : DataW.TrodAll enc Tryz.prog W 0 (fun _ => true) true Tryz.f12.params.toList args.toList ds p := hA0
  rw [Tryz.params12] at hA hval
  obtain ⟨v0, vs0, d0, ds0, p0, q0, hargs, rfl, rfl, h0, r0⟩ := trodAll_cons hA
  obtain ⟨v1, vs1, d1, ds1, p1, q1, rfl, rfl, rfl, h1, r1⟩ := trodAll_cons r0
  obtain ⟨v2, vs2, d2, ds2, p2, q2, rfl, rfl, rfl, h2, r2⟩ := trodAll_cons r1
  obtain ⟨rfl, rfl, rfl⟩ := trodAll_nil r2
  obtain rfl : args = #[v0, v1, v2] := by cases args; simp_all
  obtain ⟨rfl, rfl⟩ := trodVars_none hV
  obtain ⟨a0, rfl, rfl, rfl, w0⟩ := open_int Tryz.underlying3 (hval 0 3 v0 rfl rfl) h0
  obtain ⟨a1, rfl, rfl, rfl, w1⟩ := open_int Tryz.underlying3 (hval 1 3 v1 rfl rfl) h1
  obtain ⟨a2, rfl, rfl, rfl, w2⟩ := open_int Tryz.underlying3 (hval 2 3 v2 rfl rfl) h2
  clear hA0 hval0
  simp only [List.append_nil] at hW'
  refine (walk a0 a1 a2 w0 w1 w2 W).mono fun e W' ⟨he, hk⟩ => ?_
  subst he
  exact ⟨_, rfl, post_kept (pa := []) (pv := []) hk hW' rfl (fun _ _ _ => (trodAll_cons_mk (shut_bool Tryz.underlying4 _) trodAll_mk0)) (fun sp _ => (trodAll_cons_mk (shut_int Tryz.underlying3 w0) (trodAll_cons_mk (shut_int Tryz.underlying3 w1) (trodAll_cons_mk (shut_int Tryz.underlying3 w2) trodAll_mk0)))) (fun _ _ => rfl)
    (ok_one (by kernel_rfl) rfl (okWide_bool_mk Tryz.underlying4 _))⟩

set_option maxRecDepth 100000 in
set_option maxHeartbeats 100000000 in
theorem facts : joinedFacts Tryz.prog 12 Tryz.f12 Rows.transRefusesSpec Rows.transRefusesRow = true := by
  unfold joinedFacts
  repeat' (with_reducible refine and_mk ?_ ?_)
  all_goals (as_aux_lemma => kernel_rfl)

theorem over : Rows.transRefusesRow.holds Tryz.pinned (OpenSpec.ofChange Rows.transRefusesSpec) :=
  OpenClaim.holds_of_wide 12 Tryz.f12 rfl rfl rfl rfl rfl rfl rfl ⟨rfl, rfl, rfl, rfl, rfl⟩ rfl rfl rfl rfl rfl (by as_aux_lemma => kernel_rfl) Tryz.func12 facts
    (of_decide_eq_true (by as_aux_lemma => kernel_rfl)) (by unfold Func.isWrapper; first | (rw [if_pos (by decide +kernel)]; kernel_rfl) | (rw [if_neg (by decide +kernel)]; exact ⟨rfl, rfl⟩))
    (fun os started H enc _ => lifted os started H enc)

theorem proved : Rows.TransRefusesSaid :=
  over
end Go.Proofs.YthdcfmconpgflaaGreat.transRefuses
