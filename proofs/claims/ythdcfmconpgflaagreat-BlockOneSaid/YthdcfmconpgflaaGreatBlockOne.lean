/- BlockOne (law 20): for every text and every place: what is read as a block there, written again, is the very bytes that were read; where none is read the block is empty.
   No condition. -/
import Derived.Test.YthdcfmconpgflaaGreatRows
import Derived.Test.YthdcfmconpgflaaGreatLaw20
import Derived.Test.YthdcfmconpgflaaGreatRow
import Derived.ProofKit
import Derived.OpenShut
import Derived.ShutString
set_option linter.unusedVariables false
set_option linter.unusedSimpArgs false
namespace Go.Proofs.YthdcfmconpgflaaGreat.blockOne
open Go.ChangeShapes Go.WideShapes Go.ChangeAt Go.RowKit
open Go.ChangeMaps (open_string shut_string)

theorem own : ownKnob Tryz.prog.godebug = none := by kernel_rfl

theorem cons_of {r : List Int} {n : Nat} (h : n + 1 ≤ r.length) : ∃ b r', r = b :: r' ∧ n ≤ r'.length := by
  cases r with
  | nil => simp at h
  | cons b r' => exact ⟨b, r', rfl, by simpa using h⟩
theorem four_num (a b c d : Int) (r : List Int) (ha : 0 ≤ a ∧ a < 256) (hb : 0 ≤ b ∧ b < 256) (hc : 0 ≤ c ∧ c < 256) (hd : 0 ≤ d ∧ d < 256) : four (numOf (a :: b :: c :: d :: r)) = [a, b, c, d] := by
  have e : numOf (a :: b :: c :: d :: r) = a + b * 256 + c * 65536 + d * 16777216 := by
    unfold numOf; rw [if_neg (by simp)]; rfl
  rw [e, four]
  congr 1
  · omega
  · congr 1
    · omega
    · congr 1
      · omega
      · congr 1; omega
/-- What is read fails, and is nothing; or it is a block that may be, whose bytes stand there. -/
theorem rd_one (l : List Int) (a : Int) (hl : Byt l) (n s nx x y : Int) (p : List Int) (h : rdBlk l a = ((n, s, p), nx, x, y)) :
    (x ≠ 0 ∧ n = 0 ∧ s = 0 ∧ p = [] ∧ nx = 0) ∨ (x = 0 ∧ rightOf n p = 0 ∧ 0 ≤ s ∧ s < 4294967296 ∧ 0 ≤ a ∧ nx ≤ l.length ∧ a ≤ nx ∧ blkBytes n s p = (l.take nx.toNat).drop a.toNat) := by
  unfold rdBlk at h
  split at h
  · cases h; exact .inl ⟨by decide, rfl, rfl, rfl, rfl⟩
  rename_i h0
  simp only at h
  split at h
  · cases h; exact .inl ⟨by decide, rfl, rfl, rfl, rfl⟩
  rename_i h1
  split at h
  · cases h; exact .inl ⟨by decide, rfl, rfl, rfl, rfl⟩
  rename_i h13
  split at h
  · cases h; exact .inl ⟨by decide, rfl, rfl, rfl, rfl⟩
  rename_i hc
  split at h
  · cases h; exact .inl ⟨by decide, rfl, rfl, rfl, rfl⟩
  rename_i hz
  split at h
  · cases h; exact .inl ⟨by decide, rfl, rfl, rfl, rfl⟩
  rename_i hq
  right
  obtain ⟨r, hr⟩ : ∃ r, r = l.drop a.toNat := ⟨_, rfl⟩
  rw [← hr] at h h1 h13 hc hz hq
  have hrb : Byt r := by rw [hr]; exact hl.drop _
  have hrl : r.length = l.length - a.toNat := by rw [hr, List.length_drop]
  have h9 := numOf_rng (hrb.drop 9)
  obtain ⟨z, hzd⟩ : ∃ z, z = numOf (r.drop 5) := ⟨_, rfl⟩
  rw [← hzd] at h hz hq
  cases h
  have hpl : ((r.take (13 + z.toNat)).drop 13).length = z.toNat := by rw [List.length_drop, List.length_take]; omega
  refine ⟨rfl, ?_, h9.1, h9.2, by omega, by omega, by omega, ?_⟩
  · unfold rightOf; rw [if_neg hc, if_neg (by rw [hpl]; omega)]
  · have e1 : (l.take (a + (13 + z)).toNat).drop a.toNat = r.take (13 + z.toNat) := by
      rw [List.drop_take, ← hr]; congr 1; omega
    have h0' : r.getD 0 0 = 66 := Classical.byContradiction fun hne => h1 ⟨by intro e; rw [e] at h13; simp at h13, hne⟩
    have hz5 : (((r.take (13 + z.toNat)).drop 13).length : Int) = numOf (r.drop 5) := by rw [hpl, ← hzd]; omega
    rw [e1, blkBytes, hz5]
    have k : 13 ≤ r.length := by omega
    clear hr hrl hc hz hq hzd e1 h1 h13
    obtain ⟨b0, r0, rfl, k0⟩ := cons_of (n := 12) k
    obtain ⟨b1, r1, rfl, k1⟩ := cons_of (n := 11) (k0)
    obtain ⟨b2, r2, rfl, k2⟩ := cons_of (n := 10) (k1)
    obtain ⟨b3, r3, rfl, k3⟩ := cons_of (n := 9) (k2)
    obtain ⟨b4, r4, rfl, k4⟩ := cons_of (n := 8) (k3)
    obtain ⟨b5, r5, rfl, k5⟩ := cons_of (n := 7) (k4)
    obtain ⟨b6, r6, rfl, k6⟩ := cons_of (n := 6) (k5)
    obtain ⟨b7, r7, rfl, k7⟩ := cons_of (n := 5) (k6)
    obtain ⟨b8, r8, rfl, k8⟩ := cons_of (n := 4) (k7)
    obtain ⟨b9, r9, rfl, k9⟩ := cons_of (n := 3) (k8)
    obtain ⟨b10, r10, rfl, k10⟩ := cons_of (n := 2) (k9)
    obtain ⟨b11, r11, rfl, k11⟩ := cons_of (n := 1) (k10)
    obtain ⟨b12, r12, rfl, k12⟩ := cons_of (n := 0) (k11)
    simp only [List.getD_cons_zero] at h0'
    subst h0'
    have e2 := four_num b1 b2 b3 b4 (b5 :: b6 :: b7 :: b8 :: b9 :: b10 :: b11 :: b12 :: r12) (hrb b1 (by simp)) (hrb b2 (by simp)) (hrb b3 (by simp)) (hrb b4 (by simp))
    have e3 := four_num b5 b6 b7 b8 (b9 :: b10 :: b11 :: b12 :: r12) (hrb b5 (by simp)) (hrb b6 (by simp)) (hrb b7 (by simp)) (hrb b8 (by simp))
    have e4 := four_num b9 b10 b11 b12 r12 (hrb b9 (by simp)) (hrb b10 (by simp)) (hrb b11 (by simp)) (hrb b12 (by simp))
    simp only [List.drop_succ_cons, List.drop_zero, e2, e3, e4]
    rw [show 13 + z.toNat = z.toNat + 13 by omega]
    simp only [List.take_succ_cons, List.drop_succ_cons, List.drop_zero, List.cons_append, List.nil_append, List.append_assoc]

set_option maxRecDepth 100000 in
set_option maxHeartbeats 4000000 in
theorem walk (a0 : ByteArray) (a1 : Int) (w0 : a0.size ≤ maxLen) (w1 : (Lit.int .i64 a1).wf = true) (w : World) :
    Calls Tryz.prog 21 #[.string a0, .int .i64 a1] w fun e w' => e = .returned (.bool true) ∧ Kept (fun _ => False) w w' := by
  have haw := awake20
  have HA := Lib.hid haw
  clear haw
  by_cases h : 2000 < a0.size
  · go_enter Tryz.func21, Tryz.ntmps21
    go_wp2_with fail
    refine (HA.out _).mono ?_
    rintro e w2 ⟨rfl, hk2⟩
    go_wp2_with fail
    refine (HA.out _).mono ?_
    rintro e w3 ⟨rfl, hk3⟩
    go_wp2
    go_ret
    exact ⟨rfl, hk2.trans hk3⟩
  · have hl : (bs a0).length ≤ 1000000000 := by rw [bs_length]; omega
    have hr1 := fun w => read_c (bs a0) a1 w (bs_byt a0) hl
    rw [S_bs] at hr1
    obtain ⟨r, hr⟩ : ∃ r, r = rdBlk (bs a0) a1 := ⟨_, rfl⟩
    rw [← hr] at hr1
    obtain ⟨⟨n, s, p⟩, nx, x, y⟩ := r
    have hcase := rd_one (bs a0) a1 (bs_byt a0) n s nx x y p hr.symm
    rw [bs_length] at hcase
    have HR1 := Lib.hid (show ∀ w, Calls Tryz.prog 49 #[.string a0, .int .i64 a1] w fun e w' => e = .returned (.tuple #[.agg #[.int .i64 n, .int .u32 s, .string (strOfNums p)], .int .i64 nx, .agg #[.int .i64 x, .int .i64 y]]) ∧ Kept (fun _ => False) w w' from hr1)
    clear hr1 hl hr
    rcases hcase with ⟨hx, rfl, rfl, rfl, rfl⟩ | ⟨rfl, hright, hs0, hs1, ha, hnx, han, hbytes⟩
    · have hxb : (x != 0) = true := by simpa using hx
      have he : strOfNums [] = (⟨#[]⟩ : ByteArray) := rfl
      clear hx
      go_enter Tryz.func21, Tryz.ntmps21
      go_wp2_with fail
      refine (HA.out _).mono ?_
      rintro e w2 ⟨rfl, hk2⟩
      go_wp2_with fail
      refine (HR1.out _).mono ?_
      rintro e w3 ⟨rfl, hk3⟩
      have hK3 := hk2.trans hk3
      go_wp2
      go_ret
      exact ⟨rfl, (hK3.alloc _).alloc _⟩
    · have hb := fun W => bytes_ok n s p W hright hs0 hs1
      rw [hright] at *
      have hx : a0.extract a1.toNat nx.toNat = strOfNums (blkBytes n s p) := by
        rw [hbytes, ← S_extract, S_bs]
      obtain ⟨q, hq⟩ : ∃ q, q = blkBytes n s p := ⟨_, rfl⟩
      rw [← hq] at hx hb
      clear hq hbytes
      have HB := Lib.hid (show ∀ W, Calls Tryz.prog 46 #[.agg #[.int .i64 n, .int .u32 s, .string (strOfNums p)]] W fun e w' => e = .returned (.tuple #[.string (strOfNums q), .int .i64 0]) ∧ Kept (fun _ => False) W w' from hb)
      clear hb hright
      go_enter Tryz.func21, Tryz.ntmps21
      go_wp2_with fail
      refine (HA.out _).mono ?_
      rintro e w2 ⟨rfl, hk2⟩
      go_wp2_with fail
      refine (HR1.out _).mono ?_
      rintro e w3 ⟨rfl, hk3⟩
      have hK3 := hk2.trans hk3
      go_wp2_with fail
      refine (HB.out _).mono ?_
      rintro e w4 ⟨rfl, hk4⟩
      have hK4 : Kept (fun _ => False) w w4 := ((hK3.alloc _).alloc _).trans hk4
      go_wp2
      go_ret
      exact ⟨rfl, hK4⟩

set_option maxRecDepth 100000 in
theorem lifted (os : Os) (started : os.Started) (H : Type) (enc : TypeId × Value → H) :
    ReturnsInHanded {} Tryz.checked os 21 .any (Rows.blockOneSpec.pre6 enc Tryz.prog Tryz.f21 Rows.blockOneRow.domain false) (Rows.blockOneSpec.post enc Tryz.prog Tryz.f21 false true false false) := by
  refine returnsInHanded_of_change (C := Tryz.checked) own started (by kernel_rfl) Tryz.func21
    (ChangeSpec.witness6 (enc := enc) (C := Tryz.checked) false ⟨#[], #[.string ByteArray.empty, .int .i64 0], []⟩ 8 (by kernel_rfl) (by kernel_rfl) (by kernel_rfl) (by kernel_rfl)) ?_
  intro W base args ds gs before hval0 hW hcnd _
  have hval : ∀ (j : Nat) t v, Tryz.f21.params[j]? = some t → args[j]? = some v → Value.okWide Tryz.prog W .any base t v := hval0
  have hW' := hW
  obtain ⟨p, q, hA0, hV, rfl, hfz, hnd⟩ := hW
  have hA : DataW.TrodAll enc Tryz.prog W 0 (fun _ => true) true Tryz.f21.params.toList args.toList ds p := hA0
  rw [Tryz.params21] at hA hval
  obtain ⟨v0, vs0, d0, ds0, p0, q0, hargs, rfl, rfl, h0, r0⟩ := trodAll_cons hA
  obtain ⟨v1, vs1, d1, ds1, p1, q1, rfl, rfl, rfl, h1, r1⟩ := trodAll_cons r0
  obtain ⟨rfl, rfl, rfl⟩ := trodAll_nil r1
  obtain rfl : args = #[v0, v1] := by cases args; simp_all
  obtain ⟨rfl, rfl⟩ := trodVars_none hV
  obtain ⟨a0, rfl, rfl, rfl, w0⟩ := open_string Tryz.underlying9 (hval 0 9 v0 rfl rfl) h0
  obtain ⟨a1, rfl, rfl, rfl, w1⟩ := open_int Tryz.underlying3 (hval 1 3 v1 rfl rfl) h1
  clear hA0 hval0
  simp only [List.append_nil] at hW'
  refine (walk a0 a1 w0 w1 W).mono fun e W' ⟨he, hk⟩ => ?_
  subst he
  exact ⟨_, rfl, post_kept (pa := []) (pv := []) hk hW' rfl (fun _ _ _ => (trodAll_cons_mk (shut_bool Tryz.underlying4 _) trodAll_mk0)) (fun sp _ => (trodAll_cons_mk (shut_string Tryz.underlying9 w0) (trodAll_cons_mk (shut_int Tryz.underlying3 w1) trodAll_mk0))) (fun _ _ => rfl)
    (ok_one (by kernel_rfl) rfl (okWide_bool_mk Tryz.underlying4 _))⟩

set_option maxRecDepth 100000 in
set_option maxHeartbeats 100000000 in
theorem facts : joinedFacts Tryz.prog 21 Tryz.f21 Rows.blockOneSpec Rows.blockOneRow = true := by
  unfold joinedFacts
  repeat' (with_reducible refine and_mk ?_ ?_)
  all_goals (as_aux_lemma => kernel_rfl)

theorem over : Rows.blockOneRow.holds Tryz.pinned (OpenSpec.ofChange Rows.blockOneSpec) :=
  OpenClaim.holds_of_wide 21 Tryz.f21 rfl rfl rfl rfl rfl rfl rfl ⟨rfl, rfl, rfl, rfl, rfl⟩ rfl rfl rfl rfl rfl (by as_aux_lemma => kernel_rfl) Tryz.func21 facts
    (of_decide_eq_true (by as_aux_lemma => kernel_rfl)) (by unfold Func.isWrapper; first | (rw [if_pos (by decide +kernel)]; kernel_rfl) | (rw [if_neg (by decide +kernel)]; exact ⟨rfl, rfl⟩))
    (fun os started H enc _ => lifted os started H enc)

theorem proved : Rows.BlockOneSaid :=
  over
end Go.Proofs.YthdcfmconpgflaaGreat.blockOne
