/- BlockBytes (law 20): for every block: block.Bytes gives the bytes that the document says, or the error that it says, and then no bytes.
   No condition. -/
import Derived.Test.YthdcfmconpgflaaGreatRows
import Derived.Test.YthdcfmconpgflaaGreatLaw20
import Derived.Test.YthdcfmconpgflaaGreatRef20
import Derived.Test.YthdcfmconpgflaaGreatRow
import Derived.ProofKit
import Derived.OpenShut
import Derived.ShutString
import Derived.Lib.SmallJoins
set_option linter.unusedVariables false
set_option linter.unusedSimpArgs false
namespace Go.Proofs.YthdcfmconpgflaaGreat.blockBytes
open Go.ChangeShapes Go.WideShapes Go.ChangeAt Go.RowKit
open Go.ChangeMaps (open_string shut_string)

theorem own : ownKnob Tryz.prog.godebug = none := by kernel_rfl

set_option maxRecDepth 100000 in
set_option maxHeartbeats 4000000 in
theorem walk (n s : Int) (b : ByteArray) (wn : (Lit.int .i64 n).wf = true) (ws : (Lit.int .u32 s).wf = true) (wb : b.size ≤ maxLen) (w : World) :
    Calls Tryz.prog 16 #[.agg #[.int .i64 n, .int .u32 s, .string b]] w fun e w' => e = .returned (.bool true) ∧ Kept (fun _ => False) w w' := by
  have haw := awake20
  have HA := Lib.hid haw
  clear haw
  by_cases h : 2000 < b.size
  · go_enter Tryz.func16, Tryz.ntmps16
    go_wp2_with fail
    refine (HA.out _).mono ?_
    rintro e w2 ⟨rfl, hk2⟩
    have hb0 := hk2.heap (blk_new w _) id
    have c2 : w2.cell? ⟨w.heap.size, 2, none⟩ = some (.string b) := blk_cell hb0 2
    have hK2 := ((Kept.refl _ w).alloc _).trans hk2
    go_wp2_with fail
    refine (HA.out _).mono ?_
    rintro e w3 ⟨rfl, hk3⟩
    go_wp2
    go_ret
    exact ⟨rfl, hK2.trans hk3⟩
  · obtain ⟨p, hp⟩ : ∃ p, p = bs b := ⟨_, rfl⟩
    have hpb : Byt p := by rw [hp]; exact bs_byt b
    have hbp : b = strOfNums p := by rw [hp, S_bs]
    have hpl : p.length = b.size := by rw [hp, bs_length]
    have hs : 0 ≤ s ∧ s < 4294967296 := by
      simp [Lit.wf, IntKind.has, IntKind.min, IntKind.max, IntKind.signed, IntKind.bits] at ws
      omega
    have hl : ¬ 2000 < p.length := by omega
    have hsz := strOfNums_size p
    clear hp h wb hpl
    subst hbp
    have hrr := fun w => rright_c n s p w
    by_cases hright : rightOf n p = 0
    · have hb1 := fun w => bytes_ok n s p w hright hs.1 hs.2
      have hb2 := fun w => rbytes_c n s p w hright hs.1 hs.2
      rw [hright] at hrr
      obtain ⟨q, hq⟩ : ∃ q, q = blkBytes n s p := ⟨_, rfl⟩
      rw [← hq] at hb1 hb2
      clear hq hright
      unfold blkV at hb1 hb2 hrr
      have HB1 := Lib.hid hb1; have HB2 := Lib.hid hb2; have HR := Lib.hid hrr
      clear hb1 hb2 hrr
      go_enter Tryz.func16, Tryz.ntmps16
      go_wp2_with fail
      refine (HA.out _).mono ?_
      rintro e w2 ⟨rfl, hk2⟩
      have hb0 := hk2.heap (blk_new w _) id
      have c0 : w2.cell? ⟨w.heap.size, 0, none⟩ = some (.int .i64 n) := blk_cell hb0 0
      have c1 : w2.cell? ⟨w.heap.size, 1, none⟩ = some (.int .u32 s) := blk_cell hb0 1
      have c2 : w2.cell? ⟨w.heap.size, 2, none⟩ = some (.string (strOfNums p)) := blk_cell hb0 2
      have hK2 := ((Kept.refl _ w).alloc _).trans hk2
      clear hk2
      go_wp2_with fail
      refine (HB1.out _).mono ?_
      rintro e w3 ⟨rfl, hk3⟩
      have c0 := hk3.cell c0 id
      have c1 := hk3.cell c1 id
      have c2 := hk3.cell c2 id
      have hK3 := hK2.trans hk3
      clear hk3
      go_wp2_with fail
      refine (HR.out _).mono ?_
      rintro e w4 ⟨rfl, hk4⟩
      have c0 := hk4.cell c0 id
      have c1 := hk4.cell c1 id
      have c2 := hk4.cell c2 id
      have hK4 := hK3.trans hk4
      clear hk4
      go_wp2_with fail
      refine (HB2.out _).mono ?_
      rintro e w5 ⟨rfl, hk5⟩
      go_wp2
      go_ret
      exact ⟨rfl, hK4.trans hk5⟩
    · have hb1 := fun w => bytes_bad n s p w hright
      obtain ⟨x, hx⟩ : ∃ x, x = rightOf n p := ⟨_, rfl⟩
      rw [← hx] at hb1 hrr hright
      clear hx
      have hxb : (x != 0) = true := by simpa using hright
      unfold blkV at hb1 hrr
      have HB1 := Lib.hid hb1; have HR := Lib.hid hrr
      clear hb1 hrr hright
      have he : strOfNums [] = (⟨#[]⟩ : ByteArray) := rfl
      go_enter Tryz.func16, Tryz.ntmps16
      go_wp2_with fail
      refine (HA.out _).mono ?_
      rintro e w2 ⟨rfl, hk2⟩
      have hb0 := hk2.heap (blk_new w _) id
      have c0 : w2.cell? ⟨w.heap.size, 0, none⟩ = some (.int .i64 n) := blk_cell hb0 0
      have c1 : w2.cell? ⟨w.heap.size, 1, none⟩ = some (.int .u32 s) := blk_cell hb0 1
      have c2 : w2.cell? ⟨w.heap.size, 2, none⟩ = some (.string (strOfNums p)) := blk_cell hb0 2
      have hK2 := ((Kept.refl _ w).alloc _).trans hk2
      clear hk2
      go_wp2_with fail
      refine (HB1.out _).mono ?_
      rintro e w3 ⟨rfl, hk3⟩
      have c0 := hk3.cell c0 id
      have c1 := hk3.cell c1 id
      have c2 := hk3.cell c2 id
      have hK3 := hK2.trans hk3
      clear hk3
      go_wp2_with fail
      refine (HR.out _).mono ?_
      rintro e w4 ⟨rfl, hk4⟩
      have hK4 := hK3.trans hk4
      clear hk4
      go_wp2
      go_ret
      exact ⟨rfl, hK4⟩

theorem shut_str1 {H : Type} {enc : TypeId × Value → H} {P : Program} {w : World} {base : Nat} {spare : Nat → Bool} {held : Bool} {t : TypeId} {b : ByteArray} (ht : P.underlying t = some .string) (hb : b.size ≤ maxLen) :
    ∃ n, DataW.trod enc P w base spare held n t [.string b] = some (.lit (.string b.data.toList), []) := by
  obtain ⟨n, hn⟩ := shut_string (enc := enc) (P := P) (w := w) (base := base) (sp := spare) (held := held) ht hb
  exact ⟨n, by simpa [Value.cells] using hn⟩

set_option maxRecDepth 100000 in
theorem lifted (os : Os) (started : os.Started) (H : Type) (enc : TypeId × Value → H) :
    ReturnsInHanded {} Tryz.checked os 16 .any (Rows.blockBytesSpec.pre6 enc Tryz.prog Tryz.f16 Rows.blockBytesRow.domain false) (Rows.blockBytesSpec.post enc Tryz.prog Tryz.f16 false true false false) := by
  refine returnsInHanded_of_change (C := Tryz.checked) own started (by kernel_rfl) Tryz.func16
    (ChangeSpec.witness6 (enc := enc) (C := Tryz.checked) false ⟨#[], #[.agg #[.int .i64 0, .int .u32 0, .string ByteArray.empty]], []⟩ 8 (by kernel_rfl) (by kernel_rfl) (by kernel_rfl) (by kernel_rfl)) ?_
  intro W base args ds gs before hval0 hW hcnd _
  have hval : ∀ (j : Nat) t v, Tryz.f16.params[j]? = some t → args[j]? = some v → Value.okWide Tryz.prog W .any base t v := hval0
  have hW' := hW
  obtain ⟨p, q, hA0, hV, rfl, hfz, hnd⟩ := hW
  have hA : DataW.TrodAll enc Tryz.prog W 0 (fun _ => true) true Tryz.f16.params.toList args.toList ds p := hA0
  rw [Tryz.params16] at hA hval
  obtain ⟨v0, vs0, d0, ds0, p0, q0, hargs, rfl, rfl, h0, r0⟩ := trodAll_cons hA
  obtain ⟨rfl, rfl, rfl⟩ := trodAll_nil r0
  obtain rfl : args = #[v0] := by cases args; simp_all
  obtain ⟨rfl, rfl⟩ := trodVars_none hV
  obtain ⟨x0, x1, x2, y0, y1, y2, m, rfl, rfl, rfl, hy0, hy1, hy2⟩ := Joins.open_agg3 Tryz.underlying84 (by kernel_rfl) (by kernel_rfl) (hval 0 84 v0 rfl rfl) h0
  obtain ⟨n, e0, rfl, wn⟩ := DataW.trod_int Tryz.underlying3 hy0
  obtain ⟨s, e1, rfl, ws⟩ := DataW.trod_int Tryz.underlying47 hy1
  obtain ⟨b, e2, rfl, wb⟩ := DataW.trod_string Tryz.underlying9 hy2
  simp only [List.cons.injEq, and_true] at e0 e1 e2
  subst e0 e1 e2
  clear hA0 hval0
  simp only [List.append_nil] at hW'
  refine (walk n s b wn ws wb W).mono fun e W' ⟨he, hk⟩ => ?_
  subst he
  exact ⟨_, rfl, post_kept (pa := []) (pv := []) hk hW' rfl (fun _ _ _ => (trodAll_cons_mk (shut_bool Tryz.underlying4 _) trodAll_mk0)) (fun sp _ => (trodAll_cons_mk (Joins.shut_agg3 (y0 := (.lit (.int .i64 n), [])) (y1 := (.lit (.int .u32 s), [])) (y2 := (.lit (.string b.data.toList), [])) Tryz.underlying84 (by kernel_rfl) (by kernel_rfl) ⟨1, trod_int_mk 0 Tryz.underlying3 wn⟩ ⟨1, trod_int_mk 0 Tryz.underlying47 ws⟩ (shut_str1 Tryz.underlying9 wb)) trodAll_mk0)) (fun _ _ => rfl)
    (ok_one (by kernel_rfl) rfl (okWide_bool_mk Tryz.underlying4 _))⟩

set_option maxRecDepth 100000 in
set_option maxHeartbeats 100000000 in
theorem facts : joinedFacts Tryz.prog 16 Tryz.f16 Rows.blockBytesSpec Rows.blockBytesRow = true := by
  unfold joinedFacts
  repeat' (with_reducible refine and_mk ?_ ?_)
  all_goals (as_aux_lemma => kernel_rfl)

theorem over : Rows.blockBytesRow.holds Tryz.pinned (OpenSpec.ofChange Rows.blockBytesSpec) :=
  OpenClaim.holds_of_wide 16 Tryz.f16 rfl rfl rfl rfl rfl rfl rfl ⟨rfl, rfl, rfl, rfl, rfl⟩ rfl rfl rfl rfl rfl (by as_aux_lemma => kernel_rfl) Tryz.func16 facts
    (of_decide_eq_true (by as_aux_lemma => kernel_rfl)) (by unfold Func.isWrapper; first | (rw [if_pos (by decide +kernel)]; kernel_rfl) | (rw [if_neg (by decide +kernel)]; exact ⟨rfl, rfl⟩))
    (fun os started H enc _ => lifted os started H enc)

theorem proved : Rows.BlockBytesSaid :=
  over
end Go.Proofs.YthdcfmconpgflaaGreat.blockBytes
