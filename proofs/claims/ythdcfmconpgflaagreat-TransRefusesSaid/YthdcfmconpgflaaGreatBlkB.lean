/- block.Bytes, of a block that may be: the walk through its drawn region printed by held.py out of the region's own trace. -/
import Derived.Test.YthdcfmconpgflaaGreatBlk
set_option linter.unusedVariables false
set_option linter.unusedSimpArgs false
namespace Go.Proofs.YthdcfmconpgflaaGreat
open Go.RowKit

set_option maxRecDepth 100000 in
set_option maxHeartbeats 4000000 in
theorem bytes_ok (n s : Int) (p : List Int) (w : World) (h : rightOf n p = 0) (hs0 : 0 ≤ s) (hs1 : s < 4294967296) :
    Calls Tryz.prog 46 #[blkV n s p] w fun e w' => e = .returned (.tuple #[.string (strOfNums (blkBytes n s p)), .int .i64 0]) ∧ Kept (fun _ => False) w w' := by
  have HB := Lib.hid (show blkBytes n s p = 66 :: (four n ++ (four p.length ++ (four s ++ p))) by simp [blkBytes])
  have hr := right_c n s p
  have hsz := strOfNums_size p
  have hb : (1 ≤ n ∧ n ≤ 65536) ∧ 1 ≤ (p.length : Int) ∧ (p.length : Int) ≤ 1048576 := by
    unfold rightOf at h; (repeat' split at h) <;> omega
  rw [h] at hr
  unfold blkV at hr ⊢
  go_enter Tryz.func46, Tryz.ntmps46
  go_wp2_with (go_at_call 90; refine (hr _).mono ?_)
  rintro e w1 ⟨rfl, hk⟩
  have hb0 : w1.heap[w.heap.size]? = some (.cells #[.int .i64 n, .int .u32 s, .string (strOfNums p)] 84 (0, 0)) := hk.heap (blk_new w _) id
  have c0 : w1.cell? ⟨w.heap.size, 0, none⟩ = some (.int .i64 n) := blk_cell hb0 0
  have c1 : w1.cell? ⟨w.heap.size, 1, none⟩ = some (.int .u32 s) := blk_cell hb0 1
  have c2 : w1.cell? ⟨w.heap.size, 2, none⟩ = some (.string (strOfNums p)) := blk_cell hb0 2
  have hk1' : Kept (fun _ => False) w w1 := ((Kept.refl _ w).alloc _).trans hk
  have hlt := blk_lt hb0
  obtain ⟨h, hh⟩ : ∃ h, h = w.heap.size := ⟨_, rfl⟩
  rw [← hh] at c0 c1 c2 hlt
  clear hb0 hk hr
  go_wp2
  rw [← hh]
  clear hh
  have hS : ∀ W, Kept (fun _ => False) w1 W → W.cell? ⟨h, 0, none⟩ = some (.int .i64 n) ∧ W.cell? ⟨h, 1, none⟩ = some (.int .u32 s) ∧ W.cell? ⟨h, 2, none⟩ = some (.string (strOfNums p)) ∧ Kept (fun _ => False) w1 W :=
    fun W hW => ⟨hW.cell c0 id, hW.cell c1 id, hW.cell c2 id, hW⟩
  have HS := Lib.hid hS
  clear hS
  have hconv : ∀ (W : World) (k : Nat), W.cell? ⟨k, 0, none⟩ = some (.int .u8 66) → (convert 135 9 (.slice (some ⟨k, 0, none⟩) 1 1)).run Tryz.prog W = .ok (.string (strOfNums [66])) W := conv_one 66
  have hz : ∀ l, (strOfNums l).size = l.length := strOfNums_size
  have hf : ∀ x, (four x).length = 4 := fun _ => rfl
  have ha : ∀ a b, strOfNums a ++ strOfNums b = strOfNums (a ++ b) := S_app
  have hw1 : IntKind.u32.wrap n = n := IntWalk.u32_in n (by omega)
  have hw2 : IntKind.u32.wrap p.length = p.length := IntWalk.u32_in _ (by omega)
  refine wp_region_noPanic ?_
  refine wp_region_held_drew (S := fun w' => w'.cell? ⟨h, 0, none⟩ = some (.int .i64 n) ∧ w'.cell? ⟨h, 1, none⟩ = some (.int .u32 s) ∧ w'.cell? ⟨h, 2, none⟩ = some (.string (strOfNums p)) ∧ Kept (fun _ => False) w1 w') (by kernel_rfl) ?_ (fun hHeld0 => ?_)
  · refine HS.out _ ?_; repeat (first | exact Kept.refl _ _ | assumption | refine Kept.drew ?_ | refine Kept.alloc ?_ _ | refine Kept.trans ?_ (by assumption))
  refine wpAnyH_take (i := 2) (v := ?v1) rfl (by kernel_rfl) (by kernel_rfl) (by kernel_rfl) (fun _ _ _ h => h) (Or.inl ⟨by rfl, ?hy1⟩) (by assumption) ?rest1
  case hy1 =>
    intro w hSw; (try dsimp only at hSw); go_simp
    all_goals with_reducible rfl
  try simp only [Act.put, List.getElem_toArray, List.getElem_cons_zero, List.getElem_cons_succ, List.setIfInBounds_toArray, List.set_cons_zero, List.set_cons_succ]
  refine wpAnyH_take (i := 3) (v := ?v2) rfl (by kernel_rfl) (by kernel_rfl) (by kernel_rfl) (fun _ _ _ h => h) (Or.inl ⟨by rfl, ?hy2⟩) (by assumption) ?rest2
  case hy2 =>
    intro w hSw; (try dsimp only at hSw); go_simp
    all_goals with_reducible rfl
  try simp only [Act.put, List.getElem_toArray, List.getElem_cons_zero, List.getElem_cons_succ, List.setIfInBounds_toArray, List.set_cons_zero, List.set_cons_succ]
  refine wpAnyH_take (i := 4) (v := ?v3) rfl (by kernel_rfl) (by kernel_rfl) (by kernel_rfl) (fun _ _ _ h => h) (Or.inl ⟨by rfl, ?hy3⟩) (by assumption) ?rest3
  case hy3 =>
    intro w hSw; (try dsimp only at hSw); go_simp
    all_goals with_reducible rfl
  try simp only [Act.put, List.getElem_toArray, List.getElem_cons_zero, List.getElem_cons_succ, List.setIfInBounds_toArray, List.set_cons_zero, List.set_cons_succ]
  refine wpAnyH_take (i := 7) (v := ?v4) rfl (by kernel_rfl) (by kernel_rfl) (by kernel_rfl) (fun _ _ _ h => h) (Or.inl ⟨by rfl, ?hy4⟩) (by assumption) ?rest4
  case hy4 =>
    intro w hSw; (try dsimp only at hSw); go_simp
    all_goals with_reducible rfl
  try simp only [Act.put, List.getElem_toArray, List.getElem_cons_zero, List.getElem_cons_succ, List.setIfInBounds_toArray, List.set_cons_zero, List.set_cons_succ]
  refine wpAnyH_take (i := 8) (v := ?v5) rfl (by kernel_rfl) (by kernel_rfl) (by kernel_rfl) (fun _ _ _ h => h) (Or.inl ⟨by rfl, ?hy5⟩) (by assumption) ?rest5
  case hy5 =>
    intro w hSw; (try dsimp only at hSw); go_simp
    all_goals with_reducible rfl
  try simp only [Act.put, List.getElem_toArray, List.getElem_cons_zero, List.getElem_cons_succ, List.setIfInBounds_toArray, List.set_cons_zero, List.set_cons_succ]
  refine wpAnyH_take (i := 9) (v := ?v6) rfl (by kernel_rfl) (by kernel_rfl) (by kernel_rfl) (fun _ _ _ h => h) (Or.inl ⟨by rfl, ?hy6⟩) (by assumption) ?rest6
  case hy6 =>
    intro w hSw; (try dsimp only at hSw); go_simp
    all_goals with_reducible rfl
  try simp only [Act.put, List.getElem_toArray, List.getElem_cons_zero, List.getElem_cons_succ, List.setIfInBounds_toArray, List.set_cons_zero, List.set_cons_succ]
  refine wpAnyH_take (i := 10) (v := ?v7) rfl (by kernel_rfl) (by kernel_rfl) (by kernel_rfl) (fun _ _ _ h => h) (Or.inl ⟨by rfl, ?hy7⟩) (by assumption) ?rest7
  case hy7 =>
    intro w hSw; (try dsimp only at hSw); go_simp
    all_goals with_reducible rfl
  try simp only [Act.put, List.getElem_toArray, List.getElem_cons_zero, List.getElem_cons_succ, List.setIfInBounds_toArray, List.set_cons_zero, List.set_cons_succ]
  refine wpAnyH_take (i := 13) (v := ?v8) rfl (by kernel_rfl) (by kernel_rfl) (by kernel_rfl) (fun _ _ _ h => h) (Or.inl ⟨by rfl, ?hy8⟩) (by assumption) ?rest8
  case hy8 =>
    intro w hSw; (try dsimp only at hSw); go_simp
    all_goals with_reducible rfl
  try simp only [Act.put, List.getElem_toArray, List.getElem_cons_zero, List.getElem_cons_succ, List.setIfInBounds_toArray, List.set_cons_zero, List.set_cons_succ]
  refine wpAnyH_take (i := 14) (v := ?v9) rfl (by kernel_rfl) (by kernel_rfl) (by kernel_rfl) (fun _ _ _ h => h) (Or.inl ⟨by rfl, ?hy9⟩) (by assumption) ?rest9
  case hy9 =>
    intro w hSw; (try dsimp only at hSw); go_simp
    all_goals with_reducible rfl
  try simp only [Act.put, List.getElem_toArray, List.getElem_cons_zero, List.getElem_cons_succ, List.setIfInBounds_toArray, List.set_cons_zero, List.set_cons_succ]
  refine wpAnyH_take (i := 17) (v := ?v10) rfl (by kernel_rfl) (by kernel_rfl) (by kernel_rfl) (fun _ _ _ h => h) (Or.inl ⟨by rfl, ?hy10⟩) (by assumption) ?rest10
  case hy10 =>
    intro w hSw; (try dsimp only at hSw); go_simp
    all_goals with_reducible rfl
  try simp only [Act.put, List.getElem_toArray, List.getElem_cons_zero, List.getElem_cons_succ, List.setIfInBounds_toArray, List.set_cons_zero, List.set_cons_succ]
  refine wpAnyH_take (i := 18) (v := ?v11) rfl (by kernel_rfl) (by kernel_rfl) (by kernel_rfl) (fun _ _ _ h => h) (Or.inl ⟨by rfl, ?hy11⟩) (by assumption) ?rest11
  case hy11 =>
    intro w hSw; (try dsimp only at hSw); go_simp
    all_goals with_reducible rfl
  try simp only [Act.put, List.getElem_toArray, List.getElem_cons_zero, List.getElem_cons_succ, List.setIfInBounds_toArray, List.set_cons_zero, List.set_cons_succ]
  refine wpAnyH_ready (rs := [0, 5]) (by kernel_rfl) (by simp) ?_
  refine AllReadyH.cons rfl (fun K hK => ?_) ?_
  · go_simp
    refine hK.out _ _ ?_ (fun hHeld1 => ?_)
    · refine HS.out _ ?_; repeat (first | exact Kept.refl _ _ | assumption | refine Kept.drew ?_ | refine Kept.alloc ?_ _ | refine Kept.trans ?_ (by assumption))
    clear hK K hHeld0
    try simp only [Act.put, List.getElem_toArray, List.getElem_cons_zero, List.getElem_cons_succ, List.setIfInBounds_toArray, List.set_cons_zero, List.set_cons_succ]
    refine wpAnyH_ready (rs := [1, 5]) (by kernel_rfl) (by simp) ?_
    refine AllReadyH.cons rfl (fun K hK => ?_) ?_
    · go_simp
      refine hK.out _ _ ?_ (fun hHeld2 => ?_)
      · refine HS.out _ ?_; repeat (first | exact Kept.refl _ _ | assumption | refine Kept.drew ?_ | refine Kept.alloc ?_ _ | refine Kept.trans ?_ (by assumption))
      clear hK K hHeld1
      try simp only [Act.put, List.getElem_toArray, List.getElem_cons_zero, List.getElem_cons_succ, List.setIfInBounds_toArray, List.set_cons_zero, List.set_cons_succ]
      refine wpAnyH_ready (rs := [5]) (by kernel_rfl) (by simp) ?_
      refine AllReadyH.cons rfl (fun K hK => ?_) ?_
      · go_simp
        go_at_call 91
        refine (four_c _ _ (by omega) (by omega)).mono ?_
        rintro e w'1 ⟨rfl, hk1⟩
        go_wp2_with fail
        refine hK.out _ _ ?_ (fun hHeld3 => ?_)
        · refine HS.out _ ?_; repeat (first | exact Kept.refl _ _ | assumption | refine Kept.drew ?_ | refine Kept.alloc ?_ _ | refine Kept.trans ?_ (by assumption))
        clear hK K hHeld2
        try simp only [Act.put, List.getElem_toArray, List.getElem_cons_zero, List.getElem_cons_succ, List.setIfInBounds_toArray, List.set_cons_zero, List.set_cons_succ]
        refine wpAnyH_take (i := 6) (v := ?v12) rfl (by kernel_rfl) (by kernel_rfl) (by kernel_rfl) (fun _ _ _ h => h) (Or.inl ⟨by rfl, ?hy12⟩) (by assumption) ?rest12
        case hy12 =>
          intro w hSw; (try dsimp only at hSw); go_simp
          all_goals with_reducible rfl
        try simp only [Act.put, List.getElem_toArray, List.getElem_cons_zero, List.getElem_cons_succ, List.setIfInBounds_toArray, List.set_cons_zero, List.set_cons_succ]
        refine wpAnyH_ready (rs := [11]) (by kernel_rfl) (by simp) ?_
        refine AllReadyH.cons rfl (fun K hK => ?_) ?_
        · go_simp
          go_at_call 91
          refine (four_c _ _ (by omega) (by omega)).mono ?_
          rintro e w'2 ⟨rfl, hk2⟩
          go_wp2_with fail
          refine hK.out _ _ ?_ (fun hHeld4 => ?_)
          · refine HS.out _ ?_; repeat (first | exact Kept.refl _ _ | assumption | refine Kept.drew ?_ | refine Kept.alloc ?_ _ | refine Kept.trans ?_ (by assumption))
          clear hK K hHeld3
          try simp only [Act.put, List.getElem_toArray, List.getElem_cons_zero, List.getElem_cons_succ, List.setIfInBounds_toArray, List.set_cons_zero, List.set_cons_succ]
          refine wpAnyH_take (i := 12) (v := ?v13) rfl (by kernel_rfl) (by kernel_rfl) (by kernel_rfl) (fun _ _ _ h => h) (Or.inl ⟨by rfl, ?hy13⟩) (by assumption) ?rest13
          case hy13 =>
            intro w hSw; (try dsimp only at hSw); go_simp
            all_goals with_reducible rfl
          try simp only [Act.put, List.getElem_toArray, List.getElem_cons_zero, List.getElem_cons_succ, List.setIfInBounds_toArray, List.set_cons_zero, List.set_cons_succ]
          refine wpAnyH_ready (rs := [15]) (by kernel_rfl) (by simp) ?_
          refine AllReadyH.cons rfl (fun K hK => ?_) ?_
          · go_simp
            go_at_call 91
            refine (four_c _ _ (by omega) (by omega)).mono ?_
            rintro e w'3 ⟨rfl, hk3⟩
            go_wp2_with fail
            refine hK.out _ _ ?_ (fun hHeld5 => ?_)
            · refine HS.out _ ?_; repeat (first | exact Kept.refl _ _ | assumption | refine Kept.drew ?_ | refine Kept.alloc ?_ _ | refine Kept.trans ?_ (by assumption))
            clear hK K hHeld4
            try simp only [Act.put, List.getElem_toArray, List.getElem_cons_zero, List.getElem_cons_succ, List.setIfInBounds_toArray, List.set_cons_zero, List.set_cons_succ]
            refine wpAnyH_take (i := 16) (v := ?v14) rfl (by kernel_rfl) (by kernel_rfl) (by kernel_rfl) (fun _ _ _ h => h) (Or.inl ⟨by rfl, ?hy14⟩) (by assumption) ?rest14
            case hy14 =>
              intro w hSw; (try dsimp only at hSw); go_simp
              all_goals with_reducible rfl
            try simp only [Act.put, List.getElem_toArray, List.getElem_cons_zero, List.getElem_cons_succ, List.setIfInBounds_toArray, List.set_cons_zero, List.set_cons_succ]
            refine wpAnyH_ready (rs := [19]) (by kernel_rfl) (by simp) ?_
            refine AllReadyH.cons rfl (fun K hK => ?_) ?_
            · have hbig : ¬ (9223372036854775807 < 13 + p.length) := by omega
              go_simp
              clear hbig
              refine hK.out _ _ ?_ (fun hHeld6 => ?_)
              · refine HS.out _ ?_; repeat (first | exact Kept.refl _ _ | assumption | refine Kept.drew ?_ | refine Kept.alloc ?_ _ | refine Kept.trans ?_ (by assumption))
              clear hK K hHeld5
              try simp only [Act.put, List.getElem_toArray, List.getElem_cons_zero, List.getElem_cons_succ, List.setIfInBounds_toArray, List.set_cons_zero, List.set_cons_succ]
              refine wpAnyH_take (i := 20) (v := ?v15) rfl (by kernel_rfl) (by kernel_rfl) (by kernel_rfl) (fun _ _ _ h => h) (Or.inl ⟨by rfl, ?hy15⟩) (by assumption) ?rest15
              case hy15 =>
                intro w hSw; (try dsimp only at hSw); go_simp
                all_goals with_reducible rfl
              try simp only [Act.put, List.getElem_toArray, List.getElem_cons_zero, List.getElem_cons_succ, List.setIfInBounds_toArray, List.set_cons_zero, List.set_cons_succ]
              refine wpAnyH_take (i := 21) (v := ?v16) rfl (by kernel_rfl) (by kernel_rfl) (by kernel_rfl) (fun _ _ _ h => h) (Or.inl ⟨by rfl, ?hy16⟩) (by assumption) ?rest16
              case hy16 =>
                intro w hSw; (try dsimp only at hSw); go_simp
                all_goals with_reducible rfl
              try simp only [Act.put, List.getElem_toArray, List.getElem_cons_zero, List.getElem_cons_succ, List.setIfInBounds_toArray, List.set_cons_zero, List.set_cons_succ]
              refine wpAnyH_done (by kernel_rfl) ?_ _
              refine NoPanic.normal ?_
              go_wp2
              go_ret2
              refine ⟨by rw [HB.out]; rfl, hk1'.trans ?_⟩
              repeat (first | exact Kept.refl _ _ | assumption | refine Kept.drew ?_ | refine Kept.alloc ?_ _ | refine Kept.trans ?_ (by assumption))
            exact AllReadyH.nil
          exact AllReadyH.nil
        exact AllReadyH.nil
      exact AllReadyH.nil
    refine AllReadyH.cons rfl (fun K hK => ?_) ?_
    · go_simp
      go_at_call 91
      refine (four_c _ _ (by omega) (by omega)).mono ?_
      rintro e w'1 ⟨rfl, hk1⟩
      go_wp2_with fail
      refine hK.out _ _ ?_ (fun hHeld2 => ?_)
      · refine HS.out _ ?_; repeat (first | exact Kept.refl _ _ | assumption | refine Kept.drew ?_ | refine Kept.alloc ?_ _ | refine Kept.trans ?_ (by assumption))
      clear hK K hHeld1
      try simp only [Act.put, List.getElem_toArray, List.getElem_cons_zero, List.getElem_cons_succ, List.setIfInBounds_toArray, List.set_cons_zero, List.set_cons_succ]
      refine wpAnyH_ready (rs := [1, 11]) (by kernel_rfl) (by simp) ?_
      refine AllReadyH.cons rfl (fun K hK => ?_) ?_
      · have hx := cell66a hk1
        go_simp
        clear hx
        refine hK.out _ _ ?_ (fun hHeld3 => ?_)
        · refine HS.out _ ?_; repeat (first | exact Kept.refl _ _ | assumption | refine Kept.drew ?_ | refine Kept.alloc ?_ _ | refine Kept.trans ?_ (by assumption))
        clear hK K hHeld2
        try simp only [Act.put, List.getElem_toArray, List.getElem_cons_zero, List.getElem_cons_succ, List.setIfInBounds_toArray, List.set_cons_zero, List.set_cons_succ]
        refine wpAnyH_take (i := 6) (v := ?v17) rfl (by kernel_rfl) (by kernel_rfl) (by kernel_rfl) (fun _ _ _ h => h) (Or.inl ⟨by rfl, ?hy17⟩) (by assumption) ?rest17
        case hy17 =>
          intro w hSw; (try dsimp only at hSw); go_simp
          all_goals with_reducible rfl
        try simp only [Act.put, List.getElem_toArray, List.getElem_cons_zero, List.getElem_cons_succ, List.setIfInBounds_toArray, List.set_cons_zero, List.set_cons_succ]
        refine wpAnyH_ready (rs := [11]) (by kernel_rfl) (by simp) ?_
        refine AllReadyH.cons rfl (fun K hK => ?_) ?_
        · go_simp
          go_at_call 91
          refine (four_c _ _ (by omega) (by omega)).mono ?_
          rintro e w'2 ⟨rfl, hk2⟩
          go_wp2_with fail
          refine hK.out _ _ ?_ (fun hHeld4 => ?_)
          · refine HS.out _ ?_; repeat (first | exact Kept.refl _ _ | assumption | refine Kept.drew ?_ | refine Kept.alloc ?_ _ | refine Kept.trans ?_ (by assumption))
          clear hK K hHeld3
          try simp only [Act.put, List.getElem_toArray, List.getElem_cons_zero, List.getElem_cons_succ, List.setIfInBounds_toArray, List.set_cons_zero, List.set_cons_succ]
          refine wpAnyH_take (i := 12) (v := ?v18) rfl (by kernel_rfl) (by kernel_rfl) (by kernel_rfl) (fun _ _ _ h => h) (Or.inl ⟨by rfl, ?hy18⟩) (by assumption) ?rest18
          case hy18 =>
            intro w hSw; (try dsimp only at hSw); go_simp
            all_goals with_reducible rfl
          try simp only [Act.put, List.getElem_toArray, List.getElem_cons_zero, List.getElem_cons_succ, List.setIfInBounds_toArray, List.set_cons_zero, List.set_cons_succ]
          refine wpAnyH_ready (rs := [15]) (by kernel_rfl) (by simp) ?_
          refine AllReadyH.cons rfl (fun K hK => ?_) ?_
          · go_simp
            go_at_call 91
            refine (four_c _ _ (by omega) (by omega)).mono ?_
            rintro e w'3 ⟨rfl, hk3⟩
            go_wp2_with fail
            refine hK.out _ _ ?_ (fun hHeld5 => ?_)
            · refine HS.out _ ?_; repeat (first | exact Kept.refl _ _ | assumption | refine Kept.drew ?_ | refine Kept.alloc ?_ _ | refine Kept.trans ?_ (by assumption))
            clear hK K hHeld4
            try simp only [Act.put, List.getElem_toArray, List.getElem_cons_zero, List.getElem_cons_succ, List.setIfInBounds_toArray, List.set_cons_zero, List.set_cons_succ]
            refine wpAnyH_take (i := 16) (v := ?v19) rfl (by kernel_rfl) (by kernel_rfl) (by kernel_rfl) (fun _ _ _ h => h) (Or.inl ⟨by rfl, ?hy19⟩) (by assumption) ?rest19
            case hy19 =>
              intro w hSw; (try dsimp only at hSw); go_simp
              all_goals with_reducible rfl
            try simp only [Act.put, List.getElem_toArray, List.getElem_cons_zero, List.getElem_cons_succ, List.setIfInBounds_toArray, List.set_cons_zero, List.set_cons_succ]
            refine wpAnyH_ready (rs := [19]) (by kernel_rfl) (by simp) ?_
            refine AllReadyH.cons rfl (fun K hK => ?_) ?_
            · have hbig : ¬ (9223372036854775807 < 13 + p.length) := by omega
              go_simp
              clear hbig
              refine hK.out _ _ ?_ (fun hHeld6 => ?_)
              · refine HS.out _ ?_; repeat (first | exact Kept.refl _ _ | assumption | refine Kept.drew ?_ | refine Kept.alloc ?_ _ | refine Kept.trans ?_ (by assumption))
              clear hK K hHeld5
              try simp only [Act.put, List.getElem_toArray, List.getElem_cons_zero, List.getElem_cons_succ, List.setIfInBounds_toArray, List.set_cons_zero, List.set_cons_succ]
              refine wpAnyH_take (i := 20) (v := ?v20) rfl (by kernel_rfl) (by kernel_rfl) (by kernel_rfl) (fun _ _ _ h => h) (Or.inl ⟨by rfl, ?hy20⟩) (by assumption) ?rest20
              case hy20 =>
                intro w hSw; (try dsimp only at hSw); go_simp
                all_goals with_reducible rfl
              try simp only [Act.put, List.getElem_toArray, List.getElem_cons_zero, List.getElem_cons_succ, List.setIfInBounds_toArray, List.set_cons_zero, List.set_cons_succ]
              refine wpAnyH_take (i := 21) (v := ?v21) rfl (by kernel_rfl) (by kernel_rfl) (by kernel_rfl) (fun _ _ _ h => h) (Or.inl ⟨by rfl, ?hy21⟩) (by assumption) ?rest21
              case hy21 =>
                intro w hSw; (try dsimp only at hSw); go_simp
                all_goals with_reducible rfl
              try simp only [Act.put, List.getElem_toArray, List.getElem_cons_zero, List.getElem_cons_succ, List.setIfInBounds_toArray, List.set_cons_zero, List.set_cons_succ]
              refine wpAnyH_done (by kernel_rfl) ?_ _
              refine NoPanic.normal ?_
              go_wp2
              go_ret2
              refine ⟨by rw [HB.out]; rfl, hk1'.trans ?_⟩
              repeat (first | exact Kept.refl _ _ | assumption | refine Kept.drew ?_ | refine Kept.alloc ?_ _ | refine Kept.trans ?_ (by assumption))
            exact AllReadyH.nil
          exact AllReadyH.nil
        exact AllReadyH.nil
      refine AllReadyH.cons rfl (fun K hK => ?_) ?_
      · go_simp
        go_at_call 91
        refine (four_c _ _ (by omega) (by omega)).mono ?_
        rintro e w'2 ⟨rfl, hk2⟩
        go_wp2_with fail
        refine hK.out _ _ ?_ (fun hHeld3 => ?_)
        · refine HS.out _ ?_; repeat (first | exact Kept.refl _ _ | assumption | refine Kept.drew ?_ | refine Kept.alloc ?_ _ | refine Kept.trans ?_ (by assumption))
        clear hK K hHeld2
        try simp only [Act.put, List.getElem_toArray, List.getElem_cons_zero, List.getElem_cons_succ, List.setIfInBounds_toArray, List.set_cons_zero, List.set_cons_succ]
        refine wpAnyH_ready (rs := [1, 15]) (by kernel_rfl) (by simp) ?_
        refine AllReadyH.cons rfl (fun K hK => ?_) ?_
        · have hx := cell66b hk2 (cell66a hk1)
          go_simp
          clear hx
          refine hK.out _ _ ?_ (fun hHeld4 => ?_)
          · refine HS.out _ ?_; repeat (first | exact Kept.refl _ _ | assumption | refine Kept.drew ?_ | refine Kept.alloc ?_ _ | refine Kept.trans ?_ (by assumption))
          clear hK K hHeld3
          try simp only [Act.put, List.getElem_toArray, List.getElem_cons_zero, List.getElem_cons_succ, List.setIfInBounds_toArray, List.set_cons_zero, List.set_cons_succ]
          refine wpAnyH_take (i := 6) (v := ?v22) rfl (by kernel_rfl) (by kernel_rfl) (by kernel_rfl) (fun _ _ _ h => h) (Or.inl ⟨by rfl, ?hy22⟩) (by assumption) ?rest22
          case hy22 =>
            intro w hSw; (try dsimp only at hSw); go_simp
            all_goals with_reducible rfl
          try simp only [Act.put, List.getElem_toArray, List.getElem_cons_zero, List.getElem_cons_succ, List.setIfInBounds_toArray, List.set_cons_zero, List.set_cons_succ]
          refine wpAnyH_take (i := 12) (v := ?v23) rfl (by kernel_rfl) (by kernel_rfl) (by kernel_rfl) (fun _ _ _ h => h) (Or.inl ⟨by rfl, ?hy23⟩) (by assumption) ?rest23
          case hy23 =>
            intro w hSw; (try dsimp only at hSw); go_simp
            all_goals with_reducible rfl
          try simp only [Act.put, List.getElem_toArray, List.getElem_cons_zero, List.getElem_cons_succ, List.setIfInBounds_toArray, List.set_cons_zero, List.set_cons_succ]
          refine wpAnyH_ready (rs := [15]) (by kernel_rfl) (by simp) ?_
          refine AllReadyH.cons rfl (fun K hK => ?_) ?_
          · go_simp
            go_at_call 91
            refine (four_c _ _ (by omega) (by omega)).mono ?_
            rintro e w'3 ⟨rfl, hk3⟩
            go_wp2_with fail
            refine hK.out _ _ ?_ (fun hHeld5 => ?_)
            · refine HS.out _ ?_; repeat (first | exact Kept.refl _ _ | assumption | refine Kept.drew ?_ | refine Kept.alloc ?_ _ | refine Kept.trans ?_ (by assumption))
            clear hK K hHeld4
            try simp only [Act.put, List.getElem_toArray, List.getElem_cons_zero, List.getElem_cons_succ, List.setIfInBounds_toArray, List.set_cons_zero, List.set_cons_succ]
            refine wpAnyH_take (i := 16) (v := ?v24) rfl (by kernel_rfl) (by kernel_rfl) (by kernel_rfl) (fun _ _ _ h => h) (Or.inl ⟨by rfl, ?hy24⟩) (by assumption) ?rest24
            case hy24 =>
              intro w hSw; (try dsimp only at hSw); go_simp
              all_goals with_reducible rfl
            try simp only [Act.put, List.getElem_toArray, List.getElem_cons_zero, List.getElem_cons_succ, List.setIfInBounds_toArray, List.set_cons_zero, List.set_cons_succ]
            refine wpAnyH_ready (rs := [19]) (by kernel_rfl) (by simp) ?_
            refine AllReadyH.cons rfl (fun K hK => ?_) ?_
            · have hbig : ¬ (9223372036854775807 < 13 + p.length) := by omega
              go_simp
              clear hbig
              refine hK.out _ _ ?_ (fun hHeld6 => ?_)
              · refine HS.out _ ?_; repeat (first | exact Kept.refl _ _ | assumption | refine Kept.drew ?_ | refine Kept.alloc ?_ _ | refine Kept.trans ?_ (by assumption))
              clear hK K hHeld5
              try simp only [Act.put, List.getElem_toArray, List.getElem_cons_zero, List.getElem_cons_succ, List.setIfInBounds_toArray, List.set_cons_zero, List.set_cons_succ]
              refine wpAnyH_take (i := 20) (v := ?v25) rfl (by kernel_rfl) (by kernel_rfl) (by kernel_rfl) (fun _ _ _ h => h) (Or.inl ⟨by rfl, ?hy25⟩) (by assumption) ?rest25
              case hy25 =>
                intro w hSw; (try dsimp only at hSw); go_simp
                all_goals with_reducible rfl
              try simp only [Act.put, List.getElem_toArray, List.getElem_cons_zero, List.getElem_cons_succ, List.setIfInBounds_toArray, List.set_cons_zero, List.set_cons_succ]
              refine wpAnyH_take (i := 21) (v := ?v26) rfl (by kernel_rfl) (by kernel_rfl) (by kernel_rfl) (fun _ _ _ h => h) (Or.inl ⟨by rfl, ?hy26⟩) (by assumption) ?rest26
              case hy26 =>
                intro w hSw; (try dsimp only at hSw); go_simp
                all_goals with_reducible rfl
              try simp only [Act.put, List.getElem_toArray, List.getElem_cons_zero, List.getElem_cons_succ, List.setIfInBounds_toArray, List.set_cons_zero, List.set_cons_succ]
              refine wpAnyH_done (by kernel_rfl) ?_ _
              refine NoPanic.normal ?_
              go_wp2
              go_ret2
              refine ⟨by rw [HB.out]; rfl, hk1'.trans ?_⟩
              repeat (first | exact Kept.refl _ _ | assumption | refine Kept.drew ?_ | refine Kept.alloc ?_ _ | refine Kept.trans ?_ (by assumption))
            exact AllReadyH.nil
          exact AllReadyH.nil
        refine AllReadyH.cons rfl (fun K hK => ?_) ?_
        · go_simp
          go_at_call 91
          refine (four_c _ _ (by omega) (by omega)).mono ?_
          rintro e w'3 ⟨rfl, hk3⟩
          go_wp2_with fail
          refine hK.out _ _ ?_ (fun hHeld4 => ?_)
          · refine HS.out _ ?_; repeat (first | exact Kept.refl _ _ | assumption | refine Kept.drew ?_ | refine Kept.alloc ?_ _ | refine Kept.trans ?_ (by assumption))
          clear hK K hHeld3
          try simp only [Act.put, List.getElem_toArray, List.getElem_cons_zero, List.getElem_cons_succ, List.setIfInBounds_toArray, List.set_cons_zero, List.set_cons_succ]
          refine wpAnyH_ready (rs := [1]) (by kernel_rfl) (by simp) ?_
          refine AllReadyH.cons rfl (fun K hK => ?_) ?_
          · have hx := cell66b hk3 (cell66b hk2 (cell66a hk1))
            go_simp
            clear hx
            refine hK.out _ _ ?_ (fun hHeld5 => ?_)
            · refine HS.out _ ?_; repeat (first | exact Kept.refl _ _ | assumption | refine Kept.drew ?_ | refine Kept.alloc ?_ _ | refine Kept.trans ?_ (by assumption))
            clear hK K hHeld4
            try simp only [Act.put, List.getElem_toArray, List.getElem_cons_zero, List.getElem_cons_succ, List.setIfInBounds_toArray, List.set_cons_zero, List.set_cons_succ]
            refine wpAnyH_take (i := 6) (v := ?v27) rfl (by kernel_rfl) (by kernel_rfl) (by kernel_rfl) (fun _ _ _ h => h) (Or.inl ⟨by rfl, ?hy27⟩) (by assumption) ?rest27
            case hy27 =>
              intro w hSw; (try dsimp only at hSw); go_simp
              all_goals with_reducible rfl
            try simp only [Act.put, List.getElem_toArray, List.getElem_cons_zero, List.getElem_cons_succ, List.setIfInBounds_toArray, List.set_cons_zero, List.set_cons_succ]
            refine wpAnyH_take (i := 12) (v := ?v28) rfl (by kernel_rfl) (by kernel_rfl) (by kernel_rfl) (fun _ _ _ h => h) (Or.inl ⟨by rfl, ?hy28⟩) (by assumption) ?rest28
            case hy28 =>
              intro w hSw; (try dsimp only at hSw); go_simp
              all_goals with_reducible rfl
            try simp only [Act.put, List.getElem_toArray, List.getElem_cons_zero, List.getElem_cons_succ, List.setIfInBounds_toArray, List.set_cons_zero, List.set_cons_succ]
            refine wpAnyH_take (i := 16) (v := ?v29) rfl (by kernel_rfl) (by kernel_rfl) (by kernel_rfl) (fun _ _ _ h => h) (Or.inl ⟨by rfl, ?hy29⟩) (by assumption) ?rest29
            case hy29 =>
              intro w hSw; (try dsimp only at hSw); go_simp
              all_goals with_reducible rfl
            try simp only [Act.put, List.getElem_toArray, List.getElem_cons_zero, List.getElem_cons_succ, List.setIfInBounds_toArray, List.set_cons_zero, List.set_cons_succ]
            refine wpAnyH_ready (rs := [19]) (by kernel_rfl) (by simp) ?_
            refine AllReadyH.cons rfl (fun K hK => ?_) ?_
            · have hbig : ¬ (9223372036854775807 < 13 + p.length) := by omega
              go_simp
              clear hbig
              refine hK.out _ _ ?_ (fun hHeld6 => ?_)
              · refine HS.out _ ?_; repeat (first | exact Kept.refl _ _ | assumption | refine Kept.drew ?_ | refine Kept.alloc ?_ _ | refine Kept.trans ?_ (by assumption))
              clear hK K hHeld5
              try simp only [Act.put, List.getElem_toArray, List.getElem_cons_zero, List.getElem_cons_succ, List.setIfInBounds_toArray, List.set_cons_zero, List.set_cons_succ]
              refine wpAnyH_take (i := 20) (v := ?v30) rfl (by kernel_rfl) (by kernel_rfl) (by kernel_rfl) (fun _ _ _ h => h) (Or.inl ⟨by rfl, ?hy30⟩) (by assumption) ?rest30
              case hy30 =>
                intro w hSw; (try dsimp only at hSw); go_simp
                all_goals with_reducible rfl
              try simp only [Act.put, List.getElem_toArray, List.getElem_cons_zero, List.getElem_cons_succ, List.setIfInBounds_toArray, List.set_cons_zero, List.set_cons_succ]
              refine wpAnyH_take (i := 21) (v := ?v31) rfl (by kernel_rfl) (by kernel_rfl) (by kernel_rfl) (fun _ _ _ h => h) (Or.inl ⟨by rfl, ?hy31⟩) (by assumption) ?rest31
              case hy31 =>
                intro w hSw; (try dsimp only at hSw); go_simp
                all_goals with_reducible rfl
              try simp only [Act.put, List.getElem_toArray, List.getElem_cons_zero, List.getElem_cons_succ, List.setIfInBounds_toArray, List.set_cons_zero, List.set_cons_succ]
              refine wpAnyH_done (by kernel_rfl) ?_ _
              refine NoPanic.normal ?_
              go_wp2
              go_ret2
              refine ⟨by rw [HB.out]; rfl, hk1'.trans ?_⟩
              repeat (first | exact Kept.refl _ _ | assumption | refine Kept.drew ?_ | refine Kept.alloc ?_ _ | refine Kept.trans ?_ (by assumption))
            exact AllReadyH.nil
          exact AllReadyH.nil
        exact AllReadyH.nil
      exact AllReadyH.nil
    exact AllReadyH.nil
  refine AllReadyH.cons rfl (fun K hK => ?_) ?_
  · go_simp
    go_at_call 91
    refine (four_c _ _ (by omega) (by omega)).mono ?_
    rintro e w'1 ⟨rfl, hk1⟩
    go_wp2_with fail
    refine hK.out _ _ ?_ (fun hHeld1 => ?_)
    · refine HS.out _ ?_; repeat (first | exact Kept.refl _ _ | assumption | refine Kept.drew ?_ | refine Kept.alloc ?_ _ | refine Kept.trans ?_ (by assumption))
    clear hK K hHeld0
    try simp only [Act.put, List.getElem_toArray, List.getElem_cons_zero, List.getElem_cons_succ, List.setIfInBounds_toArray, List.set_cons_zero, List.set_cons_succ]
    refine wpAnyH_ready (rs := [0, 11]) (by kernel_rfl) (by simp) ?_
    refine AllReadyH.cons rfl (fun K hK => ?_) ?_
    · go_simp
      refine hK.out _ _ ?_ (fun hHeld2 => ?_)
      · refine HS.out _ ?_; repeat (first | exact Kept.refl _ _ | assumption | refine Kept.drew ?_ | refine Kept.alloc ?_ _ | refine Kept.trans ?_ (by assumption))
      clear hK K hHeld1
      try simp only [Act.put, List.getElem_toArray, List.getElem_cons_zero, List.getElem_cons_succ, List.setIfInBounds_toArray, List.set_cons_zero, List.set_cons_succ]
      refine wpAnyH_ready (rs := [1, 11]) (by kernel_rfl) (by simp) ?_
      refine AllReadyH.cons rfl (fun K hK => ?_) ?_
      · go_simp
        refine hK.out _ _ ?_ (fun hHeld3 => ?_)
        · refine HS.out _ ?_; repeat (first | exact Kept.refl _ _ | assumption | refine Kept.drew ?_ | refine Kept.alloc ?_ _ | refine Kept.trans ?_ (by assumption))
        clear hK K hHeld2
        try simp only [Act.put, List.getElem_toArray, List.getElem_cons_zero, List.getElem_cons_succ, List.setIfInBounds_toArray, List.set_cons_zero, List.set_cons_succ]
        refine wpAnyH_take (i := 6) (v := ?v32) rfl (by kernel_rfl) (by kernel_rfl) (by kernel_rfl) (fun _ _ _ h => h) (Or.inl ⟨by rfl, ?hy32⟩) (by assumption) ?rest32
        case hy32 =>
          intro w hSw; (try dsimp only at hSw); go_simp
          all_goals with_reducible rfl
        try simp only [Act.put, List.getElem_toArray, List.getElem_cons_zero, List.getElem_cons_succ, List.setIfInBounds_toArray, List.set_cons_zero, List.set_cons_succ]
        refine wpAnyH_ready (rs := [11]) (by kernel_rfl) (by simp) ?_
        refine AllReadyH.cons rfl (fun K hK => ?_) ?_
        · go_simp
          go_at_call 91
          refine (four_c _ _ (by omega) (by omega)).mono ?_
          rintro e w'2 ⟨rfl, hk2⟩
          go_wp2_with fail
          refine hK.out _ _ ?_ (fun hHeld4 => ?_)
          · refine HS.out _ ?_; repeat (first | exact Kept.refl _ _ | assumption | refine Kept.drew ?_ | refine Kept.alloc ?_ _ | refine Kept.trans ?_ (by assumption))
          clear hK K hHeld3
          try simp only [Act.put, List.getElem_toArray, List.getElem_cons_zero, List.getElem_cons_succ, List.setIfInBounds_toArray, List.set_cons_zero, List.set_cons_succ]
          refine wpAnyH_take (i := 12) (v := ?v33) rfl (by kernel_rfl) (by kernel_rfl) (by kernel_rfl) (fun _ _ _ h => h) (Or.inl ⟨by rfl, ?hy33⟩) (by assumption) ?rest33
          case hy33 =>
            intro w hSw; (try dsimp only at hSw); go_simp
            all_goals with_reducible rfl
          try simp only [Act.put, List.getElem_toArray, List.getElem_cons_zero, List.getElem_cons_succ, List.setIfInBounds_toArray, List.set_cons_zero, List.set_cons_succ]
          refine wpAnyH_ready (rs := [15]) (by kernel_rfl) (by simp) ?_
          refine AllReadyH.cons rfl (fun K hK => ?_) ?_
          · go_simp
            go_at_call 91
            refine (four_c _ _ (by omega) (by omega)).mono ?_
            rintro e w'3 ⟨rfl, hk3⟩
            go_wp2_with fail
            refine hK.out _ _ ?_ (fun hHeld5 => ?_)
            · refine HS.out _ ?_; repeat (first | exact Kept.refl _ _ | assumption | refine Kept.drew ?_ | refine Kept.alloc ?_ _ | refine Kept.trans ?_ (by assumption))
            clear hK K hHeld4
            try simp only [Act.put, List.getElem_toArray, List.getElem_cons_zero, List.getElem_cons_succ, List.setIfInBounds_toArray, List.set_cons_zero, List.set_cons_succ]
            refine wpAnyH_take (i := 16) (v := ?v34) rfl (by kernel_rfl) (by kernel_rfl) (by kernel_rfl) (fun _ _ _ h => h) (Or.inl ⟨by rfl, ?hy34⟩) (by assumption) ?rest34
            case hy34 =>
              intro w hSw; (try dsimp only at hSw); go_simp
              all_goals with_reducible rfl
            try simp only [Act.put, List.getElem_toArray, List.getElem_cons_zero, List.getElem_cons_succ, List.setIfInBounds_toArray, List.set_cons_zero, List.set_cons_succ]
            refine wpAnyH_ready (rs := [19]) (by kernel_rfl) (by simp) ?_
            refine AllReadyH.cons rfl (fun K hK => ?_) ?_
            · have hbig : ¬ (9223372036854775807 < 13 + p.length) := by omega
              go_simp
              clear hbig
              refine hK.out _ _ ?_ (fun hHeld6 => ?_)
              · refine HS.out _ ?_; repeat (first | exact Kept.refl _ _ | assumption | refine Kept.drew ?_ | refine Kept.alloc ?_ _ | refine Kept.trans ?_ (by assumption))
              clear hK K hHeld5
              try simp only [Act.put, List.getElem_toArray, List.getElem_cons_zero, List.getElem_cons_succ, List.setIfInBounds_toArray, List.set_cons_zero, List.set_cons_succ]
              refine wpAnyH_take (i := 20) (v := ?v35) rfl (by kernel_rfl) (by kernel_rfl) (by kernel_rfl) (fun _ _ _ h => h) (Or.inl ⟨by rfl, ?hy35⟩) (by assumption) ?rest35
              case hy35 =>
                intro w hSw; (try dsimp only at hSw); go_simp
                all_goals with_reducible rfl
              try simp only [Act.put, List.getElem_toArray, List.getElem_cons_zero, List.getElem_cons_succ, List.setIfInBounds_toArray, List.set_cons_zero, List.set_cons_succ]
              refine wpAnyH_take (i := 21) (v := ?v36) rfl (by kernel_rfl) (by kernel_rfl) (by kernel_rfl) (fun _ _ _ h => h) (Or.inl ⟨by rfl, ?hy36⟩) (by assumption) ?rest36
              case hy36 =>
                intro w hSw; (try dsimp only at hSw); go_simp
                all_goals with_reducible rfl
              try simp only [Act.put, List.getElem_toArray, List.getElem_cons_zero, List.getElem_cons_succ, List.setIfInBounds_toArray, List.set_cons_zero, List.set_cons_succ]
              refine wpAnyH_done (by kernel_rfl) ?_ _
              refine NoPanic.normal ?_
              go_wp2
              go_ret2
              refine ⟨by rw [HB.out]; rfl, hk1'.trans ?_⟩
              repeat (first | exact Kept.refl _ _ | assumption | refine Kept.drew ?_ | refine Kept.alloc ?_ _ | refine Kept.trans ?_ (by assumption))
            exact AllReadyH.nil
          exact AllReadyH.nil
        exact AllReadyH.nil
      refine AllReadyH.cons rfl (fun K hK => ?_) ?_
      · go_simp
        go_at_call 91
        refine (four_c _ _ (by omega) (by omega)).mono ?_
        rintro e w'2 ⟨rfl, hk2⟩
        go_wp2_with fail
        refine hK.out _ _ ?_ (fun hHeld3 => ?_)
        · refine HS.out _ ?_; repeat (first | exact Kept.refl _ _ | assumption | refine Kept.drew ?_ | refine Kept.alloc ?_ _ | refine Kept.trans ?_ (by assumption))
        clear hK K hHeld2
        try simp only [Act.put, List.getElem_toArray, List.getElem_cons_zero, List.getElem_cons_succ, List.setIfInBounds_toArray, List.set_cons_zero, List.set_cons_succ]
        refine wpAnyH_ready (rs := [1, 15]) (by kernel_rfl) (by simp) ?_
        refine AllReadyH.cons rfl (fun K hK => ?_) ?_
        · have hx := cell66c hk2
          go_simp
          clear hx
          refine hK.out _ _ ?_ (fun hHeld4 => ?_)
          · refine HS.out _ ?_; repeat (first | exact Kept.refl _ _ | assumption | refine Kept.drew ?_ | refine Kept.alloc ?_ _ | refine Kept.trans ?_ (by assumption))
          clear hK K hHeld3
          try simp only [Act.put, List.getElem_toArray, List.getElem_cons_zero, List.getElem_cons_succ, List.setIfInBounds_toArray, List.set_cons_zero, List.set_cons_succ]
          refine wpAnyH_take (i := 6) (v := ?v37) rfl (by kernel_rfl) (by kernel_rfl) (by kernel_rfl) (fun _ _ _ h => h) (Or.inl ⟨by rfl, ?hy37⟩) (by assumption) ?rest37
          case hy37 =>
            intro w hSw; (try dsimp only at hSw); go_simp
            all_goals with_reducible rfl
          try simp only [Act.put, List.getElem_toArray, List.getElem_cons_zero, List.getElem_cons_succ, List.setIfInBounds_toArray, List.set_cons_zero, List.set_cons_succ]
          refine wpAnyH_take (i := 12) (v := ?v38) rfl (by kernel_rfl) (by kernel_rfl) (by kernel_rfl) (fun _ _ _ h => h) (Or.inl ⟨by rfl, ?hy38⟩) (by assumption) ?rest38
          case hy38 =>
            intro w hSw; (try dsimp only at hSw); go_simp
            all_goals with_reducible rfl
          try simp only [Act.put, List.getElem_toArray, List.getElem_cons_zero, List.getElem_cons_succ, List.setIfInBounds_toArray, List.set_cons_zero, List.set_cons_succ]
          refine wpAnyH_ready (rs := [15]) (by kernel_rfl) (by simp) ?_
          refine AllReadyH.cons rfl (fun K hK => ?_) ?_
          · go_simp
            go_at_call 91
            refine (four_c _ _ (by omega) (by omega)).mono ?_
            rintro e w'3 ⟨rfl, hk3⟩
            go_wp2_with fail
            refine hK.out _ _ ?_ (fun hHeld5 => ?_)
            · refine HS.out _ ?_; repeat (first | exact Kept.refl _ _ | assumption | refine Kept.drew ?_ | refine Kept.alloc ?_ _ | refine Kept.trans ?_ (by assumption))
            clear hK K hHeld4
            try simp only [Act.put, List.getElem_toArray, List.getElem_cons_zero, List.getElem_cons_succ, List.setIfInBounds_toArray, List.set_cons_zero, List.set_cons_succ]
            refine wpAnyH_take (i := 16) (v := ?v39) rfl (by kernel_rfl) (by kernel_rfl) (by kernel_rfl) (fun _ _ _ h => h) (Or.inl ⟨by rfl, ?hy39⟩) (by assumption) ?rest39
            case hy39 =>
              intro w hSw; (try dsimp only at hSw); go_simp
              all_goals with_reducible rfl
            try simp only [Act.put, List.getElem_toArray, List.getElem_cons_zero, List.getElem_cons_succ, List.setIfInBounds_toArray, List.set_cons_zero, List.set_cons_succ]
            refine wpAnyH_ready (rs := [19]) (by kernel_rfl) (by simp) ?_
            refine AllReadyH.cons rfl (fun K hK => ?_) ?_
            · have hbig : ¬ (9223372036854775807 < 13 + p.length) := by omega
              go_simp
              clear hbig
              refine hK.out _ _ ?_ (fun hHeld6 => ?_)
              · refine HS.out _ ?_; repeat (first | exact Kept.refl _ _ | assumption | refine Kept.drew ?_ | refine Kept.alloc ?_ _ | refine Kept.trans ?_ (by assumption))
              clear hK K hHeld5
              try simp only [Act.put, List.getElem_toArray, List.getElem_cons_zero, List.getElem_cons_succ, List.setIfInBounds_toArray, List.set_cons_zero, List.set_cons_succ]
              refine wpAnyH_take (i := 20) (v := ?v40) rfl (by kernel_rfl) (by kernel_rfl) (by kernel_rfl) (fun _ _ _ h => h) (Or.inl ⟨by rfl, ?hy40⟩) (by assumption) ?rest40
              case hy40 =>
                intro w hSw; (try dsimp only at hSw); go_simp
                all_goals with_reducible rfl
              try simp only [Act.put, List.getElem_toArray, List.getElem_cons_zero, List.getElem_cons_succ, List.setIfInBounds_toArray, List.set_cons_zero, List.set_cons_succ]
              refine wpAnyH_take (i := 21) (v := ?v41) rfl (by kernel_rfl) (by kernel_rfl) (by kernel_rfl) (fun _ _ _ h => h) (Or.inl ⟨by rfl, ?hy41⟩) (by assumption) ?rest41
              case hy41 =>
                intro w hSw; (try dsimp only at hSw); go_simp
                all_goals with_reducible rfl
              try simp only [Act.put, List.getElem_toArray, List.getElem_cons_zero, List.getElem_cons_succ, List.setIfInBounds_toArray, List.set_cons_zero, List.set_cons_succ]
              refine wpAnyH_done (by kernel_rfl) ?_ _
              refine NoPanic.normal ?_
              go_wp2
              go_ret2
              refine ⟨by rw [HB.out]; rfl, hk1'.trans ?_⟩
              repeat (first | exact Kept.refl _ _ | assumption | refine Kept.drew ?_ | refine Kept.alloc ?_ _ | refine Kept.trans ?_ (by assumption))
            exact AllReadyH.nil
          exact AllReadyH.nil
        refine AllReadyH.cons rfl (fun K hK => ?_) ?_
        · go_simp
          go_at_call 91
          refine (four_c _ _ (by omega) (by omega)).mono ?_
          rintro e w'3 ⟨rfl, hk3⟩
          go_wp2_with fail
          refine hK.out _ _ ?_ (fun hHeld4 => ?_)
          · refine HS.out _ ?_; repeat (first | exact Kept.refl _ _ | assumption | refine Kept.drew ?_ | refine Kept.alloc ?_ _ | refine Kept.trans ?_ (by assumption))
          clear hK K hHeld3
          try simp only [Act.put, List.getElem_toArray, List.getElem_cons_zero, List.getElem_cons_succ, List.setIfInBounds_toArray, List.set_cons_zero, List.set_cons_succ]
          refine wpAnyH_ready (rs := [1]) (by kernel_rfl) (by simp) ?_
          refine AllReadyH.cons rfl (fun K hK => ?_) ?_
          · have hx := cell66b hk3 (cell66c hk2)
            go_simp
            clear hx
            refine hK.out _ _ ?_ (fun hHeld5 => ?_)
            · refine HS.out _ ?_; repeat (first | exact Kept.refl _ _ | assumption | refine Kept.drew ?_ | refine Kept.alloc ?_ _ | refine Kept.trans ?_ (by assumption))
            clear hK K hHeld4
            try simp only [Act.put, List.getElem_toArray, List.getElem_cons_zero, List.getElem_cons_succ, List.setIfInBounds_toArray, List.set_cons_zero, List.set_cons_succ]
            refine wpAnyH_take (i := 6) (v := ?v42) rfl (by kernel_rfl) (by kernel_rfl) (by kernel_rfl) (fun _ _ _ h => h) (Or.inl ⟨by rfl, ?hy42⟩) (by assumption) ?rest42
            case hy42 =>
              intro w hSw; (try dsimp only at hSw); go_simp
              all_goals with_reducible rfl
            try simp only [Act.put, List.getElem_toArray, List.getElem_cons_zero, List.getElem_cons_succ, List.setIfInBounds_toArray, List.set_cons_zero, List.set_cons_succ]
            refine wpAnyH_take (i := 12) (v := ?v43) rfl (by kernel_rfl) (by kernel_rfl) (by kernel_rfl) (fun _ _ _ h => h) (Or.inl ⟨by rfl, ?hy43⟩) (by assumption) ?rest43
            case hy43 =>
              intro w hSw; (try dsimp only at hSw); go_simp
              all_goals with_reducible rfl
            try simp only [Act.put, List.getElem_toArray, List.getElem_cons_zero, List.getElem_cons_succ, List.setIfInBounds_toArray, List.set_cons_zero, List.set_cons_succ]
            refine wpAnyH_take (i := 16) (v := ?v44) rfl (by kernel_rfl) (by kernel_rfl) (by kernel_rfl) (fun _ _ _ h => h) (Or.inl ⟨by rfl, ?hy44⟩) (by assumption) ?rest44
            case hy44 =>
              intro w hSw; (try dsimp only at hSw); go_simp
              all_goals with_reducible rfl
            try simp only [Act.put, List.getElem_toArray, List.getElem_cons_zero, List.getElem_cons_succ, List.setIfInBounds_toArray, List.set_cons_zero, List.set_cons_succ]
            refine wpAnyH_ready (rs := [19]) (by kernel_rfl) (by simp) ?_
            refine AllReadyH.cons rfl (fun K hK => ?_) ?_
            · have hbig : ¬ (9223372036854775807 < 13 + p.length) := by omega
              go_simp
              clear hbig
              refine hK.out _ _ ?_ (fun hHeld6 => ?_)
              · refine HS.out _ ?_; repeat (first | exact Kept.refl _ _ | assumption | refine Kept.drew ?_ | refine Kept.alloc ?_ _ | refine Kept.trans ?_ (by assumption))
              clear hK K hHeld5
              try simp only [Act.put, List.getElem_toArray, List.getElem_cons_zero, List.getElem_cons_succ, List.setIfInBounds_toArray, List.set_cons_zero, List.set_cons_succ]
              refine wpAnyH_take (i := 20) (v := ?v45) rfl (by kernel_rfl) (by kernel_rfl) (by kernel_rfl) (fun _ _ _ h => h) (Or.inl ⟨by rfl, ?hy45⟩) (by assumption) ?rest45
              case hy45 =>
                intro w hSw; (try dsimp only at hSw); go_simp
                all_goals with_reducible rfl
              try simp only [Act.put, List.getElem_toArray, List.getElem_cons_zero, List.getElem_cons_succ, List.setIfInBounds_toArray, List.set_cons_zero, List.set_cons_succ]
              refine wpAnyH_take (i := 21) (v := ?v46) rfl (by kernel_rfl) (by kernel_rfl) (by kernel_rfl) (fun _ _ _ h => h) (Or.inl ⟨by rfl, ?hy46⟩) (by assumption) ?rest46
              case hy46 =>
                intro w hSw; (try dsimp only at hSw); go_simp
                all_goals with_reducible rfl
              try simp only [Act.put, List.getElem_toArray, List.getElem_cons_zero, List.getElem_cons_succ, List.setIfInBounds_toArray, List.set_cons_zero, List.set_cons_succ]
              refine wpAnyH_done (by kernel_rfl) ?_ _
              refine NoPanic.normal ?_
              go_wp2
              go_ret2
              refine ⟨by rw [HB.out]; rfl, hk1'.trans ?_⟩
              repeat (first | exact Kept.refl _ _ | assumption | refine Kept.drew ?_ | refine Kept.alloc ?_ _ | refine Kept.trans ?_ (by assumption))
            exact AllReadyH.nil
          exact AllReadyH.nil
        exact AllReadyH.nil
      exact AllReadyH.nil
    refine AllReadyH.cons rfl (fun K hK => ?_) ?_
    · go_simp
      go_at_call 91
      refine (four_c _ _ (by omega) (by omega)).mono ?_
      rintro e w'2 ⟨rfl, hk2⟩
      go_wp2_with fail
      refine hK.out _ _ ?_ (fun hHeld2 => ?_)
      · refine HS.out _ ?_; repeat (first | exact Kept.refl _ _ | assumption | refine Kept.drew ?_ | refine Kept.alloc ?_ _ | refine Kept.trans ?_ (by assumption))
      clear hK K hHeld1
      try simp only [Act.put, List.getElem_toArray, List.getElem_cons_zero, List.getElem_cons_succ, List.setIfInBounds_toArray, List.set_cons_zero, List.set_cons_succ]
      refine wpAnyH_ready (rs := [0, 15]) (by kernel_rfl) (by simp) ?_
      refine AllReadyH.cons rfl (fun K hK => ?_) ?_
      · go_simp
        refine hK.out _ _ ?_ (fun hHeld3 => ?_)
        · refine HS.out _ ?_; repeat (first | exact Kept.refl _ _ | assumption | refine Kept.drew ?_ | refine Kept.alloc ?_ _ | refine Kept.trans ?_ (by assumption))
        clear hK K hHeld2
        try simp only [Act.put, List.getElem_toArray, List.getElem_cons_zero, List.getElem_cons_succ, List.setIfInBounds_toArray, List.set_cons_zero, List.set_cons_succ]
        refine wpAnyH_ready (rs := [1, 15]) (by kernel_rfl) (by simp) ?_
        refine AllReadyH.cons rfl (fun K hK => ?_) ?_
        · go_simp
          refine hK.out _ _ ?_ (fun hHeld4 => ?_)
          · refine HS.out _ ?_; repeat (first | exact Kept.refl _ _ | assumption | refine Kept.drew ?_ | refine Kept.alloc ?_ _ | refine Kept.trans ?_ (by assumption))
          clear hK K hHeld3
          try simp only [Act.put, List.getElem_toArray, List.getElem_cons_zero, List.getElem_cons_succ, List.setIfInBounds_toArray, List.set_cons_zero, List.set_cons_succ]
          refine wpAnyH_take (i := 6) (v := ?v47) rfl (by kernel_rfl) (by kernel_rfl) (by kernel_rfl) (fun _ _ _ h => h) (Or.inl ⟨by rfl, ?hy47⟩) (by assumption) ?rest47
          case hy47 =>
            intro w hSw; (try dsimp only at hSw); go_simp
            all_goals with_reducible rfl
          try simp only [Act.put, List.getElem_toArray, List.getElem_cons_zero, List.getElem_cons_succ, List.setIfInBounds_toArray, List.set_cons_zero, List.set_cons_succ]
          refine wpAnyH_take (i := 12) (v := ?v48) rfl (by kernel_rfl) (by kernel_rfl) (by kernel_rfl) (fun _ _ _ h => h) (Or.inl ⟨by rfl, ?hy48⟩) (by assumption) ?rest48
          case hy48 =>
            intro w hSw; (try dsimp only at hSw); go_simp
            all_goals with_reducible rfl
          try simp only [Act.put, List.getElem_toArray, List.getElem_cons_zero, List.getElem_cons_succ, List.setIfInBounds_toArray, List.set_cons_zero, List.set_cons_succ]
          refine wpAnyH_ready (rs := [15]) (by kernel_rfl) (by simp) ?_
          refine AllReadyH.cons rfl (fun K hK => ?_) ?_
          · go_simp
            go_at_call 91
            refine (four_c _ _ (by omega) (by omega)).mono ?_
            rintro e w'3 ⟨rfl, hk3⟩
            go_wp2_with fail
            refine hK.out _ _ ?_ (fun hHeld5 => ?_)
            · refine HS.out _ ?_; repeat (first | exact Kept.refl _ _ | assumption | refine Kept.drew ?_ | refine Kept.alloc ?_ _ | refine Kept.trans ?_ (by assumption))
            clear hK K hHeld4
            try simp only [Act.put, List.getElem_toArray, List.getElem_cons_zero, List.getElem_cons_succ, List.setIfInBounds_toArray, List.set_cons_zero, List.set_cons_succ]
            refine wpAnyH_take (i := 16) (v := ?v49) rfl (by kernel_rfl) (by kernel_rfl) (by kernel_rfl) (fun _ _ _ h => h) (Or.inl ⟨by rfl, ?hy49⟩) (by assumption) ?rest49
            case hy49 =>
              intro w hSw; (try dsimp only at hSw); go_simp
              all_goals with_reducible rfl
            try simp only [Act.put, List.getElem_toArray, List.getElem_cons_zero, List.getElem_cons_succ, List.setIfInBounds_toArray, List.set_cons_zero, List.set_cons_succ]
            refine wpAnyH_ready (rs := [19]) (by kernel_rfl) (by simp) ?_
            refine AllReadyH.cons rfl (fun K hK => ?_) ?_
            · have hbig : ¬ (9223372036854775807 < 13 + p.length) := by omega
              go_simp
              clear hbig
              refine hK.out _ _ ?_ (fun hHeld6 => ?_)
              · refine HS.out _ ?_; repeat (first | exact Kept.refl _ _ | assumption | refine Kept.drew ?_ | refine Kept.alloc ?_ _ | refine Kept.trans ?_ (by assumption))
              clear hK K hHeld5
              try simp only [Act.put, List.getElem_toArray, List.getElem_cons_zero, List.getElem_cons_succ, List.setIfInBounds_toArray, List.set_cons_zero, List.set_cons_succ]
              refine wpAnyH_take (i := 20) (v := ?v50) rfl (by kernel_rfl) (by kernel_rfl) (by kernel_rfl) (fun _ _ _ h => h) (Or.inl ⟨by rfl, ?hy50⟩) (by assumption) ?rest50
              case hy50 =>
                intro w hSw; (try dsimp only at hSw); go_simp
                all_goals with_reducible rfl
              try simp only [Act.put, List.getElem_toArray, List.getElem_cons_zero, List.getElem_cons_succ, List.setIfInBounds_toArray, List.set_cons_zero, List.set_cons_succ]
              refine wpAnyH_take (i := 21) (v := ?v51) rfl (by kernel_rfl) (by kernel_rfl) (by kernel_rfl) (fun _ _ _ h => h) (Or.inl ⟨by rfl, ?hy51⟩) (by assumption) ?rest51
              case hy51 =>
                intro w hSw; (try dsimp only at hSw); go_simp
                all_goals with_reducible rfl
              try simp only [Act.put, List.getElem_toArray, List.getElem_cons_zero, List.getElem_cons_succ, List.setIfInBounds_toArray, List.set_cons_zero, List.set_cons_succ]
              refine wpAnyH_done (by kernel_rfl) ?_ _
              refine NoPanic.normal ?_
              go_wp2
              go_ret2
              refine ⟨by rw [HB.out]; rfl, hk1'.trans ?_⟩
              repeat (first | exact Kept.refl _ _ | assumption | refine Kept.drew ?_ | refine Kept.alloc ?_ _ | refine Kept.trans ?_ (by assumption))
            exact AllReadyH.nil
          exact AllReadyH.nil
        refine AllReadyH.cons rfl (fun K hK => ?_) ?_
        · go_simp
          go_at_call 91
          refine (four_c _ _ (by omega) (by omega)).mono ?_
          rintro e w'3 ⟨rfl, hk3⟩
          go_wp2_with fail
          refine hK.out _ _ ?_ (fun hHeld4 => ?_)
          · refine HS.out _ ?_; repeat (first | exact Kept.refl _ _ | assumption | refine Kept.drew ?_ | refine Kept.alloc ?_ _ | refine Kept.trans ?_ (by assumption))
          clear hK K hHeld3
          try simp only [Act.put, List.getElem_toArray, List.getElem_cons_zero, List.getElem_cons_succ, List.setIfInBounds_toArray, List.set_cons_zero, List.set_cons_succ]
          refine wpAnyH_ready (rs := [1]) (by kernel_rfl) (by simp) ?_
          refine AllReadyH.cons rfl (fun K hK => ?_) ?_
          · have hx := cell66c hk3
            go_simp
            clear hx
            refine hK.out _ _ ?_ (fun hHeld5 => ?_)
            · refine HS.out _ ?_; repeat (first | exact Kept.refl _ _ | assumption | refine Kept.drew ?_ | refine Kept.alloc ?_ _ | refine Kept.trans ?_ (by assumption))
            clear hK K hHeld4
            try simp only [Act.put, List.getElem_toArray, List.getElem_cons_zero, List.getElem_cons_succ, List.setIfInBounds_toArray, List.set_cons_zero, List.set_cons_succ]
            refine wpAnyH_take (i := 6) (v := ?v52) rfl (by kernel_rfl) (by kernel_rfl) (by kernel_rfl) (fun _ _ _ h => h) (Or.inl ⟨by rfl, ?hy52⟩) (by assumption) ?rest52
            case hy52 =>
              intro w hSw; (try dsimp only at hSw); go_simp
              all_goals with_reducible rfl
            try simp only [Act.put, List.getElem_toArray, List.getElem_cons_zero, List.getElem_cons_succ, List.setIfInBounds_toArray, List.set_cons_zero, List.set_cons_succ]
            refine wpAnyH_take (i := 12) (v := ?v53) rfl (by kernel_rfl) (by kernel_rfl) (by kernel_rfl) (fun _ _ _ h => h) (Or.inl ⟨by rfl, ?hy53⟩) (by assumption) ?rest53
            case hy53 =>
              intro w hSw; (try dsimp only at hSw); go_simp
              all_goals with_reducible rfl
            try simp only [Act.put, List.getElem_toArray, List.getElem_cons_zero, List.getElem_cons_succ, List.setIfInBounds_toArray, List.set_cons_zero, List.set_cons_succ]
            refine wpAnyH_take (i := 16) (v := ?v54) rfl (by kernel_rfl) (by kernel_rfl) (by kernel_rfl) (fun _ _ _ h => h) (Or.inl ⟨by rfl, ?hy54⟩) (by assumption) ?rest54
            case hy54 =>
              intro w hSw; (try dsimp only at hSw); go_simp
              all_goals with_reducible rfl
            try simp only [Act.put, List.getElem_toArray, List.getElem_cons_zero, List.getElem_cons_succ, List.setIfInBounds_toArray, List.set_cons_zero, List.set_cons_succ]
            refine wpAnyH_ready (rs := [19]) (by kernel_rfl) (by simp) ?_
            refine AllReadyH.cons rfl (fun K hK => ?_) ?_
            · have hbig : ¬ (9223372036854775807 < 13 + p.length) := by omega
              go_simp
              clear hbig
              refine hK.out _ _ ?_ (fun hHeld6 => ?_)
              · refine HS.out _ ?_; repeat (first | exact Kept.refl _ _ | assumption | refine Kept.drew ?_ | refine Kept.alloc ?_ _ | refine Kept.trans ?_ (by assumption))
              clear hK K hHeld5
              try simp only [Act.put, List.getElem_toArray, List.getElem_cons_zero, List.getElem_cons_succ, List.setIfInBounds_toArray, List.set_cons_zero, List.set_cons_succ]
              refine wpAnyH_take (i := 20) (v := ?v55) rfl (by kernel_rfl) (by kernel_rfl) (by kernel_rfl) (fun _ _ _ h => h) (Or.inl ⟨by rfl, ?hy55⟩) (by assumption) ?rest55
              case hy55 =>
                intro w hSw; (try dsimp only at hSw); go_simp
                all_goals with_reducible rfl
              try simp only [Act.put, List.getElem_toArray, List.getElem_cons_zero, List.getElem_cons_succ, List.setIfInBounds_toArray, List.set_cons_zero, List.set_cons_succ]
              refine wpAnyH_take (i := 21) (v := ?v56) rfl (by kernel_rfl) (by kernel_rfl) (by kernel_rfl) (fun _ _ _ h => h) (Or.inl ⟨by rfl, ?hy56⟩) (by assumption) ?rest56
              case hy56 =>
                intro w hSw; (try dsimp only at hSw); go_simp
                all_goals with_reducible rfl
              try simp only [Act.put, List.getElem_toArray, List.getElem_cons_zero, List.getElem_cons_succ, List.setIfInBounds_toArray, List.set_cons_zero, List.set_cons_succ]
              refine wpAnyH_done (by kernel_rfl) ?_ _
              refine NoPanic.normal ?_
              go_wp2
              go_ret2
              refine ⟨by rw [HB.out]; rfl, hk1'.trans ?_⟩
              repeat (first | exact Kept.refl _ _ | assumption | refine Kept.drew ?_ | refine Kept.alloc ?_ _ | refine Kept.trans ?_ (by assumption))
            exact AllReadyH.nil
          exact AllReadyH.nil
        exact AllReadyH.nil
      refine AllReadyH.cons rfl (fun K hK => ?_) ?_
      · go_simp
        go_at_call 91
        refine (four_c _ _ (by omega) (by omega)).mono ?_
        rintro e w'3 ⟨rfl, hk3⟩
        go_wp2_with fail
        refine hK.out _ _ ?_ (fun hHeld3 => ?_)
        · refine HS.out _ ?_; repeat (first | exact Kept.refl _ _ | assumption | refine Kept.drew ?_ | refine Kept.alloc ?_ _ | refine Kept.trans ?_ (by assumption))
        clear hK K hHeld2
        try simp only [Act.put, List.getElem_toArray, List.getElem_cons_zero, List.getElem_cons_succ, List.setIfInBounds_toArray, List.set_cons_zero, List.set_cons_succ]
        refine wpAnyH_ready (rs := [0]) (by kernel_rfl) (by simp) ?_
        refine AllReadyH.cons rfl (fun K hK => ?_) ?_
        · go_simp
          refine hK.out _ _ ?_ (fun hHeld4 => ?_)
          · refine HS.out _ ?_; repeat (first | exact Kept.refl _ _ | assumption | refine Kept.drew ?_ | refine Kept.alloc ?_ _ | refine Kept.trans ?_ (by assumption))
          clear hK K hHeld3
          try simp only [Act.put, List.getElem_toArray, List.getElem_cons_zero, List.getElem_cons_succ, List.setIfInBounds_toArray, List.set_cons_zero, List.set_cons_succ]
          refine wpAnyH_ready (rs := [1]) (by kernel_rfl) (by simp) ?_
          refine AllReadyH.cons rfl (fun K hK => ?_) ?_
          · go_simp
            refine hK.out _ _ ?_ (fun hHeld5 => ?_)
            · refine HS.out _ ?_; repeat (first | exact Kept.refl _ _ | assumption | refine Kept.drew ?_ | refine Kept.alloc ?_ _ | refine Kept.trans ?_ (by assumption))
            clear hK K hHeld4
            try simp only [Act.put, List.getElem_toArray, List.getElem_cons_zero, List.getElem_cons_succ, List.setIfInBounds_toArray, List.set_cons_zero, List.set_cons_succ]
            refine wpAnyH_take (i := 6) (v := ?v57) rfl (by kernel_rfl) (by kernel_rfl) (by kernel_rfl) (fun _ _ _ h => h) (Or.inl ⟨by rfl, ?hy57⟩) (by assumption) ?rest57
            case hy57 =>
              intro w hSw; (try dsimp only at hSw); go_simp
              all_goals with_reducible rfl
            try simp only [Act.put, List.getElem_toArray, List.getElem_cons_zero, List.getElem_cons_succ, List.setIfInBounds_toArray, List.set_cons_zero, List.set_cons_succ]
            refine wpAnyH_take (i := 12) (v := ?v58) rfl (by kernel_rfl) (by kernel_rfl) (by kernel_rfl) (fun _ _ _ h => h) (Or.inl ⟨by rfl, ?hy58⟩) (by assumption) ?rest58
            case hy58 =>
              intro w hSw; (try dsimp only at hSw); go_simp
              all_goals with_reducible rfl
            try simp only [Act.put, List.getElem_toArray, List.getElem_cons_zero, List.getElem_cons_succ, List.setIfInBounds_toArray, List.set_cons_zero, List.set_cons_succ]
            refine wpAnyH_take (i := 16) (v := ?v59) rfl (by kernel_rfl) (by kernel_rfl) (by kernel_rfl) (fun _ _ _ h => h) (Or.inl ⟨by rfl, ?hy59⟩) (by assumption) ?rest59
            case hy59 =>
              intro w hSw; (try dsimp only at hSw); go_simp
              all_goals with_reducible rfl
            try simp only [Act.put, List.getElem_toArray, List.getElem_cons_zero, List.getElem_cons_succ, List.setIfInBounds_toArray, List.set_cons_zero, List.set_cons_succ]
            refine wpAnyH_ready (rs := [19]) (by kernel_rfl) (by simp) ?_
            refine AllReadyH.cons rfl (fun K hK => ?_) ?_
            · have hbig : ¬ (9223372036854775807 < 13 + p.length) := by omega
              go_simp
              clear hbig
              refine hK.out _ _ ?_ (fun hHeld6 => ?_)
              · refine HS.out _ ?_; repeat (first | exact Kept.refl _ _ | assumption | refine Kept.drew ?_ | refine Kept.alloc ?_ _ | refine Kept.trans ?_ (by assumption))
              clear hK K hHeld5
              try simp only [Act.put, List.getElem_toArray, List.getElem_cons_zero, List.getElem_cons_succ, List.setIfInBounds_toArray, List.set_cons_zero, List.set_cons_succ]
              refine wpAnyH_take (i := 20) (v := ?v60) rfl (by kernel_rfl) (by kernel_rfl) (by kernel_rfl) (fun _ _ _ h => h) (Or.inl ⟨by rfl, ?hy60⟩) (by assumption) ?rest60
              case hy60 =>
                intro w hSw; (try dsimp only at hSw); go_simp
                all_goals with_reducible rfl
              try simp only [Act.put, List.getElem_toArray, List.getElem_cons_zero, List.getElem_cons_succ, List.setIfInBounds_toArray, List.set_cons_zero, List.set_cons_succ]
              refine wpAnyH_take (i := 21) (v := ?v61) rfl (by kernel_rfl) (by kernel_rfl) (by kernel_rfl) (fun _ _ _ h => h) (Or.inl ⟨by rfl, ?hy61⟩) (by assumption) ?rest61
              case hy61 =>
                intro w hSw; (try dsimp only at hSw); go_simp
                all_goals with_reducible rfl
              try simp only [Act.put, List.getElem_toArray, List.getElem_cons_zero, List.getElem_cons_succ, List.setIfInBounds_toArray, List.set_cons_zero, List.set_cons_succ]
              refine wpAnyH_done (by kernel_rfl) ?_ _
              refine NoPanic.normal ?_
              go_wp2
              go_ret2
              refine ⟨by rw [HB.out]; rfl, hk1'.trans ?_⟩
              repeat (first | exact Kept.refl _ _ | assumption | refine Kept.drew ?_ | refine Kept.alloc ?_ _ | refine Kept.trans ?_ (by assumption))
            exact AllReadyH.nil
          exact AllReadyH.nil
        exact AllReadyH.nil
      exact AllReadyH.nil
    exact AllReadyH.nil
  exact AllReadyH.nil
end Go.Proofs.YthdcfmconpgflaaGreat
