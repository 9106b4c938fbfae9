/- codec.Decode, whatever the codec. -/
import Derived.Test.YthdcfmconpgflaaGreatIface
import Derived.Deep.LoopGhost
import Derived.Lib.Hide
import Derived.Shelf.Abstract
set_option linter.unusedVariables false
set_option linter.unusedSimpArgs false
namespace Go.Proofs.YthdcfmconpgflaaGreat
open Go.RowKit

set_option maxRecDepth 100000 in
set_option maxHeartbeats 8000000 in
theorem decode_c (c : Int) (M : DecI) (s0 : M.St) (hnew : DecNew c M s0) (t : List Int) (w : World) (ht : Byt t) (hok : M.ok s0 t.length) (hen : (M.B s0).en = false) (hlen : t.length ≤ 100000000) :
    Calls Tryz.prog 26 #[.int .i64 c, .string (strOfNums t)] w fun e w' => ∃ v, e = .returned (.tuple #[v, .agg #[.int .i64 (M.total s0 t).2.1, .int .i64 (M.total s0 t).2.2]]) ∧ Row w' w.heap.size 47 .u32 v (M.total s0 t).1 ∧ Kept (fun _ => False) w w' := by
  have mf := M.m_feed; have me := M.m_end; have md := M.m_done; have mx := M.m_fail
  have ef := M.e_feed; have ee := M.e_end
  simp only [look] at mf me md mx
  obtain ⟨i0, hi, hz0, hzs1, hzs2⟩ := info_parts info_u32
  have htl := M.tot_len hok t (Nat.le_refl _)
  obtain ⟨R, hR⟩ : ∃ R, R = M.total s0 t := ⟨_, rfl⟩
  rw [← hR] at htl ⊢
  go_enter Tryz.func26, Tryz.ntmps26
  go_wp2_with (go_at_call 24; refine (hnew _).mono ?_)
  rintro e w1 ⟨g, F, rfl, hI, hF, hk⟩
  obtain ⟨w0, hw0⟩ : ∃ w0, w0 = w.alloc (.cells #[.int .i64 0, .int .i64 0] 34) := ⟨_, rfl⟩
  rw [← hw0] at hF hk
  have HR := Lib.hid hR
  have HW := Lib.hid hw0
  clear hR hw0 hnew
  go_wp2
  go_loopg [1, 8] (t.length + R.1.length) (fun m s1 s8 wr => ∃ (t' : List Int) (s : M.St) (F' : Nat → Prop) (o : List Int), s1 = .string (strOfNums t') ∧ m = t'.length + (M.total s t').1.length ∧ M.Is g F' s wr ∧ M.ok s t'.length ∧ (M.B s).en = false ∧ t'.length ≤ t.length ∧ Byt t' ∧
    Row wr w0.heap.size 47 .u32 s8 o ∧ (∀ k, F' k → w0.heap.size ≤ k) ∧ (∀ k, s8.ownBlock = some k → ¬ F' k) ∧ Kept (fun _ => False) w0 wr ∧ R = (o ++ (M.total s t').1, (M.total s t').2))
  case atStart =>
    refine ⟨t, s0, F, [], rfl, ?_, hI, hok, hen, Nat.le_refl _, ht, Row.nil _ _ _ _, hF, ?_, hk, ?_⟩
    · rw [HR.out]
    · intro k h; cases h
    · simp [HR.out]
  case round =>
    obtain ⟨t', s, F', o, rfl, hm, hI', hok', hen', htt', ht', hrow, hF', hdis, hk', hRR⟩ := hrel
    have hfd := M.feed_c (room := 4096) hI' hok' (Nat.le_refl _) ht' (by decide) (by decide)
    have hfo := M.feed_ok (room := 4096) hok' (Nat.le_refl _) ht'
    have htf := M.tot_feed (room := 4096) hok' (Nat.le_refl _) ht' []
    have hfe := M.feed_en (t := t') (room := 4096) hok'
    have hp1 := M.prog1 (t := t') (room := 4096) hok' (by decide)
    have hp2 := M.prog2 (t := t') (room := 4096) hok' (by decide)
    have hof := M.feed_off (t := t') (room := 4096) hok'
    obtain ⟨r, hr⟩ : ∃ r, r = M.feed s t' 4096 := ⟨_, rfl⟩
    rw [← hr] at hfd hfo htf hfe hp1 hp2 hof
    clear hr
    obtain ⟨n, out, s2⟩ := r
    simp only [List.append_nil] at hfd hfo htf hfe hp1 hp2 hof
    obtain ⟨hnl, hok2, -⟩ := hfo
    have hR1 : R.1 = o ++ (out ++ (M.total s2 (t'.drop n)).1) := by rw [hRR, htf]
    have hR2 : R.2 = (M.total s2 (t'.drop n)).2 := by rw [hRR, htf]
    have hlR := congrArg List.length hR1
    simp only [List.length_append] at hlR
    have hm2 : gk = t'.length + (out.length + (M.total s2 (t'.drop n)).1.length) := by rw [hm, htf, List.length_append]
    obtain ⟨tl, htl2⟩ : ∃ tl, tl = (M.total s2 (t'.drop n)).1.length := ⟨_, rfl⟩
    rw [← htl2] at hlR hm2
    have hsz := strOfNums_size t'
    have hext := S_extract t' n t'.length
    rw [List.take_length] at hext
    have H1 := Lib.hid htf; have H2 := Lib.hid hfe; have H3 := Lib.hid hRR; have H4 := Lib.hid hm; have H6 := Lib.hid hF'; have H8 := Lib.hid hdis; have H10 := Lib.hid hen'; have H11 := Lib.hid ht'
    have H12 := Lib.hid hp1; have H13 := Lib.hid hp2; have H14 := Lib.hid hof; have H15 := Lib.hid hR1; have H16 := Lib.hid hR2; have H17 := Lib.hid htl2
    clear htf hfe hRR hm hF' hdis hen' ht ht' hen hok hI hF hp1 hp2 hof hR1 hR2 htl2
    go_wp2_with (first | (go_at_fn M.fFeed; refine hfd.mono ?_))
    rintro e w2 ⟨F2, v2, rfl, hv2, hI2, hF2, hd2, hk2⟩
    clear hfd
    have hszs := hk2.size
    have hrow2 : Row w2 w0.heap.size 47 .u32 u8 o := hrow.kept hk2 (fun k e h => H8.out k e h)
    have hvr := hv2.rd
    go_wp2_with (at_builtin; refine wpList_appAt _ rfl (.tmp 28) (.tmp 29) 22 rfl w0.heap.size 47 .u32 i0 4 Tryz.underlying22 hi hz0 hzs1 hzs2 u8 o rfl hrow2 v2 out rfl hvr ?r3 ?r4 (Nat.le_trans hk'.size hszs) ?_)
    case r3 => unfold maxLen; omega
    case r4 => omega
    intro v3 w3 hrow3 hg3 hat3
    have hk3 : Kept (fun k => u8.ownBlock = some k) w2 w3 := (Kept.refl _ w2).grown hg3 (fun k e => .inl e)
    have hdis3 : ∀ k, F2 k → ¬ u8.ownBlock = some k := fun k h h' => by
      rcases hF2 k h with x | x
      · exact H8.out k h' x
      · have := (hrow.lt k h').2; omega
    have hI3 : M.Is g F2 s2 w3 := M.kept hI2 hk3 hdis3
    have hdis4 : ∀ k, v3.ownBlock = some k → ¬ F2 k := fun k h h' => by
      rcases hat3 with e | e
      · rw [e] at h; exact hdis3 k h' h
      · rw [e] at h; cases h; have := (M.own hI2).2.1 _ h'; omega
    have hw3 : Kept (fun _ => False) w0 w3 := (hk'.trans' hk2 (fun k hk h => by have := H6.out k h; omega)).trans' hk3 (fun k hk h => by have := (hrow.lt k h).1; omega)
    have hFF2 : ∀ k, F2 k → w0.heap.size ≤ k := fun k h => by
      rcases hF2 k h with x | x
      · exact H6.out k x
      · exact Nat.le_trans hk'.size x
    have hfl := fail_c g (M.B s2) w3 (M.own hI3).2.2.1
    have HA := Lib.hid hF2; have HC := Lib.hid hdis3; have HD := Lib.hid hdis4; have HE := Lib.hid hFF2
    clear hF2 hdis3 hdis4 hFF2 hat3
    by_cases hz : t'.length = n
    · have hzn : t'.drop n = [] := List.drop_eq_nil_of_le (by omega)
      rw [hzn] at hext
      have he1 := S_empty []
      have he2 : (strOfNums []).toList = [] := S_toList []
      have hRz : R = (o ++ out ++ (M.total s2 []).1, (M.total s2 []).2) := by
        have a := H15.out; have b := H16.out
        rw [hzn] at a b
        exact Prod.ext (a.trans (List.append_assoc ..).symm) b
      have HRz := Lib.hid hRz
      clear hRz
      obtain ⟨W, hW⟩ : ∃ W, W = w3 := ⟨_, rfl⟩
      have hIW : M.Is g F2 s2 W := by rw [hW]; exact hI3
      have hrW : Row W w0.heap.size 47 .u32 v3 (o ++ out) := by rw [hW]; exact hrow3
      have hKW : Kept (fun _ => False) w0 W := by rw [hW]; exact hw3
      rw [← hW]
      clear hW
      have hed := M.end_c hIW hok2
      have hs1 := M.stop_ok hok2
      have hs2 := M.stop_off hok2
      have hs3 := M.tot_stop hok2
      go_wp2_with (first | (go_at_fn M.fEnd; refine hed.mono ?_))
      rintro e w5 ⟨F5, rfl, hI5, hF5, hk5⟩
      clear hed
      have hr5 : Row w5 w0.heap.size 47 .u32 v3 (o ++ out) := hrW.kept hk5 (fun k e h => HD.out k e h)
      have hK5 : Kept (fun _ => False) w0 w5 := hKW.trans' hk5 (fun k hk h => by have := HE.out k h; omega)
      have hFF5 : ∀ k, F5 k → w0.heap.size ≤ k := fun k h => by
        rcases hF5 k h with x | x
        · exact HE.out k x
        · exact Nat.le_trans hKW.size x
      have hdis5 : ∀ k, v3.ownBlock = some k → ¬ F5 k := fun k h h' => by
        rcases hF5 k h' with x | x
        · exact HD.out k h x
        · have := (hrW.lt k h).2; omega
      go_wp2
      go_loopg [8] ((M.total (M.stop s2) []).1.length) (fun m s8 wr => ∃ (s : M.St) (F' : Nat → Prop) (o : List Int) (n : Nat), m = (M.total s []).1.length ∧ M.Is g F' s wr ∧ M.ok s n ∧ (M.B s).going = false ∧
        Row wr w0.heap.size 47 .u32 s8 o ∧ (∀ k, F' k → w0.heap.size ≤ k) ∧ (∀ k, s8.ownBlock = some k → ¬ F' k) ∧ Kept (fun _ => False) w0 wr ∧ R = (o ++ (M.total s []).1, (M.total s []).2))
      case atStart => exact ⟨M.stop s2, F5, o ++ out, _, rfl, hI5, hs1, hs2, hr5, hFF5, hdis5, hK5, by rw [← hs3]; exact HRz.out⟩
      case round =>
        obtain ⟨s, F', o, n, hm, hI', hok', hgo', hrow, hF', hdis, hk', hRR⟩ := hrel
        obtain ⟨A8, c8, hc8⟩ := (M.own hI').2.2.2
        have hdn := idone_c g (M.B s) A8 _ c8 wr (M.own hI').2.2.1 hc8
        rw [hgo'] at hdn
        simp only [Bool.not_false, Bool.true_and] at hdn
        have htf := M.tot_feed (room := 4096) (t := []) hok' (Nat.zero_le _) Byt.nil []
        have hoff := M.tot_off hok' hgo'
        cases hp : M.h s with
        | nil =>
          rw [hp] at hdn hoff
          have hRe : R = (o, (M.B s).err, (M.B s).fat) := by rw [hRR, hoff []]; simp
          have HRe := Lib.hid hRe
          clear htf hoff hRR hRe hm hc8
          have hfl := fail_c g (M.B s) wr (M.own hI').2.2.1
          go_wp2_with (first | (go_at_call 287; refine hdn.mono ?_; rintro e w' ⟨rfl, rfl⟩) | (go_at_call 199; refine hfl.mono ?_))
          rintro e w7 ⟨rfl, hk7⟩
          have hK7 : Kept (fun _ => False) w0 w7 := hk'.trans hk7
          have hr7 : Row w7 w0.heap.size 47 .u32 u8 o := hrow.kept hk7 (fun _ _ => id)
          have hbx : w7.heap[w.heap.size]? = some (.cells #[.int .i64 0, .int .i64 0] 34 (0, 0)) := hK7.heap (by rw [HW.out]; exact blk_new w _) id
          have hx0 := blk_cell hbx 0
          have hx1 := blk_cell hbx 1
          have hf0 := blk_free hbx 0
          have hf1 := blk_free hbx 1
          have hs0 : w0.heap.size = w.heap.size + 1 := by rw [HW.out]; simp
          have hKw : Kept (fun _ => False) w w7 := by
            have : Kept (fun _ => False) w w0 := by rw [HW.out]; exact (Kept.refl _ w).alloc _
            exact this.trans hK7
          have hrf : ∀ x y, Row ((w7.setCell ⟨w.heap.size, 0, none⟩ x).setCell ⟨w.heap.size, 1, none⟩ y) w.heap.size 47 .u32 u8 o := fun x y => by
            have := hr7.kept (((Kept.refl (fun k => k = w.heap.size) w7).set1 _ 0 rfl x).set1 _ 1 rfl y) (fun k e h => by have := (hr7.lt k e).1; omega)
            refine ⟨this.1, ?_⟩
            rcases this.2 with h | ⟨b, cap, cur, e, hb, h⟩
            · exact .inl h
            · exact .inr ⟨b, cap, cur, e, by omega, h⟩
          go_wp2
          refine bodyPost_ret (v := .tuple #[u8, .agg #[.int .i64 (M.B s).err, .int .i64 (M.B s).fat]]) (by simp [results, Tryz.results26, go_sem, hx0, hx1]) rfl ⟨u8, by rw [HRe.out], ?_, ?_⟩
          · rw [HRe.out]; exact hrf _ _
          · exact (hKw.setNew _ _ (Nat.le_refl _) _).setNew _ _ (Nat.le_refl _) _
        | cons p1 p2 =>
          rw [hp] at hdn
          have hdn0 : ((p1 :: p2).length == 0) = false := rfl
          rw [hdn0] at hdn
          have hfd := M.feed_c (room := 4096) (t := []) hI' hok' (Nat.zero_le _) Byt.nil (by decide) (by decide)
          have hfo := M.feed_ok (room := 4096) (t := []) hok' (Nat.zero_le _) Byt.nil
          have hp1 := M.prog1 (t := []) (room := 4096) hok' (by decide) (by rw [hp]; simp)
          have hof := M.feed_off (t := []) (room := 4096) hok' hgo'
          have htl0 := congrArg List.length (congrArg Prod.fst hRR)
          obtain ⟨r, hr⟩ : ∃ r, r = M.feed s [] 4096 := ⟨_, rfl⟩
          rw [← hr] at hfd hfo htf hp1 hof
          clear hr
          obtain ⟨n2, out, s3⟩ := r
          simp only [List.append_nil, List.drop_nil] at hfd hfo htf hp1 hof
          obtain ⟨rfl, hof⟩ := hof
          obtain ⟨-, hok3, -⟩ := hfo
          have hgo3 : (M.B s3).going = false := by rw [hof]; exact hgo'
          have hlo := List.length_pos_iff.2 hp1
          rw [htf] at hRR hm htl0
          simp only [List.length_append] at hm htl0
          obtain ⟨tl3, htl3⟩ : ∃ tl, tl = (M.total s3 []).1.length := ⟨_, rfl⟩
          rw [← htl3] at hm htl0
          have HRR := Lib.hid hRR; have HTL := Lib.hid htl3; have HF := Lib.hid hF'; have HDS := Lib.hid hdis
          clear hRR htl3 htf hof hoff hp1 hF' hdis hc8
          have hnil : strOfNums [] = ⟨#[]⟩ := rfl
          rw [hnil] at hfd
          go_wp2_with (first | (go_at_call 287; refine hdn.mono ?_; rintro e w' ⟨rfl, rfl⟩) | (go_at_fn M.fFeed; refine hfd.mono ?_))
          rintro e w6 ⟨F6, v6, rfl, hv6, hI6, hF6, hd6, hk6⟩
          clear hfd
          have hsz6 := hk6.size
          have hr6 : Row w6 w0.heap.size 47 .u32 u8 o := hrow.kept hk6 (fun k e h => HDS.out k e h)
          have hvr6 := hv6.rd
          go_wp2_with (at_builtin; refine wpList_appAt _ rfl (.tmp 52) (.tmp 53) 22 rfl w0.heap.size 47 .u32 i0 4 Tryz.underlying22 hi hz0 hzs1 hzs2 u8 o rfl hr6 v6 out rfl hvr6 ?q3 ?q4 (Nat.le_trans hk'.size hsz6) ?_)
          case q3 => unfold maxLen; omega
          case q4 => omega
          intro v7 w7 hrow7 hg7 hat7
          have hk7 : Kept (fun k => u8.ownBlock = some k) w6 w7 := (Kept.refl _ w6).grown hg7 (fun k e => .inl e)
          have hdis6 : ∀ k, F6 k → ¬ u8.ownBlock = some k := fun k h h' => by
            rcases hF6 k h with x | x
            · exact HDS.out k h' x
            · have := (hrow.lt k h').2; omega
          have hI7 : M.Is g F6 s3 w7 := M.kept hI6 hk7 hdis6
          go_wp2
          go_roundg tl3
          case rel =>
            refine ⟨s3, F6, o ++ out, _, HTL.out, hI7, hok3, hgo3, hrow7, ?_, ?_, (hk'.trans' hk6 (fun k hk h => by have := HF.out k h; omega)).trans' hk7 (fun k hk h => by have := (hrow.lt k h).1; omega), ?_⟩
            · intro k h
              rcases hF6 k h with x | x
              · exact HF.out k x
              · exact Nat.le_trans hk'.size x
            · intro k h h'
              rcases hat7 with e | e
              · rw [e] at h; exact hdis6 k h' h
              · rw [e] at h; cases h; have := (M.own hI6).2.1 _ h'; omega
            · exact HRR.out.trans (by rw [List.append_assoc])
          case measure => omega
    · have hzn : 0 < (t'.drop n).length := by rw [List.length_drop]; omega
      have hz1 : t'.drop n ≠ [] := List.length_pos_iff.1 hzn
      have hz2 : t' ≠ [] := by intro e; subst e; simp at hzn
      have he1 : (strOfNums (t'.drop n)).toList.isEmpty = false := by
        rw [S_empty]; cases h : t'.drop n with
        | nil => exact absurd h hz1
        | cons _ _ => rfl
      have HZ := Lib.hid hz1; have HZ2 := Lib.hid hz2
      clear hz1 hz2
      go_wp2_with (go_at_call 199; refine hfl.mono ?_)
      rintro e w4 ⟨rfl, hk4⟩
      have hI4 : M.Is g F2 s2 w4 := M.kept hI3 hk4 (fun _ _ => id)
      have hr4 : Row w4 w0.heap.size 47 .u32 v3 (o ++ out) := hrow3.kept hk4 (fun _ _ => id)
      have hw4 : Kept (fun _ => False) w0 w4 := hw3.trans hk4
      by_cases herr : (M.B s2).err = 0
      · have herr' : ((M.B s2).err != 0) = false := by simp [herr]
        go_wp2_with fail
        have hgo2 : (M.B s2).going = true := by
          have := H2.out
          simp [DB.going, herr, this, H10.out]
        go_roundg (t'.length - n + tl)
        case rel =>
          exact ⟨t'.drop n, s2, F2, o ++ out, rfl, by rw [List.length_drop, H17.out], hI4, by rw [List.length_drop]; exact hok2, by rw [H2.out, H10.out], by rw [List.length_drop]; omega, H11.out.drop n, hr4, HE.out, HD.out, hw4, Prod.ext (by rw [H15.out, List.append_assoc]) H16.out⟩
        case measure =>
          rw [hm2]
          rcases Classical.em (out = []) with ho | ho
          · have hp : M.h s = [] := Classical.byContradiction fun h => H12.out h ho
            have hg0 : (M.B s).going = true := by
              cases hgs : (M.B s).going
              · have := (H14.out hgs).2
                rw [DB.going, this] at hgo2
                rw [DB.going, hgo2] at hgs; cases hgs
              · rfl
            have := H13.out hg0 hp HZ2.out
            rcases this with h | h
            · omega
            · rw [hgo2] at h; cases h
          · have := List.length_pos_iff.2 ho
            omega
      · have herr' : ((M.B s2).err != 0) = true := by simp [herr]
        have hgo2 : (M.B s2).going = false := by simp [DB.going, herr]
        have hRz : R = (o ++ out ++ (M.total s2 []).1, (M.total s2 []).2) := by
          have e := M.tot_off hok2 hgo2 (t'.drop n)
          have e2 := M.tot_off hok2 hgo2 []
          have a := H15.out; have b := H16.out
          rw [e] at a b; rw [e2]
          exact Prod.ext (a.trans (List.append_assoc ..).symm) b
        have HRz := Lib.hid hRz
        clear hRz
        obtain ⟨W, hW⟩ : ∃ W, W = w4 := ⟨_, rfl⟩
        have hIW : M.Is g F2 s2 W := by rw [hW]; exact hI4
        have hrW : Row W w0.heap.size 47 .u32 v3 (o ++ out) := by rw [hW]; exact hr4
        have hKW : Kept (fun _ => False) w0 W := by rw [hW]; exact hw4
        rw [← hW]
        clear hW
        have hed := M.end_c hIW hok2
        have hs1 := M.stop_ok hok2
        have hs2 := M.stop_off hok2
        have hs3 := M.tot_stop hok2
        go_wp2_with (first | (go_at_fn M.fEnd; refine hed.mono ?_))
        rintro e w5 ⟨F5, rfl, hI5, hF5, hk5⟩
        clear hed
        have hr5 : Row w5 w0.heap.size 47 .u32 v3 (o ++ out) := hrW.kept hk5 (fun k e h => HD.out k e h)
        have hK5 : Kept (fun _ => False) w0 w5 := hKW.trans' hk5 (fun k hk h => by have := HE.out k h; omega)
        have hFF5 : ∀ k, F5 k → w0.heap.size ≤ k := fun k h => by
          rcases hF5 k h with x | x
          · exact HE.out k x
          · exact Nat.le_trans hKW.size x
        have hdis5 : ∀ k, v3.ownBlock = some k → ¬ F5 k := fun k h h' => by
          rcases hF5 k h' with x | x
          · exact HD.out k h x
          · have := (hrW.lt k h).2; omega
        go_wp2
        go_loopg [8] ((M.total (M.stop s2) []).1.length) (fun m s8 wr => ∃ (s : M.St) (F' : Nat → Prop) (o : List Int) (n : Nat), m = (M.total s []).1.length ∧ M.Is g F' s wr ∧ M.ok s n ∧ (M.B s).going = false ∧
          Row wr w0.heap.size 47 .u32 s8 o ∧ (∀ k, F' k → w0.heap.size ≤ k) ∧ (∀ k, s8.ownBlock = some k → ¬ F' k) ∧ Kept (fun _ => False) w0 wr ∧ R = (o ++ (M.total s []).1, (M.total s []).2))
        case atStart => exact ⟨M.stop s2, F5, o ++ out, _, rfl, hI5, hs1, hs2, hr5, hFF5, hdis5, hK5, by rw [← hs3]; exact HRz.out⟩
        case round =>
          obtain ⟨s, F', o, n, hm, hI', hok', hgo', hrow, hF', hdis, hk', hRR⟩ := hrel
          obtain ⟨A8, c8, hc8⟩ := (M.own hI').2.2.2
          have hdn := idone_c g (M.B s) A8 _ c8 wr (M.own hI').2.2.1 hc8
          rw [hgo'] at hdn
          simp only [Bool.not_false, Bool.true_and] at hdn
          have htf := M.tot_feed (room := 4096) (t := []) hok' (Nat.zero_le _) Byt.nil []
          have hoff := M.tot_off hok' hgo'
          cases hp : M.h s with
          | nil =>
            rw [hp] at hdn hoff
            have hRe : R = (o, (M.B s).err, (M.B s).fat) := by rw [hRR, hoff []]; simp
            have HRe := Lib.hid hRe
            clear htf hoff hRR hRe hm hc8
            have hfl := fail_c g (M.B s) wr (M.own hI').2.2.1
            go_wp2_with (first | (go_at_call 287; refine hdn.mono ?_; rintro e w' ⟨rfl, rfl⟩) | (go_at_call 199; refine hfl.mono ?_))
            rintro e w7 ⟨rfl, hk7⟩
            have hK7 : Kept (fun _ => False) w0 w7 := hk'.trans hk7
            have hr7 : Row w7 w0.heap.size 47 .u32 u8 o := hrow.kept hk7 (fun _ _ => id)
            have hbx : w7.heap[w.heap.size]? = some (.cells #[.int .i64 0, .int .i64 0] 34 (0, 0)) := hK7.heap (by rw [HW.out]; exact blk_new w _) id
            have hx0 := blk_cell hbx 0
            have hx1 := blk_cell hbx 1
            have hf0 := blk_free hbx 0
            have hf1 := blk_free hbx 1
            have hs0 : w0.heap.size = w.heap.size + 1 := by rw [HW.out]; simp
            have hKw : Kept (fun _ => False) w w7 := by
              have : Kept (fun _ => False) w w0 := by rw [HW.out]; exact (Kept.refl _ w).alloc _
              exact this.trans hK7
            have hrf : ∀ x y, Row ((w7.setCell ⟨w.heap.size, 0, none⟩ x).setCell ⟨w.heap.size, 1, none⟩ y) w.heap.size 47 .u32 u8 o := fun x y => by
              have := hr7.kept (((Kept.refl (fun k => k = w.heap.size) w7).set1 _ 0 rfl x).set1 _ 1 rfl y) (fun k e h => by have := (hr7.lt k e).1; omega)
              refine ⟨this.1, ?_⟩
              rcases this.2 with h | ⟨b, cap, cur, e, hb, h⟩
              · exact .inl h
              · exact .inr ⟨b, cap, cur, e, by omega, h⟩
            go_wp2
            refine bodyPost_ret (v := .tuple #[u8, .agg #[.int .i64 (M.B s).err, .int .i64 (M.B s).fat]]) (by simp [results, Tryz.results26, go_sem, hx0, hx1]) rfl ⟨u8, by rw [HRe.out], ?_, ?_⟩
            · rw [HRe.out]; exact hrf _ _
            · exact (hKw.setNew _ _ (Nat.le_refl _) _).setNew _ _ (Nat.le_refl _) _
          | cons p1 p2 =>
            rw [hp] at hdn
            have hdn0 : ((p1 :: p2).length == 0) = false := rfl
            rw [hdn0] at hdn
            have hfd := M.feed_c (room := 4096) (t := []) hI' hok' (Nat.zero_le _) Byt.nil (by decide) (by decide)
            have hfo := M.feed_ok (room := 4096) (t := []) hok' (Nat.zero_le _) Byt.nil
            have hp1 := M.prog1 (t := []) (room := 4096) hok' (by decide) (by rw [hp]; simp)
            have hof := M.feed_off (t := []) (room := 4096) hok' hgo'
            have htl0 := congrArg List.length (congrArg Prod.fst hRR)
            obtain ⟨r, hr⟩ : ∃ r, r = M.feed s [] 4096 := ⟨_, rfl⟩
            rw [← hr] at hfd hfo htf hp1 hof
            clear hr
            obtain ⟨n2, out, s3⟩ := r
            simp only [List.append_nil, List.drop_nil] at hfd hfo htf hp1 hof
            obtain ⟨rfl, hof⟩ := hof
            obtain ⟨-, hok3, -⟩ := hfo
            have hgo3 : (M.B s3).going = false := by rw [hof]; exact hgo'
            have hlo := List.length_pos_iff.2 hp1
            rw [htf] at hRR hm htl0
            simp only [List.length_append] at hm htl0
            obtain ⟨tl3, htl3⟩ : ∃ tl, tl = (M.total s3 []).1.length := ⟨_, rfl⟩
            rw [← htl3] at hm htl0
            have HRR := Lib.hid hRR; have HTL := Lib.hid htl3; have HF := Lib.hid hF'; have HDS := Lib.hid hdis
            clear hRR htl3 htf hof hoff hp1 hF' hdis hc8
            have hnil : strOfNums [] = ⟨#[]⟩ := rfl
            rw [hnil] at hfd
            go_wp2_with (first | (go_at_call 287; refine hdn.mono ?_; rintro e w' ⟨rfl, rfl⟩) | (go_at_fn M.fFeed; refine hfd.mono ?_))
            rintro e w6 ⟨F6, v6, rfl, hv6, hI6, hF6, hd6, hk6⟩
            clear hfd
            have hsz6 := hk6.size
            have hr6 : Row w6 w0.heap.size 47 .u32 u8 o := hrow.kept hk6 (fun k e h => HDS.out k e h)
            have hvr6 := hv6.rd
            go_wp2_with (at_builtin; refine wpList_appAt _ rfl (.tmp 52) (.tmp 53) 22 rfl w0.heap.size 47 .u32 i0 4 Tryz.underlying22 hi hz0 hzs1 hzs2 u8 o rfl hr6 v6 out rfl hvr6 ?q3 ?q4 (Nat.le_trans hk'.size hsz6) ?_)
            case q3 => unfold maxLen; omega
            case q4 => omega
            intro v7 w7 hrow7 hg7 hat7
            have hk7 : Kept (fun k => u8.ownBlock = some k) w6 w7 := (Kept.refl _ w6).grown hg7 (fun k e => .inl e)
            have hdis6 : ∀ k, F6 k → ¬ u8.ownBlock = some k := fun k h h' => by
              rcases hF6 k h with x | x
              · exact HDS.out k h' x
              · have := (hrow.lt k h').2; omega
            have hI7 : M.Is g F6 s3 w7 := M.kept hI6 hk7 hdis6
            go_wp2
            go_roundg tl3
            case rel =>
              refine ⟨s3, F6, o ++ out, _, HTL.out, hI7, hok3, hgo3, hrow7, ?_, ?_, (hk'.trans' hk6 (fun k hk h => by have := HF.out k h; omega)).trans' hk7 (fun k hk h => by have := (hrow.lt k h).1; omega), ?_⟩
              · intro k h
                rcases hF6 k h with x | x
                · exact HF.out k x
                · exact Nat.le_trans hk'.size x
              · intro k h h'
                rcases hat7 with e | e
                · rw [e] at h; exact hdis6 k h' h
                · rw [e] at h; cases h; have := (M.own hI6).2.1 _ h'; omega
              · exact HRR.out.trans (by rw [List.append_assoc])
            case measure => omega

end Go.Proofs.YthdcfmconpgflaaGreat
