/- codec.Encode, whatever the codec. -/
import Derived.Test.YthdcfmconpgflaaGreatIface
import Derived.Deep.LoopGhost
import Derived.Lib.Hide
import Derived.Shelf.Abstract
set_option linter.unusedVariables false
set_option linter.unusedSimpArgs false
namespace Go.Proofs.YthdcfmconpgflaaGreat
open Go.RowKit

set_option maxRecDepth 100000 in
set_option maxHeartbeats 4000000 in
theorem encode_c (c : Int) (M : EncI) (s0 : M.St) (hnew : EncNew c M s0) (v : Value) (l : List Int) (w : World) (hl : Rd w .u32 v l) (hn : ∀ c ∈ l, 0 ≤ c) (hok : M.ok s0 l.length) (hen : (M.B s0).en = false) (hlen : l.length ≤ 100000000) :
    Calls Tryz.prog 25 #[.int .i64 c, v] w fun e w' => e = .returned (.tuple #[.string (strOfNums (M.total s0 l).1), .agg #[.int .i64 (M.total s0 l).2.1, .int .i64 (M.total s0 l).2.2]]) ∧ Kept (fun _ => False) w w' := by
  have mf := M.m_feed; have me := M.m_end; have md := M.m_done; have mx := M.m_fail
  have ef := M.e_feed; have ee := M.e_end
  simp only [look] at mf me md mx
  have htl := M.tot_len hok l (Nat.le_refl _)
  obtain ⟨R, hR⟩ : ∃ R, R = M.total s0 l := ⟨_, rfl⟩
  rw [← hR] at htl ⊢
  have hsl := hl.slice
  have hll : v.ownBlock = none ∨ ∃ b, v.ownBlock = some b ∧ (l ≠ [] → b < w.heap.size) := by
    obtain ⟨A, c, rfl, hc, hx⟩ := hl
    cases A with
    | none => exact .inl rfl
    | some a =>
      refine .inr ⟨a.block, rfl, fun hne => ?_⟩
      obtain ⟨b, o, he, hb, _⟩ := hx hne
      cases he; exact hb
  obtain ⟨A, cap, rfl⟩ := hsl
  go_enter Tryz.func25, Tryz.ntmps25
  go_wp2_with (go_at_call 23; refine (hnew _).mono ?_)
  rintro e w1 ⟨g, F, rfl, hI, hF, hk⟩
  obtain ⟨w0, hw0⟩ : ∃ w0, w0 = w.alloc (.cells #[.int .i64 0, .int .i64 0] 34) := ⟨_, rfl⟩
  rw [← hw0] at hF hk
  have HR := Lib.hid hR
  have HW := Lib.hid hw0
  have hl0 : Rd w1 .u32 (.slice A l.length cap) l := by
    refine hl.kept (S := fun _ => False) ?_ (fun _ _ _ => id)
    have : Kept (fun _ => False) w w0 := by rw [hw0]; exact (Kept.refl _ w).alloc _
    exact this.trans hk
  have hbn := Bld.new w1
  clear hR hw0 hnew
  go_wp2
  go_loopg [1] (l.length + R.1.length) (fun m s1 wr => ∃ (l' : List Int) (s : M.St) (F' FB : Nat → Prop) (o : List Int), m = l'.length + (M.total s l').1.length ∧ M.Is g F' s wr ∧ M.ok s l'.length ∧ (M.B s).en = false ∧ l'.length ≤ l.length ∧ (∀ c ∈ l', 0 ≤ c) ∧
    Bld wr FB w1.heap.size o ∧ (∀ k, F' k → w0.heap.size ≤ k) ∧ (∀ k, FB k → w0.heap.size ≤ k) ∧ (∀ k, F' k → ¬ FB k) ∧ Kept (fun _ => False) w0 wr ∧ Rd wr .u32 s1 l' ∧ (l' ≠ [] → ∀ b, s1.ownBlock = some b → b < w0.heap.size) ∧ R = (o ++ (M.total s l').1, (M.total s l').2))
  case atStart =>
    refine ⟨l, s0, F, _, [], ?_, M.kept hI ((Kept.refl (fun _ => False) w1).alloc _) (fun _ _ => id), hok, hen, Nat.le_refl _, hn, hbn, hF, ?_, ?_, hk.alloc _, hl0.kept ((Kept.refl (fun _ => False) w1).alloc _) (fun _ _ _ => id), ?_, ?_⟩
    · rw [HR.out]
    · intro k e; subst e; exact hk.size
    · intro k h e; subst e; have := (M.own hI).2.1 _ h; omega
    · intro hne b hb
      rcases hll with h | ⟨b', h, h'⟩
      · rw [h] at hb; cases hb
      · rw [h] at hb; cases hb
        rw [HW.out]
        have := h' hne
        simp; omega
    · simp [HR.out]
  case round =>
    obtain ⟨l', s, F', FB, o, hm, hI', hok', hen', hll', hn', hB', hF', hFB, hdis, hk', hrd, hown, hRR⟩ := hrel
    obtain ⟨A1, c1, rfl⟩ := hrd.slice
    have hfd := M.feed_c (room := 4096) hI' hok' (Nat.le_refl _) hrd (fun hne b hb x => by have := hown hne b hb; have := hF' b x; omega) hn' (by decide) (by decide)
    have hfo := M.feed_ok (room := 4096) hok' (Nat.le_refl _) hn'
    have htf := M.tot_feed (room := 4096) hok' (Nat.le_refl _) hn' []
    have hfe := M.feed_en (l := l') (room := 4096) hok'
    have hp1 := M.prog1 (l := l') (room := 4096) hok' (by decide)
    have hp2 := M.prog2 (l := l') (room := 4096) hok'
    have hof := M.feed_off (l := l') (room := 4096) hok'
    obtain ⟨r, hr⟩ : ∃ r, r = M.feed s l' 4096 := ⟨_, rfl⟩
    rw [← hr] at hfd hfo htf hfe hp1 hp2 hof
    clear hr
    obtain ⟨n, out, s2⟩ := r
    simp only [List.append_nil] at hfd hfo htf hfe hp1 hp2 hof
    obtain ⟨hnl, hok2, hby, -⟩ := hfo
    have hR1 : R.1 = o ++ (out ++ (M.total s2 (l'.drop n)).1) := by rw [hRR, htf]
    have hR2 : R.2 = (M.total s2 (l'.drop n)).2 := by rw [hRR, htf]
    have hlR := congrArg List.length hR1
    simp only [List.length_append] at hlR
    have hm2 : gk = l'.length + (out.length + (M.total s2 (l'.drop n)).1.length) := by rw [hm, htf, List.length_append]
    obtain ⟨tl, htl2⟩ : ∃ tl, tl = (M.total s2 (l'.drop n)).1.length := ⟨_, rfl⟩
    rw [← htl2] at hlR hm2
    obtain ⟨A0, c0, he0, hc0, -⟩ := id hrd
    cases he0
    have hfail : ∀ w', M.Is g F' s w' → True := fun _ _ => trivial
    have H1 := Lib.hid htf; have H2 := Lib.hid hfe; have H3 := Lib.hid hRR; have H4 := Lib.hid hm; have H6 := Lib.hid hF'; have H7 := Lib.hid hFB; have H8 := Lib.hid hdis; have H9 := Lib.hid hown; have H10 := Lib.hid hen'; have H11 := Lib.hid hn'
    have H12 := Lib.hid hp1; have H13 := Lib.hid hp2; have H19 := Lib.hid hof; have H15 := Lib.hid hR1; have H16 := Lib.hid hR2; have H17 := Lib.hid htl2; have H18 := Lib.hid hrd
    clear htf hfe hRR hm hF' hFB hdis hown hen' hn hn' hll hen hok hI hF hp1 hp2 hof hR1 hR2 htl2 hfail hrd
    go_wp2_with (first | (go_at_fn M.fFeed; refine hfd.mono ?_))
    rintro e w2 ⟨F2, rfl, hI2, hF2, hk2⟩
    clear hfd
    have hB2 : Bld w2 FB w1.heap.size o := hB'.kept hk2 (fun k h h' => H8.out k h' h)
    go_wp2_with (first | (go_at_call 70; refine (bld_write _ FB o out w2 hB2 hby (by omega) (by omega)).mono ?_))
    rintro e w3 ⟨FB2, rfl, hB3, hF3, hk3⟩
    have hszs := hk2.size
    have hdis3 : ∀ k, F2 k → ¬ FB k := fun k h h' => by
      rcases hF2 k h with x | x
      · exact H8.out k x h'
      · have := hB'.lt k h'; omega
    have hI3 : M.Is g F2 s2 w3 := M.kept hI2 hk3 hdis3
    have hfl := fail_c g (M.B s2) w3 (M.own hI3).2.2.1
    have hdis4 : ∀ k, F2 k → ¬ FB2 k := fun k h h' => by
      rcases hF3 k h' with x | x
      · exact hdis3 k h x
      · have := (M.own hI2).2.1 k h; omega
    have hw3 : Kept (fun _ => False) w0 w3 := (hk'.trans' hk2 (fun k hk h => by have := H6.out k h; omega)).trans' hk3 (fun k hk h => by have := H7.out k h; omega)
    have hFF2 : ∀ k, F2 k → w0.heap.size ≤ k := fun k h => by
      rcases hF2 k h with x | x
      · exact H6.out k x
      · exact Nat.le_trans hk'.size x
    have hFFB : ∀ k, FB2 k → w0.heap.size ≤ k := fun k h => by
      rcases hF3 k h with x | x
      · exact H7.out k x
      · exact Nat.le_trans (Nat.le_trans hk'.size hszs) x
    have HA := Lib.hid hF2; have HB := Lib.hid hF3; have HC := Lib.hid hdis3; have HD := Lib.hid hdis4; have HE := Lib.hid hFF2; have HG := Lib.hid hFFB
    clear hF2 hF3 hdis3 hdis4 hFF2 hFFB
    by_cases hz : l'.length = n
    · have hz0 : l'.length - n = 0 := by omega
      have hRz : R = (o ++ out ++ (M.total s2 []).1, (M.total s2 []).2) := (by
        have e : l'.drop n = [] := List.drop_eq_nil_of_le (by omega)
        have a := H15.out; have b := H16.out
        rw [e] at a b
        exact Prod.ext (a.trans (List.append_assoc ..).symm) b)
      have HRz := Lib.hid hRz
      clear hRz
      obtain ⟨W, hW⟩ : ∃ W, W = w3 := ⟨_, rfl⟩
      have hIW : M.Is g F2 s2 W := by rw [hW]; exact hI3
      have hBW : Bld W FB2 w1.heap.size (o ++ out) := by rw [hW]; exact hB3
      have hKW : Kept (fun _ => False) w0 W := by rw [hW]; exact hw3
      rw [← hW]
      clear hW
      have hed := M.end_c hIW hok2
      have hs1 := M.stop_ok hok2
      have hs2 := M.stop_off hok2
      have hs3 := M.tot_stop hok2
      go_wp2_with (first | (go_at_fn M.fEnd; refine hed.mono ?_))
      all_goals
        rintro e w5 rfl F5 hI5 hF5 hk5
        clear hed
        have hB5 : Bld w5 FB2 w1.heap.size (o ++ out) := hBW.kept hk5 (fun k h h' => HD.out k h' h)
        have hK5 : Kept (fun _ => False) w0 w5 := hKW.trans' hk5 (fun k hk h => by have := HE.out k h; omega)
        have hFF5 : ∀ k, F5 k → w0.heap.size ≤ k := fun k h => by
          rcases hF5 k h with x | x
          · exact HE.out k x
          · exact Nat.le_trans hKW.size x
        have hdis5 : ∀ k, F5 k → ¬ FB2 k := fun k h h' => by
          rcases hF5 k h with x | x
          · exact HD.out k x h'
          · have := hBW.lt k h'; omega
        go_wp2
        go_loopg [11] ((M.total (M.stop s2) []).1.length) (fun m s11 wr => ∃ (s : M.St) (F' FB : Nat → Prop) (o : List Int) (n : Nat), m = (M.total s []).1.length ∧ M.Is g F' s wr ∧ M.ok s n ∧ (M.B s).going = false ∧
          Bld wr FB w1.heap.size o ∧ (∀ k, F' k → w0.heap.size ≤ k) ∧ (∀ k, FB k → w0.heap.size ≤ k) ∧ (∀ k, F' k → ¬ FB k) ∧ Kept (fun _ => False) w0 wr ∧ R = (o ++ (M.total s []).1, (M.total s []).2))
        case atStart => exact ⟨M.stop s2, F5, FB2, o ++ out, _, rfl, hI5, hs1, hs2, hB5, hFF5, HG.out, hdis5, hK5, by rw [← hs3]; exact HRz.out⟩
        case round =>
          obtain ⟨s, F', FB, o, n, hm, hI', hok', hgo', hB', hF', hFB, hdis, hk', hRR⟩ := hrel
          have hdn := odone_c g (M.B s) (M.p s) wr (M.own hI').2.2.1 (M.own hI').2.2.2
          rw [hgo'] at hdn
          simp only [Bool.not_false, Bool.true_and] at hdn
          have htf := M.tot_feed (room := 4096) (l := []) hok' (Nat.zero_le _) (fun _ h => by cases h) []
          have hoff := M.tot_off hok' hgo'
          cases hp : M.p s with
          | nil =>
            rw [hp] at hdn hoff
            have hst := bld_string _ FB o wr hB'
            have hRe : R = (o, (M.B s).err, (M.B s).fat) := by rw [hRR, hoff []]; simp
            have HRe := Lib.hid hRe
            clear htf hoff hRR hRe hm
            go_wp2_with (first | (go_at_call 197; refine hdn.mono ?_; rintro e w' ⟨rfl, rfl⟩) | (go_at_call 71; refine hst.mono ?_))
            rintro e w6 ⟨rfl, hk6⟩
            have hI6 : M.Is g F' s w6 := M.kept hI' hk6 hdis
            have hfl := fail_c g (M.B s) w6 (M.own hI6).2.2.1
            go_wp2_with (go_at_call 199; refine hfl.mono ?_)
            rintro e w7 ⟨rfl, hk7⟩
            have hK7 : Kept (fun _ => False) w0 w7 := (hk'.trans' hk6 (fun k hk h => by have := hFB k h; omega)).trans hk7
            have hbx : w7.heap[w.heap.size]? = some (.cells #[.int .i64 0, .int .i64 0] 34 (0, 0)) := hK7.heap (by rw [HW.out]; exact blk_new w _) id
            have hx0 := blk_cell hbx 0
            have hx1 := blk_cell hbx 1
            have hf0 := blk_free hbx 0
            have hf1 := blk_free hbx 1
            have hKw : Kept (fun _ => False) w w7 := by
              have : Kept (fun _ => False) w w0 := by rw [HW.out]; exact (Kept.refl _ w).alloc _
              exact this.trans hK7
            go_wp2
            refine bodyPost_ret (v := .tuple #[.string (strOfNums o), .agg #[.int .i64 (M.B s).err, .int .i64 (M.B s).fat]]) (by simp [results, Tryz.results25, go_sem, hx0, hx1]) rfl ⟨by rw [HRe.out], ?_⟩
            exact (hKw.setNew _ _ (Nat.le_refl _) _).setNew _ _ (Nat.le_refl _) _
          | cons p1 p2 =>
            rw [hp] at hdn
            have hfd := M.feed_c (room := 4096) (l := []) (v := .slice none 0 0) hI' hok' (Nat.zero_le _) (Rd.nil _ _) (fun h => absurd rfl h) (fun _ h => by cases h) (by decide) (by decide)
            have hfo := M.feed_ok (room := 4096) (l := []) hok' (Nat.zero_le _) (fun _ h => by cases h)
            have hp1 := M.prog1 (l := []) (room := 4096) hok' (by decide) (by rw [hp]; simp)
            have hof := M.feed_off (l := []) (room := 4096) hok' hgo'
            have htl0 := congrArg List.length (congrArg Prod.fst hRR)
            obtain ⟨r, hr⟩ : ∃ r, r = M.feed s [] 4096 := ⟨_, rfl⟩
            rw [← hr] at hfd hfo htf hp1 hof
            clear hr
            obtain ⟨n2, out, s3⟩ := r
            simp only [List.append_nil, List.drop_nil] at hfd hfo htf hp1 hof
            obtain ⟨rfl, hof⟩ := hof
            obtain ⟨-, hok3, hby3, -⟩ := hfo
            have hgo3 : (M.B s3).going = false := by rw [hof]; exact hgo'
            have hlo := List.length_pos_iff.2 hp1
            rw [htf] at hRR hm htl0
            simp only [List.length_append] at hm htl0
            obtain ⟨tl3, htl3⟩ : ∃ tl, tl = (M.total s3 []).1.length := ⟨_, rfl⟩
            rw [← htl3] at hm htl0
            have HRR := Lib.hid hRR; have HTL := Lib.hid htl3; have HFB := Lib.hid hFB; have HF := Lib.hid hF'; have HDS := Lib.hid hdis
            clear hRR htl3 htf hof hoff hp1 hFB hF' hdis
            go_wp2_with (first | (go_at_call 197; refine hdn.mono ?_; rintro e w' ⟨rfl, rfl⟩) | (go_at_fn M.fFeed; refine hfd.mono ?_))
            rintro e w6 ⟨F6, rfl, hI6, hF6, hk6⟩
            clear hfd
            have hB6 : Bld w6 FB w1.heap.size o := hB'.kept hk6 (fun k h h' => HDS.out k h' h)
            have hsz6 := hk6.size
            go_wp2_with (first | (go_at_call 70; refine (bld_write _ FB o out w6 hB6 hby3 (by omega) (by omega)).mono ?_))
            rintro e w7 ⟨FB7, rfl, hB7, hF7, hk7⟩
            have hdis6 : ∀ k, F6 k → ¬ FB k := fun k h h' => by
              rcases hF6 k h with x | x
              · exact HDS.out k x h'
              · have := hB'.lt k h'; omega
            have hI7 : M.Is g F6 s3 w7 := M.kept hI6 hk7 hdis6
            go_wp2
            go_roundg tl3
            case rel =>
              refine ⟨s3, F6, FB7, o ++ out, _, HTL.out, hI7, hok3, hgo3, hB7, ?_, ?_, ?_, (hk'.trans' hk6 (fun k hk h => by have := HF.out k h; omega)).trans' hk7 (fun k hk h => by have := HFB.out k h; omega), ?_⟩
              · intro k h
                rcases hF6 k h with x | x
                · exact HF.out k x
                · exact Nat.le_trans hk'.size x
              · intro k h
                rcases hF7 k h with x | x
                · exact HFB.out k x
                · exact Nat.le_trans (Nat.le_trans hk'.size hsz6) x
              · intro k h h'
                rcases hF7 k h' with x | x
                · exact hdis6 k h x
                · have := (M.own hI6).2.1 k h; omega
              · exact HRR.out.trans (by rw [List.append_assoc])
            case measure => omega
    · have hz0 : 0 < l'.length - n := by omega
      have hz1 : (((l'.length - n : Nat) : Int) == 0) = false := by simp; omega
      go_wp2_with (first | (go_at_call 199; refine hfl.mono ?_))
      rintro e w4 ⟨rfl, hk4⟩
      have hI4 : M.Is g F2 s2 w4 := M.kept hI3 hk4 (fun _ _ => id)
      have hB4 : Bld w4 FB2 w1.heap.size (o ++ out) := hB3.kept hk4 (fun _ _ => id)
      have hw4 : Kept (fun _ => False) w0 w4 := hw3.trans hk4
      by_cases herr : (M.B s2).err = 0
      · have herr' : ((M.B s2).err != 0) = false := by simp [herr]
        go_wp2_with fail
        have hgo2 : (M.B s2).going = true := by
          have := H2.out
          simp [DB.going, herr, this, H10.out]
        go_roundg (l'.length - n + tl)
        case rel =>
          refine ⟨l'.drop n, s2, F2, FB2, o ++ out, ?_, hI4, by rw [List.length_drop]; exact hok2, by rw [H2.out, H10.out], by rw [List.length_drop]; omega, fun c hc => H11.out c (List.mem_of_mem_drop hc), hB4, HE.out, HG.out, HD.out, hw4, ?_, ?_, ?_⟩
          · rw [List.length_drop, H17.out]
          · exact Rd.back ((H18.out).kept (S := fun k => F' k ∨ FB k) ((hk2.mono fun k _ h => .inl h).trans ((hk3.mono fun k _ h => .inr h).trans (hk4.mono fun _ _ h => h.elim))) (fun hne b hb h => by
              have h1 := H9.out hne b hb
              rcases h with h | h
              · have := H6.out b h; omega
              · have := H7.out b h; omega)) hnl rfl (by omega) (fun _ => rfl)
          · intro hne b hb
            refine H9.out (by intro e; rw [e] at hz0; simp at hz0) b ?_
            cases A1 with
            | none => simp [Value.ownBlock] at hb
            | some a =>
              have ea : (a.add n).block = a.block := by unfold Addr.add; split <;> rfl
              simpa [Value.ownBlock, ea] using hb
          · exact Prod.ext (by rw [H15.out, List.append_assoc]) H16.out
        case measure =>
          rw [hm2]
          rcases Classical.em (out = []) with ho | ho
          · have hp : M.p s = [] := Classical.byContradiction fun h => H12.out h ho
            have hg0 : (M.B s).going = true := by
              cases hgs : (M.B s).going
              · have := (H19.out hgs).2
                rw [DB.going, this] at hgo2
                rw [DB.going, hgo2] at hgs; cases hgs
              · rfl
            have := H13.out hg0 hp (by intro e; rw [e] at hz0; simp at hz0)
            rcases this with h | h
            · omega
            · rw [hgo2] at h; cases h
          · have := List.length_pos_iff.2 ho
            omega
      · have herr' : ((M.B s2).err != 0) = true := by simp [herr]
        have hgo2 : (M.B s2).going = false := by simp [DB.going, herr]
        have hRz : R = (o ++ out ++ (M.total s2 []).1, (M.total s2 []).2) := (by
          have e := M.tot_off hok2 hgo2 (l'.drop n)
          have e2 := M.tot_off hok2 hgo2 []
          have a := H15.out; have b := H16.out
          rw [e] at a b; rw [e2]
          exact Prod.ext (a.trans (List.append_assoc ..).symm) b)
        have HRz := Lib.hid hRz
        clear hRz
        obtain ⟨W, hW⟩ : ∃ W, W = w4 := ⟨_, rfl⟩
        have hIW : M.Is g F2 s2 W := by rw [hW]; exact hI4
        have hBW : Bld W FB2 w1.heap.size (o ++ out) := by rw [hW]; exact hB4
        have hKW : Kept (fun _ => False) w0 W := by rw [hW]; exact hw4
        rw [← hW]
        clear hW
        have hed := M.end_c hIW hok2
        have hs1 := M.stop_ok hok2
        have hs2 := M.stop_off hok2
        have hs3 := M.tot_stop hok2
        go_wp2_with (first | (go_at_fn M.fEnd; refine hed.mono ?_))
        rintro e w5 ⟨F5, rfl, hI5, hF5, hk5⟩
        clear hed
        have hB5 : Bld w5 FB2 w1.heap.size (o ++ out) := hBW.kept hk5 (fun k h h' => HD.out k h' h)
        have hK5 : Kept (fun _ => False) w0 w5 := hKW.trans' hk5 (fun k hk h => by have := HE.out k h; omega)
        have hFF5 : ∀ k, F5 k → w0.heap.size ≤ k := fun k h => by
          rcases hF5 k h with x | x
          · exact HE.out k x
          · exact Nat.le_trans hKW.size x
        have hdis5 : ∀ k, F5 k → ¬ FB2 k := fun k h h' => by
          rcases hF5 k h with x | x
          · exact HD.out k x h'
          · have := hBW.lt k h'; omega
        go_wp2
        go_loopg [11] ((M.total (M.stop s2) []).1.length) (fun m s11 wr => ∃ (s : M.St) (F' FB : Nat → Prop) (o : List Int) (n : Nat), m = (M.total s []).1.length ∧ M.Is g F' s wr ∧ M.ok s n ∧ (M.B s).going = false ∧
          Bld wr FB w1.heap.size o ∧ (∀ k, F' k → w0.heap.size ≤ k) ∧ (∀ k, FB k → w0.heap.size ≤ k) ∧ (∀ k, F' k → ¬ FB k) ∧ Kept (fun _ => False) w0 wr ∧ R = (o ++ (M.total s []).1, (M.total s []).2))
        case atStart => exact ⟨M.stop s2, F5, FB2, o ++ out, _, rfl, hI5, hs1, hs2, hB5, hFF5, HG.out, hdis5, hK5, by rw [← hs3]; exact HRz.out⟩
        case round =>
          obtain ⟨s, F', FB, o, n, hm, hI', hok', hgo', hB', hF', hFB, hdis, hk', hRR⟩ := hrel
          have hdn := odone_c g (M.B s) (M.p s) wr (M.own hI').2.2.1 (M.own hI').2.2.2
          rw [hgo'] at hdn
          simp only [Bool.not_false, Bool.true_and] at hdn
          have htf := M.tot_feed (room := 4096) (l := []) hok' (Nat.zero_le _) (fun _ h => by cases h) []
          have hoff := M.tot_off hok' hgo'
          cases hp : M.p s with
          | nil =>
            rw [hp] at hdn hoff
            have hst := bld_string _ FB o wr hB'
            have hRe : R = (o, (M.B s).err, (M.B s).fat) := by rw [hRR, hoff []]; simp
            have HRe := Lib.hid hRe
            clear htf hoff hRR hRe hm
            go_wp2_with (first | (go_at_call 197; refine hdn.mono ?_; rintro e w' ⟨rfl, rfl⟩) | (go_at_call 71; refine hst.mono ?_))
            rintro e w6 ⟨rfl, hk6⟩
            have hI6 : M.Is g F' s w6 := M.kept hI' hk6 hdis
            have hfl := fail_c g (M.B s) w6 (M.own hI6).2.2.1
            go_wp2_with (go_at_call 199; refine hfl.mono ?_)
            rintro e w7 ⟨rfl, hk7⟩
            have hK7 : Kept (fun _ => False) w0 w7 := (hk'.trans' hk6 (fun k hk h => by have := hFB k h; omega)).trans hk7
            have hbx : w7.heap[w.heap.size]? = some (.cells #[.int .i64 0, .int .i64 0] 34 (0, 0)) := hK7.heap (by rw [HW.out]; exact blk_new w _) id
            have hx0 := blk_cell hbx 0
            have hx1 := blk_cell hbx 1
            have hf0 := blk_free hbx 0
            have hf1 := blk_free hbx 1
            have hKw : Kept (fun _ => False) w w7 := by
              have : Kept (fun _ => False) w w0 := by rw [HW.out]; exact (Kept.refl _ w).alloc _
              exact this.trans hK7
            go_wp2
            refine bodyPost_ret (v := .tuple #[.string (strOfNums o), .agg #[.int .i64 (M.B s).err, .int .i64 (M.B s).fat]]) (by simp [results, Tryz.results25, go_sem, hx0, hx1]) rfl ⟨by rw [HRe.out], ?_⟩
            exact (hKw.setNew _ _ (Nat.le_refl _) _).setNew _ _ (Nat.le_refl _) _
          | cons p1 p2 =>
            rw [hp] at hdn
            have hfd := M.feed_c (room := 4096) (l := []) (v := .slice none 0 0) hI' hok' (Nat.zero_le _) (Rd.nil _ _) (fun h => absurd rfl h) (fun _ h => by cases h) (by decide) (by decide)
            have hfo := M.feed_ok (room := 4096) (l := []) hok' (Nat.zero_le _) (fun _ h => by cases h)
            have hp1 := M.prog1 (l := []) (room := 4096) hok' (by decide) (by rw [hp]; simp)
            have hof := M.feed_off (l := []) (room := 4096) hok' hgo'
            have htl0 := congrArg List.length (congrArg Prod.fst hRR)
            obtain ⟨r, hr⟩ : ∃ r, r = M.feed s [] 4096 := ⟨_, rfl⟩
            rw [← hr] at hfd hfo htf hp1 hof
            clear hr
            obtain ⟨n2, out, s3⟩ := r
            simp only [List.append_nil, List.drop_nil] at hfd hfo htf hp1 hof
            obtain ⟨rfl, hof⟩ := hof
            obtain ⟨-, hok3, hby3, -⟩ := hfo
            have hgo3 : (M.B s3).going = false := by rw [hof]; exact hgo'
            have hlo := List.length_pos_iff.2 hp1
            rw [htf] at hRR hm htl0
            simp only [List.length_append] at hm htl0
            obtain ⟨tl3, htl3⟩ : ∃ tl, tl = (M.total s3 []).1.length := ⟨_, rfl⟩
            rw [← htl3] at hm htl0
            have HRR := Lib.hid hRR; have HTL := Lib.hid htl3; have HFB := Lib.hid hFB; have HF := Lib.hid hF'; have HDS := Lib.hid hdis
            clear hRR htl3 htf hof hoff hp1 hFB hF' hdis
            go_wp2_with (first | (go_at_call 197; refine hdn.mono ?_; rintro e w' ⟨rfl, rfl⟩) | (go_at_fn M.fFeed; refine hfd.mono ?_))
            rintro e w6 ⟨F6, rfl, hI6, hF6, hk6⟩
            clear hfd
            have hB6 : Bld w6 FB w1.heap.size o := hB'.kept hk6 (fun k h h' => HDS.out k h' h)
            have hsz6 := hk6.size
            go_wp2_with (first | (go_at_call 70; refine (bld_write _ FB o out w6 hB6 hby3 (by omega) (by omega)).mono ?_))
            rintro e w7 ⟨FB7, rfl, hB7, hF7, hk7⟩
            have hdis6 : ∀ k, F6 k → ¬ FB k := fun k h h' => by
              rcases hF6 k h with x | x
              · exact HDS.out k x h'
              · have := hB'.lt k h'; omega
            have hI7 : M.Is g F6 s3 w7 := M.kept hI6 hk7 hdis6
            go_wp2
            go_roundg tl3
            case rel =>
              refine ⟨s3, F6, FB7, o ++ out, _, HTL.out, hI7, hok3, hgo3, hB7, ?_, ?_, ?_, (hk'.trans' hk6 (fun k hk h => by have := HF.out k h; omega)).trans' hk7 (fun k hk h => by have := HFB.out k h; omega), ?_⟩
              · intro k h
                rcases hF6 k h with x | x
                · exact HF.out k x
                · exact Nat.le_trans hk'.size x
              · intro k h
                rcases hF7 k h with x | x
                · exact HFB.out k x
                · exact Nat.le_trans (Nat.le_trans hk'.size hsz6) x
              · intro k h h'
                rcases hF7 k h' with x | x
                · exact hdis6 k h x
                · have := (M.own hI6).2.1 k h; omega
              · exact HRR.out.trans (by rw [List.append_assoc])
            case measure => omega

end Go.Proofs.YthdcfmconpgflaaGreat
