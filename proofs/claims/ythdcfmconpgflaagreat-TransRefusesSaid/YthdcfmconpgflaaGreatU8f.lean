/- UTF-8's decoder is fed, and told that nothing more comes. -/
import Derived.Test.YthdcfmconpgflaaGreatU8
set_option linter.unusedVariables false
set_option linter.unusedSimpArgs false
namespace Go.Proofs.YthdcfmconpgflaaGreat
open Go.RowKit

def U8.Fed (g : Nat) (r : Nat × DB × U8 × List Int) (w : World) (e : Ending) (w' : World) : Prop :=
  ∃ v, e = .returned (.tuple #[.int .i64 r.1, v]) ∧ w'.heap[g]? = some (.cells (r.2.2.1.cells r.2.1 (.slice none 0 0)) 191 (0, 0)) ∧ Row w' w.heap.size 47 .u32 v r.2.2.2 ∧ Kept (fun k => k = g) w w'
theorem U8.fed_of {g k : Nat} {r : Nat × DB × U8 × List Int} {B : DB} {d : U8} {v v' : Value} {xs : List Int} {w wr w' : World} (hfin : r = (k, B, d, xs)) (hk : Kept (fun k => k = g ∨ w.heap.size ≤ k) w wr)
    (ht : Told g (d.cells B v) 191 xs.length v xs wr (.returned v') w') : U8.Fed g r w (.returned (.tuple #[.int .i64 k, v'])) w' := by
  obtain ⟨v2, vr, he, hb2, _, hnil, _, hrow, hk2⟩ := ht
  cases he
  subst hfin
  rw [hnil rfl] at hb2
  rw [List.take_length] at hrow
  refine ⟨v', rfl, hb2, ?_, ?_⟩
  · refine ⟨hrow.1, ?_⟩
    rcases hrow.2 with h | ⟨b, cap, cur, e, hb, h⟩
    · exact .inl h
    · exact .inr ⟨b, cap, cur, e, Nat.le_trans hk.size hb, h⟩
  · exact (hk.trans (hk2.mono fun _ _ h => .inl h)).mono fun i hi h => h.elim id (fun h => by omega)

set_option maxRecDepth 100000 in
set_option maxHeartbeats 1000000 in
theorem u8_feed (g : Nat) (B : DB) (d : U8) (s : List Int) (room : Int) (w : World) (hb : w.heap[g]? = some (.cells (d.cells B (.slice none 0 0)) 191 (0, 0))) (hs : Byt s) (hlen : s.length ≤ 1000000000)
    (hok : d.Ok) (hat : 0 ≤ B.at_) (hat' : B.at_ + s.length ≤ 1000000000) :
    Calls Tryz.prog 289 #[.pointer (some ⟨g, 0, none⟩), .string (strOfNums s), .int .i64 room] w (U8.Fed g (feedL U8.next room B d [] s) w) := by
  have hg := blk_lt hb
  have hcom := Comes.start U8.next room s B d
  obtain ⟨r, hr⟩ : ∃ r, r = feedL U8.next room B d [] s := ⟨_, rfl⟩
  rw [← hr] at hcom ⊢
  clear hr
  have hsz := strOfNums_size s
  go_enter Tryz.func289, Tryz.ntmps289
  go_wp2
  go_loopg [8] (s.length) (fun m i wr => ∃ (k : Nat) (B' : DB) (d' : U8) (v : Value) (xs : List Int), i = .int .i64 k ∧ k + m = s.length ∧ wr.heap[g]? = some (.cells (d'.cells B' v) 191 (0, 0)) ∧
    Row wr w.heap.size 47 .u32 v xs ∧ Kept (fun k => k = g ∨ w.heap.size ≤ k) w wr ∧ d'.Ok ∧ xs.length ≤ k ∧ (xs.length : Int) ≤ max room 0 ∧ 0 ≤ B'.at_ ∧ B'.at_ + m ≤ 1000000000 ∧ Comes U8.next room s r k B' d' xs)
  case atStart => exact ⟨0, B, d, _, [], rfl, by omega, hb, Row.nil _ _ _ _, Kept.refl _ _, hok, by simp, by simp; omega, hat, hat', hcom⟩
  case round =>
    obtain ⟨k, B', d', v, xs, rfl, hkm, hb', hr', hk', hok', hxk, hxr, ha0, ha1, hcm⟩ := hrel
    clear hcom hb hok hat hat' d
    have hsz' := hk'.size
    have hB : HasB wr g B' := ⟨_, _, hb', rfl, rfl, rfl, rfl⟩
    obtain ⟨A, c, rfl, hcap⟩ := hr'.slice
    have hc4 : wr.cell? ⟨g, 4, none⟩ = some (.slice A xs.length c) := blk_cell hb' 4
    have hne : (Value.slice A xs.length c).ownBlock ≠ some g := fun e => by have := (hr'.lt g e).1; omega
    have htell := tell_n g _ _ room xs.length _ xs wr hb' rfl hr'.rd (by omega) (by omega) hne
    have hheld := held_c g A xs.length c wr hc4
    have hgoing := going_c g B' wr hB
    by_cases hlt : k < s.length
    · by_cases hrm : (xs.length : Int) < room
      · cases hgo : B'.going
        · have hgo := hgo
          have hfin := hcm.done (by simp [hgo])
          go_wp2_with (first | (go_at_call 290; refine hheld.mono ?_; rintro e w' ⟨rfl, rfl⟩) | (go_at_call 202; refine hgoing.mono ?_; rintro e w' ⟨rfl, rfl⟩) | (go_at_call 292; refine htell.mono ?_; rintro e w' ht; have ht0 := ht; obtain ⟨v', vr, rfl, -⟩ := ht0))
          go_ret2
          exact U8.fed_of hfin hk' ht
        · obtain ⟨b, hbd⟩ : ∃ b, b = s.getD k 0 := ⟨_, rfl⟩
          have hget : ∀ h, (((strOfNums s)[k]'h).toNat : Int) = b := fun h => by rw [S_get hs k h, hbd]
          have hby := hs.at k
          rw [← hbd] at hby
          have hnext := u8_next g w.heap.size B' _ xs d' b wr hb' hby.1 (by omega) hr' (by omega) hsz' hg hok'
          have hone := d'.one b
          have hok2 := hok'.next hby.1 (by omega : b ≤ 255)
          have HB := Lib.hid hbd
          clear hbd hb' hr' hc4 htell hcap hne
          obtain ⟨q, hq⟩ : ∃ q, q = d'.next b := ⟨_, rfl⟩
          cases hn1 : (d'.next b).1
          · have hfin := hcm.bad HB.out hlt hrm hgo hn1
            rw [← hq] at hnext hone hok2 hn1 hfin
            clear hq hcm hok2
            obtain ⟨q1, q2, q3⟩ := q
            simp only at hnext hone hn1 hfin
            subst hn1
            go_wp2_with (first | (go_at_call 290; refine hheld.mono ?_; rintro e w' ⟨rfl, rfl⟩) | (go_at_call 202; refine hgoing.mono ?_; rintro e w' ⟨rfl, rfl⟩) | (go_at_call 291; refine hnext.mono ?_; rintro e w' ⟨v', rfl, hb2, hr2, hk2⟩; clear hnext hheld hgoing) | (go_at_call 205; refine (stop_c g B' 3 _ ⟨_, _, hb2, rfl, rfl, rfl, rfl⟩ hgo (by decide)).mono ?_; rintro e w2 ⟨rfl, rfl⟩))
            obtain ⟨A', c', rfl, hcap'⟩ := hr2.slice
            have hne' : (Value.slice A' (xs ++ q3).length c').ownBlock ≠ some g := fun e => by have := (hr2.lt g e).1; omega
            have hr3 : Row ((w'.setCell ⟨g, 1, none⟩ (.int .i64 3)).setCell ⟨g, 2, none⟩ (.int .i64 B'.at_)) w.heap.size 47 .u32 _ _ := ownsRow_setCell_below (ownsRow_setCell_below hr2 hg _) hg _
            refine (tell_n g _ _ room (xs ++ q3).length _ (xs ++ q3) _ (blk_set (blk_set hb2 1 _) 2 _) rfl hr3.rd (by simp; omega) (by simp; omega) hne').mono ?_
            rintro e w3 ht
            have ht0 := ht
            obtain ⟨v', vr, rfl, -⟩ := ht0
            go_wp2
            go_ret2
            exact U8.fed_of (B := { B' with err := 3, fat := B'.at_ }) hfin (((hk'.trans hk2).set1 _ _ (.inl rfl) _).set1 _ _ (.inl rfl) _) ht
          · have hcm2 := hcm.good HB.out hlt hrm hgo hn1
            rw [← hq] at hnext hone hok2 hn1 hcm2
            clear hq hcm
            obtain ⟨q1, q2, q3⟩ := q
            simp only at hnext hone hok2 hn1 hcm2
            subst hn1
            go_wp2_with (first | (go_at_call 290; refine hheld.mono ?_; rintro e w' ⟨rfl, rfl⟩) | (go_at_call 202; refine hgoing.mono ?_; rintro e w' ⟨rfl, rfl⟩) | (go_at_call 291; refine hnext.mono ?_; rintro e w' ⟨v', rfl, hb2, hr2, hk2⟩; clear hnext hheld hgoing) | (go_at_call 208; refine (eat_c g B' _ ⟨_, _, hb2, rfl, rfl, rfl, rfl⟩ hgo ha0 (by omega)).mono ?_; rintro e w2 ⟨rfl, rfl⟩))
            have hsz2 := hk2.size
            go_roundg (gk - 1)
            case rel => exact ⟨k + 1, { B' with at_ := B'.at_ + 1 }, q2, v', xs ++ q3, by go_num, by omega, blk_set hb2 0 _, ownsRow_setCell_below hr2 hg _, (hk'.trans hk2).set1 _ _ (.inl rfl) _, hok2, by simp; omega, by simp; omega, by simp; omega, by simp; omega, hcm2⟩
            case measure => omega
      · have hrm := hrm
        have hfin := hcm.done (by simp [hrm])
        go_wp2_with (first | (go_at_call 290; refine hheld.mono ?_; rintro e w' ⟨rfl, rfl⟩) | (go_at_call 202; refine hgoing.mono ?_; rintro e w' ⟨rfl, rfl⟩) | (go_at_call 292; refine htell.mono ?_; rintro e w' ht; have ht0 := ht; obtain ⟨v', vr, rfl, -⟩ := ht0))
        go_ret2
        exact U8.fed_of hfin hk' ht
    · have hlt := hlt
      have hfin := hcm.done (by simp [hlt])
      go_wp2_with (first | (go_at_call 290; refine hheld.mono ?_; rintro e w' ⟨rfl, rfl⟩) | (go_at_call 202; refine hgoing.mono ?_; rintro e w' ⟨rfl, rfl⟩) | (go_at_call 292; refine htell.mono ?_; rintro e w' ht; have ht0 := ht; obtain ⟨v', vr, rfl, -⟩ := ht0))
      go_ret2
      exact U8.fed_of hfin hk' ht
--END
set_option maxRecDepth 100000 in
set_option maxHeartbeats 4000000 in
theorem u8_end (g : Nat) (B : DB) (d : U8) (w : World) (hb : w.heap[g]? = some (.cells (d.cells B (.slice none 0 0)) 191 (0, 0))) :
    Calls Tryz.prog 288 #[.pointer (some ⟨g, 0, none⟩)] w fun e w' => e = .returned (.tuple #[]) ∧ w'.heap[g]? = some (.cells (d.cells (endB B d.cut) (.slice none 0 0)) 191 (0, 0)) ∧ Kept (fun k => k = g) w w' := by
  have hc := blk_cell hb
  simp only [U8.cells] at hc
  have hB : HasB w g B := ⟨_, _, hb, rfl, rfl, rfl, rfl⟩
  by_cases hh : 0 < d.need
  · have hct : d.cut = true := by simp [U8.cut, hh]
    rw [hct]; clear hct
    cases hgo : B.going
    · rw [endB_no hgo]
      go_enter Tryz.func288, Tryz.ntmps288
      go_wp2_with (first | (go_at_call 205; refine (stop_no g B _ _ hB hgo).mono ?_; rintro e w2 ⟨rfl, rfl⟩) | (go_at_call 198; refine (end_no g B _ hB hgo).mono ?_; rintro e w2 ⟨rfl, rfl⟩))
      go_end0
      exact ⟨rfl, hb, Kept.refl _ _⟩
    · rw [endB_cut hgo]
      go_enter Tryz.func288, Tryz.ntmps288
      go_wp2_with (first | (go_at_call 205; refine (stop_c g B 4 _ hB hgo (by decide)).mono ?_; rintro e w2 ⟨rfl, rfl⟩) | (go_at_call 198; refine (end_no g { B with err := 4, fat := B.at_ } _ ⟨_, _, blk_set (blk_set hb 1 _) 2 _, rfl, rfl, rfl, rfl⟩ rfl).mono ?_; rintro e w2 ⟨rfl, rfl⟩))
      go_end0
      exact ⟨rfl, blk_set (blk_set hb 1 _) 2 _, Kept.two ..⟩
  · have hct : d.cut = false := by simp [U8.cut, hh]
    rw [hct]; clear hct
    cases hgo : B.going
    · rw [endB_no hgo]
      go_enter Tryz.func288, Tryz.ntmps288
      go_wp2_with (first | (go_at_call 205; refine (stop_no g B _ _ hB hgo).mono ?_; rintro e w2 ⟨rfl, rfl⟩) | (go_at_call 198; refine (end_no g B _ hB hgo).mono ?_; rintro e w2 ⟨rfl, rfl⟩))
      go_end0
      exact ⟨rfl, hb, Kept.refl _ _⟩
    · rw [endB_ok hgo]
      go_enter Tryz.func288, Tryz.ntmps288
      go_wp2_with (go_at_call 198; refine (end_c g B _ hB hgo).mono ?_; rintro e w2 ⟨rfl, rfl⟩)
      go_end0
      exact ⟨rfl, blk_set hb 3 _, Kept.one ..⟩
end Go.Proofs.YthdcfmconpgflaaGreat
