/- The encoder of package uni16 is fed. -/
import Derived.Test.YthdcfmconpgflaaGreatE16
set_option linter.unusedVariables false
set_option linter.unusedSimpArgs false
namespace Go.Proofs.YthdcfmconpgflaaGreat
open Go.RowKit

/-- What Feed leaves. -/
def E16.Fed (g : Nat) (r : Nat × DB × Bool × List Int × List Int) (w : World) (e : Ending) (w' : World) : Prop :=
  e = .returned (.tuple #[.int .i64 r.1, .string (strOfNums r.2.2.2.2)]) ∧ w'.heap[g]? = some (.cells (E16.cells r.2.1 r.2.2.2.1 r.2.2.1) 170 (0, 0)) ∧ Kept (fun k => k = g) w w'

set_option maxRecDepth 100000 in
set_option maxHeartbeats 4000000 in
theorem e16_feed (g : Nat) (B : DB) (p : List Int) (x : Bool) (v : Value) (l : List Int) (room : Int) (w : World) (hb : w.heap[g]? = some (.cells (E16.cells B p x) 170 (0, 0))) (hok : E16.Ok x)
    (hl : Rd w .u32 v l) (hv : l ≠ [] → v.ownBlock ≠ some g) (hnum : ∀ c ∈ l, 0 ≤ c) (hp : p.length ≤ 100000000) (hlen : l.length ≤ 100000000) (hat : 0 ≤ B.at_) (hat' : B.at_ + l.length ≤ 1000000000) (hr0 : -9223372036854775808 ≤ room) (hr1 : room ≤ 9223372036854775807) :
    Calls Tryz.prog 210 #[.pointer (some ⟨g, 0, none⟩), v, .int .i64 room] w (E16.Fed g (encF E16.bytes room B x p l) w) := by
  have hg := blk_lt hb
  have hcom := ComesE.start E16.bytes room l B x p
  obtain ⟨r, hr⟩ : ∃ r, r = encF E16.bytes room B x p l := ⟨_, rfl⟩
  rw [← hr] at hcom ⊢
  clear hr
  have hgl := give_le room p
  have hge := give_eq room p
  obtain ⟨n0, hn0⟩ : ∃ n, n = give room p := ⟨_, rfl⟩
  rw [← hn0] at hgl hge hcom
  clear hn0
  obtain ⟨A, cap, rfl, hcap, hxs⟩ := id hl
  have hc4 : w.cell? ⟨g, 4, none⟩ = some (.string (strOfNums p)) := blk_cell hb 4
  have hf4 := blk_free hb 4
  have hgive := give_c g p room n0 w hc4 hf4 (by omega) hge
  go_enter Tryz.func210, Tryz.ntmps210
  go_wp2_with (go_at_call 203; refine hgive.mono ?_; rintro e w' ⟨rfl, rfl⟩)
  have hb' : (w.setCell ⟨g, 4, none⟩ (.string (strOfNums (p.drop n0)))).heap[g]? = some (.cells (E16.cells B (p.drop n0) x) 170 (0, 0)) := blk_set hb 4 _
  have hk' : Kept (fun k => k = g) w (w.setCell ⟨g, 4, none⟩ (.string (strOfNums (p.drop n0)))) := Kept.one ..
  go_loopg [8, 9] (l.length) (fun m s8 s9 wr => ∃ (k : Nat) (B' : DB) (x' : Bool) (p' out : List Int), s9 = .int .i64 k ∧ s8 = .string (strOfNums out) ∧ k + m = l.length ∧ wr.heap[g]? = some (.cells (E16.cells B' p' x') 170 (0, 0)) ∧
    Kept (fun k => k = g) w wr ∧ E16.Ok x' ∧ out.length ≤ p.length + 8 * k ∧ (out.length : Int) ≤ max room 0 ∧ p'.length ≤ p.length + 8 ∧ 0 ≤ B'.at_ ∧ B'.at_ + m ≤ 1000000000 ∧ ComesE E16.bytes room l r k B' x' p' out)
  case atStart => exact ⟨0, B, x, _, _, rfl, rfl, by omega, hb', hk', hok, by simp; omega, by simp; omega, by simp; omega, hat, hat', hcom⟩
  case round =>
    obtain ⟨k, B', x', p', out, rfl, rfl, hkm, hb2, hk2, hok', hout, houtr, hp', ha0, ha1, hcm⟩ := hrel
    clear hcom hb hb' hk' hok hat hat' hgive hc4 hf4 hge
    have hsz' := hk2.size
    have hB : HasB wr g B' := ⟨_, _, hb2, rfl, rfl, rfl, rfl⟩
    have hc4 : wr.cell? ⟨g, 4, none⟩ = some (.string (strOfNums p')) := blk_cell hb2 4
    have hkept := kept_c g (strOfNums p') wr hc4
    rw [strOfNums_size] at hkept
    have hgoing := going_c g B' wr hB
    by_cases hlt : k < l.length
    · cases hp0 : p' with
      | cons p1 p2 =>
        rw [hp0] at hkept hcm hb2
        have hfin := hcm.done (by simp)
        go_wp2_with (first | (go_at_call 201; refine hkept.mono ?_; rintro e w' ⟨rfl, rfl⟩) | (go_at_call 202; refine hgoing.mono ?_; rintro e w' ⟨rfl, rfl⟩))
        all_goals go_ret2
        all_goals (subst hfin; exact ⟨rfl, hb2, hk2⟩)
      | nil =>
        subst hp0
        cases hgo : B'.going
        · have hfin := hcm.done (by simp [hgo])
          rw [hgo] at hgoing
          go_wp2_with (first | (go_at_call 201; refine hkept.mono ?_; rintro e w' ⟨rfl, rfl⟩) | (go_at_call 202; refine hgoing.mono ?_; rintro e w' ⟨rfl, rfl⟩))
          go_ret2
          subst hfin; exact ⟨rfl, hb2, hk2⟩
        · rw [hgo] at hgoing
          obtain ⟨b, o, rfl, hbl, hcells⟩ := hxs (by intro e; subst e; simp at hlt)
          have hne : b ≠ g := fun e => hv (by intro e; subst e; simp at hlt) (by rw [e]; rfl)
          obtain ⟨c, hcd⟩ : ∃ c, c = l.getD k 0 := ⟨_, rfl⟩
          have hcell : wr.cell? ⟨b, o + k, none⟩ = some (.int .u32 c) := by rw [hcd]; exact hk2.cell (hcells k hlt) hne
          have hc0 : 0 ≤ c := by
            rw [hcd, List.getD_eq_getElem?_getD, List.getElem?_eq_getElem hlt]; exact hnum _ (List.getElem_mem hlt)
          have his := is_c c wr
          have HC := Lib.hid hcd
          clear hcd hcells hxs hl
          cases hs : isS c
          · have hfin := hcm.bad HC.out hlt hgo hs
            rw [hs] at his
            go_wp2_with (first | (go_at_call 201; refine hkept.mono ?_; rintro e w' ⟨rfl, rfl⟩) | (go_at_call 202; refine hgoing.mono ?_; rintro e w' ⟨rfl, rfl⟩) | (go_at_call 204; refine his.mono ?_; rintro e w' ⟨rfl, rfl⟩) | (go_at_call 205; refine (stop_c g B' 2 _ hB hgo (by decide)).mono ?_; rintro e w2 ⟨rfl, rfl⟩))
            go_ret2
            subst hfin
            exact ⟨rfl, blk_set (blk_set hb2 1 _) 2 _, (hk2.set1 _ _ rfl _).set1 _ _ rfl _⟩
          · have hbytes := E16.c g B' [] x' c wr.drew hb2 hok' hs hc0
            have hlenb := E16.len x' c
            have hok2 := E16.Ok.next hok' hs hc0
            obtain ⟨q, hq⟩ : ∃ q, q = E16.bytes x' c := ⟨_, rfl⟩
            have hcm2 := fun m (hm : m = give (room - out.length) q.1) => hcm.good HC.out hlt hgo hs (b := q.1) (x' := q.2) (by rw [hq]) hm
            rw [← hq] at hbytes hlenb hok2
            clear hq hcm
            obtain ⟨qb, qx⟩ := q
            simp only at hbytes hlenb hok2 hcm2
            obtain ⟨m, hm⟩ : ∃ m, m = give (room - out.length) qb := ⟨_, rfl⟩
            have hcm3 := hcm2 m hm
            have hml := give_le (room - out.length) qb
            have hme := give_eq (room - out.length) qb
            rw [← hm] at hml hme
            clear hcm2 hm
            rw [hs] at his
            have hs1 := strOfNums_size out
            have hs2 : (strOfNums (qb.take m)).size = m := by rw [strOfNums_size, List.length_take]; omega
            have hs3 := S_app out (qb.take m)
            go_wp2_with (first | (go_at_call 201; refine hkept.mono ?_; rintro e w' ⟨rfl, rfl⟩) | (go_at_call 202; refine hgoing.mono ?_; rintro e w' ⟨rfl, rfl⟩) | (go_at_call 204; refine his.mono ?_; rintro e w' ⟨rfl, rfl⟩))
            clear hkept hgoing his
            go_region_with ((first | (go_at_call 211; refine hbytes.mono ?_; rintro e w2 ⟨rfl, hb3, hk3⟩) | (go_at_call 206; refine (keep_c g [] qb _ (blk_cell hb3 4) (blk_free hb3 4) (by simp) (by omega)).mono ?_; rintro e w3 ⟨rfl, rfl⟩)))
            go_wp2_with (first | (go_at_call 208; refine (eat_c g B' _ ⟨_, _, blk_set hb3 4 _, rfl, rfl, rfl, rfl⟩ hgo ha0 (by omega)).mono ?_; rintro e w4 ⟨rfl, rfl⟩) | (go_at_call 203; refine (give_c g qb (room - out.length) m _ (blk_cell (blk_set (blk_set hb3 4 _) 0 _) 4) (blk_free (blk_set (blk_set hb3 4 _) 0 _) 4) (by omega) hme).mono ?_; rintro e w5 ⟨rfl, rfl⟩))
            go_roundg (gk - 1)
            case rel => exact ⟨k + 1, { B' with at_ := B'.at_ + 1 }, qx, qb.drop m, out ++ qb.take m, by go_num, rfl, by omega, blk_set (blk_set (blk_set hb3 4 _) 0 _) 4 _, (((hk2.drew.trans hk3).set1 _ _ rfl _).set1 _ _ rfl _).set1 _ _ rfl _, hok2, by simp; omega, by simp; omega, by simp; omega, by simp; omega, by simp; omega, hcm3⟩
            case measure => omega
    · have hfin := hcm.done (by simp [hlt])
      go_wp2_with (first | (go_at_call 201; refine hkept.mono ?_; rintro e w' ⟨rfl, rfl⟩) | (go_at_call 202; refine hgoing.mono ?_; rintro e w' ⟨rfl, rfl⟩))
      all_goals go_ret2
      all_goals (subst hfin; exact ⟨rfl, hb2, hk2⟩)
end Go.Proofs.YthdcfmconpgflaaGreat
