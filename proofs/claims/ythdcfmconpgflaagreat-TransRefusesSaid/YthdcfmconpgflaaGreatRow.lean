/- A row's last step, where the call has made new memory and turned nothing that was there. -/
import Derived.Test.YthdcfmconpgflaaGreatBase
import Derived.ChangeSame
import Derived.ChangeShapes
set_option linter.unusedVariables false
set_option linter.unusedSimpArgs false
namespace Go.Proofs.YthdcfmconpgflaaGreat
open Go.RowKit Go.WideShapes Go.ChangeShapes

theorem and_mk {a b : Bool} (ha : a = true) (hb : b = true) : (a && b) = true := by rw [ha, hb]; rfl

theorem post_kept {H : Type} {enc : TypeId × Value → H} {P : Program} {f : Func} {s : ChangeSpec} {apart fresh handsOn again : Bool} {W W' : World} {args : Array Value} {v : Value} {ds gs : List (DataW H)} {before pa pv : List MemPlace}
    (hk : Kept (fun _ => False) W W')
    (hW : DataW.Whole enc P f.params.toList s.vars apart W args.toList ds gs before) (hps : before = pa ++ pv)
    (hres : ∀ (b : Nat) (sp : Nat → Bool) (hd : Bool), DataW.TrodAll enc P W' b sp hd f.resultTypes.toList (v.resultList f.resultTypes.size) (s.fn H (ds ++ gs)).results [])
    (hargs : ∀ sp : Nat → Bool, (∀ p ∈ before, sp p.block = true) → DataW.TrodAll enc P W' 0 sp true f.params.toList args.toList (s.fn H (ds ++ gs)).args pa)
    (hvars : ∀ sp : Nat → Bool, (∀ p ∈ before, sp p.block = true) → DataW.TrodVars enc P W' sp s.vars (s.fn H (ds ++ gs)).vars pv)
    (hok : ∀ (j : Nat) (t : TypeId) (r : Value), f.resultTypes[j]? = some t → (v.resultList f.resultTypes.size)[j]? = some r → Value.okWide P W' .any 0 t r) :
    s.post enc P f apart fresh handsOn again W args v W' := by
  have hb : Below W.heap.size W W' := hk.toBelow fun _ _ h => h
  have hin : ∀ p, p ∈ before → p.block < W.heap.size := fun p h => hW.lt p h
  have all := hargs (fun _ => true) fun _ _ => rfl
  refine ⟨ds, gs, before, [], pa, pv, hW, hres _ _ _, hargs _ (fun p h => by simpa using hin p h), hvars _ (fun p h => by simpa using hin p h), World.keptBut_mono (fun p h => ⟨h, Or.inr ?_⟩) (hb.frame (· ∈ before)), fun _ => ?_⟩
  · simpa [hps] using h
  · obtain ⟨_, _, _, _, _, hz, hn⟩ := hW
    refine ⟨hok, _, _, ([] ++ pa) ++ pv, ⟨[] ++ pa, pv, trodAll_append all (hres _ _ _), hvars _ fun _ _ => rfl, rfl, fun b off h => ?_, fun h => ?_⟩, fun p h _ => ?_⟩
    · have hm : MemPlace.cell b off ∈ before := by simpa [hps] using h
      rw [hb.frozen (hin _ hm)]
      exact hz b off hm
    · simpa [hps] using hn h
    · simpa [hps] using h
end Go.Proofs.YthdcfmconpgflaaGreat
