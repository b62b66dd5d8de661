/- The law armadalaw08.MpathParts answers true whatever two texts it is handed, and what it was handed reads as it did; its tied card holds.
   Conditions: those of the row and the card alone: the listed variables of Go's library hold what the program's own text lays in them. -/
import Derived.Test.YtpkhemnngjmcjaaDoorRow
import Derived.Test.YtpkhemnngjmcjaaDoorPartsLaw
import Derived.Lib.SmallJoins
namespace Go.Proofs.YtpkhemnngjmcjaaDoor
open Go Go.ChangeShapes Go.WideShapes Go.ChangeAt Go.RowKit Go.Joins Go.Deep Go.Proofs.YtpkhemnngjmcjaaDoor.R2
set_option linter.unusedVariables false

set_option maxRecDepth 100000 in
theorem mpathParts_lifted (os : Os) (started : os.Started) (H : Type) (enc : TypeId × Value → H) :
    ReturnsInHanded {} Tryd.checked os 4 .any (fun w args => (Rows.mpathPartsSpec.pre enc Tryd.prog Tryd.f4 Rows.mpathPartsRow.domain false w args ∧ laidMetH Tryd.prog Rows.mpathPartsRow.laid w) ∧ sizedMet enc Tryd.prog Tryd.f4 (OpenSpec.ofChange Rows.mpathPartsSpec) false w args)
      (Rows.mpathPartsSpec.post enc Tryd.prog Tryd.f4 false true false false) := by
  refine lifted_of (C := Tryd.checked) (tb := 4) laidOut rfl own started (by kernel_rfl) Tryd.func4 (by kernel_rfl) (by kernel_rfl) Tryd.underlying4 ?_
    (ChangeSpec.witness_shaped (enc := enc) (C := Tryd.checked) (os := os) (X := fun w _ => laidMetH Tryd.prog Rows.mpathPartsRow.laid w) false (World.laidAll Tryd.prog os Rows.mpathPartsRow.laid) #[.string ⟨#[]⟩, .string ⟨#[]⟩] 8 (World.laidAll_os _ _ _)
      (World.shaped_of_ZipB (by kernel_rfl) (by kernel_rfl)) (by kernel_rfl) (by kernel_rfl) (by kernel_rfl)
      (by rw [MakeChecks.laidMetH_plain _ _ _ (by kernel_rfl)]; exact laidMet_laidAll _ (by kernel_rfl) (by kernel_rfl))) ?_
  · intro ds hd
    match ds, hd.trans (show Tryd.f4.params.size = 2 by kernel_rfl) with
    | [_, _], _ => rfl
  · intro W base args ds ps hval0 hA0 hz hsh hL
    have hval : ∀ (j : Nat) t v, Tryd.f4.params[j]? = some t → args[j]? = some v → Value.okWide Tryd.prog W .any base t v := hval0
    have hA : DataW.TrodAll enc Tryd.prog W 0 (fun _ => true) true Tryd.f4.params.toList args.toList ds ps := hA0
    rw [Tryd.params4] at hA hval
    obtain ⟨v0, v1, d0, d1, p0, p1, rfl, rfl, rfl, h0, h1⟩ := trodAll_two hA
    obtain ⟨x0, rfl, rfl, rfl, _⟩ := ChangeMaps.open_string Tryd.underlying9 (hval 0 9 v0 rfl rfl) h0
    obtain ⟨x1, rfl, rfl, rfl, _⟩ := ChangeMaps.open_string Tryd.underlying9 (hval 1 9 v1 rfl rfl) h1
    obtain ⟨k, hk⟩ := parts_pure x0 x1
    exact armadalaw08_MpathParts.calls k x0 x1 true W (gw_of hsh hL) rfl hk

theorem mpathParts_holds : Rows.MpathPartsSaid :=
  OpenClaim.holds_of_wide 4 Tryd.f4 rfl rfl rfl rfl rfl rfl rfl ⟨rfl, rfl, rfl, rfl, rfl⟩ rfl rfl rfl rfl rfl (by kernel_rfl) Tryd.func4 (by kernel_rfl)
    (of_decide_eq_true (by kernel_rfl)) (by unfold Func.isWrapper; first | (rw [if_pos (by decide +kernel)]; kernel_rfl) | (rw [if_neg (by decide +kernel)]; exact ⟨rfl, rfl⟩))
    (fun os started H enc _ => mpathParts_lifted os started H enc)
theorem mpathParts_card : Rows.MpathPartsCardSaid :=
  Claim7.holds_tied_plain_at .later [] [.data, .data, .data, .data, .sentinel, .sentinel, .pinned] true (true, "0ab6c8be288a0e4b9ae35fd56e8828ff82b3edbbc70c4b84e32c15c3f36d97f6") true mpathParts_holds (fun _ h => by cases h) (by kernel_rfl) (fun _ h => by cases h) mpathParts_row_tie rfl ⟨rfl, rfl⟩ (by kernel_rfl) rfl
    (fun f fn hf hfn => by
      obtain rfl : f = 4 := Option.some.inj ((show Tryd.prog.funcNamed "armada/armadalaw08.MpathParts" = some 4 by kernel_rfl).symm.trans hf) |>.symm
      obtain rfl : fn = Tryd.f4 := (Option.some.inj (Tryd.func4.symm.trans hfn)).symm
      exact ⟨by kernel_rfl, fun j t ht => by
        rw [Tryd.params4] at ht
        have hm : t ∈ [9, 9] := by simpa using Array.mem_of_getElem? ht
        have hall : ([9, 9].all fun u => !Tryd.prog.wantsStandIn u) = true := by kernel_rfl
        exact (show Tryd.prog.wantsStandIn t = false by simpa using List.all_eq_true.1 hall t hm)⟩)
    (by kernel_rfl)
#print axioms mpathParts_card
end Go.Proofs.YtpkhemnngjmcjaaDoor
