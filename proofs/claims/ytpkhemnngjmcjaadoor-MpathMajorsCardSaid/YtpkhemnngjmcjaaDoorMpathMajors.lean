/- The law armadalaw08.MpathMajors answers true whatever path, number and version it is handed, and what it was handed reads as it did; its tied card holds.
   Conditions: those of the row and the card alone: the listed variables of Go's library hold what the program's own text lays in them. -/
import Derived.Test.YtpkhemnngjmcjaaDoorRow
import Derived.Test.YtpkhemnngjmcjaaDoorMajorsLaw
import Derived.Lib.SmallJoins
namespace Go.Proofs.YtpkhemnngjmcjaaDoor
open Go Go.ChangeShapes Go.WideShapes Go.ChangeAt Go.RowKit Go.Joins Go.Deep Go.Proofs.YtpkhemnngjmcjaaDoor.R2
set_option linter.unusedVariables false

set_option maxRecDepth 100000 in
theorem mpathMajors_lifted (os : Os) (started : os.Started) (H : Type) (enc : TypeId × Value → H) :
    ReturnsInHanded {} Tryd.checked os 3 .any (fun w args => (Rows.mpathMajorsSpec.pre enc Tryd.prog Tryd.f3 Rows.mpathMajorsRow.domain false w args ∧ laidMetH Tryd.prog Rows.mpathMajorsRow.laid w) ∧ sizedMet enc Tryd.prog Tryd.f3 (OpenSpec.ofChange Rows.mpathMajorsSpec) false w args)
      (Rows.mpathMajorsSpec.post enc Tryd.prog Tryd.f3 false true false false) := by
  refine lifted_of (C := Tryd.checked) (tb := 4) laidOut rfl own started (by kernel_rfl) Tryd.func3 (by kernel_rfl) (by kernel_rfl) Tryd.underlying4 ?_
    (ChangeSpec.witness_shaped (enc := enc) (C := Tryd.checked) (os := os) (X := fun w _ => laidMetH Tryd.prog Rows.mpathMajorsRow.laid w) false (World.laidAll Tryd.prog os Rows.mpathMajorsRow.laid) #[.string ⟨#[]⟩, .int .i64 0, .agg #[.int .i64 0, .int .i64 0, .int .i64 0, .string ⟨#[]⟩, .string ⟨#[]⟩]] 8 (World.laidAll_os _ _ _)
      (World.shaped_of_ZipB (by kernel_rfl) (by kernel_rfl)) (by kernel_rfl) (by kernel_rfl) (by kernel_rfl)
      (by rw [MakeChecks.laidMetH_plain _ _ _ (by kernel_rfl)]; exact laidMet_laidAll _ (by kernel_rfl) (by kernel_rfl))) ?_
  · intro ds hd
    match ds, hd.trans (show Tryd.f3.params.size = 3 by kernel_rfl) with
    | [_, _, _], _ => rfl
  · intro W base args ds ps hval0 hA0 hz hsh hL
    have hval : ∀ (j : Nat) t v, Tryd.f3.params[j]? = some t → args[j]? = some v → Value.okWide Tryd.prog W .any base t v := hval0
    have hA : DataW.TrodAll enc Tryd.prog W 0 (fun _ => true) true Tryd.f3.params.toList args.toList ds ps := hA0
    rw [Tryd.params3] at hA hval
    obtain ⟨v0, v1, v2, d0, d1, d2, p0, p1, p2, rfl, rfl, rfl, h0, h1, h2⟩ := trodAll_three hA
    obtain ⟨x0, rfl, rfl, rfl, _⟩ := ChangeMaps.open_string Tryd.underlying9 (hval 0 9 v0 rfl rfl) h0
    obtain ⟨x1, rfl, rfl, rfl, _⟩ := open_int Tryd.underlying3 (hval 1 3 v1 rfl rfl) h1
    obtain ⟨x2a, x2b, x2c, x2p, x2q, rfl⟩ := ver_open Tryd.underlying23 (by kernel_rfl) (by kernel_rfl) ⟨Tryd.underlying3, Tryd.underlying3, Tryd.underlying3⟩ ⟨Tryd.underlying9, Tryd.underlying9⟩ (hval 2 23 v2 rfl rfl) h2
    obtain ⟨k, hk⟩ := majors_pure x0 x1 x2a x2b x2c x2p x2q
    exact armadalaw08_MpathMajors.calls k x0 x1 x2a x2b x2c x2p x2q true W (gw_of hsh hL) rfl hk

theorem mpathMajors_holds : Rows.MpathMajorsSaid :=
  OpenClaim.holds_of_wide 3 Tryd.f3 rfl rfl rfl rfl rfl rfl rfl ⟨rfl, rfl, rfl, rfl, rfl⟩ rfl rfl rfl rfl rfl (by kernel_rfl) Tryd.func3 (by kernel_rfl)
    (of_decide_eq_true (by kernel_rfl)) (by unfold Func.isWrapper; first | (rw [if_pos (by decide +kernel)]; kernel_rfl) | (rw [if_neg (by decide +kernel)]; exact ⟨rfl, rfl⟩))
    (fun os started H enc _ => mpathMajors_lifted os started H enc)
theorem mpathMajors_card : Rows.MpathMajorsCardSaid :=
  Claim7.holds_tied_plain_at .later [] [.data, .data, .data, .data, .sentinel, .sentinel, .pinned] true (true, "0ab6c8be288a0e4b9ae35fd56e8828ff82b3edbbc70c4b84e32c15c3f36d97f6") true mpathMajors_holds (fun _ h => by cases h) (by kernel_rfl) (fun _ h => by cases h) mpathMajors_row_tie rfl ⟨rfl, rfl⟩ (by kernel_rfl) rfl
    (fun f fn hf hfn => by
      obtain rfl : f = 3 := Option.some.inj ((show Tryd.prog.funcNamed "armada/armadalaw08.MpathMajors" = some 3 by kernel_rfl).symm.trans hf) |>.symm
      obtain rfl : fn = Tryd.f3 := (Option.some.inj (Tryd.func3.symm.trans hfn)).symm
      exact ⟨by kernel_rfl, fun j t ht => by
        rw [Tryd.params3] at ht
        have hm : t ∈ [9, 3, 23] := by simpa using Array.mem_of_getElem? ht
        have hall : ([9, 3, 23].all fun u => !Tryd.prog.wantsStandIn u) = true := by kernel_rfl
        exact (show Tryd.prog.wantsStandIn t = false by simpa using List.all_eq_true.1 hall t hm)⟩)
    (by kernel_rfl)
#print axioms mpathMajors_card
end Go.Proofs.YtpkhemnngjmcjaaDoor
