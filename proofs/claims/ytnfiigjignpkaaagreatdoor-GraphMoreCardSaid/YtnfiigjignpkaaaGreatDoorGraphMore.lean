/- The law armadalaw16.GraphMore answers true whatever modules, two places and places it is handed, and what it was handed reads as it did; its tied card holds.
   Conditions: those of the row and the card alone: the listed variables of Go's library hold what the program's own text lays in them. -/
import Derived.Test.YtnfiigjignpkaaaGreatDoorRop
import Derived.Test.YtnfiigjignpkaaaGreatDoorMor
import Derived.Lib.SmallJoins
namespace Go.Proofs.YtnfiigjignpkaaaGreatDoor
open Go Go.ChangeShapes Go.WideShapes Go.ChangeAt Go.RowKit Go.Joins Go.Deep Go.Proofs.YtnfiigjignpkaaaGreatDoor.K0
set_option linter.unusedVariables false

set_option maxRecDepth 100000 in
theorem graphMore_lifted (os : Os) (started : os.Started) (H : Type) (enc : TypeId × Value → H) :
    ReturnsInHanded {} Tryz.checked os 6 .any (fun w args => (Rows.graphMoreSpec.pre enc Tryz.prog Tryz.f6 Rows.graphMoreRow.domain false w args ∧ laidMetH Tryz.prog Rows.graphMoreRow.laid w) ∧ sizedMet enc Tryz.prog Tryz.f6 (OpenSpec.ofChange Rows.graphMoreSpec) false w args)
      (Rows.graphMoreSpec.post enc Tryz.prog Tryz.f6 false true false false) := by
  refine lifted_of (C := Tryz.checked) (tb := 4) laidOut rfl own started (by kernel_rfl) Tryz.func6 (by kernel_rfl) (by kernel_rfl) Tryz.underlying4 ?_
    (ChangeSpec.witness_shaped (enc := enc) (C := Tryz.checked) (os := os) (X := fun w _ => laidMetH Tryz.prog Rows.graphMoreRow.laid w) false (World.laidAll Tryz.prog os Rows.graphMoreRow.laid) #[.slice none 0 0, .agg #[.int .i64 0, .int .i64 0], .slice none 0 0] 8 (World.laidAll_os _ _ _)
      (World.shaped_of_ZipB (by kernel_rfl) (by kernel_rfl)) (by kernel_rfl) (by kernel_rfl) (by kernel_rfl)
      (by rw [MakeChecks.laidMetH_plain _ _ _ (by kernel_rfl)]; exact laidMet_laidAll _ (by kernel_rfl) (by kernel_rfl))) ?_
  · intro ds hd
    match ds, hd.trans (show Tryz.f6.params.size = 3 by kernel_rfl) with
    | [_, _, _], _ => rfl
  · intro W base args ds ps hval0 hA0 hz hsh hL
    have hval : ∀ (j : Nat) t v, Tryz.f6.params[j]? = some t → args[j]? = some v → Value.okWide Tryz.prog W .any base t v := hval0
    have hA : DataW.TrodAll enc Tryz.prog W 0 (fun _ => true) true Tryz.f6.params.toList args.toList ds ps := hA0
    rw [Tryz.params6] at hA hval
    obtain ⟨v0, v1, v2, d0, d1, d2, p0, p1, p2, rfl, rfl, rfl, h0, h1, h2⟩ := trodAll_three hA
    obtain ⟨A0, c0, x0, rfl, hc0, hr0⟩ := arg_mods (hval 0 22 v0 rfl rfl) h0
    obtain ⟨x1a, x1b, rfl⟩ := arg_pair Tryz.underlying37 Tryz.underlying3 (by kernel_rfl) (by kernel_rfl) (hval 1 37 v1 rfl rfl) h1
    obtain ⟨A2, c2, x2, rfl, hc2, hr2⟩ := arg_ints (hval 2 23 v2 rfl rfl) h2
    exact more_calls A0 A2 c0 c2 x0 x1a x1b x2 W (gw_of hsh hL) hr0 hc0 hr2 hc2 (mods_short hr0)

theorem graphMore_holds : Rows.GraphMoreSaid :=
  OpenClaim.holds_of_wide 6 Tryz.f6 rfl rfl rfl rfl rfl rfl rfl ⟨rfl, rfl, rfl, rfl, rfl⟩ rfl rfl rfl rfl rfl (by kernel_rfl) Tryz.func6 (by kernel_rfl)
    (of_decide_eq_true (by kernel_rfl)) (by unfold Func.isWrapper; first | (rw [if_pos (by decide +kernel)]; kernel_rfl) | (rw [if_neg (by decide +kernel)]; exact ⟨rfl, rfl⟩))
    (fun os started H enc _ => graphMore_lifted os started H enc)
theorem graphMore_card : Rows.GraphMoreCardSaid :=
  Claim7.holds_tied_plain_at .later [] [.data, .data, .data, .data, .sentinel, .sentinel, .pinned] true (true, "f76865aebec105446824ef4fc250f5829d81d697fd31bf23389957d1582360a2") true graphMore_holds (fun _ h => by cases h) (by kernel_rfl) (fun _ h => by cases h) graphMore_row_tie rfl ⟨rfl, rfl⟩ (by kernel_rfl) rfl
    (fun f fn hf hfn => by
      obtain rfl : f = 6 := Option.some.inj ((show Tryz.prog.funcNamed "armada/armadalaw16.GraphMore" = some 6 by kernel_rfl).symm.trans hf) |>.symm
      obtain rfl : fn = Tryz.f6 := (Option.some.inj (Tryz.func6.symm.trans hfn)).symm
      exact ⟨by kernel_rfl, fun j t ht => by
        rw [Tryz.params6] at ht
        have hm : t ∈ [22, 37, 23] := by simpa using Array.mem_of_getElem? ht
        have hall : ([22, 37, 23].all fun u => !Tryz.prog.wantsStandIn u) = true := by kernel_rfl
        exact (show Tryz.prog.wantsStandIn t = false by simpa using List.all_eq_true.1 hall t hm)⟩)
    (by kernel_rfl)
#print axioms graphMore_card
end Go.Proofs.YtnfiigjignpkaaaGreatDoor
