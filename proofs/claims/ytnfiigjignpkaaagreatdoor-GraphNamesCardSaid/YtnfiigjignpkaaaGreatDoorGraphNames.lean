/- The law armadalaw16.GraphNames answers true whatever modules, version and places it is handed, and what it was handed reads as it did; its tied card holds.
   Conditions: those of the row and the card alone: the listed variables of Go's library hold what the program's own text lays in them. -/
import Derived.Test.YtnfiigjignpkaaaGreatDoorRop
import Derived.Test.YtnfiigjignpkaaaGreatDoorNames2
import Derived.Lib.SmallJoins
namespace Go.Proofs.YtnfiigjignpkaaaGreatDoor
open Go Go.ChangeShapes Go.WideShapes Go.ChangeAt Go.RowKit Go.Joins Go.Deep Go.Proofs.YtnfiigjignpkaaaGreatDoor.K0
set_option linter.unusedVariables false

set_option maxRecDepth 100000 in
theorem graphNames_lifted (os : Os) (started : os.Started) (H : Type) (enc : TypeId × Value → H) :
    ReturnsInHanded {} Tryz.checked os 7 .any (fun w args => (Rows.graphNamesSpec.pre enc Tryz.prog Tryz.f7 Rows.graphNamesRow.domain false w args ∧ laidMetH Tryz.prog Rows.graphNamesRow.laid w) ∧ sizedMet enc Tryz.prog Tryz.f7 (OpenSpec.ofChange Rows.graphNamesSpec) false w args)
      (Rows.graphNamesSpec.post enc Tryz.prog Tryz.f7 false true false false) := by
  refine lifted_of (C := Tryz.checked) (tb := 4) laidOut rfl own started (by kernel_rfl) Tryz.func7 (by kernel_rfl) (by kernel_rfl) Tryz.underlying4 ?_
    (ChangeSpec.witness_shaped (enc := enc) (C := Tryz.checked) (os := os) (X := fun w _ => laidMetH Tryz.prog Rows.graphNamesRow.laid w) false (World.laidAll Tryz.prog os Rows.graphNamesRow.laid) #[.slice none 0 0, .agg #[.int .i64 0, .int .i64 0, .int .i64 0, .string ⟨#[]⟩, .string ⟨#[]⟩], .slice none 0 0] 8 (World.laidAll_os _ _ _)
      (World.shaped_of_ZipB (by kernel_rfl) (by kernel_rfl)) (by kernel_rfl) (by kernel_rfl) (by kernel_rfl)
      (by rw [MakeChecks.laidMetH_plain _ _ _ (by kernel_rfl)]; exact laidMet_laidAll _ (by kernel_rfl) (by kernel_rfl))) ?_
  · intro ds hd
    match ds, hd.trans (show Tryz.f7.params.size = 3 by kernel_rfl) with
    | [_, _, _], _ => rfl
  · intro W base args ds ps hval0 hA0 hz hsh hL
    have hval : ∀ (j : Nat) t v, Tryz.f7.params[j]? = some t → args[j]? = some v → Value.okWide Tryz.prog W .any base t v := hval0
    have hA : DataW.TrodAll enc Tryz.prog W 0 (fun _ => true) true Tryz.f7.params.toList args.toList ds ps := hA0
    rw [Tryz.params7] at hA hval
    obtain ⟨v0, v1, v2, d0, d1, d2, p0, p1, p2, rfl, rfl, rfl, h0, h1, h2⟩ := trodAll_three hA
    obtain ⟨A0, c0, x0, rfl, hc0, hr0⟩ := arg_mods (hval 0 22 v0 rfl rfl) h0
    obtain ⟨x1a, x1b, x1c, x1p, x1q, rfl⟩ := ver_open Tryz.underlying42 (by kernel_rfl) (by kernel_rfl) ⟨Tryz.underlying3, Tryz.underlying3, Tryz.underlying3⟩ ⟨Tryz.underlying9, Tryz.underlying9⟩ (hval 1 42 v1 rfl rfl) h1
    obtain ⟨A2, c2, x2, rfl, hc2, hr2⟩ := arg_ints (hval 2 23 v2 rfl rfl) h2
    exact names_calls A0 A2 c0 c2 x0 x1a x1b x1c x1p x1q x2 W (gw_of hsh hL) hr0 hc0 hr2 hc2 (mods_short hr0)

theorem graphNames_holds : Rows.GraphNamesSaid :=
  OpenClaim.holds_of_wide 7 Tryz.f7 rfl rfl rfl rfl rfl rfl rfl ⟨rfl, rfl, rfl, rfl, rfl⟩ rfl rfl rfl rfl rfl (by kernel_rfl) Tryz.func7 (by kernel_rfl)
    (of_decide_eq_true (by kernel_rfl)) (by unfold Func.isWrapper; first | (rw [if_pos (by decide +kernel)]; kernel_rfl) | (rw [if_neg (by decide +kernel)]; exact ⟨rfl, rfl⟩))
    (fun os started H enc _ => graphNames_lifted os started H enc)
theorem graphNames_card : Rows.GraphNamesCardSaid :=
  Claim7.holds_tied_plain_at .later [] [.data, .data, .data, .data, .sentinel, .sentinel, .pinned] true (true, "f76865aebec105446824ef4fc250f5829d81d697fd31bf23389957d1582360a2") true graphNames_holds (fun _ h => by cases h) (by kernel_rfl) (fun _ h => by cases h) graphNames_row_tie rfl ⟨rfl, rfl⟩ (by kernel_rfl) rfl
    (fun f fn hf hfn => by
      obtain rfl : f = 7 := Option.some.inj ((show Tryz.prog.funcNamed "armada/armadalaw16.GraphNames" = some 7 by kernel_rfl).symm.trans hf) |>.symm
      obtain rfl : fn = Tryz.f7 := (Option.some.inj (Tryz.func7.symm.trans hfn)).symm
      exact ⟨by kernel_rfl, fun j t ht => by
        rw [Tryz.params7] at ht
        have hm : t ∈ [22, 42, 23] := by simpa using Array.mem_of_getElem? ht
        have hall : ([22, 42, 23].all fun u => !Tryz.prog.wantsStandIn u) = true := by kernel_rfl
        exact (show Tryz.prog.wantsStandIn t = false by simpa using List.all_eq_true.1 hall t hm)⟩)
    (by kernel_rfl)
#print axioms graphNames_card
end Go.Proofs.YtnfiigjignpkaaaGreatDoor
