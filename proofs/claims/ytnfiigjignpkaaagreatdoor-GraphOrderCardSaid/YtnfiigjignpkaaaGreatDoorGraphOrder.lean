/- The law armadalaw16.GraphOrder answers true whatever modules it is handed, and what it was handed reads as it did; its tied card holds.
   Conditions: those of the row and the card alone: the listed variables of Go's library hold what the program's own text lays in them. -/
import Derived.Test.YtnfiigjignpkaaaGreatDoorRop
import Derived.Test.YtnfiigjignpkaaaGreatDoorOrderLaw
import Derived.Lib.SmallJoins
namespace Go.Proofs.YtnfiigjignpkaaaGreatDoor
open Go Go.ChangeShapes Go.WideShapes Go.ChangeAt Go.RowKit Go.Joins Go.Deep Go.Proofs.YtnfiigjignpkaaaGreatDoor.R5
set_option linter.unusedVariables false

set_option maxRecDepth 100000 in
theorem graphOrder_lifted (os : Os) (started : os.Started) (H : Type) (enc : TypeId × Value → H) :
    ReturnsInHanded {} Tryz.checked os 4 .any (fun w args => (Rows.graphOrderSpec.pre enc Tryz.prog Tryz.f4 Rows.graphOrderRow.domain false w args ∧ laidMetH Tryz.prog Rows.graphOrderRow.laid w) ∧ sizedMet enc Tryz.prog Tryz.f4 (OpenSpec.ofChange Rows.graphOrderSpec) false w args)
      (Rows.graphOrderSpec.post enc Tryz.prog Tryz.f4 false true false false) := by
  refine lifted_of (C := Tryz.checked) (tb := 4) laidOut rfl own started (by kernel_rfl) Tryz.func4 (by kernel_rfl) (by kernel_rfl) Tryz.underlying4 ?_
    (ChangeSpec.witness_shaped (enc := enc) (C := Tryz.checked) (os := os) (X := fun w _ => laidMetH Tryz.prog Rows.graphOrderRow.laid w) false (World.laidAll Tryz.prog os Rows.graphOrderRow.laid) #[.slice none 0 0] 8 (World.laidAll_os _ _ _)
      (World.shaped_of_ZipB (by kernel_rfl) (by kernel_rfl)) (by kernel_rfl) (by kernel_rfl) (by kernel_rfl)
      (by rw [MakeChecks.laidMetH_plain _ _ _ (by kernel_rfl)]; exact laidMet_laidAll _ (by kernel_rfl) (by kernel_rfl))) ?_
  · intro ds hd
    match ds, hd.trans (show Tryz.f4.params.size = 1 by kernel_rfl) with
    | [_], _ => rfl
  · intro W base args ds ps hval0 hA0 hz hsh hL
    have hval : ∀ (j : Nat) t v, Tryz.f4.params[j]? = some t → args[j]? = some v → Value.okWide Tryz.prog W .any base t v := hval0
    have hA : DataW.TrodAll enc Tryz.prog W 0 (fun _ => true) true Tryz.f4.params.toList args.toList ds ps := hA0
    rw [Tryz.params4] at hA hval
    obtain ⟨v0, d0, rfl, rfl, h0⟩ := trodAll_one hA
    obtain ⟨A0, c0, x0, rfl, hc0, hr0⟩ := arg_mods (hval 0 22 v0 rfl rfl) h0
    obtain ⟨k, hk⟩ := order_pure x0 hr0.2.1 (mods_short hr0)
    exact armadalaw16_GraphOrder.calls k A0 c0 x0 true W hr0 hc0 (gw_of hsh hL) rfl hk

theorem graphOrder_holds : Rows.GraphOrderSaid :=
  OpenClaim.holds_of_wide 4 Tryz.f4 rfl rfl rfl rfl rfl rfl rfl ⟨rfl, rfl, rfl, rfl, rfl⟩ rfl rfl rfl rfl rfl (by kernel_rfl) Tryz.func4 (by kernel_rfl)
    (of_decide_eq_true (by kernel_rfl)) (by unfold Func.isWrapper; first | (rw [if_pos (by decide +kernel)]; kernel_rfl) | (rw [if_neg (by decide +kernel)]; exact ⟨rfl, rfl⟩))
    (fun os started H enc _ => graphOrder_lifted os started H enc)
theorem graphOrder_card : Rows.GraphOrderCardSaid :=
  Claim7.holds_tied_plain_at .later [] [.data, .data, .data, .data, .sentinel, .sentinel, .pinned] true (true, "f76865aebec105446824ef4fc250f5829d81d697fd31bf23389957d1582360a2") true graphOrder_holds (fun _ h => by cases h) (by kernel_rfl) (fun _ h => by cases h) graphOrder_row_tie rfl ⟨rfl, rfl⟩ (by kernel_rfl) rfl
    (fun f fn hf hfn => by
      obtain rfl : f = 4 := Option.some.inj ((show Tryz.prog.funcNamed "armada/armadalaw16.GraphOrder" = some 4 by kernel_rfl).symm.trans hf) |>.symm
      obtain rfl : fn = Tryz.f4 := (Option.some.inj (Tryz.func4.symm.trans hfn)).symm
      exact ⟨by kernel_rfl, fun j t ht => by
        rw [Tryz.params4] at ht
        have hm : t ∈ [22] := by simpa using Array.mem_of_getElem? ht
        have hall : ([22].all fun u => !Tryz.prog.wantsStandIn u) = true := by kernel_rfl
        exact (show Tryz.prog.wantsStandIn t = false by simpa using List.all_eq_true.1 hall t hm)⟩)
    (by kernel_rfl)
#print axioms graphOrder_card
end Go.Proofs.YtnfiigjignpkaaaGreatDoor
