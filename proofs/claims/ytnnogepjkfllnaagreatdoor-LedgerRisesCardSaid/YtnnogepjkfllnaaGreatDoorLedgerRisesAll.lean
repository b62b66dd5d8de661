/- The law armadalaw15.LedgerRises answers true whatever text it is handed, and what it was handed reads as it did; its tied card holds.
   Conditions: those of the row and the card alone: the listed variables of Go's library hold what the program's own text lays in them. -/
import Derived.Test.YtnnogepjkfllnaaGreatDoorZR51
import Derived.Test.YtnnogepjkfllnaaGreatDoorZR52
import Derived.Test.YtnnogepjkfllnaaGreatDoorZR38
import Derived.Test.YtnnogepjkfllnaaGreatDoorZR49
import Derived.Test.YtnnogepjkfllnaaGreatDoorZR50
import Derived.Test.YtnnogepjkfllnaaGreatDoorZR6
import Derived.Deep.Slices
import Derived.ChangeArms
import Derived.WideShapes
import Derived.ChangeMaps
import Derived.Lib.SmallJoins
section
namespace Go.Proofs.YtnnogepjkfllnaaGreatDoor.LRises
open Go.RowKit Go.Proofs.YtnnogepjkfllnaaGreatDoor Go.Proofs.YtnnogepjkfllnaaGreatDoor.K0 Go.Proofs.YtnnogepjkfllnaaGreatDoor.R1 Go.Proofs.YtnnogepjkfllnaaGreatDoor.R2 Go.Proofs.YtnnogepjkfllnaaGreatDoor.R3 Go.Proofs.YtnnogepjkfllnaaGreatDoor.R4 Go.Proofs.YtnnogepjkfllnaaGreatDoor.R5 Go.Proofs.YtnnogepjkfllnaaGreatDoor.RS Go.Proofs.YtnnogepjkfllnaaGreatDoor.RD Go.Proofs.YtnnogepjkfllnaaGreatDoorW.PrintWords Go.Proofs.YtnnogepjkfllnaaGreatDoorW.PrintLast Go.Proofs.YtnnogepjkfllnaaGreatDoorW.PrintMore
attribute [local go_sem] max2_int min2_int max_two min_two max_three min_three max_four min_four
set_option linter.unusedVariables false
set_option linter.unusedSimpArgs false
end Go.Proofs.YtnnogepjkfllnaaGreatDoor.LRises
end

section
namespace Go.Proofs.YtnnogepjkfllnaaGreatDoor
open Go Go.RowKit Go.Proofs Go.Proofs.YtnnogepjkfllnaaGreatDoorW.PrintWords Go.Proofs.YtnnogepjkfllnaaGreatDoor.K0 Go.Proofs.YtnnogepjkfllnaaGreatDoor.R1 Go.Proofs.YtnnogepjkfllnaaGreatDoor.R2 Go.Proofs.YtnnogepjkfllnaaGreatDoor.R3 Go.Proofs.YtnnogepjkfllnaaGreatDoor.R4 Go.Proofs.YtnnogepjkfllnaaGreatDoor.R5 Go.Proofs.YtnnogepjkfllnaaGreatDoor.RS Go.Proofs.YtnnogepjkfllnaaGreatDoor.RD Go.Proofs.YtnnogepjkfllnaaGreatDoor.LRises
set_option linter.unusedVariables false
set_option linter.unusedSimpArgs false
theorem live_is : armadalaw15_live.f = some true := rfl
theorem rises_l1 (l : List Tg) (hl : l.length ≤ 4294967280) (hf : firstWrong [] l = 0) (n : Int) (i : Nat) (hi : i < l.length) (hnext : Ev (fun k => armadalaw15_LedgerRises.l0 k l n ((i + 1 : Nat) : Int)) true) : ∀ (d j : Nat), i - j = d → j ≤ i →
    Ev (fun k => armadalaw15_LedgerRises.l1 k l n (i : Int) (j : Int)) true := by
  obtain ⟨y, h1, _, h3⟩ := rdT_at (l := l) (n := i) hi
  intro d
  induction d with
  | zero =>
    intro j hd hj
    obtain ⟨K, hK⟩ := hnext
    refine ⟨K + 1, fun k hk => ?_⟩
    obtain ⟨k, rfl⟩ : ∃ m, k = m + 1 := ⟨k - 1, by omega⟩
    show armadalaw15_LedgerRises.l1 (k + 1) l n (i : Int) (j : Int) = some true
    simp only [armadalaw15_LedgerRises.l1]
    rw [if_neg (by omega), wrap_succ (by omega)]
    exact hK k (by omega)
  | succ d ih =>
    intro j hd hj
    obtain ⟨K, hK⟩ := ih (j + 1) (by omega) (by omega)
    obtain ⟨x, g1, _, g3⟩ := rdT_at (l := l) (n := j) (by omega)
    obtain ⟨K2, hK2⟩ := ref_Compare_f x.f1.f0 x.f1.f1 x.f1.f2 x.f1.f3 x.f1.f4 y.f1.f0 y.f1.f1 y.f1.f2 y.f1.f3 y.f1.f4
    refine ⟨max K K2 + 1, fun k hk => ?_⟩
    obtain ⟨k, rfl⟩ : ∃ m, k = m + 1 := ⟨k - 1, by omega⟩
    have e1 : armadalaw15_LedgerRises.l1 k l n (i : Int) ((j + 1 : Nat) : Int) = some true := hK k (by omega)
    have e2 : armadaref07_Compare.f k x.f1.f0 x.f1.f1 x.f1.f2 x.f1.f3 x.f1.f4 y.f1.f0 y.f1.f1 y.f1.f2 y.f1.f3 y.f1.f4 = some _ := hK2 k (by omega)
    show armadalaw15_LedgerRises.l1 (k + 1) l n (i : Int) (j : Int) = some true
    simp only [armadalaw15_LedgerRises.l1]
    rw [if_pos (by omega), if_pos (by omega), if_pos (by omega), if_pos (by omega), if_pos (by omega), g1, h1, wrap_succ (by omega), e1]
    by_cases hp : x.f0 = y.f0
    · have hr : verCmp x.f1.f0 x.f1.f1 x.f1.f2 x.f1.f3 x.f1.f4 y.f1.f0 y.f1.f1 y.f1.f2 y.f1.f3 y.f1.f4 = -1 := rises hf g3 h3 (by omega) hp
      rw [if_pos (by rw [hp]), e2, hr]
      simp only [Option.bind_some, if_true]
    · rw [if_neg (fun e => hp ((toList_eq_iff _ _).1 e))]
theorem rises_l0 (l : List Tg) (hl : l.length ≤ 4294967280) (hf : firstWrong [] l = 0) (hh : ∀ t ∈ l, t.f2.size ≤ 4010) : ∀ (d i : Nat), l.length - i = d → i ≤ l.length →
    Ev (fun k => armadalaw15_LedgerRises.l0 k l (l.length : Int) (i : Int)) true := by
  intro d
  induction d with
  | zero =>
    intro i hd hi
    refine ⟨1, fun k hk => ?_⟩
    obtain ⟨k, rfl⟩ : ∃ m, k = m + 1 := ⟨k - 1, by omega⟩
    show armadalaw15_LedgerRises.l0 (k + 1) l (l.length : Int) (i : Int) = some true
    simp only [armadalaw15_LedgerRises.l0]
    rw [if_neg (by omega)]
    simp only [live_is, Option.bind_some, if_true]
  | succ d ih =>
    intro i hd hi
    obtain ⟨y, h1, _, h3⟩ := rdT_at (l := l) (n := i) (by omega)
    have hm : y ∈ l := List.mem_of_getElem? h3
    obtain ⟨m, hw⟩ := firstWrong_mem hf hm
    obtain ⟨_, _, w3, w4, _⟩ := wrongT_ok.1 hw
    have w3' : fitsOk y.f0 y.f1.f0 y.f1.f1 y.f1.f2 y.f1.f3 y.f1.f4 = true := w3
    have w4' : hashOk y.f2.data.toList = true := w4
    obtain ⟨K, hK⟩ := rises_l1 l hl hf (l.length : Int) i (by omega) (ih (i + 1) (by omega) (by omega)) i 0 (by omega) (by omega)
    obtain ⟨K2, hK2⟩ := ref_Fits_f y.f0 y.f1.f0 y.f1.f1 y.f1.f2 y.f1.f3 y.f1.f4
    have hs := hh y hm
    refine ⟨max K K2 + 300000, fun k hk => ?_⟩
    obtain ⟨k, rfl⟩ : ∃ m, k = m + 1 + 1 := ⟨k - 2, by omega⟩
    have e1 : armadalaw15_LedgerRises.l1 k l (l.length : Int) (i : Int) ((0 : Nat) : Int) = some true := hK k (by omega)
    have e2 : armadaref08_Fits.f (k + 1) y.f0 y.f1.f0 y.f1.f1 y.f1.f2 y.f1.f3 y.f1.f4 = some _ := hK2 (k + 1) (by omega)
    show armadalaw15_LedgerRises.l0 (k + 1 + 1) l (l.length : Int) (i : Int) = some true
    conv => lhs; unfold armadalaw15_LedgerRises.l0
    rw [if_pos (by omega), if_pos (by omega), h1, e2, w3', ref_IsHash_f y.f2 (by omega) (k + 1) (by omega), w4']
    simp only [Option.bind_some, if_true, Bool.not_true]
    conv => lhs; unfold armadalaw15_LedgerRises.j1
    rw [if_neg (by simp)]
    exact e1
theorem rises_pure (s : ByteArray) : ∃ k, armadalaw15_LedgerRises.f k s = some true := by
  by_cases h4 : (s.size : Int) > 4000
  · refine ⟨0, ?_⟩
    unfold armadalaw15_LedgerRises.f
    rw [if_pos h4, live_is]
    rfl
  · obtain ⟨l, n, e, hp⟩ : ∃ l n e, parseT s.data.toList = (l, n, e) := ⟨_, _, _, rfl⟩
    have hsz := Lib.size_eq s
    rcases parse_ok hp with ⟨rfl, hf, rfl, ht⟩ | ⟨he, rfl, hn⟩
    · have hlen : (textB l).length ≤ 4001 := by
        rcases ht with h | h
        · rw [h]; omega
        · rw [h, List.length_append]; simp; omega
      have hc := text_count l
      obtain ⟨K, hK⟩ := rises_l0 l (by omega) hf (fun t ht => by have := text_mem ht; omega) l.length 0 (by omega) (by omega)
      refine ⟨K + 5000, ?_⟩
      have e1 : armadalaw15_LedgerRises.l0 (K + 5000) l (l.length : Int) ((0 : Nat) : Int) = some true := hK _ (by omega)
      unfold armadalaw15_LedgerRises.f
      rw [if_neg h4, parse_f s (by omega) _ (by omega), hp]
      simp only [Option.bind_some, if_true]
      exact e1
    · refine ⟨5000, ?_⟩
      unfold armadalaw15_LedgerRises.f
      rw [if_neg h4, parse_f s (by omega) _ (by omega), hp]
      simp only [Option.bind_some]
      rw [if_neg he, if_pos (show (([] : List Tg).length : Int) = 0 from rfl), if_pos hn, live_is]
      rfl
end Go.Proofs.YtnnogepjkfllnaaGreatDoor
end

section
namespace Go.Proofs.YtnnogepjkfllnaaGreatDoor
open Go Go.RowKit Go.Deep Go.WideShapes Go.Proofs.YtnnogepjkfllnaaGreatDoorW.PrintWords Go.Proofs.YtnnogepjkfllnaaGreatDoor.K0
set_option linter.unusedVariables false
section
variable {H : Type} (enc : TypeId × Value → H) (P : Program) (w : World) (base : Nat) (spare : Nat → Bool) (held : Bool)
variable {enc P w base spare held}
end
section
variable {H : Type} {enc : TypeId × Value → H} {w : World} {base : Nat} {spare : Nat → Bool} {held : Bool}
instance : Inhabited S32 := ⟨z32⟩
end
end Go.Proofs.YtnnogepjkfllnaaGreatDoor
end

section
namespace Go.Proofs.YtnnogepjkfllnaaGreatDoor
open Go Go.ChangeShapes Go.WideShapes Go.ChangeAt Go.RowKit Go.Joins Go.Deep Go.Proofs.YtnnogepjkfllnaaGreatDoor.LRises
set_option linter.unusedVariables false
set_option maxRecDepth 100000 in
theorem ledgerRises_lifted (os : Os) (started : os.Started) (H : Type) (enc : TypeId × Value → H) :
    ReturnsInHanded {} Tryz.checked os 8 .any (fun w args => (Rows.ledgerRisesSpec.pre enc Tryz.prog Tryz.f8 Rows.ledgerRisesRow.domain false w args ∧ laidMetH Tryz.prog Rows.ledgerRisesRow.laid w) ∧ sizedMet enc Tryz.prog Tryz.f8 (OpenSpec.ofChange Rows.ledgerRisesSpec) false w args)
      (Rows.ledgerRisesSpec.post enc Tryz.prog Tryz.f8 false true false false) := by
  refine lifted_of (C := Tryz.checked) (tb := 4) laidOut rfl own started (by kernel_rfl) Tryz.func8 (by kernel_rfl) (by kernel_rfl) Tryz.underlying4 ?_
    (ChangeSpec.witness_shaped (enc := enc) (C := Tryz.checked) (os := os) (X := fun w _ => laidMetH Tryz.prog Rows.ledgerRisesRow.laid w) false (World.laidAll Tryz.prog os Rows.ledgerRisesRow.laid) #[.string ⟨#[]⟩] 8 (World.laidAll_os _ _ _)
      (World.shaped_of_ZipB (by kernel_rfl) (by kernel_rfl)) (by kernel_rfl) (by kernel_rfl) (by kernel_rfl)
      (by rw [MakeChecks.laidMetH_plain _ _ _ (by kernel_rfl)]; exact laidMet_laidAll _ (by kernel_rfl) (by kernel_rfl))) ?_
  · intro ds hd
    match ds, hd.trans (show Tryz.f8.params.size = 1 by kernel_rfl) with
    | [_], _ => rfl
  · intro W base args ds ps hval0 hA0 hz hsh hL
    have hval : ∀ (j : Nat) t v, Tryz.f8.params[j]? = some t → args[j]? = some v → Value.okWide Tryz.prog W .any base t v := hval0
    have hA : DataW.TrodAll enc Tryz.prog W 0 (fun _ => true) true Tryz.f8.params.toList args.toList ds ps := hA0
    rw [Tryz.params8] at hA hval
    obtain ⟨v0, d0, rfl, rfl, h0⟩ := trodAll_one hA
    obtain ⟨x0, rfl, rfl, rfl, _⟩ := ChangeMaps.open_string Tryz.underlying9 (hval 0 9 v0 rfl rfl) h0
    obtain ⟨k, hk⟩ := rises_pure x0
    exact armadalaw15_LedgerRises.calls k x0 true W  (gw_of hsh hL) rfl hk
theorem ledgerRises_holds : Rows.LedgerRisesSaid :=
  OpenClaim.holds_of_wide 8 Tryz.f8 rfl rfl rfl rfl rfl rfl rfl ⟨rfl, rfl, rfl, rfl, rfl⟩ rfl rfl rfl rfl rfl (by kernel_rfl) Tryz.func8 (by kernel_rfl)
    (of_decide_eq_true (by kernel_rfl)) (by unfold Func.isWrapper; first | (rw [if_pos (by decide +kernel)]; kernel_rfl) | (rw [if_neg (by decide +kernel)]; exact ⟨rfl, rfl⟩))
    (fun os started H enc _ => ledgerRises_lifted os started H enc)
theorem ledgerRises_card : Rows.LedgerRisesCardSaid :=
  Claim7.holds_tied_plain_at .later [] [.data, .data, .data, .data, .sentinel, .sentinel, .pinned] true (true, "467e72078bdb4086deb25c68794a13b6caf9d6440c40e548494a61aec24032e9") true ledgerRises_holds (fun _ h => by cases h) (by kernel_rfl) (fun _ h => by cases h) ledgerRises_row_tie rfl ⟨rfl, rfl⟩ (by kernel_rfl) rfl
    (fun f fn hf hfn => by
      obtain rfl : f = 8 := Option.some.inj ((show Tryz.prog.funcNamed "armada/armadalaw15.LedgerRises" = some 8 by kernel_rfl).symm.trans hf) |>.symm
      obtain rfl : fn = Tryz.f8 := (Option.some.inj (Tryz.func8.symm.trans hfn)).symm
      exact ⟨by kernel_rfl, fun j t ht => by
        rw [Tryz.params8] at ht
        have hm : t ∈ [9] := by simpa using Array.mem_of_getElem? ht
        have hall : ([9].all fun u => !Tryz.prog.wantsStandIn u) = true := by kernel_rfl
        exact (show Tryz.prog.wantsStandIn t = false by simpa using List.all_eq_true.1 hall t hm)⟩)
    (by kernel_rfl)
#print axioms ledgerRises_card
end Go.Proofs.YtnnogepjkfllnaaGreatDoor
end
