/- The law armadalaw15.LedgerCut answers true whatever tags and number it is handed, of bulk at most 1048576, and what it was handed reads as it did; its tied card of the second form holds.
   Conditions: those of the row and the card alone: the listed variables of Go's library hold what the program's own text lays in them; what is read is of bulk at most 1048576. -/
import Derived.Test.YtnnogepjkfllnaaGreatDoorZC40
import Derived.Test.YtnnogepjkfllnaaGreatDoorZC41
import Derived.Test.YtnnogepjkfllnaaGreatDoorZC6
import Derived.Test.YtnnogepjkfllnaaGreatDoorZC7
import Derived.Lib.SmallJoins
section
namespace Go.Proofs.YtnnogepjkfllnaaGreatDoor.LCut
open Go.RowKit Go.Proofs.YtnnogepjkfllnaaGreatDoor Go.Proofs.YtnnogepjkfllnaaGreatDoor.K0 Go.Proofs.YtnnogepjkfllnaaGreatDoor.R1 Go.Proofs.YtnnogepjkfllnaaGreatDoor.R2 Go.Proofs.YtnnogepjkfllnaaGreatDoor.R3 Go.Proofs.YtnnogepjkfllnaaGreatDoor.R4 Go.Proofs.YtnnogepjkfllnaaGreatDoor.R5 Go.Proofs.YtnnogepjkfllnaaGreatDoor.RS Go.Proofs.YtnnogepjkfllnaaGreatDoorW.PrintWords Go.Proofs.YtnnogepjkfllnaaGreatDoorW.PrintLast Go.Proofs.YtnnogepjkfllnaaGreatDoorW.PrintMore
attribute [local go_sem] max2_int min2_int max_two min_two max_three min_three max_four min_four
set_option linter.unusedVariables false
set_option linter.unusedSimpArgs false
end Go.Proofs.YtnnogepjkfllnaaGreatDoor.LCut
end

section
namespace Go.Proofs.YtnnogepjkfllnaaGreatDoor
open Go Go.RowKit Go.Proofs Go.Proofs.YtnnogepjkfllnaaGreatDoorW.PrintWords Go.Proofs.YtnnogepjkfllnaaGreatDoor.K0 Go.Proofs.YtnnogepjkfllnaaGreatDoor.R1 Go.Proofs.YtnnogepjkfllnaaGreatDoor.R2 Go.Proofs.YtnnogepjkfllnaaGreatDoor.R3 Go.Proofs.YtnnogepjkfllnaaGreatDoor.R4 Go.Proofs.YtnnogepjkfllnaaGreatDoor.R5 Go.Proofs.YtnnogepjkfllnaaGreatDoor.RS Go.Proofs.YtnnogepjkfllnaaGreatDoor.LCut
set_option linter.unusedVariables false
set_option linter.unusedSimpArgs false
theorem live_is : armadalaw15_live.f = some true := rfl
theorem textB_app (a b : List Tg) : textB (a ++ b) = textB a ++ textB b := by unfold textB; rw [List.flatMap_append]
theorem cut_j0 (l : List Tg) (n : Nat) (hn : n ≤ l.length) (h60 : l.length ≤ 60) (h200 : ∀ x ∈ l, x.f2.size ≤ 200) (hf : firstWrong [] l = 0) (k : Nat) (hk : 50000 < k) : armadalaw15_LedgerCut.j0 k l (n : Int) (ba (textB l)) false = some true := by
  obtain ⟨k, rfl⟩ : ∃ m, k = m + 2 := ⟨k - 2, by omega⟩
  have hsplit : l = l.take n ++ l.drop n := (List.take_append_drop n l).symm
  have f1 : firstWrong [] (l.take n) = 0 := firstWrong_part (a := []) (m := l.take n) (b := l.drop n) hf (by rw [List.nil_append]; exact hsplit)
  have f2 : firstWrong [] (l.drop n) = 0 := firstWrong_part (a := l.take n) (m := l.drop n) (b := []) hf (by rw [List.append_nil]; exact hsplit)
  have ht : textB l = textB (l.take n) ++ textB (l.drop n) := by
    have := textB_app (l.take n) (l.drop n)
    rw [List.take_append_drop] at this
    exact this
  have hsm := text_small (fun x hx => firstWrong_mem hf hx) h200
  have hlen : (textB l).length = (textB (l.take n)).length + (textB (l.drop n)).length := by rw [ht, List.length_append]
  have hl1 : (l.take n).length = n := by rw [List.length_take]; omega
  have hl2 : (l.drop n).length = l.length - n := by rw [List.length_drop]
  simp only [armadalaw15_LedgerCut.j0]
  rw [if_neg (by simp), if_pos (by omega), if_pos (by omega), Int.toNat_natCast, text_gen (l.take n) (by omega) (fun x hx => by have := h200 x (List.mem_of_mem_take hx); omega) (fun _ => by omega)]
  unfold txtT
  rw [if_pos f1]
  simp only [Option.bind_some, if_true]
  rw [if_neg (by rw [ba_size, ba_size]; omega), if_pos (by omega), if_pos (by rw [ba_size, ba_size]; omega), Int.toNat_natCast]
  have e1 : (ba (textB l)).extract 0 (ba (textB (l.take n))).size = ba (textB (l.take n)) := by
    apply by_data
    rw [Lib.extract_data, ba_data, ba_data, ba_size, ht]
    simp
  have e2 : (ba (textB l)).extract (ba (textB (l.take n))).size (ba (textB l)).size = ba (textB (l.drop n)) := by
    apply by_data
    rw [Lib.extract_to_end, ba_data, ba_data, ba_size, ht]
    simp
  rw [e1]
  have e3 : ((ba (textB (l.take n))).toList != (ba (textB (l.take n))).toList) = false := by simp
  rw [e3]
  simp only [armadalaw15_LedgerCut.j1]
  rw [if_neg (by simp), if_pos (by omega), if_pos (by rw [ba_size, ba_size]; omega), Int.toNat_natCast, e1, e2, parse_f _ (by rw [ba_size]; omega) k (by rw [ba_size]; omega), parse_f _ (by rw [ba_size]; omega) k (by rw [ba_size]; omega), ba_data, ba_data, parse_text f1, parse_text f2]
  simp only [Option.bind_some, live_is]
  rw [if_pos trivial, if_pos (by rw [hl1]), if_pos (by omega), if_pos (by omega), Int.toNat_natCast, same_self (l.take n) (by omega) k (by omega)]
  simp only [Option.bind_some]
  rw [if_pos trivial, if_pos (by rw [hl2]; unfold wrap64; omega), same_self (l.drop n) (by omega) k (by omega)]
  rfl
theorem cut_pure (l : List Tg) (n : Int) (hl : l.length ≤ 9223372036854775807) (h88 : l.length * 88 ≤ 140737488355328) (hh : ∀ t ∈ l, t.f2.size ≤ 140737488355328) (ht : firstWrong [] l = 0 → (textB l).length ≤ 140737488355328) : ∃ k, armadalaw15_LedgerCut.f k l n = some true := by
  refine ⟨l.length + 100000, ?_⟩
  obtain ⟨k, hk⟩ : ∃ k, l.length + 100000 = k + 2 := ⟨l.length + 99998, by omega⟩
  unfold armadalaw15_LedgerCut.f
  rw [text_gen l h88 hh ht, few_f l hl _ (by omega), hk]
  simp only [Option.bind_some]
  have skip : ∀ x, armadalaw15_LedgerCut.j0 (k + 2) l n x true = some true := fun x => by
    simp only [armadalaw15_LedgerCut.j0, live_is, Option.bind_some, if_true]
  by_cases hfw : fewT l = true
  · rw [if_pos hfw]
    obtain ⟨h60, h200⟩ := few_len hfw
    by_cases hf : firstWrong [] l = 0
    · unfold txtT
      rw [if_pos hf, if_pos rfl]
      by_cases h0 : n < 0
      · rw [if_pos h0]; exact skip _
      · rw [if_neg h0]
        by_cases h1 : n > (l.length : Int)
        · rw [decide_eq_true h1]; exact skip _
        · rw [decide_eq_false h1]
          obtain ⟨m, rfl⟩ : ∃ m : Nat, n = (m : Int) := ⟨n.toNat, by omega⟩
          exact cut_j0 l m (by omega) h60 h200 hf _ (by omega)
    · unfold txtT
      rw [if_neg hf, if_neg hf]; exact skip _
  · rw [if_neg hfw]; exact skip _
end Go.Proofs.YtnnogepjkfllnaaGreatDoor
end

section
namespace Go.Proofs.YtnnogepjkfllnaaGreatDoor
open Go Go.ChangeShapes Go.WideShapes Go.ChangeAt Go.RowKit Go.Joins Go.Deep Go.Proofs.YtnnogepjkfllnaaGreatDoorW.PrintWords Go.Proofs.YtnnogepjkfllnaaGreatDoor.K0 Go.Proofs.YtnnogepjkfllnaaGreatDoor.LCut
set_option linter.unusedVariables false
theorem tags_bulk {l : List S32} {n : Nat} (h : (l.map tagB).sum ≤ n) : l.length ≤ n ∧ (∀ t ∈ l, t.f2.size ≤ n) ∧ (firstWrong [] l = 0 → (textB l).length ≤ n * 200) := by
  have key : ∀ l : List S32, l.length ≤ (l.map tagB).sum ∧ (∀ t ∈ l, t.f2.size ≤ (l.map tagB).sum) ∧ ((∀ t ∈ l, ∃ m, wrongT m t = 0) → (textB l).length ≤ (l.map tagB).sum * 200) := by
    intro l
    induction l with
    | nil => exact ⟨by simp, by simp, fun _ => by simp [textB]⟩
    | cons t l ih =>
      obtain ⟨i1, i2, i3⟩ := ih
      have e : ((t :: l).map tagB).sum = tagB t + (l.map tagB).sum := by simp
      have et : tagB t = t.f0.size + (0 + t.f2.size) + 1 := rfl
      rw [e]
      refine ⟨by rw [List.length_cons]; omega, fun x hx => ?_, fun hw => ?_⟩
      · rcases List.mem_cons.1 hx with rfl | hx
        · omega
        · have := i2 x hx; omega
      · have h3 := i3 fun x hx => hw x (List.mem_cons_of_mem _ hx)
        obtain ⟨m, hm⟩ := hw t List.mem_cons_self
        obtain ⟨h1, h2, _⟩ := wrongT_ok.1 hm
        have hv : verOk t.f1.f0 t.f1.f1 t.f1.f2 t.f1.f3 t.f1.f4 = true := h2
        have l1 := check_size h1
        have l2 := bytesV_len hv
        have s0 := Lib.size_eq t.f0
        have s2 := Lib.size_eq t.f2
        have : (lineT t).length + 1 ≤ tagB t * 200 := by
          unfold lineT
          simp only [List.length_append, List.length_cons]
          omega
        unfold textB at h3 ⊢
        rw [List.flatMap_cons]
        simp only [List.length_append, List.length_cons, List.length_nil] at h3 ⊢
        omega
  obtain ⟨k1, k2, k3⟩ := key l
  refine ⟨by omega, fun t ht => by have := k2 t ht; omega, fun hf => ?_⟩
  have := k3 fun t ht => firstWrong_mem hf ht
  omega
set_option maxRecDepth 100000 in
theorem ledgerCut_lifted (os : Os) (started : os.Started) (H : Type) (enc : TypeId × Value → H) (F : Stop.Interp) :
    ReturnsInHanded {} Tryz.checked os 7 .any ((Rows.OpenSpec.upto Rows.ledgerCutSpec).preRow enc Tryz.prog Tryz.f7 Rows.ledgerCutUptoRow.domain false Rows.ledgerCutUptoRow.laid)
      (((Rows.OpenSpec.upto Rows.ledgerCutSpec).at F).post enc Tryz.prog Tryz.f7 false true false false) := by
  refine lifted_upto (C := Tryz.checked) (tb := 4) laidOut rfl own started (by kernel_rfl) Tryz.func7 (by kernel_rfl) (by kernel_rfl) Tryz.underlying4 ?_ ?_ ?_
  · intro ds hd
    match ds, hd.trans (show Tryz.f7.params.size = 2 by kernel_rfl) with
    | [_, _], _ => rfl
  · refine ⟨World.laidAll Tryz.prog os Rows.ledgerCutUptoRow.laid, fun _ _ => 0, ⟨#[], #[.slice none 0 0, .int .i64 0], []⟩, World.laidAll_os _ _ _, World.shaped_of_ZipB (by kernel_rfl) (by kernel_rfl), rfl,
      (Input.okWide_of_okWideB (show Input.okWideB Tryz.prog ((World.laidAll Tryz.prog os Rows.ledgerCutUptoRow.laid).forCall (fun _ _ => 0) ⟨#[], #[.slice none 0 0, .int .i64 0], []⟩) 7 ⟨#[], #[.slice none 0 0, .int .i64 0], []⟩ = true by kernel_rfl)).2, ?_, ?_⟩
    · have hw : (DataW.whole enc Tryz.prog ((World.laidAll Tryz.prog os Rows.ledgerCutUptoRow.laid).forCall (fun _ _ => 0) ⟨#[], #[.slice none 0 0, .int .i64 0], []⟩).memory Tryz.f7.params.toList (Rows.OpenSpec.upto Rows.ledgerCutSpec).vars false #[Value.slice none 0 0, .int .i64 0].toList 8).map (fun x => (x.1, x.2.1)) =
          some ([.nil, .lit (.int .i64 0)], []) := by kernel_rfl
      obtain ⟨⟨x1, x2, x3⟩, hx, hx1⟩ := Option.map_eq_some_iff.1 hw
      simp only [Prod.mk.injEq] at hx1
      obtain ⟨rfl, rfl⟩ := hx1
      exact OpenSpec.preRow_of_cond 8 hx (by kernel_rfl) (fun k hk => by cases hk; rfl) (by kernel_rfl) (by rw [MakeChecks.laidMetH_plain _ _ _ (by kernel_rfl)]; exact laidMet_laidAll _ (by kernel_rfl) (by kernel_rfl))
    · simp only [Assume.holds]
      exact ⟨by simp, by simp, by simp, by simp, by simp, by simp⟩
  · intro W base args ds ps hval0 hA0 hz hsh hL
    have hval : ∀ (j : Nat) t v, Tryz.f7.params[j]? = some t → args[j]? = some v → Value.okWide Tryz.prog W .any base t v := hval0
    have hA : DataW.TrodAll enc Tryz.prog W 0 (fun _ => true) true Tryz.f7.params.toList args.toList ds ps := hA0
    rw [Tryz.params7] at hA hval
    obtain ⟨v0, v1, d0, d1, p0, p1, rfl, rfl, rfl, h0, h1⟩ := trodAll_two hA
    obtain ⟨A0, c0, x0, rfl, hc0, hr0, hb0⟩ := arg_tagsB (hval 0 23 v0 rfl rfl) h0
    obtain ⟨x1, rfl, rfl, rfl, _⟩ := open_int Tryz.underlying3 (hval 1 3 v1 rfl rfl) h1
    have hbulk : (x0.map tagB).sum ≤ 1048576 := by
      simp only [Rows.uptoBulkAll] at hz
      omega
    obtain ⟨b1, b2, b3⟩ := tags_bulk hbulk
    obtain ⟨k, hk⟩ := cut_pure x0 x1 hr0.2.1 (by omega) (fun t ht => by have := b2 t ht; omega) (fun hf => by have := b3 hf; omega)
    exact armadalaw15_LedgerCut.calls k A0 c0 x0 x1 true W hr0 hc0 (gw_of hsh hL) rfl hk
theorem ledgerCut_holds : Rows.LedgerCutUptoSaid :=
  OpenClaim.holds_of_cond 7 Tryz.f7 rfl rfl rfl rfl rfl rfl rfl ⟨rfl, rfl, rfl, rfl, rfl⟩ rfl rfl rfl rfl rfl (by kernel_rfl) Tryz.func7 (by kernel_rfl)
    (of_decide_eq_true (by kernel_rfl)) (by unfold Func.isWrapper; first | (rw [if_pos (by decide +kernel)]; kernel_rfl) | (rw [if_neg (by decide +kernel)]; exact ⟨rfl, rfl⟩))
    (fun os started H enc _ F => by rw [OpenClaim.pre_eq_preRow]; exact ledgerCut_lifted os started H enc F)
theorem ledgerCut_card : Rows.LedgerCutUptoCardSaid :=
  Claim7.holds_tied_plain_at .later [] [.data, .data, .data, .data, .sentinel, .sentinel, .pinned] true (true, "467e72078bdb4086deb25c68794a13b6caf9d6440c40e548494a61aec24032e9") true ledgerCut_holds (fun _ h => by cases h) (by kernel_rfl) (fun _ h => by cases h) ledgerCutUpto_row_tie rfl ⟨rfl, rfl⟩ (by kernel_rfl) rfl
    (fun f fn hf hfn => by
      obtain rfl : f = 7 := Option.some.inj ((show Tryz.prog.funcNamed "armada/armadalaw15.LedgerCut" = some 7 by kernel_rfl).symm.trans hf) |>.symm
      obtain rfl : fn = Tryz.f7 := (Option.some.inj (Tryz.func7.symm.trans hfn)).symm
      exact ⟨by kernel_rfl, fun j t ht => by
        rw [Tryz.params7] at ht
        have hm : t ∈ [23, 3] := by simpa using Array.mem_of_getElem? ht
        have hall : ([23, 3].all fun u => !Tryz.prog.wantsStandIn u) = true := by kernel_rfl
        exact (show Tryz.prog.wantsStandIn t = false by simpa using List.all_eq_true.1 hall t hm)⟩)
    (by kernel_rfl)
#print axioms ledgerCut_card
end Go.Proofs.YtnnogepjkfllnaaGreatDoor
end
