/- The texts LCutx1 in one file, without what this claim does not use (put together by prune.py). -/
import Derived.Test.YtnnogepjkfllnaaGreatDoorZC40
section
namespace Go.Proofs.YtnnogepjkfllnaaGreatDoor.LCut
open Go.RowKit Go.Proofs.YtnnogepjkfllnaaGreatDoor Go.Proofs.YtnnogepjkfllnaaGreatDoor.K0 Go.Proofs.YtnnogepjkfllnaaGreatDoor.R1 Go.Proofs.YtnnogepjkfllnaaGreatDoor.R2 Go.Proofs.YtnnogepjkfllnaaGreatDoor.R3 Go.Proofs.YtnnogepjkfllnaaGreatDoor.R4 Go.Proofs.YtnnogepjkfllnaaGreatDoor.R5 Go.Proofs.YtnnogepjkfllnaaGreatDoor.RS Go.Proofs.YtnnogepjkfllnaaGreatDoorW.PrintWords Go.Proofs.YtnnogepjkfllnaaGreatDoorW.PrintLast Go.Proofs.YtnnogepjkfllnaaGreatDoorW.PrintMore
attribute [local go_sem] max2_int min2_int max_two min_two max_three min_three max_four min_four
set_option linter.unusedVariables false
set_option linter.unusedSimpArgs false
mutual
def armadalaw15_LedgerCut.j0 : Nat → List (S32) → Int → ByteArray → Bool → Option (Bool)
 | 0, _, _, _, _ => none
 | k + 1, x0, x1, x5, x36 => if x36 = true then ((armadalaw15_live.f).bind fun t104 => (some t104)) else (if 0 ≤ x1 then (if x1 ≤ (x0.length : Int) then ((ledger_Text.f (x0.take (x1 : Int).toNat)).bind fun bt109 => (if bt109.2 = 0 then (if (bt109.1.size : Int) > (x5.size : Int) then (armadalaw15_LedgerCut.j1 k x0 x1 x5 bt109.1 true) else (if 0 ≤ (bt109.1.size : Int) then (if (bt109.1.size : Int) ≤ (x5.size : Int) then (armadalaw15_LedgerCut.j1 k x0 x1 x5 bt109.1 ((x5.extract 0 ((bt109.1.size : Int) : Int).toNat).toList != bt109.1.toList)) else (none)) else (none))) else (armadalaw15_LedgerCut.j1 k x0 x1 x5 bt109.1 true))) else (none)) else (none))
def armadalaw15_LedgerCut.j1 : Nat → List (S32) → Int → ByteArray → ByteArray → Bool → Option (Bool)
 | 0, _, _, _, _, _ => none
 | k + 1, x0, x1, x5, x7, x61 => if x61 = true then (some false) else (if 0 ≤ (x7.size : Int) then (if (x7.size : Int) ≤ (x5.size : Int) then ((ledger_Parse.f k (x5.extract 0 ((x7.size : Int) : Int).toNat)).bind fun bt111 => ((ledger_Parse.f k (x5.extract ((x7.size : Int) : Int).toNat x5.size)).bind fun bt116 => (if bt111.2.2 = 0 then (if bt111.2.1 = x1 then (if 0 ≤ x1 then (if x1 ≤ (x0.length : Int) then ((armadaref15_Same.f k bt111.1 (x0.take (x1 : Int).toNat)).bind fun t125 => (if t125 = true then (if bt116.2.1 = (wrap64 ((x0.length : Int) - x1)) then ((armadaref15_Same.f k bt116.1 (x0.drop (x1 : Int).toNat)).bind fun t130 => (if t130 = true then ((armadalaw15_live.f).bind fun t131 => (some t131)) else (some false))) else (some false)) else (some false))) else (none)) else (none)) else (some false)) else (some false)))) else (none)) else (none))
end
def armadalaw15_LedgerCut.f (k : Nat) (l0 : List (S32)) (a1 : Int) : Option (Bool) := (ledger_Text.f l0).bind fun bt101 => ((armadaref15_Few.f k l0).bind fun t103 => (if t103 = true then (if bt101.2 = 0 then (if a1 < 0 then (armadalaw15_LedgerCut.j0 k l0 a1 bt101.1 true) else (armadalaw15_LedgerCut.j0 k l0 a1 bt101.1 (decide (a1 > (l0.length : Int))))) else (armadalaw15_LedgerCut.j0 k l0 a1 bt101.1 true)) else (armadalaw15_LedgerCut.j0 k l0 a1 bt101.1 true)))
theorem armadalaw15_LedgerCut.mono_l : ∀ k, (∀ y0 y1 y2 y3, LeO (armadalaw15_LedgerCut.j0 k y0 y1 y2 y3) (armadalaw15_LedgerCut.j0 (k + 1) y0 y1 y2 y3)) ∧ (∀ y0 y1 y2 y3 y4, LeO (armadalaw15_LedgerCut.j1 k y0 y1 y2 y3 y4) (armadalaw15_LedgerCut.j1 (k + 1) y0 y1 y2 y3 y4))
 | 0 => ⟨fun _ _ _ _ r h => by simp [armadalaw15_LedgerCut.j0] at h, fun _ _ _ _ _ r h => by simp [armadalaw15_LedgerCut.j1] at h⟩
 | k + 1 => by
  obtain ⟨ih0, ih1⟩ := armadalaw15_LedgerCut.mono_l k
  refine ⟨?_, ?_⟩
  ·
   intro y0 y1 y2 y3
   unfold armadalaw15_LedgerCut.j0
   repeat' first
   | (with_reducible exact ih0 _ _ _ _)
   | (with_reducible exact ih1 _ _ _ _ _)
   | (with_reducible exact armadaref15_Few.mono _ _)
   | (with_reducible exact armadaref15_Same.mono _ _ _)
   | (with_reducible exact ledger_Parse.mono _ _)
   | (with_reducible exact LeO.refl _)
   | (with_reducible exact LeO.none _)
   | (with_reducible refine LeO.ite ?_ ?_)
   | (with_reducible refine LeO.bind ?_ (fun _ => ?_))
   | exact ih0 _ _ _ _
   | exact ih1 _ _ _ _ _
   | exact armadaref15_Few.mono _ _
   | exact armadaref15_Same.mono _ _ _
   | exact ledger_Parse.mono _ _
   | exact LeO.none _
   | refine LeO.ite ?_ ?_
   | refine LeO.bind ?_ (fun _ => ?_)
  ·
   intro y0 y1 y2 y3 y4
   unfold armadalaw15_LedgerCut.j1
   repeat' first
   | (with_reducible exact ih0 _ _ _ _)
   | (with_reducible exact ih1 _ _ _ _ _)
   | (with_reducible exact armadaref15_Few.mono _ _)
   | (with_reducible exact armadaref15_Same.mono _ _ _)
   | (with_reducible exact ledger_Parse.mono _ _)
   | (with_reducible exact LeO.refl _)
   | (with_reducible exact LeO.none _)
   | (with_reducible refine LeO.ite ?_ ?_)
   | (with_reducible refine LeO.bind ?_ (fun _ => ?_))
   | exact ih0 _ _ _ _
   | exact ih1 _ _ _ _ _
   | exact armadaref15_Few.mono _ _
   | exact armadaref15_Same.mono _ _ _
   | exact ledger_Parse.mono _ _
   | exact LeO.none _
   | refine LeO.ite ?_ ?_
   | refine LeO.bind ?_ (fun _ => ?_)
theorem armadalaw15_LedgerCut.mono : ∀ a0 a1 k, LeO (armadalaw15_LedgerCut.f k a0 a1) (armadalaw15_LedgerCut.f (k + 1) a0 a1) := by
 intro a0 a1 k
 obtain ⟨ih0, ih1⟩ := armadalaw15_LedgerCut.mono_l k
 unfold armadalaw15_LedgerCut.f
 repeat' first
   | (with_reducible exact ih0 _ _ _ _)
   | (with_reducible exact ih1 _ _ _ _ _)
   | (with_reducible exact armadaref15_Few.mono _ _)
   | (with_reducible exact armadaref15_Same.mono _ _ _)
   | (with_reducible exact ledger_Parse.mono _ _)
   | (with_reducible exact LeO.refl _)
   | (with_reducible exact LeO.none _)
   | (with_reducible refine LeO.ite ?_ ?_)
   | (with_reducible refine LeO.bind ?_ (fun _ => ?_))
   | exact ih0 _ _ _ _
   | exact ih1 _ _ _ _ _
   | exact armadaref15_Few.mono _ _
   | exact armadaref15_Same.mono _ _ _
   | exact ledger_Parse.mono _ _
   | exact LeO.none _
   | refine LeO.ite ?_ ?_
   | refine LeO.bind ?_ (fun _ => ?_)
set_option maxHeartbeats 8000000 in
set_option maxRecDepth 100000 in
theorem armadalaw15_LedgerCut.calls (k : Nat) (A0 : Option Addr) (c0 : Nat) (l0 : List (S32)) (a1 : Int) (r : Bool) (w : World) (hr0 : Kd.C k32 w A0 l0.length l0) (hc0 : l0.length ≤ c0) (hG : GW w) (hT : r = true) (h : armadalaw15_LedgerCut.f k l0 a1 = some r) :
  Calls Tryz.prog 7 #[.slice A0 l0.length c0, .int .i64 a1] w fun e w' => e = .returned (.bool r) ∧ Below w.heap.size w w' := by
 have HR0 := Aside0.mk hr0
 have HC0 := Aside0.mk hc0
 clear hr0 hc0
 have HGW := Aside0.mk hG
 clear hG
 have HTRU_ := Aside0.mk hT
 clear hT
 have HB := Aside0.mk (Below.refl w.heap.size w)
 have H : ((ledger_Text.f l0).bind fun bt101 => ((armadaref15_Few.f k l0).bind fun t103 => (if t103 = true then (if bt101.2 = 0 then (if a1 < 0 then (armadalaw15_LedgerCut.j0 k l0 a1 bt101.1 true) else (armadalaw15_LedgerCut.j0 k l0 a1 bt101.1 (decide (a1 > (l0.length : Int))))) else (armadalaw15_LedgerCut.j0 k l0 a1 bt101.1 true)) else (armadalaw15_LedgerCut.j0 k l0 a1 bt101.1 true)))) = some r := h
 clear h
 replace H := Option.bind_eq_some_iff.mp H
 obtain ⟨⟨t101, t102⟩, A30, H⟩ := H
 replace H : ((armadaref15_Few.f k l0).bind fun t103 => (if t103 = true then (if t102 = 0 then (if a1 < 0 then (armadalaw15_LedgerCut.j0 k l0 a1 t101 true) else (armadalaw15_LedgerCut.j0 k l0 a1 t101 (decide (a1 > (l0.length : Int))))) else (armadalaw15_LedgerCut.j0 k l0 a1 t101 true)) else (armadalaw15_LedgerCut.j0 k l0 a1 t101 true))) = some r := H
 have A3 := Aside0.mk A30
 clear A30
 have HC4 := Aside0.mk H
 clear H
 go_enter Tryz.func7, Tryz.ntmps7
 go_upto_region 2 with (first | ((with_reducible refine gate_callee (f := 14) rfl ?_); refine goesL_ (some 17) rfl rfl Tryz.func14 (by kernel_rfl) rfl #[.slice A0 l0.length c0] rfl (by (try simp only [List.map_toArray, List.map_cons, List.map_nil]); first | done | rfl | (simp only [List.length_drop, List.length_take]; rfl)) ?_; (with_reducible refine (ledger_Text.calls _ _ l0 t101 t102 _ ?side1 ?side2 ?side3 A3.out).mono ?_); (case side1 => repeat (first | exact HR0.out | (with_reducible refine Kd.C_alloc ?_ _) | (with_reducible refine Kd.C_drewN ?_ _) | (with_reducible refine Kd.C_drew ?_))); (case side2 => exact HC0.out); (case side3 => exact GW.below HGW.out (by repeat (first | (with_reducible first | exact HB.out | apply below_alloc | apply pw_below_drewN | apply below_drew1) | exact HB.out))); rintro e w5 ⟨rfl, hb⟩; refine ⟨_, rfl, ?_⟩; have n0_ := Aside0.mk (below_step (by repeat (first | (with_reducible first | exact HB.out | apply below_alloc | apply pw_below_drewN | apply below_drew1) | exact HB.out)) hb); clear HB; have HB := n0_; clear n0_; (try clear hb); (try clear hb2); (try clear hk); (try clear hi)))
 (try simp only [Act.put, List.setIfInBounds_toArray, List.set_cons_zero, List.set_cons_succ])
 go_cut [36] (fun v36 wc => ∃ (kq : Nat) (x36_3 : Bool), v36 = .bool x36_3 ∧ Aside0 (armadalaw15_LedgerCut.j0 kq l0 a1 t101 x36_3 = some r) ∧ Aside0 (kq ≤ k) ∧ Aside0 (Below w.heap.size w wc))
 case first =>
  have H := HC4.out
  clear HC4
  replace H := Option.bind_eq_some_iff.mp H
  obtain ⟨t103, A60, H⟩ := H
  replace H : (if t103 = true then (if t102 = 0 then (if a1 < 0 then (armadalaw15_LedgerCut.j0 k l0 a1 t101 true) else (armadalaw15_LedgerCut.j0 k l0 a1 t101 (decide (a1 > (l0.length : Int))))) else (armadalaw15_LedgerCut.j0 k l0 a1 t101 true)) else (armadalaw15_LedgerCut.j0 k l0 a1 t101 true)) = some r := H
  have A6 := Aside0.mk A60
  clear A60
  by_cases c7 : t103 = true
  ·
   subst c7
   have H1 : (if t102 = 0 then (if a1 < 0 then (armadalaw15_LedgerCut.j0 k l0 a1 t101 true) else (armadalaw15_LedgerCut.j0 k l0 a1 t101 (decide (a1 > (l0.length : Int))))) else (armadalaw15_LedgerCut.j0 k l0 a1 t101 true)) = some r := by rw [if_pos rfl] at H; exact H
   clear H
   have H := H1
   clear H1
   by_cases c8 : t102 = 0
   ·
    rw [if_pos c8] at H
    have c8b0 : (t102 == 0) = true := beq_iff_eq.mpr c8
    have c8b1 : (t102 != 0) = false := bne_eq_false_iff_eq.mpr c8
    clear c8
    (first | rw [c8b0] | (simp only [i64_w, i32_w]; rw [c8b0]) | skip)
    by_cases c9 : a1 < 0
    ·
     rw [if_pos c9] at H
     have c9b0 : decide (a1 < 0) = true := decide_eq_true c9
     clear c9
     have H' := Aside0.mk H
     clear H
     go_wp2_with (first | ((with_reducible refine gate_callee (f := 13) rfl ?_); refine goesL_ (some 21) rfl rfl Tryz.func13 (by kernel_rfl) rfl #[.slice A0 l0.length c0] rfl (by (try simp only [List.map_toArray, List.map_cons, List.map_nil]); first | done | rfl | (simp only [List.length_drop, List.length_take]; rfl)) ?_; (with_reducible refine (armadaref15_Few.calls k _ _ l0 true _ ?side1 ?side2 A6.out).mono ?_); (case side1 => repeat (first | exact (Kd.C_below HR0.out HB.out) | (with_reducible refine Kd.C_alloc ?_ _) | (with_reducible refine Kd.C_drewN ?_ _) | (with_reducible refine Kd.C_drew ?_))); (case side2 => exact HC0.out); rintro e w' ⟨rfl, ⟨nd, rfl⟩⟩; refine ⟨_, rfl, ?_⟩))
     go_meet
     case rel => exact ⟨_, (true), (by first | rfl | (simp; done) | (simp [*]; done) | (simp [isEmpty_bne]; done)), H', ⟨by first | omega | exact Nat.le_refl _⟩, ⟨by repeat (first | (with_reducible first | exact HB.out | apply below_alloc | apply pw_below_drewN | apply below_drew1) | exact HB.out)⟩⟩
    ·
     rw [if_neg c9] at H
     have c9b0 : decide (a1 < 0) = false := decide_eq_false c9
     clear c9
     have H' := Aside0.mk H
     clear H
     go_wp2_with (first | ((with_reducible refine gate_callee (f := 13) rfl ?_); refine goesL_ (some 21) rfl rfl Tryz.func13 (by kernel_rfl) rfl #[.slice A0 l0.length c0] rfl (by (try simp only [List.map_toArray, List.map_cons, List.map_nil]); first | done | rfl | (simp only [List.length_drop, List.length_take]; rfl)) ?_; (with_reducible refine (armadaref15_Few.calls k _ _ l0 true _ ?side1 ?side2 A6.out).mono ?_); (case side1 => repeat (first | exact (Kd.C_below HR0.out HB.out) | (with_reducible refine Kd.C_alloc ?_ _) | (with_reducible refine Kd.C_drewN ?_ _) | (with_reducible refine Kd.C_drew ?_))); (case side2 => exact HC0.out); rintro e w' ⟨rfl, ⟨nd, rfl⟩⟩; refine ⟨_, rfl, ?_⟩))
     go_meet
     case rel => exact ⟨_, (decide (a1 > (l0.length : Int))), (by first | rfl | (simp; done) | (simp [*]; done) | (simp [isEmpty_bne]; done)), H', ⟨by first | omega | exact Nat.le_refl _⟩, ⟨by repeat (first | (with_reducible first | exact HB.out | apply below_alloc | apply pw_below_drewN | apply below_drew1) | exact HB.out)⟩⟩
   ·
    rw [if_neg c8] at H
    have c8b0 : (t102 == 0) = false := beq_eq_false_iff_ne.mpr c8
    have c8b1 : (t102 != 0) = true := bne_iff_ne.mpr c8
    (first | rw [c8b0] | (simp only [i64_w, i32_w]; rw [c8b0]) | skip)
    have H' := Aside0.mk H
    clear H
    go_wp2_with (first | ((with_reducible refine gate_callee (f := 13) rfl ?_); refine goesL_ (some 21) rfl rfl Tryz.func13 (by kernel_rfl) rfl #[.slice A0 l0.length c0] rfl (by (try simp only [List.map_toArray, List.map_cons, List.map_nil]); first | done | rfl | (simp only [List.length_drop, List.length_take]; rfl)) ?_; (with_reducible refine (armadaref15_Few.calls k _ _ l0 true _ ?side1 ?side2 A6.out).mono ?_); (case side1 => repeat (first | exact (Kd.C_below HR0.out HB.out) | (with_reducible refine Kd.C_alloc ?_ _) | (with_reducible refine Kd.C_drewN ?_ _) | (with_reducible refine Kd.C_drew ?_))); (case side2 => exact HC0.out); rintro e w' ⟨rfl, ⟨nd, rfl⟩⟩; refine ⟨_, rfl, ?_⟩))
    go_meet
    case rel => exact ⟨_, (true), (by first | rfl | (simp; done) | (simp [*]; done) | (simp [isEmpty_bne]; done)), H', ⟨by first | omega | exact Nat.le_refl _⟩, ⟨by repeat (first | (with_reducible first | exact HB.out | apply below_alloc | apply pw_below_drewN | apply below_drew1) | exact HB.out)⟩⟩
  ·
   replace c7 := Bool.eq_false_iff.mpr c7
   subst c7
   have H1 : (armadalaw15_LedgerCut.j0 k l0 a1 t101 true) = some r := by rw [if_neg (show ¬ (false = true) by decide)] at H; exact H
   clear H
   have H := H1
   clear H1
   have H' := Aside0.mk H
   clear H
   go_wp2_with (first | ((with_reducible refine gate_callee (f := 13) rfl ?_); refine goesL_ (some 21) rfl rfl Tryz.func13 (by kernel_rfl) rfl #[.slice A0 l0.length c0] rfl (by (try simp only [List.map_toArray, List.map_cons, List.map_nil]); first | done | rfl | (simp only [List.length_drop, List.length_take]; rfl)) ?_; (with_reducible refine (armadaref15_Few.calls k _ _ l0 false _ ?side1 ?side2 A6.out).mono ?_); (case side1 => repeat (first | exact (Kd.C_below HR0.out HB.out) | (with_reducible refine Kd.C_alloc ?_ _) | (with_reducible refine Kd.C_drewN ?_ _) | (with_reducible refine Kd.C_drew ?_))); (case side2 => exact HC0.out); rintro e w' ⟨rfl, ⟨nd, rfl⟩⟩; refine ⟨_, rfl, ?_⟩))
   go_meet
   case rel => exact ⟨_, (true), (by first | rfl | (simp; done) | (simp [*]; done) | (simp [isEmpty_bne]; done)), H', ⟨by first | omega | exact Nat.le_refl _⟩, ⟨by repeat (first | (with_reducible first | exact HB.out | apply below_alloc | apply pw_below_drewN | apply below_drew1) | exact HB.out)⟩⟩
 case rest =>
  clear HC4
  try clear c1
  try clear p2
  try clear c7
  try clear c8
  try clear c8b0
  try clear c8b1
  try clear c9
  try clear c9b0
  obtain ⟨kq, x36_3, rfl, HA, HJ3, HB⟩ := hcut
  cases kq with
  | zero => exact absurd HA.out (by simp [armadalaw15_LedgerCut.j0])
  | succ kj3 =>
   have H := HA.out
   clear HA
   simp only [armadalaw15_LedgerCut.j0] at H
   by_cases c10 : x36_3 = true
   ·
    subst c10
    have H1 : ((armadalaw15_live.f).bind fun t104 => (some t104)) = some r := by rw [if_pos rfl] at H; exact H
    clear H
    have H := H1
    clear H1
    replace H := Option.bind_eq_some_iff.mp H
    obtain ⟨t104, A110, H⟩ := H
    replace H : (some t104) = some r := H
    have A11 := Aside0.mk A110
    clear A110
    obtain rfl := Option.some.inj H
    go_wp2_with (first | ((with_reducible refine gate_callee (f := 9) rfl ?_); refine goesL_ (some 37) rfl rfl Tryz.func9 (by kernel_rfl) rfl #[] rfl (by (try simp only [List.map_toArray, List.map_cons, List.map_nil]); first | done | rfl | (simp only [List.length_drop, List.length_take]; rfl)) ?_; (with_reducible refine (armadalaw15_live.calls  t104 _ ?side1 ?side2 A11.out).mono ?_); (case side1 => exact GW.below HGW.out (by repeat (first | (with_reducible first | exact HB.out | apply below_alloc | apply pw_below_drewN | apply below_drew1) | exact HB.out))); (case side2 => exact HTRU_.out); rintro e w12 ⟨rfl, hb⟩; refine ⟨_, rfl, ?_⟩; have n0_ := Aside0.mk (below_step (by repeat (first | (with_reducible first | exact HB.out | apply below_alloc | apply pw_below_drewN | apply below_drew1) | exact HB.out)) hb); clear HB; have HB := n0_; clear n0_; (try clear hb); (try clear hb2); (try clear hk); (try clear hi)))
    go_ret
    exact ⟨by first | rfl | (simp [errW_none, errW_some] <;> rfl) | (simp [*, errW_none, errW_some] <;> rfl) | (simp [isEmpty_bne]; done), by repeat (first | (with_reducible first | exact HB.out | apply below_alloc | apply pw_below_drewN | apply below_drew1) | exact HB.out)⟩
   ·
    replace c10 := Bool.eq_false_iff.mpr c10
    subst c10
    have H1 : (if 0 ≤ a1 then (if a1 ≤ (l0.length : Int) then ((ledger_Text.f (l0.take (a1 : Int).toNat)).bind fun bt109 => (if bt109.2 = 0 then (if (bt109.1.size : Int) > (t101.size : Int) then (armadalaw15_LedgerCut.j1 kj3 l0 a1 t101 bt109.1 true) else (if 0 ≤ (bt109.1.size : Int) then (if (bt109.1.size : Int) ≤ (t101.size : Int) then (armadalaw15_LedgerCut.j1 kj3 l0 a1 t101 bt109.1 ((t101.extract 0 ((bt109.1.size : Int) : Int).toNat).toList != bt109.1.toList)) else (none)) else (none))) else (armadalaw15_LedgerCut.j1 kj3 l0 a1 t101 bt109.1 true))) else (none)) else (none)) = some r := by rw [if_neg (show ¬ (false = true) by decide)] at H; exact H
    clear H
    have H := H1
    clear H1
    by_cases c13 : 0 ≤ a1
    ·
     rw [if_pos c13] at H
     have c13b0 := eq_true c13
     have c13b1 : decide (0 ≤ a1) = true := decide_eq_true c13
     clear c13
     by_cases c14 : a1 ≤ (l0.length : Int)
     ·
      rw [if_pos c14] at H
      have c14b0 := eq_true c14
      have c14b1 : decide (a1 ≤ (l0.length : Int)) = true := decide_eq_true c14
      clear c14
      obtain ⟨y105, hy105⟩ : ∃ y_ : List (S32), y_ = (l0.take (a1 : Int).toNat) := ⟨_, rfl⟩
      replace H : ((ledger_Text.f y105).bind fun bt109 => (if bt109.2 = 0 then (if (bt109.1.size : Int) > (t101.size : Int) then (armadalaw15_LedgerCut.j1 kj3 l0 a1 t101 bt109.1 true) else (if 0 ≤ (bt109.1.size : Int) then (if (bt109.1.size : Int) ≤ (t101.size : Int) then (armadalaw15_LedgerCut.j1 kj3 l0 a1 t101 bt109.1 ((t101.extract 0 ((bt109.1.size : Int) : Int).toNat).toList != bt109.1.toList)) else (none)) else (none))) else (armadalaw15_LedgerCut.j1 kj3 l0 a1 t101 bt109.1 true))) = some r := by first | (rw [hy105]; with_reducible exact H) | (have H2_ := (Option.bind_some _ _).symm.trans H; rw [hy105]; with_reducible exact H2_) | (have H2_ := (Option.bind_some _ _).symm.trans H; with_reducible exact H2_) | with_reducible exact H | (rw [hy105]; exact H) | exact H
      have Ny105 := Aside0.mk hy105
      clear hy105
      replace H := Option.bind_eq_some_iff.mp H
      obtain ⟨⟨t109, t110⟩, A150, H⟩ := H
      replace H : (if t110 = 0 then (if (t109.size : Int) > (t101.size : Int) then (armadalaw15_LedgerCut.j1 kj3 l0 a1 t101 t109 true) else (if 0 ≤ (t109.size : Int) then (if (t109.size : Int) ≤ (t101.size : Int) then (armadalaw15_LedgerCut.j1 kj3 l0 a1 t101 t109 ((t101.extract 0 ((t109.size : Int) : Int).toNat).toList != t109.toList)) else (none)) else (none))) else (armadalaw15_LedgerCut.j1 kj3 l0 a1 t101 t109 true)) = some r := H
      have A15 := Aside0.mk A150
      clear A150
      have HC16 := Aside0.mk H
      clear H
      have q17 : (a1 : Int) ≤ ((l0.length : Int) : Int) := of_decide_eq_true (by first | (with_reducible assumption) | assumption)
      obtain ⟨i017, hi017, _, hsz17, _⟩ := info_parts info32
      have hroom17 : l0.length ≤ c0 := HC0.out
      have hC17 : Kd.C k32 _ A0 l0.length l0 := HR0.out
      have hcut17 := cut_to (P := Tryz.prog) 23 32 .i64 Tryz.underlying23 hi017 A0 l0.length c0 a1 (of_decide_eq_true (by first | (with_reducible assumption) | assumption)) q17 hroom17
      have hr17 := Kd.C_take (m := (a1 : Int).toNat) hC17 (by omega)
      have hy17 : y105.length = (a1 : Int).toNat := (by rw [Ny105.out, List.length_take]; omega)
      rw [← Ny105.out] at hr17
      rw [← hy17] at hcut17
      have HR108 := Aside0.mk hr17
      have HC108 := Aside0.mk (show y105.length ≤ c0 from by omega)
      clear hr17 hC17 hroom17 hi017 hsz17
      have KY17 := Aside0.mk hy17
      clear hy17
      replace q17 := eq_true q17
      go_upto_region 5 with (first | ((with_reducible refine gate_callee (f := 14) rfl ?_); refine goesL_ (some 42) rfl rfl Tryz.func14 (by kernel_rfl) rfl #[.slice A0 y105.length c0] rfl (by (try simp only [List.map_toArray, List.map_cons, List.map_nil]); first | done | rfl | (simp only [List.length_drop, List.length_take]; rfl)) ?_; (with_reducible refine (ledger_Text.calls _ _ y105 t109 t110 _ ?side1 ?side2 ?side3 A15.out).mono ?_); (case side1 => repeat (first | exact (Kd.C_below HR108.out HB.out) | (with_reducible refine Kd.C_alloc ?_ _) | (with_reducible refine Kd.C_drewN ?_ _) | (with_reducible refine Kd.C_drew ?_))); (case side2 => exact HC108.out); (case side3 => exact GW.below HGW.out (by repeat (first | (with_reducible first | exact HB.out | apply below_alloc | apply pw_below_drewN | apply below_drew1) | exact HB.out))); rintro e w18 ⟨rfl, hb⟩; refine ⟨_, rfl, ?_⟩; have n0_ := Aside0.mk (below_step (by repeat (first | (with_reducible first | exact HB.out | apply below_alloc | apply pw_below_drewN | apply below_drew1) | exact HB.out)) hb); clear HB; have HB := n0_; clear n0_; (try clear hb); (try clear hb2); (try clear hk); (try clear hi)))
      (try simp only [Act.put, List.setIfInBounds_toArray, List.set_cons_zero, List.set_cons_succ])
      go_cut [61] (fun v61 wc => ∃ (kq : Nat) (x61_15 : Bool), v61 = .bool x61_15 ∧ Aside0 (armadalaw15_LedgerCut.j1 kq l0 a1 t101 t109 x61_15 = some r) ∧ Aside0 (kq ≤ kj3) ∧ Aside0 (Below w.heap.size w wc))
      case first =>
       have H := HC16.out
       clear HC16
       by_cases c19 : t110 = 0
       ·
        rw [if_pos c19] at H
        have c19b0 : (t110 == 0) = true := beq_iff_eq.mpr c19
        have c19b1 : (t110 != 0) = false := bne_eq_false_iff_eq.mpr c19
        clear c19
        (first | rw [c19b0] | (simp only [i64_w, i32_w]; rw [c19b0]) | skip)
        by_cases c20 : (t109.size : Int) > (t101.size : Int)
        ·
         rw [if_pos c20] at H
         have c20b0 : decide ((t101.size : Int) < (t109.size : Int)) = true := decide_eq_true c20
         have c20b1 : decide (t101.size < t109.size) = true := decide_eq_true (Int.ofNat_lt.mp c20)
         clear c20
         have H' := Aside0.mk H
         clear H
         go_wp2
         go_meet
         case rel => exact ⟨_, (true), (by first | rfl | (simp; done) | (simp [*]; done) | (simp [isEmpty_bne]; done)), H', ⟨by have := HJ3.out; first | omega | exact Nat.le_refl _⟩, ⟨by repeat (first | (with_reducible first | exact HB.out | apply below_alloc | apply pw_below_drewN | apply below_drew1) | exact HB.out)⟩⟩
        ·
         rw [if_neg c20] at H
         have c20b0 : decide ((t101.size : Int) < (t109.size : Int)) = false := decide_eq_false c20
         have c20b1 : decide (t101.size < t109.size) = false := decide_eq_false (fun h => c20 (Int.ofNat_lt.mpr h))
         clear c20
         by_cases c21 : 0 ≤ (t109.size : Int)
         ·
          rw [if_pos c21] at H
          have c21b0 := eq_true c21
          have c21b1 : decide (0 ≤ (t109.size : Int)) = true := decide_eq_true c21
          clear c21
          by_cases c22 : (t109.size : Int) ≤ (t101.size : Int)
          ·
           rw [if_pos c22] at H
           have c22b0 := eq_true c22
           have c22b1 : decide ((t109.size : Int) ≤ (t101.size : Int)) = true := decide_eq_true c22
           clear c22
           have H' := Aside0.mk H
           clear H
           go_wp2
           go_meet
           case rel => exact ⟨_, (((t101.extract 0 ((t109.size : Int) : Int).toNat).toList != t109.toList)), (by first | rfl | (simp; done) | (simp [*]; done) | (simp [isEmpty_bne]; done)), H', ⟨by have := HJ3.out; first | omega | exact Nat.le_refl _⟩, ⟨by repeat (first | (with_reducible first | exact HB.out | apply below_alloc | apply pw_below_drewN | apply below_drew1) | exact HB.out)⟩⟩
          ·
           rw [if_neg c22] at H
           exact absurd H (by simp)
         ·
          rw [if_neg c21] at H
          exact absurd H (by simp)
       ·
        rw [if_neg c19] at H
        have c19b0 : (t110 == 0) = false := beq_eq_false_iff_ne.mpr c19
        have c19b1 : (t110 != 0) = true := bne_iff_ne.mpr c19
        (first | rw [c19b0] | (simp only [i64_w, i32_w]; rw [c19b0]) | skip)
        have H' := Aside0.mk H
        clear H
        go_wp2
        go_meet
        case rel => exact ⟨_, (true), (by first | rfl | (simp; done) | (simp [*]; done) | (simp [isEmpty_bne]; done)), H', ⟨by have := HJ3.out; first | omega | exact Nat.le_refl _⟩, ⟨by repeat (first | (with_reducible first | exact HB.out | apply below_alloc | apply pw_below_drewN | apply below_drew1) | exact HB.out)⟩⟩
      case rest =>
       clear HC16
       try clear c1
       try clear q1
       try clear c2
       try clear p2
       try clear c7
       try clear c8
       try clear c8b0
       try clear c8b1
       try clear c9
       try clear c9b0
       try clear c10
       try clear c13
       try clear c13b0
       try clear c13b1
       try clear c14
       try clear c14b0
       try clear c14b1
       try clear q17
       try clear c19
       try clear c19b0
       try clear c19b1
       try clear c20
       try clear c20b0
       try clear c20b1
       try clear c21
       try clear c21b0
       try clear c21b1
       try clear c22
       try clear c22b0
       try clear c22b1
       try clear p2
       try clear q17
       obtain ⟨kq, x61_15, rfl, HA, HJ15, HB⟩ := hcut
       cases kq with
       | zero => exact absurd HA.out (by simp [armadalaw15_LedgerCut.j1])
       | succ kj15 =>
        have H := HA.out
        clear HA
        simp only [armadalaw15_LedgerCut.j1] at H
        by_cases c23 : x61_15 = true
        ·
         subst c23
         have H1 : (some false) = some r := by rw [if_pos rfl] at H; exact H
         clear H
         have H := H1
         clear H1
         exact absurd ((Option.some.inj H).trans HTRU_.out) (by decide)
        ·
         replace c23 := Bool.eq_false_iff.mpr c23
         subst c23
         have H1 : (if 0 ≤ (t109.size : Int) then (if (t109.size : Int) ≤ (t101.size : Int) then ((ledger_Parse.f kj15 (t101.extract 0 ((t109.size : Int) : Int).toNat)).bind fun bt111 => ((ledger_Parse.f kj15 (t101.extract ((t109.size : Int) : Int).toNat t101.size)).bind fun bt116 => (if bt111.2.2 = 0 then (if bt111.2.1 = a1 then (if 0 ≤ a1 then (if a1 ≤ (l0.length : Int) then ((armadaref15_Same.f kj15 bt111.1 (l0.take (a1 : Int).toNat)).bind fun t125 => (if t125 = true then (if bt116.2.1 = (wrap64 ((l0.length : Int) - a1)) then ((armadaref15_Same.f kj15 bt116.1 (l0.drop (a1 : Int).toNat)).bind fun t130 => (if t130 = true then ((armadalaw15_live.f).bind fun t131 => (some t131)) else (some false))) else (some false)) else (some false))) else (none)) else (none)) else (some false)) else (some false)))) else (none)) else (none)) = some r := by rw [if_neg (show ¬ (false = true) by decide)] at H; exact H
         clear H
         have H := H1
         clear H1
         by_cases c24 : 0 ≤ (t109.size : Int)
         ·
          rw [if_pos c24] at H
          have c24b0 := eq_true c24
          have c24b1 : decide (0 ≤ (t109.size : Int)) = true := decide_eq_true c24
          clear c24
          by_cases c25 : (t109.size : Int) ≤ (t101.size : Int)
          ·
           rw [if_pos c25] at H
           have c25b0 := eq_true c25
           have c25b1 : decide ((t109.size : Int) ≤ (t101.size : Int)) = true := decide_eq_true c25
           clear c25
           replace H := Option.bind_eq_some_iff.mp H
           obtain ⟨⟨t111, t112, t113⟩, A260, H⟩ := H
           replace H : ((ledger_Parse.f kj15 (t101.extract ((t109.size : Int) : Int).toNat t101.size)).bind fun bt116 => (if t113 = 0 then (if t112 = a1 then (if 0 ≤ a1 then (if a1 ≤ (l0.length : Int) then ((armadaref15_Same.f kj15 t111 (l0.take (a1 : Int).toNat)).bind fun t125 => (if t125 = true then (if bt116.2.1 = (wrap64 ((l0.length : Int) - a1)) then ((armadaref15_Same.f kj15 bt116.1 (l0.drop (a1 : Int).toNat)).bind fun t130 => (if t130 = true then ((armadalaw15_live.f).bind fun t131 => (some t131)) else (some false))) else (some false)) else (some false))) else (none)) else (none)) else (some false)) else (some false))) = some r := H
           have A26 := Aside0.mk A260
           clear A260
           have c27b0 := eq_true (of_decide_eq_true (by first | (with_reducible assumption) | assumption) : 0 ≤ (t109.size : Int))
           have c28b0 := eq_true (of_decide_eq_true (by first | (with_reducible assumption) | assumption) : (t109.size : Int) ≤ (t101.size : Int))
           replace H := Option.bind_eq_some_iff.mp H
           obtain ⟨⟨t116, t117, t118⟩, A290, H⟩ := H
           replace H : (if t113 = 0 then (if t112 = a1 then (if 0 ≤ a1 then (if a1 ≤ (l0.length : Int) then ((armadaref15_Same.f kj15 t111 (l0.take (a1 : Int).toNat)).bind fun t125 => (if t125 = true then (if t117 = (wrap64 ((l0.length : Int) - a1)) then ((armadaref15_Same.f kj15 t116 (l0.drop (a1 : Int).toNat)).bind fun t130 => (if t130 = true then ((armadalaw15_live.f).bind fun t131 => (some t131)) else (some false))) else (some false)) else (some false))) else (none)) else (none)) else (some false)) else (some false)) = some r := H
           have A29 := Aside0.mk A290
           clear A290
           by_cases c30 : t113 = 0
           ·
            rw [if_pos c30] at H
            have c30b0 : (t113 == 0) = true := beq_iff_eq.mpr c30
            have c30b1 : (t113 != 0) = false := bne_eq_false_iff_eq.mpr c30
            clear c30
            by_cases c31 : t112 = a1
            ·
             rw [if_pos c31] at H
             have c31b0 : (t112 == a1) = true := beq_iff_eq.mpr c31
             have c31b1 : (t112 != a1) = false := bne_eq_false_iff_eq.mpr c31
             clear c31
             by_cases c32 : 0 ≤ a1
             ·
              rw [if_pos c32] at H
              have c32b0 := eq_true c32
              have c32b1 : decide (0 ≤ a1) = true := decide_eq_true c32
              clear c32
              by_cases c33 : a1 ≤ (l0.length : Int)
              ·
               rw [if_pos c33] at H
               have c33b0 := eq_true c33
               have c33b1 : decide (a1 ≤ (l0.length : Int)) = true := decide_eq_true c33
               clear c33
               obtain ⟨y121, hy121⟩ : ∃ y_ : List (S32), y_ = (l0.take (a1 : Int).toNat) := ⟨_, rfl⟩
               replace H : ((armadaref15_Same.f kj15 t111 y121).bind fun t125 => (if t125 = true then (if t117 = (wrap64 ((l0.length : Int) - a1)) then ((armadaref15_Same.f kj15 t116 (l0.drop (a1 : Int).toNat)).bind fun t130 => (if t130 = true then ((armadalaw15_live.f).bind fun t131 => (some t131)) else (some false))) else (some false)) else (some false))) = some r := by first | (rw [hy121]; with_reducible exact H) | (have H2_ := (Option.bind_some _ _).symm.trans H; rw [hy121]; with_reducible exact H2_) | (have H2_ := (Option.bind_some _ _).symm.trans H; with_reducible exact H2_) | with_reducible exact H | (rw [hy121]; exact H) | exact H
               have Ny121 := Aside0.mk hy121
               clear hy121
               obtain rfl : y121 = y105 := Ny121.out.trans Ny105.out.symm
               replace H := Option.bind_eq_some_iff.mp H
               obtain ⟨t125, A340, H⟩ := H
               replace H : (if t125 = true then (if t117 = (wrap64 ((l0.length : Int) - a1)) then ((armadaref15_Same.f kj15 t116 (l0.drop (a1 : Int).toNat)).bind fun t130 => (if t130 = true then ((armadalaw15_live.f).bind fun t131 => (some t131)) else (some false))) else (some false)) else (some false)) = some r := H
               have A34 := Aside0.mk A340
               clear A340
               by_cases c35 : t125 = true
               ·
                subst c35
                have H1 : (if t117 = (wrap64 ((l0.length : Int) - a1)) then ((armadaref15_Same.f kj15 t116 (l0.drop (a1 : Int).toNat)).bind fun t130 => (if t130 = true then ((armadalaw15_live.f).bind fun t131 => (some t131)) else (some false))) else (some false)) = some r := by rw [if_pos rfl] at H; exact H
                clear H
                have H := H1
                clear H1
                by_cases c36 : t117 = (wrap64 ((l0.length : Int) - a1))
                ·
                 rw [if_pos c36] at H
                 have c36b0 : (t117 == (wrap64 ((l0.length : Int) - a1))) = true := beq_iff_eq.mpr c36
                 have c36b1 : (t117 != (wrap64 ((l0.length : Int) - a1))) = false := bne_eq_false_iff_eq.mpr c36
                 clear c36
                 have c37b0 := eq_true (of_decide_eq_true (by first | (with_reducible assumption) | assumption) : 0 ≤ a1)
                 have c38b0 := eq_true (of_decide_eq_true (by first | (with_reducible assumption) | assumption) : a1 ≤ (l0.length : Int))
                 obtain ⟨y126, hy126⟩ : ∃ y_ : List (S32), y_ = (l0.drop (a1 : Int).toNat) := ⟨_, rfl⟩
                 replace H : ((armadaref15_Same.f kj15 t116 y126).bind fun t130 => (if t130 = true then ((armadalaw15_live.f).bind fun t131 => (some t131)) else (some false))) = some r := by first | (rw [hy126]; with_reducible exact H) | (have H2_ := (Option.bind_some _ _).symm.trans H; rw [hy126]; with_reducible exact H2_) | (have H2_ := (Option.bind_some _ _).symm.trans H; with_reducible exact H2_) | with_reducible exact H | (rw [hy126]; exact H) | exact H
                 have Ny126 := Aside0.mk hy126
                 clear hy126
                 replace H := Option.bind_eq_some_iff.mp H
                 obtain ⟨t130, A390, H⟩ := H
                 replace H : (if t130 = true then ((armadalaw15_live.f).bind fun t131 => (some t131)) else (some false)) = some r := H
                 have A39 := Aside0.mk A390
                 clear A390
                 by_cases c40 : t130 = true
                 ·
                  subst c40
                  have H1 : ((armadalaw15_live.f).bind fun t131 => (some t131)) = some r := by rw [if_pos rfl] at H; exact H
                  clear H
                  have H := H1
                  clear H1
                  replace H := Option.bind_eq_some_iff.mp H
                  obtain ⟨t131, A410, H⟩ := H
                  replace H : (some t131) = some r := H
                  have A41 := Aside0.mk A410
                  clear A410
                  obtain rfl := Option.some.inj H
                  go_wp2_with (first | ((with_reducible refine gate_callee (f := 10) rfl ?_); refine goesL_ (some 67) rfl rfl Tryz.func10 (by kernel_rfl) rfl #[.string (t101.extract 0 ((t109.size : Int) : Int).toNat)] rfl (by (try simp only [List.map_toArray, List.map_cons, List.map_nil]); first | done | rfl | (simp only [List.length_drop, List.length_take]; rfl)) ?_; (with_reducible refine (ledger_Parse.calls kj15 (t101.extract 0 ((t109.size : Int) : Int).toNat) t111 t112 t113 _ ?side1 A26.out).mono ?_); (case side1 => exact GW.below HGW.out (by repeat (first | (with_reducible first | exact HB.out | apply below_alloc | apply pw_below_drewN | apply below_drew1) | exact HB.out))); rintro e w42 ⟨v114, rfl, ho0, hb⟩; refine ⟨_, rfl, ?_⟩; have n0_ := Aside0.mk (Kd.R_lower ho0 (below_size (by repeat (first | (with_reducible first | exact HB.out | apply below_alloc | apply pw_below_drewN | apply below_drew1) | exact HB.out)))); have n1_ := Aside0.mk (below_step (by repeat (first | (with_reducible first | exact HB.out | apply below_alloc | apply pw_below_drewN | apply below_drew1) | exact HB.out)) hb); clear HB; have HO115 := n0_; have HB := n1_; clear n0_ n1_; (try clear hb); (try clear hb2); (try clear hk); (try clear hi); (try clear ho0)) | ((with_reducible refine gate_callee (f := 10) rfl ?_); refine goesL_ (some 76) rfl rfl Tryz.func10 (by kernel_rfl) rfl #[.string (t101.extract ((t109.size : Int) : Int).toNat t101.size)] rfl (by (try simp only [List.map_toArray, List.map_cons, List.map_nil]); first | done | rfl | (simp only [List.length_drop, List.length_take]; rfl)) ?_; (with_reducible refine (ledger_Parse.calls kj15 (t101.extract ((t109.size : Int) : Int).toNat t101.size) t116 t117 t118 _ ?side1 A29.out).mono ?_); (case side1 => exact GW.below HGW.out (by repeat (first | (with_reducible first | exact HB.out | apply below_alloc | apply pw_below_drewN | apply below_drew1) | exact HB.out))); rintro e w43 ⟨v119, rfl, ho0, hb⟩; refine ⟨_, rfl, ?_⟩; have n0_ := Aside0.mk (Kd.R_elder' (by (with_reducible repeat (first | apply Kd.R_alloc | apply Kd.R_drewN | apply Kd.R_drew)); exact HO115.out) (Kd.R_base ho0) hb); have n1_ := Aside0.mk (Kd.R_lower (Kd.R_new' ho0 (Kd.R_lt (by (with_reducible repeat (first | apply Kd.R_alloc | apply Kd.R_drewN | apply Kd.R_drew)); exact HO115.out))) (below_size (by repeat (first | (with_reducible first | exact HB.out | apply below_alloc | apply pw_below_drewN | apply below_drew1) | exact HB.out)))); have n2_ := Aside0.mk (below_step (by repeat (first | (with_reducible first | exact HB.out | apply below_alloc | apply pw_below_drewN | apply below_drew1) | exact HB.out)) hb); clear HO115; clear HB; have HO115 := n0_; have HO120 := n1_; have HB := n2_; clear n0_ n1_ n2_; (try clear hb); (try clear hb2); (try clear hk); (try clear hi); (try clear ho0); have q44 : (a1 : Int) ≤ ((l0.length : Int) : Int) := of_decide_eq_true (by first | (with_reducible assumption) | assumption); obtain ⟨i044, hi044, _, hsz44, _⟩ := info_parts info32; have hroom44 : l0.length ≤ c0 := HC0.out; have hC44 : Kd.C k32 _ A0 l0.length l0 := HR0.out; have hcut44 := cut_to (P := Tryz.prog) 23 32 .i64 Tryz.underlying23 hi044 A0 l0.length c0 a1 (of_decide_eq_true (by first | (with_reducible assumption) | assumption)) q44 hroom44; have hr44 := Kd.C_take (m := (a1 : Int).toNat) hC44 (by omega); have hy44 : y121.length = (a1 : Int).toNat := (by rw [Ny121.out, List.length_take]; omega); rw [← Ny121.out] at hr44; rw [← hy44] at hcut44; have HR124 := Aside0.mk hr44; have HC124 := Aside0.mk (show y121.length ≤ c0 from by omega); clear hr44 hC44 hroom44 hi044 hsz44; have KY44 := Aside0.mk hy44; clear hy44; replace q44 := eq_true q44; obtain ⟨Ao45, co45, eo45⟩ := Kd.R_slice HO115.out; subst eo45) | (go_at_call 12; (with_reducible refine (armadaref15_Same.calls kj15 _ _ t111 _ _ y121 true _ ?side1 ?side2 ?side3 ?side4 A34.out).mono ?_); (case side1 => repeat (first | exact (Kd.R_reads' HO115.out).2.2 | (with_reducible refine Kd.C_alloc ?_ _) | (with_reducible refine Kd.C_drewN ?_ _) | (with_reducible refine Kd.C_drew ?_))); (case side2 => exact (Kd.R_reads' HO115.out).2.1); (case side3 => repeat (first | exact (Kd.C_below HR124.out HB.out) | (with_reducible refine Kd.C_alloc ?_ _) | (with_reducible refine Kd.C_drewN ?_ _) | (with_reducible refine Kd.C_drew ?_))); (case side4 => exact HC124.out); rintro e w' ⟨rfl, ⟨nd, rfl⟩⟩; have q46 : (a1 : Int) ≤ ((l0.length : Int) : Int) := of_decide_eq_true (by first | (with_reducible assumption) | assumption); obtain ⟨i046, hi046, _, hsz46, _⟩ := info_parts info32; have hroom46 : l0.length ≤ c0 := HC0.out; have hC46 : Kd.C k32 _ A0 l0.length l0 := HR0.out; have q046 : (0 : Int) ≤ (a1 : Int) := of_decide_eq_true (by first | (with_reducible assumption) | assumption); have hcut46 := cut_from (P := Tryz.prog) 23 32 .i64 Tryz.underlying23 hi046 7 hsz46 A0 l0.length c0 a1 q046 q46; have hr46 := Kd.C_drop (m := (a1 : Int).toNat) (c := c0) hC46 (by omega) hroom46; obtain ⟨A46, hA46⟩ : ∃ A1, A1 = (if c0 = (a1 : Int).toNat then A0 else (A0 : Option Addr).map (·.add ((a1 : Int).toNat * 7))) := ⟨_, rfl⟩; obtain ⟨c46, hc46⟩ : ∃ c1, c1 = c0 - (a1 : Int).toNat := ⟨_, rfl⟩; have hy46 : y126.length = l0.length - (a1 : Int).toNat := (by rw [Ny126.out, List.length_drop] <;> omega); rw [show (l0).drop (a1 : Int).toNat = y126 from Ny126.out.symm] at hr46; replace hr46 : Kd.C k32 _ A46 y126.length y126 := (by rw [hA46]; exact hr46); rw [← hy46, ← hA46, ← hc46] at hcut46; have HR129 := Aside0.mk hr46; have HC129 := Aside0.mk (show y126.length ≤ c46 from by rw [hy46, hc46]; exact Nat.sub_le_sub_right hroom46 _); clear hr46 hC46 hroom46 hi046 hsz46 hc46; have KY46 := Aside0.mk hy46; have KA46 := Aside0.mk hA46; clear hy46 hA46; replace q46 := eq_true q46; obtain ⟨Ao47, co47, eo47⟩ := Kd.R_slice HO120.out; subst eo47) | (go_at_call 12; (with_reducible refine (armadaref15_Same.calls kj15 _ _ t116 _ _ y126 true _ ?side1 ?side2 ?side3 ?side4 A39.out).mono ?_); (case side1 => repeat (first | exact (Kd.R_reads' HO120.out).2.2 | (with_reducible refine Kd.C_alloc ?_ _) | (with_reducible refine Kd.C_drewN ?_ _) | (with_reducible refine Kd.C_drew ?_))); (case side2 => exact (Kd.R_reads' HO120.out).2.1); (case side3 => repeat (first | exact (Kd.C_below HR129.out (by repeat (first | (with_reducible first | exact HB.out | apply below_alloc | apply pw_below_drewN | apply below_drew1) | exact HB.out))) | (with_reducible refine Kd.C_alloc ?_ _) | (with_reducible refine Kd.C_drewN ?_ _) | (with_reducible refine Kd.C_drew ?_))); (case side4 => exact HC129.out); rintro e w' ⟨rfl, ⟨nd, rfl⟩⟩) | (go_at_call 9; (with_reducible refine (armadalaw15_live.calls  t131 _ ?side1 ?side2 A41.out).mono ?_); (case side1 => exact GW.below HGW.out (by repeat (first | (with_reducible first | exact HB.out | apply below_alloc | apply pw_below_drewN | apply below_drew1) | exact HB.out))); (case side2 => exact HTRU_.out); rintro e w48 ⟨rfl, hb⟩; have n0_ := Aside0.mk (Kd.R_below (by (with_reducible repeat (first | apply Kd.R_alloc | apply Kd.R_drewN | apply Kd.R_drew)); exact HO115.out) hb); have n1_ := Aside0.mk (Kd.R_below (by (with_reducible repeat (first | apply Kd.R_alloc | apply Kd.R_drewN | apply Kd.R_drew)); exact HO120.out) hb); have n2_ := Aside0.mk (below_step (by repeat (first | (with_reducible first | exact HB.out | apply below_alloc | apply pw_below_drewN | apply below_drew1) | exact HB.out)) hb); clear HO115; clear HO120; clear HB; have HO115 := n0_; have HO120 := n1_; have HB := n2_; clear n0_ n1_ n2_; (try clear hb); (try clear hb2); (try clear hk); (try clear hi)))
                  go_ret
                  exact ⟨by first | rfl | (simp [errW_none, errW_some] <;> rfl) | (simp [*, errW_none, errW_some] <;> rfl) | (simp [isEmpty_bne]; done), by repeat (first | (with_reducible first | exact HB.out | apply below_alloc | apply pw_below_drewN | apply below_drew1) | exact HB.out)⟩
                 ·
                  replace c40 := Bool.eq_false_iff.mpr c40
                  subst c40
                  have H1 : (some false) = some r := by rw [if_neg (show ¬ (false = true) by decide)] at H; exact H
                  clear H
                  have H := H1
                  clear H1
                  exact absurd ((Option.some.inj H).trans HTRU_.out) (by decide)
                ·
                 rw [if_neg c36] at H
                 have c36b0 : (t117 == (wrap64 ((l0.length : Int) - a1))) = false := beq_eq_false_iff_ne.mpr c36
                 have c36b1 : (t117 != (wrap64 ((l0.length : Int) - a1))) = true := bne_iff_ne.mpr c36
                 exact absurd ((Option.some.inj H).trans HTRU_.out) (by decide)
               ·
                replace c35 := Bool.eq_false_iff.mpr c35
                subst c35
                have H1 : (some false) = some r := by rw [if_neg (show ¬ (false = true) by decide)] at H; exact H
                clear H
                have H := H1
                clear H1
                exact absurd ((Option.some.inj H).trans HTRU_.out) (by decide)
              ·
               rw [if_neg c33] at H
               exact absurd H (by simp)
             ·
              rw [if_neg c32] at H
              exact absurd H (by simp)
            ·
             rw [if_neg c31] at H
             have c31b0 : (t112 == a1) = false := beq_eq_false_iff_ne.mpr c31
             have c31b1 : (t112 != a1) = true := bne_iff_ne.mpr c31
             exact absurd ((Option.some.inj H).trans HTRU_.out) (by decide)
           ·
            rw [if_neg c30] at H
            have c30b0 : (t113 == 0) = false := beq_eq_false_iff_ne.mpr c30
            have c30b1 : (t113 != 0) = true := bne_iff_ne.mpr c30
            exact absurd ((Option.some.inj H).trans HTRU_.out) (by decide)
          ·
           rw [if_neg c25] at H
           exact absurd H (by simp)
         ·
          rw [if_neg c24] at H
          exact absurd H (by simp)
     ·
      rw [if_neg c14] at H
      exact absurd H (by simp)
    ·
     rw [if_neg c13] at H
     exact absurd H (by simp)
end Go.Proofs.YtnnogepjkfllnaaGreatDoor.LCut
end
