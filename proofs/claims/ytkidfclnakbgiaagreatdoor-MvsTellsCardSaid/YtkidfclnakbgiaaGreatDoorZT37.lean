/- The texts RSx2 in one file, without what these claims do not use (put together by prune2.py). -/
import Derived.Test.YtkidfclnakbgiaaGreatDoorZT6
import Derived.Test.YtkidfclnakbgiaaGreatDoorZT35
import Derived.Test.YtkidfclnakbgiaaGreatDoorZT36
section
namespace Go.Proofs.YtkidfclnakbgiaaGreatDoor.RS
open Go.RowKit Go.Proofs.YtkidfclnakbgiaaGreatDoor Go.Proofs.YtkidfclnakbgiaaGreatDoor.K0 Go.Proofs.YtkidfclnakbgiaaGreatDoor.RD Go.Proofs.YtkidfclnakbgiaaGreatDoorW.PrintWords Go.Proofs.YtkidfclnakbgiaaGreatDoorW.PrintLast Go.Proofs.YtkidfclnakbgiaaGreatDoorW.PrintMore
attribute [local go_sem] max2_int min2_int max_two min_two max_three min_three max_four min_four
set_option linter.unusedVariables false
set_option linter.unusedSimpArgs false
attribute [local go_sem high] eqA27
def armadaref17_few.l0 : Nat → List (S27) → Int → Option (Bool)
 | 0, _, _ => none
 | k + 1, x0, x3 => if x3 < (x0.length : Int) then (if 0 ≤ x3 then (if (((rd_T27 x0 x3).f0).size : Int) > 200 then (some false) else (if (((rd_T27 x0 x3).f1.f3).size : Int) > 200 then (some false) else (if (((rd_T27 x0 x3).f1.f4).size : Int) > 200 then (some false) else (armadaref17_few.l0 k x0 (wrap64 (x3 + 1)))))) else (none)) else (some (decide ((x0.length : Int) ≤ 12)))
def armadaref17_few.f (k : Nat) (l0 : List (S27)) : Option (Bool) := armadaref17_few.l0 k l0 0
theorem armadaref17_few.mono_l : ∀ k, (∀ y0 y1, LeO (armadaref17_few.l0 k y0 y1) (armadaref17_few.l0 (k + 1) y0 y1))
 | 0 => fun _ _ r h => by simp [armadaref17_few.l0] at h
 | k + 1 => by
  have ih0 := armadaref17_few.mono_l k
  ·
   intro y0 y1
   unfold armadaref17_few.l0
   exact xM
theorem armadaref17_few.mono : ∀ a0 k, LeO (armadaref17_few.f k a0) (armadaref17_few.f (k + 1) a0) := by
 intro a0 k
 have ih0 := armadaref17_few.mono_l k
 unfold armadaref17_few.f
 exact xM
set_option maxHeartbeats 8000000 in
set_option maxRecDepth 100000 in
theorem armadaref17_few.calls (k : Nat) (A0 : Option Addr) (c0 : Nat) (l0 : List (S27)) (r : Bool) (w : World) (hr0 : Kd.C k27 w A0 l0.length l0) (hc0 : l0.length ≤ c0) (h : armadaref17_few.f k l0 = some r) :
  Calls Tryz.prog 28 #[.slice A0 l0.length c0] w fun e w' => e = .returned (.bool r) ∧ Drawn0 w w' := by
 have HR0 := Aside0.mk hr0
 have HC0 := Aside0.mk hc0
 clear hr0 hc0
 have H : (armadaref17_few.l0 k l0 0) = some r := h
 clear h
 have H' := Aside0.mk H
 clear H
 go_enter Tryz.func28, Tryz.ntmps28
 go_wp2
 go_loopg [3] k (fun kq v3 w' => ∃ (x3_1 : Int), v3 = .int .i64 x3_1 ∧ Aside0 (armadaref17_few.l0 kq l0 x3_1 = some r) ∧ Aside0 (kq ≤ k) ∧ Drawn0 w w')
 case atStart => exact ⟨(0), xR, H', ⟨Nat.le_refl _⟩, by repeat (first | exact Drawn0.refl _ | apply Drawn0.step)⟩
 case round =>
  clear H'
  obtain ⟨x3_1, rfl, HA, HK1, ⟨m1, rfl⟩⟩ := hrel
  cases gk with
  | zero => exact absurd HA.out (by simp [armadaref17_few.l0])
  | succ k1 =>
   have H := HA.out
   clear HA
   simp only [armadaref17_few.l0] at H
   by_cases c2 : x3_1 < (l0.length : Int)
   ·
    rw [if_pos c2] at H
    have c2b0 := decide_eq_true c2
    clear c2
    replace H := xI H
    obtain ⟨c3, H⟩ := H
    have c3b0 := decide_eq_true c3
    clear c3
    by_cases c4 : (((rd_T27 l0 x3_1).f0).size : Int) > 200
    ·
     rw [if_pos c4] at H
     have c4b0 := decide_eq_true c4
     have c4b1 : decide (200 < ((rd_T27 l0 x3_1).f0).size) = true := decide_eq_true (by omega)
     clear c4
     obtain rfl := Option.some.inj H
     have p101 : 0 ≤ (x3_1 : Int) := xD
     have q101 : x3_1 < (l0.length : Int) := xD
     obtain ⟨ad101, e101, hx101_0, hx101_1, hx101_2, hx101_3, hx101_4, hx101_5⟩ := at_T27 HR0.out x3_1 p101 q101
     cases e101
     replace p101 := eq_true p101
     replace q101 := eq_true q101
     go_wp2
     go_ret
     exact ⟨xR, by repeat (first | exact Drawn0.refl _ | apply Drawn0.step)⟩
    rw [if_neg c4] at H
    have c4b0 := decide_eq_false c4
    have c4b1 : decide (200 < ((rd_T27 l0 x3_1).f0).size) = false := decide_eq_false (by omega)
    clear c4
    by_cases c5 : (((rd_T27 l0 x3_1).f1.f3).size : Int) > 200
    ·
     rw [if_pos c5] at H
     have c5b0 := decide_eq_true c5
     have c5b1 : decide (200 < ((rd_T27 l0 x3_1).f1.f3).size) = true := decide_eq_true (by omega)
     clear c5
     obtain rfl := Option.some.inj H
     have p101 : 0 ≤ (x3_1 : Int) := xD
     have q101 : x3_1 < (l0.length : Int) := xD
     obtain ⟨ad101, e101, hx101_0, hx101_1, hx101_2, hx101_3, hx101_4, hx101_5⟩ := at_T27 HR0.out x3_1 p101 q101
     cases e101
     replace p101 := eq_true p101
     replace q101 := eq_true q101
     have p102 : 0 ≤ (x3_1 : Int) := xD
     have q102 : x3_1 < (l0.length : Int) := xD
     obtain ⟨ad102, e102, hx102_0, hx102_1, hx102_2, hx102_3, hx102_4, hx102_5⟩ := at_T27 HR0.out x3_1 p102 q102
     obtain rfl : ad101 = ad102 := (by injection e102)
     replace p102 := eq_true p102
     replace q102 := eq_true q102
     go_wp2
     go_ret
     exact ⟨xR, by repeat (first | exact Drawn0.refl _ | apply Drawn0.step)⟩
    rw [if_neg c5] at H
    have c5b0 := decide_eq_false c5
    have c5b1 : decide (200 < ((rd_T27 l0 x3_1).f1.f3).size) = false := decide_eq_false (by omega)
    clear c5
    by_cases c6 : (((rd_T27 l0 x3_1).f1.f4).size : Int) > 200
    ·
     rw [if_pos c6] at H
     have c6b0 := decide_eq_true c6
     have c6b1 : decide (200 < ((rd_T27 l0 x3_1).f1.f4).size) = true := decide_eq_true (by omega)
     clear c6
     obtain rfl := Option.some.inj H
     have p101 : 0 ≤ (x3_1 : Int) := xD
     have q101 : x3_1 < (l0.length : Int) := xD
     obtain ⟨ad101, e101, hx101_0, hx101_1, hx101_2, hx101_3, hx101_4, hx101_5⟩ := at_T27 HR0.out x3_1 p101 q101
     cases e101
     replace p101 := eq_true p101
     replace q101 := eq_true q101
     have p102 : 0 ≤ (x3_1 : Int) := xD
     have q102 : x3_1 < (l0.length : Int) := xD
     obtain ⟨ad102, e102, hx102_0, hx102_1, hx102_2, hx102_3, hx102_4, hx102_5⟩ := at_T27 HR0.out x3_1 p102 q102
     obtain rfl : ad101 = ad102 := (by injection e102)
     replace p102 := eq_true p102
     replace q102 := eq_true q102
     have p103 : 0 ≤ (x3_1 : Int) := xD
     have q103 : x3_1 < (l0.length : Int) := xD
     obtain ⟨ad103, e103, hx103_0, hx103_1, hx103_2, hx103_3, hx103_4, hx103_5⟩ := at_T27 HR0.out x3_1 p103 q103
     obtain rfl : ad101 = ad103 := (by injection e103)
     replace p103 := eq_true p103
     replace q103 := eq_true q103
     go_wp2
     go_ret
     exact ⟨xR, by repeat (first | exact Drawn0.refl _ | apply Drawn0.step)⟩
    rw [if_neg c6] at H
    have c6b0 := decide_eq_false c6
    have c6b1 : decide (200 < ((rd_T27 l0 x3_1).f1.f4).size) = false := decide_eq_false (by omega)
    clear c6
    have H' := Aside0.mk H
    clear H
    have p101 : 0 ≤ (x3_1 : Int) := xD
    have q101 : x3_1 < (l0.length : Int) := xD
    obtain ⟨ad101, e101, hx101_0, hx101_1, hx101_2, hx101_3, hx101_4, hx101_5⟩ := at_T27 HR0.out x3_1 p101 q101
    cases e101
    replace p101 := eq_true p101
    replace q101 := eq_true q101
    have p102 : 0 ≤ (x3_1 : Int) := xD
    have q102 : x3_1 < (l0.length : Int) := xD
    obtain ⟨ad102, e102, hx102_0, hx102_1, hx102_2, hx102_3, hx102_4, hx102_5⟩ := at_T27 HR0.out x3_1 p102 q102
    obtain rfl : ad101 = ad102 := (by injection e102)
    replace p102 := eq_true p102
    replace q102 := eq_true q102
    have p103 : 0 ≤ (x3_1 : Int) := xD
    have q103 : x3_1 < (l0.length : Int) := xD
    obtain ⟨ad103, e103, hx103_0, hx103_1, hx103_2, hx103_3, hx103_4, hx103_5⟩ := at_T27 HR0.out x3_1 p103 q103
    obtain rfl : ad101 = ad103 := (by injection e103)
    replace p103 := eq_true p103
    replace q103 := eq_true q103
    go_wp2
    go_roundg k1
    case measure => have := HK1.out; omega
    case rel => exact ⟨(wrap64 (x3_1 + 1)), xR, H', ⟨by have := HK1.out; omega⟩, by repeat (first | exact Drawn0.refl _ | apply Drawn0.step)⟩
   rw [if_neg c2] at H
   have c2b0 := decide_eq_false c2
   clear c2
   obtain rfl := Option.some.inj H
   go_wp2
   go_ret
   exact ⟨xR, by repeat (first | exact Drawn0.refl _ | apply Drawn0.step)⟩
def armadaref17_Small.l0 : Nat → List (S27) → List (S46) → Int → Option (Bool)
 | 0, _, _, _ => none
 | k + 1, x0, x1, x5 => if x5 < (x1.length : Int) then (if 0 ≤ x5 then ((armadaref17_few.f k ((rd_T46 x1 x5).f1)).bind fun t106 => (if t106 = true then ((armadaref17_few.f k (([(⟨(rd_T46 x1 x5).f0.f0, (⟨(rd_T46 x1 x5).f0.f1.f0, (rd_T46 x1 x5).f0.f1.f1, (rd_T46 x1 x5).f0.f1.f2, (rd_T46 x1 x5).f0.f1.f3, (rd_T46 x1 x5).f0.f1.f4⟩ : S25)⟩ : S27)] : List (S27)))).bind fun t111 => (if t111 = true then (armadaref17_Small.l0 k x0 x1 (wrap64 (x5 + 1))) else (some false))) else (some false))) else (none)) else ((armadaref17_few.f k x0).bind fun t104 => (if t104 = true then (some (decide ((x1.length : Int) ≤ 20))) else (some false)))
def armadaref17_Small.f (k : Nat) (l0 : List (S27)) (l1 : List (S46)) : Option (Bool) := armadaref17_Small.l0 k l0 l1 0
theorem armadaref17_Small.mono_l : ∀ k, (∀ y0 y1 y2, LeO (armadaref17_Small.l0 k y0 y1 y2) (armadaref17_Small.l0 (k + 1) y0 y1 y2))
 | 0 => fun _ _ _ r h => by simp [armadaref17_Small.l0] at h
 | k + 1 => by
  have ih0 := armadaref17_Small.mono_l k
  ·
   intro y0 y1 y2
   unfold armadaref17_Small.l0
   repeat' first
   | (with_reducible exact ih0 _ _ _)
   | (with_reducible exact armadaref17_few.mono _ _)
   | (with_reducible exact LeO.refl _)
   | (with_reducible exact LeO.none _)
   | (with_reducible refine LeO.ite ?_ ?_)
   | (with_reducible refine LeO.bind ?_ (fun _ => ?_))
   | exact ih0 _ _ _
   | exact armadaref17_few.mono _ _
   | exact LeO.none _
   | refine LeO.ite ?_ ?_
   | refine LeO.bind ?_ (fun _ => ?_)
theorem armadaref17_Small.mono : ∀ a0 a1 k, LeO (armadaref17_Small.f k a0 a1) (armadaref17_Small.f (k + 1) a0 a1) := by
 intro a0 a1 k
 have ih0 := armadaref17_Small.mono_l k
 unfold armadaref17_Small.f
 repeat' first
   | (with_reducible exact ih0 _ _ _)
   | (with_reducible exact armadaref17_few.mono _ _)
   | (with_reducible exact LeO.refl _)
   | (with_reducible exact LeO.none _)
   | (with_reducible refine LeO.ite ?_ ?_)
   | (with_reducible refine LeO.bind ?_ (fun _ => ?_))
   | exact ih0 _ _ _
   | exact armadaref17_few.mono _ _
   | exact LeO.none _
   | refine LeO.ite ?_ ?_
   | refine LeO.bind ?_ (fun _ => ?_)
set_option maxHeartbeats 8000000 in
set_option maxRecDepth 100000 in
theorem armadaref17_Small.calls (k : Nat) (A0 : Option Addr) (c0 : Nat) (l0 : List (S27)) (A1 : Option Addr) (c1 : Nat) (l1 : List (S46)) (r : Bool) (w : World) (hr0 : Kd.C k27 w A0 l0.length l0) (hc0 : l0.length ≤ c0) (hr1 : Kd.C k46 w A1 l1.length l1) (hc1 : l1.length ≤ c1) (h : armadaref17_Small.f k l0 l1 = some r) :
  Calls Tryz.prog 11 #[.slice A0 l0.length c0, .slice A1 l1.length c1] w fun e w' => e = .returned (.bool r) ∧ Below w.heap.size w w' := by
 have hu27 := Tryz.underlying27
 have HR0 := Aside0.mk hr0
 have HC0 := Aside0.mk hc0
 clear hr0 hc0
 have HR1 := Aside0.mk hr1
 have HC1 := Aside0.mk hc1
 clear hr1 hc1
 have HB := Aside0.mk (Below.refl w.heap.size w)
 have H : (armadaref17_Small.l0 k l0 l1 0) = some r := h
 clear h
 have H' := Aside0.mk H
 clear H
 go_enter Tryz.func11, Tryz.ntmps11
 go_wp2
 go_loopg [5] k (fun kq v5 w' => ∃ (x5_1 : Int), v5 = .int .i64 x5_1 ∧ Aside0 (armadaref17_Small.l0 kq l0 l1 x5_1 = some r) ∧ Aside0 (kq ≤ k) ∧ Aside0 (Below w.heap.size w w'))
 case atStart => exact ⟨(0), xR, H', ⟨Nat.le_refl _⟩, ⟨xB⟩⟩
 case round =>
  clear H'
  try clear c1
  try clear p2
  obtain ⟨x5_1, rfl, HA, HK1, HB⟩ := hrel
  cases gk with
  | zero => exact absurd HA.out (by simp [armadaref17_Small.l0])
  | succ k1 =>
   have H := HA.out
   clear HA
   simp only [armadaref17_Small.l0] at H
   by_cases c3 : x5_1 < (l1.length : Int)
   ·
    rw [if_pos c3] at H
    have c3b0 := decide_eq_true c3
    clear c3
    replace H := xI H
    obtain ⟨c4, H⟩ := H
    have c4b0 := decide_eq_true c4
    clear c4
    replace H := xb H
    obtain ⟨t106, A5, H⟩ := H
    by_cases c6 : t106 = true
    ·
     subst c6
     rw [if_pos rfl] at H
     obtain ⟨y108, hy108⟩ : ∃ y_ : List (S27), y_ = (([(⟨(rd_T46 l1 x5_1).f0.f0, (⟨(rd_T46 l1 x5_1).f0.f1.f0, (rd_T46 l1 x5_1).f0.f1.f1, (rd_T46 l1 x5_1).f0.f1.f2, (rd_T46 l1 x5_1).f0.f1.f3, (rd_T46 l1 x5_1).f0.f1.f4⟩ : S25)⟩ : S27)] : List (S27))) := ⟨_, rfl⟩
     replace H : ((armadaref17_few.f k1 y108).bind fun t111 => (if t111 = true then (armadaref17_Small.l0 k1 l0 l1 (wrap64 (x5_1 + 1))) else (some false))) = some r := by first | (rw [hy108]; with_reducible exact H) | (have H2_ := (Option.bind_some _ _).symm.trans H; rw [hy108]; with_reducible exact H2_) | (have H2_ := (Option.bind_some _ _).symm.trans H; with_reducible exact H2_) | with_reducible exact H | (rw [hy108]; exact H) | exact H
     have Ny108 := Aside0.mk hy108
     clear hy108
     replace H := xb H
     obtain ⟨t111, A7, H⟩ := H
     by_cases c8 : t111 = true
     ·
      subst c8
      rw [if_pos rfl] at H
      have H' := Aside0.mk H
      clear H
      have p105 : 0 ≤ (x5_1 : Int) := xD
      have q105 : x5_1 < (l1.length : Int) := xD
      obtain ⟨ad105, A105_6, c105_6, e105, hx105_0, hx105_1, hx105_2, hx105_3, hx105_4, hx105_5, hx105_6, hl105_6, hi105_6⟩ := at_T46 HR1.out x5_1 p105 q105
      cases e105
      replace hx105_0 := (HB.out.cell (World.block_lt_of_cell? w _ hx105_0)).trans hx105_0
      replace hx105_1 := (HB.out.cell (World.block_lt_of_cell? w _ hx105_1)).trans hx105_1
      replace hx105_2 := (HB.out.cell (World.block_lt_of_cell? w _ hx105_2)).trans hx105_2
      replace hx105_3 := (HB.out.cell (World.block_lt_of_cell? w _ hx105_3)).trans hx105_3
      replace hx105_4 := (HB.out.cell (World.block_lt_of_cell? w _ hx105_4)).trans hx105_4
      replace hx105_5 := (HB.out.cell (World.block_lt_of_cell? w _ hx105_5)).trans hx105_5
      replace hx105_6 := (HB.out.cell (World.block_lt_of_cell? w _ hx105_6)).trans hx105_6
      have HR105_6 := Aside0.mk hi105_6
      have HC105_6 := Aside0.mk hl105_6
      clear hi105_6 hl105_6
      replace p105 := eq_true p105
      replace q105 := eq_true q105
      go_wp2_with (first | ((with_reducible refine gate_callee (f := 28) rfl ?_); refine goesL_ (some 17) rfl rfl Tryz.func28 (by kernel_rfl) rfl #[.slice A105_6 ((rd_T46 l1 x5_1).f1).length c105_6] rfl xS ?_; (with_reducible refine (armadaref17_few.calls k1 _ _ ((rd_T46 l1 x5_1).f1) true _ ?side1 ?side2 A5.out).mono ?_); (case side1 => repeat (first | exact (Kd.C_below HR105_6.out HB.out) | (with_reducible refine Kd.C_alloc ?_ _) | (with_reducible refine Kd.C_drewN ?_ _) | (with_reducible refine Kd.C_drew ?_))); (case side2 => exact HC105_6.out); rintro e w' ⟨rfl, ⟨nd, rfl⟩⟩; refine ⟨_, rfl, ?_⟩; have p107 : 0 ≤ (x5_1 : Int) := xD; have q107 : x5_1 < (l1.length : Int) := xD; obtain ⟨ad107, A107_6, c107_6, e107, hx107_0, hx107_1, hx107_2, hx107_3, hx107_4, hx107_5, hx107_6, hl107_6, hi107_6⟩ := at_T46 HR1.out x5_1 p107 q107; obtain rfl : ad105 = ad107 := (by injection e107); replace hx107_0 := (HB.out.cell (World.block_lt_of_cell? w _ hx107_0)).trans hx107_0; replace hx107_1 := (HB.out.cell (World.block_lt_of_cell? w _ hx107_1)).trans hx107_1; replace hx107_2 := (HB.out.cell (World.block_lt_of_cell? w _ hx107_2)).trans hx107_2; replace hx107_3 := (HB.out.cell (World.block_lt_of_cell? w _ hx107_3)).trans hx107_3; replace hx107_4 := (HB.out.cell (World.block_lt_of_cell? w _ hx107_4)).trans hx107_4; replace hx107_5 := (HB.out.cell (World.block_lt_of_cell? w _ hx107_5)).trans hx107_5; replace hx107_6 := (HB.out.cell (World.block_lt_of_cell? w _ hx107_6)).trans hx107_6; have HR107_6 := Aside0.mk hi107_6; have HC107_6 := Aside0.mk hl107_6; clear hi107_6 hl107_6; replace p107 := eq_true p107; replace q107 := eq_true q107; have ea_ := Option.some.inj (hx105_6.symm.trans hx107_6); injection ea_ with ea_ en_ ec_; subst ea_; subst ec_; clear en_) | ((with_reducible refine gate_dst (N := 25) rfl ?_); (try (refine gate_guard (by rfl) ?_; dsimp only)); refine Kd.R_lit k27 _ 27 ?hg (N := 25) ?hd (xs := ([(⟨(rd_T46 l1 x5_1).f0.f0, (⟨(rd_T46 l1 x5_1).f0.f1.f0, (rd_T46 l1 x5_1).f0.f1.f1, (rd_T46 l1 x5_1).f0.f1.f2, (rd_T46 l1 x5_1).f0.f1.f3, (rd_T46 l1 x5_1).f0.f1.f4⟩ : S25)⟩ : S27)] : List (S27))) (inner := [.string ((rd_T46 l1 x5_1).f0.f0), .int .i64 ((rd_T46 l1 x5_1).f0.f1.f0), .int .i64 ((rd_T46 l1 x5_1).f0.f1.f1), .int .i64 ((rd_T46 l1 x5_1).f0.f1.f2), .string ((rd_T46 l1 x5_1).f0.f1.f3), .string ((rd_T46 l1 x5_1).f0.f1.f4)]) (ok := fun _ => True) (okp := fun _ => True) ?hr ?hp (fun _ hk => hk) trivial (Below.refl _ _) (Nat.le_refl _) (by simp) ?_; (case hd => rfl); (case hg => rfl); (case hr => first | (go_simp; done) | (go_simp; rfl)); (case hp => exact (Reps.c6 (show Kd.M k27 _ _ _ (⟨(rd_T46 l1 x5_1).f0.f0, (⟨(rd_T46 l1 x5_1).f0.f1.f0, (rd_T46 l1 x5_1).f0.f1.f1, (rd_T46 l1 x5_1).f0.f1.f2, (rd_T46 l1 x5_1).f0.f1.f3, (rd_T46 l1 x5_1).f0.f1.f4⟩ : S25)⟩ : S27) [.string ((rd_T46 l1 x5_1).f0.f0), .int .i64 ((rd_T46 l1 x5_1).f0.f1.f0), .int .i64 ((rd_T46 l1 x5_1).f0.f1.f1), .int .i64 ((rd_T46 l1 x5_1).f0.f1.f2), .string ((rd_T46 l1 x5_1).f0.f1.f3), .string ((rd_T46 l1 x5_1).f0.f1.f4)] from (k27_mkM _ _ _ (⟨(rd_T46 l1 x5_1).f0.f0, (⟨(rd_T46 l1 x5_1).f0.f1.f0, (rd_T46 l1 x5_1).f0.f1.f1, (rd_T46 l1 x5_1).f0.f1.f2, (rd_T46 l1 x5_1).f0.f1.f3, (rd_T46 l1 x5_1).f0.f1.f4⟩ : S25)⟩ : S27) )) (Reps.none _ _))); intro v109 w9 ho10 hb hg_ hnew_; clear hg_ hnew_; (first | rw [← Ny108.out] at ho10 | (simp only [Int.reduceToNat] at ho10; rw [← Ny108.out] at ho10)); have HO110 := Aside0.mk (Kd.R_lower ho10 (below_size xB)); replace HB := Aside0.mk (below_step xB hb); clear hb ho10; obtain ⟨Ao11, co11, eo11⟩ := Kd.R_slice HO110.out; subst eo11) | (go_at_call 28; (with_reducible refine (armadaref17_few.calls k1 _ _ y108 true _ ?side1 ?side2 A7.out).mono ?_); (case side1 => repeat (first | exact (Kd.R_reads' HO110.out).2.2 | (with_reducible refine Kd.C_alloc ?_ _) | (with_reducible refine Kd.C_drewN ?_ _) | (with_reducible refine Kd.C_drew ?_))); (case side2 => exact (Kd.R_reads' HO110.out).2.1); rintro e w' ⟨rfl, ⟨nd, rfl⟩⟩))
      go_roundg k1
      case measure => have := HK1.out; omega
      case rel => exact ⟨(wrap64 (x5_1 + 1)), xR, H', ⟨by have := HK1.out; omega⟩, ⟨xB⟩⟩
     replace c8 := Bool.eq_false_iff.mpr c8
     subst c8
     rw [if_neg (show ¬ (false = true) by decide)] at H
     obtain rfl := Option.some.inj H
     have p105 : 0 ≤ (x5_1 : Int) := xD
     have q105 : x5_1 < (l1.length : Int) := xD
     obtain ⟨ad105, A105_6, c105_6, e105, hx105_0, hx105_1, hx105_2, hx105_3, hx105_4, hx105_5, hx105_6, hl105_6, hi105_6⟩ := at_T46 HR1.out x5_1 p105 q105
     cases e105
     replace hx105_0 := (HB.out.cell (World.block_lt_of_cell? w _ hx105_0)).trans hx105_0
     replace hx105_1 := (HB.out.cell (World.block_lt_of_cell? w _ hx105_1)).trans hx105_1
     replace hx105_2 := (HB.out.cell (World.block_lt_of_cell? w _ hx105_2)).trans hx105_2
     replace hx105_3 := (HB.out.cell (World.block_lt_of_cell? w _ hx105_3)).trans hx105_3
     replace hx105_4 := (HB.out.cell (World.block_lt_of_cell? w _ hx105_4)).trans hx105_4
     replace hx105_5 := (HB.out.cell (World.block_lt_of_cell? w _ hx105_5)).trans hx105_5
     replace hx105_6 := (HB.out.cell (World.block_lt_of_cell? w _ hx105_6)).trans hx105_6
     have HR105_6 := Aside0.mk hi105_6
     have HC105_6 := Aside0.mk hl105_6
     clear hi105_6 hl105_6
     replace p105 := eq_true p105
     replace q105 := eq_true q105
     go_wp2_with (first | ((with_reducible refine gate_callee (f := 28) rfl ?_); refine goesL_ (some 17) rfl rfl Tryz.func28 (by kernel_rfl) rfl #[.slice A105_6 ((rd_T46 l1 x5_1).f1).length c105_6] rfl xS ?_; (with_reducible refine (armadaref17_few.calls k1 _ _ ((rd_T46 l1 x5_1).f1) true _ ?side1 ?side2 A5.out).mono ?_); (case side1 => repeat (first | exact (Kd.C_below HR105_6.out HB.out) | (with_reducible refine Kd.C_alloc ?_ _) | (with_reducible refine Kd.C_drewN ?_ _) | (with_reducible refine Kd.C_drew ?_))); (case side2 => exact HC105_6.out); rintro e w' ⟨rfl, ⟨nd, rfl⟩⟩; refine ⟨_, rfl, ?_⟩; have p107 : 0 ≤ (x5_1 : Int) := xD; have q107 : x5_1 < (l1.length : Int) := xD; obtain ⟨ad107, A107_6, c107_6, e107, hx107_0, hx107_1, hx107_2, hx107_3, hx107_4, hx107_5, hx107_6, hl107_6, hi107_6⟩ := at_T46 HR1.out x5_1 p107 q107; obtain rfl : ad105 = ad107 := (by injection e107); replace hx107_0 := (HB.out.cell (World.block_lt_of_cell? w _ hx107_0)).trans hx107_0; replace hx107_1 := (HB.out.cell (World.block_lt_of_cell? w _ hx107_1)).trans hx107_1; replace hx107_2 := (HB.out.cell (World.block_lt_of_cell? w _ hx107_2)).trans hx107_2; replace hx107_3 := (HB.out.cell (World.block_lt_of_cell? w _ hx107_3)).trans hx107_3; replace hx107_4 := (HB.out.cell (World.block_lt_of_cell? w _ hx107_4)).trans hx107_4; replace hx107_5 := (HB.out.cell (World.block_lt_of_cell? w _ hx107_5)).trans hx107_5; replace hx107_6 := (HB.out.cell (World.block_lt_of_cell? w _ hx107_6)).trans hx107_6; have HR107_6 := Aside0.mk hi107_6; have HC107_6 := Aside0.mk hl107_6; clear hi107_6 hl107_6; replace p107 := eq_true p107; replace q107 := eq_true q107; have ea_ := Option.some.inj (hx105_6.symm.trans hx107_6); injection ea_ with ea_ en_ ec_; subst ea_; subst ec_; clear en_) | ((with_reducible refine gate_dst (N := 25) rfl ?_); (try (refine gate_guard (by rfl) ?_; dsimp only)); refine Kd.R_lit k27 _ 27 ?hg (N := 25) ?hd (xs := ([(⟨(rd_T46 l1 x5_1).f0.f0, (⟨(rd_T46 l1 x5_1).f0.f1.f0, (rd_T46 l1 x5_1).f0.f1.f1, (rd_T46 l1 x5_1).f0.f1.f2, (rd_T46 l1 x5_1).f0.f1.f3, (rd_T46 l1 x5_1).f0.f1.f4⟩ : S25)⟩ : S27)] : List (S27))) (inner := [.string ((rd_T46 l1 x5_1).f0.f0), .int .i64 ((rd_T46 l1 x5_1).f0.f1.f0), .int .i64 ((rd_T46 l1 x5_1).f0.f1.f1), .int .i64 ((rd_T46 l1 x5_1).f0.f1.f2), .string ((rd_T46 l1 x5_1).f0.f1.f3), .string ((rd_T46 l1 x5_1).f0.f1.f4)]) (ok := fun _ => True) (okp := fun _ => True) ?hr ?hp (fun _ hk => hk) trivial (Below.refl _ _) (Nat.le_refl _) (by simp) ?_; (case hd => rfl); (case hg => rfl); (case hr => first | (go_simp; done) | (go_simp; rfl)); (case hp => exact (Reps.c6 (show Kd.M k27 _ _ _ (⟨(rd_T46 l1 x5_1).f0.f0, (⟨(rd_T46 l1 x5_1).f0.f1.f0, (rd_T46 l1 x5_1).f0.f1.f1, (rd_T46 l1 x5_1).f0.f1.f2, (rd_T46 l1 x5_1).f0.f1.f3, (rd_T46 l1 x5_1).f0.f1.f4⟩ : S25)⟩ : S27) [.string ((rd_T46 l1 x5_1).f0.f0), .int .i64 ((rd_T46 l1 x5_1).f0.f1.f0), .int .i64 ((rd_T46 l1 x5_1).f0.f1.f1), .int .i64 ((rd_T46 l1 x5_1).f0.f1.f2), .string ((rd_T46 l1 x5_1).f0.f1.f3), .string ((rd_T46 l1 x5_1).f0.f1.f4)] from (k27_mkM _ _ _ (⟨(rd_T46 l1 x5_1).f0.f0, (⟨(rd_T46 l1 x5_1).f0.f1.f0, (rd_T46 l1 x5_1).f0.f1.f1, (rd_T46 l1 x5_1).f0.f1.f2, (rd_T46 l1 x5_1).f0.f1.f3, (rd_T46 l1 x5_1).f0.f1.f4⟩ : S25)⟩ : S27) )) (Reps.none _ _))); intro v109 w12 ho13 hb hg_ hnew_; clear hg_ hnew_; (first | rw [← Ny108.out] at ho13 | (simp only [Int.reduceToNat] at ho13; rw [← Ny108.out] at ho13)); have HO110 := Aside0.mk (Kd.R_lower ho13 (below_size xB)); replace HB := Aside0.mk (below_step xB hb); clear hb ho13; obtain ⟨Ao14, co14, eo14⟩ := Kd.R_slice HO110.out; subst eo14) | (go_at_call 28; (with_reducible refine (armadaref17_few.calls k1 _ _ y108 false _ ?side1 ?side2 A7.out).mono ?_); (case side1 => repeat (first | exact (Kd.R_reads' HO110.out).2.2 | (with_reducible refine Kd.C_alloc ?_ _) | (with_reducible refine Kd.C_drewN ?_ _) | (with_reducible refine Kd.C_drew ?_))); (case side2 => exact (Kd.R_reads' HO110.out).2.1); rintro e w' ⟨rfl, ⟨nd, rfl⟩⟩))
     go_ret
     exact ⟨by first | rfl | (simp [errW_none, errW_some] <;> rfl) | (simp [*, errW_none, errW_some] <;> rfl) | (simp [isEmpty_bne]; done), xB⟩
    replace c6 := Bool.eq_false_iff.mpr c6
    subst c6
    rw [if_neg (show ¬ (false = true) by decide)] at H
    obtain rfl := Option.some.inj H
    have p105 : 0 ≤ (x5_1 : Int) := xD
    have q105 : x5_1 < (l1.length : Int) := xD
    obtain ⟨ad105, A105_6, c105_6, e105, hx105_0, hx105_1, hx105_2, hx105_3, hx105_4, hx105_5, hx105_6, hl105_6, hi105_6⟩ := at_T46 HR1.out x5_1 p105 q105
    cases e105
    replace hx105_0 := (HB.out.cell (World.block_lt_of_cell? w _ hx105_0)).trans hx105_0
    replace hx105_1 := (HB.out.cell (World.block_lt_of_cell? w _ hx105_1)).trans hx105_1
    replace hx105_2 := (HB.out.cell (World.block_lt_of_cell? w _ hx105_2)).trans hx105_2
    replace hx105_3 := (HB.out.cell (World.block_lt_of_cell? w _ hx105_3)).trans hx105_3
    replace hx105_4 := (HB.out.cell (World.block_lt_of_cell? w _ hx105_4)).trans hx105_4
    replace hx105_5 := (HB.out.cell (World.block_lt_of_cell? w _ hx105_5)).trans hx105_5
    replace hx105_6 := (HB.out.cell (World.block_lt_of_cell? w _ hx105_6)).trans hx105_6
    have HR105_6 := Aside0.mk hi105_6
    have HC105_6 := Aside0.mk hl105_6
    clear hi105_6 hl105_6
    replace p105 := eq_true p105
    replace q105 := eq_true q105
    go_wp2_with (first | ((with_reducible refine gate_callee (f := 28) rfl ?_); refine goesL_ (some 17) rfl rfl Tryz.func28 (by kernel_rfl) rfl #[.slice A105_6 ((rd_T46 l1 x5_1).f1).length c105_6] rfl xS ?_; (with_reducible refine (armadaref17_few.calls k1 _ _ ((rd_T46 l1 x5_1).f1) false _ ?side1 ?side2 A5.out).mono ?_); (case side1 => repeat (first | exact (Kd.C_below HR105_6.out HB.out) | (with_reducible refine Kd.C_alloc ?_ _) | (with_reducible refine Kd.C_drewN ?_ _) | (with_reducible refine Kd.C_drew ?_))); (case side2 => exact HC105_6.out); rintro e w' ⟨rfl, ⟨nd, rfl⟩⟩; refine ⟨_, rfl, ?_⟩))
    go_ret
    exact ⟨by first | rfl | (simp [errW_none, errW_some] <;> rfl) | (simp [*, errW_none, errW_some] <;> rfl) | (simp [isEmpty_bne]; done), xB⟩
   rw [if_neg c3] at H
   have c3b0 := decide_eq_false c3
   clear c3
   replace H := xb H
   obtain ⟨t104, A15, H⟩ := H
   by_cases c16 : t104 = true
   ·
    subst c16
    rw [if_pos rfl] at H
    obtain rfl := Option.some.inj H
    go_wp2_with (first | ((with_reducible refine gate_callee (f := 28) rfl ?_); refine goesL_ (some 30) rfl rfl Tryz.func28 (by kernel_rfl) rfl #[.slice A0 l0.length c0] rfl xS ?_; (with_reducible refine (armadaref17_few.calls k1 _ _ l0 true _ ?side1 ?side2 A15.out).mono ?_); (case side1 => repeat (first | exact (Kd.C_below HR0.out HB.out) | (with_reducible refine Kd.C_alloc ?_ _) | (with_reducible refine Kd.C_drewN ?_ _) | (with_reducible refine Kd.C_drew ?_))); (case side2 => exact HC0.out); rintro e w' ⟨rfl, ⟨nd, rfl⟩⟩; refine ⟨_, rfl, ?_⟩))
    go_ret
    exact ⟨by first | rfl | (simp [errW_none, errW_some] <;> rfl) | (simp [*, errW_none, errW_some] <;> rfl) | (simp [isEmpty_bne]; done), xB⟩
   replace c16 := Bool.eq_false_iff.mpr c16
   subst c16
   rw [if_neg (show ¬ (false = true) by decide)] at H
   obtain rfl := Option.some.inj H
   go_wp2_with (first | ((with_reducible refine gate_callee (f := 28) rfl ?_); refine goesL_ (some 30) rfl rfl Tryz.func28 (by kernel_rfl) rfl #[.slice A0 l0.length c0] rfl xS ?_; (with_reducible refine (armadaref17_few.calls k1 _ _ l0 false _ ?side1 ?side2 A15.out).mono ?_); (case side1 => repeat (first | exact (Kd.C_below HR0.out HB.out) | (with_reducible refine Kd.C_alloc ?_ _) | (with_reducible refine Kd.C_drewN ?_ _) | (with_reducible refine Kd.C_drew ?_))); (case side2 => exact HC0.out); rintro e w' ⟨rfl, ⟨nd, rfl⟩⟩; refine ⟨_, rfl, ?_⟩))
   go_ret
   exact ⟨by first | rfl | (simp [errW_none, errW_some] <;> rfl) | (simp [*, errW_none, errW_some] <;> rfl) | (simp [isEmpty_bne]; done), xB⟩
def armadaref17_In.l0 : Nat → List (S27) → Int → ByteArray → Int → Int → Int → ByteArray → ByteArray → Option (Bool)
 | 0, _, _, _, _, _, _, _, _ => none
 | k + 1, x0, x5, x113000, x113001, x113002, x113003, x113004, x113005 => if x5 < (x0.length : Int) then (if 0 ≤ x5 then (if ((((rd_T27 x0 x5).f0).toList) == x113000.toList && ((((rd_T27 x0 x5).f1.f0) == x113001 && (((rd_T27 x0 x5).f1.f1) == x113002 && (((rd_T27 x0 x5).f1.f2) == x113003 && ((((rd_T27 x0 x5).f1.f3).toList) == x113004.toList && ((((rd_T27 x0 x5).f1.f4).toList) == x113005.toList))))))) = true then (some true) else (armadaref17_In.l0 k x0 (wrap64 (x5 + 1)) x113000 x113001 x113002 x113003 x113004 x113005)) else (none)) else (some false)
def armadaref17_In.f (k : Nat) (l0 : List (S27)) (a1_0 : ByteArray) (a1_1 : Int) (a1_2 : Int) (a1_3 : Int) (a1_4 : ByteArray) (a1_5 : ByteArray) : Option (Bool) := armadaref17_In.l0 k l0 0 a1_0 a1_1 a1_2 a1_3 a1_4 a1_5
theorem armadaref17_In.mono_l : ∀ k, (∀ y0 y1 y2 y3 y4 y5 y6 y7, LeO (armadaref17_In.l0 k y0 y1 y2 y3 y4 y5 y6 y7) (armadaref17_In.l0 (k + 1) y0 y1 y2 y3 y4 y5 y6 y7))
 | 0 => fun _ _ _ _ _ _ _ _ r h => by simp [armadaref17_In.l0] at h
 | k + 1 => by
  have ih0 := armadaref17_In.mono_l k
  ·
   intro y0 y1 y2 y3 y4 y5 y6 y7
   unfold armadaref17_In.l0
   exact xM
theorem armadaref17_In.mono : ∀ a0 a1 a2 a3 a4 a5 a6 k, LeO (armadaref17_In.f k a0 a1 a2 a3 a4 a5 a6) (armadaref17_In.f (k + 1) a0 a1 a2 a3 a4 a5 a6) := by
 intro a0 a1 a2 a3 a4 a5 a6 k
 have ih0 := armadaref17_In.mono_l k
 unfold armadaref17_In.f
 exact xM
set_option maxHeartbeats 8000000 in
set_option maxRecDepth 100000 in
theorem armadaref17_In.calls (k : Nat) (A0 : Option Addr) (c0 : Nat) (l0 : List (S27)) (a1_0 : ByteArray) (a1_1 : Int) (a1_2 : Int) (a1_3 : Int) (a1_4 : ByteArray) (a1_5 : ByteArray) (r : Bool) (w : World) (hr0 : Kd.C k27 w A0 l0.length l0) (hc0 : l0.length ≤ c0) (h : armadaref17_In.f k l0 a1_0 a1_1 a1_2 a1_3 a1_4 a1_5 = some r) :
  Calls Tryz.prog 23 #[.slice A0 l0.length c0, .agg #[.string a1_0, .int .i64 a1_1, .int .i64 a1_2, .int .i64 a1_3, .string a1_4, .string a1_5]] w fun e w' => e = .returned (.bool r) ∧ Below w.heap.size w w' := by
 have hu27 := Tryz.underlying27
 have HR0 := Aside0.mk hr0
 have HC0 := Aside0.mk hc0
 clear hr0 hc0
 have HB := Aside0.mk (Below.refl w.heap.size w)
 have H : (armadaref17_In.l0 k l0 0 a1_0 a1_1 a1_2 a1_3 a1_4 a1_5) = some r := h
 clear h
 have H' := Aside0.mk H
 clear H
 go_enter Tryz.func23, Tryz.ntmps23
 go_wp2_with (first | ((with_reducible refine gate_dst (N := 3) rfl ?_); refine box_event ?hg (N := 3) ?hd (cs := #[.string a1_0, .int .i64 a1_1, .int .i64 a1_2, .int .i64 a1_3, .string a1_4, .string a1_5]) (t := 27) ?hr ?_; (case hd => rfl); (case hg => rfl); (case hr => first | (go_simp; done) | (go_simp; rfl)); intro gb112 hg w3 hbox hb; have BK112 := Aside0.mk (hbox); have GW112 := Aside0.mk ((by rw [hg]; exact (below_size xB) : w.heap.size ≤ gb112)); have GE112 := Aside0.mk ((by rw [hg]; exact (below_size xB) : w.heap.size ≤ gb112)); replace HB := Aside0.mk (below_step xB hb); clear hb hbox hg))
 repeat (go_quiet (first | ((with_reducible refine gate_dst (N := 3) rfl ?_); refine box_event ?hg (N := 3) ?hd (cs := #[.string a1_0, .int .i64 a1_1, .int .i64 a1_2, .int .i64 a1_3, .string a1_4, .string a1_5]) (t := 27) ?hr ?_; (case hd => rfl); (case hg => rfl); (case hr => first | (go_simp; done) | (go_simp; rfl)); intro gb112 hg w3 hbox hb; have BK112 := Aside0.mk (hbox); have GW112 := Aside0.mk ((by rw [hg]; exact (below_size xB) : w.heap.size ≤ gb112)); have GE112 := Aside0.mk ((by rw [hg]; exact (below_size xB) : w.heap.size ≤ gb112)); replace HB := Aside0.mk (below_step xB hb); clear hb hbox hg)); try go_wp2_with (first | ((with_reducible refine gate_dst (N := 3) rfl ?_); refine box_event ?hg (N := 3) ?hd (cs := #[.string a1_0, .int .i64 a1_1, .int .i64 a1_2, .int .i64 a1_3, .string a1_4, .string a1_5]) (t := 27) ?hr ?_; (case hd => rfl); (case hg => rfl); (case hr => first | (go_simp; done) | (go_simp; rfl)); intro gb112 hg w3 hbox hb; have BK112 := Aside0.mk (hbox); have GW112 := Aside0.mk ((by rw [hg]; exact (below_size xB) : w.heap.size ≤ gb112)); have GE112 := Aside0.mk ((by rw [hg]; exact (below_size xB) : w.heap.size ≤ gb112)); replace HB := Aside0.mk (below_step xB hb); clear hb hbox hg)))
 go_loopg [5] k (fun kq v5 w' => ∃ (x5_1 : Int), v5 = .int .i64 x5_1 ∧ Aside0 (armadaref17_In.l0 kq l0 x5_1 a1_0 a1_1 a1_2 a1_3 a1_4 a1_5 = some r) ∧ Aside0 (kq ≤ k) ∧ Aside0 (w'.heap[gb112]? = some (.cells #[.string a1_0, .int .i64 a1_1, .int .i64 a1_2, .int .i64 a1_3, .string a1_4, .string a1_5] 27 (0, 0))) ∧ Aside0 (Below w.heap.size w w'))
 case atStart => exact ⟨(0), xR, H', ⟨Nat.le_refl _⟩, ⟨by (with_reducible repeat (first | refine blk_drewN ?_ _ | refine blk_drew ?_ | refine blk_alloc ?_ _)); exact BK112.out⟩, ⟨xB⟩⟩
 case round =>
  clear H'
  try clear c2
  try clear p2
  obtain ⟨x5_1, rfl, HA, HK1, BK112, HB⟩ := hrel
  cases gk with
  | zero => exact absurd HA.out (by simp [armadaref17_In.l0])
  | succ k1 =>
   have H := HA.out
   clear HA
   simp only [armadaref17_In.l0] at H
   by_cases c4 : x5_1 < (l0.length : Int)
   ·
    rw [if_pos c4] at H
    have c4b0 := decide_eq_true c4
    clear c4
    replace H := xI H
    obtain ⟨c5, H⟩ := H
    have c5b0 := decide_eq_true c5
    clear c5
    by_cases c6 : ((((rd_T27 l0 x5_1).f0).toList) == a1_0.toList && ((((rd_T27 l0 x5_1).f1.f0) == a1_1 && (((rd_T27 l0 x5_1).f1.f1) == a1_2 && (((rd_T27 l0 x5_1).f1.f2) == a1_3 && ((((rd_T27 l0 x5_1).f1.f3).toList) == a1_4.toList && ((((rd_T27 l0 x5_1).f1.f4).toList) == a1_5.toList))))))) = true
    ·
     rw [if_pos c6] at H
     have c6b0 : ((((rd_T27 l0 x5_1).f0).toList) == a1_0.toList && ((((rd_T27 l0 x5_1).f1.f0) == a1_1 && (((rd_T27 l0 x5_1).f1.f1) == a1_2 && (((rd_T27 l0 x5_1).f1.f2) == a1_3 && ((((rd_T27 l0 x5_1).f1.f3).toList) == a1_4.toList && ((((rd_T27 l0 x5_1).f1.f4).toList) == a1_5.toList))))))) = true := c6
     (try (have c6b1 : decide ((((rd_T27 l0 x5_1).f0).toList) = a1_0.toList && ((((rd_T27 l0 x5_1).f1.f0) == a1_1 && (((rd_T27 l0 x5_1).f1.f1) == a1_2 && (((rd_T27 l0 x5_1).f1.f2) == a1_3 && ((((rd_T27 l0 x5_1).f1.f3).toList) == a1_4.toList && ((((rd_T27 l0 x5_1).f1.f4).toList) == a1_5.toList))))))) = true := by simpa using c6))
     (try (have c6b2 : ((((rd_T27 l0 x5_1).f0).toList) == a1_0.toList && ((((rd_T27 l0 x5_1).f1.f0) == a1_1 && (((rd_T27 l0 x5_1).f1.f1) == a1_2 && (((rd_T27 l0 x5_1).f1.f2) == a1_3 && ((((rd_T27 l0 x5_1).f1.f3).toList) == a1_4.toList && ((((rd_T27 l0 x5_1).f1.f4).toList) == a1_5.toList))))))) = true := by simpa using c6))
     clear c6
     obtain rfl := Option.some.inj H
     have p113 : 0 ≤ (x5_1 : Int) := xD
     have q113 : x5_1 < (l0.length : Int) := xD
     obtain ⟨ad113, e113, hx113_0, hx113_1, hx113_2, hx113_3, hx113_4, hx113_5⟩ := at_T27 HR0.out x5_1 p113 q113
     cases e113
     replace hx113_0 := (HB.out.cell (World.block_lt_of_cell? w _ hx113_0)).trans hx113_0
     replace hx113_1 := (HB.out.cell (World.block_lt_of_cell? w _ hx113_1)).trans hx113_1
     replace hx113_2 := (HB.out.cell (World.block_lt_of_cell? w _ hx113_2)).trans hx113_2
     replace hx113_3 := (HB.out.cell (World.block_lt_of_cell? w _ hx113_3)).trans hx113_3
     replace hx113_4 := (HB.out.cell (World.block_lt_of_cell? w _ hx113_4)).trans hx113_4
     replace hx113_5 := (HB.out.cell (World.block_lt_of_cell? w _ hx113_5)).trans hx113_5
     replace p113 := eq_true p113
     replace q113 := eq_true q113
     have hcz7_0 : wr.cell? ⟨gb112, 0, none⟩ = some (.string a1_0) := (blk_cell BK112.out 0).trans rfl
     have hcz7_1 : wr.cell? ⟨gb112, 1, none⟩ = some (.int .i64 a1_1) := (blk_cell BK112.out 1).trans rfl
     have hcz7_2 : wr.cell? ⟨gb112, 2, none⟩ = some (.int .i64 a1_2) := (blk_cell BK112.out 2).trans rfl
     have hcz7_3 : wr.cell? ⟨gb112, 3, none⟩ = some (.int .i64 a1_3) := (blk_cell BK112.out 3).trans rfl
     have hcz7_4 : wr.cell? ⟨gb112, 4, none⟩ = some (.string a1_4) := (blk_cell BK112.out 4).trans rfl
     have hcz7_5 : wr.cell? ⟨gb112, 5, none⟩ = some (.string a1_5) := (blk_cell BK112.out 5).trans rfl
     have hfz7_0 := blk_frozen BK112.out 0
     have hfz7_1 := blk_frozen BK112.out 1
     have hfz7_2 := blk_frozen BK112.out 2
     have hfz7_3 := blk_frozen BK112.out 3
     have hfz7_4 := blk_frozen BK112.out 4
     have hfz7_5 := blk_frozen BK112.out 5
     go_wp2
     repeat (go_quiet (fail); try go_wp2)
     go_ret
     exact ⟨by first | rfl | (simp [errW_none, errW_some] <;> rfl) | (simp [*, errW_none, errW_some] <;> rfl) | (simp [isEmpty_bne]; done), xB⟩
    rw [if_neg c6] at H
    have c6b0 : ((((rd_T27 l0 x5_1).f0).toList) == a1_0.toList && ((((rd_T27 l0 x5_1).f1.f0) == a1_1 && (((rd_T27 l0 x5_1).f1.f1) == a1_2 && (((rd_T27 l0 x5_1).f1.f2) == a1_3 && ((((rd_T27 l0 x5_1).f1.f3).toList) == a1_4.toList && ((((rd_T27 l0 x5_1).f1.f4).toList) == a1_5.toList))))))) = false := by simpa using c6
    (try (have c6b1 : decide ((((rd_T27 l0 x5_1).f0).toList) = a1_0.toList && ((((rd_T27 l0 x5_1).f1.f0) == a1_1 && (((rd_T27 l0 x5_1).f1.f1) == a1_2 && (((rd_T27 l0 x5_1).f1.f2) == a1_3 && ((((rd_T27 l0 x5_1).f1.f3).toList) == a1_4.toList && ((((rd_T27 l0 x5_1).f1.f4).toList) == a1_5.toList))))))) = false := by simpa using c6))
    (try (have c6b2 : ((((rd_T27 l0 x5_1).f0).toList) == a1_0.toList && ((((rd_T27 l0 x5_1).f1.f0) == a1_1 && (((rd_T27 l0 x5_1).f1.f1) == a1_2 && (((rd_T27 l0 x5_1).f1.f2) == a1_3 && ((((rd_T27 l0 x5_1).f1.f3).toList) == a1_4.toList && ((((rd_T27 l0 x5_1).f1.f4).toList) == a1_5.toList))))))) = false := by simpa using c6))
    (try (have c6b3 : ¬ ((((rd_T27 l0 x5_1).f0).toList) = a1_0.toList && ((((rd_T27 l0 x5_1).f1.f0) == a1_1 && (((rd_T27 l0 x5_1).f1.f1) == a1_2 && (((rd_T27 l0 x5_1).f1.f2) == a1_3 && ((((rd_T27 l0 x5_1).f1.f3).toList) == a1_4.toList && ((((rd_T27 l0 x5_1).f1.f4).toList) == a1_5.toList))))))) := by simpa using c6))
    clear c6
    have H' := Aside0.mk H
    clear H
    have p113 : 0 ≤ (x5_1 : Int) := xD
    have q113 : x5_1 < (l0.length : Int) := xD
    obtain ⟨ad113, e113, hx113_0, hx113_1, hx113_2, hx113_3, hx113_4, hx113_5⟩ := at_T27 HR0.out x5_1 p113 q113
    cases e113
    replace hx113_0 := (HB.out.cell (World.block_lt_of_cell? w _ hx113_0)).trans hx113_0
    replace hx113_1 := (HB.out.cell (World.block_lt_of_cell? w _ hx113_1)).trans hx113_1
    replace hx113_2 := (HB.out.cell (World.block_lt_of_cell? w _ hx113_2)).trans hx113_2
    replace hx113_3 := (HB.out.cell (World.block_lt_of_cell? w _ hx113_3)).trans hx113_3
    replace hx113_4 := (HB.out.cell (World.block_lt_of_cell? w _ hx113_4)).trans hx113_4
    replace hx113_5 := (HB.out.cell (World.block_lt_of_cell? w _ hx113_5)).trans hx113_5
    replace p113 := eq_true p113
    replace q113 := eq_true q113
    have hcz8_0 : wr.cell? ⟨gb112, 0, none⟩ = some (.string a1_0) := (blk_cell BK112.out 0).trans rfl
    have hcz8_1 : wr.cell? ⟨gb112, 1, none⟩ = some (.int .i64 a1_1) := (blk_cell BK112.out 1).trans rfl
    have hcz8_2 : wr.cell? ⟨gb112, 2, none⟩ = some (.int .i64 a1_2) := (blk_cell BK112.out 2).trans rfl
    have hcz8_3 : wr.cell? ⟨gb112, 3, none⟩ = some (.int .i64 a1_3) := (blk_cell BK112.out 3).trans rfl
    have hcz8_4 : wr.cell? ⟨gb112, 4, none⟩ = some (.string a1_4) := (blk_cell BK112.out 4).trans rfl
    have hcz8_5 : wr.cell? ⟨gb112, 5, none⟩ = some (.string a1_5) := (blk_cell BK112.out 5).trans rfl
    have hfz8_0 := blk_frozen BK112.out 0
    have hfz8_1 := blk_frozen BK112.out 1
    have hfz8_2 := blk_frozen BK112.out 2
    have hfz8_3 := blk_frozen BK112.out 3
    have hfz8_4 := blk_frozen BK112.out 4
    have hfz8_5 := blk_frozen BK112.out 5
    go_wp2
    repeat (go_quiet (fail); try go_wp2)
    go_roundg k1
    case measure => have := HK1.out; omega
    case rel => exact ⟨(wrap64 (x5_1 + 1)), xR, H', ⟨by have := HK1.out; omega⟩, ⟨by (with_reducible repeat (first | refine blk_drewN ?_ _ | refine blk_drew ?_ | refine blk_alloc ?_ _)); exact BK112.out⟩, ⟨xB⟩⟩
   rw [if_neg c4] at H
   have c4b0 := decide_eq_false c4
   clear c4
   obtain rfl := Option.some.inj H
   go_wp2
   repeat (go_quiet (fail); try go_wp2)
   go_ret
   exact ⟨by first | rfl | (simp [errW_none, errW_some] <;> rfl) | (simp [*, errW_none, errW_some] <;> rfl) | (simp [isEmpty_bne]; done), xB⟩
def armadaref17_May.f (k : Nat) (a0_0 : ByteArray) (a0_1 : Int) (a0_2 : Int) (a0_3 : Int) (a0_4 : ByteArray) (a0_5 : ByteArray) : Option (Bool) := (armadaref08_Fits.f k a0_0 a0_1 a0_2 a0_3 a0_4 a0_5).bind fun t115 => (some t115)
theorem armadaref17_May.mono : ∀ a0 a1 a2 a3 a4 a5 k, LeO (armadaref17_May.f k a0 a1 a2 a3 a4 a5) (armadaref17_May.f (k + 1) a0 a1 a2 a3 a4 a5) := by
 intro a0 a1 a2 a3 a4 a5 k
 unfold armadaref17_May.f
 repeat' first
   | (with_reducible exact armadaref08_Fits.mono _ _ _ _ _ _ _)
   | (with_reducible exact LeO.refl _)
   | (with_reducible exact LeO.none _)
   | (with_reducible refine LeO.ite ?_ ?_)
   | (with_reducible refine LeO.bind ?_ (fun _ => ?_))
   | exact armadaref08_Fits.mono _ _ _ _ _ _ _
   | exact LeO.none _
   | refine LeO.ite ?_ ?_
   | refine LeO.bind ?_ (fun _ => ?_)
set_option maxHeartbeats 8000000 in
set_option maxRecDepth 100000 in
theorem armadaref17_May.calls (k : Nat) (a0_0 : ByteArray) (a0_1 : Int) (a0_2 : Int) (a0_3 : Int) (a0_4 : ByteArray) (a0_5 : ByteArray) (r : Bool) (w : World) (h : armadaref17_May.f k a0_0 a0_1 a0_2 a0_3 a0_4 a0_5 = some r) :
  Calls Tryz.prog 25 #[.agg #[.string a0_0, .int .i64 a0_1, .int .i64 a0_2, .int .i64 a0_3, .string a0_4, .string a0_5]] w fun e w' => e = .returned (.bool r) ∧ Below w.heap.size w w' := by
 have hu27 := Tryz.underlying27
 have hu25 := Tryz.underlying25
 have HB := Aside0.mk (Below.refl w.heap.size w)
 have H : ((armadaref08_Fits.f k a0_0 a0_1 a0_2 a0_3 a0_4 a0_5).bind fun t115 => (some t115)) = some r := h
 clear h
 replace H := xb H
 obtain ⟨t115, A2, H⟩ := H
 obtain rfl := Option.some.inj H
 go_enter Tryz.func25, Tryz.ntmps25
 go_wp2_with (first | ((with_reducible refine gate_dst (N := 1) rfl ?_); refine box_event ?hg (N := 1) ?hd (cs := #[.string a0_0, .int .i64 a0_1, .int .i64 a0_2, .int .i64 a0_3, .string a0_4, .string a0_5]) (t := 27) ?hr ?_; (case hd => rfl); (case hg => rfl); (case hr => first | (go_simp; done) | (go_simp; rfl)); intro gb114 hg w3 hbox hb; have BK114 := Aside0.mk (hbox); have GW114 := Aside0.mk ((by rw [hg]; exact (below_size xB) : w.heap.size ≤ gb114)); have GE114 := Aside0.mk ((by rw [hg]; exact (below_size xB) : w.heap.size ≤ gb114)); replace HB := Aside0.mk (below_step xB hb); clear hb hbox hg; obtain ⟨hcz4_0, hcz4_1, hcz4_2, hcz4_3, hcz4_4, hcz4_5⟩ := xC6 BK114.out; obtain ⟨hfz4_0, hfz4_1, hfz4_2, hfz4_3, hfz4_4, hfz4_5⟩ := xF6 BK114.out) | ((with_reducible refine gate_callee (f := 50) rfl ?_); refine goesL_ (some 7) rfl rfl Tryz.func50 (by kernel_rfl) rfl #[.string a0_0, .agg #[.int .i64 a0_1, .int .i64 a0_2, .int .i64 a0_3, .string a0_4, .string a0_5]] rfl xS ?_; (with_reducible refine (armadaref08_Fits.calls k a0_0 a0_1 a0_2 a0_3 a0_4 a0_5 t115 _ A2.out).mono ?_); rintro e w5 ⟨rfl, hb⟩; refine ⟨_, rfl, ?_⟩; replace BK114 := Aside0.mk (blk_below (g := gb114) (o := .cells #[.string a0_0, .int .i64 a0_1, .int .i64 a0_2, .int .i64 a0_3, .string a0_4, .string a0_5] 27 (0, 0)) xK hb); replace HB := Aside0.mk (below_step xB hb); (try clear hb); (try clear hb2); (try clear hk); (try clear hi)))
 go_ret
 exact ⟨by first | rfl | (simp [errW_none, errW_some] <;> rfl) | (simp [*, errW_none, errW_some] <;> rfl) | (simp [isEmpty_bne]; done), xB⟩
end Go.Proofs.YtkidfclnakbgiaaGreatDoor.RS
end
