/- The texts RSx3, RSx4, RSx in one file, without what these claims do not use (put together by prune2.py). -/
import Derived.Test.YtkidfclnakbgiaaGreatDoorZT35
import Derived.Test.YtkidfclnakbgiaaGreatDoorZT36
import Derived.Test.YtkidfclnakbgiaaGreatDoorZT37
section
namespace Go.Proofs.YtkidfclnakbgiaaGreatDoor.RS
open Go.RowKit Go.Proofs.YtkidfclnakbgiaaGreatDoor Go.Proofs.YtkidfclnakbgiaaGreatDoor.K0 Go.Proofs.YtkidfclnakbgiaaGreatDoor.RD Go.Proofs.YtkidfclnakbgiaaGreatDoorW.PrintWords Go.Proofs.YtkidfclnakbgiaaGreatDoorW.PrintLast Go.Proofs.YtkidfclnakbgiaaGreatDoorW.PrintMore
attribute [local go_sem] max2_int min2_int max_two min_two max_three min_three max_four min_four
set_option linter.unusedVariables false
set_option linter.unusedSimpArgs false
end Go.Proofs.YtkidfclnakbgiaaGreatDoor.RS
end

section
namespace Go.Proofs.YtkidfclnakbgiaaGreatDoor.RS
open Go.RowKit Go.Proofs.YtkidfclnakbgiaaGreatDoor Go.Proofs.YtkidfclnakbgiaaGreatDoor.K0 Go.Proofs.YtkidfclnakbgiaaGreatDoor.RD Go.Proofs.YtkidfclnakbgiaaGreatDoorW.PrintWords Go.Proofs.YtkidfclnakbgiaaGreatDoorW.PrintLast Go.Proofs.YtkidfclnakbgiaaGreatDoorW.PrintMore
attribute [local go_sem] max2_int min2_int max_two min_two max_three min_three max_four min_four
set_option linter.unusedVariables false
set_option linter.unusedSimpArgs false
attribute [local go_sem high] eqA27
def armadaref17_Same.l0 : Nat → List (S27) → List (S27) → Int → Option (Bool)
 | 0, _, _, _ => none
 | k + 1, x0, x1, x5 => if x5 < (x0.length : Int) then (if 0 ≤ x5 then (if x5 < (x1.length : Int) then (if (!((((rd_T27 x0 x5).f0).toList) == (((rd_T27 x1 x5).f0).toList)) || ((!(((rd_T27 x0 x5).f1.f0) == ((rd_T27 x1 x5).f1.f0)) || (!(((rd_T27 x0 x5).f1.f1) == ((rd_T27 x1 x5).f1.f1)) || (!(((rd_T27 x0 x5).f1.f2) == ((rd_T27 x1 x5).f1.f2)) || (!((((rd_T27 x0 x5).f1.f3).toList) == (((rd_T27 x1 x5).f1.f3).toList)) || (!((((rd_T27 x0 x5).f1.f4).toList) == (((rd_T27 x1 x5).f1.f4).toList))))))))) = true then (some false) else (armadaref17_Same.l0 k x0 x1 (wrap64 (x5 + 1)))) else (none)) else (none)) else (some true)
def armadaref17_Same.f (k : Nat) (l0 : List (S27)) (l1 : List (S27)) : Option (Bool) := if (l0.length : Int) = (l1.length : Int) then (armadaref17_Same.l0 k l0 l1 0) else (some false)
theorem armadaref17_Same.mono_l : ∀ k, (∀ y0 y1 y2, LeO (armadaref17_Same.l0 k y0 y1 y2) (armadaref17_Same.l0 (k + 1) y0 y1 y2))
 | 0 => fun _ _ _ r h => by simp [armadaref17_Same.l0] at h
 | k + 1 => by
  have ih0 := armadaref17_Same.mono_l k
  ·
   intro y0 y1 y2
   unfold armadaref17_Same.l0
   exact xM
theorem armadaref17_Same.mono : ∀ a0 a1 k, LeO (armadaref17_Same.f k a0 a1) (armadaref17_Same.f (k + 1) a0 a1) := by
 intro a0 a1 k
 have ih0 := armadaref17_Same.mono_l k
 unfold armadaref17_Same.f
 exact xM
set_option maxHeartbeats 8000000 in
set_option maxRecDepth 100000 in
theorem armadaref17_Same.calls (k : Nat) (A0 : Option Addr) (c0 : Nat) (l0 : List (S27)) (A1 : Option Addr) (c1 : Nat) (l1 : List (S27)) (r : Bool) (w : World) (hr0 : Kd.C k27 w A0 l0.length l0) (hc0 : l0.length ≤ c0) (hr1 : Kd.C k27 w A1 l1.length l1) (hc1 : l1.length ≤ c1) (h : armadaref17_Same.f k l0 l1 = some r) :
  Calls Tryz.prog 14 #[.slice A0 l0.length c0, .slice A1 l1.length c1] w fun e w' => e = .returned (.bool r) ∧ Drawn0 w w' := by
 have hu27 := Tryz.underlying27
 have HR0 := Aside0.mk hr0
 have HC0 := Aside0.mk hc0
 clear hr0 hc0
 have HR1 := Aside0.mk hr1
 have HC1 := Aside0.mk hc1
 clear hr1 hc1
 have H : (if (l0.length : Int) = (l1.length : Int) then (armadaref17_Same.l0 k l0 l1 0) else (some false)) = some r := h
 clear h
 by_cases c3 : (l0.length : Int) = (l1.length : Int)
 ·
  rw [if_pos c3] at H
  have c3b0 := beq_iff_eq.mpr c3
  have c3b1 := bne_eq_false_iff_eq.mpr c3
  have c3b2 : (l0.length == l1.length) = true := by first | simpa using c3 | (simp at c3 ⊢; omega)
  clear c3
  have H' := Aside0.mk H
  clear H
  go_enter Tryz.func14, Tryz.ntmps14
  go_wp2
  repeat (go_quiet (fail); try go_wp2)
  go_loopg [5] k (fun kq v5 w' => ∃ (x5_1 : Int), v5 = .int .i64 x5_1 ∧ Aside0 (armadaref17_Same.l0 kq l0 l1 x5_1 = some r) ∧ Aside0 (kq ≤ k) ∧ Drawn0 w w')
  case atStart => exact ⟨(0), xR, H', ⟨Nat.le_refl _⟩, by repeat (first | exact Drawn0.refl _ | apply Drawn0.step)⟩
  case round =>
   clear H'
   try clear c1
   try clear p2
   try clear c3
   try clear c3b0
   try clear c3b1
   try clear c3b2
   obtain ⟨x5_1, rfl, HA, HK1, ⟨m1, rfl⟩⟩ := hrel
   cases gk with
   | zero => exact absurd HA.out (by simp [armadaref17_Same.l0])
   | succ k1 =>
    have H := HA.out
    clear HA
    simp only [armadaref17_Same.l0] at H
    by_cases c4 : x5_1 < (l0.length : Int)
    ·
     rw [if_pos c4] at H
     have c4b0 := decide_eq_true c4
     clear c4
     replace H := xI H
     obtain ⟨c5, H⟩ := H
     have c5b0 := decide_eq_true c5
     clear c5
     replace H := xI H
     obtain ⟨c6, H⟩ := H
     have c6b0 := decide_eq_true c6
     clear c6
     by_cases c7 : (!((((rd_T27 l0 x5_1).f0).toList) == (((rd_T27 l1 x5_1).f0).toList)) || ((!(((rd_T27 l0 x5_1).f1.f0) == ((rd_T27 l1 x5_1).f1.f0)) || (!(((rd_T27 l0 x5_1).f1.f1) == ((rd_T27 l1 x5_1).f1.f1)) || (!(((rd_T27 l0 x5_1).f1.f2) == ((rd_T27 l1 x5_1).f1.f2)) || (!((((rd_T27 l0 x5_1).f1.f3).toList) == (((rd_T27 l1 x5_1).f1.f3).toList)) || (!((((rd_T27 l0 x5_1).f1.f4).toList) == (((rd_T27 l1 x5_1).f1.f4).toList))))))))) = true
     ·
      rw [if_pos c7] at H
      have c7b0 : (!((((rd_T27 l0 x5_1).f0).toList) == (((rd_T27 l1 x5_1).f0).toList)) || ((!(((rd_T27 l0 x5_1).f1.f0) == ((rd_T27 l1 x5_1).f1.f0)) || (!(((rd_T27 l0 x5_1).f1.f1) == ((rd_T27 l1 x5_1).f1.f1)) || (!(((rd_T27 l0 x5_1).f1.f2) == ((rd_T27 l1 x5_1).f1.f2)) || (!((((rd_T27 l0 x5_1).f1.f3).toList) == (((rd_T27 l1 x5_1).f1.f3).toList)) || (!((((rd_T27 l0 x5_1).f1.f4).toList) == (((rd_T27 l1 x5_1).f1.f4).toList))))))))) = true := c7
      clear c7
      obtain rfl := Option.some.inj H
      have p124 : 0 ≤ (x5_1 : Int) := xD
      have q124 : x5_1 < (l0.length : Int) := xD
      obtain ⟨ad124, e124, hx124_0, hx124_1, hx124_2, hx124_3, hx124_4, hx124_5⟩ := at_T27 HR0.out x5_1 p124 q124
      cases e124
      replace p124 := eq_true p124
      replace q124 := eq_true q124
      have p125 : 0 ≤ (x5_1 : Int) := xD
      have q125 : x5_1 < (l1.length : Int) := xD
      obtain ⟨ad125, e125, hx125_0, hx125_1, hx125_2, hx125_3, hx125_4, hx125_5⟩ := at_T27 HR1.out x5_1 p125 q125
      cases e125
      replace p125 := eq_true p125
      replace q125 := eq_true q125
      go_wp2
      repeat (go_quiet (fail); try go_wp2)
      go_ret
      exact ⟨xR, by repeat (first | exact Drawn0.refl _ | apply Drawn0.step)⟩
     rw [if_neg c7] at H
     have c7b0 : (!((((rd_T27 l0 x5_1).f0).toList) == (((rd_T27 l1 x5_1).f0).toList)) || ((!(((rd_T27 l0 x5_1).f1.f0) == ((rd_T27 l1 x5_1).f1.f0)) || (!(((rd_T27 l0 x5_1).f1.f1) == ((rd_T27 l1 x5_1).f1.f1)) || (!(((rd_T27 l0 x5_1).f1.f2) == ((rd_T27 l1 x5_1).f1.f2)) || (!((((rd_T27 l0 x5_1).f1.f3).toList) == (((rd_T27 l1 x5_1).f1.f3).toList)) || (!((((rd_T27 l0 x5_1).f1.f4).toList) == (((rd_T27 l1 x5_1).f1.f4).toList))))))))) = false := by simpa using c7
     clear c7
     have H' := Aside0.mk H
     clear H
     have p124 : 0 ≤ (x5_1 : Int) := xD
     have q124 : x5_1 < (l0.length : Int) := xD
     obtain ⟨ad124, e124, hx124_0, hx124_1, hx124_2, hx124_3, hx124_4, hx124_5⟩ := at_T27 HR0.out x5_1 p124 q124
     cases e124
     replace p124 := eq_true p124
     replace q124 := eq_true q124
     have p125 : 0 ≤ (x5_1 : Int) := xD
     have q125 : x5_1 < (l1.length : Int) := xD
     obtain ⟨ad125, e125, hx125_0, hx125_1, hx125_2, hx125_3, hx125_4, hx125_5⟩ := at_T27 HR1.out x5_1 p125 q125
     cases e125
     replace p125 := eq_true p125
     replace q125 := eq_true q125
     go_wp2
     repeat (go_quiet (fail); try go_wp2)
     go_roundg k1
     case measure => have := HK1.out; omega
     case rel => exact ⟨(wrap64 (x5_1 + 1)), xR, H', ⟨by have := HK1.out; omega⟩, by repeat (first | exact Drawn0.refl _ | apply Drawn0.step)⟩
    rw [if_neg c4] at H
    have c4b0 := decide_eq_false c4
    clear c4
    obtain rfl := Option.some.inj H
    go_wp2
    repeat (go_quiet (fail); try go_wp2)
    go_ret
    exact ⟨xR, by repeat (first | exact Drawn0.refl _ | apply Drawn0.step)⟩
 rw [if_neg c3] at H
 have c3b0 := beq_eq_false_iff_ne.mpr c3
 have c3b1 := bne_iff_ne.mpr c3
 have c3b2 : (l0.length == l1.length) = false := by first | simpa using c3 | (simp at c3 ⊢; omega)
 obtain rfl := Option.some.inj H
 go_enter Tryz.func14, Tryz.ntmps14
 go_wp2
 repeat (go_quiet (fail); try go_wp2)
 go_ret
 exact ⟨xR, by repeat (first | exact Drawn0.refl _ | apply Drawn0.step)⟩
end Go.Proofs.YtkidfclnakbgiaaGreatDoor.RS
end

section
namespace Go.Proofs.YtkidfclnakbgiaaGreatDoor.RS
open Go.RowKit Go.Proofs.YtkidfclnakbgiaaGreatDoor Go.Proofs.YtkidfclnakbgiaaGreatDoor.K0 Go.Proofs.YtkidfclnakbgiaaGreatDoor.RD Go.Proofs.YtkidfclnakbgiaaGreatDoorW.PrintWords Go.Proofs.YtkidfclnakbgiaaGreatDoorW.PrintLast Go.Proofs.YtkidfclnakbgiaaGreatDoorW.PrintMore
attribute [local go_sem] max2_int min2_int max_two min_two max_three min_three max_four min_four
set_option linter.unusedVariables false
set_option linter.unusedSimpArgs false
end Go.Proofs.YtkidfclnakbgiaaGreatDoor.RS
end
