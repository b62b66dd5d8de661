/- The texts RSx4, RSx5 in one file, without what these claims do not use (put together by prune2.py). -/
import Derived.Test.YtillhaipemengaaGreatDoorZB38
section
namespace Go.Proofs.YtillhaipemengaaGreatDoor.RS
open Go.RowKit Go.Proofs.YtillhaipemengaaGreatDoor Go.Proofs.YtillhaipemengaaGreatDoor.K0 Go.Proofs.YtillhaipemengaaGreatDoor.RD Go.Proofs.YtillhaipemengaaGreatDoorW.PrintWords Go.Proofs.YtillhaipemengaaGreatDoorW.PrintLast Go.Proofs.YtillhaipemengaaGreatDoorW.PrintMore
attribute [local go_sem] max2_int min2_int max_two min_two max_three min_three max_four min_four
set_option linter.unusedVariables false
set_option linter.unusedSimpArgs false
end Go.Proofs.YtillhaipemengaaGreatDoor.RS
end

section
namespace Go.Proofs.YtillhaipemengaaGreatDoor.RS
open Go.RowKit Go.Proofs.YtillhaipemengaaGreatDoor Go.Proofs.YtillhaipemengaaGreatDoor.K0 Go.Proofs.YtillhaipemengaaGreatDoor.RD Go.Proofs.YtillhaipemengaaGreatDoorW.PrintWords Go.Proofs.YtillhaipemengaaGreatDoorW.PrintLast Go.Proofs.YtillhaipemengaaGreatDoorW.PrintMore
attribute [local go_sem] max2_int min2_int max_two min_two max_three min_three max_four min_four
set_option linter.unusedVariables false
set_option linter.unusedSimpArgs false
def armadaref15_Few.l0 : Nat → List (S71) → Int → Option (Bool)
 | 0, _, _ => none
 | k + 1, x0, x3 => if x3 < (x0.length : Int) then (if 0 ≤ x3 then (if (((rd_T71 x0 x3).f0).size : Int) > 200 then (some false) else (if (((rd_T71 x0 x3).f2).size : Int) > 200 then (some false) else (if (((rd_T71 x0 x3).f1.f3).size : Int) > 200 then (some false) else (if (((rd_T71 x0 x3).f1.f4).size : Int) > 200 then (some false) else (armadaref15_Few.l0 k x0 (wrap64 (x3 + 1))))))) else (none)) else (some (decide ((x0.length : Int) ≤ 60)))
def armadaref15_Few.f (k : Nat) (l0 : List (S71)) : Option (Bool) := armadaref15_Few.l0 k l0 0
theorem armadaref15_Few.mono_l : ∀ k, (∀ y0 y1, LeO (armadaref15_Few.l0 k y0 y1) (armadaref15_Few.l0 (k + 1) y0 y1))
 | 0 => fun _ _ r h => by simp [armadaref15_Few.l0] at h
 | k + 1 => by
  have ih0 := armadaref15_Few.mono_l k
  ·
   intro y0 y1
   unfold armadaref15_Few.l0
   exact xM
theorem armadaref15_Few.mono : ∀ a0 k, LeO (armadaref15_Few.f k a0) (armadaref15_Few.f (k + 1) a0) := by
 intro a0 k
 have ih0 := armadaref15_Few.mono_l k
 unfold armadaref15_Few.f
 exact xM
set_option maxHeartbeats 8000000 in
set_option maxRecDepth 100000 in
theorem armadaref15_Few.calls (k : Nat) (A0 : Option Addr) (c0 : Nat) (l0 : List (S71)) (r : Bool) (w : World) (hr0 : Kd.C k71 w A0 l0.length l0) (hc0 : l0.length ≤ c0) (h : armadaref15_Few.f k l0 = some r) :
  Calls Tryz.prog 8 #[.slice A0 l0.length c0] w fun e w' => e = .returned (.bool r) ∧ Drawn0 w w' := by
 have HR0 := Aside0.mk hr0
 have HC0 := Aside0.mk hc0
 clear hr0 hc0
 have H : (armadaref15_Few.l0 k l0 0) = some r := h
 clear h
 have H' := Aside0.mk H
 clear H
 go_enter Tryz.func8, Tryz.ntmps8
 go_wp2
 go_loopg [3] k (fun kq v3 w' => ∃ (x3_1 : Int), v3 = .int .i64 x3_1 ∧ Aside0 (armadaref15_Few.l0 kq l0 x3_1 = some r) ∧ Aside0 (kq ≤ k) ∧ Drawn0 w w')
 case atStart => exact ⟨(0), xR, H', ⟨Nat.le_refl _⟩, by repeat (first | exact Drawn0.refl _ | apply Drawn0.step)⟩
 case round =>
  clear H'
  obtain ⟨x3_1, rfl, HA, HK1, ⟨m1, rfl⟩⟩ := hrel
  cases gk with
  | zero => exact absurd HA.out (by simp [armadaref15_Few.l0])
  | succ k1 =>
   have H := HA.out
   clear HA
   simp only [armadaref15_Few.l0] at H
   by_cases c2 : x3_1 < (l0.length : Int)
   ·
    rw [if_pos c2] at H
    have c2b0 := decide_eq_true c2
    clear c2
    replace H := xI H
    obtain ⟨c3, H⟩ := H
    have c3b0 := decide_eq_true c3
    clear c3
    by_cases c4 : (((rd_T71 l0 x3_1).f0).size : Int) > 200
    ·
     rw [if_pos c4] at H
     have c4b0 := decide_eq_true c4
     have c4b1 : decide (200 < ((rd_T71 l0 x3_1).f0).size) = true := decide_eq_true (by omega)
     clear c4
     obtain rfl := Option.some.inj H
     have p122 : 0 ≤ (x3_1 : Int) := xD
     have q122 : x3_1 < (l0.length : Int) := xD
     obtain ⟨ad122, e122, hx122_0, hx122_1, hx122_2, hx122_3, hx122_4, hx122_5, hx122_6⟩ := at_T71 HR0.out x3_1 p122 q122
     cases e122
     replace p122 := eq_true p122
     replace q122 := eq_true q122
     go_wp2
     go_ret
     exact ⟨xR, by repeat (first | exact Drawn0.refl _ | apply Drawn0.step)⟩
    rw [if_neg c4] at H
    have c4b0 := decide_eq_false c4
    have c4b1 : decide (200 < ((rd_T71 l0 x3_1).f0).size) = false := decide_eq_false (by omega)
    clear c4
    by_cases c5 : (((rd_T71 l0 x3_1).f2).size : Int) > 200
    ·
     rw [if_pos c5] at H
     have c5b0 := decide_eq_true c5
     have c5b1 : decide (200 < ((rd_T71 l0 x3_1).f2).size) = true := decide_eq_true (by omega)
     clear c5
     obtain rfl := Option.some.inj H
     have p122 : 0 ≤ (x3_1 : Int) := xD
     have q122 : x3_1 < (l0.length : Int) := xD
     obtain ⟨ad122, e122, hx122_0, hx122_1, hx122_2, hx122_3, hx122_4, hx122_5, hx122_6⟩ := at_T71 HR0.out x3_1 p122 q122
     cases e122
     replace p122 := eq_true p122
     replace q122 := eq_true q122
     have p123 : 0 ≤ (x3_1 : Int) := xD
     have q123 : x3_1 < (l0.length : Int) := xD
     obtain ⟨ad123, e123, hx123_0, hx123_1, hx123_2, hx123_3, hx123_4, hx123_5, hx123_6⟩ := at_T71 HR0.out x3_1 p123 q123
     obtain rfl : ad122 = ad123 := (by injection e123)
     replace p123 := eq_true p123
     replace q123 := eq_true q123
     go_wp2
     go_ret
     exact ⟨xR, by repeat (first | exact Drawn0.refl _ | apply Drawn0.step)⟩
    rw [if_neg c5] at H
    have c5b0 := decide_eq_false c5
    have c5b1 : decide (200 < ((rd_T71 l0 x3_1).f2).size) = false := decide_eq_false (by omega)
    clear c5
    by_cases c6 : (((rd_T71 l0 x3_1).f1.f3).size : Int) > 200
    ·
     rw [if_pos c6] at H
     have c6b0 := decide_eq_true c6
     have c6b1 : decide (200 < ((rd_T71 l0 x3_1).f1.f3).size) = true := decide_eq_true (by omega)
     clear c6
     obtain rfl := Option.some.inj H
     have p122 : 0 ≤ (x3_1 : Int) := xD
     have q122 : x3_1 < (l0.length : Int) := xD
     obtain ⟨ad122, e122, hx122_0, hx122_1, hx122_2, hx122_3, hx122_4, hx122_5, hx122_6⟩ := at_T71 HR0.out x3_1 p122 q122
     cases e122
     replace p122 := eq_true p122
     replace q122 := eq_true q122
     have p123 : 0 ≤ (x3_1 : Int) := xD
     have q123 : x3_1 < (l0.length : Int) := xD
     obtain ⟨ad123, e123, hx123_0, hx123_1, hx123_2, hx123_3, hx123_4, hx123_5, hx123_6⟩ := at_T71 HR0.out x3_1 p123 q123
     obtain rfl : ad122 = ad123 := (by injection e123)
     replace p123 := eq_true p123
     replace q123 := eq_true q123
     have p124 : 0 ≤ (x3_1 : Int) := xD
     have q124 : x3_1 < (l0.length : Int) := xD
     obtain ⟨ad124, e124, hx124_0, hx124_1, hx124_2, hx124_3, hx124_4, hx124_5, hx124_6⟩ := at_T71 HR0.out x3_1 p124 q124
     obtain rfl : ad122 = ad124 := (by injection e124)
     replace p124 := eq_true p124
     replace q124 := eq_true q124
     go_wp2
     go_ret
     exact ⟨xR, by repeat (first | exact Drawn0.refl _ | apply Drawn0.step)⟩
    rw [if_neg c6] at H
    have c6b0 := decide_eq_false c6
    have c6b1 : decide (200 < ((rd_T71 l0 x3_1).f1.f3).size) = false := decide_eq_false (by omega)
    clear c6
    by_cases c7 : (((rd_T71 l0 x3_1).f1.f4).size : Int) > 200
    ·
     rw [if_pos c7] at H
     have c7b0 := decide_eq_true c7
     have c7b1 : decide (200 < ((rd_T71 l0 x3_1).f1.f4).size) = true := decide_eq_true (by omega)
     clear c7
     obtain rfl := Option.some.inj H
     have p122 : 0 ≤ (x3_1 : Int) := xD
     have q122 : x3_1 < (l0.length : Int) := xD
     obtain ⟨ad122, e122, hx122_0, hx122_1, hx122_2, hx122_3, hx122_4, hx122_5, hx122_6⟩ := at_T71 HR0.out x3_1 p122 q122
     cases e122
     replace p122 := eq_true p122
     replace q122 := eq_true q122
     have p123 : 0 ≤ (x3_1 : Int) := xD
     have q123 : x3_1 < (l0.length : Int) := xD
     obtain ⟨ad123, e123, hx123_0, hx123_1, hx123_2, hx123_3, hx123_4, hx123_5, hx123_6⟩ := at_T71 HR0.out x3_1 p123 q123
     obtain rfl : ad122 = ad123 := (by injection e123)
     replace p123 := eq_true p123
     replace q123 := eq_true q123
     have p124 : 0 ≤ (x3_1 : Int) := xD
     have q124 : x3_1 < (l0.length : Int) := xD
     obtain ⟨ad124, e124, hx124_0, hx124_1, hx124_2, hx124_3, hx124_4, hx124_5, hx124_6⟩ := at_T71 HR0.out x3_1 p124 q124
     obtain rfl : ad122 = ad124 := (by injection e124)
     replace p124 := eq_true p124
     replace q124 := eq_true q124
     have p125 : 0 ≤ (x3_1 : Int) := xD
     have q125 : x3_1 < (l0.length : Int) := xD
     obtain ⟨ad125, e125, hx125_0, hx125_1, hx125_2, hx125_3, hx125_4, hx125_5, hx125_6⟩ := at_T71 HR0.out x3_1 p125 q125
     obtain rfl : ad122 = ad125 := (by injection e125)
     replace p125 := eq_true p125
     replace q125 := eq_true q125
     go_wp2
     go_ret
     exact ⟨xR, by repeat (first | exact Drawn0.refl _ | apply Drawn0.step)⟩
    rw [if_neg c7] at H
    have c7b0 := decide_eq_false c7
    have c7b1 : decide (200 < ((rd_T71 l0 x3_1).f1.f4).size) = false := decide_eq_false (by omega)
    clear c7
    have H' := Aside0.mk H
    clear H
    have p122 : 0 ≤ (x3_1 : Int) := xD
    have q122 : x3_1 < (l0.length : Int) := xD
    obtain ⟨ad122, e122, hx122_0, hx122_1, hx122_2, hx122_3, hx122_4, hx122_5, hx122_6⟩ := at_T71 HR0.out x3_1 p122 q122
    cases e122
    replace p122 := eq_true p122
    replace q122 := eq_true q122
    have p123 : 0 ≤ (x3_1 : Int) := xD
    have q123 : x3_1 < (l0.length : Int) := xD
    obtain ⟨ad123, e123, hx123_0, hx123_1, hx123_2, hx123_3, hx123_4, hx123_5, hx123_6⟩ := at_T71 HR0.out x3_1 p123 q123
    obtain rfl : ad122 = ad123 := (by injection e123)
    replace p123 := eq_true p123
    replace q123 := eq_true q123
    have p124 : 0 ≤ (x3_1 : Int) := xD
    have q124 : x3_1 < (l0.length : Int) := xD
    obtain ⟨ad124, e124, hx124_0, hx124_1, hx124_2, hx124_3, hx124_4, hx124_5, hx124_6⟩ := at_T71 HR0.out x3_1 p124 q124
    obtain rfl : ad122 = ad124 := (by injection e124)
    replace p124 := eq_true p124
    replace q124 := eq_true q124
    have p125 : 0 ≤ (x3_1 : Int) := xD
    have q125 : x3_1 < (l0.length : Int) := xD
    obtain ⟨ad125, e125, hx125_0, hx125_1, hx125_2, hx125_3, hx125_4, hx125_5, hx125_6⟩ := at_T71 HR0.out x3_1 p125 q125
    obtain rfl : ad122 = ad125 := (by injection e125)
    replace p125 := eq_true p125
    replace q125 := eq_true q125
    go_wp2
    go_roundg k1
    case measure => have := HK1.out; omega
    case rel => exact ⟨(wrap64 (x3_1 + 1)), xR, H', ⟨by have := HK1.out; omega⟩, by repeat (first | exact Drawn0.refl _ | apply Drawn0.step)⟩
   rw [if_neg c2] at H
   have c2b0 := decide_eq_false c2
   clear c2
   obtain rfl := Option.some.inj H
   go_wp2
   go_ret
   exact ⟨xR, by repeat (first | exact Drawn0.refl _ | apply Drawn0.step)⟩
def armadaref18_Few.l0 : Nat → List (S61) → Int → Option (Bool)
 | 0, _, _ => none
 | k + 1, x0, x3 => if x3 < (x0.length : Int) then (if 0 ≤ x3 then (if (((rd_T61 x0 x3).f0).size : Int) > 200 then (some false) else (armadaref18_Few.l0 k x0 (wrap64 (x3 + 1)))) else (none)) else (some (decide ((x0.length : Int) ≤ 20)))
def armadaref18_Few.f (k : Nat) (l0 : List (S61)) : Option (Bool) := armadaref18_Few.l0 k l0 0
theorem armadaref18_Few.mono_l : ∀ k, (∀ y0 y1, LeO (armadaref18_Few.l0 k y0 y1) (armadaref18_Few.l0 (k + 1) y0 y1))
 | 0 => fun _ _ r h => by simp [armadaref18_Few.l0] at h
 | k + 1 => by
  have ih0 := armadaref18_Few.mono_l k
  ·
   intro y0 y1
   unfold armadaref18_Few.l0
   exact xM
theorem armadaref18_Few.mono : ∀ a0 k, LeO (armadaref18_Few.f k a0) (armadaref18_Few.f (k + 1) a0) := by
 intro a0 k
 have ih0 := armadaref18_Few.mono_l k
 unfold armadaref18_Few.f
 exact xM
set_option maxHeartbeats 8000000 in
set_option maxRecDepth 100000 in
theorem armadaref18_Few.calls (k : Nat) (A0 : Option Addr) (c0 : Nat) (l0 : List (S61)) (r : Bool) (w : World) (hr0 : Kd.C k61 w A0 l0.length l0) (hc0 : l0.length ≤ c0) (h : armadaref18_Few.f k l0 = some r) :
  Calls Tryz.prog 38 #[.slice A0 l0.length c0] w fun e w' => e = .returned (.bool r) ∧ Drawn0 w w' := by
 have HR0 := Aside0.mk hr0
 have HC0 := Aside0.mk hc0
 clear hr0 hc0
 have H : (armadaref18_Few.l0 k l0 0) = some r := h
 clear h
 have H' := Aside0.mk H
 clear H
 go_enter Tryz.func38, Tryz.ntmps38
 go_wp2
 go_loopg [3] k (fun kq v3 w' => ∃ (x3_1 : Int), v3 = .int .i64 x3_1 ∧ Aside0 (armadaref18_Few.l0 kq l0 x3_1 = some r) ∧ Aside0 (kq ≤ k) ∧ Drawn0 w w')
 case atStart => exact ⟨(0), xR, H', ⟨Nat.le_refl _⟩, by repeat (first | exact Drawn0.refl _ | apply Drawn0.step)⟩
 case round =>
  clear H'
  obtain ⟨x3_1, rfl, HA, HK1, ⟨m1, rfl⟩⟩ := hrel
  cases gk with
  | zero => exact absurd HA.out (by simp [armadaref18_Few.l0])
  | succ k1 =>
   have H := HA.out
   clear HA
   simp only [armadaref18_Few.l0] at H
   by_cases c2 : x3_1 < (l0.length : Int)
   ·
    rw [if_pos c2] at H
    have c2b0 := decide_eq_true c2
    clear c2
    replace H := xI H
    obtain ⟨c3, H⟩ := H
    have c3b0 := decide_eq_true c3
    clear c3
    by_cases c4 : (((rd_T61 l0 x3_1).f0).size : Int) > 200
    ·
     rw [if_pos c4] at H
     have c4b0 := decide_eq_true c4
     have c4b1 : decide (200 < ((rd_T61 l0 x3_1).f0).size) = true := decide_eq_true (by omega)
     clear c4
     obtain rfl := Option.some.inj H
     have p126 : 0 ≤ (x3_1 : Int) := xD
     have q126 : x3_1 < (l0.length : Int) := xD
     obtain ⟨ad126, e126, hx126_0, hx126_1⟩ := at_T61 HR0.out x3_1 p126 q126
     cases e126
     replace p126 := eq_true p126
     replace q126 := eq_true q126
     go_wp2
     go_ret
     exact ⟨xR, by repeat (first | exact Drawn0.refl _ | apply Drawn0.step)⟩
    rw [if_neg c4] at H
    have c4b0 := decide_eq_false c4
    have c4b1 : decide (200 < ((rd_T61 l0 x3_1).f0).size) = false := decide_eq_false (by omega)
    clear c4
    have H' := Aside0.mk H
    clear H
    have p126 : 0 ≤ (x3_1 : Int) := xD
    have q126 : x3_1 < (l0.length : Int) := xD
    obtain ⟨ad126, e126, hx126_0, hx126_1⟩ := at_T61 HR0.out x3_1 p126 q126
    cases e126
    replace p126 := eq_true p126
    replace q126 := eq_true q126
    go_wp2
    go_roundg k1
    case measure => have := HK1.out; omega
    case rel => exact ⟨(wrap64 (x3_1 + 1)), xR, H', ⟨by have := HK1.out; omega⟩, by repeat (first | exact Drawn0.refl _ | apply Drawn0.step)⟩
   rw [if_neg c2] at H
   have c2b0 := decide_eq_false c2
   clear c2
   obtain rfl := Option.some.inj H
   go_wp2
   go_ret
   exact ⟨xR, by repeat (first | exact Drawn0.refl _ | apply Drawn0.step)⟩
end Go.Proofs.YtillhaipemengaaGreatDoor.RS
end
