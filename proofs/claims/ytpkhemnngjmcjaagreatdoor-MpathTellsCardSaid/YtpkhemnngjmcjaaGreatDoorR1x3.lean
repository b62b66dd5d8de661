-- Written by a program of this place (myprint.py) out of the translation. Not trusted: Lean checks it.
import Derived.Test.YtpkhemnngjmcjaaGreatDoorR1x0
namespace Go.Proofs.YtpkhemnngjmcjaaGreatDoor.R1
open Go.RowKit Go.Proofs.YtpkhemnngjmcjaaGreatDoor Go.Proofs.YtpkhemnngjmcjaaGreatDoor.K0 Go.Proofs.YtpkhemnngjmcjaaGreatDoorW.PrintWords Go.Proofs.YtpkhemnngjmcjaaGreatDoorW.PrintLast Go.Proofs.YtpkhemnngjmcjaaGreatDoorW.PrintMore
attribute [local go_sem] max2_int min2_int max_two min_two max_three min_three max_four min_four   -- for this text's walks alone
set_option linter.unusedVariables false
set_option linter.unusedSimpArgs false

/-! ### armadaref08_number: function 37 -/
mutual
def armadaref08_number.j0 : Nat → ByteArray → Int → Bool → Option (Int)
 | 0, _, _, _ => none
 | k + 1, x0, x3, x12 => if x12 = true then (some 0) else (armadaref08_number.l0 k x0 x3 1)
def armadaref08_number.l0 : Nat → ByteArray → Int → Int → Option (Int)
 | 0, _, _, _ => none
 | k + 1, x0, x3, x4 => if x4 < (x0.size : Int) then (if 0 ≤ x4 then (armadaref08_number.l0 k x0 (wrap64 ((wrap64 ((wrap64 (10 * x3)) + (wrap64 (bt x0 x4)))) - 48)) (wrap64 (x4 + 1))) else (none)) else (if x3 < 2 then (some 0) else (some x3))
end
def armadaref08_number.f (k : Nat) (a0 : ByteArray) : Option (Int) := if (a0.size : Int) > 10 then (armadaref08_number.j0 k a0 0 true) else (if 1 < (a0.size : Int) then (armadaref08_number.j0 k a0 0 ((bt a0 1) == 48)) else (none))
theorem armadaref08_number.mono_l : ∀ k, (∀ y0 y1 y2, LeO (armadaref08_number.j0 k y0 y1 y2) (armadaref08_number.j0 (k + 1) y0 y1 y2)) ∧ (∀ y0 y1 y2, LeO (armadaref08_number.l0 k y0 y1 y2) (armadaref08_number.l0 (k + 1) y0 y1 y2))
 | 0 => ⟨fun _ _ _ r h => by simp [armadaref08_number.j0] at h, fun _ _ _ r h => by simp [armadaref08_number.l0] at h⟩
 | k + 1 => by
  obtain ⟨ih0, ih1⟩ := armadaref08_number.mono_l k
  refine ⟨?_, ?_⟩
  ·
   intro y0 y1 y2
   unfold armadaref08_number.j0
   repeat' first
   | (with_reducible exact ih0 _ _ _)
   | (with_reducible exact ih1 _ _ _)
   | (with_reducible exact LeO.refl _)
   | (with_reducible exact LeO.none _)
   | (with_reducible refine LeO.ite ?_ ?_)
   | (with_reducible refine LeO.bind ?_ (fun _ => ?_))
   | exact ih0 _ _ _
   | exact ih1 _ _ _
   | exact LeO.none _
   | refine LeO.ite ?_ ?_
   | refine LeO.bind ?_ (fun _ => ?_)
  ·
   intro y0 y1 y2
   unfold armadaref08_number.l0
   repeat' first
   | (with_reducible exact ih0 _ _ _)
   | (with_reducible exact ih1 _ _ _)
   | (with_reducible exact LeO.refl _)
   | (with_reducible exact LeO.none _)
   | (with_reducible refine LeO.ite ?_ ?_)
   | (with_reducible refine LeO.bind ?_ (fun _ => ?_))
   | exact ih0 _ _ _
   | exact ih1 _ _ _
   | exact LeO.none _
   | refine LeO.ite ?_ ?_
   | refine LeO.bind ?_ (fun _ => ?_)
theorem armadaref08_number.mono : ∀ a0 k, LeO (armadaref08_number.f k a0) (armadaref08_number.f (k + 1) a0) := by
 intro a0 k
 obtain ⟨ih0, ih1⟩ := armadaref08_number.mono_l k
 unfold armadaref08_number.f
 repeat' first
   | (with_reducible exact ih0 _ _ _)
   | (with_reducible exact ih1 _ _ _)
   | (with_reducible exact LeO.refl _)
   | (with_reducible exact LeO.none _)
   | (with_reducible refine LeO.ite ?_ ?_)
   | (with_reducible refine LeO.bind ?_ (fun _ => ?_))
   | exact ih0 _ _ _
   | exact ih1 _ _ _
   | exact LeO.none _
   | refine LeO.ite ?_ ?_
   | refine LeO.bind ?_ (fun _ => ?_)
set_option maxHeartbeats 8000000 in
set_option maxRecDepth 100000 in
theorem armadaref08_number.calls (k : Nat) (a0 : ByteArray) (r : Int) (w : World) (h : armadaref08_number.f k a0 = some r) :
  Calls Tryz.prog 37 #[.string a0] w fun e w' => e = .returned (.int .i64 r) ∧ Drawn0 w w' := by
 have H : (if (a0.size : Int) > 10 then (armadaref08_number.j0 k a0 0 true) else (if 1 < (a0.size : Int) then (armadaref08_number.j0 k a0 0 ((bt a0 1) == 48)) else (none))) = some r := h
 clear h
 have HC2 := Aside0.mk H
 clear H
 go_enter Tryz.func37, Tryz.ntmps37
 go_upto_region 2 with (fail)
 go_cut [12] (fun v12 wc => ∃ (kq : Nat) (x12_1 : Bool), v12 = .bool x12_1 ∧ Aside0 (armadaref08_number.j0 kq a0 0 x12_1 = some r) ∧ Aside0 (kq ≤ k) ∧ Drawn0 w wc)
 case first =>
  have H := HC2.out
  clear HC2
  by_cases c3 : (a0.size : Int) > 10
  ·
   rw [if_pos c3] at H
   have c3b0 : decide (10 < (a0.size : Int)) = true := decide_eq_true c3
   have c3b1 : decide (10 < a0.size) = true := decide_eq_true (by omega)
   clear c3
   (first | rw [c3b0] | (simp only [i64_w, i32_w]; rw [c3b0]) | skip)
   have H' := Aside0.mk H
   clear H
   go_wp2
   go_meet
   case rel => exact ⟨_, (true), (by first | rfl | (simp; done) | (simp [*]; done) | (simp [isEmpty_bne]; done)), H', ⟨by first | omega | exact Nat.le_refl _⟩, by repeat (first | exact Drawn0.refl _ | apply Drawn0.step)⟩
  ·
   rw [if_neg c3] at H
   have c3b0 : decide (10 < (a0.size : Int)) = false := decide_eq_false c3
   have c3b1 : decide (10 < a0.size) = false := decide_eq_false (by omega)
   clear c3
   (first | rw [c3b0] | (simp only [i64_w, i32_w]; rw [c3b0]) | skip)
   by_cases c4 : 1 < (a0.size : Int)
   ·
    rw [if_pos c4] at H
    have c4b0 : decide (1 < (a0.size : Int)) = true := decide_eq_true c4
    have c4b1 : decide (1 < a0.size) = true := decide_eq_true (by omega)
    clear c4
    have H' := Aside0.mk H
    clear H
    have p5 : 0 ≤ (1 : Int) := (by omega)
    have q5 : 1 < a0.size := (by have : (1 : Int) < (a0.size : Int) := of_decide_eq_true (by first | (with_reducible assumption) | assumption); omega)
    have hx5 : ∀ h : 1 < a0.size, ((a0[1]'h).toNat : Int) = bt a0 1 := bt_at a0 1
    clear p5
    have qi5 : (1 < (a0.size : Int)) = True := eq_true (of_decide_eq_true (by first | (with_reducible assumption) | assumption))
    replace q5 := eq_true q5
    go_wp2
    go_meet
    case rel => exact ⟨_, (((bt a0 1) == 48)), (by first | rfl | (simp; done) | (simp [*]; done) | (simp [isEmpty_bne]; done)), H', ⟨by first | omega | exact Nat.le_refl _⟩, by repeat (first | exact Drawn0.refl _ | apply Drawn0.step)⟩
   ·
    rw [if_neg c4] at H
    exact absurd H (by simp)
 case rest =>
  clear HC2
  try clear p2
  try clear c3
  try clear c3b0
  try clear c3b1
  try clear c4
  try clear c4b0
  try clear c4b1
  try clear p5
  try clear q5
  try clear hx5
  try clear qi5
  try clear p5
  try clear q5
  obtain ⟨kq, x12_1, rfl, HA, HJ1, ⟨mc1, rfl⟩⟩ := hcut
  cases kq with
  | zero => exact absurd HA.out (by simp [armadaref08_number.j0])
  | succ kj1 =>
   have H := HA.out
   clear HA
   simp only [armadaref08_number.j0] at H
   by_cases c6 : x12_1 = true
   ·
    subst c6
    have H1 : (some 0) = some r := by rw [if_pos rfl] at H; exact H
    clear H
    have H := H1
    clear H1
    obtain rfl := Option.some.inj H
    go_wp2
    go_ret
    exact ⟨by first | rfl | (simp; done) | (simp [*]; done) | (simp [isEmpty_bne]; done), by repeat (first | exact Drawn0.refl _ | apply Drawn0.step)⟩
   ·
    replace c6 := Bool.eq_false_iff.mpr c6
    subst c6
    have H1 : (armadaref08_number.l0 kj1 a0 0 1) = some r := by rw [if_neg (show ¬ (false = true) by decide)] at H; exact H
    clear H
    have H := H1
    clear H1
    have H' := Aside0.mk H
    clear H
    go_wp2
    go_loopg [3, 4] kj1 (fun kq v3 v4 w' => ∃ (x3_2 : Int) (x4_2 : Int), v3 = .int .i64 x3_2 ∧ v4 = .int .i64 x4_2 ∧ Aside0 (armadaref08_number.l0 kq a0 x3_2 x4_2 = some r) ∧ Aside0 (kq ≤ kj1) ∧ Drawn0 w w')
    case atStart => exact ⟨(0), (1), (by first | rfl | (simp; done) | (simp [*]; done) | (simp [isEmpty_bne]; done)), (by first | rfl | (simp; done) | (simp [*]; done) | (simp [isEmpty_bne]; done)), H', ⟨Nat.le_refl _⟩, by repeat (first | exact Drawn0.refl _ | apply Drawn0.step)⟩
    case round =>
     clear H'
     try clear c1
     try clear p2
     try clear c3
     try clear c3b0
     try clear c3b1
     try clear c4
     try clear c4b0
     try clear c4b1
     try clear p5
     try clear q5
     try clear hx5
     try clear qi5
     try clear c6
     try clear p2
     try clear p5
     try clear q5
     obtain ⟨x3_2, x4_2, rfl, rfl, HA, HK2, ⟨m2, rfl⟩⟩ := hrel
     cases gk with
     | zero => exact absurd HA.out (by simp [armadaref08_number.l0])
     | succ k2 =>
      have H := HA.out
      clear HA
      simp only [armadaref08_number.l0] at H
      by_cases c7 : x4_2 < (a0.size : Int)
      ·
       rw [if_pos c7] at H
       have c7b0 : decide (x4_2 < (a0.size : Int)) = true := decide_eq_true c7
       clear c7
       by_cases c8 : 0 ≤ x4_2
       ·
        rw [if_pos c8] at H
        have c8b0 : decide (0 ≤ x4_2) = true := decide_eq_true c8
        clear c8
        have H' := Aside0.mk H
        clear H
        have p9 : 0 ≤ (x4_2 : Int) := of_decide_eq_true (by first | (with_reducible assumption) | assumption)
        have q9 : x4_2 < (a0.size : Int) := of_decide_eq_true (by first | (with_reducible assumption) | assumption)
        have hx9 := bt_at a0 x4_2
        replace p9 := eq_true p9
        replace q9 := eq_true q9
        go_wp2
        go_roundg k2
        case measure => have := HJ1.out; have := HK2.out; omega
        case rel => exact ⟨(wrap64 ((wrap64 ((wrap64 (10 * x3_2)) + (wrap64 (bt a0 x4_2)))) - 48)), (wrap64 (x4_2 + 1)), (by first | rfl | (simp; done) | (simp [*]; done) | (simp [isEmpty_bne]; done)), (by first | rfl | (simp; done) | (simp [*]; done) | (simp [isEmpty_bne]; done)), H', ⟨by have := HJ1.out; have := HK2.out; omega⟩, by repeat (first | exact Drawn0.refl _ | apply Drawn0.step)⟩
       ·
        rw [if_neg c8] at H
        exact absurd H (by simp)
      ·
       rw [if_neg c7] at H
       have c7b0 : decide (x4_2 < (a0.size : Int)) = false := decide_eq_false c7
       clear c7
       by_cases c10 : x3_2 < 2
       ·
        rw [if_pos c10] at H
        have c10b0 : decide (x3_2 < 2) = true := decide_eq_true c10
        clear c10
        obtain rfl := Option.some.inj H
        go_wp2
        go_ret
        exact ⟨by first | rfl | (simp; done) | (simp [*]; done) | (simp [isEmpty_bne]; done), by repeat (first | exact Drawn0.refl _ | apply Drawn0.step)⟩
       ·
        rw [if_neg c10] at H
        have c10b0 : decide (x3_2 < 2) = false := decide_eq_false c10
        clear c10
        obtain rfl := Option.some.inj H
        go_wp2
        go_ret
        exact ⟨by first | rfl | (simp; done) | (simp [*]; done) | (simp [isEmpty_bne]; done), by repeat (first | exact Drawn0.refl _ | apply Drawn0.step)⟩

end Go.Proofs.YtpkhemnngjmcjaaGreatDoor.R1
