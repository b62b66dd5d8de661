/- The texts R1x1 in one file, without what these claims do not use (put together by prune2.py). -/
import Derived.Test.YtmbpefnhkimplaaGreatDoorZE7
section
namespace Go.Proofs.YtmbpefnhkimplaaGreatDoor.R1
open Go.RowKit Go.Proofs.YtmbpefnhkimplaaGreatDoor Go.Proofs.YtmbpefnhkimplaaGreatDoor.K0 Go.Proofs.YtmbpefnhkimplaaGreatDoorW.PrintWords Go.Proofs.YtmbpefnhkimplaaGreatDoorW.PrintLast Go.Proofs.YtmbpefnhkimplaaGreatDoorW.PrintMore
attribute [local go_sem] max2_int min2_int max_two min_two max_three min_three max_four min_four
set_option linter.unusedVariables false
set_option linter.unusedSimpArgs false
def ver_digit.f (a0 : Int) : Option (Bool) := if a0 ≥ 48 then (some (decide (a0 ≤ 57))) else (some false)
set_option maxHeartbeats 8000000 in
set_option maxRecDepth 100000 in
theorem ver_digit.calls (a0 : Int) (r : Bool) (w : World) (h : ver_digit.f a0 = some r) :
  Calls Tryz.prog 145 #[.int .u8 a0] w fun e w' => e = .returned (.bool r) ∧ Drawn0 w w' := by
 have H : (if a0 ≥ 48 then (some (decide (a0 ≤ 57))) else (some false)) = some r := h; clear h; replace H := xJ H; rcases H with ⟨c2, H⟩ | ⟨c2, H⟩
 ·
  replace c2 := decide_eq_true c2; obtain rfl := Option.some.inj H; go_enter Tryz.func145, Tryz.ntmps145; go_wp2; go_ret; exact ⟨xR, xG⟩
 replace c2 := decide_eq_false c2; obtain rfl := Option.some.inj H; go_enter Tryz.func145, Tryz.ntmps145; go_wp2; go_ret; exact ⟨xR, xG⟩
def ver_word.l0 : Nat → ByteArray → Int → Int → Option (Bool)
 | 0, _, _, _ => none
 | k + 1, x0, x6, x7 => if x7 < x6 then (if 0 ≤ x7 then (if x7 < (x0.size : Int) then ((ver_digit.f (bt x0 x7)).bind fun t101 => (if t101 = true then (ver_word.l0 k x0 x6 (wrap64 (x7 + 1))) else (if (bt x0 x7) < 97 then (if (bt x0 x7) < 65 then (if (bt x0 x7) = 45 then (ver_word.l0 k x0 x6 (wrap64 (x7 + 1))) else (some false)) else (if (bt x0 x7) > 90 then (if (bt x0 x7) = 45 then (ver_word.l0 k x0 x6 (wrap64 (x7 + 1))) else (some false)) else (ver_word.l0 k x0 x6 (wrap64 (x7 + 1))))) else (if (bt x0 x7) > 122 then (if (bt x0 x7) < 65 then (if (bt x0 x7) = 45 then (ver_word.l0 k x0 x6 (wrap64 (x7 + 1))) else (some false)) else (if (bt x0 x7) > 90 then (if (bt x0 x7) = 45 then (ver_word.l0 k x0 x6 (wrap64 (x7 + 1))) else (some false)) else (ver_word.l0 k x0 x6 (wrap64 (x7 + 1))))) else (ver_word.l0 k x0 x6 (wrap64 (x7 + 1))))))) else (none)) else (none)) else (some (x0.toList != ([] : List UInt8)))
def ver_word.f (k : Nat) (a0 : ByteArray) : Option (Bool) := ver_word.l0 k a0 (a0.size : Int) 0
theorem ver_word.mono_l : ∀ k, (∀ y0 y1 y2, LeO (ver_word.l0 k y0 y1 y2) (ver_word.l0 (k + 1) y0 y1 y2))
 | 0 => fun _ _ _ r h => by simp [ver_word.l0] at h
 | k + 1 => by
  have ih0 := ver_word.mono_l k
  ·
   intro y0 y1 y2; unfold ver_word.l0; exact xM
theorem ver_word.mono : ∀ a0 k, LeO (ver_word.f k a0) (ver_word.f (k + 1) a0) := by
 intro a0 k; have ih0 := ver_word.mono_l k; unfold ver_word.f; exact xM
set_option maxHeartbeats 8000000 in
set_option maxRecDepth 100000 in
theorem ver_word.calls (k : Nat) (a0 : ByteArray) (r : Bool) (w : World) (h : ver_word.f k a0 = some r) :
  Calls Tryz.prog 111 #[.string a0] w fun e w' => e = .returned (.bool r) ∧ Drawn0 w w' := by
 have H : (ver_word.l0 k a0 (a0.size : Int) 0) = some r := h; clear h; have H' := Aside0.mk H; clear H; go_enter Tryz.func111, Tryz.ntmps111; go_wp2
 go_loopg [7] k (fun kq v7 w' => ∃ (x7_1 : Int), v7 = .int .i64 x7_1 ∧ Aside0 (ver_word.l0 kq a0 (a0.size : Int) x7_1 = some r) ∧ Aside0 (kq ≤ k) ∧ Drawn0 w w')
 case atStart => exact ⟨(0), xR, H', ⟨Nat.le_refl _⟩, by repeat (first | exact Drawn0.refl _ | apply Drawn0.step)⟩
 case round =>
  clear H'
  try clear c1
  obtain ⟨x7_1, rfl, HA, HK1, ⟨m1, rfl⟩⟩ := hrel
  cases gk with
  | zero => exact absurd HA.out (by simp [ver_word.l0])
  | succ k1 =>
   have H := HA.out; clear HA; simp only [ver_word.l0] at H; replace H := xJ H; rcases H with ⟨c2, H⟩ | ⟨c2, H⟩
   ·
    replace c2 := decide_eq_true c2; replace H := xI H; obtain ⟨c3, H⟩ := H; replace c3 := decide_eq_true c3; replace H := xI H; obtain ⟨c4, H⟩ := H; replace c4 := decide_eq_true c4; replace H := xb H; obtain ⟨t101, A6, H⟩ := H
    by_cases c7 : t101 = true
    ·
     subst c7; rw [if_pos rfl] at H; have H' := Aside0.mk H; clear H; obtain ⟨p5, q5, hx5⟩ := xV a0 x7_1; go_wp2_with (first | ((with_reducible refine gate_callee (f := 145) rfl ?_); refine goesL_ (some 14) rfl rfl Tryz.func145 (by kernel_rfl) rfl #[.int .u8 (bt a0 x7_1)] rfl xS ?_; (with_reducible refine (ver_digit.calls (bt a0 x7_1) true _ A6.out).mono ?_); rintro e w' ⟨rfl, ⟨nd, rfl⟩⟩; refine ⟨_, rfl, ?_⟩)); go_roundg k1
     case measure => exact xO1
     case rel => exact ⟨(wrap64 (x7_1 + 1)), xR, H', ⟨xO1⟩, by repeat (first | exact Drawn0.refl _ | apply Drawn0.step)⟩
    replace c7 := Bool.eq_false_iff.mpr c7; subst c7; rw [if_neg (show ¬ (false = true) by decide)] at H; replace H := xJ H; rcases H with ⟨c8, H⟩ | ⟨c8, H⟩
    ·
     replace c8 := decide_eq_true c8; replace H := xJ H; rcases H with ⟨c9, H⟩ | ⟨c9, H⟩
     ·
      replace c9 := decide_eq_true c9; replace H := xJ H; rcases H with ⟨c10, H⟩ | ⟨c10, H⟩
      ·
       have c10b0 := beq_iff_eq.mpr c10; have c10b1 := bne_eq_false_iff_eq.mpr c10; clear c10; have H' := Aside0.mk H; clear H; obtain ⟨p5, q5, hx5⟩ := xV a0 x7_1; go_wp2_with (first | ((with_reducible refine gate_callee (f := 145) rfl ?_); refine goesL_ (some 14) rfl rfl Tryz.func145 (by kernel_rfl) rfl #[.int .u8 (bt a0 x7_1)] rfl xS ?_; (with_reducible refine (ver_digit.calls (bt a0 x7_1) false _ A6.out).mono ?_); rintro e w' ⟨rfl, ⟨nd, rfl⟩⟩; refine ⟨_, rfl, ?_⟩)); go_roundg k1
       case measure => exact xO1
       case rel => exact ⟨(wrap64 (x7_1 + 1)), xR, H', ⟨xO1⟩, by repeat (first | exact Drawn0.refl _ | apply Drawn0.step)⟩
      have c10b0 := beq_eq_false_iff_ne.mpr c10; have c10b1 := bne_iff_ne.mpr c10; obtain rfl := Option.some.inj H; obtain ⟨p5, q5, hx5⟩ := xV a0 x7_1; go_wp2_with (first | ((with_reducible refine gate_callee (f := 145) rfl ?_); refine goesL_ (some 14) rfl rfl Tryz.func145 (by kernel_rfl) rfl #[.int .u8 (bt a0 x7_1)] rfl xS ?_; (with_reducible refine (ver_digit.calls (bt a0 x7_1) false _ A6.out).mono ?_); rintro e w' ⟨rfl, ⟨nd, rfl⟩⟩; refine ⟨_, rfl, ?_⟩)); go_ret; exact ⟨xR, xG⟩
     replace c9 := decide_eq_false c9; replace H := xJ H; rcases H with ⟨c11, H⟩ | ⟨c11, H⟩
     ·
      replace c11 := decide_eq_true c11; replace H := xJ H; rcases H with ⟨c12, H⟩ | ⟨c12, H⟩
      ·
       have c12b0 := beq_iff_eq.mpr c12; have c12b1 := bne_eq_false_iff_eq.mpr c12; clear c12; have H' := Aside0.mk H; clear H; obtain ⟨p5, q5, hx5⟩ := xV a0 x7_1; go_wp2_with (first | ((with_reducible refine gate_callee (f := 145) rfl ?_); refine goesL_ (some 14) rfl rfl Tryz.func145 (by kernel_rfl) rfl #[.int .u8 (bt a0 x7_1)] rfl xS ?_; (with_reducible refine (ver_digit.calls (bt a0 x7_1) false _ A6.out).mono ?_); rintro e w' ⟨rfl, ⟨nd, rfl⟩⟩; refine ⟨_, rfl, ?_⟩)); go_roundg k1
       case measure => exact xO1
       case rel => exact ⟨(wrap64 (x7_1 + 1)), xR, H', ⟨xO1⟩, by repeat (first | exact Drawn0.refl _ | apply Drawn0.step)⟩
      have c12b0 := beq_eq_false_iff_ne.mpr c12; have c12b1 := bne_iff_ne.mpr c12; obtain rfl := Option.some.inj H; obtain ⟨p5, q5, hx5⟩ := xV a0 x7_1; go_wp2_with (first | ((with_reducible refine gate_callee (f := 145) rfl ?_); refine goesL_ (some 14) rfl rfl Tryz.func145 (by kernel_rfl) rfl #[.int .u8 (bt a0 x7_1)] rfl xS ?_; (with_reducible refine (ver_digit.calls (bt a0 x7_1) false _ A6.out).mono ?_); rintro e w' ⟨rfl, ⟨nd, rfl⟩⟩; refine ⟨_, rfl, ?_⟩)); go_ret; exact ⟨xR, xG⟩
     replace c11 := decide_eq_false c11; have H' := Aside0.mk H; clear H; obtain ⟨p5, q5, hx5⟩ := xV a0 x7_1; go_wp2_with (first | ((with_reducible refine gate_callee (f := 145) rfl ?_); refine goesL_ (some 14) rfl rfl Tryz.func145 (by kernel_rfl) rfl #[.int .u8 (bt a0 x7_1)] rfl xS ?_; (with_reducible refine (ver_digit.calls (bt a0 x7_1) false _ A6.out).mono ?_); rintro e w' ⟨rfl, ⟨nd, rfl⟩⟩; refine ⟨_, rfl, ?_⟩)); go_roundg k1
     case measure => exact xO1
     case rel => exact ⟨(wrap64 (x7_1 + 1)), xR, H', ⟨xO1⟩, by repeat (first | exact Drawn0.refl _ | apply Drawn0.step)⟩
    replace c8 := decide_eq_false c8; replace H := xJ H; rcases H with ⟨c13, H⟩ | ⟨c13, H⟩
    ·
     replace c13 := decide_eq_true c13; replace H := xJ H; rcases H with ⟨c14, H⟩ | ⟨c14, H⟩
     ·
      replace c14 := decide_eq_true c14; replace H := xJ H; rcases H with ⟨c15, H⟩ | ⟨c15, H⟩
      ·
       have c15b0 := beq_iff_eq.mpr c15; have c15b1 := bne_eq_false_iff_eq.mpr c15; clear c15; have H' := Aside0.mk H; clear H; obtain ⟨p5, q5, hx5⟩ := xV a0 x7_1; go_wp2_with (first | ((with_reducible refine gate_callee (f := 145) rfl ?_); refine goesL_ (some 14) rfl rfl Tryz.func145 (by kernel_rfl) rfl #[.int .u8 (bt a0 x7_1)] rfl xS ?_; (with_reducible refine (ver_digit.calls (bt a0 x7_1) false _ A6.out).mono ?_); rintro e w' ⟨rfl, ⟨nd, rfl⟩⟩; refine ⟨_, rfl, ?_⟩)); go_roundg k1
       case measure => exact xO1
       case rel => exact ⟨(wrap64 (x7_1 + 1)), xR, H', ⟨xO1⟩, by repeat (first | exact Drawn0.refl _ | apply Drawn0.step)⟩
      have c15b0 := beq_eq_false_iff_ne.mpr c15; have c15b1 := bne_iff_ne.mpr c15; obtain rfl := Option.some.inj H; obtain ⟨p5, q5, hx5⟩ := xV a0 x7_1; go_wp2_with (first | ((with_reducible refine gate_callee (f := 145) rfl ?_); refine goesL_ (some 14) rfl rfl Tryz.func145 (by kernel_rfl) rfl #[.int .u8 (bt a0 x7_1)] rfl xS ?_; (with_reducible refine (ver_digit.calls (bt a0 x7_1) false _ A6.out).mono ?_); rintro e w' ⟨rfl, ⟨nd, rfl⟩⟩; refine ⟨_, rfl, ?_⟩)); go_ret; exact ⟨xR, xG⟩
     replace c14 := decide_eq_false c14; replace H := xJ H; rcases H with ⟨c16, H⟩ | ⟨c16, H⟩
     ·
      replace c16 := decide_eq_true c16; replace H := xJ H; rcases H with ⟨c17, H⟩ | ⟨c17, H⟩
      ·
       have c17b0 := beq_iff_eq.mpr c17; have c17b1 := bne_eq_false_iff_eq.mpr c17; clear c17; have H' := Aside0.mk H; clear H; obtain ⟨p5, q5, hx5⟩ := xV a0 x7_1; go_wp2_with (first | ((with_reducible refine gate_callee (f := 145) rfl ?_); refine goesL_ (some 14) rfl rfl Tryz.func145 (by kernel_rfl) rfl #[.int .u8 (bt a0 x7_1)] rfl xS ?_; (with_reducible refine (ver_digit.calls (bt a0 x7_1) false _ A6.out).mono ?_); rintro e w' ⟨rfl, ⟨nd, rfl⟩⟩; refine ⟨_, rfl, ?_⟩)); go_roundg k1
       case measure => exact xO1
       case rel => exact ⟨(wrap64 (x7_1 + 1)), xR, H', ⟨xO1⟩, by repeat (first | exact Drawn0.refl _ | apply Drawn0.step)⟩
      have c17b0 := beq_eq_false_iff_ne.mpr c17; have c17b1 := bne_iff_ne.mpr c17; obtain rfl := Option.some.inj H; obtain ⟨p5, q5, hx5⟩ := xV a0 x7_1; go_wp2_with (first | ((with_reducible refine gate_callee (f := 145) rfl ?_); refine goesL_ (some 14) rfl rfl Tryz.func145 (by kernel_rfl) rfl #[.int .u8 (bt a0 x7_1)] rfl xS ?_; (with_reducible refine (ver_digit.calls (bt a0 x7_1) false _ A6.out).mono ?_); rintro e w' ⟨rfl, ⟨nd, rfl⟩⟩; refine ⟨_, rfl, ?_⟩)); go_ret; exact ⟨xR, xG⟩
     replace c16 := decide_eq_false c16; have H' := Aside0.mk H; clear H; obtain ⟨p5, q5, hx5⟩ := xV a0 x7_1; go_wp2_with (first | ((with_reducible refine gate_callee (f := 145) rfl ?_); refine goesL_ (some 14) rfl rfl Tryz.func145 (by kernel_rfl) rfl #[.int .u8 (bt a0 x7_1)] rfl xS ?_; (with_reducible refine (ver_digit.calls (bt a0 x7_1) false _ A6.out).mono ?_); rintro e w' ⟨rfl, ⟨nd, rfl⟩⟩; refine ⟨_, rfl, ?_⟩)); go_roundg k1
     case measure => exact xO1
     case rel => exact ⟨(wrap64 (x7_1 + 1)), xR, H', ⟨xO1⟩, by repeat (first | exact Drawn0.refl _ | apply Drawn0.step)⟩
    replace c13 := decide_eq_false c13; have H' := Aside0.mk H; clear H; obtain ⟨p5, q5, hx5⟩ := xV a0 x7_1; go_wp2_with (first | ((with_reducible refine gate_callee (f := 145) rfl ?_); refine goesL_ (some 14) rfl rfl Tryz.func145 (by kernel_rfl) rfl #[.int .u8 (bt a0 x7_1)] rfl xS ?_; (with_reducible refine (ver_digit.calls (bt a0 x7_1) false _ A6.out).mono ?_); rintro e w' ⟨rfl, ⟨nd, rfl⟩⟩; refine ⟨_, rfl, ?_⟩)); go_roundg k1
    case measure => exact xO1
    case rel => exact ⟨(wrap64 (x7_1 + 1)), xR, H', ⟨xO1⟩, by repeat (first | exact Drawn0.refl _ | apply Drawn0.step)⟩
   replace c2 := decide_eq_false c2; obtain rfl := Option.some.inj H; go_wp2; go_ret; exact ⟨xR, xG⟩
def ver_digits.l0 : Nat → ByteArray → Int → Int → Option (Bool)
 | 0, _, _, _ => none
 | k + 1, x0, x5, x6 => if x6 < x5 then (if 0 ≤ x6 then (if x6 < (x0.size : Int) then ((ver_digit.f (bt x0 x6)).bind fun t102 => (if t102 = true then (ver_digits.l0 k x0 x5 (wrap64 (x6 + 1))) else (some false))) else (none)) else (none)) else (some (x0.toList != ([] : List UInt8)))
def ver_digits.f (k : Nat) (a0 : ByteArray) : Option (Bool) := ver_digits.l0 k a0 (a0.size : Int) 0
theorem ver_digits.mono_l : ∀ k, (∀ y0 y1 y2, LeO (ver_digits.l0 k y0 y1 y2) (ver_digits.l0 (k + 1) y0 y1 y2))
 | 0 => fun _ _ _ r h => by simp [ver_digits.l0] at h
 | k + 1 => by
  have ih0 := ver_digits.mono_l k
  ·
   intro y0 y1 y2; unfold ver_digits.l0; exact xM
theorem ver_digits.mono : ∀ a0 k, LeO (ver_digits.f k a0) (ver_digits.f (k + 1) a0) := by
 intro a0 k; have ih0 := ver_digits.mono_l k; unfold ver_digits.f; exact xM
set_option maxHeartbeats 8000000 in
set_option maxRecDepth 100000 in
theorem ver_digits.calls (k : Nat) (a0 : ByteArray) (r : Bool) (w : World) (h : ver_digits.f k a0 = some r) :
  Calls Tryz.prog 112 #[.string a0] w fun e w' => e = .returned (.bool r) ∧ Drawn0 w w' := by
 have H : (ver_digits.l0 k a0 (a0.size : Int) 0) = some r := h; clear h; have H' := Aside0.mk H; clear H; go_enter Tryz.func112, Tryz.ntmps112; go_wp2
 go_loopg [6] k (fun kq v6 w' => ∃ (x6_1 : Int), v6 = .int .i64 x6_1 ∧ Aside0 (ver_digits.l0 kq a0 (a0.size : Int) x6_1 = some r) ∧ Aside0 (kq ≤ k) ∧ Drawn0 w w')
 case atStart => exact ⟨(0), xR, H', ⟨Nat.le_refl _⟩, by repeat (first | exact Drawn0.refl _ | apply Drawn0.step)⟩
 case round =>
  clear H'
  try clear c1
  obtain ⟨x6_1, rfl, HA, HK1, ⟨m1, rfl⟩⟩ := hrel
  cases gk with
  | zero => exact absurd HA.out (by simp [ver_digits.l0])
  | succ k1 =>
   have H := HA.out; clear HA; simp only [ver_digits.l0] at H; replace H := xJ H; rcases H with ⟨c2, H⟩ | ⟨c2, H⟩
   ·
    replace c2 := decide_eq_true c2; replace H := xI H; obtain ⟨c3, H⟩ := H; replace c3 := decide_eq_true c3; replace H := xI H; obtain ⟨c4, H⟩ := H; replace c4 := decide_eq_true c4; replace H := xb H; obtain ⟨t102, A6, H⟩ := H
    by_cases c7 : t102 = true
    ·
     subst c7; rw [if_pos rfl] at H; have H' := Aside0.mk H; clear H; obtain ⟨p5, q5, hx5⟩ := xV a0 x6_1; go_wp2_with (first | ((with_reducible refine gate_callee (f := 145) rfl ?_); refine goesL_ (some 12) rfl rfl Tryz.func145 (by kernel_rfl) rfl #[.int .u8 (bt a0 x6_1)] rfl xS ?_; (with_reducible refine (ver_digit.calls (bt a0 x6_1) true _ A6.out).mono ?_); rintro e w' ⟨rfl, ⟨nd, rfl⟩⟩; refine ⟨_, rfl, ?_⟩)); go_roundg k1
     case measure => exact xO1
     case rel => exact ⟨(wrap64 (x6_1 + 1)), xR, H', ⟨xO1⟩, by repeat (first | exact Drawn0.refl _ | apply Drawn0.step)⟩
    replace c7 := Bool.eq_false_iff.mpr c7; subst c7; rw [if_neg (show ¬ (false = true) by decide)] at H; obtain rfl := Option.some.inj H; obtain ⟨p5, q5, hx5⟩ := xV a0 x6_1; go_wp2_with (first | ((with_reducible refine gate_callee (f := 145) rfl ?_); refine goesL_ (some 12) rfl rfl Tryz.func145 (by kernel_rfl) rfl #[.int .u8 (bt a0 x6_1)] rfl xS ?_; (with_reducible refine (ver_digit.calls (bt a0 x6_1) false _ A6.out).mono ?_); rintro e w' ⟨rfl, ⟨nd, rfl⟩⟩; refine ⟨_, rfl, ?_⟩)); go_ret; exact ⟨xR, xG⟩
   replace c2 := decide_eq_false c2; obtain rfl := Option.some.inj H; go_wp2; go_ret; exact ⟨xR, xG⟩
def ver_tight.f (k : Nat) (a0 : ByteArray) : Option (Bool) := if (a0.size : Int) < 2 then (some true) else (if 0 < (a0.size : Int) then (if (bt a0 0) = 48 then ((ver_digits.f k a0).bind fun t103 => (some (!t103))) else (some true)) else (none))
theorem ver_tight.mono : ∀ a0 k, LeO (ver_tight.f k a0) (ver_tight.f (k + 1) a0) := by
 intro a0 k; unfold ver_tight.f; have ih0 := @ver_digits.mono; exact xM
set_option maxHeartbeats 8000000 in
set_option maxRecDepth 100000 in
theorem ver_tight.calls (k : Nat) (a0 : ByteArray) (r : Bool) (w : World) (h : ver_tight.f k a0 = some r) :
  Calls Tryz.prog 88 #[.string a0] w fun e w' => e = .returned (.bool r) ∧ Drawn0 w w' := by
 have H : (if (a0.size : Int) < 2 then (some true) else (if 0 < (a0.size : Int) then (if (bt a0 0) = 48 then ((ver_digits.f k a0).bind fun t103 => (some (!t103))) else (some true)) else (none))) = some r := h; clear h; replace H := xJ H; rcases H with ⟨c2, H⟩ | ⟨c2, H⟩
 ·
  have c2b0 := decide_eq_true c2; have c2b1 : decide (a0.size < 2) = true := decide_eq_true (by omega); clear c2; obtain rfl := Option.some.inj H; go_enter Tryz.func88, Tryz.ntmps88; go_wp2; go_ret; exact ⟨xR, xG⟩
 have c2b0 := decide_eq_false c2; have c2b1 : decide (a0.size < 2) = false := decide_eq_false (by omega); clear c2; replace H := xI H; obtain ⟨c3, H⟩ := H; have c3b0 := decide_eq_true c3; have c3b1 : decide (0 < a0.size) = true := decide_eq_true (by omega); clear c3; replace H := xJ H; rcases H with ⟨c5, H⟩ | ⟨c5, H⟩
 ·
  have c5b0 := beq_iff_eq.mpr c5; have c5b1 := bne_eq_false_iff_eq.mpr c5; clear c5; replace H := xb H; obtain ⟨t103, A6, H⟩ := H; obtain rfl := Option.some.inj H; have p4 : 0 ≤ (0 : Int) := (by omega); have q4 : 0 < a0.size := (by have : (0 : Int) < (a0.size : Int) := xD; omega); have hx4 : ∀ h : 0 < a0.size, ((a0[0]'h).toNat : Int) = bt a0 0 := bt_at a0 0; clear p4; have qi4 : (0 < (a0.size : Int)) = True := eq_true (xD); replace q4 := eq_true q4; go_enter Tryz.func88, Tryz.ntmps88; go_wp2_with (first | (go_at_call 112; (with_reducible refine (ver_digits.calls k a0 t103 _ A6.out).mono ?_); rintro e w' ⟨rfl, ⟨nd, rfl⟩⟩)); go_ret; exact ⟨xR, xG⟩
 have c5b0 := beq_eq_false_iff_ne.mpr c5; have c5b1 := bne_iff_ne.mpr c5; obtain rfl := Option.some.inj H; have p4 : 0 ≤ (0 : Int) := (by omega); have q4 : 0 < a0.size := (by have : (0 : Int) < (a0.size : Int) := xD; omega); have hx4 : ∀ h : 0 < a0.size, ((a0[0]'h).toNat : Int) = bt a0 0 := bt_at a0 0; clear p4; have qi4 : (0 < (a0.size : Int)) = True := eq_true (xD); replace q4 := eq_true q4; go_enter Tryz.func88, Tryz.ntmps88; go_wp2; go_ret; exact ⟨xR, xG⟩
def ver_num.f (a0 : Int) : Option (Bool) := if a0 ≥ 0 then (some (decide (a0 ≤ 999999999))) else (some false)
set_option maxHeartbeats 8000000 in
set_option maxRecDepth 100000 in
theorem ver_num.calls (a0 : Int) (r : Bool) (w : World) (h : ver_num.f a0 = some r) :
  Calls Tryz.prog 86 #[.int .i64 a0] w fun e w' => e = .returned (.bool r) ∧ Drawn0 w w' := by
 have H : (if a0 ≥ 0 then (some (decide (a0 ≤ 999999999))) else (some false)) = some r := h; clear h; replace H := xJ H; rcases H with ⟨c2, H⟩ | ⟨c2, H⟩
 ·
  replace c2 := decide_eq_true c2; obtain rfl := Option.some.inj H; go_enter Tryz.func86, Tryz.ntmps86; go_wp2; go_ret; exact ⟨xR, xG⟩
 replace c2 := decide_eq_false c2; obtain rfl := Option.some.inj H; go_enter Tryz.func86, Tryz.ntmps86; go_wp2; go_ret; exact ⟨xR, xG⟩
end Go.Proofs.YtmbpefnhkimplaaGreatDoor.R1
end
