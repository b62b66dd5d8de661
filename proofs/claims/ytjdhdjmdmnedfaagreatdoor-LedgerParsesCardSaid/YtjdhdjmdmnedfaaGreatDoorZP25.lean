/- The texts RDx4 in one file, without what these claims do not use (put together by prune2.py). -/
import Derived.Test.YtjdhdjmdmnedfaaGreatDoorZP22
section
namespace Go.Proofs.YtjdhdjmdmnedfaaGreatDoor.RD
open Go.RowKit Go.Proofs.YtjdhdjmdmnedfaaGreatDoor Go.Proofs.YtjdhdjmdmnedfaaGreatDoor.K0 Go.Proofs.YtjdhdjmdmnedfaaGreatDoorW.PrintWords Go.Proofs.YtjdhdjmdmnedfaaGreatDoorW.PrintLast Go.Proofs.YtjdhdjmdmnedfaaGreatDoorW.PrintMore
attribute [local go_sem] max2_int min2_int max_two min_two max_three min_three max_four min_four
set_option linter.unusedVariables false
set_option linter.unusedSimpArgs false
def armadaref05_part.l0 : Nat → ByteArray → Int → Option (Bool)
 | 0, _, _ => none
 | k + 1, x0, x3 => if x3 < (x0.size : Int) then (if 0 ≤ x3 then (if (bt x0 x3) ≥ 97 then (if (bt x0 x3) ≤ 122 then (armadaref05_part.l0 k x0 (wrap64 (x3 + 1))) else (if (bt x0 x3) ≥ 65 then (if (bt x0 x3) ≤ 90 then (armadaref05_part.l0 k x0 (wrap64 (x3 + 1))) else (if (bt x0 x3) ≥ 48 then (if ((bt x0 x3) ≤ 57) then (armadaref05_part.l0 k x0 (wrap64 (x3 + 1))) else (if (bt x0 x3) = 45 then (armadaref05_part.l0 k x0 (wrap64 (x3 + 1))) else (if (bt x0 x3) = 95 then (armadaref05_part.l0 k x0 (wrap64 (x3 + 1))) else (if (bt x0 x3) = 46 then (armadaref05_part.l0 k x0 (wrap64 (x3 + 1))) else (some false))))) else (if (bt x0 x3) = 45 then (armadaref05_part.l0 k x0 (wrap64 (x3 + 1))) else (if (bt x0 x3) = 95 then (armadaref05_part.l0 k x0 (wrap64 (x3 + 1))) else (if (bt x0 x3) = 46 then (armadaref05_part.l0 k x0 (wrap64 (x3 + 1))) else (some false)))))) else (if (bt x0 x3) ≥ 48 then (if ((bt x0 x3) ≤ 57) then (armadaref05_part.l0 k x0 (wrap64 (x3 + 1))) else (if (bt x0 x3) = 45 then (armadaref05_part.l0 k x0 (wrap64 (x3 + 1))) else (if (bt x0 x3) = 95 then (armadaref05_part.l0 k x0 (wrap64 (x3 + 1))) else (if (bt x0 x3) = 46 then (armadaref05_part.l0 k x0 (wrap64 (x3 + 1))) else (some false))))) else (if (bt x0 x3) = 45 then (armadaref05_part.l0 k x0 (wrap64 (x3 + 1))) else (if (bt x0 x3) = 95 then (armadaref05_part.l0 k x0 (wrap64 (x3 + 1))) else (if (bt x0 x3) = 46 then (armadaref05_part.l0 k x0 (wrap64 (x3 + 1))) else (some false))))))) else (if (bt x0 x3) ≥ 65 then (if (bt x0 x3) ≤ 90 then (armadaref05_part.l0 k x0 (wrap64 (x3 + 1))) else (if (bt x0 x3) ≥ 48 then (if ((bt x0 x3) ≤ 57) then (armadaref05_part.l0 k x0 (wrap64 (x3 + 1))) else (if (bt x0 x3) = 45 then (armadaref05_part.l0 k x0 (wrap64 (x3 + 1))) else (if (bt x0 x3) = 95 then (armadaref05_part.l0 k x0 (wrap64 (x3 + 1))) else (if (bt x0 x3) = 46 then (armadaref05_part.l0 k x0 (wrap64 (x3 + 1))) else (some false))))) else (if (bt x0 x3) = 45 then (armadaref05_part.l0 k x0 (wrap64 (x3 + 1))) else (if (bt x0 x3) = 95 then (armadaref05_part.l0 k x0 (wrap64 (x3 + 1))) else (if (bt x0 x3) = 46 then (armadaref05_part.l0 k x0 (wrap64 (x3 + 1))) else (some false)))))) else (if (bt x0 x3) ≥ 48 then (if ((bt x0 x3) ≤ 57) then (armadaref05_part.l0 k x0 (wrap64 (x3 + 1))) else (if (bt x0 x3) = 45 then (armadaref05_part.l0 k x0 (wrap64 (x3 + 1))) else (if (bt x0 x3) = 95 then (armadaref05_part.l0 k x0 (wrap64 (x3 + 1))) else (if (bt x0 x3) = 46 then (armadaref05_part.l0 k x0 (wrap64 (x3 + 1))) else (some false))))) else (if (bt x0 x3) = 45 then (armadaref05_part.l0 k x0 (wrap64 (x3 + 1))) else (if (bt x0 x3) = 95 then (armadaref05_part.l0 k x0 (wrap64 (x3 + 1))) else (if (bt x0 x3) = 46 then (armadaref05_part.l0 k x0 (wrap64 (x3 + 1))) else (some false))))))) else (none)) else (if x0.toList = ([] : List UInt8) then (some false) else (if x0.toList = ([46] : List UInt8) then (some false) else (some (x0.toList != ([46, 46] : List UInt8)))))
def armadaref05_part.f (k : Nat) (a0 : ByteArray) : Option (Bool) := armadaref05_part.l0 k a0 0
set_option maxHeartbeats 8000000 in
set_option maxRecDepth 100000 in
theorem armadaref05_part.calls (k : Nat) (a0 : ByteArray) (r : Bool) (w : World) (h : armadaref05_part.f k a0 = some r) :
  Calls Tryz.prog 100 #[.string a0] w fun e w' => e = .returned (.bool r) ∧ Drawn0 w w' := by
 have H : (armadaref05_part.l0 k a0 0) = some r := h; clear h; have H' := Aside0.mk H; clear H; go_enter Tryz.func100, Tryz.ntmps100; go_wp2
 go_loopg [3] k (fun kq v3 w' => ∃ (x3_1 : Int), v3 = .int .i64 x3_1 ∧ Aside0 (armadaref05_part.l0 kq a0 x3_1 = some r) ∧ Aside0 (kq ≤ k) ∧ Drawn0 w w')
 case atStart => exact ⟨(0), xR, H', ⟨Nat.le_refl _⟩, by repeat (first | exact Drawn0.refl _ | apply Drawn0.step)⟩
 case round =>
  clear H'
  try clear c1
  obtain ⟨x3_1, rfl, HA, HK1, ⟨m1, rfl⟩⟩ := hrel
  cases gk with
  | zero => exact absurd HA.out (by simp [armadaref05_part.l0])
  | succ k1 =>
   have H := HA.out; clear HA; simp only [armadaref05_part.l0] at H; replace H := xJ H; rcases H with ⟨c2, H⟩ | ⟨c2, H⟩
   ·
    replace c2 := decide_eq_true c2; replace H := xI H; obtain ⟨c3, H⟩ := H; replace c3 := decide_eq_true c3; replace H := xJ H; rcases H with ⟨c5, H⟩ | ⟨c5, H⟩
    ·
     replace c5 := decide_eq_true c5; replace H := xJ H; rcases H with ⟨c6, H⟩ | ⟨c6, H⟩
     ·
      replace c6 := decide_eq_true c6; have H' := Aside0.mk H; clear H; obtain ⟨p4, q4, hx4⟩ := xV a0 x3_1; go_wp2; go_roundg k1
      case measure => exact xO1
      case rel => exact ⟨(wrap64 (x3_1 + 1)), xR, H', ⟨xO1⟩, by repeat (first | exact Drawn0.refl _ | apply Drawn0.step)⟩
     replace c6 := decide_eq_false c6; replace H := xJ H; rcases H with ⟨c7, H⟩ | ⟨c7, H⟩
     ·
      replace c7 := decide_eq_true c7; replace H := xJ H; rcases H with ⟨c8, H⟩ | ⟨c8, H⟩
      ·
       replace c8 := decide_eq_true c8; have H' := Aside0.mk H; clear H; obtain ⟨p4, q4, hx4⟩ := xV a0 x3_1; go_wp2; go_roundg k1
       case measure => exact xO1
       case rel => exact ⟨(wrap64 (x3_1 + 1)), xR, H', ⟨xO1⟩, by repeat (first | exact Drawn0.refl _ | apply Drawn0.step)⟩
      replace c8 := decide_eq_false c8; replace H := xJ H; rcases H with ⟨c9, H⟩ | ⟨c9, H⟩
      ·
       replace c9 := decide_eq_true c9; replace H := xJ H; rcases H with ⟨c10, H⟩ | ⟨c10, H⟩
       ·
        replace c10 := decide_eq_true c10; have H' := Aside0.mk H; clear H; obtain ⟨p4, q4, hx4⟩ := xV a0 x3_1; go_wp2; go_roundg k1
        case measure => exact xO1
        case rel => exact ⟨(wrap64 (x3_1 + 1)), xR, H', ⟨xO1⟩, by repeat (first | exact Drawn0.refl _ | apply Drawn0.step)⟩
       replace c10 := decide_eq_false c10; replace H := xJ H; rcases H with ⟨c11, H⟩ | ⟨c11, H⟩
       ·
        have c11b0 := beq_iff_eq.mpr c11; have c11b1 := bne_eq_false_iff_eq.mpr c11; clear c11; have H' := Aside0.mk H; clear H; obtain ⟨p4, q4, hx4⟩ := xV a0 x3_1; go_wp2; go_roundg k1
        case measure => exact xO1
        case rel => exact ⟨(wrap64 (x3_1 + 1)), xR, H', ⟨xO1⟩, by repeat (first | exact Drawn0.refl _ | apply Drawn0.step)⟩
       have c11b0 := beq_eq_false_iff_ne.mpr c11; have c11b1 := bne_iff_ne.mpr c11; replace H := xJ H; rcases H with ⟨c12, H⟩ | ⟨c12, H⟩
       ·
        have c12b0 := beq_iff_eq.mpr c12; have c12b1 := bne_eq_false_iff_eq.mpr c12; clear c12; have H' := Aside0.mk H; clear H; obtain ⟨p4, q4, hx4⟩ := xV a0 x3_1; go_wp2; go_roundg k1
        case measure => exact xO1
        case rel => exact ⟨(wrap64 (x3_1 + 1)), xR, H', ⟨xO1⟩, by repeat (first | exact Drawn0.refl _ | apply Drawn0.step)⟩
       have c12b0 := beq_eq_false_iff_ne.mpr c12; have c12b1 := bne_iff_ne.mpr c12; replace H := xJ H; rcases H with ⟨c13, H⟩ | ⟨c13, H⟩
       ·
        have c13b0 := beq_iff_eq.mpr c13; have c13b1 := bne_eq_false_iff_eq.mpr c13; clear c13; have H' := Aside0.mk H; clear H; obtain ⟨p4, q4, hx4⟩ := xV a0 x3_1; go_wp2; go_roundg k1
        case measure => exact xO1
        case rel => exact ⟨(wrap64 (x3_1 + 1)), xR, H', ⟨xO1⟩, by repeat (first | exact Drawn0.refl _ | apply Drawn0.step)⟩
       have c13b0 := beq_eq_false_iff_ne.mpr c13; have c13b1 := bne_iff_ne.mpr c13; obtain rfl := Option.some.inj H; obtain ⟨p4, q4, hx4⟩ := xV a0 x3_1; go_wp2; go_ret; exact ⟨xR, xG⟩
      replace c9 := decide_eq_false c9; replace H := xJ H; rcases H with ⟨c14, H⟩ | ⟨c14, H⟩
      ·
       have c14b0 := beq_iff_eq.mpr c14; have c14b1 := bne_eq_false_iff_eq.mpr c14; clear c14; have H' := Aside0.mk H; clear H; obtain ⟨p4, q4, hx4⟩ := xV a0 x3_1; go_wp2; go_roundg k1
       case measure => exact xO1
       case rel => exact ⟨(wrap64 (x3_1 + 1)), xR, H', ⟨xO1⟩, by repeat (first | exact Drawn0.refl _ | apply Drawn0.step)⟩
      have c14b0 := beq_eq_false_iff_ne.mpr c14; have c14b1 := bne_iff_ne.mpr c14; replace H := xJ H; rcases H with ⟨c15, H⟩ | ⟨c15, H⟩
      ·
       have c15b0 := beq_iff_eq.mpr c15; have c15b1 := bne_eq_false_iff_eq.mpr c15; clear c15; have H' := Aside0.mk H; clear H; obtain ⟨p4, q4, hx4⟩ := xV a0 x3_1; go_wp2; go_roundg k1
       case measure => exact xO1
       case rel => exact ⟨(wrap64 (x3_1 + 1)), xR, H', ⟨xO1⟩, by repeat (first | exact Drawn0.refl _ | apply Drawn0.step)⟩
      have c15b0 := beq_eq_false_iff_ne.mpr c15; have c15b1 := bne_iff_ne.mpr c15; replace H := xJ H; rcases H with ⟨c16, H⟩ | ⟨c16, H⟩
      ·
       have c16b0 := beq_iff_eq.mpr c16; have c16b1 := bne_eq_false_iff_eq.mpr c16; clear c16; have H' := Aside0.mk H; clear H; obtain ⟨p4, q4, hx4⟩ := xV a0 x3_1; go_wp2; go_roundg k1
       case measure => exact xO1
       case rel => exact ⟨(wrap64 (x3_1 + 1)), xR, H', ⟨xO1⟩, by repeat (first | exact Drawn0.refl _ | apply Drawn0.step)⟩
      have c16b0 := beq_eq_false_iff_ne.mpr c16; have c16b1 := bne_iff_ne.mpr c16; obtain rfl := Option.some.inj H; obtain ⟨p4, q4, hx4⟩ := xV a0 x3_1; go_wp2; go_ret; exact ⟨xR, xG⟩
     replace c7 := decide_eq_false c7; replace H := xJ H; rcases H with ⟨c17, H⟩ | ⟨c17, H⟩
     ·
      replace c17 := decide_eq_true c17; replace H := xJ H; rcases H with ⟨c18, H⟩ | ⟨c18, H⟩
      ·
       replace c18 := decide_eq_true c18; have H' := Aside0.mk H; clear H; obtain ⟨p4, q4, hx4⟩ := xV a0 x3_1; go_wp2; go_roundg k1
       case measure => exact xO1
       case rel => exact ⟨(wrap64 (x3_1 + 1)), xR, H', ⟨xO1⟩, by repeat (first | exact Drawn0.refl _ | apply Drawn0.step)⟩
      replace c18 := decide_eq_false c18; replace H := xJ H; rcases H with ⟨c19, H⟩ | ⟨c19, H⟩
      ·
       have c19b0 := beq_iff_eq.mpr c19; have c19b1 := bne_eq_false_iff_eq.mpr c19; clear c19; have H' := Aside0.mk H; clear H; obtain ⟨p4, q4, hx4⟩ := xV a0 x3_1; go_wp2; go_roundg k1
       case measure => exact xO1
       case rel => exact ⟨(wrap64 (x3_1 + 1)), xR, H', ⟨xO1⟩, by repeat (first | exact Drawn0.refl _ | apply Drawn0.step)⟩
      have c19b0 := beq_eq_false_iff_ne.mpr c19; have c19b1 := bne_iff_ne.mpr c19; replace H := xJ H; rcases H with ⟨c20, H⟩ | ⟨c20, H⟩
      ·
       have c20b0 := beq_iff_eq.mpr c20; have c20b1 := bne_eq_false_iff_eq.mpr c20; clear c20; have H' := Aside0.mk H; clear H; obtain ⟨p4, q4, hx4⟩ := xV a0 x3_1; go_wp2; go_roundg k1
       case measure => exact xO1
       case rel => exact ⟨(wrap64 (x3_1 + 1)), xR, H', ⟨xO1⟩, by repeat (first | exact Drawn0.refl _ | apply Drawn0.step)⟩
      have c20b0 := beq_eq_false_iff_ne.mpr c20; have c20b1 := bne_iff_ne.mpr c20; replace H := xJ H; rcases H with ⟨c21, H⟩ | ⟨c21, H⟩
      ·
       have c21b0 := beq_iff_eq.mpr c21; have c21b1 := bne_eq_false_iff_eq.mpr c21; clear c21; have H' := Aside0.mk H; clear H; obtain ⟨p4, q4, hx4⟩ := xV a0 x3_1; go_wp2; go_roundg k1
       case measure => exact xO1
       case rel => exact ⟨(wrap64 (x3_1 + 1)), xR, H', ⟨xO1⟩, by repeat (first | exact Drawn0.refl _ | apply Drawn0.step)⟩
      have c21b0 := beq_eq_false_iff_ne.mpr c21; have c21b1 := bne_iff_ne.mpr c21; obtain rfl := Option.some.inj H; obtain ⟨p4, q4, hx4⟩ := xV a0 x3_1; go_wp2; go_ret; exact ⟨xR, xG⟩
     replace c17 := decide_eq_false c17; replace H := xJ H; rcases H with ⟨c22, H⟩ | ⟨c22, H⟩
     ·
      have c22b0 := beq_iff_eq.mpr c22; have c22b1 := bne_eq_false_iff_eq.mpr c22; clear c22; have H' := Aside0.mk H; clear H; obtain ⟨p4, q4, hx4⟩ := xV a0 x3_1; go_wp2; go_roundg k1
      case measure => exact xO1
      case rel => exact ⟨(wrap64 (x3_1 + 1)), xR, H', ⟨xO1⟩, by repeat (first | exact Drawn0.refl _ | apply Drawn0.step)⟩
     have c22b0 := beq_eq_false_iff_ne.mpr c22; have c22b1 := bne_iff_ne.mpr c22; replace H := xJ H; rcases H with ⟨c23, H⟩ | ⟨c23, H⟩
     ·
      have c23b0 := beq_iff_eq.mpr c23; have c23b1 := bne_eq_false_iff_eq.mpr c23; clear c23; have H' := Aside0.mk H; clear H; obtain ⟨p4, q4, hx4⟩ := xV a0 x3_1; go_wp2; go_roundg k1
      case measure => exact xO1
      case rel => exact ⟨(wrap64 (x3_1 + 1)), xR, H', ⟨xO1⟩, by repeat (first | exact Drawn0.refl _ | apply Drawn0.step)⟩
     have c23b0 := beq_eq_false_iff_ne.mpr c23; have c23b1 := bne_iff_ne.mpr c23; replace H := xJ H; rcases H with ⟨c24, H⟩ | ⟨c24, H⟩
     ·
      have c24b0 := beq_iff_eq.mpr c24; have c24b1 := bne_eq_false_iff_eq.mpr c24; clear c24; have H' := Aside0.mk H; clear H; obtain ⟨p4, q4, hx4⟩ := xV a0 x3_1; go_wp2; go_roundg k1
      case measure => exact xO1
      case rel => exact ⟨(wrap64 (x3_1 + 1)), xR, H', ⟨xO1⟩, by repeat (first | exact Drawn0.refl _ | apply Drawn0.step)⟩
     have c24b0 := beq_eq_false_iff_ne.mpr c24; have c24b1 := bne_iff_ne.mpr c24; obtain rfl := Option.some.inj H; obtain ⟨p4, q4, hx4⟩ := xV a0 x3_1; go_wp2; go_ret; exact ⟨xR, xG⟩
    replace c5 := decide_eq_false c5; replace H := xJ H; rcases H with ⟨c25, H⟩ | ⟨c25, H⟩
    ·
     replace c25 := decide_eq_true c25; replace H := xJ H; rcases H with ⟨c26, H⟩ | ⟨c26, H⟩
     ·
      replace c26 := decide_eq_true c26; have H' := Aside0.mk H; clear H; obtain ⟨p4, q4, hx4⟩ := xV a0 x3_1; go_wp2; go_roundg k1
      case measure => exact xO1
      case rel => exact ⟨(wrap64 (x3_1 + 1)), xR, H', ⟨xO1⟩, by repeat (first | exact Drawn0.refl _ | apply Drawn0.step)⟩
     replace c26 := decide_eq_false c26; replace H := xJ H; rcases H with ⟨c27, H⟩ | ⟨c27, H⟩
     ·
      replace c27 := decide_eq_true c27; replace H := xJ H; rcases H with ⟨c28, H⟩ | ⟨c28, H⟩
      ·
       replace c28 := decide_eq_true c28; have H' := Aside0.mk H; clear H; obtain ⟨p4, q4, hx4⟩ := xV a0 x3_1; go_wp2; go_roundg k1
       case measure => exact xO1
       case rel => exact ⟨(wrap64 (x3_1 + 1)), xR, H', ⟨xO1⟩, by repeat (first | exact Drawn0.refl _ | apply Drawn0.step)⟩
      replace c28 := decide_eq_false c28; replace H := xJ H; rcases H with ⟨c29, H⟩ | ⟨c29, H⟩
      ·
       have c29b0 := beq_iff_eq.mpr c29; have c29b1 := bne_eq_false_iff_eq.mpr c29; clear c29; have H' := Aside0.mk H; clear H; obtain ⟨p4, q4, hx4⟩ := xV a0 x3_1; go_wp2; go_roundg k1
       case measure => exact xO1
       case rel => exact ⟨(wrap64 (x3_1 + 1)), xR, H', ⟨xO1⟩, by repeat (first | exact Drawn0.refl _ | apply Drawn0.step)⟩
      have c29b0 := beq_eq_false_iff_ne.mpr c29; have c29b1 := bne_iff_ne.mpr c29; replace H := xJ H; rcases H with ⟨c30, H⟩ | ⟨c30, H⟩
      ·
       have c30b0 := beq_iff_eq.mpr c30; have c30b1 := bne_eq_false_iff_eq.mpr c30; clear c30; have H' := Aside0.mk H; clear H; obtain ⟨p4, q4, hx4⟩ := xV a0 x3_1; go_wp2; go_roundg k1
       case measure => exact xO1
       case rel => exact ⟨(wrap64 (x3_1 + 1)), xR, H', ⟨xO1⟩, by repeat (first | exact Drawn0.refl _ | apply Drawn0.step)⟩
      have c30b0 := beq_eq_false_iff_ne.mpr c30; have c30b1 := bne_iff_ne.mpr c30; replace H := xJ H; rcases H with ⟨c31, H⟩ | ⟨c31, H⟩
      ·
       have c31b0 := beq_iff_eq.mpr c31; have c31b1 := bne_eq_false_iff_eq.mpr c31; clear c31; have H' := Aside0.mk H; clear H; obtain ⟨p4, q4, hx4⟩ := xV a0 x3_1; go_wp2; go_roundg k1
       case measure => exact xO1
       case rel => exact ⟨(wrap64 (x3_1 + 1)), xR, H', ⟨xO1⟩, by repeat (first | exact Drawn0.refl _ | apply Drawn0.step)⟩
      have c31b0 := beq_eq_false_iff_ne.mpr c31; have c31b1 := bne_iff_ne.mpr c31; obtain rfl := Option.some.inj H; obtain ⟨p4, q4, hx4⟩ := xV a0 x3_1; go_wp2; go_ret; exact ⟨xR, xG⟩
     replace c27 := decide_eq_false c27; replace H := xJ H; rcases H with ⟨c32, H⟩ | ⟨c32, H⟩
     ·
      have c32b0 := beq_iff_eq.mpr c32; have c32b1 := bne_eq_false_iff_eq.mpr c32; clear c32; have H' := Aside0.mk H; clear H; obtain ⟨p4, q4, hx4⟩ := xV a0 x3_1; go_wp2; go_roundg k1
      case measure => exact xO1
      case rel => exact ⟨(wrap64 (x3_1 + 1)), xR, H', ⟨xO1⟩, by repeat (first | exact Drawn0.refl _ | apply Drawn0.step)⟩
     have c32b0 := beq_eq_false_iff_ne.mpr c32; have c32b1 := bne_iff_ne.mpr c32; replace H := xJ H; rcases H with ⟨c33, H⟩ | ⟨c33, H⟩
     ·
      have c33b0 := beq_iff_eq.mpr c33; have c33b1 := bne_eq_false_iff_eq.mpr c33; clear c33; have H' := Aside0.mk H; clear H; obtain ⟨p4, q4, hx4⟩ := xV a0 x3_1; go_wp2; go_roundg k1
      case measure => exact xO1
      case rel => exact ⟨(wrap64 (x3_1 + 1)), xR, H', ⟨xO1⟩, by repeat (first | exact Drawn0.refl _ | apply Drawn0.step)⟩
     have c33b0 := beq_eq_false_iff_ne.mpr c33; have c33b1 := bne_iff_ne.mpr c33; replace H := xJ H; rcases H with ⟨c34, H⟩ | ⟨c34, H⟩
     ·
      have c34b0 := beq_iff_eq.mpr c34; have c34b1 := bne_eq_false_iff_eq.mpr c34; clear c34; have H' := Aside0.mk H; clear H; obtain ⟨p4, q4, hx4⟩ := xV a0 x3_1; go_wp2; go_roundg k1
      case measure => exact xO1
      case rel => exact ⟨(wrap64 (x3_1 + 1)), xR, H', ⟨xO1⟩, by repeat (first | exact Drawn0.refl _ | apply Drawn0.step)⟩
     have c34b0 := beq_eq_false_iff_ne.mpr c34; have c34b1 := bne_iff_ne.mpr c34; obtain rfl := Option.some.inj H; obtain ⟨p4, q4, hx4⟩ := xV a0 x3_1; go_wp2; go_ret; exact ⟨xR, xG⟩
    replace c25 := decide_eq_false c25; replace H := xJ H; rcases H with ⟨c35, H⟩ | ⟨c35, H⟩
    ·
     replace c35 := decide_eq_true c35; replace H := xJ H; rcases H with ⟨c36, H⟩ | ⟨c36, H⟩
     ·
      replace c36 := decide_eq_true c36; have H' := Aside0.mk H; clear H; obtain ⟨p4, q4, hx4⟩ := xV a0 x3_1; go_wp2; go_roundg k1
      case measure => exact xO1
      case rel => exact ⟨(wrap64 (x3_1 + 1)), xR, H', ⟨xO1⟩, by repeat (first | exact Drawn0.refl _ | apply Drawn0.step)⟩
     replace c36 := decide_eq_false c36; replace H := xJ H; rcases H with ⟨c37, H⟩ | ⟨c37, H⟩
     ·
      have c37b0 := beq_iff_eq.mpr c37; have c37b1 := bne_eq_false_iff_eq.mpr c37; clear c37; have H' := Aside0.mk H; clear H; obtain ⟨p4, q4, hx4⟩ := xV a0 x3_1; go_wp2; go_roundg k1
      case measure => exact xO1
      case rel => exact ⟨(wrap64 (x3_1 + 1)), xR, H', ⟨xO1⟩, by repeat (first | exact Drawn0.refl _ | apply Drawn0.step)⟩
     have c37b0 := beq_eq_false_iff_ne.mpr c37; have c37b1 := bne_iff_ne.mpr c37; replace H := xJ H; rcases H with ⟨c38, H⟩ | ⟨c38, H⟩
     ·
      have c38b0 := beq_iff_eq.mpr c38; have c38b1 := bne_eq_false_iff_eq.mpr c38; clear c38; have H' := Aside0.mk H; clear H; obtain ⟨p4, q4, hx4⟩ := xV a0 x3_1; go_wp2; go_roundg k1
      case measure => exact xO1
      case rel => exact ⟨(wrap64 (x3_1 + 1)), xR, H', ⟨xO1⟩, by repeat (first | exact Drawn0.refl _ | apply Drawn0.step)⟩
     have c38b0 := beq_eq_false_iff_ne.mpr c38; have c38b1 := bne_iff_ne.mpr c38; replace H := xJ H; rcases H with ⟨c39, H⟩ | ⟨c39, H⟩
     ·
      have c39b0 := beq_iff_eq.mpr c39; have c39b1 := bne_eq_false_iff_eq.mpr c39; clear c39; have H' := Aside0.mk H; clear H; obtain ⟨p4, q4, hx4⟩ := xV a0 x3_1; go_wp2; go_roundg k1
      case measure => exact xO1
      case rel => exact ⟨(wrap64 (x3_1 + 1)), xR, H', ⟨xO1⟩, by repeat (first | exact Drawn0.refl _ | apply Drawn0.step)⟩
     have c39b0 := beq_eq_false_iff_ne.mpr c39; have c39b1 := bne_iff_ne.mpr c39; obtain rfl := Option.some.inj H; obtain ⟨p4, q4, hx4⟩ := xV a0 x3_1; go_wp2; go_ret; exact ⟨xR, xG⟩
    replace c35 := decide_eq_false c35; replace H := xJ H; rcases H with ⟨c40, H⟩ | ⟨c40, H⟩
    ·
     have c40b0 := beq_iff_eq.mpr c40; have c40b1 := bne_eq_false_iff_eq.mpr c40; clear c40; have H' := Aside0.mk H; clear H; obtain ⟨p4, q4, hx4⟩ := xV a0 x3_1; go_wp2; go_roundg k1
     case measure => exact xO1
     case rel => exact ⟨(wrap64 (x3_1 + 1)), xR, H', ⟨xO1⟩, by repeat (first | exact Drawn0.refl _ | apply Drawn0.step)⟩
    have c40b0 := beq_eq_false_iff_ne.mpr c40; have c40b1 := bne_iff_ne.mpr c40; replace H := xJ H; rcases H with ⟨c41, H⟩ | ⟨c41, H⟩
    ·
     have c41b0 := beq_iff_eq.mpr c41; have c41b1 := bne_eq_false_iff_eq.mpr c41; clear c41; have H' := Aside0.mk H; clear H; obtain ⟨p4, q4, hx4⟩ := xV a0 x3_1; go_wp2; go_roundg k1
     case measure => exact xO1
     case rel => exact ⟨(wrap64 (x3_1 + 1)), xR, H', ⟨xO1⟩, by repeat (first | exact Drawn0.refl _ | apply Drawn0.step)⟩
    have c41b0 := beq_eq_false_iff_ne.mpr c41; have c41b1 := bne_iff_ne.mpr c41; replace H := xJ H; rcases H with ⟨c42, H⟩ | ⟨c42, H⟩
    ·
     have c42b0 := beq_iff_eq.mpr c42; have c42b1 := bne_eq_false_iff_eq.mpr c42; clear c42; have H' := Aside0.mk H; clear H; obtain ⟨p4, q4, hx4⟩ := xV a0 x3_1; go_wp2; go_roundg k1
     case measure => exact xO1
     case rel => exact ⟨(wrap64 (x3_1 + 1)), xR, H', ⟨xO1⟩, by repeat (first | exact Drawn0.refl _ | apply Drawn0.step)⟩
    have c42b0 := beq_eq_false_iff_ne.mpr c42; have c42b1 := bne_iff_ne.mpr c42; obtain rfl := Option.some.inj H; obtain ⟨p4, q4, hx4⟩ := xV a0 x3_1; go_wp2; go_ret; exact ⟨xR, xG⟩
   replace c2 := decide_eq_false c2; replace H := xJ H; rcases H with ⟨c43, H⟩ | ⟨c43, H⟩
   ·
    have c43b0 := beq_iff_eq.mpr c43; have c43b1 := bne_eq_false_iff_eq.mpr c43; clear c43; obtain rfl := Option.some.inj H; go_wp2; go_ret; exact ⟨xR, xG⟩
   have c43b0 := beq_eq_false_iff_ne.mpr c43; have c43b1 := bne_iff_ne.mpr c43; replace H := xJ H; rcases H with ⟨c44, H⟩ | ⟨c44, H⟩
   ·
    have c44b0 := beq_iff_eq.mpr c44; have c44b1 := bne_eq_false_iff_eq.mpr c44; clear c44; obtain rfl := Option.some.inj H; go_wp2; go_ret; exact ⟨xR, xG⟩
   have c44b0 := beq_eq_false_iff_ne.mpr c44; have c44b1 := bne_iff_ne.mpr c44; obtain rfl := Option.some.inj H; go_wp2; go_ret; exact ⟨xR, xG⟩
end Go.Proofs.YtjdhdjmdmnedfaaGreatDoor.RD
end
