/- The texts RDx5 in one file, without what these claims do not use (put together by prune2.py). -/
import Derived.Test.YtjdhdjmdmnedfaaGreatDoorZP22
import Derived.Test.YtjdhdjmdmnedfaaGreatDoorZP25
section
namespace Go.Proofs.YtjdhdjmdmnedfaaGreatDoor.RD
open Go.RowKit Go.Proofs.YtjdhdjmdmnedfaaGreatDoor Go.Proofs.YtjdhdjmdmnedfaaGreatDoor.K0 Go.Proofs.YtjdhdjmdmnedfaaGreatDoorW.PrintWords Go.Proofs.YtjdhdjmdmnedfaaGreatDoorW.PrintLast Go.Proofs.YtjdhdjmdmnedfaaGreatDoorW.PrintMore
attribute [local go_sem] max2_int min2_int max_two min_two max_three min_three max_four min_four
set_option linter.unusedVariables false
set_option linter.unusedSimpArgs false
def armadaref05_Path.l0 : Nat → List ByteArray → Int → Option (Bool)
 | 0, _, _ => none
 | k + 1, x3, x4 => if x4 < (x3.length : Int) then (if 0 ≤ x4 then ((armadaref05_part.f k (rdOf ByteArray.empty x3 x4)).bind fun t128 => (if t128 = true then (armadaref05_Path.l0 k x3 (wrap64 (x4 + 1))) else (some false))) else (none)) else (some true)
def armadaref05_Path.f (k : Nat) (a0 : ByteArray) : Option (Bool) := if (a0.size : Int) > 60 then (some false) else ((armadaref05_Split.f k a0 47).bind fun t124 => (armadaref05_Path.l0 k t124 0))
set_option maxHeartbeats 8000000 in
set_option maxRecDepth 100000 in
theorem armadaref05_Path.calls (k : Nat) (a0 : ByteArray) (r : Bool) (w : World) (h : armadaref05_Path.f k a0 = some r) :
  Calls Tryz.prog 69 #[.string a0] w fun e w' => e = .returned (.bool r) ∧ Below w.heap.size w w' := by
 have HB := Aside0.mk (Below.refl w.heap.size w); have H : (if (a0.size : Int) > 60 then (some false) else ((armadaref05_Split.f k a0 47).bind fun t124 => (armadaref05_Path.l0 k t124 0))) = some r := h; clear h; replace H := xJ H; rcases H with ⟨c2, H⟩ | ⟨c2, H⟩
 ·
  have c2b0 := decide_eq_true c2; have c2b1 : decide (60 < a0.size) = true := decide_eq_true (by omega); clear c2; obtain rfl := Option.some.inj H; go_enter Tryz.func69, Tryz.ntmps69; go_wp2; go_ret; exact ⟨xW, xB⟩
 have c2b0 := decide_eq_false c2; have c2b1 : decide (60 < a0.size) = false := decide_eq_false (by omega); clear c2; replace H := xb H; obtain ⟨t124, A3, H⟩ := H; have H' := Aside0.mk H; clear H; go_enter Tryz.func69, Tryz.ntmps69; go_wp2_with (first | ((with_reducible refine gate_callee (f := 20) rfl ?_); refine goesL_ (some 9) rfl rfl Tryz.func20 (by kernel_rfl) rfl #[.string a0, .int .u8 47] rfl xS ?_; (with_reducible refine (armadaref05_Split.calls k a0 47 t124 _ A3.out).mono ?_); rintro e w4 ⟨v125, rfl, ho0, hb⟩; refine ⟨_, rfl, ?_⟩; have HO126 := Aside0.mk (Kd.R_lower ho0 (below_size xB)); replace HB := Aside0.mk (below_step xB hb); (try clear hb); (try clear ho0)))
 go_loopg [4] k (fun kq v4 w' => ∃ (x4_1 : Int), v4 = .int .i64 x4_1 ∧ Aside0 (armadaref05_Path.l0 kq t124 x4_1 = some r) ∧ Aside0 (kq ≤ k) ∧ Aside0 (Kd.R Kd.string 9 w' w.heap.size (fun _ => True) v125 t124) ∧ Aside0 (Below w.heap.size w w'))
 case atStart => exact ⟨(0), xR, H', ⟨Nat.le_refl _⟩, ⟨xQ HO126⟩, ⟨xB⟩⟩
 case round =>
  clear H'
  try clear c2
  try clear c2b0
  try clear c2b1
  try clear p2
  obtain ⟨x4_1, rfl, HA, HK1, HO_3, HB⟩ := hrel
  cases gk with
  | zero => exact absurd HA.out (by simp [armadaref05_Path.l0])
  | succ k1 =>
   have H := HA.out; clear HA; simp only [armadaref05_Path.l0] at H; replace H := xJ H; rcases H with ⟨c5, H⟩ | ⟨c5, H⟩
   ·
    replace c5 := decide_eq_true c5; replace H := xI H; obtain ⟨c6, H⟩ := H; replace c6 := decide_eq_true c6; replace H := xb H; obtain ⟨t128, A7, H⟩ := H
    by_cases c8 : t128 = true
    ·
     subst c8; rw [if_pos rfl] at H; have H' := Aside0.mk H; clear H; obtain ⟨Ao9, co9, eo9⟩ := Kd.R_slice HO_3.out; subst eo9; obtain ⟨p127, q127, ad127, e127, hx127_0⟩ := xT (Kd.at_string (Kd.R_reads' HO_3.out).2.2 x4_1)
     cases e127
     go_wp2_with (first | ((with_reducible refine gate_callee (f := 100) rfl ?_); refine goesL_ (some 20) rfl rfl Tryz.func100 (by kernel_rfl) rfl #[.string (rdOf ByteArray.empty t124 x4_1)] rfl xS ?_; (with_reducible refine (armadaref05_part.calls k1 (rdOf ByteArray.empty t124 x4_1) true _ A7.out).mono ?_); rintro e w' ⟨rfl, ⟨nd, rfl⟩⟩; refine ⟨_, rfl, ?_⟩)); go_roundg k1
     case measure => exact xO1
     case rel => exact ⟨(wrap64 (x4_1 + 1)), xR, H', ⟨xO1⟩, ⟨xQ HO_3⟩, ⟨xB⟩⟩
    replace c8 := Bool.eq_false_iff.mpr c8; subst c8; rw [if_neg (show ¬ (false = true) by decide)] at H; obtain rfl := Option.some.inj H; obtain ⟨Ao10, co10, eo10⟩ := Kd.R_slice HO_3.out; subst eo10; obtain ⟨p127, q127, ad127, e127, hx127_0⟩ := xT (Kd.at_string (Kd.R_reads' HO_3.out).2.2 x4_1)
    cases e127
    go_wp2_with (first | ((with_reducible refine gate_callee (f := 100) rfl ?_); refine goesL_ (some 20) rfl rfl Tryz.func100 (by kernel_rfl) rfl #[.string (rdOf ByteArray.empty t124 x4_1)] rfl xS ?_; (with_reducible refine (armadaref05_part.calls k1 (rdOf ByteArray.empty t124 x4_1) false _ A7.out).mono ?_); rintro e w' ⟨rfl, ⟨nd, rfl⟩⟩; refine ⟨_, rfl, ?_⟩)); go_ret; exact ⟨xW, xB⟩
   replace c5 := decide_eq_false c5; obtain rfl := Option.some.inj H; obtain ⟨Ao11, co11, eo11⟩ := Kd.R_slice HO_3.out; subst eo11; go_wp2; go_ret; exact ⟨xW, xB⟩
def armadaref08_tells.l0 : Nat → ByteArray → Int → Option (Bool)
 | 0, _, _ => none
 | k + 1, x0, x3 => if x3 < (x0.size : Int) then (if 0 ≤ x3 then (if (bt x0 x3) < 48 then (some false) else (if (bt x0 x3) > 57 then (some false) else (armadaref08_tells.l0 k x0 (wrap64 (x3 + 1))))) else (none)) else (if (x0.size : Int) > 1 then (if 0 < (x0.size : Int) then (some ((bt x0 0) == 118)) else (none)) else (some false))
def armadaref08_tells.f (k : Nat) (a0 : ByteArray) : Option (Bool) := armadaref08_tells.l0 k a0 1
set_option maxHeartbeats 8000000 in
set_option maxRecDepth 100000 in
theorem armadaref08_tells.calls (k : Nat) (a0 : ByteArray) (r : Bool) (w : World) (h : armadaref08_tells.f k a0 = some r) :
  Calls Tryz.prog 70 #[.string a0] w fun e w' => e = .returned (.bool r) ∧ Drawn0 w w' := by
 have H : (armadaref08_tells.l0 k a0 1) = some r := h; clear h; have H' := Aside0.mk H; clear H; go_enter Tryz.func70, Tryz.ntmps70; go_wp2
 go_loopg [3] k (fun kq v3 w' => ∃ (x3_1 : Int), v3 = .int .i64 x3_1 ∧ Aside0 (armadaref08_tells.l0 kq a0 x3_1 = some r) ∧ Aside0 (kq ≤ k) ∧ Drawn0 w w')
 case atStart => exact ⟨(1), xR, H', ⟨Nat.le_refl _⟩, by repeat (first | exact Drawn0.refl _ | apply Drawn0.step)⟩
 case round =>
  clear H'; obtain ⟨x3_1, rfl, HA, HK1, ⟨m1, rfl⟩⟩ := hrel
  cases gk with
  | zero => exact absurd HA.out (by simp [armadaref08_tells.l0])
  | succ k1 =>
   have H := HA.out; clear HA; simp only [armadaref08_tells.l0] at H; replace H := xJ H; rcases H with ⟨c2, H⟩ | ⟨c2, H⟩
   ·
    have c2b0 := decide_eq_true c2; clear c2; replace H := xI H; obtain ⟨c3, H⟩ := H; have c3b0 := decide_eq_true c3; clear c3; replace H := xJ H; rcases H with ⟨c5, H⟩ | ⟨c5, H⟩
    ·
     replace c5 := decide_eq_true c5; obtain rfl := Option.some.inj H; obtain ⟨p4, q4, hx4⟩ := xV a0 x3_1; go_wp2; go_ret; exact ⟨xR, xG⟩
    replace c5 := decide_eq_false c5; replace H := xJ H; rcases H with ⟨c7, H⟩ | ⟨c7, H⟩
    ·
     replace c7 := decide_eq_true c7; obtain rfl := Option.some.inj H; obtain ⟨p4, q4, hx4⟩ := xV a0 x3_1; obtain ⟨p6, q6, hx6⟩ := xV a0 x3_1; go_wp2; go_ret; exact ⟨xR, xG⟩
    replace c7 := decide_eq_false c7; have H' := Aside0.mk H; clear H; obtain ⟨p4, q4, hx4⟩ := xV a0 x3_1; obtain ⟨p6, q6, hx6⟩ := xV a0 x3_1; go_wp2; go_roundg k1
    case measure => exact xO1
    case rel => exact ⟨(wrap64 (x3_1 + 1)), xR, H', ⟨xO1⟩, by repeat (first | exact Drawn0.refl _ | apply Drawn0.step)⟩
   have c2b0 := decide_eq_false c2; clear c2; replace H := xJ H; rcases H with ⟨c8, H⟩ | ⟨c8, H⟩
   ·
    have c8b0 := decide_eq_true c8; have c8b1 : decide (1 < a0.size) = true := decide_eq_true (by omega); clear c8; replace H := xI H; obtain ⟨c9, H⟩ := H; have c9b0 := decide_eq_true c9; have c9b1 : decide (0 < a0.size) = true := decide_eq_true (by omega); clear c9; obtain rfl := Option.some.inj H; have p10 : 0 ≤ (0 : Int) := (by omega); have q10 : 0 < a0.size := (by have : (0 : Int) < (a0.size : Int) := xD; omega); have hx10 : ∀ h : 0 < a0.size, ((a0[0]'h).toNat : Int) = bt a0 0 := bt_at a0 0; clear p10; have qi10 : (0 < (a0.size : Int)) = True := eq_true (xD); replace q10 := eq_true q10; go_wp2; go_ret; exact ⟨xR, xG⟩
   have c8b0 := decide_eq_false c8; have c8b1 : decide (1 < a0.size) = false := decide_eq_false (by omega); clear c8; obtain rfl := Option.some.inj H; go_wp2; go_ret; exact ⟨xR, xG⟩
mutual
def armadaref08_number.j0 : Nat → ByteArray → Int → Bool → Option (Int)
 | 0, _, _, _ => none
 | k + 1, x0, x3, x12 => if x12 = true then (some 0) else (armadaref08_number.l0 k x0 x3 1)
def armadaref08_number.l0 : Nat → ByteArray → Int → Int → Option (Int)
 | 0, _, _, _ => none
 | k + 1, x0, x3, x4 => if x4 < (x0.size : Int) then (if 0 ≤ x4 then (armadaref08_number.l0 k x0 (wrap64 ((wrap64 ((wrap64 (10 * x3)) + (wrap64 (bt x0 x4)))) - 48)) (wrap64 (x4 + 1))) else (none)) else (if x3 < 2 then (some 0) else (some x3))
end
def armadaref08_number.f (k : Nat) (a0 : ByteArray) : Option (Int) := if (a0.size : Int) > 10 then (armadaref08_number.j0 k a0 0 true) else (if 1 < (a0.size : Int) then (armadaref08_number.j0 k a0 0 ((bt a0 1) == 48)) else (none))
set_option maxHeartbeats 8000000 in
set_option maxRecDepth 100000 in
theorem armadaref08_number.calls (k : Nat) (a0 : ByteArray) (r : Int) (w : World) (h : armadaref08_number.f k a0 = some r) :
  Calls Tryz.prog 71 #[.string a0] w fun e w' => e = .returned (.int .i64 r) ∧ Drawn0 w w' := by
 have H : (if (a0.size : Int) > 10 then (armadaref08_number.j0 k a0 0 true) else (if 1 < (a0.size : Int) then (armadaref08_number.j0 k a0 0 ((bt a0 1) == 48)) else (none))) = some r := h; clear h; have HC2 := Aside0.mk H; clear H; go_enter Tryz.func71, Tryz.ntmps71; go_upto_region 2 with (fail)
 go_cut [12] (fun v12 wc => ∃ (kq : Nat) (x12_1 : Bool), v12 = .bool x12_1 ∧ Aside0 (armadaref08_number.j0 kq a0 0 x12_1 = some r) ∧ Aside0 (kq ≤ k) ∧ Drawn0 w wc)
 case first =>
  have H := HC2.out; clear HC2; replace H := xJ H; rcases H with ⟨c3, H⟩ | ⟨c3, H⟩
  ·
   have c3b0 := decide_eq_true c3; have c3b1 : decide (10 < a0.size) = true := decide_eq_true (by omega); clear c3
   (first | rw [c3b0] | (simp only [i64_w, i32_w]; rw [c3b0]) | skip)
   have H' := Aside0.mk H; clear H; go_wp2; go_meet
   case rel => exact ⟨_, (true), xR, H', ⟨by first | omega | exact Nat.le_refl _⟩, by repeat (first | exact Drawn0.refl _ | apply Drawn0.step)⟩
  have c3b0 := decide_eq_false c3; have c3b1 : decide (10 < a0.size) = false := decide_eq_false (by omega); clear c3
  (first | rw [c3b0] | (simp only [i64_w, i32_w]; rw [c3b0]) | skip)
  replace H := xI H; obtain ⟨c4, H⟩ := H; have c4b0 := decide_eq_true c4; have c4b1 : decide (1 < a0.size) = true := decide_eq_true (by omega); clear c4; have H' := Aside0.mk H; clear H; have p5 : 0 ≤ (1 : Int) := (by omega); have q5 : 1 < a0.size := (by have : (1 : Int) < (a0.size : Int) := xD; omega); have hx5 : ∀ h : 1 < a0.size, ((a0[1]'h).toNat : Int) = bt a0 1 := bt_at a0 1; clear p5; have qi5 : (1 < (a0.size : Int)) = True := eq_true (xD); replace q5 := eq_true q5; go_wp2; go_meet
  case rel => exact ⟨_, (((bt a0 1) == 48)), xR, H', ⟨by first | omega | exact Nat.le_refl _⟩, by repeat (first | exact Drawn0.refl _ | apply Drawn0.step)⟩
 case rest =>
  clear HC2
  try clear p2
  try clear c3
  try clear c3b0
  try clear c3b1
  try clear c4
  try clear c4b0
  try clear c4b1
  try clear p5
  try clear q5
  try clear hx5
  try clear qi5
  try clear p5
  try clear q5
  obtain ⟨kq, x12_1, rfl, HA, HJ1, ⟨mc1, rfl⟩⟩ := hcut
  cases kq with
  | zero => exact absurd HA.out (by simp [armadaref08_number.j0])
  | succ kj1 =>
   have H := HA.out; clear HA; simp only [armadaref08_number.j0] at H
   by_cases c6 : x12_1 = true
   ·
    subst c6; rw [if_pos rfl] at H; obtain rfl := Option.some.inj H; go_wp2; go_ret; exact ⟨xR, xG⟩
   replace c6 := Bool.eq_false_iff.mpr c6; subst c6; rw [if_neg (show ¬ (false = true) by decide)] at H; have H' := Aside0.mk H; clear H; go_wp2
   go_loopg [3, 4] kj1 (fun kq v3 v4 w' => ∃ (x3_2 : Int) (x4_2 : Int), v3 = .int .i64 x3_2 ∧ v4 = .int .i64 x4_2 ∧ Aside0 (armadaref08_number.l0 kq a0 x3_2 x4_2 = some r) ∧ Aside0 (kq ≤ kj1) ∧ Drawn0 w w')
   case atStart => exact ⟨(0), (1), xR, xR, H', ⟨Nat.le_refl _⟩, by repeat (first | exact Drawn0.refl _ | apply Drawn0.step)⟩
   case round =>
    clear H'
    try clear c1
    try clear p2
    try clear c3
    try clear c3b0
    try clear c3b1
    try clear c4
    try clear c4b0
    try clear c4b1
    try clear p5
    try clear q5
    try clear hx5
    try clear qi5
    try clear c6
    try clear p2
    try clear p5
    try clear q5
    obtain ⟨x3_2, x4_2, rfl, rfl, HA, HK2, ⟨m2, rfl⟩⟩ := hrel
    cases gk with
    | zero => exact absurd HA.out (by simp [armadaref08_number.l0])
    | succ k2 =>
     have H := HA.out; clear HA; simp only [armadaref08_number.l0] at H; replace H := xJ H; rcases H with ⟨c7, H⟩ | ⟨c7, H⟩
     ·
      replace c7 := decide_eq_true c7; replace H := xI H; obtain ⟨c8, H⟩ := H; replace c8 := decide_eq_true c8; have H' := Aside0.mk H; clear H; obtain ⟨p9, q9, hx9⟩ := xV a0 x4_2; go_wp2; go_roundg k2
      case measure => have := HJ1.out; have := HK2.out; omega
      case rel => exact ⟨(wrap64 ((wrap64 ((wrap64 (10 * x3_2)) + (wrap64 (bt a0 x4_2)))) - 48)), (wrap64 (x4_2 + 1)), xR, xR, H', ⟨by have := HJ1.out; have := HK2.out; omega⟩, by repeat (first | exact Drawn0.refl _ | apply Drawn0.step)⟩
     replace c7 := decide_eq_false c7; replace H := xJ H; rcases H with ⟨c10, H⟩ | ⟨c10, H⟩
     ·
      replace c10 := decide_eq_true c10; obtain rfl := Option.some.inj H; go_wp2; go_ret; exact ⟨xR, xG⟩
     replace c10 := decide_eq_false c10; obtain rfl := Option.some.inj H; go_wp2; go_ret; exact ⟨xR, xG⟩
def armadaref08_Check.l0 : Nat → List ByteArray → Int → Option (Bool)
 | 0, _, _ => none
 | k + 1, x3, x4 => if x4 < (x3.length : Int) then (if 0 ≤ x4 then ((armadaref08_tells.f k (rdOf ByteArray.empty x3 x4)).bind fun t134 => (if t134 = true then (if x4 < (wrap64 ((x3.length : Int) - 1)) then (some false) else (if x4 = 0 then (some false) else ((armadaref08_number.f k (rdOf ByteArray.empty x3 x4)).bind fun t136 => (if t136 = 0 then (some false) else (armadaref08_Check.l0 k x3 (wrap64 (x4 + 1))))))) else (armadaref08_Check.l0 k x3 (wrap64 (x4 + 1))))) else (none)) else (some true)
def armadaref08_Check.f (k : Nat) (a0 : ByteArray) : Option (Bool) := (armadaref05_Path.f k a0).bind fun t129 => (if t129 = true then ((armadaref05_Split.f k a0 47).bind fun t130 => (armadaref08_Check.l0 k t130 0)) else (some false))
set_option maxHeartbeats 8000000 in
set_option maxRecDepth 100000 in
theorem armadaref08_Check.calls (k : Nat) (a0 : ByteArray) (r : Bool) (w : World) (h : armadaref08_Check.f k a0 = some r) :
  Calls Tryz.prog 41 #[.string a0] w fun e w' => e = .returned (.bool r) ∧ Below w.heap.size w w' := by
 have HB := Aside0.mk (Below.refl w.heap.size w); have H : ((armadaref05_Path.f k a0).bind fun t129 => (if t129 = true then ((armadaref05_Split.f k a0 47).bind fun t130 => (armadaref08_Check.l0 k t130 0)) else (some false))) = some r := h; clear h; replace H := xb H; obtain ⟨t129, A2, H⟩ := H
 by_cases c3 : t129 = true
 ·
  subst c3; rw [if_pos rfl] at H; replace H := xb H; obtain ⟨t130, A4, H⟩ := H; have H' := Aside0.mk H; clear H; go_enter Tryz.func41, Tryz.ntmps41; go_wp2_with (first | ((with_reducible refine gate_callee (f := 69) rfl ?_); refine goesL_ (some 6) rfl rfl Tryz.func69 (by kernel_rfl) rfl #[.string a0] rfl xS ?_; (with_reducible refine (armadaref05_Path.calls k a0 true _ A2.out).mono ?_); rintro e w5 ⟨rfl, hb⟩; refine ⟨_, rfl, ?_⟩; replace HB := Aside0.mk (below_step xB hb); (try clear hb)) | ((with_reducible refine gate_callee (f := 20) rfl ?_); refine goesL_ (some 9) rfl rfl Tryz.func20 (by kernel_rfl) rfl #[.string a0, .int .u8 47] rfl xS ?_; (with_reducible refine (armadaref05_Split.calls k a0 47 t130 _ A4.out).mono ?_); rintro e w6 ⟨v131, rfl, ho0, hb⟩; refine ⟨_, rfl, ?_⟩; have HO132 := Aside0.mk (Kd.R_lower ho0 (below_size xB)); replace HB := Aside0.mk (below_step xB hb); (try clear hb); (try clear ho0)))
  go_loopg [4] k (fun kq v4 w' => ∃ (x4_1 : Int), v4 = .int .i64 x4_1 ∧ Aside0 (armadaref08_Check.l0 kq t130 x4_1 = some r) ∧ Aside0 (kq ≤ k) ∧ Aside0 (Kd.R Kd.string 9 w' w.heap.size (fun _ => True) v131 t130) ∧ Aside0 (Below w.heap.size w w'))
  case atStart => exact ⟨(0), xR, H', ⟨Nat.le_refl _⟩, ⟨xQ HO132⟩, ⟨xB⟩⟩
  case round =>
   clear H'
   try clear c2
   try clear p2
   try clear c3
   try clear c4
   try clear c6
   obtain ⟨x4_1, rfl, HA, HK1, HO_3, HB⟩ := hrel
   cases gk with
   | zero => exact absurd HA.out (by simp [armadaref08_Check.l0])
   | succ k1 =>
    have H := HA.out; clear HA; simp only [armadaref08_Check.l0] at H; replace H := xJ H; rcases H with ⟨c7, H⟩ | ⟨c7, H⟩
    ·
     replace c7 := decide_eq_true c7; replace H := xI H; obtain ⟨c8, H⟩ := H; replace c8 := decide_eq_true c8; replace H := xb H; obtain ⟨t134, A9, H⟩ := H
     by_cases c10 : t134 = true
     ·
      subst c10; rw [if_pos rfl] at H; replace H := xJ H; rcases H with ⟨c11, H⟩ | ⟨c11, H⟩
      ·
       replace c11 := decide_eq_true c11; obtain rfl := Option.some.inj H; obtain ⟨Ao12, co12, eo12⟩ := Kd.R_slice HO_3.out; subst eo12; obtain ⟨p133, q133, ad133, e133, hx133_0⟩ := xT (Kd.at_string (Kd.R_reads' HO_3.out).2.2 x4_1)
       cases e133
       go_wp2_with (first | ((with_reducible refine gate_callee (f := 70) rfl ?_); refine goesL_ (some 20) rfl rfl Tryz.func70 (by kernel_rfl) rfl #[.string (rdOf ByteArray.empty t130 x4_1)] rfl xS ?_; (with_reducible refine (armadaref08_tells.calls k1 (rdOf ByteArray.empty t130 x4_1) true _ A9.out).mono ?_); rintro e w' ⟨rfl, ⟨nd, rfl⟩⟩; refine ⟨_, rfl, ?_⟩)); go_ret; exact ⟨xW, xB⟩
      replace c11 := decide_eq_false c11; replace H := xJ H; rcases H with ⟨c13, H⟩ | ⟨c13, H⟩
      ·
       have c13b0 := beq_iff_eq.mpr c13; have c13b1 := bne_eq_false_iff_eq.mpr c13; clear c13; obtain rfl := Option.some.inj H; obtain ⟨Ao14, co14, eo14⟩ := Kd.R_slice HO_3.out; subst eo14; obtain ⟨p133, q133, ad133, e133, hx133_0⟩ := xT (Kd.at_string (Kd.R_reads' HO_3.out).2.2 x4_1)
       cases e133
       go_wp2_with (first | ((with_reducible refine gate_callee (f := 70) rfl ?_); refine goesL_ (some 20) rfl rfl Tryz.func70 (by kernel_rfl) rfl #[.string (rdOf ByteArray.empty t130 x4_1)] rfl xS ?_; (with_reducible refine (armadaref08_tells.calls k1 (rdOf ByteArray.empty t130 x4_1) true _ A9.out).mono ?_); rintro e w' ⟨rfl, ⟨nd, rfl⟩⟩; refine ⟨_, rfl, ?_⟩)); go_ret; exact ⟨xW, xB⟩
      have c13b0 := beq_eq_false_iff_ne.mpr c13; have c13b1 := bne_iff_ne.mpr c13; replace H := xb H; obtain ⟨t136, A15, H⟩ := H; replace H := xJ H; rcases H with ⟨c16, H⟩ | ⟨c16, H⟩
      ·
       have c16b0 := beq_iff_eq.mpr c16; have c16b1 := bne_eq_false_iff_eq.mpr c16; clear c16; obtain rfl := Option.some.inj H; obtain ⟨Ao17, co17, eo17⟩ := Kd.R_slice HO_3.out; subst eo17; obtain ⟨p133, q133, ad133, e133, hx133_0⟩ := xT (Kd.at_string (Kd.R_reads' HO_3.out).2.2 x4_1)
       cases e133
       go_wp2_with (first | ((with_reducible refine gate_callee (f := 70) rfl ?_); refine goesL_ (some 20) rfl rfl Tryz.func70 (by kernel_rfl) rfl #[.string (rdOf ByteArray.empty t130 x4_1)] rfl xS ?_; (with_reducible refine (armadaref08_tells.calls k1 (rdOf ByteArray.empty t130 x4_1) true _ A9.out).mono ?_); rintro e w' ⟨rfl, ⟨nd, rfl⟩⟩; refine ⟨_, rfl, ?_⟩; obtain ⟨p135, q135, ad135, e135, hx135_0⟩ := xT (Kd.at_string (Kd.R_reads' HO_3.out).2.2 x4_1); obtain rfl := xE e135) | (go_at_call 71; (with_reducible refine (armadaref08_number.calls k1 (rdOf ByteArray.empty t130 x4_1) t136 _ A15.out).mono ?_); rintro e w' ⟨rfl, ⟨nd, rfl⟩⟩)); go_ret; exact ⟨xW, xB⟩
      have c16b0 := beq_eq_false_iff_ne.mpr c16; have c16b1 := bne_iff_ne.mpr c16; have H' := Aside0.mk H; clear H; obtain ⟨Ao18, co18, eo18⟩ := Kd.R_slice HO_3.out; subst eo18; obtain ⟨p133, q133, ad133, e133, hx133_0⟩ := xT (Kd.at_string (Kd.R_reads' HO_3.out).2.2 x4_1)
      cases e133
      go_wp2_with (first | ((with_reducible refine gate_callee (f := 70) rfl ?_); refine goesL_ (some 20) rfl rfl Tryz.func70 (by kernel_rfl) rfl #[.string (rdOf ByteArray.empty t130 x4_1)] rfl xS ?_; (with_reducible refine (armadaref08_tells.calls k1 (rdOf ByteArray.empty t130 x4_1) true _ A9.out).mono ?_); rintro e w' ⟨rfl, ⟨nd, rfl⟩⟩; refine ⟨_, rfl, ?_⟩; obtain ⟨p135, q135, ad135, e135, hx135_0⟩ := xT (Kd.at_string (Kd.R_reads' HO_3.out).2.2 x4_1); obtain rfl := xE e135) | (go_at_call 71; (with_reducible refine (armadaref08_number.calls k1 (rdOf ByteArray.empty t130 x4_1) t136 _ A15.out).mono ?_); rintro e w' ⟨rfl, ⟨nd, rfl⟩⟩)); go_roundg k1
      case measure => exact xO1
      case rel => exact ⟨(wrap64 (x4_1 + 1)), xR, H', ⟨xO1⟩, ⟨xQ HO_3⟩, ⟨xB⟩⟩
     replace c10 := Bool.eq_false_iff.mpr c10; subst c10; rw [if_neg (show ¬ (false = true) by decide)] at H; have H' := Aside0.mk H; clear H; obtain ⟨Ao19, co19, eo19⟩ := Kd.R_slice HO_3.out; subst eo19; obtain ⟨p133, q133, ad133, e133, hx133_0⟩ := xT (Kd.at_string (Kd.R_reads' HO_3.out).2.2 x4_1)
     cases e133
     go_wp2_with (first | ((with_reducible refine gate_callee (f := 70) rfl ?_); refine goesL_ (some 20) rfl rfl Tryz.func70 (by kernel_rfl) rfl #[.string (rdOf ByteArray.empty t130 x4_1)] rfl xS ?_; (with_reducible refine (armadaref08_tells.calls k1 (rdOf ByteArray.empty t130 x4_1) false _ A9.out).mono ?_); rintro e w' ⟨rfl, ⟨nd, rfl⟩⟩; refine ⟨_, rfl, ?_⟩)); go_roundg k1
     case measure => exact xO1
     case rel => exact ⟨(wrap64 (x4_1 + 1)), xR, H', ⟨xO1⟩, ⟨xQ HO_3⟩, ⟨xB⟩⟩
    replace c7 := decide_eq_false c7; obtain rfl := Option.some.inj H; obtain ⟨Ao20, co20, eo20⟩ := Kd.R_slice HO_3.out; subst eo20; go_wp2; go_ret; exact ⟨xW, xB⟩
 replace c3 := Bool.eq_false_iff.mpr c3; subst c3; rw [if_neg (show ¬ (false = true) by decide)] at H; obtain rfl := Option.some.inj H; go_enter Tryz.func41, Tryz.ntmps41; go_wp2_with (first | ((with_reducible refine gate_callee (f := 69) rfl ?_); refine goesL_ (some 6) rfl rfl Tryz.func69 (by kernel_rfl) rfl #[.string a0] rfl xS ?_; (with_reducible refine (armadaref05_Path.calls k a0 false _ A2.out).mono ?_); rintro e w21 ⟨rfl, hb⟩; refine ⟨_, rfl, ?_⟩; replace HB := Aside0.mk (below_step xB hb); (try clear hb))); go_ret; exact ⟨xW, xB⟩
def armadaref08_Base.l0 : Nat → ByteArray → Int → Option (ByteArray)
 | 0, _, _ => none
 | k + 1, x0, x3 => if x3 ≥ 0 then (if 0 ≤ x3 then (if x3 < (x0.size : Int) then (if (bt x0 x3) = 47 then (if x3 ≤ (x0.size : Int) then (some (x0.extract 0 (x3 : Int).toNat)) else (none)) else (armadaref08_Base.l0 k x0 (wrap64 (x3 - 1)))) else (none)) else (none)) else (some (⟨#[]⟩ : ByteArray))
def armadaref08_Base.f (k : Nat) (a0 : ByteArray) : Option (ByteArray) := armadaref08_Base.l0 k a0 (wrap64 ((a0.size : Int) - 1))
set_option maxHeartbeats 8000000 in
set_option maxRecDepth 100000 in
theorem armadaref08_Base.calls (k : Nat) (a0 : ByteArray) (r : ByteArray) (w : World) (h : armadaref08_Base.f k a0 = some r) :
  Calls Tryz.prog 101 #[.string a0] w fun e w' => e = .returned (.string r) ∧ Drawn0 w w' := by
 have H : (armadaref08_Base.l0 k a0 (wrap64 ((a0.size : Int) - 1))) = some r := h; clear h; have H' := Aside0.mk H; clear H; go_enter Tryz.func101, Tryz.ntmps101; go_wp2
 go_loopg [3] k (fun kq v3 w' => ∃ (x3_1 : Int), v3 = .int .i64 x3_1 ∧ Aside0 (armadaref08_Base.l0 kq a0 x3_1 = some r) ∧ Aside0 (kq ≤ k) ∧ Drawn0 w w')
 case atStart => exact ⟨(wrap64 ((a0.size : Int) - 1)), xR, H', ⟨Nat.le_refl _⟩, by repeat (first | exact Drawn0.refl _ | apply Drawn0.step)⟩
 case round =>
  clear H'
  try clear c1
  obtain ⟨x3_1, rfl, HA, HK1, ⟨m1, rfl⟩⟩ := hrel
  cases gk with
  | zero => exact absurd HA.out (by simp [armadaref08_Base.l0])
  | succ k1 =>
   have H := HA.out; clear HA; simp only [armadaref08_Base.l0] at H; replace H := xJ H; rcases H with ⟨c2, H⟩ | ⟨c2, H⟩
   ·
    have c2b0 := decide_eq_true c2; clear c2; replace H := xI H; obtain ⟨c3, H⟩ := H; have c3b0 := decide_eq_true c3; clear c3; replace H := xI H; obtain ⟨c4, H⟩ := H; have c4b0 := decide_eq_true c4; clear c4; replace H := xJ H; rcases H with ⟨c6, H⟩ | ⟨c6, H⟩
    ·
     have c6b0 := beq_iff_eq.mpr c6; have c6b1 := bne_eq_false_iff_eq.mpr c6; clear c6; have c7b0 := eq_true (xD : 0 ≤ x3_1); replace H := xI H; obtain ⟨c8, H⟩ := H; have c8b0 := eq_true c8; have c8b1 := decide_eq_true c8; clear c8; obtain rfl := Option.some.inj H; obtain ⟨p5, q5, hx5⟩ := xV a0 x3_1; go_wp2; go_ret; exact ⟨xR, xG⟩
    have c6b0 := beq_eq_false_iff_ne.mpr c6; have c6b1 := bne_iff_ne.mpr c6; have H' := Aside0.mk H; clear H; obtain ⟨p5, q5, hx5⟩ := xV a0 x3_1; go_wp2; go_roundg k1
    case measure => exact xO1
    case rel => exact ⟨(wrap64 (x3_1 - 1)), xR, H', ⟨xO1⟩, by repeat (first | exact Drawn0.refl _ | apply Drawn0.step)⟩
   have c2b0 := decide_eq_false c2; clear c2; obtain rfl := Option.some.inj H; go_wp2; go_ret; exact ⟨xR, xG⟩
end Go.Proofs.YtjdhdjmdmnedfaaGreatDoor.RD
end
