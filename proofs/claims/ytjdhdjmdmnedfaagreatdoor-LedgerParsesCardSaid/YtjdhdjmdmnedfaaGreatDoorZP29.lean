/- The texts RDx8 in one file, without what these claims do not use (put together by prune2.py). -/
import Derived.Test.YtjdhdjmdmnedfaaGreatDoorZP22
import Derived.Test.YtjdhdjmdmnedfaaGreatDoorZP4
import Derived.Laws.Cover1
import Derived.Test.YtjdhdjmdmnedfaaGreatDoorZP28
section
namespace Go.Proofs.YtjdhdjmdmnedfaaGreatDoor.RD
open Go.RowKit Go.Proofs.YtjdhdjmdmnedfaaGreatDoor Go.Proofs.YtjdhdjmdmnedfaaGreatDoor.K0 Go.Proofs.YtjdhdjmdmnedfaaGreatDoorW.PrintWords Go.Proofs.YtjdhdjmdmnedfaaGreatDoorW.PrintLast Go.Proofs.YtjdhdjmdmnedfaaGreatDoorW.PrintMore
attribute [local go_sem] max2_int min2_int max_two min_two max_three min_three max_four min_four
set_option linter.unusedVariables false
set_option linter.unusedSimpArgs false
def armadaref14_IsHash.f (k : Nat) (a0 : ByteArray) : Option (Bool) := if (a0.size : Int) < 3 then (some false) else (if 0 ≤ 3 then (if 3 ≤ (a0.size : Int) then (if (a0.extract 0 3).toList = ([104, 49, 58] : List UInt8) then ((armadaref13_Decode.f k (a0.extract 3 a0.size)).bind fun bt168 => (if bt168.2 = true then (some ((bt168.1.size : Int) == 32)) else (some false))) else (some false)) else (none)) else (none))
set_option maxHeartbeats 8000000 in
set_option maxRecDepth 100000 in
theorem armadaref14_IsHash.calls (k : Nat) (a0 : ByteArray) (r : Bool) (w : World) (h : armadaref14_IsHash.f k a0 = some r) :
  Calls Tryz.prog 44 #[.string a0] w fun e w' => e = .returned (.bool r) ∧ Below w.heap.size w w' := by
 have HB := Aside0.mk (Below.refl w.heap.size w); have H : (if (a0.size : Int) < 3 then (some false) else (if 0 ≤ 3 then (if 3 ≤ (a0.size : Int) then (if (a0.extract 0 3).toList = ([104, 49, 58] : List UInt8) then ((armadaref13_Decode.f k (a0.extract 3 a0.size)).bind fun bt168 => (if bt168.2 = true then (some ((bt168.1.size : Int) == 32)) else (some false))) else (some false)) else (none)) else (none))) = some r := h; clear h; replace H := xJ H; rcases H with ⟨c2, H⟩ | ⟨c2, H⟩
 ·
  have c2b0 := decide_eq_true c2; have c2b1 : decide (a0.size < 3) = true := decide_eq_true (by omega); clear c2; obtain rfl := Option.some.inj H; go_enter Tryz.func44, Tryz.ntmps44; go_wp2; go_ret; exact ⟨xW, xB⟩
 have c2b0 := decide_eq_false c2; have c2b1 : decide (a0.size < 3) = false := decide_eq_false (by omega); clear c2; replace H := xI H; obtain ⟨c3, H⟩ := H; have c3b0 := eq_true c3; have c3b1 := decide_eq_true c3; clear c3; replace H := xI H; obtain ⟨c4, H⟩ := H; have c4b0 := eq_true c4; have c4b1 := decide_eq_true c4; clear c4; replace H := xJ H; rcases H with ⟨c5, H⟩ | ⟨c5, H⟩
 ·
  have c5b0 := beq_iff_eq.mpr c5; have c5b1 := bne_eq_false_iff_eq.mpr c5; clear c5; have c6b0 := eq_true (xD : 3 ≤ (a0.size : Int)); replace H := Option.bind_eq_some_iff.mp H; obtain ⟨⟨t168, t169⟩, A70, H⟩ := H; replace H : (if t169 = true then (some ((t168.size : Int) == 32)) else (some false)) = some r := H; have A7 := Aside0.mk A70; clear A70
  by_cases c8 : t169 = true
  ·
   subst c8; rw [if_pos rfl] at H; obtain rfl := Option.some.inj H; go_enter Tryz.func44, Tryz.ntmps44; go_wp2_with (first | ((with_reducible refine gate_callee (f := 75) rfl ?_); refine goesL_ (some 16) rfl rfl Tryz.func75 (by kernel_rfl) rfl #[.string (a0.extract 3 a0.size)] rfl xS ?_; (with_reducible refine (armadaref13_Decode.calls k (a0.extract 3 a0.size) t168 true _ A7.out).mono ?_); rintro e w9 ⟨rfl, hb⟩; refine ⟨_, rfl, ?_⟩; replace HB := Aside0.mk (below_step xB hb); (try clear hb))); go_ret; exact ⟨xW, xB⟩
  replace c8 := Bool.eq_false_iff.mpr c8; subst c8; rw [if_neg (show ¬ (false = true) by decide)] at H; obtain rfl := Option.some.inj H; go_enter Tryz.func44, Tryz.ntmps44; go_wp2_with (first | ((with_reducible refine gate_callee (f := 75) rfl ?_); refine goesL_ (some 16) rfl rfl Tryz.func75 (by kernel_rfl) rfl #[.string (a0.extract 3 a0.size)] rfl xS ?_; (with_reducible refine (armadaref13_Decode.calls k (a0.extract 3 a0.size) t168 false _ A7.out).mono ?_); rintro e w10 ⟨rfl, hb⟩; refine ⟨_, rfl, ?_⟩; replace HB := Aside0.mk (below_step xB hb); (try clear hb))); go_ret; exact ⟨xW, xB⟩
 have c5b0 := beq_eq_false_iff_ne.mpr c5; have c5b1 := bne_iff_ne.mpr c5; obtain rfl := Option.some.inj H; go_enter Tryz.func44, Tryz.ntmps44; go_wp2; go_ret; exact ⟨xW, xB⟩
def armadaref07_order.f (a0 : Int) (a1 : Int) : Option (Int) := if a0 < a1 then (some (-1)) else (if a0 > a1 then (some 1) else (some 0))
set_option maxHeartbeats 8000000 in
set_option maxRecDepth 100000 in
theorem armadaref07_order.calls (a0 : Int) (a1 : Int) (r : Int) (w : World) (h : armadaref07_order.f a0 a1 = some r) :
  Calls Tryz.prog 49 #[.int .i64 a0, .int .i64 a1] w fun e w' => e = .returned (.int .i64 r) ∧ Drawn0 w w' := by
 have H : (if a0 < a1 then (some (-1)) else (if a0 > a1 then (some 1) else (some 0))) = some r := h; clear h; replace H := xJ H; rcases H with ⟨c3, H⟩ | ⟨c3, H⟩
 ·
  replace c3 := decide_eq_true c3; obtain rfl := Option.some.inj H; go_enter Tryz.func49, Tryz.ntmps49; go_wp2; go_ret; exact ⟨xR, xG⟩
 replace c3 := decide_eq_false c3; replace H := xJ H; rcases H with ⟨c4, H⟩ | ⟨c4, H⟩
 ·
  have c4b0 := decide_eq_true c4; clear c4; obtain rfl := Option.some.inj H; go_enter Tryz.func49, Tryz.ntmps49; go_wp2; go_ret; exact ⟨xR, xG⟩
 have c4b0 := decide_eq_false c4; clear c4; obtain rfl := Option.some.inj H; go_enter Tryz.func49, Tryz.ntmps49; go_wp2; go_ret; exact ⟨xR, xG⟩
def armadaref07_one.f (a0 : Bool) : Option (Int) := if a0 = true then (some 1) else (some 0)
set_option maxHeartbeats 8000000 in
set_option maxRecDepth 100000 in
theorem armadaref07_one.calls (a0 : Bool) (r : Int) (w : World) (h : armadaref07_one.f a0 = some r) :
  Calls Tryz.prog 79 #[.bool a0] w fun e w' => e = .returned (.int .i64 r) ∧ Drawn0 w w' := by
 have H : (if a0 = true then (some 1) else (some 0)) = some r := h; clear h
 by_cases c2 : a0 = true
 ·
  subst c2; rw [if_pos rfl] at H; obtain rfl := Option.some.inj H; go_enter Tryz.func79, Tryz.ntmps79; go_wp2; go_ret; exact ⟨xR, xG⟩
 replace c2 := Bool.eq_false_iff.mpr c2; subst c2; rw [if_neg (show ¬ (false = true) by decide)] at H; obtain rfl := Option.some.inj H; go_enter Tryz.func79, Tryz.ntmps79; go_wp2; go_ret; exact ⟨xR, xG⟩
mutual
def armadaref07_words.j0 : Nat → ByteArray → ByteArray → Bool → Bool → Bool → Option (Int)
 | 0, _, _, _, _, _ => none
 | k + 1, x0, x1, x5, x6, x21 => if x21 = true then ((armadaref07_order.f (x0.size : Int) (x1.size : Int)).bind fun t172 => (some t172)) else (if x5 = true then (armadaref07_words.j1 k x0 x1 x5 x6 (!x6)) else (armadaref07_words.j1 k x0 x1 x5 x6 false))
def armadaref07_words.j1 : Nat → ByteArray → ByteArray → Bool → Bool → Bool → Option (Int)
 | 0, _, _, _, _, _ => none
 | k + 1, x0, x1, x5, x6, x31 => if x31 = true then (some (-1)) else (if x6 = true then (armadaref07_words.j2 k x0 x1 (!x5)) else (armadaref07_words.j2 k x0 x1 false))
def armadaref07_words.j2 : Nat → ByteArray → ByteArray → Bool → Option (Int)
 | 0, _, _, _ => none
 | k + 1, x0, x1, x36 => if x36 = true then (some 1) else (if (Op.bytesLess x0.toList x1.toList) = true then (some (-1)) else (if (Op.bytesLess x1.toList x0.toList) = true then (some 1) else (some 0)))
end
def armadaref07_words.f (k : Nat) (a0 : ByteArray) (a1 : ByteArray) : Option (Int) := (armadaref07_digits.f k a0).bind fun t170 => ((armadaref07_digits.f k a1).bind fun t171 => (if t170 = true then (if t171 = true then (armadaref07_words.j0 k a0 a1 t170 t171 ((a0.size : Int) != (a1.size : Int))) else (armadaref07_words.j0 k a0 a1 t170 t171 false)) else (armadaref07_words.j0 k a0 a1 t170 t171 false)))
set_option maxHeartbeats 8000000 in
set_option maxRecDepth 100000 in
theorem armadaref07_words.calls (k : Nat) (a0 : ByteArray) (a1 : ByteArray) (r : Int) (w : World) (h : armadaref07_words.f k a0 a1 = some r) :
  Calls Tryz.prog 80 #[.string a0, .string a1] w fun e w' => e = .returned (.int .i64 r) ∧ Drawn0 w w' := by
 have H : ((armadaref07_digits.f k a0).bind fun t170 => ((armadaref07_digits.f k a1).bind fun t171 => (if t170 = true then (if t171 = true then (armadaref07_words.j0 k a0 a1 t170 t171 ((a0.size : Int) != (a1.size : Int))) else (armadaref07_words.j0 k a0 a1 t170 t171 false)) else (armadaref07_words.j0 k a0 a1 t170 t171 false)))) = some r := h; clear h; replace H := xb H; obtain ⟨t170, A3, H⟩ := H; replace H := xb H; obtain ⟨t171, A4, H⟩ := H; have HC5 := Aside0.mk H; clear H; go_enter Tryz.func80, Tryz.ntmps80; go_upto_region 3 with (first | ((with_reducible refine gate_callee (f := 67) rfl ?_); refine goesL_ (some 8) rfl rfl Tryz.func67 (by kernel_rfl) rfl #[.string a0] rfl xS ?_; (with_reducible refine (armadaref07_digits.calls k a0 t170 _ A3.out).mono ?_); rintro e w' ⟨rfl, ⟨nd, rfl⟩⟩; refine ⟨_, rfl, ?_⟩) | ((with_reducible refine gate_callee (f := 67) rfl ?_); refine goesL_ (some 10) rfl rfl Tryz.func67 (by kernel_rfl) rfl #[.string a1] rfl xS ?_; (with_reducible refine (armadaref07_digits.calls k a1 t171 _ A4.out).mono ?_); rintro e w' ⟨rfl, ⟨nd, rfl⟩⟩; refine ⟨_, rfl, ?_⟩))
 (try simp only [Act.put, z1, z2, z3])
 go_cut [21] (fun v21 wc => ∃ (kq : Nat) (x21_4 : Bool), v21 = .bool x21_4 ∧ Aside0 (armadaref07_words.j0 kq a0 a1 t170 t171 x21_4 = some r) ∧ Aside0 (kq ≤ k) ∧ Drawn0 w wc)
 case first =>
  have H := HC5.out; clear HC5
  by_cases c6 : t170 = true
  ·
   subst c6; rw [if_pos rfl] at H
   by_cases c7 : t171 = true
   ·
    subst c7; rw [if_pos rfl] at H; have H' := Aside0.mk H; clear H; go_wp2; go_meet
    case rel => exact ⟨_, (((a0.size : Int) != (a1.size : Int))), xR, H', ⟨by first | omega | exact Nat.le_refl _⟩, by repeat (first | exact Drawn0.refl _ | apply Drawn0.step)⟩
   replace c7 := Bool.eq_false_iff.mpr c7; subst c7; rw [if_neg (show ¬ (false = true) by decide)] at H; have H' := Aside0.mk H; clear H; go_wp2; go_meet
   case rel => exact ⟨_, (false), xR, H', ⟨by first | omega | exact Nat.le_refl _⟩, by repeat (first | exact Drawn0.refl _ | apply Drawn0.step)⟩
  replace c6 := Bool.eq_false_iff.mpr c6; subst c6; rw [if_neg (show ¬ (false = true) by decide)] at H; have H' := Aside0.mk H; clear H; go_wp2; go_meet
  case rel => exact ⟨_, (false), xR, H', ⟨by first | omega | exact Nat.le_refl _⟩, by repeat (first | exact Drawn0.refl _ | apply Drawn0.step)⟩
 case rest =>
  clear HC5
  try clear p2
  try clear c6
  try clear c7
  obtain ⟨kq, x21_4, rfl, HA, HJ4, ⟨mc4, rfl⟩⟩ := hcut
  cases kq with
  | zero => exact absurd HA.out (by simp [armadaref07_words.j0])
  | succ kj4 =>
   have H := HA.out; clear HA; simp only [armadaref07_words.j0] at H
   by_cases c8 : x21_4 = true
   ·
    subst c8; rw [if_pos rfl] at H; replace H := xb H; obtain ⟨t172, A9, H⟩ := H; obtain rfl := Option.some.inj H; go_wp2_with (first | ((with_reducible refine gate_callee (f := 49) rfl ?_); refine goesL_ (some 26) rfl rfl Tryz.func49 (by kernel_rfl) rfl #[.int .i64 (a0.size : Int), .int .i64 (a1.size : Int)] rfl xS ?_; (with_reducible refine (armadaref07_order.calls (a0.size : Int) (a1.size : Int) t172 _ A9.out).mono ?_); rintro e w' ⟨rfl, ⟨nd, rfl⟩⟩; refine ⟨_, rfl, ?_⟩)); go_ret; exact ⟨xR, xG⟩
   replace c8 := Bool.eq_false_iff.mpr c8; subst c8; rw [if_neg (show ¬ (false = true) by decide)] at H; have HC10 := Aside0.mk H; clear H; go_upto_region 5 with (fail)
   go_cut [31] (fun v31 wc => ∃ (kq : Nat) (x31_9 : Bool), v31 = .bool x31_9 ∧ Aside0 (armadaref07_words.j1 kq a0 a1 t170 t171 x31_9 = some r) ∧ Aside0 (kq ≤ kj4) ∧ Drawn0 w wc)
   case first =>
    have H := HC10.out; clear HC10
    by_cases c11 : t170 = true
    ·
     subst c11; rw [if_pos rfl] at H; have H' := Aside0.mk H; clear H; go_wp2; go_meet
     case rel => exact ⟨_, (!t171), xR, H', ⟨by have := HJ4.out; first | omega | exact Nat.le_refl _⟩, by repeat (first | exact Drawn0.refl _ | apply Drawn0.step)⟩
    replace c11 := Bool.eq_false_iff.mpr c11; subst c11; rw [if_neg (show ¬ (false = true) by decide)] at H; have H' := Aside0.mk H; clear H; go_wp2; go_meet
    case rel => exact ⟨_, (false), xR, H', ⟨by have := HJ4.out; first | omega | exact Nat.le_refl _⟩, by repeat (first | exact Drawn0.refl _ | apply Drawn0.step)⟩
   case rest =>
    clear HC10
    try clear c1
    try clear p2
    try clear c4
    try clear c6
    try clear c7
    try clear c8
    try clear c11
    try clear p2
    obtain ⟨kq, x31_9, rfl, HA, HJ9, ⟨mc9, rfl⟩⟩ := hcut
    cases kq with
    | zero => exact absurd HA.out (by simp [armadaref07_words.j1])
    | succ kj9 =>
     have H := HA.out; clear HA; simp only [armadaref07_words.j1] at H
     by_cases c12 : x31_9 = true
     ·
      subst c12; rw [if_pos rfl] at H; obtain rfl := Option.some.inj H; go_wp2; go_ret; exact ⟨xR, xG⟩
     replace c12 := Bool.eq_false_iff.mpr c12; subst c12; rw [if_neg (show ¬ (false = true) by decide)] at H; have HC13 := Aside0.mk H; clear H; go_upto_region 7 with (fail)
     go_cut [36] (fun v36 wc => ∃ (kq : Nat) (x36_12 : Bool), v36 = .bool x36_12 ∧ Aside0 (armadaref07_words.j2 kq a0 a1 x36_12 = some r) ∧ Aside0 (kq ≤ kj9) ∧ Drawn0 w wc)
     case first =>
      have H := HC13.out; clear HC13
      by_cases c14 : t171 = true
      ·
       subst c14; rw [if_pos rfl] at H; have H' := Aside0.mk H; clear H; go_wp2; go_meet
       case rel => exact ⟨_, (!t170), xR, H', ⟨by have := HJ4.out; have := HJ9.out; first | omega | exact Nat.le_refl _⟩, by repeat (first | exact Drawn0.refl _ | apply Drawn0.step)⟩
      replace c14 := Bool.eq_false_iff.mpr c14; subst c14; rw [if_neg (show ¬ (false = true) by decide)] at H; have H' := Aside0.mk H; clear H; go_wp2; go_meet
      case rel => exact ⟨_, (false), xR, H', ⟨by have := HJ4.out; have := HJ9.out; first | omega | exact Nat.le_refl _⟩, by repeat (first | exact Drawn0.refl _ | apply Drawn0.step)⟩
     case rest =>
      clear HC13
      try clear c1
      try clear p2
      try clear c4
      try clear c6
      try clear c7
      try clear c8
      try clear c9
      try clear c11
      try clear c12
      try clear c14
      try clear p2
      obtain ⟨kq, x36_12, rfl, HA, HJ12, ⟨mc12, rfl⟩⟩ := hcut
      cases kq with
      | zero => exact absurd HA.out (by simp [armadaref07_words.j2])
      | succ kj12 =>
       have H := HA.out; clear HA; simp only [armadaref07_words.j2] at H
       by_cases c15 : x36_12 = true
       ·
        subst c15; rw [if_pos rfl] at H; obtain rfl := Option.some.inj H; go_wp2; go_ret; exact ⟨xR, xG⟩
       replace c15 := Bool.eq_false_iff.mpr c15; subst c15; rw [if_neg (show ¬ (false = true) by decide)] at H; replace H := xJ H; rcases H with ⟨c16, H⟩ | ⟨c16, H⟩
       ·
        have c16b0 : (Op.bytesLess a0.toList a1.toList) = true := c16; clear c16; obtain rfl := Option.some.inj H; go_wp2; go_ret; exact ⟨xR, xG⟩
       have c16b0 : (Op.bytesLess a0.toList a1.toList) = false := by simpa using c16
       clear c16; replace H := xJ H; rcases H with ⟨c17, H⟩ | ⟨c17, H⟩
       ·
        have c17b0 : (Op.bytesLess a1.toList a0.toList) = true := c17; have c17x := bl_ne c17b0; clear c17; obtain rfl := Option.some.inj H; go_wp2; go_ret; exact ⟨xR, xG⟩
       have c17b0 : (Op.bytesLess a1.toList a0.toList) = false := by simpa using c17
       have c17x := bl_eq c16b0 c17b0; clear c17; obtain rfl := Option.some.inj H; go_wp2; go_ret; exact ⟨xR, xG⟩
mutual
def armadaref07_pre.j0 : Nat → ByteArray → ByteArray → Bool → Option (Int)
 | 0, _, _, _ => none
 | k + 1, x0, x1, x13 => if x13 = true then ((armadaref07_one.f (x0.toList == ([] : List UInt8))).bind fun t173 => ((armadaref07_one.f (x1.toList == ([] : List UInt8))).bind fun t174 => ((armadaref07_order.f t173 t174).bind fun t175 => (some t175)))) else ((armadaref05_Split.f k x0 46).bind fun t176 => ((armadaref05_Split.f k x1 46).bind fun t179 => (armadaref07_pre.l0 k t176 t179 0)))
def armadaref07_pre.l0 : Nat → List ByteArray → List ByteArray → Int → Option (Int)
 | 0, _, _, _ => none
 | k + 1, x5, x6, x7 => if x7 < (x5.length : Int) then (armadaref07_pre.j2 k x5 x6 x7 (decide (x7 < (x6.length : Int)))) else (armadaref07_pre.j2 k x5 x6 x7 false)
def armadaref07_pre.j2 : Nat → List ByteArray → List ByteArray → Int → Bool → Option (Int)
 | 0, _, _, _, _ => none
 | k + 1, x5, x6, x7, x34 => if x34 = true then (if 0 ≤ x7 then (if x7 < (x5.length : Int) then (if x7 < (x6.length : Int) then ((armadaref07_words.f k (rdOf ByteArray.empty x5 x7) (rdOf ByteArray.empty x6 x7)).bind fun t185 => (if t185 = 0 then (armadaref07_pre.l0 k x5 x6 (wrap64 (x7 + 1))) else ((armadaref07_words.f k (rdOf ByteArray.empty x5 x7) (rdOf ByteArray.empty x6 x7)).bind fun t188 => (some t188)))) else (none)) else (none)) else (none)) else ((armadaref07_order.f (x5.length : Int) (x6.length : Int)).bind fun t182 => (some t182))
end
def armadaref07_pre.f (k : Nat) (a0 : ByteArray) (a1 : ByteArray) : Option (Int) := if a0.toList = ([] : List UInt8) then (armadaref07_pre.j0 k a0 a1 true) else (armadaref07_pre.j0 k a0 a1 (a1.toList == ([] : List UInt8)))
set_option maxHeartbeats 8000000 in
set_option maxRecDepth 100000 in
theorem armadaref07_pre.calls (k : Nat) (a0 : ByteArray) (a1 : ByteArray) (r : Int) (w : World) (h : armadaref07_pre.f k a0 a1 = some r) :
  Calls Tryz.prog 50 #[.string a0, .string a1] w fun e w' => e = .returned (.int .i64 r) ∧ Below w.heap.size w w' := by
 have HB := Aside0.mk (Below.refl w.heap.size w); have H : (if a0.toList = ([] : List UInt8) then (armadaref07_pre.j0 k a0 a1 true) else (armadaref07_pre.j0 k a0 a1 (a1.toList == ([] : List UInt8)))) = some r := h; clear h; have HC3 := Aside0.mk H; clear H; go_enter Tryz.func50, Tryz.ntmps50; go_upto_region 1 with (fail)
 repeat (go_quiet (fail); go_upto_region 1 with (fail))
 go_cut [13] (fun v13 wc => ∃ (kq : Nat) (x13_2 : Bool), v13 = .bool x13_2 ∧ Aside0 (armadaref07_pre.j0 kq a0 a1 x13_2 = some r) ∧ Aside0 (kq ≤ k) ∧ Aside0 (Below w.heap.size w wc))
 case first =>
  have H := HC3.out; clear HC3; replace H := xJ H; rcases H with ⟨c4, H⟩ | ⟨c4, H⟩
  ·
   have c4b0 := beq_iff_eq.mpr c4; have c4b1 := bne_eq_false_iff_eq.mpr c4; clear c4
   (first | rw [c4b0] | (simp only [i64_w, i32_w]; rw [c4b0]) | skip)
   have H' := Aside0.mk H; clear H; go_wp2
   repeat (go_quiet (fail); try go_wp2)
   go_meet
   case rel => exact ⟨_, (true), xR, H', ⟨by first | omega | exact Nat.le_refl _⟩, ⟨xB⟩⟩
  have c4b0 := beq_eq_false_iff_ne.mpr c4; have c4b1 := bne_iff_ne.mpr c4
  (first | rw [c4b0] | (simp only [i64_w, i32_w]; rw [c4b0]) | skip)
  have H' := Aside0.mk H; clear H; go_wp2
  repeat (go_quiet (fail); try go_wp2)
  go_meet
  case rel => exact ⟨_, ((a1.toList == ([] : List UInt8))), xR, H', ⟨by first | omega | exact Nat.le_refl _⟩, ⟨xB⟩⟩
 case rest =>
  clear HC3
  try clear p2
  try clear c4
  try clear c4b0
  try clear c4b1
  obtain ⟨kq, x13_2, rfl, HA, HJ2, HB⟩ := hcut
  cases kq with
  | zero => exact absurd HA.out (by simp [armadaref07_pre.j0])
  | succ kj2 =>
   have H := HA.out; clear HA; simp only [armadaref07_pre.j0] at H
   by_cases c5 : x13_2 = true
   ·
    subst c5; rw [if_pos rfl] at H; replace H := Option.bind_eq_some_iff.mp H; obtain ⟨t173, A60, H⟩ := H; replace H : ((armadaref07_one.f (a1.toList == ([] : List UInt8))).bind fun t174 => ((armadaref07_order.f t173 t174).bind fun t175 => (some t175))) = some r := H; have A6 := Aside0.mk A60; replace A6 : Aside0 (armadaref07_one.f a0.toList.isEmpty = some t173) := ⟨by have h := A6.out; rwa [show (a0.toList == ([] : List UInt8)) = a0.toList.isEmpty from by cases a0.toList <;> rfl] at h⟩; clear A60; replace H := Option.bind_eq_some_iff.mp H; obtain ⟨t174, A70, H⟩ := H; replace H : ((armadaref07_order.f t173 t174).bind fun t175 => (some t175)) = some r := H; have A7 := Aside0.mk A70; replace A7 : Aside0 (armadaref07_one.f a1.toList.isEmpty = some t174) := ⟨by have h := A7.out; rwa [show (a1.toList == ([] : List UInt8)) = a1.toList.isEmpty from by cases a1.toList <;> rfl] at h⟩; clear A70; replace H := xb H; obtain ⟨t175, A8, H⟩ := H; obtain rfl := Option.some.inj H; go_wp2_with (first | (go_at_call 79; (with_reducible refine (armadaref07_one.calls a0.toList.isEmpty t173 _ A6.out).mono ?_); rintro e w' ⟨rfl, ⟨nd, rfl⟩⟩; (try first | exact ⟨rfl, _, World.drewN_drewN _ _ _⟩ | exact ⟨rfl, _, Eq.trans (World.drewN_drewN _ _ _) (congrArg (World.drewN _) (Nat.add_assoc _ _ _))⟩)) | (go_at_call 79; (with_reducible refine (armadaref07_one.calls a1.toList.isEmpty t174 _ A7.out).mono ?_); rintro e w' ⟨rfl, ⟨nd, rfl⟩⟩; (try first | exact ⟨rfl, _, World.drewN_drewN _ _ _⟩ | exact ⟨rfl, _, Eq.trans (World.drewN_drewN _ _ _) (congrArg (World.drewN _) (Nat.add_assoc _ _ _))⟩)) | (go_at_call 49; (with_reducible refine (armadaref07_order.calls t173 t174 t175 _ A8.out).mono ?_); rintro e w' ⟨rfl, ⟨nd, rfl⟩⟩; (try first | exact ⟨rfl, _, World.drewN_drewN _ _ _⟩ | exact ⟨rfl, _, Eq.trans (World.drewN_drewN _ _ _) (congrArg (World.drewN _) (Nat.add_assoc _ _ _))⟩)))
    repeat (go_quiet (first | (go_at_call 79; (with_reducible refine (armadaref07_one.calls a0.toList.isEmpty t173 _ A6.out).mono ?_); rintro e w' ⟨rfl, ⟨nd, rfl⟩⟩; (try first | exact ⟨rfl, _, World.drewN_drewN _ _ _⟩ | exact ⟨rfl, _, Eq.trans (World.drewN_drewN _ _ _) (congrArg (World.drewN _) (Nat.add_assoc _ _ _))⟩)) | (go_at_call 79; (with_reducible refine (armadaref07_one.calls a1.toList.isEmpty t174 _ A7.out).mono ?_); rintro e w' ⟨rfl, ⟨nd, rfl⟩⟩; (try first | exact ⟨rfl, _, World.drewN_drewN _ _ _⟩ | exact ⟨rfl, _, Eq.trans (World.drewN_drewN _ _ _) (congrArg (World.drewN _) (Nat.add_assoc _ _ _))⟩)) | (go_at_call 49; (with_reducible refine (armadaref07_order.calls t173 t174 t175 _ A8.out).mono ?_); rintro e w' ⟨rfl, ⟨nd, rfl⟩⟩; (try first | exact ⟨rfl, _, World.drewN_drewN _ _ _⟩ | exact ⟨rfl, _, Eq.trans (World.drewN_drewN _ _ _) (congrArg (World.drewN _) (Nat.add_assoc _ _ _))⟩))); try go_wp2_with (first | (go_at_call 79; (with_reducible refine (armadaref07_one.calls a0.toList.isEmpty t173 _ A6.out).mono ?_); rintro e w' ⟨rfl, ⟨nd, rfl⟩⟩; (try first | exact ⟨rfl, _, World.drewN_drewN _ _ _⟩ | exact ⟨rfl, _, Eq.trans (World.drewN_drewN _ _ _) (congrArg (World.drewN _) (Nat.add_assoc _ _ _))⟩)) | (go_at_call 79; (with_reducible refine (armadaref07_one.calls a1.toList.isEmpty t174 _ A7.out).mono ?_); rintro e w' ⟨rfl, ⟨nd, rfl⟩⟩; (try first | exact ⟨rfl, _, World.drewN_drewN _ _ _⟩ | exact ⟨rfl, _, Eq.trans (World.drewN_drewN _ _ _) (congrArg (World.drewN _) (Nat.add_assoc _ _ _))⟩)) | (go_at_call 49; (with_reducible refine (armadaref07_order.calls t173 t174 t175 _ A8.out).mono ?_); rintro e w' ⟨rfl, ⟨nd, rfl⟩⟩; (try first | exact ⟨rfl, _, World.drewN_drewN _ _ _⟩ | exact ⟨rfl, _, Eq.trans (World.drewN_drewN _ _ _) (congrArg (World.drewN _) (Nat.add_assoc _ _ _))⟩))))
    go_ret; exact ⟨xW, xB⟩
   replace c5 := Bool.eq_false_iff.mpr c5; subst c5; rw [if_neg (show ¬ (false = true) by decide)] at H; replace H := xb H; obtain ⟨t176, A9, H⟩ := H; replace H := xb H; obtain ⟨t179, A10, H⟩ := H; have H' := Aside0.mk H; clear H; go_wp2_with (first | (go_at_call 20; (with_reducible refine (armadaref05_Split.calls kj2 a0 46 t176 _ A9.out).mono ?_); rintro e w11 ⟨v177, rfl, ho0, hb⟩; have HO178 := Aside0.mk (Kd.R_lower ho0 (below_size xB)); replace HB := Aside0.mk (below_step xB hb); (try clear hb); (try clear ho0)) | (go_at_call 20; (with_reducible refine (armadaref05_Split.calls kj2 a1 46 t179 _ A10.out).mono ?_); rintro e w12 ⟨v180, rfl, ho0, hb⟩; have HO181 := Aside0.mk (Kd.R_lower (Kd.R_new' ho0 (Kd.R_lt (by (with_reducible repeat (first | apply Kd.R_alloc | apply Kd.R_drewN | apply Kd.R_drew)); exact HO178.out))) (below_size xB)); replace HO178 := Aside0.mk (Kd.R_elder' (by (with_reducible repeat (first | apply Kd.R_alloc | apply Kd.R_drewN | apply Kd.R_drew)); exact HO178.out) (Kd.R_base ho0) hb); replace HB := Aside0.mk (below_step xB hb); (try clear hb); (try clear ho0)))
   repeat (go_quiet (first | (go_at_call 20; (with_reducible refine (armadaref05_Split.calls kj2 a0 46 t176 _ A9.out).mono ?_); rintro e w11 ⟨v177, rfl, ho0, hb⟩; have HO178 := Aside0.mk (Kd.R_lower ho0 (below_size xB)); replace HB := Aside0.mk (below_step xB hb); (try clear hb); (try clear ho0)) | (go_at_call 20; (with_reducible refine (armadaref05_Split.calls kj2 a1 46 t179 _ A10.out).mono ?_); rintro e w12 ⟨v180, rfl, ho0, hb⟩; have HO181 := Aside0.mk (Kd.R_lower (Kd.R_new' ho0 (Kd.R_lt (by (with_reducible repeat (first | apply Kd.R_alloc | apply Kd.R_drewN | apply Kd.R_drew)); exact HO178.out))) (below_size xB)); replace HO178 := Aside0.mk (Kd.R_elder' (by (with_reducible repeat (first | apply Kd.R_alloc | apply Kd.R_drewN | apply Kd.R_drew)); exact HO178.out) (Kd.R_base ho0) hb); replace HB := Aside0.mk (below_step xB hb); (try clear hb); (try clear ho0))); try go_wp2_with (first | (go_at_call 20; (with_reducible refine (armadaref05_Split.calls kj2 a0 46 t176 _ A9.out).mono ?_); rintro e w11 ⟨v177, rfl, ho0, hb⟩; have HO178 := Aside0.mk (Kd.R_lower ho0 (below_size xB)); replace HB := Aside0.mk (below_step xB hb); (try clear hb); (try clear ho0)) | (go_at_call 20; (with_reducible refine (armadaref05_Split.calls kj2 a1 46 t179 _ A10.out).mono ?_); rintro e w12 ⟨v180, rfl, ho0, hb⟩; have HO181 := Aside0.mk (Kd.R_lower (Kd.R_new' ho0 (Kd.R_lt (by (with_reducible repeat (first | apply Kd.R_alloc | apply Kd.R_drewN | apply Kd.R_drew)); exact HO178.out))) (below_size xB)); replace HO178 := Aside0.mk (Kd.R_elder' (by (with_reducible repeat (first | apply Kd.R_alloc | apply Kd.R_drewN | apply Kd.R_drew)); exact HO178.out) (Kd.R_base ho0) hb); replace HB := Aside0.mk (below_step xB hb); (try clear hb); (try clear ho0))))
   go_loopg [7] kj2 (fun kq v7 w' => ∃ (x7_2 : Int), v7 = .int .i64 x7_2 ∧ Aside0 (armadaref07_pre.l0 kq t176 t179 x7_2 = some r) ∧ Aside0 (kq ≤ kj2) ∧ Aside0 (Kd.R Kd.string 9 w' w.heap.size (fun k_ => some k_ ≠ (v180 : Value).ownBlock) v177 t176) ∧ Aside0 (Kd.R Kd.string 9 w' w.heap.size (fun k_ => some k_ ≠ (v177 : Value).ownBlock) v180 t179) ∧ Aside0 (Below w.heap.size w w'))
   case atStart => exact ⟨(0), xR, H', ⟨Nat.le_refl _⟩, ⟨by (with_reducible repeat (first | apply Kd.R_alloc | apply Kd.R_drewN | apply Kd.R_drew)); exact Kd.R_mono HO178.out (fun _ hk => hk.2)⟩, ⟨by (with_reducible repeat (first | apply Kd.R_alloc | apply Kd.R_drewN | apply Kd.R_drew)); exact Kd.R_mono HO181.out (fun _ hk => hk.2)⟩, ⟨xB⟩⟩
   case round =>
    clear H'
    try clear p2
    try clear c4
    try clear c4b0
    try clear c4b1
    try clear c5
    try clear p2
    obtain ⟨x7_2, rfl, HA, HK2, HO_5, HO_6, HB⟩ := hrel
    cases gk with
    | zero => exact absurd HA.out (by simp [armadaref07_pre.l0])
    | succ k2 =>
     have H := HA.out; clear HA; simp only [armadaref07_pre.l0] at H; have HC13 := Aside0.mk H; clear H; go_upto_region 6 with (fail)
     repeat (go_quiet (fail); go_upto_region 6 with (fail))
     go_cut [34] (fun v34 wc => ∃ (kq : Nat) (x34_12 : Bool), v34 = .bool x34_12 ∧ Aside0 (armadaref07_pre.j2 kq t176 t179 x7_2 x34_12 = some r) ∧ Aside0 (kq ≤ k2) ∧ Aside0 (Kd.R Kd.string 9 wc w.heap.size (fun k_ => some k_ ≠ (v180 : Value).ownBlock) v177 t176) ∧ Aside0 (Kd.R Kd.string 9 wc w.heap.size (fun k_ => some k_ ≠ (v177 : Value).ownBlock) v180 t179) ∧ Aside0 (Below w.heap.size w wc))
     case first =>
      have H := HC13.out; clear HC13; replace H := xJ H; rcases H with ⟨c14, H⟩ | ⟨c14, H⟩
      ·
       have c14b0 := decide_eq_true c14; clear c14
       (first | rw [c14b0] | (simp only [i64_w, i32_w]; rw [c14b0]) | skip)
       have H' := Aside0.mk H; clear H; obtain ⟨Ao15, co15, eo15⟩ := Kd.R_slice HO_5.out; subst eo15; obtain ⟨Ao16, co16, eo16⟩ := Kd.R_slice HO_6.out; subst eo16; go_wp2
       repeat (go_quiet (fail); try go_wp2)
       go_meet
       case rel => exact ⟨_, (decide (x7_2 < (t179.length : Int))), xR, H', ⟨by have := HJ2.out; have := HK2.out; first | omega | exact Nat.le_refl _⟩, ⟨xQ HO_5⟩, ⟨xQ HO_6⟩, ⟨xB⟩⟩
      have c14b0 := decide_eq_false c14; clear c14
      (first | rw [c14b0] | (simp only [i64_w, i32_w]; rw [c14b0]) | skip)
      have H' := Aside0.mk H; clear H; obtain ⟨Ao17, co17, eo17⟩ := Kd.R_slice HO_5.out; subst eo17; go_wp2
      repeat (go_quiet (fail); try go_wp2)
      go_meet
      case rel => exact ⟨_, (false), xR, H', ⟨by have := HJ2.out; have := HK2.out; first | omega | exact Nat.le_refl _⟩, ⟨xQ HO_5⟩, ⟨xQ HO_6⟩, ⟨xB⟩⟩
     case rest =>
      clear HC13
      try clear c1
      try clear p2
      try clear c4
      try clear c4b0
      try clear c4b1
      try clear c5
      try clear c14
      try clear c14b0
      try clear p2
      obtain ⟨kq, x34_12, rfl, HA, HJ12, HO_5, HO_6, HB⟩ := hcut
      cases kq with
      | zero => exact absurd HA.out (by simp [armadaref07_pre.j2])
      | succ kj12 =>
       have H := HA.out; clear HA; simp only [armadaref07_pre.j2] at H
       by_cases c18 : x34_12 = true
       ·
        subst c18; rw [if_pos rfl] at H; replace H := xI H; obtain ⟨c19, H⟩ := H; replace c19 := decide_eq_true c19; replace H := xI H; obtain ⟨c20, H⟩ := H; replace c20 := decide_eq_true c20; replace H := xI H; obtain ⟨c21, H⟩ := H; replace c21 := decide_eq_true c21; replace H := xb H; obtain ⟨t185, A22, H⟩ := H; replace H := xJ H; rcases H with ⟨c23, H⟩ | ⟨c23, H⟩
        ·
         have c23b0 := beq_iff_eq.mpr c23; have c23b1 := bne_eq_false_iff_eq.mpr c23; clear c23; have H' := Aside0.mk H; clear H; obtain ⟨Ao24, co24, eo24⟩ := Kd.R_slice HO_5.out; subst eo24; obtain ⟨p183, q183, ad183, e183, hx183_0⟩ := xT (Kd.at_string (Kd.R_reads' HO_5.out).2.2 x7_2)
         cases e183
         obtain ⟨Ao25, co25, eo25⟩ := Kd.R_slice HO_6.out; subst eo25; obtain ⟨p184, q184, ad184, e184, hx184_0⟩ := xT (Kd.at_string (Kd.R_reads' HO_6.out).2.2 x7_2)
         cases e184
         go_wp2_with (first | (go_at_call 80; (with_reducible refine (armadaref07_words.calls kj12 (rdOf ByteArray.empty t176 x7_2) (rdOf ByteArray.empty t179 x7_2) t185 _ A22.out).mono ?_); rintro e w' ⟨rfl, ⟨nd, rfl⟩⟩; (try first | exact ⟨rfl, _, World.drewN_drewN _ _ _⟩ | exact ⟨rfl, _, Eq.trans (World.drewN_drewN _ _ _) (congrArg (World.drewN _) (Nat.add_assoc _ _ _))⟩)))
         repeat (go_quiet (first | (go_at_call 80; (with_reducible refine (armadaref07_words.calls kj12 (rdOf ByteArray.empty t176 x7_2) (rdOf ByteArray.empty t179 x7_2) t185 _ A22.out).mono ?_); rintro e w' ⟨rfl, ⟨nd, rfl⟩⟩; (try first | exact ⟨rfl, _, World.drewN_drewN _ _ _⟩ | exact ⟨rfl, _, Eq.trans (World.drewN_drewN _ _ _) (congrArg (World.drewN _) (Nat.add_assoc _ _ _))⟩))); try go_wp2_with (first | (go_at_call 80; (with_reducible refine (armadaref07_words.calls kj12 (rdOf ByteArray.empty t176 x7_2) (rdOf ByteArray.empty t179 x7_2) t185 _ A22.out).mono ?_); rintro e w' ⟨rfl, ⟨nd, rfl⟩⟩; (try first | exact ⟨rfl, _, World.drewN_drewN _ _ _⟩ | exact ⟨rfl, _, Eq.trans (World.drewN_drewN _ _ _) (congrArg (World.drewN _) (Nat.add_assoc _ _ _))⟩))))
         go_roundg kj12
         case measure => have := HJ2.out; have := HK2.out; have := HJ12.out; omega
         case rel => exact ⟨(wrap64 (x7_2 + 1)), xR, H', ⟨by have := HJ2.out; have := HK2.out; have := HJ12.out; omega⟩, ⟨xQ HO_5⟩, ⟨xQ HO_6⟩, ⟨xB⟩⟩
        have c23b0 := beq_eq_false_iff_ne.mpr c23; have c23b1 := bne_iff_ne.mpr c23; replace H := Option.bind_eq_some_iff.mp H; obtain ⟨t188, A260, H⟩ := H; obtain rfl : t188 = t185 := Option.some.inj (A260.symm.trans A22.out); replace H : (some t188) = some r := H; have A26 := Aside0.mk A260; clear A260; obtain rfl := Option.some.inj H; obtain ⟨Ao27, co27, eo27⟩ := Kd.R_slice HO_5.out; subst eo27; obtain ⟨p183, q183, ad183, e183, hx183_0⟩ := xT (Kd.at_string (Kd.R_reads' HO_5.out).2.2 x7_2)
        cases e183
        obtain ⟨Ao28, co28, eo28⟩ := Kd.R_slice HO_6.out; subst eo28; obtain ⟨p184, q184, ad184, e184, hx184_0⟩ := xT (Kd.at_string (Kd.R_reads' HO_6.out).2.2 x7_2)
        cases e184
        go_wp2_with (first | (go_at_call 80; (with_reducible refine (armadaref07_words.calls kj12 (rdOf ByteArray.empty t176 x7_2) (rdOf ByteArray.empty t179 x7_2) t185 _ A22.out).mono ?_); rintro e w' ⟨rfl, ⟨nd, rfl⟩⟩; (try first | exact ⟨rfl, _, World.drewN_drewN _ _ _⟩ | exact ⟨rfl, _, Eq.trans (World.drewN_drewN _ _ _) (congrArg (World.drewN _) (Nat.add_assoc _ _ _))⟩); obtain ⟨p186, q186, ad186, e186, hx186_0⟩ := xT (Kd.at_string (Kd.R_reads' HO_5.out).2.2 x7_2); obtain rfl := xE e186; obtain ⟨p187, q187, ad187, e187, hx187_0⟩ := xT (Kd.at_string (Kd.R_reads' HO_6.out).2.2 x7_2); obtain rfl := xE e187) | (go_at_call 80; (with_reducible refine (armadaref07_words.calls kj12 (rdOf ByteArray.empty t176 x7_2) (rdOf ByteArray.empty t179 x7_2) t188 _ A26.out).mono ?_); rintro e w' ⟨rfl, ⟨nd, rfl⟩⟩; (try first | exact ⟨rfl, _, World.drewN_drewN _ _ _⟩ | exact ⟨rfl, _, Eq.trans (World.drewN_drewN _ _ _) (congrArg (World.drewN _) (Nat.add_assoc _ _ _))⟩)))
        repeat (go_quiet (first | (go_at_call 80; (with_reducible refine (armadaref07_words.calls kj12 (rdOf ByteArray.empty t176 x7_2) (rdOf ByteArray.empty t179 x7_2) t185 _ A22.out).mono ?_); rintro e w' ⟨rfl, ⟨nd, rfl⟩⟩; (try first | exact ⟨rfl, _, World.drewN_drewN _ _ _⟩ | exact ⟨rfl, _, Eq.trans (World.drewN_drewN _ _ _) (congrArg (World.drewN _) (Nat.add_assoc _ _ _))⟩); obtain ⟨p186, q186, ad186, e186, hx186_0⟩ := xT (Kd.at_string (Kd.R_reads' HO_5.out).2.2 x7_2); obtain rfl := xE e186; obtain ⟨p187, q187, ad187, e187, hx187_0⟩ := xT (Kd.at_string (Kd.R_reads' HO_6.out).2.2 x7_2); obtain rfl := xE e187) | (go_at_call 80; (with_reducible refine (armadaref07_words.calls kj12 (rdOf ByteArray.empty t176 x7_2) (rdOf ByteArray.empty t179 x7_2) t188 _ A26.out).mono ?_); rintro e w' ⟨rfl, ⟨nd, rfl⟩⟩; (try first | exact ⟨rfl, _, World.drewN_drewN _ _ _⟩ | exact ⟨rfl, _, Eq.trans (World.drewN_drewN _ _ _) (congrArg (World.drewN _) (Nat.add_assoc _ _ _))⟩))); try go_wp2_with (first | (go_at_call 80; (with_reducible refine (armadaref07_words.calls kj12 (rdOf ByteArray.empty t176 x7_2) (rdOf ByteArray.empty t179 x7_2) t185 _ A22.out).mono ?_); rintro e w' ⟨rfl, ⟨nd, rfl⟩⟩; (try first | exact ⟨rfl, _, World.drewN_drewN _ _ _⟩ | exact ⟨rfl, _, Eq.trans (World.drewN_drewN _ _ _) (congrArg (World.drewN _) (Nat.add_assoc _ _ _))⟩); obtain ⟨p186, q186, ad186, e186, hx186_0⟩ := xT (Kd.at_string (Kd.R_reads' HO_5.out).2.2 x7_2); obtain rfl := xE e186; obtain ⟨p187, q187, ad187, e187, hx187_0⟩ := xT (Kd.at_string (Kd.R_reads' HO_6.out).2.2 x7_2); obtain rfl := xE e187) | (go_at_call 80; (with_reducible refine (armadaref07_words.calls kj12 (rdOf ByteArray.empty t176 x7_2) (rdOf ByteArray.empty t179 x7_2) t188 _ A26.out).mono ?_); rintro e w' ⟨rfl, ⟨nd, rfl⟩⟩; (try first | exact ⟨rfl, _, World.drewN_drewN _ _ _⟩ | exact ⟨rfl, _, Eq.trans (World.drewN_drewN _ _ _) (congrArg (World.drewN _) (Nat.add_assoc _ _ _))⟩))))
        go_ret; exact ⟨xW, xB⟩
       replace c18 := Bool.eq_false_iff.mpr c18; subst c18; rw [if_neg (show ¬ (false = true) by decide)] at H; replace H := xb H; obtain ⟨t182, A29, H⟩ := H; obtain rfl := Option.some.inj H; obtain ⟨Ao30, co30, eo30⟩ := Kd.R_slice HO_5.out; subst eo30; obtain ⟨Ao31, co31, eo31⟩ := Kd.R_slice HO_6.out; subst eo31; go_wp2_with (first | (go_at_call 49; (with_reducible refine (armadaref07_order.calls (t176.length : Int) (t179.length : Int) t182 _ A29.out).mono ?_); rintro e w' ⟨rfl, ⟨nd, rfl⟩⟩; (try first | exact ⟨rfl, _, World.drewN_drewN _ _ _⟩ | exact ⟨rfl, _, Eq.trans (World.drewN_drewN _ _ _) (congrArg (World.drewN _) (Nat.add_assoc _ _ _))⟩)))
       repeat (go_quiet (first | (go_at_call 49; (with_reducible refine (armadaref07_order.calls (t176.length : Int) (t179.length : Int) t182 _ A29.out).mono ?_); rintro e w' ⟨rfl, ⟨nd, rfl⟩⟩; (try first | exact ⟨rfl, _, World.drewN_drewN _ _ _⟩ | exact ⟨rfl, _, Eq.trans (World.drewN_drewN _ _ _) (congrArg (World.drewN _) (Nat.add_assoc _ _ _))⟩))); try go_wp2_with (first | (go_at_call 49; (with_reducible refine (armadaref07_order.calls (t176.length : Int) (t179.length : Int) t182 _ A29.out).mono ?_); rintro e w' ⟨rfl, ⟨nd, rfl⟩⟩; (try first | exact ⟨rfl, _, World.drewN_drewN _ _ _⟩ | exact ⟨rfl, _, Eq.trans (World.drewN_drewN _ _ _) (congrArg (World.drewN _) (Nat.add_assoc _ _ _))⟩))))
       go_ret; exact ⟨xW, xB⟩
end Go.Proofs.YtjdhdjmdmnedfaaGreatDoor.RD
end
