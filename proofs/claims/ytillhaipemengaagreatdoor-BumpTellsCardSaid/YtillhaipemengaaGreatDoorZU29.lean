/- The texts RDx3 in one file, without what these claims do not use (put together by prune2.py). -/
import Derived.Test.YtillhaipemengaaGreatDoorZU26
import Derived.Test.YtillhaipemengaaGreatDoorZU27
import Derived.Test.YtillhaipemengaaGreatDoorZU28
section
namespace Go.Proofs.YtillhaipemengaaGreatDoor.RD
open Go.RowKit Go.Proofs.YtillhaipemengaaGreatDoor Go.Proofs.YtillhaipemengaaGreatDoor.K0 Go.Proofs.YtillhaipemengaaGreatDoorW.PrintWords Go.Proofs.YtillhaipemengaaGreatDoorW.PrintLast Go.Proofs.YtillhaipemengaaGreatDoorW.PrintMore
attribute [local go_sem] max2_int min2_int max_two min_two max_three min_three max_four min_four
set_option linter.unusedVariables false
set_option linter.unusedSimpArgs false
def armadaref05_Path.l0 : Nat → List ByteArray → Int → Option (Bool)
 | 0, _, _ => none
 | k + 1, x3, x4 => if x4 < (x3.length : Int) then (if 0 ≤ x4 then ((armadaref05_part.f k (rdOf ByteArray.empty x3 x4)).bind fun t111 => (if t111 = true then (armadaref05_Path.l0 k x3 (wrap64 (x4 + 1))) else (some false))) else (none)) else (some true)
def armadaref05_Path.f (k : Nat) (a0 : ByteArray) : Option (Bool) := if (a0.size : Int) > 60 then (some false) else ((armadaref05_Split.f k a0 47).bind fun t107 => (armadaref05_Path.l0 k t107 0))
set_option maxHeartbeats 8000000 in
set_option maxRecDepth 100000 in
theorem armadaref05_Path.calls (k : Nat) (a0 : ByteArray) (r : Bool) (w : World) (h : armadaref05_Path.f k a0 = some r) :
  Calls Tryz.prog 100 #[.string a0] w fun e w' => e = .returned (.bool r) ∧ Below w.heap.size w w' := by
 have HB := Aside0.mk (Below.refl w.heap.size w); have H : (if (a0.size : Int) > 60 then (some false) else ((armadaref05_Split.f k a0 47).bind fun t107 => (armadaref05_Path.l0 k t107 0))) = some r := h; clear h; replace H := xJ H; rcases H with ⟨c2, H⟩ | ⟨c2, H⟩
 ·
  have c2b0 := decide_eq_true c2; have c2b1 : decide (60 < a0.size) = true := decide_eq_true (by omega); clear c2; obtain rfl := Option.some.inj H; go_enter Tryz.func100, Tryz.ntmps100; go_wp2; go_ret; exact ⟨xW, xB⟩
 have c2b0 := decide_eq_false c2; have c2b1 : decide (60 < a0.size) = false := decide_eq_false (by omega); clear c2; replace H := xb H; obtain ⟨t107, A3, H⟩ := H; have H' := Aside0.mk H; clear H; go_enter Tryz.func100, Tryz.ntmps100; go_wp2_with (first | ((with_reducible refine gate_callee (f := 60) rfl ?_); refine goesL_ (some 9) rfl rfl Tryz.func60 (by kernel_rfl) rfl #[.string a0, .int .u8 47] rfl xS ?_; (with_reducible refine (armadaref05_Split.calls k a0 47 t107 _ A3.out).mono ?_); rintro e w4 ⟨v108, rfl, ho0, hb⟩; refine ⟨_, rfl, ?_⟩; have HO109 := Aside0.mk (Kd.R_lower ho0 (below_size xB)); replace HB := Aside0.mk (below_step xB hb); (try clear hb); (try clear ho0)))
 go_loopg [4] k (fun kq v4 w' => ∃ (x4_1 : Int), v4 = .int .i64 x4_1 ∧ Aside0 (armadaref05_Path.l0 kq t107 x4_1 = some r) ∧ Aside0 (kq ≤ k) ∧ Aside0 (Kd.R Kd.string 9 w' w.heap.size (fun _ => True) v108 t107) ∧ Aside0 (Below w.heap.size w w'))
 case atStart => exact ⟨(0), xR, H', ⟨Nat.le_refl _⟩, ⟨xQ HO109⟩, ⟨xB⟩⟩
 case round =>
  clear H'
  try clear c1
  try clear c2
  try clear c2b0
  try clear c2b1
  try clear p2
  obtain ⟨x4_1, rfl, HA, HK1, HO_3, HB⟩ := hrel
  cases gk with
  | zero => exact absurd HA.out (by simp [armadaref05_Path.l0])
  | succ k1 =>
   have H := HA.out; clear HA; simp only [armadaref05_Path.l0] at H; replace H := xJ H; rcases H with ⟨c5, H⟩ | ⟨c5, H⟩
   ·
    replace c5 := decide_eq_true c5; replace H := xI H; obtain ⟨c6, H⟩ := H; replace c6 := decide_eq_true c6; replace H := xb H; obtain ⟨t111, A7, H⟩ := H
    by_cases c8 : t111 = true
    ·
     subst c8; rw [if_pos rfl] at H; have H' := Aside0.mk H; clear H; obtain ⟨Ao9, co9, eo9⟩ := Kd.R_slice HO_3.out; subst eo9; obtain ⟨p110, q110, ad110, e110, hx110_0⟩ := xT (Kd.at_string (Kd.R_reads' HO_3.out).2.2 x4_1)
     cases e110
     go_wp2_with (first | ((with_reducible refine gate_callee (f := 132) rfl ?_); refine goesL_ (some 20) rfl rfl Tryz.func132 (by kernel_rfl) rfl #[.string (rdOf ByteArray.empty t107 x4_1)] rfl xS ?_; (with_reducible refine (armadaref05_part.calls k1 (rdOf ByteArray.empty t107 x4_1) true _ A7.out).mono ?_); rintro e w' ⟨rfl, ⟨nd, rfl⟩⟩; refine ⟨_, rfl, ?_⟩)); go_roundg k1
     case measure => exact xO1
     case rel => exact ⟨(wrap64 (x4_1 + 1)), xR, H', ⟨xO1⟩, ⟨xQ HO_3⟩, ⟨xB⟩⟩
    replace c8 := Bool.eq_false_iff.mpr c8; subst c8; rw [if_neg (show ¬ (false = true) by decide)] at H; obtain rfl := Option.some.inj H; obtain ⟨Ao10, co10, eo10⟩ := Kd.R_slice HO_3.out; subst eo10; obtain ⟨p110, q110, ad110, e110, hx110_0⟩ := xT (Kd.at_string (Kd.R_reads' HO_3.out).2.2 x4_1)
    cases e110
    go_wp2_with (first | ((with_reducible refine gate_callee (f := 132) rfl ?_); refine goesL_ (some 20) rfl rfl Tryz.func132 (by kernel_rfl) rfl #[.string (rdOf ByteArray.empty t107 x4_1)] rfl xS ?_; (with_reducible refine (armadaref05_part.calls k1 (rdOf ByteArray.empty t107 x4_1) false _ A7.out).mono ?_); rintro e w' ⟨rfl, ⟨nd, rfl⟩⟩; refine ⟨_, rfl, ?_⟩)); go_ret; exact ⟨xW, xB⟩
   replace c5 := decide_eq_false c5; obtain rfl := Option.some.inj H; obtain ⟨Ao11, co11, eo11⟩ := Kd.R_slice HO_3.out; subst eo11; go_wp2; go_ret; exact ⟨xW, xB⟩
def armadaref08_Check.l0 : Nat → List ByteArray → Int → Option (Bool)
 | 0, _, _ => none
 | k + 1, x3, x4 => if x4 < (x3.length : Int) then (if 0 ≤ x4 then ((armadaref08_tells.f k (rdOf ByteArray.empty x3 x4)).bind fun t117 => (if t117 = true then (if x4 < (wrap64 ((x3.length : Int) - 1)) then (some false) else (if x4 = 0 then (some false) else ((armadaref08_number.f k (rdOf ByteArray.empty x3 x4)).bind fun t119 => (if t119 = 0 then (some false) else (armadaref08_Check.l0 k x3 (wrap64 (x4 + 1))))))) else (armadaref08_Check.l0 k x3 (wrap64 (x4 + 1))))) else (none)) else (some true)
def armadaref08_Check.f (k : Nat) (a0 : ByteArray) : Option (Bool) := (armadaref05_Path.f k a0).bind fun t112 => (if t112 = true then ((armadaref05_Split.f k a0 47).bind fun t113 => (armadaref08_Check.l0 k t113 0)) else (some false))
set_option maxHeartbeats 8000000 in
set_option maxRecDepth 100000 in
theorem armadaref08_Check.calls (k : Nat) (a0 : ByteArray) (r : Bool) (w : World) (h : armadaref08_Check.f k a0 = some r) :
  Calls Tryz.prog 59 #[.string a0] w fun e w' => e = .returned (.bool r) ∧ Below w.heap.size w w' := by
 have HB := Aside0.mk (Below.refl w.heap.size w); have H : ((armadaref05_Path.f k a0).bind fun t112 => (if t112 = true then ((armadaref05_Split.f k a0 47).bind fun t113 => (armadaref08_Check.l0 k t113 0)) else (some false))) = some r := h; clear h; replace H := xb H; obtain ⟨t112, A2, H⟩ := H
 by_cases c3 : t112 = true
 ·
  subst c3; rw [if_pos rfl] at H; replace H := xb H; obtain ⟨t113, A4, H⟩ := H; have H' := Aside0.mk H; clear H; go_enter Tryz.func59, Tryz.ntmps59; go_wp2_with (first | ((with_reducible refine gate_callee (f := 100) rfl ?_); refine goesL_ (some 6) rfl rfl Tryz.func100 (by kernel_rfl) rfl #[.string a0] rfl xS ?_; (with_reducible refine (armadaref05_Path.calls k a0 true _ A2.out).mono ?_); rintro e w5 ⟨rfl, hb⟩; refine ⟨_, rfl, ?_⟩; replace HB := Aside0.mk (below_step xB hb); (try clear hb)) | ((with_reducible refine gate_callee (f := 60) rfl ?_); refine goesL_ (some 9) rfl rfl Tryz.func60 (by kernel_rfl) rfl #[.string a0, .int .u8 47] rfl xS ?_; (with_reducible refine (armadaref05_Split.calls k a0 47 t113 _ A4.out).mono ?_); rintro e w6 ⟨v114, rfl, ho0, hb⟩; refine ⟨_, rfl, ?_⟩; have HO115 := Aside0.mk (Kd.R_lower ho0 (below_size xB)); replace HB := Aside0.mk (below_step xB hb); (try clear hb); (try clear ho0)))
  go_loopg [4] k (fun kq v4 w' => ∃ (x4_1 : Int), v4 = .int .i64 x4_1 ∧ Aside0 (armadaref08_Check.l0 kq t113 x4_1 = some r) ∧ Aside0 (kq ≤ k) ∧ Aside0 (Kd.R Kd.string 9 w' w.heap.size (fun _ => True) v114 t113) ∧ Aside0 (Below w.heap.size w w'))
  case atStart => exact ⟨(0), xR, H', ⟨Nat.le_refl _⟩, ⟨xQ HO115⟩, ⟨xB⟩⟩
  case round =>
   clear H'
   try clear c1
   try clear p2
   try clear c3
   try clear c5
   try clear c6
   obtain ⟨x4_1, rfl, HA, HK1, HO_3, HB⟩ := hrel
   cases gk with
   | zero => exact absurd HA.out (by simp [armadaref08_Check.l0])
   | succ k1 =>
    have H := HA.out; clear HA; simp only [armadaref08_Check.l0] at H; replace H := xJ H; rcases H with ⟨c7, H⟩ | ⟨c7, H⟩
    ·
     replace c7 := decide_eq_true c7; replace H := xI H; obtain ⟨c8, H⟩ := H; replace c8 := decide_eq_true c8; replace H := xb H; obtain ⟨t117, A9, H⟩ := H
     by_cases c10 : t117 = true
     ·
      subst c10; rw [if_pos rfl] at H; replace H := xJ H; rcases H with ⟨c11, H⟩ | ⟨c11, H⟩
      ·
       replace c11 := decide_eq_true c11; obtain rfl := Option.some.inj H; obtain ⟨Ao12, co12, eo12⟩ := Kd.R_slice HO_3.out; subst eo12; obtain ⟨p116, q116, ad116, e116, hx116_0⟩ := xT (Kd.at_string (Kd.R_reads' HO_3.out).2.2 x4_1)
       cases e116
       go_wp2_with (first | ((with_reducible refine gate_callee (f := 61) rfl ?_); refine goesL_ (some 20) rfl rfl Tryz.func61 (by kernel_rfl) rfl #[.string (rdOf ByteArray.empty t113 x4_1)] rfl xS ?_; (with_reducible refine (armadaref08_tells.calls k1 (rdOf ByteArray.empty t113 x4_1) true _ A9.out).mono ?_); rintro e w' ⟨rfl, ⟨nd, rfl⟩⟩; refine ⟨_, rfl, ?_⟩)); go_ret; exact ⟨xW, xB⟩
      replace c11 := decide_eq_false c11; replace H := xJ H; rcases H with ⟨c13, H⟩ | ⟨c13, H⟩
      ·
       have c13b0 := beq_iff_eq.mpr c13; have c13b1 := bne_eq_false_iff_eq.mpr c13; clear c13; obtain rfl := Option.some.inj H; obtain ⟨Ao14, co14, eo14⟩ := Kd.R_slice HO_3.out; subst eo14; obtain ⟨p116, q116, ad116, e116, hx116_0⟩ := xT (Kd.at_string (Kd.R_reads' HO_3.out).2.2 x4_1)
       cases e116
       go_wp2_with (first | ((with_reducible refine gate_callee (f := 61) rfl ?_); refine goesL_ (some 20) rfl rfl Tryz.func61 (by kernel_rfl) rfl #[.string (rdOf ByteArray.empty t113 x4_1)] rfl xS ?_; (with_reducible refine (armadaref08_tells.calls k1 (rdOf ByteArray.empty t113 x4_1) true _ A9.out).mono ?_); rintro e w' ⟨rfl, ⟨nd, rfl⟩⟩; refine ⟨_, rfl, ?_⟩)); go_ret; exact ⟨xW, xB⟩
      have c13b0 := beq_eq_false_iff_ne.mpr c13; have c13b1 := bne_iff_ne.mpr c13; replace H := xb H; obtain ⟨t119, A15, H⟩ := H; replace H := xJ H; rcases H with ⟨c16, H⟩ | ⟨c16, H⟩
      ·
       have c16b0 := beq_iff_eq.mpr c16; have c16b1 := bne_eq_false_iff_eq.mpr c16; clear c16; obtain rfl := Option.some.inj H; obtain ⟨Ao17, co17, eo17⟩ := Kd.R_slice HO_3.out; subst eo17; obtain ⟨p116, q116, ad116, e116, hx116_0⟩ := xT (Kd.at_string (Kd.R_reads' HO_3.out).2.2 x4_1)
       cases e116
       go_wp2_with (first | ((with_reducible refine gate_callee (f := 61) rfl ?_); refine goesL_ (some 20) rfl rfl Tryz.func61 (by kernel_rfl) rfl #[.string (rdOf ByteArray.empty t113 x4_1)] rfl xS ?_; (with_reducible refine (armadaref08_tells.calls k1 (rdOf ByteArray.empty t113 x4_1) true _ A9.out).mono ?_); rintro e w' ⟨rfl, ⟨nd, rfl⟩⟩; refine ⟨_, rfl, ?_⟩; obtain ⟨p118, q118, ad118, e118, hx118_0⟩ := xT (Kd.at_string (Kd.R_reads' HO_3.out).2.2 x4_1); obtain rfl := xE e118) | (go_at_call 63; (with_reducible refine (armadaref08_number.calls k1 (rdOf ByteArray.empty t113 x4_1) t119 _ A15.out).mono ?_); rintro e w' ⟨rfl, ⟨nd, rfl⟩⟩)); go_ret; exact ⟨xW, xB⟩
      have c16b0 := beq_eq_false_iff_ne.mpr c16; have c16b1 := bne_iff_ne.mpr c16; have H' := Aside0.mk H; clear H; obtain ⟨Ao18, co18, eo18⟩ := Kd.R_slice HO_3.out; subst eo18; obtain ⟨p116, q116, ad116, e116, hx116_0⟩ := xT (Kd.at_string (Kd.R_reads' HO_3.out).2.2 x4_1)
      cases e116
      go_wp2_with (first | ((with_reducible refine gate_callee (f := 61) rfl ?_); refine goesL_ (some 20) rfl rfl Tryz.func61 (by kernel_rfl) rfl #[.string (rdOf ByteArray.empty t113 x4_1)] rfl xS ?_; (with_reducible refine (armadaref08_tells.calls k1 (rdOf ByteArray.empty t113 x4_1) true _ A9.out).mono ?_); rintro e w' ⟨rfl, ⟨nd, rfl⟩⟩; refine ⟨_, rfl, ?_⟩; obtain ⟨p118, q118, ad118, e118, hx118_0⟩ := xT (Kd.at_string (Kd.R_reads' HO_3.out).2.2 x4_1); obtain rfl := xE e118) | (go_at_call 63; (with_reducible refine (armadaref08_number.calls k1 (rdOf ByteArray.empty t113 x4_1) t119 _ A15.out).mono ?_); rintro e w' ⟨rfl, ⟨nd, rfl⟩⟩)); go_roundg k1
      case measure => exact xO1
      case rel => exact ⟨(wrap64 (x4_1 + 1)), xR, H', ⟨xO1⟩, ⟨xQ HO_3⟩, ⟨xB⟩⟩
     replace c10 := Bool.eq_false_iff.mpr c10; subst c10; rw [if_neg (show ¬ (false = true) by decide)] at H; have H' := Aside0.mk H; clear H; obtain ⟨Ao19, co19, eo19⟩ := Kd.R_slice HO_3.out; subst eo19; obtain ⟨p116, q116, ad116, e116, hx116_0⟩ := xT (Kd.at_string (Kd.R_reads' HO_3.out).2.2 x4_1)
     cases e116
     go_wp2_with (first | ((with_reducible refine gate_callee (f := 61) rfl ?_); refine goesL_ (some 20) rfl rfl Tryz.func61 (by kernel_rfl) rfl #[.string (rdOf ByteArray.empty t113 x4_1)] rfl xS ?_; (with_reducible refine (armadaref08_tells.calls k1 (rdOf ByteArray.empty t113 x4_1) false _ A9.out).mono ?_); rintro e w' ⟨rfl, ⟨nd, rfl⟩⟩; refine ⟨_, rfl, ?_⟩)); go_roundg k1
     case measure => exact xO1
     case rel => exact ⟨(wrap64 (x4_1 + 1)), xR, H', ⟨xO1⟩, ⟨xQ HO_3⟩, ⟨xB⟩⟩
    replace c7 := decide_eq_false c7; obtain rfl := Option.some.inj H; obtain ⟨Ao20, co20, eo20⟩ := Kd.R_slice HO_3.out; subst eo20; go_wp2; go_ret; exact ⟨xW, xB⟩
 replace c3 := Bool.eq_false_iff.mpr c3; subst c3; rw [if_neg (show ¬ (false = true) by decide)] at H; obtain rfl := Option.some.inj H; go_enter Tryz.func59, Tryz.ntmps59; go_wp2_with (first | ((with_reducible refine gate_callee (f := 100) rfl ?_); refine goesL_ (some 6) rfl rfl Tryz.func100 (by kernel_rfl) rfl #[.string a0] rfl xS ?_; (with_reducible refine (armadaref05_Path.calls k a0 false _ A2.out).mono ?_); rintro e w21 ⟨rfl, hb⟩; refine ⟨_, rfl, ?_⟩; replace HB := Aside0.mk (below_step xB hb); (try clear hb))); go_ret; exact ⟨xW, xB⟩
def armadaref08_Base.l0 : Nat → ByteArray → Int → Option (ByteArray)
 | 0, _, _ => none
 | k + 1, x0, x3 => if x3 ≥ 0 then (if 0 ≤ x3 then (if x3 < (x0.size : Int) then (if (bt x0 x3) = 47 then (if x3 ≤ (x0.size : Int) then (some (x0.extract 0 (x3 : Int).toNat)) else (none)) else (armadaref08_Base.l0 k x0 (wrap64 (x3 - 1)))) else (none)) else (none)) else (some (⟨#[]⟩ : ByteArray))
def armadaref08_Base.f (k : Nat) (a0 : ByteArray) : Option (ByteArray) := armadaref08_Base.l0 k a0 (wrap64 ((a0.size : Int) - 1))
set_option maxHeartbeats 8000000 in
set_option maxRecDepth 100000 in
theorem armadaref08_Base.calls (k : Nat) (a0 : ByteArray) (r : ByteArray) (w : World) (h : armadaref08_Base.f k a0 = some r) :
  Calls Tryz.prog 62 #[.string a0] w fun e w' => e = .returned (.string r) ∧ Drawn0 w w' := by
 have H : (armadaref08_Base.l0 k a0 (wrap64 ((a0.size : Int) - 1))) = some r := h; clear h; have H' := Aside0.mk H; clear H; go_enter Tryz.func62, Tryz.ntmps62; go_wp2
 go_loopg [3] k (fun kq v3 w' => ∃ (x3_1 : Int), v3 = .int .i64 x3_1 ∧ Aside0 (armadaref08_Base.l0 kq a0 x3_1 = some r) ∧ Aside0 (kq ≤ k) ∧ Drawn0 w w')
 case atStart => exact ⟨(wrap64 ((a0.size : Int) - 1)), xR, H', ⟨Nat.le_refl _⟩, by repeat (first | exact Drawn0.refl _ | apply Drawn0.step)⟩
 case round =>
  clear H'; obtain ⟨x3_1, rfl, HA, HK1, ⟨m1, rfl⟩⟩ := hrel
  cases gk with
  | zero => exact absurd HA.out (by simp [armadaref08_Base.l0])
  | succ k1 =>
   have H := HA.out; clear HA; simp only [armadaref08_Base.l0] at H; replace H := xJ H; rcases H with ⟨c2, H⟩ | ⟨c2, H⟩
   ·
    have c2b0 := decide_eq_true c2; clear c2; replace H := xI H; obtain ⟨c3, H⟩ := H; replace c3 := decide_eq_true c3; replace H := xI H; obtain ⟨c4, H⟩ := H; replace c4 := decide_eq_true c4; replace H := xJ H; rcases H with ⟨c6, H⟩ | ⟨c6, H⟩
    ·
     have c6b0 := beq_iff_eq.mpr c6; have c6b1 := bne_eq_false_iff_eq.mpr c6; clear c6; have c7b0 := eq_true (xD : 0 ≤ x3_1); replace H := xI H; obtain ⟨c8, H⟩ := H; have c8b0 := eq_true c8; have c8b1 := decide_eq_true c8; clear c8; obtain rfl := Option.some.inj H; obtain ⟨p5, q5, hx5⟩ := xV a0 x3_1; go_wp2; go_ret; exact ⟨xR, xG⟩
    have c6b0 := beq_eq_false_iff_ne.mpr c6; have c6b1 := bne_iff_ne.mpr c6; have H' := Aside0.mk H; clear H; obtain ⟨p5, q5, hx5⟩ := xV a0 x3_1; go_wp2; go_roundg k1
    case measure => exact xO1
    case rel => exact ⟨(wrap64 (x3_1 - 1)), xR, H', ⟨xO1⟩, by repeat (first | exact Drawn0.refl _ | apply Drawn0.step)⟩
   have c2b0 := decide_eq_false c2; clear c2; obtain rfl := Option.some.inj H; go_wp2; go_ret; exact ⟨xR, xG⟩
def armadaref08_Major.f (k : Nat) (a0 : ByteArray) : Option (ByteArray × Int × Bool) := (armadaref08_Check.f k a0).bind fun t120 => (if t120 = true then ((armadaref05_Split.f k a0 47).bind fun t121 => (if 0 ≤ (wrap64 ((t121.length : Int) - 1)) then (if (wrap64 ((t121.length : Int) - 1)) < (t121.length : Int) then ((armadaref08_tells.f k (rdOf ByteArray.empty t121 (wrap64 ((t121.length : Int) - 1)))).bind fun t125 => (if t125 = true then ((armadaref08_Base.f k a0).bind fun t126 => ((armadaref08_number.f k (rdOf ByteArray.empty t121 (wrap64 ((t121.length : Int) - 1)))).bind fun t127 => (some (t126, t127, true)))) else (some (a0, 0, true)))) else (none)) else (none))) else (some ((⟨#[]⟩ : ByteArray), 0, false)))
set_option maxHeartbeats 8000000 in
set_option maxRecDepth 100000 in
theorem armadaref08_Major.calls (k : Nat) (a0 : ByteArray) (r1 : ByteArray) (r2 : Int) (r3 : Bool) (w : World) (h : armadaref08_Major.f k a0 = some (r1, r2, r3)) :
  Calls Tryz.prog 28 #[.string a0] w fun e w' => e = .returned (.tuple #[.string r1, .int .i64 r2, .bool r3]) ∧ Below w.heap.size w w' := by
 have HB := Aside0.mk (Below.refl w.heap.size w); have H : ((armadaref08_Check.f k a0).bind fun t120 => (if t120 = true then ((armadaref05_Split.f k a0 47).bind fun t121 => (if 0 ≤ (wrap64 ((t121.length : Int) - 1)) then (if (wrap64 ((t121.length : Int) - 1)) < (t121.length : Int) then ((armadaref08_tells.f k (rdOf ByteArray.empty t121 (wrap64 ((t121.length : Int) - 1)))).bind fun t125 => (if t125 = true then ((armadaref08_Base.f k a0).bind fun t126 => ((armadaref08_number.f k (rdOf ByteArray.empty t121 (wrap64 ((t121.length : Int) - 1)))).bind fun t127 => (some (t126, t127, true)))) else (some (a0, 0, true)))) else (none)) else (none))) else (some ((⟨#[]⟩ : ByteArray), 0, false)))) = some (r1, r2, r3) := h; clear h; replace H := xb H; obtain ⟨t120, A2, H⟩ := H
 by_cases c3 : t120 = true
 ·
  subst c3; rw [if_pos rfl] at H; replace H := xb H; obtain ⟨t121, A4, H⟩ := H; obtain ⟨ji5, hji5⟩ : ∃ j_ : Int, (wrap64 ((t121.length : Int) - 1)) = j_ := ⟨_, rfl⟩
  replace H : (if 0 ≤ (ji5) then (if (ji5) < (t121.length : Int) then ((armadaref08_tells.f k (rdOf ByteArray.empty t121 (ji5))).bind fun t125 => (if t125 = true then ((armadaref08_Base.f k a0).bind fun t126 => ((armadaref08_number.f k (rdOf ByteArray.empty t121 (ji5))).bind fun t127 => (some (t126, t127, true)))) else (some (a0, 0, true)))) else (none)) else (none)) = some (r1, r2, r3) := by first | (rw [hji5] at H; exact H) | (simp only [hji5] at H ⊢; exact H)
  (try rw [hji5] at A2)
  (try rw [hji5] at A4)
  have hji5w : (IntKind.i64.wrap ((t121.length : Int) - 1)) = ji5 := (i64_w _).trans hji5; replace H := xI H; obtain ⟨c6, H⟩ := H; replace c6 := decide_eq_true c6; replace H := xI H; obtain ⟨c7, H⟩ := H; replace c7 := decide_eq_true c7; replace H := xb H; obtain ⟨t125, A8, H⟩ := H
  by_cases c9 : t125 = true
  ·
   subst c9; rw [if_pos rfl] at H; replace H := xb H; obtain ⟨t126, A10, H⟩ := H; replace H := xb H; obtain ⟨t127, A11, H⟩ := H; simp only [Option.some.injEq, Prod.mk.injEq] at H; obtain ⟨rfl, rfl, rfl⟩ := H; go_enter Tryz.func28, Tryz.ntmps28; go_wp2_with (first | ((with_reducible refine gate_callee (f := 59) rfl ?_); refine goesL_ (some 8) rfl rfl Tryz.func59 (by kernel_rfl) rfl #[.string a0] rfl xS ?_; (with_reducible refine (armadaref08_Check.calls k a0 true _ A2.out).mono ?_); rintro e w12 ⟨rfl, hb⟩; refine ⟨_, rfl, ?_⟩; replace HB := Aside0.mk (below_step xB hb); (try clear hb)) | ((with_reducible refine gate_callee (f := 60) rfl ?_); refine goesL_ (some 11) rfl rfl Tryz.func60 (by kernel_rfl) rfl #[.string a0, .int .u8 47] rfl xS ?_; (with_reducible refine (armadaref05_Split.calls k a0 47 t121 _ A4.out).mono ?_); rintro e w13 ⟨v122, rfl, ho0, hb⟩; refine ⟨_, rfl, ?_⟩; have HO123 := Aside0.mk (Kd.R_lower ho0 (below_size xB)); replace HB := Aside0.mk (below_step xB hb); (try clear hb); (try clear ho0); obtain ⟨Ao14, co14, eo14⟩ := Kd.R_slice HO123.out; subst eo14; obtain ⟨p124, q124, ad124, e124, hx124_0⟩ := xT (Kd.at_string (Kd.R_reads' HO123.out).2.2 (ji5)); cases e124) | ((with_reducible refine gate_callee (f := 61) rfl ?_); refine goesL_ (some 19) rfl rfl Tryz.func61 (by kernel_rfl) rfl #[.string (rdOf ByteArray.empty t121 (ji5))] rfl (by (try simp only [List.map_toArray, List.map_cons, List.map_nil]); first | done | (simp only [hji5]; rfl) | rfl | (simp only [List.length_drop, List.length_take]; rfl)) ?_; (with_reducible refine (armadaref08_tells.calls k (rdOf ByteArray.empty t121 (ji5)) true _ A8.out).mono ?_); rintro e w' ⟨rfl, ⟨nd, rfl⟩⟩; refine ⟨_, rfl, ?_⟩) | ((with_reducible refine gate_callee (f := 62) rfl ?_); refine goesL_ (some 23) rfl rfl Tryz.func62 (by kernel_rfl) rfl #[.string a0] rfl xS ?_; (with_reducible refine (armadaref08_Base.calls k a0 t126 _ A10.out).mono ?_); rintro e w' ⟨rfl, ⟨nd, rfl⟩⟩; refine ⟨_, rfl, ?_⟩) | ((with_reducible refine gate_callee (f := 63) rfl ?_); refine goesL_ (some 25) rfl rfl Tryz.func63 (by kernel_rfl) rfl #[.string (rdOf ByteArray.empty t121 (ji5))] rfl (by (try simp only [List.map_toArray, List.map_cons, List.map_nil]); first | done | (simp only [hji5]; rfl) | rfl | (simp only [List.length_drop, List.length_take]; rfl)) ?_; (with_reducible refine (armadaref08_number.calls k (rdOf ByteArray.empty t121 (ji5)) t127 _ A11.out).mono ?_); rintro e w' ⟨rfl, ⟨nd, rfl⟩⟩; refine ⟨_, rfl, ?_⟩)); go_ret3; exact ⟨by first | rfl | (simp [errW_none, errW_some] <;> rfl) | (simp only [← hji5]; first | rfl | (simp [errW_none, errW_some] <;> rfl)) | (simp [*, errW_none, errW_some] <;> rfl), xB⟩
  replace c9 := Bool.eq_false_iff.mpr c9; subst c9; rw [if_neg (show ¬ (false = true) by decide)] at H; simp only [Option.some.injEq, Prod.mk.injEq] at H; obtain ⟨rfl, rfl, rfl⟩ := H; go_enter Tryz.func28, Tryz.ntmps28; go_wp2_with (first | ((with_reducible refine gate_callee (f := 59) rfl ?_); refine goesL_ (some 8) rfl rfl Tryz.func59 (by kernel_rfl) rfl #[.string a0] rfl xS ?_; (with_reducible refine (armadaref08_Check.calls k a0 true _ A2.out).mono ?_); rintro e w15 ⟨rfl, hb⟩; refine ⟨_, rfl, ?_⟩; replace HB := Aside0.mk (below_step xB hb); (try clear hb)) | ((with_reducible refine gate_callee (f := 60) rfl ?_); refine goesL_ (some 11) rfl rfl Tryz.func60 (by kernel_rfl) rfl #[.string a0, .int .u8 47] rfl xS ?_; (with_reducible refine (armadaref05_Split.calls k a0 47 t121 _ A4.out).mono ?_); rintro e w16 ⟨v122, rfl, ho0, hb⟩; refine ⟨_, rfl, ?_⟩; have HO123 := Aside0.mk (Kd.R_lower ho0 (below_size xB)); replace HB := Aside0.mk (below_step xB hb); (try clear hb); (try clear ho0); obtain ⟨Ao17, co17, eo17⟩ := Kd.R_slice HO123.out; subst eo17; obtain ⟨p124, q124, ad124, e124, hx124_0⟩ := xT (Kd.at_string (Kd.R_reads' HO123.out).2.2 (ji5)); cases e124) | ((with_reducible refine gate_callee (f := 61) rfl ?_); refine goesL_ (some 19) rfl rfl Tryz.func61 (by kernel_rfl) rfl #[.string (rdOf ByteArray.empty t121 (ji5))] rfl (by (try simp only [List.map_toArray, List.map_cons, List.map_nil]); first | done | (simp only [hji5]; rfl) | rfl | (simp only [List.length_drop, List.length_take]; rfl)) ?_; (with_reducible refine (armadaref08_tells.calls k (rdOf ByteArray.empty t121 (ji5)) false _ A8.out).mono ?_); rintro e w' ⟨rfl, ⟨nd, rfl⟩⟩; refine ⟨_, rfl, ?_⟩)); go_ret3; exact ⟨by first | rfl | (simp [errW_none, errW_some] <;> rfl) | (simp only [← hji5]; first | rfl | (simp [errW_none, errW_some] <;> rfl)) | (simp [*, errW_none, errW_some] <;> rfl), xB⟩
 replace c3 := Bool.eq_false_iff.mpr c3; subst c3; rw [if_neg (show ¬ (false = true) by decide)] at H; simp only [Option.some.injEq, Prod.mk.injEq] at H; obtain ⟨rfl, rfl, rfl⟩ := H; go_enter Tryz.func28, Tryz.ntmps28; go_wp2_with (first | ((with_reducible refine gate_callee (f := 59) rfl ?_); refine goesL_ (some 8) rfl rfl Tryz.func59 (by kernel_rfl) rfl #[.string a0] rfl xS ?_; (with_reducible refine (armadaref08_Check.calls k a0 false _ A2.out).mono ?_); rintro e w18 ⟨rfl, hb⟩; refine ⟨_, rfl, ?_⟩; replace HB := Aside0.mk (below_step xB hb); (try clear hb))); go_ret3; exact ⟨xW, xB⟩
def armadaref07_num.f (a0 : Int) : Option (Bool) := if a0 ≥ 0 then (some (decide (a0 ≤ 999999999))) else (some false)
set_option maxHeartbeats 8000000 in
set_option maxRecDepth 100000 in
theorem armadaref07_num.calls (a0 : Int) (r : Bool) (w : World) (h : armadaref07_num.f a0 = some r) :
  Calls Tryz.prog 69 #[.int .i64 a0] w fun e w' => e = .returned (.bool r) ∧ Drawn0 w w' := by
 have H : (if a0 ≥ 0 then (some (decide (a0 ≤ 999999999))) else (some false)) = some r := h; clear h; replace H := xJ H; rcases H with ⟨c2, H⟩ | ⟨c2, H⟩
 ·
  have c2b0 := decide_eq_true c2; clear c2; obtain rfl := Option.some.inj H; go_enter Tryz.func69, Tryz.ntmps69; go_wp2; go_ret; exact ⟨xR, xG⟩
 have c2b0 := decide_eq_false c2; clear c2; obtain rfl := Option.some.inj H; go_enter Tryz.func69, Tryz.ntmps69; go_wp2; go_ret; exact ⟨xR, xG⟩
def armadaref07_digits.l0 : Nat → ByteArray → Int → Option (Bool)
 | 0, _, _ => none
 | k + 1, x0, x3 => if x3 < (x0.size : Int) then (if 0 ≤ x3 then (if (bt x0 x3) < 48 then (some false) else (if (bt x0 x3) > 57 then (some false) else (armadaref07_digits.l0 k x0 (wrap64 (x3 + 1))))) else (none)) else (some (x0.toList != ([] : List UInt8)))
def armadaref07_digits.f (k : Nat) (a0 : ByteArray) : Option (Bool) := armadaref07_digits.l0 k a0 0
set_option maxHeartbeats 8000000 in
set_option maxRecDepth 100000 in
theorem armadaref07_digits.calls (k : Nat) (a0 : ByteArray) (r : Bool) (w : World) (h : armadaref07_digits.f k a0 = some r) :
  Calls Tryz.prog 107 #[.string a0] w fun e w' => e = .returned (.bool r) ∧ Drawn0 w w' := by
 have H : (armadaref07_digits.l0 k a0 0) = some r := h; clear h; have H' := Aside0.mk H; clear H; go_enter Tryz.func107, Tryz.ntmps107; go_wp2
 go_loopg [3] k (fun kq v3 w' => ∃ (x3_1 : Int), v3 = .int .i64 x3_1 ∧ Aside0 (armadaref07_digits.l0 kq a0 x3_1 = some r) ∧ Aside0 (kq ≤ k) ∧ Drawn0 w w')
 case atStart => exact ⟨(0), xR, H', ⟨Nat.le_refl _⟩, by repeat (first | exact Drawn0.refl _ | apply Drawn0.step)⟩
 case round =>
  clear H'
  try clear c1
  obtain ⟨x3_1, rfl, HA, HK1, ⟨m1, rfl⟩⟩ := hrel
  cases gk with
  | zero => exact absurd HA.out (by simp [armadaref07_digits.l0])
  | succ k1 =>
   have H := HA.out; clear HA; simp only [armadaref07_digits.l0] at H; replace H := xJ H; rcases H with ⟨c2, H⟩ | ⟨c2, H⟩
   ·
    have c2b0 := decide_eq_true c2; clear c2; replace H := xI H; obtain ⟨c3, H⟩ := H; replace c3 := decide_eq_true c3; replace H := xJ H; rcases H with ⟨c5, H⟩ | ⟨c5, H⟩
    ·
     replace c5 := decide_eq_true c5; obtain rfl := Option.some.inj H; obtain ⟨p4, q4, hx4⟩ := xV a0 x3_1; go_wp2; go_ret; exact ⟨xR, xG⟩
    replace c5 := decide_eq_false c5; replace H := xJ H; rcases H with ⟨c7, H⟩ | ⟨c7, H⟩
    ·
     replace c7 := decide_eq_true c7; obtain rfl := Option.some.inj H; obtain ⟨p4, q4, hx4⟩ := xV a0 x3_1; obtain ⟨p6, q6, hx6⟩ := xV a0 x3_1; go_wp2; go_ret; exact ⟨xR, xG⟩
    replace c7 := decide_eq_false c7; have H' := Aside0.mk H; clear H; obtain ⟨p4, q4, hx4⟩ := xV a0 x3_1; obtain ⟨p6, q6, hx6⟩ := xV a0 x3_1; go_wp2; go_roundg k1
    case measure => exact xO1
    case rel => exact ⟨(wrap64 (x3_1 + 1)), xR, H', ⟨xO1⟩, by repeat (first | exact Drawn0.refl _ | apply Drawn0.step)⟩
   have c2b0 := decide_eq_false c2; clear c2; obtain rfl := Option.some.inj H; go_wp2; go_ret; exact ⟨xR, xG⟩
end Go.Proofs.YtillhaipemengaaGreatDoor.RD
end
