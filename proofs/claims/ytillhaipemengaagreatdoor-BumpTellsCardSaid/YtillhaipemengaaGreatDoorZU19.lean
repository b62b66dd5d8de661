/- The texts R3x1, R3x, ByPre, R4x0 in one file, without what these claims do not use (put together by prune2.py). -/
import Derived.Test.YtillhaipemengaaGreatDoorZU3
import Derived.Test.YtillhaipemengaaGreatDoorZU18
import Derived.Test.YtillhaipemengaaGreatDoorZU8
import Derived.Test.YtillhaipemengaaGreatDoorZU9
import Derived.Shelf.Abstract
import Derived.Test.YtillhaipemengaaGreatDoorZU4
import Derived.Test.YtillhaipemengaaGreatDoorZU6
section
namespace Go.Proofs.YtillhaipemengaaGreatDoor.R3
open Go.RowKit Go.Proofs.YtillhaipemengaaGreatDoor Go.Proofs.YtillhaipemengaaGreatDoor.K0 Go.Proofs.YtillhaipemengaaGreatDoor.R1 Go.Proofs.YtillhaipemengaaGreatDoorW.PrintWords Go.Proofs.YtillhaipemengaaGreatDoorW.PrintLast Go.Proofs.YtillhaipemengaaGreatDoorW.PrintMore
attribute [local go_sem] max2_int min2_int max_two min_two max_three min_three max_four min_four
set_option linter.unusedVariables false
set_option linter.unusedSimpArgs false
def cmp_Or_int.l0 : Nat → Int → List Int → Int → Int → Option (Int)
 | 0, _, _, _, _ => none
 | k + 1, x3, x6, x7, x8 => if x8 < x7 then (if 0 ≤ x8 then (if x8 < (x6.length : Int) then (if (rd x6 x8) = x3 then (cmp_Or_int.l0 k x3 x6 x7 (wrap64 (x8 + 1))) else (some (rd x6 x8))) else (none)) else (none)) else (some x3)
def cmp_Or_int.f (k : Nat) (l0 : List Int) : Option (Int) := cmp_Or_int.l0 k 0 l0 (l0.length : Int) 0
set_option maxHeartbeats 8000000 in
set_option maxRecDepth 100000 in
theorem cmp_Or_int.calls (k : Nat) (A0 : Option Addr) (c0 : Nat) (l0 : List Int) (r : Int) (w : World) (hr0 : Kd.C (Kd.int .i64) w A0 l0.length l0) (hc0 : l0.length ≤ c0) (h : cmp_Or_int.f k l0 = some r) :
  Calls Tryz.prog 101 #[.slice A0 l0.length c0] w fun e w' => e = .returned (.int .i64 r) ∧ Drawn0 w w' := by
 have HR0 := Aside0.mk hr0; have HC0 := Aside0.mk hc0; clear hr0 hc0; have H : (cmp_Or_int.l0 k 0 l0 (l0.length : Int) 0) = some r := h; clear h; have H' := Aside0.mk H; clear H; go_enter Tryz.func101, Tryz.ntmps101; go_wp2
 go_loopg [8] k (fun kq v8 w' => ∃ (x8_1 : Int), v8 = .int .i64 x8_1 ∧ Aside0 (cmp_Or_int.l0 kq 0 l0 (l0.length : Int) x8_1 = some r) ∧ Aside0 (kq ≤ k) ∧ Drawn0 w w')
 case atStart => exact ⟨(0), xR, H', ⟨Nat.le_refl _⟩, by repeat (first | exact Drawn0.refl _ | apply Drawn0.step)⟩
 case round =>
  clear H'
  try clear c1
  obtain ⟨x8_1, rfl, HA, HK1, ⟨m1, rfl⟩⟩ := hrel
  cases gk with
  | zero => exact absurd HA.out (by simp [cmp_Or_int.l0])
  | succ k1 =>
   have H := HA.out; clear HA; simp only [cmp_Or_int.l0] at H; replace H := xJ H; rcases H with ⟨c2, H⟩ | ⟨c2, H⟩
   ·
    replace c2 := decide_eq_true c2; replace H := xI H; obtain ⟨c3, H⟩ := H; replace c3 := decide_eq_true c3; replace H := xI H; obtain ⟨c4, H⟩ := H; replace c4 := decide_eq_true c4; replace H := xJ H; rcases H with ⟨c5, H⟩ | ⟨c5, H⟩
    ·
     have c5b0 := beq_iff_eq.mpr c5; have c5b1 := bne_eq_false_iff_eq.mpr c5; clear c5; have H' := Aside0.mk H; clear H; obtain ⟨p101, q101, ad101, e101, hx101_0⟩ := xT (Kd.at_int HR0.out x8_1)
     cases e101
     go_wp2; go_roundg k1
     case measure => exact xO1
     case rel => exact ⟨(wrap64 (x8_1 + 1)), xR, H', ⟨xO1⟩, by repeat (first | exact Drawn0.refl _ | apply Drawn0.step)⟩
    have c5b0 := beq_eq_false_iff_ne.mpr c5; have c5b1 := bne_iff_ne.mpr c5; obtain rfl := Option.some.inj H; obtain ⟨p101, q101, ad101, e101, hx101_0⟩ := xT (Kd.at_int HR0.out x8_1)
    cases e101
    go_wp2; go_ret; exact ⟨xR, xG⟩
   replace c2 := decide_eq_false c2; obtain rfl := Option.some.inj H; go_wp2; go_ret; exact ⟨xR, xG⟩
def cmp_isNaN_int.f (a0 : Int) : Option (Bool) := some (a0 != a0)
set_option maxHeartbeats 8000000 in
set_option maxRecDepth 100000 in
theorem cmp_isNaN_int.calls (a0 : Int) (r : Bool) (w : World) (h : cmp_isNaN_int.f a0 = some r) :
  Calls Tryz.prog 133 #[.int .i64 a0] w fun e w' => e = .returned (.bool r) ∧ Drawn0 w w' := by
 have H : (some (a0 != a0)) = some r := h; clear h; obtain rfl := Option.some.inj H; go_enter Tryz.func133, Tryz.ntmps133; go_wp2; go_ret; exact ⟨xR, xG⟩
def cmp_Compare_int.f (a0 : Int) (a1 : Int) : Option (Int) := (cmp_isNaN_int.f a0).bind fun t102 => ((cmp_isNaN_int.f a1).bind fun t103 => (if t102 = true then (if t103 = true then (some 0) else (some (-1))) else (if t103 = true then (some 1) else (if a0 < a1 then (some (-1)) else (if a0 > a1 then (some 1) else (some 0))))))
set_option maxHeartbeats 8000000 in
set_option maxRecDepth 100000 in
theorem cmp_Compare_int.calls (a0 : Int) (a1 : Int) (r : Int) (w : World) (h : cmp_Compare_int.f a0 a1 = some r) :
  Calls Tryz.prog 102 #[.int .i64 a0, .int .i64 a1] w fun e w' => e = .returned (.int .i64 r) ∧ Drawn0 w w' := by
 have H : ((cmp_isNaN_int.f a0).bind fun t102 => ((cmp_isNaN_int.f a1).bind fun t103 => (if t102 = true then (if t103 = true then (some 0) else (some (-1))) else (if t103 = true then (some 1) else (if a0 < a1 then (some (-1)) else (if a0 > a1 then (some 1) else (some 0))))))) = some r := h; clear h; replace H := xb H; obtain ⟨t102, A3, H⟩ := H; replace H := xb H; obtain ⟨t103, A4, H⟩ := H
 by_cases c5 : t102 = true
 ·
  subst c5; rw [if_pos rfl] at H
  by_cases c6 : t103 = true
  ·
   subst c6; rw [if_pos rfl] at H; obtain rfl := Option.some.inj H; go_enter Tryz.func102, Tryz.ntmps102; go_wp2_with (first | ((with_reducible refine gate_callee (f := 133) rfl ?_); refine goesL_ (some 8) rfl rfl Tryz.func133 (by kernel_rfl) rfl #[.int .i64 a0] rfl xS ?_; (with_reducible refine (cmp_isNaN_int.calls a0 true _ A3.out).mono ?_); rintro e w' ⟨rfl, ⟨nd, rfl⟩⟩; refine ⟨_, rfl, ?_⟩) | ((with_reducible refine gate_callee (f := 133) rfl ?_); refine goesL_ (some 10) rfl rfl Tryz.func133 (by kernel_rfl) rfl #[.int .i64 a1] rfl xS ?_; (with_reducible refine (cmp_isNaN_int.calls a1 true _ A4.out).mono ?_); rintro e w' ⟨rfl, ⟨nd, rfl⟩⟩; refine ⟨_, rfl, ?_⟩)); go_ret; exact ⟨xR, xG⟩
  replace c6 := Bool.eq_false_iff.mpr c6; subst c6; rw [if_neg (show ¬ (false = true) by decide)] at H; obtain rfl := Option.some.inj H; go_enter Tryz.func102, Tryz.ntmps102; go_wp2_with (first | ((with_reducible refine gate_callee (f := 133) rfl ?_); refine goesL_ (some 8) rfl rfl Tryz.func133 (by kernel_rfl) rfl #[.int .i64 a0] rfl xS ?_; (with_reducible refine (cmp_isNaN_int.calls a0 true _ A3.out).mono ?_); rintro e w' ⟨rfl, ⟨nd, rfl⟩⟩; refine ⟨_, rfl, ?_⟩) | ((with_reducible refine gate_callee (f := 133) rfl ?_); refine goesL_ (some 10) rfl rfl Tryz.func133 (by kernel_rfl) rfl #[.int .i64 a1] rfl xS ?_; (with_reducible refine (cmp_isNaN_int.calls a1 false _ A4.out).mono ?_); rintro e w' ⟨rfl, ⟨nd, rfl⟩⟩; refine ⟨_, rfl, ?_⟩)); go_ret; exact ⟨xR, xG⟩
 replace c5 := Bool.eq_false_iff.mpr c5; subst c5; rw [if_neg (show ¬ (false = true) by decide)] at H
 by_cases c7 : t103 = true
 ·
  subst c7; rw [if_pos rfl] at H; obtain rfl := Option.some.inj H; go_enter Tryz.func102, Tryz.ntmps102; go_wp2_with (first | ((with_reducible refine gate_callee (f := 133) rfl ?_); refine goesL_ (some 8) rfl rfl Tryz.func133 (by kernel_rfl) rfl #[.int .i64 a0] rfl xS ?_; (with_reducible refine (cmp_isNaN_int.calls a0 false _ A3.out).mono ?_); rintro e w' ⟨rfl, ⟨nd, rfl⟩⟩; refine ⟨_, rfl, ?_⟩) | ((with_reducible refine gate_callee (f := 133) rfl ?_); refine goesL_ (some 10) rfl rfl Tryz.func133 (by kernel_rfl) rfl #[.int .i64 a1] rfl xS ?_; (with_reducible refine (cmp_isNaN_int.calls a1 true _ A4.out).mono ?_); rintro e w' ⟨rfl, ⟨nd, rfl⟩⟩; refine ⟨_, rfl, ?_⟩)); go_ret; exact ⟨xR, xG⟩
 replace c7 := Bool.eq_false_iff.mpr c7; subst c7; rw [if_neg (show ¬ (false = true) by decide)] at H; replace H := xJ H; rcases H with ⟨c8, H⟩ | ⟨c8, H⟩
 ·
  replace c8 := decide_eq_true c8; obtain rfl := Option.some.inj H; go_enter Tryz.func102, Tryz.ntmps102; go_wp2_with (first | ((with_reducible refine gate_callee (f := 133) rfl ?_); refine goesL_ (some 8) rfl rfl Tryz.func133 (by kernel_rfl) rfl #[.int .i64 a0] rfl xS ?_; (with_reducible refine (cmp_isNaN_int.calls a0 false _ A3.out).mono ?_); rintro e w' ⟨rfl, ⟨nd, rfl⟩⟩; refine ⟨_, rfl, ?_⟩) | ((with_reducible refine gate_callee (f := 133) rfl ?_); refine goesL_ (some 10) rfl rfl Tryz.func133 (by kernel_rfl) rfl #[.int .i64 a1] rfl xS ?_; (with_reducible refine (cmp_isNaN_int.calls a1 false _ A4.out).mono ?_); rintro e w' ⟨rfl, ⟨nd, rfl⟩⟩; refine ⟨_, rfl, ?_⟩)); go_ret; exact ⟨xR, xG⟩
 replace c8 := decide_eq_false c8; replace H := xJ H; rcases H with ⟨c9, H⟩ | ⟨c9, H⟩
 ·
  replace c9 := decide_eq_true c9; obtain rfl := Option.some.inj H; go_enter Tryz.func102, Tryz.ntmps102; go_wp2_with (first | ((with_reducible refine gate_callee (f := 133) rfl ?_); refine goesL_ (some 8) rfl rfl Tryz.func133 (by kernel_rfl) rfl #[.int .i64 a0] rfl xS ?_; (with_reducible refine (cmp_isNaN_int.calls a0 false _ A3.out).mono ?_); rintro e w' ⟨rfl, ⟨nd, rfl⟩⟩; refine ⟨_, rfl, ?_⟩) | ((with_reducible refine gate_callee (f := 133) rfl ?_); refine goesL_ (some 10) rfl rfl Tryz.func133 (by kernel_rfl) rfl #[.int .i64 a1] rfl xS ?_; (with_reducible refine (cmp_isNaN_int.calls a1 false _ A4.out).mono ?_); rintro e w' ⟨rfl, ⟨nd, rfl⟩⟩; refine ⟨_, rfl, ?_⟩)); go_ret; exact ⟨xR, xG⟩
 replace c9 := decide_eq_false c9; obtain rfl := Option.some.inj H; go_enter Tryz.func102, Tryz.ntmps102; go_wp2_with (first | ((with_reducible refine gate_callee (f := 133) rfl ?_); refine goesL_ (some 8) rfl rfl Tryz.func133 (by kernel_rfl) rfl #[.int .i64 a0] rfl xS ?_; (with_reducible refine (cmp_isNaN_int.calls a0 false _ A3.out).mono ?_); rintro e w' ⟨rfl, ⟨nd, rfl⟩⟩; refine ⟨_, rfl, ?_⟩) | ((with_reducible refine gate_callee (f := 133) rfl ?_); refine goesL_ (some 10) rfl rfl Tryz.func133 (by kernel_rfl) rfl #[.int .i64 a1] rfl xS ?_; (with_reducible refine (cmp_isNaN_int.calls a1 false _ A4.out).mono ?_); rintro e w' ⟨rfl, ⟨nd, rfl⟩⟩; refine ⟨_, rfl, ?_⟩)); go_ret; exact ⟨xR, xG⟩
def ver_byWord.j0 : Nat → ByteArray → ByteArray → Bool → Bool → Bool → Option (Int)
 | 0, _, _, _, _, _ => none
 | k + 1, x0, x1, x5, x6, x11 => if x11 = true then ((cmp_Compare_int.f (x0.size : Int) (x1.size : Int)).bind fun t106 => ((strings_Compare.f x0 x1).bind fun t107 => ((cmp_Or_int.f k (([t106, t107] : List Int))).bind fun t111 => (some t111)))) else (if x5 = true then (some (-1)) else (if x6 = true then (some 1) else ((strings_Compare.f x0 x1).bind fun t112 => (some t112))))
def ver_byWord.f (k : Nat) (a0 : ByteArray) (a1 : ByteArray) : Option (Int) := (ver_digits.f k a0).bind fun t104 => ((ver_digits.f k a1).bind fun t105 => (if t104 = true then (ver_byWord.j0 k a0 a1 t104 t105 t105) else (ver_byWord.j0 k a0 a1 t104 t105 false)))
set_option maxHeartbeats 8000000 in
set_option maxRecDepth 100000 in
theorem ver_byWord.calls (k : Nat) (a0 : ByteArray) (a1 : ByteArray) (r : Int) (w : World) (h : ver_byWord.f k a0 a1 = some r) :
  Calls Tryz.prog 135 #[.string a0, .string a1] w fun e w' => e = .returned (.int .i64 r) ∧ Below w.heap.size w w' := by
 have HB := Aside0.mk (Below.refl w.heap.size w); have H : ((ver_digits.f k a0).bind fun t104 => ((ver_digits.f k a1).bind fun t105 => (if t104 = true then (ver_byWord.j0 k a0 a1 t104 t105 t105) else (ver_byWord.j0 k a0 a1 t104 t105 false)))) = some r := h; clear h; replace H := xb H; obtain ⟨t104, A3, H⟩ := H; replace H := xb H; obtain ⟨t105, A4, H⟩ := H; have HC5 := Aside0.mk H; clear H; go_enter Tryz.func135, Tryz.ntmps135; go_upto_region 2 with (first | ((with_reducible refine gate_callee (f := 106) rfl ?_); refine goesL_ (some 8) rfl rfl Tryz.func106 (by kernel_rfl) rfl #[.string a0] rfl xS ?_; (with_reducible refine (ver_digits.calls k a0 t104 _ A3.out).mono ?_); rintro e w' ⟨rfl, ⟨nd, rfl⟩⟩; refine ⟨_, rfl, ?_⟩) | ((with_reducible refine gate_callee (f := 106) rfl ?_); refine goesL_ (some 10) rfl rfl Tryz.func106 (by kernel_rfl) rfl #[.string a1] rfl xS ?_; (with_reducible refine (ver_digits.calls k a1 t105 _ A4.out).mono ?_); rintro e w' ⟨rfl, ⟨nd, rfl⟩⟩; refine ⟨_, rfl, ?_⟩))
 (try simp only [Act.put, z1, z2, z3])
 go_cut [11] (fun v11 wc => ∃ (kq : Nat) (x11_4 : Bool), v11 = .bool x11_4 ∧ Aside0 (ver_byWord.j0 kq a0 a1 t104 t105 x11_4 = some r) ∧ Aside0 (kq ≤ k) ∧ Aside0 (Below w.heap.size w wc))
 case first =>
  have H := HC5.out; clear HC5
  by_cases c6 : t104 = true
  ·
   subst c6; rw [if_pos rfl] at H; have H' := Aside0.mk H; clear H; go_wp2; go_meet
   case rel => exact ⟨_, (t105), xR, H', ⟨by first | omega | exact Nat.le_refl _⟩, ⟨xB⟩⟩
  replace c6 := Bool.eq_false_iff.mpr c6; subst c6; rw [if_neg (show ¬ (false = true) by decide)] at H; have H' := Aside0.mk H; clear H; go_wp2; go_meet
  case rel => exact ⟨_, (false), xR, H', ⟨by first | omega | exact Nat.le_refl _⟩, ⟨xB⟩⟩
 case rest =>
  clear HC5
  try clear c1
  try clear p2
  try clear c6
  obtain ⟨kq, x11_4, rfl, HA, HJ4, HB⟩ := hcut
  cases kq with
  | zero => exact absurd HA.out (by simp [ver_byWord.j0])
  | succ kj4 =>
   have H := HA.out; clear HA; simp only [ver_byWord.j0] at H
   by_cases c7 : x11_4 = true
   ·
    subst c7; rw [if_pos rfl] at H; replace H := xb H; obtain ⟨t106, A8, H⟩ := H; replace H := xb H; obtain ⟨t107, A9, H⟩ := H; obtain ⟨y108, hy108⟩ : ∃ y_ : List Int, y_ = (([t106, t107] : List Int)) := ⟨_, rfl⟩
    replace H : ((cmp_Or_int.f kj4 y108).bind fun t111 => (some t111)) = some r := by first | (rw [hy108]; with_reducible exact H) | (have H2_ := (Option.bind_some _ _).symm.trans H; rw [hy108]; with_reducible exact H2_) | (have H2_ := (Option.bind_some _ _).symm.trans H; with_reducible exact H2_) | with_reducible exact H | (rw [hy108]; exact H) | exact H
    have Ny108 := Aside0.mk hy108; clear hy108; replace H := xb H; obtain ⟨t111, A10, H⟩ := H; obtain rfl := Option.some.inj H; go_wp2_with (first | ((with_reducible refine gate_callee (f := 102) rfl ?_); refine goesL_ (some 20) rfl rfl Tryz.func102 (by kernel_rfl) rfl #[.int .i64 (a0.size : Int), .int .i64 (a1.size : Int)] rfl xS ?_; (with_reducible refine (cmp_Compare_int.calls (a0.size : Int) (a1.size : Int) t106 _ A8.out).mono ?_); rintro e w' ⟨rfl, ⟨nd, rfl⟩⟩; refine ⟨_, rfl, ?_⟩) | ((with_reducible refine gate_callee (f := 158) rfl ?_); refine goesL_ (some 23) rfl rfl Tryz.func158 (by kernel_rfl) rfl #[.string a0, .string a1] rfl xS ?_; (with_reducible refine (strings_Compare.calls a0 a1 t107 _ A9.out).mono ?_); rintro e w' ⟨rfl, ⟨nd, rfl⟩⟩; refine ⟨_, rfl, ?_⟩) | ((with_reducible refine gate_dst (N := 24) rfl ?_); refine Kd.R_lit (Kd.int .i64) _ 3 ?hg (N := 24) ?hd (xs := ([t106, t107] : List Int)) (inner := [.int .i64 t106, .int .i64 t107]) (ok := fun _ => True) (okp := fun _ => True) ?hr ?hp (fun _ hk => hk) trivial (Below.refl _ _) (Nat.le_refl _) (by simp) ?_; (case hd => rfl); (case hg => rfl); (case hr => first | (go_simp; done) | (go_simp; rfl)); (case hp => exact (Reps.one (show Kd.M (Kd.int .i64) _ _ _ t106 [.int .i64 t106] from rfl) (Reps.one (show Kd.M (Kd.int .i64) _ _ _ t107 [.int .i64 t107] from rfl) (Reps.none _ _)))); intro v109 w11 ho12 hb hg_ hnew_; clear hg_ hnew_; (first | rw [← Ny108.out] at ho12 | (simp only [Int.reduceToNat] at ho12; rw [← Ny108.out] at ho12)); have HO110 := Aside0.mk (Kd.R_lower ho12 (below_size xB)); replace HB := Aside0.mk (below_step xB hb); clear hb ho12; obtain ⟨Ao13, co13, eo13⟩ := Kd.R_slice HO110.out; subst eo13) | ((with_reducible refine gate_callee (f := 101) rfl ?_); refine goesL_ (some 25) rfl rfl Tryz.func101 (by kernel_rfl) rfl #[.slice Ao13 y108.length co13] rfl xS ?_; (with_reducible refine (cmp_Or_int.calls kj4 _ _ y108 t111 _ ?side1 ?side2 A10.out).mono ?_); (case side1 => repeat (first | exact (Kd.R_reads' HO110.out).2.2 | (with_reducible refine Kd.C_alloc ?_ _) | (with_reducible refine Kd.C_drewN ?_ _) | (with_reducible refine Kd.C_drew ?_))); (case side2 => exact (Kd.R_reads' HO110.out).2.1); rintro e w' ⟨rfl, ⟨nd, rfl⟩⟩; refine ⟨_, rfl, ?_⟩)); go_ret; exact ⟨xW, xB⟩
   replace c7 := Bool.eq_false_iff.mpr c7; subst c7; rw [if_neg (show ¬ (false = true) by decide)] at H
   by_cases c14 : t104 = true
   ·
    subst c14; rw [if_pos rfl] at H; obtain rfl := Option.some.inj H; go_wp2; go_ret; exact ⟨xW, xB⟩
   replace c14 := Bool.eq_false_iff.mpr c14; subst c14; rw [if_neg (show ¬ (false = true) by decide)] at H
   by_cases c15 : t105 = true
   ·
    subst c15; rw [if_pos rfl] at H; obtain rfl := Option.some.inj H; go_wp2; go_ret; exact ⟨xW, xB⟩
   replace c15 := Bool.eq_false_iff.mpr c15; subst c15; rw [if_neg (show ¬ (false = true) by decide)] at H; replace H := xb H; obtain ⟨t112, A16, H⟩ := H; obtain rfl := Option.some.inj H; go_wp2_with (first | ((with_reducible refine gate_callee (f := 158) rfl ?_); refine goesL_ (some 32) rfl rfl Tryz.func158 (by kernel_rfl) rfl #[.string a0, .string a1] rfl xS ?_; (with_reducible refine (strings_Compare.calls a0 a1 t112 _ A16.out).mono ?_); rintro e w' ⟨rfl, ⟨nd, rfl⟩⟩; refine ⟨_, rfl, ?_⟩)); go_ret; exact ⟨xW, xB⟩
end Go.Proofs.YtillhaipemengaaGreatDoor.R3
end

section
namespace Go.Proofs.YtillhaipemengaaGreatDoor.R3
open Go.RowKit Go.Proofs.YtillhaipemengaaGreatDoor Go.Proofs.YtillhaipemengaaGreatDoor.K0 Go.Proofs.YtillhaipemengaaGreatDoor.R1 Go.Proofs.YtillhaipemengaaGreatDoorW.PrintWords Go.Proofs.YtillhaipemengaaGreatDoorW.PrintLast Go.Proofs.YtillhaipemengaaGreatDoorW.PrintMore
attribute [local go_sem] max2_int min2_int max_two min_two max_three min_three max_four min_four
set_option linter.unusedVariables false
set_option linter.unusedSimpArgs false
end Go.Proofs.YtillhaipemengaaGreatDoor.R3
end

section
namespace Go.Proofs.YtillhaipemengaaGreatDoor
open Go Go.RowKit Go.Proofs Go.Proofs.YtillhaipemengaaGreatDoorW.PrintWords Go.Proofs.YtillhaipemengaaGreatDoor.K0 Go.Proofs.YtillhaipemengaaGreatDoor.R1 Go.Proofs.YtillhaipemengaaGreatDoor.R3
set_option linter.unusedVariables false
set_option linter.unusedSimpArgs false
def lcmp (cf : ByteArray → ByteArray → Int) : List ByteArray → List ByteArray → Int
  | [], [] => 0
  | [], _ :: _ => -1
  | _ :: _, [] => 1
  | x :: xs, y :: ys => orr (cf x y) (lcmp cf xs ys)
theorem lcmp_both (cf : ByteArray → ByteArray → Int) {xs ys : List ByteArray} {k : Nat} {x y : ByteArray} (hx : xs[k]? = some x) (hy : ys[k]? = some y) : lcmp cf (xs.drop k) (ys.drop k) = orr (cf x y) (lcmp cf (xs.drop (k + 1)) (ys.drop (k + 1))) := by
  obtain ⟨h1, e1⟩ := List.getElem?_eq_some_iff.1 hx
  obtain ⟨h2, e2⟩ := List.getElem?_eq_some_iff.1 hy
  rw [List.drop_eq_getElem_cons h1, List.drop_eq_getElem_cons h2, e1, e2]; rfl
theorem lcmp_more (cf : ByteArray → ByteArray → Int) {xs ys : List ByteArray} {k : Nat} (h1 : k < xs.length) (h2 : ys.length ≤ k) : lcmp cf (xs.drop k) (ys.drop k) = 1 := by
  rw [List.drop_eq_getElem_cons h1, List.drop_eq_nil_of_le h2]; rfl
theorem lcmp_less (cf : ByteArray → ByteArray → Int) {xs ys : List ByteArray} {k : Nat} (h1 : xs.length ≤ k) (h2 : k < ys.length) : lcmp cf (xs.drop k) (ys.drop k) = -1 := by
  rw [List.drop_eq_nil_of_le h1, List.drop_eq_getElem_cons h2]; rfl
theorem lcmp_end (cf : ByteArray → ByteArray → Int) {xs ys : List ByteArray} {k : Nat} (h1 : xs.length ≤ k) (h2 : ys.length ≤ k) : lcmp cf (xs.drop k) (ys.drop k) = 0 := by
  rw [List.drop_eq_nil_of_le h1, List.drop_eq_nil_of_le h2]; rfl
theorem lcmp_words : ∀ (xs ys : List ByteArray), lcmp (fun x y => wordCmp x.data.toList y.data.toList) xs ys = listCmp (xs.map fun x => x.data.toList) (ys.map fun x => x.data.toList)
  | [], [] => rfl
  | [], _ :: _ => rfl
  | _ :: _, [] => rfl
  | x :: xs, y :: ys => by
    show orr _ (lcmp _ xs ys) = _
    rw [lcmp_words xs ys]; rfl
set_option maxHeartbeats 4000000 in
/-- slices.CompareFunc over strings. -/
theorem CompareFunc_str (A B : Option Addr) (c d : Nat) (xs ys : List ByteArray) (cf : ByteArray → ByteArray → Int) (g : Nat) (eg : ∀ args w, (callFunc g args).run Tryz.prog w = .ok (.enter g args) w) (w : World)
    (h1 : Kd.C Kd.string w A xs.length xs) (h2 : Kd.C Kd.string w B ys.length ys)
    (hp : ∀ x y, x ∈ xs → y ∈ ys → ∀ W, Calls Tryz.prog g #[.string x, .string y] W fun e w' => e = .returned (.int .i64 (cf x y)) ∧ Below W.heap.size W w') :
    Calls Tryz.prog 134 #[.slice A xs.length c, .slice B ys.length d, .func (.func g) #[] #[]] w fun e w' => e = .returned (.int .i64 (lcmp cf xs ys)) ∧ Below w.heap.size w w' := by
  obtain ⟨n, hn⟩ : ∃ n, n = xs.length := ⟨_, rfl⟩
  obtain ⟨m, hm⟩ : ∃ m, m = ys.length := ⟨_, rfl⟩
  obtain ⟨z, hz⟩ : ∃ z, z = lcmp cf xs ys := ⟨_, rfl⟩
  rw [← hn] at h1 ⊢
  rw [← hm] at h2 ⊢
  rw [← hz]
  have big1 := h1.2.1
  have big2 := h2.2.1
  have HN := Aside0.mk hn
  have HM := Aside0.mk hm
  have HZ := Aside0.mk hz
  have H1 := Aside0.mk h1
  have H2 := Aside0.mk h2
  have HP := Aside0.mk hp
  clear hn hm hz h1 h2 hp
  go_enter Tryz.func134, Tryz.ntmps134
  go_wp2
  go_loopg [7, 8, 9, 10, 13] n (fun gg _ _ _ _ v13 wr => ∃ kk : Nat, kk ≤ n ∧ n - kk ≤ gg ∧ kk ≤ m ∧ v13 = .int .i64 kk ∧ Aside0 (Below w.heap.size w wr) ∧ Aside0 (z = lcmp cf (xs.drop kk) (ys.drop kk)))
  case atStart => exact ⟨0, Nat.zero_le _, by omega, Nat.zero_le _, rfl, Aside0.mk (Below.refl _ w), HZ⟩
  case round =>
    obtain ⟨kk, hkk, hg, hkm, rfl, BW, AS⟩ := hrel
    by_cases hlt : kk < n
    · have hltz : (kk : Int) < (n : Int) := by omega
      obtain ⟨x, hx⟩ : ∃ x, xs[kk]? = some x := ⟨_, List.getElem?_eq_getElem (by have := HN.out; omega)⟩
      have hxe : rdOf ByteArray.empty xs (kk : Int) = x := by
        unfold rdOf
        rw [Int.toNat_natCast, List.getD_eq_getElem?_getD, hx]; rfl
      obtain ⟨ad, hA, h0⟩ := Kd.at_string (Kd.C_below H1.out BW.out) (kk : Int) (by omega) (by omega)
      rw [hxe, Int.toNat_natCast] at h0
      subst hA
      have HX := Aside0.mk hx
      clear hxe hx
      by_cases hlm : kk < m
      · have hlmz : (kk : Int) < (m : Int) := by omega
        have hlmy : ¬ (m : Int) ≤ (kk : Int) := by omega
        obtain ⟨y, hy⟩ : ∃ y, ys[kk]? = some y := ⟨_, List.getElem?_eq_getElem (by have := HM.out; omega)⟩
        have hye : rdOf ByteArray.empty ys (kk : Int) = y := by
          unfold rdOf
          rw [Int.toNat_natCast, List.getD_eq_getElem?_getD, hy]; rfl
        obtain ⟨bd, hB, k0⟩ := Kd.at_string (Kd.C_below H2.out BW.out) (kk : Int) (by omega) (by omega)
        rw [hye, Int.toNat_natCast] at k0
        subst hB
        have hcall := HP.out x y (List.mem_of_getElem? HX.out) (List.mem_of_getElem? hy) wr
        have hz2 := AS.out
        rw [lcmp_both cf HX.out hy] at hz2
        have HZ2 := Aside0.mk hz2
        clear hye hy hz2
        obtain ⟨q, hq⟩ : ∃ q, cf x y = q := ⟨_, rfl⟩
        rw [hq] at hcall
        have HQ := Aside0.mk hq
        clear hq
        by_cases hq0 : q = 0
        · subst hq0
          go_wp2_with (go_at_fn g; refine hcall.mono ?_; rintro e w' ⟨rfl, hb'⟩)
          go_roundg (n - (kk + 1))
          case measure => omega
          case rel =>
            refine ⟨kk + 1, by omega, by omega, by omega, by go_num, Aside0.mk (below_step BW.out hb'), ⟨?_⟩⟩
            rw [HZ2.out, HQ.out]; rfl
        · go_wp2_with (go_at_fn g; refine hcall.mono ?_; rintro e w' ⟨rfl, hb'⟩)
          go_ret
          refine ⟨?_, below_step BW.out hb'⟩
          rw [HZ2.out, HQ.out]
          unfold orr
          rw [if_neg hq0]
          rfl
      · have hlmz : (m : Int) ≤ (kk : Int) := by omega
        go_wp2
        go_ret
        refine ⟨?_, BW.out⟩
        rw [AS.out, lcmp_more cf (by have := HN.out; omega) (by have := HM.out; omega)]
        rfl
    · have hltz : ¬ (kk : Int) < (n : Int) := by omega
      have : kk = n := by omega
      subst this
      by_cases hlm : kk < m
      · have hlmz : (kk : Int) < (m : Int) := by omega
        go_wp2
        go_ret
        refine ⟨?_, BW.out⟩
        rw [AS.out, lcmp_less cf (by have := HN.out; omega) (by have := HM.out; omega)]
        rfl
      · have hlmz : ¬ (kk : Int) < (m : Int) := by omega
        go_wp2
        go_ret
        refine ⟨?_, BW.out⟩
        rw [AS.out, lcmp_end cf (by have := HN.out; omega) (by have := HM.out; omega)]
        rfl
theorem cmpInt_f (a b : Int) : cmp_Compare_int.f a b = some (Lib.compareInt a b) := by
  unfold cmp_Compare_int.f cmp_isNaN_int.f Lib.compareInt
  simp
  split
  · rfl
  · split <;> rfl
def orAll : List Int → Int
  | [] => 0
  | x :: xs => orr x (orAll xs)
theorem orr_zero (x : Int) : orr x 0 = x := by unfold orr; split <;> omega
theorem or_l0 (l : List Int) (hl : l.length ≤ 4294967290) : ∀ (d n k : Nat), l.length - n = d → n ≤ l.length → d < k → cmp_Or_int.l0 k 0 l (l.length : Int) (n : Int) = some (orAll (l.drop n)) := by
  intro d
  induction d with
  | zero =>
    intro n k hd hn hk
    obtain ⟨k, rfl⟩ : ∃ m, k = m + 1 := ⟨k - 1, by omega⟩
    simp only [cmp_Or_int.l0]
    rw [if_neg (by omega), List.drop_eq_nil_of_le (by omega)]; rfl
  | succ d ih =>
    intro n k hd hn hk
    obtain ⟨k, rfl⟩ : ∃ m, k = m + 1 := ⟨k - 1, by omega⟩
    have hlt : n < l.length := by omega
    have hr : rd l (n : Int) = l[n] := by
      unfold rd
      rw [Int.toNat_natCast, List.getD_eq_getElem?_getD, List.getElem?_eq_getElem hlt]; rfl
    simp only [cmp_Or_int.l0]
    rw [if_pos (by omega), if_pos (by omega), if_pos (by omega), hr, wrap_succ (by omega), ih (n + 1) k (by omega) (by omega) (by omega), List.drop_eq_getElem_cons hlt]
    show _ = some (orr l[n] (orAll (l.drop (n + 1))))
    unfold orr
    split <;> rfl
theorem or_f (l : List Int) (hl : l.length ≤ 10) (k : Nat) (hk : 11 < k) : cmp_Or_int.f k l = some (orAll l) := by
  unfold cmp_Or_int.f
  have := or_l0 l (by omega) _ 0 k rfl (by omega) (by omega)
  rw [List.drop_zero] at this
  exact this
theorem byWord_f (a b : ByteArray) (ha : a.size ≤ 4294967280) (hb : b.size ≤ 4294967280) (k : Nat) (h1 : 4294967280 < k) : ver_byWord.f k a b = some (wordCmp a.data.toList b.data.toList) := by
  have hl : ∀ s : ByteArray, s.data.toList.length = s.size := fun s => (Lib.size_eq s).symm
  unfold ver_byWord.f wordCmp
  rw [digits_f a (by omega) k (by omega), digits_f b (by omega) k (by omega), hl, hl]
  obtain ⟨k, rfl⟩ : ∃ m, k = m + 1 := ⟨k - 1, by omega⟩
  simp only [Option.bind_some, ver_byWord.j0, cmpInt_f, strings_Compare.f]
  rw [or_f _ (by simp) k (by omega)]
  cases digitsOk a.data.toList <;> cases digitsOk b.data.toList <;> simp [orAll, orr_zero]
def ver_byPre.f (a0 a1 : ByteArray) : Option Int := if a0.size ≤ 4294967280 then (if a1.size ≤ 4294967280 then some (preCmp a0.data.toList a1.data.toList) else none) else none
theorem strs_row {w w' : World} {b : Nat} {v : Value} {l : List ByteArray} (h : Kd.R Kd.string 9 w' b (fun _ => True) v l) : ∃ A c, v = .slice A l.length c ∧ l.length ≤ c ∧ Kd.C Kd.string w' A l.length l := Kd.R_reads h
set_option maxRecDepth 100000 in
set_option maxHeartbeats 4000000 in
theorem ver_byPre.calls (a0 a1 : ByteArray) (r : Int) (w : World) (hG : GW w) (h : ver_byPre.f a0 a1 = some r) :
    Calls Tryz.prog 103 #[.string a0, .string a1] w fun e w' => e = .returned (.int .i64 r) ∧ Below w.heap.size w w' := by
  unfold ver_byPre.f at h
  split at h
  · rename_i hs0
    split at h
    · rename_i hs1
      obtain rfl := Option.some.inj h
      unfold preCmp
      have HG := Aside0.mk hG
      clear hG h
      have e0 : a0.toList = a0.data.toList := ByteArray.toList_eq a0
      have e1 : a1.toList = a1.data.toList := ByteArray.toList_eq a1
      by_cases n0 : a0.data.toList = []
      · have i0 : a0.toList = [] := e0.trans n0
        rw [if_pos n0]
        by_cases n1 : a1.data.toList = []
        · have i1 : a1.toList = [] := e1.trans n1
          have j1 : a1.toList.isEmpty = true := by rw [i1]; rfl
          rw [if_pos n1]
          clear n0 n1 e0 e1
          go_enter Tryz.func103, Tryz.ntmps103
          go_wp2
          go_ret
          exact ⟨rfl, Below.refl _ _⟩
        · have i1 : ¬ a1.toList = [] := fun e => n1 (e1.symm.trans e)
          have j1 : a1.toList.isEmpty = false := List.isEmpty_eq_false_iff.2 i1
          have q : ¬ a0.toList = a1.toList := fun e => i1 (e.symm.trans i0)
          rw [if_neg n1]
          clear n0 n1 e0 e1
          go_enter Tryz.func103, Tryz.ntmps103
          go_wp2
          go_ret
          exact ⟨rfl, Below.refl _ _⟩
      · have i0 : ¬ a0.toList = [] := fun e => n0 (e0.symm.trans e)
        have j0 : a0.toList.isEmpty = false := List.isEmpty_eq_false_iff.2 i0
        rw [if_neg n0]
        by_cases n1 : a1.data.toList = []
        · have i1 : a1.toList = [] := e1.trans n1
          have j1 : a1.toList.isEmpty = true := by rw [i1]; rfl
          have q : ¬ a0.toList = a1.toList := fun e => i0 (e.trans i1)
          rw [if_pos n1]
          clear n0 n1 e0 e1
          go_enter Tryz.func103, Tryz.ntmps103
          go_wp2
          go_ret
          exact ⟨rfl, Below.refl _ _⟩
        · have i1 : ¬ a1.toList = [] := fun e => n1 (e1.symm.trans e)
          have j1 : a1.toList.isEmpty = false := List.isEmpty_eq_false_iff.2 i1
          rw [if_neg n1]
          by_cases q : a0.data.toList = a1.data.toList
          · obtain rfl : a0 = a1 := by_data q
            rw [listCmp_refl]
            clear n0 n1 e0 e1 q
            go_enter Tryz.func103, Tryz.ntmps103
            go_wp2
            go_ret
            exact ⟨rfl, Below.refl _ _⟩
          · have q2 : ¬ a0.toList = a1.toList := fun e => q (e0.symm.trans (e.trans e1))
            have q3 : (a0.toList == a1.toList) = false := by simpa using q2
            have s0 : ∀ W, GW W → _ := fun W hG => strings_Split.calls a0 ⟨#[46]⟩ (splitBy 46 a0) W hG (by unfold strings_Split.f; rw [if_pos (by omega)]; rfl)
            have s1 : ∀ W, GW W → _ := fun W hG => strings_Split.calls a1 ⟨#[46]⟩ (splitBy 46 a1) W hG (by unfold strings_Split.f; rw [if_pos (by omega)]; rfl)
            have hcf : ∀ (A B : Option Addr) (c d : Nat) (W : World), Kd.C Kd.string W A (splitBy 46 a0).length (splitBy 46 a0) → Kd.C Kd.string W B (splitBy 46 a1).length (splitBy 46 a1) →
                Calls Tryz.prog 134 #[.slice A (splitBy 46 a0).length c, .slice B (splitBy 46 a1).length d, .func (.func 135) #[] #[]] W fun e w' => e = .returned (.int .i64 (listCmp (splitC 46 a0.data.toList) (splitC 46 a1.data.toList))) ∧ Below W.heap.size W w' := by
              intro A B c d W h1 h2
              have hm : ∀ s : ByteArray, (splitBy 46 s).map (fun x => x.data.toList) = splitC 46 s.data.toList := fun s => by unfold splitBy; rw [List.map_map]; exact List.map_id _
              have := CompareFunc_str A B c d (splitBy 46 a0) (splitBy 46 a1) (fun x y => wordCmp x.data.toList y.data.toList) 135 (enters_of Tryz.func135 (by kernel_rfl) rfl) W h1 h2
                (fun x y hx hy W' => ver_byWord.calls 4294967281 x y _ W' (byWord_f x y (by have := split_size hx; omega) (by have := split_size hy; omega) _ (by decide)))
              rw [lcmp_words, hm, hm] at this
              exact this
            have S0 := Aside0.mk s0
            have S1 := Aside0.mk s1
            have HCF := Aside0.mk hcf
            clear n0 n1 e0 e1 q s0 s1 hcf
            generalize listCmp (splitC 46 a0.data.toList) (splitC 46 a1.data.toList) = z at HCF ⊢
            generalize splitBy 46 a0 = l0 at S0 HCF
            generalize splitBy 46 a1 = l1 at S1 HCF
            go_enter Tryz.func103, Tryz.ntmps103
            go_wp2_with (first
              | (go_at_call 94; (with_reducible refine (S0.out _ HG.out).mono ?_); rintro e w1 ⟨v1, rfl, hR1, hb1⟩; obtain ⟨A1, c1, rfl, hc1, hC1⟩ := strs_row (w := w) hR1; have HC1 := Aside0.mk hC1; have HB1 := Aside0.mk hb1; have HG1 := Aside0.mk (HG.out.below hb1); clear hR1 hb1 hC1)
              | (go_at_call 94; (with_reducible refine (S1.out _ HG1.out).mono ?_); rintro e w2 ⟨v2, rfl, hR2, hb2⟩; obtain ⟨A2, c2, rfl, hc2, hC2⟩ := strs_row (w := w) hR2; have HC2 := Aside0.mk hC2; have HC1b := Aside0.mk (Kd.C_below HC1.out hb2); have HB2 := Aside0.mk (below_step HB1.out hb2); clear hR2 hb2 hC2)
              | (go_at_call 134; (with_reducible refine (HCF.out A1 A2 c1 c2 _ HC1b.out HC2.out).mono ?_); rintro e w3 ⟨rfl, hb3⟩; have HB3 := Aside0.mk (below_step HB2.out hb3); clear hb3))
            go_ret
            exact ⟨rfl, HB3.out⟩
    · cases h
  · cases h
end Go.Proofs.YtillhaipemengaaGreatDoor
end

section
namespace Go.Proofs.YtillhaipemengaaGreatDoor.R4
open Go.RowKit Go.Proofs.YtillhaipemengaaGreatDoor Go.Proofs.YtillhaipemengaaGreatDoor.K0 Go.Proofs.YtillhaipemengaaGreatDoor.R1 Go.Proofs.YtillhaipemengaaGreatDoor.R3 Go.Proofs.YtillhaipemengaaGreatDoorW.PrintWords Go.Proofs.YtillhaipemengaaGreatDoorW.PrintLast Go.Proofs.YtillhaipemengaaGreatDoorW.PrintMore
attribute [local go_sem] max2_int min2_int max_two min_two max_three min_three max_four min_four
set_option linter.unusedVariables false
set_option linter.unusedSimpArgs false
end Go.Proofs.YtillhaipemengaaGreatDoor.R4
end
