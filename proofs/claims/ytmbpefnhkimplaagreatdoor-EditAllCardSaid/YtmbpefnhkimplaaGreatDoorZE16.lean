/- The texts R3x1, MnLines in one file, without what these claims do not use (put together by prune2.py). -/
import Derived.Test.YtmbpefnhkimplaaGreatDoorZE4
import Derived.Test.YtmbpefnhkimplaaGreatDoorZE15
import Derived.Test.YtmbpefnhkimplaaGreatDoorZE12
import Derived.Test.YtmbpefnhkimplaaGreatDoorZE14
section
namespace Go.Proofs.YtmbpefnhkimplaaGreatDoor.R3
open Go.RowKit Go.Proofs.YtmbpefnhkimplaaGreatDoor Go.Proofs.YtmbpefnhkimplaaGreatDoor.K0 Go.Proofs.YtmbpefnhkimplaaGreatDoor.R1 Go.Proofs.YtmbpefnhkimplaaGreatDoorW.PrintWords Go.Proofs.YtmbpefnhkimplaaGreatDoorW.PrintLast Go.Proofs.YtmbpefnhkimplaaGreatDoorW.PrintMore
attribute [local go_sem] max2_int min2_int max_two min_two max_three min_three max_four min_four
set_option linter.unusedVariables false
set_option linter.unusedSimpArgs false
def lex_Split.f (a0 : ByteArray) : Option (List ByteArray) := if a0.toList = ([] : List UInt8) then (some ([] : List ByteArray)) else ((strings_TrimSuffix.f a0 (⟨#[10]⟩ : ByteArray)).bind fun t101 => ((strings_Split.f t101 (⟨#[10]⟩ : ByteArray)).bind fun t102 => (some t102)))
set_option maxHeartbeats 8000000 in
set_option maxRecDepth 100000 in
theorem lex_Split.calls (a0 : ByteArray) (r : List ByteArray) (w : World) (hG : GW w) (h : lex_Split.f a0 = some r) :
  Calls Tryz.prog 41 #[.string a0] w fun e w' => ∃ v0_ : Value, e = .returned (v0_) ∧ Kd.R Kd.string 9 w' w.heap.size (fun _ => True) v0_ r ∧ Below w.heap.size w w' := by
 have HGW := Aside0.mk hG; clear hG; have HB := Aside0.mk (Below.refl w.heap.size w); have H : (if a0.toList = ([] : List UInt8) then (some ([] : List ByteArray)) else ((strings_TrimSuffix.f a0 (⟨#[10]⟩ : ByteArray)).bind fun t101 => ((strings_Split.f t101 (⟨#[10]⟩ : ByteArray)).bind fun t102 => (some t102)))) = some r := h; clear h; replace H := xJ H; rcases H with ⟨c2, H⟩ | ⟨c2, H⟩
 ·
  have c2b0 := beq_iff_eq.mpr c2; have c2b1 := bne_eq_false_iff_eq.mpr c2; clear c2; obtain rfl := Option.some.inj H; go_enter Tryz.func41, Tryz.ntmps41; go_wp2; go_ret; exact ⟨_, xW, by first | exact Kd.R_nil _ _ _ _ _ | exact Kd.N_nil _ _ _ _ _ | exact Kd.V_nil _ _ _ _ _ | exact Kd.Q_nil _ _ _ _ _ | exact Kd.S_nil _ _ _ _ _, xB⟩
 have c2b0 := beq_eq_false_iff_ne.mpr c2; have c2b1 := bne_iff_ne.mpr c2; replace H := xb H; obtain ⟨t101, A3, H⟩ := H; replace H := xb H; obtain ⟨t102, A4, H⟩ := H; obtain rfl := Option.some.inj H; go_enter Tryz.func41, Tryz.ntmps41; go_wp2_with (first | ((with_reducible refine gate_callee (f := 39) rfl ?_); refine goesL_ (some 6) rfl rfl Tryz.func39 (by kernel_rfl) rfl #[.string a0, .string (⟨#[10]⟩ : ByteArray)] rfl xS ?_; (with_reducible refine (strings_TrimSuffix.calls a0 (⟨#[10]⟩ : ByteArray) t101 _ A3.out).mono ?_); rintro e w' ⟨rfl, ⟨nd, rfl⟩⟩; refine ⟨_, rfl, ?_⟩) | ((with_reducible refine gate_callee (f := 65) rfl ?_); refine goesL_ (some 7) rfl rfl Tryz.func65 (by kernel_rfl) rfl #[.string t101, .string (⟨#[10]⟩ : ByteArray)] rfl xS ?_; (with_reducible refine (strings_Split.calls t101 (⟨#[10]⟩ : ByteArray) t102 _ ?side1 A4.out).mono ?_); (case side1 => exact GW.below HGW.out xB); rintro e w5 ⟨v103, rfl, ho0, hb⟩; refine ⟨_, rfl, ?_⟩; have HO104 := Aside0.mk (Kd.R_lower ho0 (below_size xB)); replace HB := Aside0.mk (below_step xB hb); (try clear hb); (try clear ho0))); go_ret; exact ⟨_, xW, by (with_reducible repeat (first | apply Kd.R_alloc | apply Kd.R_drewN | apply Kd.R_drew)); exact HO104.out, xB⟩
def cmp_Or_int.l0 : Nat → Int → List Int → Int → Int → Option (Int)
 | 0, _, _, _, _ => none
 | k + 1, x3, x6, x7, x8 => if x8 < x7 then (if 0 ≤ x8 then (if x8 < (x6.length : Int) then (if (rd x6 x8) = x3 then (cmp_Or_int.l0 k x3 x6 x7 (wrap64 (x8 + 1))) else (some (rd x6 x8))) else (none)) else (none)) else (some x3)
def cmp_Or_int.f (k : Nat) (l0 : List Int) : Option (Int) := cmp_Or_int.l0 k 0 l0 (l0.length : Int) 0
set_option maxHeartbeats 8000000 in
set_option maxRecDepth 100000 in
theorem cmp_Or_int.calls (k : Nat) (A0 : Option Addr) (c0 : Nat) (l0 : List Int) (r : Int) (w : World) (hr0 : Kd.C (Kd.int .i64) w A0 l0.length l0) (hc0 : l0.length ≤ c0) (h : cmp_Or_int.f k l0 = some r) :
  Calls Tryz.prog 201 #[.slice A0 l0.length c0] w fun e w' => e = .returned (.int .i64 r) ∧ Drawn0 w w' := by
 have HR0 := Aside0.mk hr0; have HC0 := Aside0.mk hc0; clear hr0 hc0; have H : (cmp_Or_int.l0 k 0 l0 (l0.length : Int) 0) = some r := h; clear h; have H' := Aside0.mk H; clear H; go_enter Tryz.func201, Tryz.ntmps201; go_wp2
 go_loopg [8] k (fun kq v8 w' => ∃ (x8_1 : Int), v8 = .int .i64 x8_1 ∧ Aside0 (cmp_Or_int.l0 kq 0 l0 (l0.length : Int) x8_1 = some r) ∧ Aside0 (kq ≤ k) ∧ Drawn0 w w')
 case atStart => exact ⟨(0), xR, H', ⟨Nat.le_refl _⟩, by repeat (first | exact Drawn0.refl _ | apply Drawn0.step)⟩
 case round =>
  clear H'; obtain ⟨x8_1, rfl, HA, HK1, ⟨m1, rfl⟩⟩ := hrel
  cases gk with
  | zero => exact absurd HA.out (by simp [cmp_Or_int.l0])
  | succ k1 =>
   have H := HA.out; clear HA; simp only [cmp_Or_int.l0] at H; replace H := xJ H; rcases H with ⟨c2, H⟩ | ⟨c2, H⟩
   ·
    replace c2 := decide_eq_true c2; replace H := xI H; obtain ⟨c3, H⟩ := H; replace c3 := decide_eq_true c3; replace H := xI H; obtain ⟨c4, H⟩ := H; replace c4 := decide_eq_true c4; replace H := xJ H; rcases H with ⟨c5, H⟩ | ⟨c5, H⟩
    ·
     have c5b0 := beq_iff_eq.mpr c5; have c5b1 := bne_eq_false_iff_eq.mpr c5; clear c5; have H' := Aside0.mk H; clear H; obtain ⟨p105, q105, ad105, e105, hx105_0⟩ := xT (Kd.at_int HR0.out x8_1)
     cases e105
     go_wp2; go_roundg k1
     case measure => exact xO1
     case rel => exact ⟨(wrap64 (x8_1 + 1)), xR, H', ⟨xO1⟩, by repeat (first | exact Drawn0.refl _ | apply Drawn0.step)⟩
    have c5b0 := beq_eq_false_iff_ne.mpr c5; have c5b1 := bne_iff_ne.mpr c5; obtain rfl := Option.some.inj H; obtain ⟨p105, q105, ad105, e105, hx105_0⟩ := xT (Kd.at_int HR0.out x8_1)
    cases e105
    go_wp2; go_ret; exact ⟨xR, xG⟩
   replace c2 := decide_eq_false c2; obtain rfl := Option.some.inj H; go_wp2; go_ret; exact ⟨xR, xG⟩
def cmp_isNaN_int.f (a0 : Int) : Option (Bool) := some (a0 != a0)
set_option maxHeartbeats 8000000 in
set_option maxRecDepth 100000 in
theorem cmp_isNaN_int.calls (a0 : Int) (r : Bool) (w : World) (h : cmp_isNaN_int.f a0 = some r) :
  Calls Tryz.prog 218 #[.int .i64 a0] w fun e w' => e = .returned (.bool r) ∧ Drawn0 w w' := by
 have H : (some (a0 != a0)) = some r := h; clear h; obtain rfl := Option.some.inj H; go_enter Tryz.func218, Tryz.ntmps218; go_wp2; go_ret; exact ⟨xR, xG⟩
def cmp_Compare_int.f (a0 : Int) (a1 : Int) : Option (Int) := (cmp_isNaN_int.f a0).bind fun t106 => ((cmp_isNaN_int.f a1).bind fun t107 => (if t106 = true then (if t107 = true then (some 0) else (some (-1))) else (if t107 = true then (some 1) else (if a0 < a1 then (some (-1)) else (if a0 > a1 then (some 1) else (some 0))))))
set_option maxHeartbeats 8000000 in
set_option maxRecDepth 100000 in
theorem cmp_Compare_int.calls (a0 : Int) (a1 : Int) (r : Int) (w : World) (h : cmp_Compare_int.f a0 a1 = some r) :
  Calls Tryz.prog 202 #[.int .i64 a0, .int .i64 a1] w fun e w' => e = .returned (.int .i64 r) ∧ Drawn0 w w' := by
 have H : ((cmp_isNaN_int.f a0).bind fun t106 => ((cmp_isNaN_int.f a1).bind fun t107 => (if t106 = true then (if t107 = true then (some 0) else (some (-1))) else (if t107 = true then (some 1) else (if a0 < a1 then (some (-1)) else (if a0 > a1 then (some 1) else (some 0))))))) = some r := h; clear h; replace H := xb H; obtain ⟨t106, A3, H⟩ := H; replace H := xb H; obtain ⟨t107, A4, H⟩ := H
 by_cases c5 : t106 = true
 ·
  subst c5; rw [if_pos rfl] at H
  by_cases c6 : t107 = true
  ·
   subst c6; rw [if_pos rfl] at H; obtain rfl := Option.some.inj H; go_enter Tryz.func202, Tryz.ntmps202; go_wp2_with (first | ((with_reducible refine gate_callee (f := 218) rfl ?_); refine goesL_ (some 8) rfl rfl Tryz.func218 (by kernel_rfl) rfl #[.int .i64 a0] rfl xS ?_; (with_reducible refine (cmp_isNaN_int.calls a0 true _ A3.out).mono ?_); rintro e w' ⟨rfl, ⟨nd, rfl⟩⟩; refine ⟨_, rfl, ?_⟩) | ((with_reducible refine gate_callee (f := 218) rfl ?_); refine goesL_ (some 10) rfl rfl Tryz.func218 (by kernel_rfl) rfl #[.int .i64 a1] rfl xS ?_; (with_reducible refine (cmp_isNaN_int.calls a1 true _ A4.out).mono ?_); rintro e w' ⟨rfl, ⟨nd, rfl⟩⟩; refine ⟨_, rfl, ?_⟩)); go_ret; exact ⟨xR, xG⟩
  replace c6 := Bool.eq_false_iff.mpr c6; subst c6; rw [if_neg (show ¬ (false = true) by decide)] at H; obtain rfl := Option.some.inj H; go_enter Tryz.func202, Tryz.ntmps202; go_wp2_with (first | ((with_reducible refine gate_callee (f := 218) rfl ?_); refine goesL_ (some 8) rfl rfl Tryz.func218 (by kernel_rfl) rfl #[.int .i64 a0] rfl xS ?_; (with_reducible refine (cmp_isNaN_int.calls a0 true _ A3.out).mono ?_); rintro e w' ⟨rfl, ⟨nd, rfl⟩⟩; refine ⟨_, rfl, ?_⟩) | ((with_reducible refine gate_callee (f := 218) rfl ?_); refine goesL_ (some 10) rfl rfl Tryz.func218 (by kernel_rfl) rfl #[.int .i64 a1] rfl xS ?_; (with_reducible refine (cmp_isNaN_int.calls a1 false _ A4.out).mono ?_); rintro e w' ⟨rfl, ⟨nd, rfl⟩⟩; refine ⟨_, rfl, ?_⟩)); go_ret; exact ⟨xR, xG⟩
 replace c5 := Bool.eq_false_iff.mpr c5; subst c5; rw [if_neg (show ¬ (false = true) by decide)] at H
 by_cases c7 : t107 = true
 ·
  subst c7; rw [if_pos rfl] at H; obtain rfl := Option.some.inj H; go_enter Tryz.func202, Tryz.ntmps202; go_wp2_with (first | ((with_reducible refine gate_callee (f := 218) rfl ?_); refine goesL_ (some 8) rfl rfl Tryz.func218 (by kernel_rfl) rfl #[.int .i64 a0] rfl xS ?_; (with_reducible refine (cmp_isNaN_int.calls a0 false _ A3.out).mono ?_); rintro e w' ⟨rfl, ⟨nd, rfl⟩⟩; refine ⟨_, rfl, ?_⟩) | ((with_reducible refine gate_callee (f := 218) rfl ?_); refine goesL_ (some 10) rfl rfl Tryz.func218 (by kernel_rfl) rfl #[.int .i64 a1] rfl xS ?_; (with_reducible refine (cmp_isNaN_int.calls a1 true _ A4.out).mono ?_); rintro e w' ⟨rfl, ⟨nd, rfl⟩⟩; refine ⟨_, rfl, ?_⟩)); go_ret; exact ⟨xR, xG⟩
 replace c7 := Bool.eq_false_iff.mpr c7; subst c7; rw [if_neg (show ¬ (false = true) by decide)] at H; replace H := xJ H; rcases H with ⟨c8, H⟩ | ⟨c8, H⟩
 ·
  replace c8 := decide_eq_true c8; obtain rfl := Option.some.inj H; go_enter Tryz.func202, Tryz.ntmps202; go_wp2_with (first | ((with_reducible refine gate_callee (f := 218) rfl ?_); refine goesL_ (some 8) rfl rfl Tryz.func218 (by kernel_rfl) rfl #[.int .i64 a0] rfl xS ?_; (with_reducible refine (cmp_isNaN_int.calls a0 false _ A3.out).mono ?_); rintro e w' ⟨rfl, ⟨nd, rfl⟩⟩; refine ⟨_, rfl, ?_⟩) | ((with_reducible refine gate_callee (f := 218) rfl ?_); refine goesL_ (some 10) rfl rfl Tryz.func218 (by kernel_rfl) rfl #[.int .i64 a1] rfl xS ?_; (with_reducible refine (cmp_isNaN_int.calls a1 false _ A4.out).mono ?_); rintro e w' ⟨rfl, ⟨nd, rfl⟩⟩; refine ⟨_, rfl, ?_⟩)); go_ret; exact ⟨xR, xG⟩
 replace c8 := decide_eq_false c8; replace H := xJ H; rcases H with ⟨c9, H⟩ | ⟨c9, H⟩
 ·
  replace c9 := decide_eq_true c9; obtain rfl := Option.some.inj H; go_enter Tryz.func202, Tryz.ntmps202; go_wp2_with (first | ((with_reducible refine gate_callee (f := 218) rfl ?_); refine goesL_ (some 8) rfl rfl Tryz.func218 (by kernel_rfl) rfl #[.int .i64 a0] rfl xS ?_; (with_reducible refine (cmp_isNaN_int.calls a0 false _ A3.out).mono ?_); rintro e w' ⟨rfl, ⟨nd, rfl⟩⟩; refine ⟨_, rfl, ?_⟩) | ((with_reducible refine gate_callee (f := 218) rfl ?_); refine goesL_ (some 10) rfl rfl Tryz.func218 (by kernel_rfl) rfl #[.int .i64 a1] rfl xS ?_; (with_reducible refine (cmp_isNaN_int.calls a1 false _ A4.out).mono ?_); rintro e w' ⟨rfl, ⟨nd, rfl⟩⟩; refine ⟨_, rfl, ?_⟩)); go_ret; exact ⟨xR, xG⟩
 replace c9 := decide_eq_false c9; obtain rfl := Option.some.inj H; go_enter Tryz.func202, Tryz.ntmps202; go_wp2_with (first | ((with_reducible refine gate_callee (f := 218) rfl ?_); refine goesL_ (some 8) rfl rfl Tryz.func218 (by kernel_rfl) rfl #[.int .i64 a0] rfl xS ?_; (with_reducible refine (cmp_isNaN_int.calls a0 false _ A3.out).mono ?_); rintro e w' ⟨rfl, ⟨nd, rfl⟩⟩; refine ⟨_, rfl, ?_⟩) | ((with_reducible refine gate_callee (f := 218) rfl ?_); refine goesL_ (some 10) rfl rfl Tryz.func218 (by kernel_rfl) rfl #[.int .i64 a1] rfl xS ?_; (with_reducible refine (cmp_isNaN_int.calls a1 false _ A4.out).mono ?_); rintro e w' ⟨rfl, ⟨nd, rfl⟩⟩; refine ⟨_, rfl, ?_⟩)); go_ret; exact ⟨xR, xG⟩
def ver_byWord.j0 : Nat → ByteArray → ByteArray → Bool → Bool → Bool → Option (Int)
 | 0, _, _, _, _, _ => none
 | k + 1, x0, x1, x5, x6, x11 => if x11 = true then ((cmp_Compare_int.f (x0.size : Int) (x1.size : Int)).bind fun t110 => ((strings_Compare.f x0 x1).bind fun t111 => ((cmp_Or_int.f k (([t110, t111] : List Int))).bind fun t115 => (some t115)))) else (if x5 = true then (some (-1)) else (if x6 = true then (some 1) else ((strings_Compare.f x0 x1).bind fun t116 => (some t116))))
def ver_byWord.f (k : Nat) (a0 : ByteArray) (a1 : ByteArray) : Option (Int) := (ver_digits.f k a0).bind fun t108 => ((ver_digits.f k a1).bind fun t109 => (if t108 = true then (ver_byWord.j0 k a0 a1 t108 t109 t109) else (ver_byWord.j0 k a0 a1 t108 t109 false)))
set_option maxHeartbeats 8000000 in
set_option maxRecDepth 100000 in
theorem ver_byWord.calls (k : Nat) (a0 : ByteArray) (a1 : ByteArray) (r : Int) (w : World) (h : ver_byWord.f k a0 a1 = some r) :
  Calls Tryz.prog 220 #[.string a0, .string a1] w fun e w' => e = .returned (.int .i64 r) ∧ Below w.heap.size w w' := by
 have HB := Aside0.mk (Below.refl w.heap.size w); have H : ((ver_digits.f k a0).bind fun t108 => ((ver_digits.f k a1).bind fun t109 => (if t108 = true then (ver_byWord.j0 k a0 a1 t108 t109 t109) else (ver_byWord.j0 k a0 a1 t108 t109 false)))) = some r := h; clear h; replace H := xb H; obtain ⟨t108, A3, H⟩ := H; replace H := xb H; obtain ⟨t109, A4, H⟩ := H; have HC5 := Aside0.mk H; clear H; go_enter Tryz.func220, Tryz.ntmps220; go_upto_region 2 with (first | ((with_reducible refine gate_callee (f := 112) rfl ?_); refine goesL_ (some 8) rfl rfl Tryz.func112 (by kernel_rfl) rfl #[.string a0] rfl xS ?_; (with_reducible refine (ver_digits.calls k a0 t108 _ A3.out).mono ?_); rintro e w' ⟨rfl, ⟨nd, rfl⟩⟩; refine ⟨_, rfl, ?_⟩) | ((with_reducible refine gate_callee (f := 112) rfl ?_); refine goesL_ (some 10) rfl rfl Tryz.func112 (by kernel_rfl) rfl #[.string a1] rfl xS ?_; (with_reducible refine (ver_digits.calls k a1 t109 _ A4.out).mono ?_); rintro e w' ⟨rfl, ⟨nd, rfl⟩⟩; refine ⟨_, rfl, ?_⟩))
 (try simp only [Act.put, z1, z2, z3])
 go_cut [11] (fun v11 wc => ∃ (kq : Nat) (x11_4 : Bool), v11 = .bool x11_4 ∧ Aside0 (ver_byWord.j0 kq a0 a1 t108 t109 x11_4 = some r) ∧ Aside0 (kq ≤ k) ∧ Aside0 (Below w.heap.size w wc))
 case first =>
  have H := HC5.out; clear HC5
  by_cases c6 : t108 = true
  ·
   subst c6; rw [if_pos rfl] at H; have H' := Aside0.mk H; clear H; go_wp2; go_meet
   case rel => exact ⟨_, (t109), xR, H', ⟨by first | omega | exact Nat.le_refl _⟩, ⟨xB⟩⟩
  replace c6 := Bool.eq_false_iff.mpr c6; subst c6; rw [if_neg (show ¬ (false = true) by decide)] at H; have H' := Aside0.mk H; clear H; go_wp2; go_meet
  case rel => exact ⟨_, (false), xR, H', ⟨by first | omega | exact Nat.le_refl _⟩, ⟨xB⟩⟩
 case rest =>
  clear HC5
  try clear c1
  try clear c2
  try clear p2
  try clear c6
  obtain ⟨kq, x11_4, rfl, HA, HJ4, HB⟩ := hcut
  cases kq with
  | zero => exact absurd HA.out (by simp [ver_byWord.j0])
  | succ kj4 =>
   have H := HA.out; clear HA; simp only [ver_byWord.j0] at H
   by_cases c7 : x11_4 = true
   ·
    subst c7; rw [if_pos rfl] at H; replace H := xb H; obtain ⟨t110, A8, H⟩ := H; replace H := xb H; obtain ⟨t111, A9, H⟩ := H; obtain ⟨y112, hy112⟩ : ∃ y_ : List Int, y_ = (([t110, t111] : List Int)) := ⟨_, rfl⟩
    replace H : ((cmp_Or_int.f kj4 y112).bind fun t115 => (some t115)) = some r := by first | (rw [hy112]; with_reducible exact H) | (have H2_ := (Option.bind_some _ _).symm.trans H; rw [hy112]; with_reducible exact H2_) | (have H2_ := (Option.bind_some _ _).symm.trans H; with_reducible exact H2_) | with_reducible exact H | (rw [hy112]; exact H) | exact H
    have Ny112 := Aside0.mk hy112; clear hy112; replace H := xb H; obtain ⟨t115, A10, H⟩ := H; obtain rfl := Option.some.inj H; go_wp2_with (first | ((with_reducible refine gate_callee (f := 202) rfl ?_); refine goesL_ (some 20) rfl rfl Tryz.func202 (by kernel_rfl) rfl #[.int .i64 (a0.size : Int), .int .i64 (a1.size : Int)] rfl xS ?_; (with_reducible refine (cmp_Compare_int.calls (a0.size : Int) (a1.size : Int) t110 _ A8.out).mono ?_); rintro e w' ⟨rfl, ⟨nd, rfl⟩⟩; refine ⟨_, rfl, ?_⟩) | ((with_reducible refine gate_callee (f := 226) rfl ?_); refine goesL_ (some 23) rfl rfl Tryz.func226 (by kernel_rfl) rfl #[.string a0, .string a1] rfl xS ?_; (with_reducible refine (strings_Compare.calls a0 a1 t111 _ A9.out).mono ?_); rintro e w' ⟨rfl, ⟨nd, rfl⟩⟩; refine ⟨_, rfl, ?_⟩) | ((with_reducible refine gate_dst (N := 24) rfl ?_); refine Kd.R_lit (Kd.int .i64) _ 3 ?hg (N := 24) ?hd (xs := ([t110, t111] : List Int)) (inner := [.int .i64 t110, .int .i64 t111]) (ok := fun _ => True) (okp := fun _ => True) ?hr ?hp (fun _ hk => hk) trivial (Below.refl _ _) (Nat.le_refl _) (by simp) ?_; (case hd => rfl); (case hg => rfl); (case hr => first | (go_simp; done) | (go_simp; rfl)); (case hp => exact (Reps.one (show Kd.M (Kd.int .i64) _ _ _ t110 [.int .i64 t110] from rfl) (Reps.one (show Kd.M (Kd.int .i64) _ _ _ t111 [.int .i64 t111] from rfl) (Reps.none _ _)))); intro v113 w11 ho12 hb hg_ hnew_; clear hg_ hnew_; (first | rw [← Ny112.out] at ho12 | (simp only [Int.reduceToNat] at ho12; rw [← Ny112.out] at ho12)); have HO114 := Aside0.mk (Kd.R_lower ho12 (below_size xB)); replace HB := Aside0.mk (below_step xB hb); clear hb ho12; obtain ⟨Ao13, co13, eo13⟩ := Kd.R_slice HO114.out; subst eo13) | ((with_reducible refine gate_callee (f := 201) rfl ?_); refine goesL_ (some 25) rfl rfl Tryz.func201 (by kernel_rfl) rfl #[.slice Ao13 y112.length co13] rfl xS ?_; (with_reducible refine (cmp_Or_int.calls kj4 _ _ y112 t115 _ ?side1 ?side2 A10.out).mono ?_); (case side1 => repeat (first | exact (Kd.R_reads' HO114.out).2.2 | (with_reducible refine Kd.C_alloc ?_ _) | (with_reducible refine Kd.C_drewN ?_ _) | (with_reducible refine Kd.C_drew ?_))); (case side2 => exact (Kd.R_reads' HO114.out).2.1); rintro e w' ⟨rfl, ⟨nd, rfl⟩⟩; refine ⟨_, rfl, ?_⟩)); go_ret; exact ⟨xW, xB⟩
   replace c7 := Bool.eq_false_iff.mpr c7; subst c7; rw [if_neg (show ¬ (false = true) by decide)] at H
   by_cases c14 : t108 = true
   ·
    subst c14; rw [if_pos rfl] at H; obtain rfl := Option.some.inj H; go_wp2; go_ret; exact ⟨xW, xB⟩
   replace c14 := Bool.eq_false_iff.mpr c14; subst c14; rw [if_neg (show ¬ (false = true) by decide)] at H
   by_cases c15 : t109 = true
   ·
    subst c15; rw [if_pos rfl] at H; obtain rfl := Option.some.inj H; go_wp2; go_ret; exact ⟨xW, xB⟩
   replace c15 := Bool.eq_false_iff.mpr c15; subst c15; rw [if_neg (show ¬ (false = true) by decide)] at H; replace H := xb H; obtain ⟨t116, A16, H⟩ := H; obtain rfl := Option.some.inj H; go_wp2_with (first | ((with_reducible refine gate_callee (f := 226) rfl ?_); refine goesL_ (some 32) rfl rfl Tryz.func226 (by kernel_rfl) rfl #[.string a0, .string a1] rfl xS ?_; (with_reducible refine (strings_Compare.calls a0 a1 t116 _ A16.out).mono ?_); rintro e w' ⟨rfl, ⟨nd, rfl⟩⟩; refine ⟨_, rfl, ?_⟩)); go_ret; exact ⟨xW, xB⟩
end Go.Proofs.YtmbpefnhkimplaaGreatDoor.R3
end

section
namespace Go.Proofs.YtmbpefnhkimplaaGreatDoor
open Go Go.RowKit Go.Proofs Go.Proofs.YtmbpefnhkimplaaGreatDoorW.PrintWords Go.Proofs.YtmbpefnhkimplaaGreatDoor.K0 Go.Proofs.YtmbpefnhkimplaaGreatDoor.R1 Go.Proofs.YtmbpefnhkimplaaGreatDoor.R3
set_option linter.unusedVariables false
set_option linter.unusedSimpArgs false
theorem joinC (c : UInt8) : ∀ l : List UInt8, (splitC c l).flatMap (fun p => p ++ [c]) = l ++ [c]
  | [] => rfl
  | b :: t => by
    by_cases h : b = c
    · subst h
      rw [splitC, if_pos rfl, List.flatMap_cons, joinC b t]; rfl
    · obtain ⟨p, ps, e, e2⟩ := splitC_other h t
      have ih := joinC c t
      rw [e, List.flatMap_cons] at ih
      rw [e2, List.flatMap_cons, List.cons_append, List.cons_append, ih]; rfl
theorem splitC_snoc (c : UInt8) : ∀ l : List UInt8, splitC c (l ++ [c]) = splitC c l ++ [[]]
  | [] => by simp [splitC]
  | b :: t => by
    rw [List.cons_append]
    by_cases h : b = c
    · subst h; rw [splitC, if_pos rfl, splitC, if_pos rfl, splitC_snoc b t]; rfl
    · obtain ⟨p, ps, e, e2⟩ := splitC_other h t
      obtain ⟨p', ps', e', e2'⟩ := splitC_other h (t ++ [c])
      rw [e2, e2']
      rw [splitC_snoc c t, e] at e'
      obtain ⟨rfl, rfl⟩ := List.cons.inj e'
      rfl
theorem splitC_last (c : UInt8) (l : List UInt8) : (splitC c l).getLast? = some [] ↔ l = [] ∨ ∃ a, l = a ++ [c] := by
  constructor
  · intro h
    obtain ⟨ps, e⟩ : ∃ ps, splitC c l = ps ++ [[]] := List.getLast?_eq_some_iff.1 h
    have hj := joinC c l
    rw [e, List.flatMap_append] at hj
    have h2 : ps.flatMap (fun p => p ++ [c]) = l := by
      have : ps.flatMap (fun p => p ++ [c]) ++ [c] = l ++ [c] := by simpa using hj
      exact List.append_cancel_right this
    rcases List.eq_nil_or_concat ps with rfl | ⟨qs, q, rfl⟩
    · exact .inl h2.symm
    · refine .inr ⟨qs.flatMap (fun p => p ++ [c]) ++ q, ?_⟩
      rw [← h2, List.concat_eq_append, List.flatMap_append]; simp
  · rintro (rfl | ⟨a, rfl⟩)
    · rfl
    · rw [splitC_snoc]; simp
/-- The lines of a text. -/
def linesOf (s : List UInt8) : List (List UInt8) := if (splitC 10 s).getLast? = some [] then (splitC 10 s).dropLast else splitC 10 s
theorem lines_nil : linesOf [] = [] := rfl
theorem lines_snoc (a : List UInt8) : linesOf (a ++ [10]) = splitC 10 a := by
  unfold linesOf; rw [splitC_snoc]; simp
theorem lines_other {s : List UInt8} (h : s ≠ []) (h2 : ¬ ∃ a, s = a ++ [10]) : linesOf s = splitC 10 s := by
  unfold linesOf
  rw [if_neg]
  intro e
  rcases (splitC_last 10 s).1 e with e | e
  · exact h e
  · exact h2 e
theorem lines_join (s : List UInt8) : (linesOf s).flatMap (fun p => p ++ [10]) = s ∨ (linesOf s).flatMap (fun p => p ++ [10]) = s ++ [10] := by
  by_cases h : s = []
  · subst h; exact .inl rfl
  · by_cases h2 : ∃ a, s = a ++ [10]
    · obtain ⟨a, rfl⟩ := h2
      rw [lines_snoc, joinC]; exact .inl rfl
    · rw [lines_other h h2, joinC]; exact .inr rfl
theorem toList_nil (s : ByteArray) : s.toList = [] ↔ s.data.toList = [] := by rw [ByteArray.toList_eq]
theorem toList_eq_iff (a b : ByteArray) : a.toList = b.toList ↔ a = b := ⟨fun h => by_data (by rw [← ByteArray.toList_eq, ← ByteArray.toList_eq]; exact h), fun h => by rw [h]⟩
theorem trim_nl (l : List UInt8) : Lib.trimSuffix (l ++ [10]) [10] = l := by
  unfold Lib.trimSuffix Lib.hasSuffix
  rw [if_pos (by simp [List.isSuffixOf])]
  simp
theorem trim_nl_no {l : List UInt8} (h : ¬ ∃ a, l = a ++ [10]) : Lib.trimSuffix l [10] = l := by
  unfold Lib.trimSuffix Lib.hasSuffix
  rw [if_neg]
  intro hs
  obtain ⟨a, ha⟩ := List.isSuffixOf_iff_suffix.1 hs
  exact h ⟨a, ha.symm⟩
theorem lex_f (s : ByteArray) (hs : s.size ≤ 4294967280) : lex_Split.f s = some ((linesOf s.data.toList).map ba) := by
  unfold lex_Split.f
  by_cases h : s.data.toList = []
  · rw [if_pos ((toList_nil s).2 h), h, lines_nil]; rfl
  · rw [if_neg (fun e => h ((toList_nil s).1 e))]
    unfold strings_TrimSuffix.f strings_Split.f
    rw [if_pos (by omega)]
    simp only [Option.bind_some]
    have h10 : (⟨#[10]⟩ : ByteArray).size = 1 := rfl
    by_cases h2 : ∃ a, s.data.toList = a ++ [10]
    · obtain ⟨a, ha⟩ := h2
      have hsz : a.length + 1 = s.size := by rw [Lib.size_eq, ha, List.length_append]; rfl
      rw [ha, trim_nl, lines_snoc, if_pos (by show a.toArray.size < _; simp; omega), if_pos h10]
      rfl
    · rw [trim_nl_no h2, lines_other h h2, if_pos (by show s.data.toList.toArray.size < _; rw [List.size_toArray, ← Lib.size_eq]; omega), if_pos h10]
      rfl
end Go.Proofs.YtmbpefnhkimplaaGreatDoor
end
