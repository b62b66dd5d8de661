/- The texts R1x2, R1x, Pl in one file, without what these claims do not use (put together by prune2.py). -/
import Derived.Test.YtmbpefnhkimplaaGreatDoorZE7
import Derived.Test.YtmbpefnhkimplaaGreatDoorZE8
import Derived.Test.YtmbpefnhkimplaaGreatDoorZE3
section
namespace Go.Proofs.YtmbpefnhkimplaaGreatDoor.R1
open Go.RowKit Go.Proofs.YtmbpefnhkimplaaGreatDoor Go.Proofs.YtmbpefnhkimplaaGreatDoor.K0 Go.Proofs.YtmbpefnhkimplaaGreatDoorW.PrintWords Go.Proofs.YtmbpefnhkimplaaGreatDoorW.PrintLast Go.Proofs.YtmbpefnhkimplaaGreatDoorW.PrintMore
attribute [local go_sem] max2_int min2_int max_two min_two max_three min_three max_four min_four
set_option linter.unusedVariables false
set_option linter.unusedSimpArgs false
def files_plain.f (a0 : Int) : Option (Bool) := if a0 ≥ 97 then (if a0 ≤ 122 then (some true) else (if a0 ≥ 65 then (if a0 ≤ 90 then (some true) else (if a0 ≥ 48 then (if a0 ≤ 57 then (some true) else (if a0 = 45 then (some true) else (if a0 = 95 then (some true) else (some (a0 == 46))))) else (if a0 = 45 then (some true) else (if a0 = 95 then (some true) else (some (a0 == 46)))))) else (if a0 ≥ 48 then (if a0 ≤ 57 then (some true) else (if a0 = 45 then (some true) else (if a0 = 95 then (some true) else (some (a0 == 46))))) else (if a0 = 45 then (some true) else (if a0 = 95 then (some true) else (some (a0 == 46))))))) else (if a0 ≥ 65 then (if a0 ≤ 90 then (some true) else (if a0 ≥ 48 then (if a0 ≤ 57 then (some true) else (if a0 = 45 then (some true) else (if a0 = 95 then (some true) else (some (a0 == 46))))) else (if a0 = 45 then (some true) else (if a0 = 95 then (some true) else (some (a0 == 46)))))) else (if a0 ≥ 48 then (if a0 ≤ 57 then (some true) else (if a0 = 45 then (some true) else (if a0 = 95 then (some true) else (some (a0 == 46))))) else (if a0 = 45 then (some true) else (if a0 = 95 then (some true) else (some (a0 == 46))))))
set_option maxHeartbeats 8000000 in
set_option maxRecDepth 100000 in
theorem files_plain.calls (a0 : Int) (r : Bool) (w : World) (h : files_plain.f a0 = some r) :
  Calls Tryz.prog 172 #[.int .u8 a0] w fun e w' => e = .returned (.bool r) ∧ Drawn0 w w' := by
 have H : (if a0 ≥ 97 then (if a0 ≤ 122 then (some true) else (if a0 ≥ 65 then (if a0 ≤ 90 then (some true) else (if a0 ≥ 48 then (if a0 ≤ 57 then (some true) else (if a0 = 45 then (some true) else (if a0 = 95 then (some true) else (some (a0 == 46))))) else (if a0 = 45 then (some true) else (if a0 = 95 then (some true) else (some (a0 == 46)))))) else (if a0 ≥ 48 then (if a0 ≤ 57 then (some true) else (if a0 = 45 then (some true) else (if a0 = 95 then (some true) else (some (a0 == 46))))) else (if a0 = 45 then (some true) else (if a0 = 95 then (some true) else (some (a0 == 46))))))) else (if a0 ≥ 65 then (if a0 ≤ 90 then (some true) else (if a0 ≥ 48 then (if a0 ≤ 57 then (some true) else (if a0 = 45 then (some true) else (if a0 = 95 then (some true) else (some (a0 == 46))))) else (if a0 = 45 then (some true) else (if a0 = 95 then (some true) else (some (a0 == 46)))))) else (if a0 ≥ 48 then (if a0 ≤ 57 then (some true) else (if a0 = 45 then (some true) else (if a0 = 95 then (some true) else (some (a0 == 46))))) else (if a0 = 45 then (some true) else (if a0 = 95 then (some true) else (some (a0 == 46))))))) = some r := h; clear h; replace H := xJ H; rcases H with ⟨c2, H⟩ | ⟨c2, H⟩
 ·
  replace c2 := decide_eq_true c2; replace H := xJ H; rcases H with ⟨c3, H⟩ | ⟨c3, H⟩
  ·
   replace c3 := decide_eq_true c3; obtain rfl := Option.some.inj H; go_enter Tryz.func172, Tryz.ntmps172; go_wp2; go_ret; exact ⟨xR, xG⟩
  replace c3 := decide_eq_false c3; replace H := xJ H; rcases H with ⟨c4, H⟩ | ⟨c4, H⟩
  ·
   replace c4 := decide_eq_true c4; replace H := xJ H; rcases H with ⟨c5, H⟩ | ⟨c5, H⟩
   ·
    replace c5 := decide_eq_true c5; obtain rfl := Option.some.inj H; go_enter Tryz.func172, Tryz.ntmps172; go_wp2; go_ret; exact ⟨xR, xG⟩
   replace c5 := decide_eq_false c5; replace H := xJ H; rcases H with ⟨c6, H⟩ | ⟨c6, H⟩
   ·
    replace c6 := decide_eq_true c6; replace H := xJ H; rcases H with ⟨c7, H⟩ | ⟨c7, H⟩
    ·
     replace c7 := decide_eq_true c7; obtain rfl := Option.some.inj H; go_enter Tryz.func172, Tryz.ntmps172; go_wp2; go_ret; exact ⟨xR, xG⟩
    replace c7 := decide_eq_false c7; replace H := xJ H; rcases H with ⟨c8, H⟩ | ⟨c8, H⟩
    ·
     have c8b0 := beq_iff_eq.mpr c8; have c8b1 := bne_eq_false_iff_eq.mpr c8; clear c8; obtain rfl := Option.some.inj H; go_enter Tryz.func172, Tryz.ntmps172; go_wp2; go_ret; exact ⟨xR, xG⟩
    have c8b0 := beq_eq_false_iff_ne.mpr c8; have c8b1 := bne_iff_ne.mpr c8; replace H := xJ H; rcases H with ⟨c9, H⟩ | ⟨c9, H⟩
    ·
     have c9b0 := beq_iff_eq.mpr c9; have c9b1 := bne_eq_false_iff_eq.mpr c9; clear c9; obtain rfl := Option.some.inj H; go_enter Tryz.func172, Tryz.ntmps172; go_wp2; go_ret; exact ⟨xR, xG⟩
    have c9b0 := beq_eq_false_iff_ne.mpr c9; have c9b1 := bne_iff_ne.mpr c9; obtain rfl := Option.some.inj H; go_enter Tryz.func172, Tryz.ntmps172; go_wp2; go_ret; exact ⟨xR, xG⟩
   replace c6 := decide_eq_false c6; replace H := xJ H; rcases H with ⟨c10, H⟩ | ⟨c10, H⟩
   ·
    have c10b0 := beq_iff_eq.mpr c10; have c10b1 := bne_eq_false_iff_eq.mpr c10; clear c10; obtain rfl := Option.some.inj H; go_enter Tryz.func172, Tryz.ntmps172; go_wp2; go_ret; exact ⟨xR, xG⟩
   have c10b0 := beq_eq_false_iff_ne.mpr c10; have c10b1 := bne_iff_ne.mpr c10; replace H := xJ H; rcases H with ⟨c11, H⟩ | ⟨c11, H⟩
   ·
    have c11b0 := beq_iff_eq.mpr c11; have c11b1 := bne_eq_false_iff_eq.mpr c11; clear c11; obtain rfl := Option.some.inj H; go_enter Tryz.func172, Tryz.ntmps172; go_wp2; go_ret; exact ⟨xR, xG⟩
   have c11b0 := beq_eq_false_iff_ne.mpr c11; have c11b1 := bne_iff_ne.mpr c11; obtain rfl := Option.some.inj H; go_enter Tryz.func172, Tryz.ntmps172; go_wp2; go_ret; exact ⟨xR, xG⟩
  replace c4 := decide_eq_false c4; replace H := xJ H; rcases H with ⟨c12, H⟩ | ⟨c12, H⟩
  ·
   replace c12 := decide_eq_true c12; replace H := xJ H; rcases H with ⟨c13, H⟩ | ⟨c13, H⟩
   ·
    replace c13 := decide_eq_true c13; obtain rfl := Option.some.inj H; go_enter Tryz.func172, Tryz.ntmps172; go_wp2; go_ret; exact ⟨xR, xG⟩
   replace c13 := decide_eq_false c13; replace H := xJ H; rcases H with ⟨c14, H⟩ | ⟨c14, H⟩
   ·
    have c14b0 := beq_iff_eq.mpr c14; have c14b1 := bne_eq_false_iff_eq.mpr c14; clear c14; obtain rfl := Option.some.inj H; go_enter Tryz.func172, Tryz.ntmps172; go_wp2; go_ret; exact ⟨xR, xG⟩
   have c14b0 := beq_eq_false_iff_ne.mpr c14; have c14b1 := bne_iff_ne.mpr c14; replace H := xJ H; rcases H with ⟨c15, H⟩ | ⟨c15, H⟩
   ·
    have c15b0 := beq_iff_eq.mpr c15; have c15b1 := bne_eq_false_iff_eq.mpr c15; clear c15; obtain rfl := Option.some.inj H; go_enter Tryz.func172, Tryz.ntmps172; go_wp2; go_ret; exact ⟨xR, xG⟩
   have c15b0 := beq_eq_false_iff_ne.mpr c15; have c15b1 := bne_iff_ne.mpr c15; obtain rfl := Option.some.inj H; go_enter Tryz.func172, Tryz.ntmps172; go_wp2; go_ret; exact ⟨xR, xG⟩
  replace c12 := decide_eq_false c12; replace H := xJ H; rcases H with ⟨c16, H⟩ | ⟨c16, H⟩
  ·
   have c16b0 := beq_iff_eq.mpr c16; have c16b1 := bne_eq_false_iff_eq.mpr c16; clear c16; obtain rfl := Option.some.inj H; go_enter Tryz.func172, Tryz.ntmps172; go_wp2; go_ret; exact ⟨xR, xG⟩
  have c16b0 := beq_eq_false_iff_ne.mpr c16; have c16b1 := bne_iff_ne.mpr c16; replace H := xJ H; rcases H with ⟨c17, H⟩ | ⟨c17, H⟩
  ·
   have c17b0 := beq_iff_eq.mpr c17; have c17b1 := bne_eq_false_iff_eq.mpr c17; clear c17; obtain rfl := Option.some.inj H; go_enter Tryz.func172, Tryz.ntmps172; go_wp2; go_ret; exact ⟨xR, xG⟩
  have c17b0 := beq_eq_false_iff_ne.mpr c17; have c17b1 := bne_iff_ne.mpr c17; obtain rfl := Option.some.inj H; go_enter Tryz.func172, Tryz.ntmps172; go_wp2; go_ret; exact ⟨xR, xG⟩
 replace c2 := decide_eq_false c2; replace H := xJ H; rcases H with ⟨c18, H⟩ | ⟨c18, H⟩
 ·
  replace c18 := decide_eq_true c18; replace H := xJ H; rcases H with ⟨c19, H⟩ | ⟨c19, H⟩
  ·
   replace c19 := decide_eq_true c19; obtain rfl := Option.some.inj H; go_enter Tryz.func172, Tryz.ntmps172; go_wp2; go_ret; exact ⟨xR, xG⟩
  replace c19 := decide_eq_false c19; replace H := xJ H; rcases H with ⟨c20, H⟩ | ⟨c20, H⟩
  ·
   replace c20 := decide_eq_true c20; replace H := xJ H; rcases H with ⟨c21, H⟩ | ⟨c21, H⟩
   ·
    replace c21 := decide_eq_true c21; obtain rfl := Option.some.inj H; go_enter Tryz.func172, Tryz.ntmps172; go_wp2; go_ret; exact ⟨xR, xG⟩
   replace c21 := decide_eq_false c21; replace H := xJ H; rcases H with ⟨c22, H⟩ | ⟨c22, H⟩
   ·
    have c22b0 := beq_iff_eq.mpr c22; have c22b1 := bne_eq_false_iff_eq.mpr c22; clear c22; obtain rfl := Option.some.inj H; go_enter Tryz.func172, Tryz.ntmps172; go_wp2; go_ret; exact ⟨xR, xG⟩
   have c22b0 := beq_eq_false_iff_ne.mpr c22; have c22b1 := bne_iff_ne.mpr c22; replace H := xJ H; rcases H with ⟨c23, H⟩ | ⟨c23, H⟩
   ·
    have c23b0 := beq_iff_eq.mpr c23; have c23b1 := bne_eq_false_iff_eq.mpr c23; clear c23; obtain rfl := Option.some.inj H; go_enter Tryz.func172, Tryz.ntmps172; go_wp2; go_ret; exact ⟨xR, xG⟩
   have c23b0 := beq_eq_false_iff_ne.mpr c23; have c23b1 := bne_iff_ne.mpr c23; obtain rfl := Option.some.inj H; go_enter Tryz.func172, Tryz.ntmps172; go_wp2; go_ret; exact ⟨xR, xG⟩
  replace c20 := decide_eq_false c20; replace H := xJ H; rcases H with ⟨c24, H⟩ | ⟨c24, H⟩
  ·
   have c24b0 := beq_iff_eq.mpr c24; have c24b1 := bne_eq_false_iff_eq.mpr c24; clear c24; obtain rfl := Option.some.inj H; go_enter Tryz.func172, Tryz.ntmps172; go_wp2; go_ret; exact ⟨xR, xG⟩
  have c24b0 := beq_eq_false_iff_ne.mpr c24; have c24b1 := bne_iff_ne.mpr c24; replace H := xJ H; rcases H with ⟨c25, H⟩ | ⟨c25, H⟩
  ·
   have c25b0 := beq_iff_eq.mpr c25; have c25b1 := bne_eq_false_iff_eq.mpr c25; clear c25; obtain rfl := Option.some.inj H; go_enter Tryz.func172, Tryz.ntmps172; go_wp2; go_ret; exact ⟨xR, xG⟩
  have c25b0 := beq_eq_false_iff_ne.mpr c25; have c25b1 := bne_iff_ne.mpr c25; obtain rfl := Option.some.inj H; go_enter Tryz.func172, Tryz.ntmps172; go_wp2; go_ret; exact ⟨xR, xG⟩
 replace c18 := decide_eq_false c18; replace H := xJ H; rcases H with ⟨c26, H⟩ | ⟨c26, H⟩
 ·
  replace c26 := decide_eq_true c26; replace H := xJ H; rcases H with ⟨c27, H⟩ | ⟨c27, H⟩
  ·
   replace c27 := decide_eq_true c27; obtain rfl := Option.some.inj H; go_enter Tryz.func172, Tryz.ntmps172; go_wp2; go_ret; exact ⟨xR, xG⟩
  replace c27 := decide_eq_false c27; replace H := xJ H; rcases H with ⟨c28, H⟩ | ⟨c28, H⟩
  ·
   have c28b0 := beq_iff_eq.mpr c28; have c28b1 := bne_eq_false_iff_eq.mpr c28; clear c28; obtain rfl := Option.some.inj H; go_enter Tryz.func172, Tryz.ntmps172; go_wp2; go_ret; exact ⟨xR, xG⟩
  have c28b0 := beq_eq_false_iff_ne.mpr c28; have c28b1 := bne_iff_ne.mpr c28; replace H := xJ H; rcases H with ⟨c29, H⟩ | ⟨c29, H⟩
  ·
   have c29b0 := beq_iff_eq.mpr c29; have c29b1 := bne_eq_false_iff_eq.mpr c29; clear c29; obtain rfl := Option.some.inj H; go_enter Tryz.func172, Tryz.ntmps172; go_wp2; go_ret; exact ⟨xR, xG⟩
  have c29b0 := beq_eq_false_iff_ne.mpr c29; have c29b1 := bne_iff_ne.mpr c29; obtain rfl := Option.some.inj H; go_enter Tryz.func172, Tryz.ntmps172; go_wp2; go_ret; exact ⟨xR, xG⟩
 replace c26 := decide_eq_false c26; replace H := xJ H; rcases H with ⟨c30, H⟩ | ⟨c30, H⟩
 ·
  have c30b0 := beq_iff_eq.mpr c30; have c30b1 := bne_eq_false_iff_eq.mpr c30; clear c30; obtain rfl := Option.some.inj H; go_enter Tryz.func172, Tryz.ntmps172; go_wp2; go_ret; exact ⟨xR, xG⟩
 have c30b0 := beq_eq_false_iff_ne.mpr c30; have c30b1 := bne_iff_ne.mpr c30; replace H := xJ H; rcases H with ⟨c31, H⟩ | ⟨c31, H⟩
 ·
  have c31b0 := beq_iff_eq.mpr c31; have c31b1 := bne_eq_false_iff_eq.mpr c31; clear c31; obtain rfl := Option.some.inj H; go_enter Tryz.func172, Tryz.ntmps172; go_wp2; go_ret; exact ⟨xR, xG⟩
 have c31b0 := beq_eq_false_iff_ne.mpr c31; have c31b1 := bne_iff_ne.mpr c31; obtain rfl := Option.some.inj H; go_enter Tryz.func172, Tryz.ntmps172; go_wp2; go_ret; exact ⟨xR, xG⟩
def files_part.l0 : Nat → ByteArray → Int → Int → Option (Bool)
 | 0, _, _, _ => none
 | k + 1, x0, x5, x6 => if x6 < x5 then (if 0 ≤ x6 then (if x6 < (x0.size : Int) then ((files_plain.f (bt x0 x6)).bind fun t104 => (if t104 = true then (files_part.l0 k x0 x5 (wrap64 (x6 + 1))) else (some false))) else (none)) else (none)) else (if x0.toList = ([] : List UInt8) then (some false) else (if x0.toList = ([46] : List UInt8) then (some false) else (some (x0.toList != ([46, 46] : List UInt8)))))
def files_part.f (k : Nat) (a0 : ByteArray) : Option (Bool) := files_part.l0 k a0 (a0.size : Int) 0
theorem files_part.mono_l : ∀ k, (∀ y0 y1 y2, LeO (files_part.l0 k y0 y1 y2) (files_part.l0 (k + 1) y0 y1 y2))
 | 0 => fun _ _ _ r h => by simp [files_part.l0] at h
 | k + 1 => by
  have ih0 := files_part.mono_l k
  ·
   intro y0 y1 y2; unfold files_part.l0; exact xM
theorem files_part.mono : ∀ a0 k, LeO (files_part.f k a0) (files_part.f (k + 1) a0) := by
 intro a0 k; have ih0 := files_part.mono_l k; unfold files_part.f; exact xM
set_option maxHeartbeats 8000000 in
set_option maxRecDepth 100000 in
theorem files_part.calls (k : Nat) (a0 : ByteArray) (r : Bool) (w : World) (h : files_part.f k a0 = some r) :
  Calls Tryz.prog 139 #[.string a0] w fun e w' => e = .returned (.bool r) ∧ Drawn0 w w' := by
 have H : (files_part.l0 k a0 (a0.size : Int) 0) = some r := h; clear h; have H' := Aside0.mk H; clear H; go_enter Tryz.func139, Tryz.ntmps139; go_wp2
 go_loopg [6] k (fun kq v6 w' => ∃ (x6_1 : Int), v6 = .int .i64 x6_1 ∧ Aside0 (files_part.l0 kq a0 (a0.size : Int) x6_1 = some r) ∧ Aside0 (kq ≤ k) ∧ Drawn0 w w')
 case atStart => exact ⟨(0), xR, H', ⟨Nat.le_refl _⟩, by repeat (first | exact Drawn0.refl _ | apply Drawn0.step)⟩
 case round =>
  clear H'
  try clear c1
  obtain ⟨x6_1, rfl, HA, HK1, ⟨m1, rfl⟩⟩ := hrel
  cases gk with
  | zero => exact absurd HA.out (by simp [files_part.l0])
  | succ k1 =>
   have H := HA.out; clear HA; simp only [files_part.l0] at H; replace H := xJ H; rcases H with ⟨c2, H⟩ | ⟨c2, H⟩
   ·
    replace c2 := decide_eq_true c2; replace H := xI H; obtain ⟨c3, H⟩ := H; replace c3 := decide_eq_true c3; replace H := xI H; obtain ⟨c4, H⟩ := H; replace c4 := decide_eq_true c4; replace H := xb H; obtain ⟨t104, A6, H⟩ := H
    by_cases c7 : t104 = true
    ·
     subst c7; rw [if_pos rfl] at H; have H' := Aside0.mk H; clear H; obtain ⟨p5, q5, hx5⟩ := xV a0 x6_1; go_wp2_with (first | ((with_reducible refine gate_callee (f := 172) rfl ?_); refine goesL_ (some 12) rfl rfl Tryz.func172 (by kernel_rfl) rfl #[.int .u8 (bt a0 x6_1)] rfl xS ?_; (with_reducible refine (files_plain.calls (bt a0 x6_1) true _ A6.out).mono ?_); rintro e w' ⟨rfl, ⟨nd, rfl⟩⟩; refine ⟨_, rfl, ?_⟩)); go_roundg k1
     case measure => exact xO1
     case rel => exact ⟨(wrap64 (x6_1 + 1)), xR, H', ⟨xO1⟩, by repeat (first | exact Drawn0.refl _ | apply Drawn0.step)⟩
    replace c7 := Bool.eq_false_iff.mpr c7; subst c7; rw [if_neg (show ¬ (false = true) by decide)] at H; obtain rfl := Option.some.inj H; obtain ⟨p5, q5, hx5⟩ := xV a0 x6_1; go_wp2_with (first | ((with_reducible refine gate_callee (f := 172) rfl ?_); refine goesL_ (some 12) rfl rfl Tryz.func172 (by kernel_rfl) rfl #[.int .u8 (bt a0 x6_1)] rfl xS ?_; (with_reducible refine (files_plain.calls (bt a0 x6_1) false _ A6.out).mono ?_); rintro e w' ⟨rfl, ⟨nd, rfl⟩⟩; refine ⟨_, rfl, ?_⟩)); go_ret; exact ⟨xR, xG⟩
   replace c2 := decide_eq_false c2; replace H := xJ H; rcases H with ⟨c8, H⟩ | ⟨c8, H⟩
   ·
    have c8b0 := beq_iff_eq.mpr c8; have c8b1 := bne_eq_false_iff_eq.mpr c8; clear c8; obtain rfl := Option.some.inj H; go_wp2; go_ret; exact ⟨xR, xG⟩
   have c8b0 := beq_eq_false_iff_ne.mpr c8; have c8b1 := bne_iff_ne.mpr c8; replace H := xJ H; rcases H with ⟨c9, H⟩ | ⟨c9, H⟩
   ·
    have c9b0 := beq_iff_eq.mpr c9; have c9b1 := bne_eq_false_iff_eq.mpr c9; clear c9; obtain rfl := Option.some.inj H; go_wp2; go_ret; exact ⟨xR, xG⟩
   have c9b0 := beq_eq_false_iff_ne.mpr c9; have c9b1 := bne_iff_ne.mpr c9; obtain rfl := Option.some.inj H; go_wp2; go_ret; exact ⟨xR, xG⟩
end Go.Proofs.YtmbpefnhkimplaaGreatDoor.R1
end

section
namespace Go.Proofs.YtmbpefnhkimplaaGreatDoor.R1
open Go.RowKit Go.Proofs.YtmbpefnhkimplaaGreatDoor Go.Proofs.YtmbpefnhkimplaaGreatDoor.K0 Go.Proofs.YtmbpefnhkimplaaGreatDoorW.PrintWords Go.Proofs.YtmbpefnhkimplaaGreatDoorW.PrintLast Go.Proofs.YtmbpefnhkimplaaGreatDoorW.PrintMore
attribute [local go_sem] max2_int min2_int max_two min_two max_three min_three max_four min_four
set_option linter.unusedVariables false
set_option linter.unusedSimpArgs false
end Go.Proofs.YtmbpefnhkimplaaGreatDoor.R1
end

section
namespace Go.Proofs.YtmbpefnhkimplaaGreatDoor
open Go Go.RowKit Go.Proofs.YtmbpefnhkimplaaGreatDoorW.PrintWords Go.Proofs.YtmbpefnhkimplaaGreatDoor.K0 Go.Proofs.YtmbpefnhkimplaaGreatDoor.R1
set_option linter.unusedVariables false
set_option linter.unusedSimpArgs false
theorem scan {s : ByteArray} {n : Nat} (h : n < s.size) : ∃ b : UInt8, bt s (n : Int) = (b.toNat : Int) ∧ s.data.toList.drop n = b :: s.data.toList.drop (n + 1) := by
  have hl : n < s.data.toList.length := by rw [← Lib.size_eq]; exact h
  refine ⟨s.data.toList[n], ?_, List.drop_eq_getElem_cons hl⟩
  have h2 : ((n : Int)).toNat < s.size := h
  rw [bt, dif_pos h2]
  rfl
theorem scan_end {s : ByteArray} {n : Nat} (h : s.size ≤ n) : s.data.toList.drop n = [] := by
  apply List.drop_eq_nil_of_le
  rw [← Lib.size_eq]; exact h
theorem wrap_succ {n : Nat} (h : n ≤ 4294967296) : wrap64 ((n : Int) + 1) = ((n + 1 : Nat) : Int) := by
  unfold wrap64; omega
theorem wrap_id {z : Int} (h0 : -9223372036854775808 ≤ z) (h1 : z ≤ 9223372036854775807) : wrap64 z = z := by
  unfold wrap64; omega
theorem toList_ne (s : ByteArray) : (s.toList != ([] : List UInt8)) = !s.data.toList.isEmpty := by
  rw [ByteArray.toList_eq]
  cases s.data.toList <;> rfl
def digN (n : Nat) : Bool := decide (48 ≤ n) && decide (n ≤ 57)
def alnumN (n : Nat) : Bool := (decide (97 ≤ n) && decide (n ≤ 122)) || (decide (65 ≤ n) && decide (n ≤ 90)) || digN n
def plainN (n : Nat) : Bool := alnumN n || decide (n = 45) || decide (n = 95) || decide (n = 46)
def identN (n : Nat) : Bool := alnumN n || decide (n = 45)
def isDig (b : UInt8) : Bool := digN b.toNat
def isPlain (b : UInt8) : Bool := plainN b.toNat
def isIdent (b : UInt8) : Bool := identN b.toNat
def partFin (l : List UInt8) : Bool := !decide (l = []) && (!decide (l = [46]) && !decide (l = [46, 46]))
def partOk (l : List UInt8) : Bool := l.all isPlain && partFin l
def digitsOk (l : List UInt8) : Bool := l.all isDig && !l.isEmpty
def wordOk (l : List UInt8) : Bool := l.all isIdent && !l.isEmpty
def tightOk (l : List UInt8) : Bool := decide (l.length < 2) || !(l.head? == some 48) || !digitsOk l
theorem plain_nat : ∀ n : Nat, n < 256 → files_plain.f (n : Int) = some (plainN n) := by decide +kernel
theorem digit_nat : ∀ n : Nat, n < 256 → ver_digit.f (n : Int) = some (digN n) := by decide +kernel
theorem plain_f (b : UInt8) : files_plain.f (b.toNat : Int) = some (isPlain b) := plain_nat _ b.toNat_lt
theorem digit_f (b : UInt8) : ver_digit.f (b.toNat : Int) = some (isDig b) := digit_nat _ b.toNat_lt
theorem files_part_l0 (s : ByteArray) (hs : s.size ≤ 4294967290) : ∀ (d n k : Nat), s.size - n = d → n ≤ s.size → d < k →
    files_part.l0 k s (s.size : Int) (n : Int) = some ((s.data.toList.drop n).all isPlain && partFin s.data.toList) := by
  intro d
  induction d with
  | zero =>
    intro n k hd hn hk
    obtain ⟨k, rfl⟩ : ∃ m, k = m + 1 := ⟨k - 1, by omega⟩
    simp only [files_part.l0]
    rw [if_neg (by omega), scan_end (by omega), ByteArray.toList_eq]
    by_cases h1 : s.data.toList = []
    · rw [if_pos h1]; simp [h1, partFin]
    · rw [if_neg h1]
      by_cases h2 : s.data.toList = [46]
      · rw [if_pos h2]; simp [h2, partFin]
      · rw [if_neg h2]
        by_cases h3 : s.data.toList = [46, 46] <;> simp [h1, h2, h3, bne, partFin]
  | succ d ih =>
    intro n k hd hn hk
    obtain ⟨k, rfl⟩ : ∃ m, k = m + 1 := ⟨k - 1, by omega⟩
    obtain ⟨b, hb, hd2⟩ := scan (s := s) (n := n) (by omega)
    simp only [files_part.l0]
    rw [if_pos (by omega), if_pos (by omega), if_pos (by omega), hb, plain_f]
    simp only [Option.bind_some]
    rw [wrap_succ (by omega), ih (n + 1) k (by omega) (by omega) (by omega), hd2, List.all_cons]
    cases isPlain b <;> simp
theorem files_part_f (s : ByteArray) (hs : s.size ≤ 4294967290) (k : Nat) (hk : s.size < k) : files_part.f k s = some (partOk s.data.toList) := by
  unfold files_part.f partOk
  rw [show (0 : Int) = ((0 : Nat) : Int) from rfl, files_part_l0 s hs s.size 0 k (by omega) (by omega) hk]
  simp
theorem word_l0 (s : ByteArray) (hs : s.size ≤ 4294967290) : ∀ (d n k : Nat), s.size - n = d → n ≤ s.size → d < k →
    ver_word.l0 k s (s.size : Int) (n : Int) = some ((s.data.toList.drop n).all isIdent && !s.data.toList.isEmpty) := by
  intro d
  induction d with
  | zero =>
    intro n k hd hn hk
    obtain ⟨k, rfl⟩ : ∃ m, k = m + 1 := ⟨k - 1, by omega⟩
    simp only [ver_word.l0]
    rw [if_neg (by omega), scan_end (by omega), toList_ne]
    rfl
  | succ d ih =>
    intro n k hd hn hk
    obtain ⟨k, rfl⟩ : ∃ m, k = m + 1 := ⟨k - 1, by omega⟩
    obtain ⟨b, hb, hd2⟩ := scan (s := s) (n := n) (by omega)
    simp only [ver_word.l0]
    rw [if_pos (by omega), if_pos (by omega), if_pos (by omega), hb, digit_f, wrap_succ (by omega), ih (n + 1) k (by omega) (by omega) (by omega), hd2, List.all_cons, Bool.and_assoc]
    simp only [Option.bind_some]
    generalize ((s.data.toList.drop (n + 1)).all isIdent && !s.data.toList.isEmpty) = X
    have hm := b.toNat_lt
    clear ih hd2 hb hd hk hs hn
    unfold isIdent isDig
    generalize b.toNat = m at hm ⊢
    revert X
    revert m
    decide +kernel
theorem word_f (s : ByteArray) (hs : s.size ≤ 4294967290) (k : Nat) (hk : s.size < k) : ver_word.f k s = some (wordOk s.data.toList) := by
  unfold ver_word.f wordOk
  rw [show (0 : Int) = ((0 : Nat) : Int) from rfl, word_l0 s hs s.size 0 k (by omega) (by omega) hk]
  simp
theorem digits_l0 (s : ByteArray) (hs : s.size ≤ 4294967290) : ∀ (d n k : Nat), s.size - n = d → n ≤ s.size → d < k →
    ver_digits.l0 k s (s.size : Int) (n : Int) = some ((s.data.toList.drop n).all isDig && !s.data.toList.isEmpty) := by
  intro d
  induction d with
  | zero =>
    intro n k hd hn hk
    obtain ⟨k, rfl⟩ : ∃ m, k = m + 1 := ⟨k - 1, by omega⟩
    simp only [ver_digits.l0]
    rw [if_neg (by omega), scan_end (by omega), toList_ne]
    rfl
  | succ d ih =>
    intro n k hd hn hk
    obtain ⟨k, rfl⟩ : ∃ m, k = m + 1 := ⟨k - 1, by omega⟩
    obtain ⟨b, hb, hd2⟩ := scan (s := s) (n := n) (by omega)
    simp only [ver_digits.l0]
    rw [if_pos (by omega), if_pos (by omega), if_pos (by omega), hb, digit_f, wrap_succ (by omega), ih (n + 1) k (by omega) (by omega) (by omega), hd2, List.all_cons, Bool.and_assoc]
    simp only [Option.bind_some]
    cases isDig b <;> simp
theorem digits_f (s : ByteArray) (hs : s.size ≤ 4294967290) (k : Nat) (hk : s.size < k) : ver_digits.f k s = some (digitsOk s.data.toList) := by
  unfold ver_digits.f digitsOk
  rw [show (0 : Int) = ((0 : Nat) : Int) from rfl, digits_l0 s hs s.size 0 k (by omega) (by omega) hk]
  simp
theorem tight_f (s : ByteArray) (hs : s.size ≤ 4294967290) (k : Nat) (hk : s.size < k) : ver_tight.f k s = some (tightOk s.data.toList) := by
  unfold ver_tight.f tightOk
  have hsz : s.size = s.data.toList.length := Lib.size_eq s
  by_cases h1 : (s.size : Int) < 2
  · rw [if_pos h1]
    have : decide (s.data.toList.length < 2) = true := decide_eq_true (by omega)
    rw [this]; rfl
  · rw [if_neg h1, if_pos (by omega)]
    obtain ⟨b, hb, hd2⟩ := scan (s := s) (n := 0) (by omega)
    rw [List.drop_zero] at hd2
    have hb' : bt s 0 = (b.toNat : Int) := hb
    have : decide (s.data.toList.length < 2) = false := decide_eq_false (by omega)
    rw [this, hb', digits_f s hs k hk]
    have e : (s.data.toList.head? == some 48) = decide ((b.toNat : Int) = 48) := by
      rw [hd2]
      by_cases h : b = 48
      · subst h; rfl
      · have : ¬ ((b.toNat : Int) = 48) := fun e => h (UInt8.toNat_inj.1 (by show b.toNat = 48; omega))
        rw [decide_eq_false this]
        simp [h]
    rw [e]
    by_cases h : (b.toNat : Int) = 48
    · rw [if_pos h, decide_eq_true h]; simp
    · rw [if_neg h, decide_eq_false h]; simp
end Go.Proofs.YtmbpefnhkimplaaGreatDoor
end
