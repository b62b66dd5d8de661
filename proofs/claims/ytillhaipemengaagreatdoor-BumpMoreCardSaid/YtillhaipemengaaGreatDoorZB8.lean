/- The texts R1x2, R1x in one file, without what these claims do not use (put together by prune2.py). -/
import Derived.Test.YtillhaipemengaaGreatDoorZB6
import Derived.Test.YtillhaipemengaaGreatDoorZB7
section
namespace Go.Proofs.YtillhaipemengaaGreatDoor.R1
open Go.RowKit Go.Proofs.YtillhaipemengaaGreatDoor Go.Proofs.YtillhaipemengaaGreatDoor.K0 Go.Proofs.YtillhaipemengaaGreatDoorW.PrintWords Go.Proofs.YtillhaipemengaaGreatDoorW.PrintLast Go.Proofs.YtillhaipemengaaGreatDoorW.PrintMore
attribute [local go_sem] max2_int min2_int max_two min_two max_three min_three max_four min_four
set_option linter.unusedVariables false
set_option linter.unusedSimpArgs false
def files_plain.f (a0 : Int) : Option (Bool) := if a0 ≥ 97 then (if a0 ≤ 122 then (some true) else (if a0 ≥ 65 then (if a0 ≤ 90 then (some true) else (if a0 ≥ 48 then (if a0 ≤ 57 then (some true) else (if a0 = 45 then (some true) else (if a0 = 95 then (some true) else (some (a0 == 46))))) else (if a0 = 45 then (some true) else (if a0 = 95 then (some true) else (some (a0 == 46)))))) else (if a0 ≥ 48 then (if a0 ≤ 57 then (some true) else (if a0 = 45 then (some true) else (if a0 = 95 then (some true) else (some (a0 == 46))))) else (if a0 = 45 then (some true) else (if a0 = 95 then (some true) else (some (a0 == 46))))))) else (if a0 ≥ 65 then (if a0 ≤ 90 then (some true) else (if a0 ≥ 48 then (if a0 ≤ 57 then (some true) else (if a0 = 45 then (some true) else (if a0 = 95 then (some true) else (some (a0 == 46))))) else (if a0 = 45 then (some true) else (if a0 = 95 then (some true) else (some (a0 == 46)))))) else (if a0 ≥ 48 then (if a0 ≤ 57 then (some true) else (if a0 = 45 then (some true) else (if a0 = 95 then (some true) else (some (a0 == 46))))) else (if a0 = 45 then (some true) else (if a0 = 95 then (some true) else (some (a0 == 46))))))
set_option maxHeartbeats 8000000 in
set_option maxRecDepth 100000 in
theorem files_plain.calls (a0 : Int) (r : Bool) (w : World) (h : files_plain.f a0 = some r) :
  Calls Tryz.prog 142 #[.int .u8 a0] w fun e w' => e = .returned (.bool r) ∧ Drawn0 w w' := by
 have H : (if a0 ≥ 97 then (if a0 ≤ 122 then (some true) else (if a0 ≥ 65 then (if a0 ≤ 90 then (some true) else (if a0 ≥ 48 then (if a0 ≤ 57 then (some true) else (if a0 = 45 then (some true) else (if a0 = 95 then (some true) else (some (a0 == 46))))) else (if a0 = 45 then (some true) else (if a0 = 95 then (some true) else (some (a0 == 46)))))) else (if a0 ≥ 48 then (if a0 ≤ 57 then (some true) else (if a0 = 45 then (some true) else (if a0 = 95 then (some true) else (some (a0 == 46))))) else (if a0 = 45 then (some true) else (if a0 = 95 then (some true) else (some (a0 == 46))))))) else (if a0 ≥ 65 then (if a0 ≤ 90 then (some true) else (if a0 ≥ 48 then (if a0 ≤ 57 then (some true) else (if a0 = 45 then (some true) else (if a0 = 95 then (some true) else (some (a0 == 46))))) else (if a0 = 45 then (some true) else (if a0 = 95 then (some true) else (some (a0 == 46)))))) else (if a0 ≥ 48 then (if a0 ≤ 57 then (some true) else (if a0 = 45 then (some true) else (if a0 = 95 then (some true) else (some (a0 == 46))))) else (if a0 = 45 then (some true) else (if a0 = 95 then (some true) else (some (a0 == 46))))))) = some r := h
 clear h
 by_cases c2 : a0 ≥ 97
 ·
  rw [if_pos c2] at H
  have c2b0 := decide_eq_true c2
  clear c2
  by_cases c3 : a0 ≤ 122
  ·
   rw [if_pos c3] at H
   have c3b0 := decide_eq_true c3
   clear c3
   obtain rfl := Option.some.inj H
   go_enter Tryz.func142, Tryz.ntmps142
   go_wp2
   go_ret
   exact ⟨xR, by repeat (first | exact Drawn0.refl _ | apply Drawn0.step)⟩
  rw [if_neg c3] at H
  have c3b0 := decide_eq_false c3
  clear c3
  by_cases c4 : a0 ≥ 65
  ·
   rw [if_pos c4] at H
   have c4b0 := decide_eq_true c4
   clear c4
   by_cases c5 : a0 ≤ 90
   ·
    rw [if_pos c5] at H
    have c5b0 := decide_eq_true c5
    clear c5
    obtain rfl := Option.some.inj H
    go_enter Tryz.func142, Tryz.ntmps142
    go_wp2
    go_ret
    exact ⟨xR, by repeat (first | exact Drawn0.refl _ | apply Drawn0.step)⟩
   rw [if_neg c5] at H
   have c5b0 := decide_eq_false c5
   clear c5
   by_cases c6 : a0 ≥ 48
   ·
    rw [if_pos c6] at H
    have c6b0 := decide_eq_true c6
    clear c6
    by_cases c7 : a0 ≤ 57
    ·
     rw [if_pos c7] at H
     have c7b0 := decide_eq_true c7
     clear c7
     obtain rfl := Option.some.inj H
     go_enter Tryz.func142, Tryz.ntmps142
     go_wp2
     go_ret
     exact ⟨xR, by repeat (first | exact Drawn0.refl _ | apply Drawn0.step)⟩
    rw [if_neg c7] at H
    have c7b0 := decide_eq_false c7
    clear c7
    by_cases c8 : a0 = 45
    ·
     rw [if_pos c8] at H
     have c8b0 := beq_iff_eq.mpr c8
     have c8b1 := bne_eq_false_iff_eq.mpr c8
     clear c8
     obtain rfl := Option.some.inj H
     go_enter Tryz.func142, Tryz.ntmps142
     go_wp2
     go_ret
     exact ⟨xR, by repeat (first | exact Drawn0.refl _ | apply Drawn0.step)⟩
    rw [if_neg c8] at H
    have c8b0 := beq_eq_false_iff_ne.mpr c8
    have c8b1 := bne_iff_ne.mpr c8
    by_cases c9 : a0 = 95
    ·
     rw [if_pos c9] at H
     have c9b0 := beq_iff_eq.mpr c9
     have c9b1 := bne_eq_false_iff_eq.mpr c9
     clear c9
     obtain rfl := Option.some.inj H
     go_enter Tryz.func142, Tryz.ntmps142
     go_wp2
     go_ret
     exact ⟨xR, by repeat (first | exact Drawn0.refl _ | apply Drawn0.step)⟩
    rw [if_neg c9] at H
    have c9b0 := beq_eq_false_iff_ne.mpr c9
    have c9b1 := bne_iff_ne.mpr c9
    obtain rfl := Option.some.inj H
    go_enter Tryz.func142, Tryz.ntmps142
    go_wp2
    go_ret
    exact ⟨xR, by repeat (first | exact Drawn0.refl _ | apply Drawn0.step)⟩
   rw [if_neg c6] at H
   have c6b0 := decide_eq_false c6
   clear c6
   by_cases c10 : a0 = 45
   ·
    rw [if_pos c10] at H
    have c10b0 := beq_iff_eq.mpr c10
    have c10b1 := bne_eq_false_iff_eq.mpr c10
    clear c10
    obtain rfl := Option.some.inj H
    go_enter Tryz.func142, Tryz.ntmps142
    go_wp2
    go_ret
    exact ⟨xR, by repeat (first | exact Drawn0.refl _ | apply Drawn0.step)⟩
   rw [if_neg c10] at H
   have c10b0 := beq_eq_false_iff_ne.mpr c10
   have c10b1 := bne_iff_ne.mpr c10
   by_cases c11 : a0 = 95
   ·
    rw [if_pos c11] at H
    have c11b0 := beq_iff_eq.mpr c11
    have c11b1 := bne_eq_false_iff_eq.mpr c11
    clear c11
    obtain rfl := Option.some.inj H
    go_enter Tryz.func142, Tryz.ntmps142
    go_wp2
    go_ret
    exact ⟨xR, by repeat (first | exact Drawn0.refl _ | apply Drawn0.step)⟩
   rw [if_neg c11] at H
   have c11b0 := beq_eq_false_iff_ne.mpr c11
   have c11b1 := bne_iff_ne.mpr c11
   obtain rfl := Option.some.inj H
   go_enter Tryz.func142, Tryz.ntmps142
   go_wp2
   go_ret
   exact ⟨xR, by repeat (first | exact Drawn0.refl _ | apply Drawn0.step)⟩
  rw [if_neg c4] at H
  have c4b0 := decide_eq_false c4
  clear c4
  by_cases c12 : a0 ≥ 48
  ·
   rw [if_pos c12] at H
   have c12b0 := decide_eq_true c12
   clear c12
   by_cases c13 : a0 ≤ 57
   ·
    rw [if_pos c13] at H
    have c13b0 := decide_eq_true c13
    clear c13
    obtain rfl := Option.some.inj H
    go_enter Tryz.func142, Tryz.ntmps142
    go_wp2
    go_ret
    exact ⟨xR, by repeat (first | exact Drawn0.refl _ | apply Drawn0.step)⟩
   rw [if_neg c13] at H
   have c13b0 := decide_eq_false c13
   clear c13
   by_cases c14 : a0 = 45
   ·
    rw [if_pos c14] at H
    have c14b0 := beq_iff_eq.mpr c14
    have c14b1 := bne_eq_false_iff_eq.mpr c14
    clear c14
    obtain rfl := Option.some.inj H
    go_enter Tryz.func142, Tryz.ntmps142
    go_wp2
    go_ret
    exact ⟨xR, by repeat (first | exact Drawn0.refl _ | apply Drawn0.step)⟩
   rw [if_neg c14] at H
   have c14b0 := beq_eq_false_iff_ne.mpr c14
   have c14b1 := bne_iff_ne.mpr c14
   by_cases c15 : a0 = 95
   ·
    rw [if_pos c15] at H
    have c15b0 := beq_iff_eq.mpr c15
    have c15b1 := bne_eq_false_iff_eq.mpr c15
    clear c15
    obtain rfl := Option.some.inj H
    go_enter Tryz.func142, Tryz.ntmps142
    go_wp2
    go_ret
    exact ⟨xR, by repeat (first | exact Drawn0.refl _ | apply Drawn0.step)⟩
   rw [if_neg c15] at H
   have c15b0 := beq_eq_false_iff_ne.mpr c15
   have c15b1 := bne_iff_ne.mpr c15
   obtain rfl := Option.some.inj H
   go_enter Tryz.func142, Tryz.ntmps142
   go_wp2
   go_ret
   exact ⟨xR, by repeat (first | exact Drawn0.refl _ | apply Drawn0.step)⟩
  rw [if_neg c12] at H
  have c12b0 := decide_eq_false c12
  clear c12
  by_cases c16 : a0 = 45
  ·
   rw [if_pos c16] at H
   have c16b0 := beq_iff_eq.mpr c16
   have c16b1 := bne_eq_false_iff_eq.mpr c16
   clear c16
   obtain rfl := Option.some.inj H
   go_enter Tryz.func142, Tryz.ntmps142
   go_wp2
   go_ret
   exact ⟨xR, by repeat (first | exact Drawn0.refl _ | apply Drawn0.step)⟩
  rw [if_neg c16] at H
  have c16b0 := beq_eq_false_iff_ne.mpr c16
  have c16b1 := bne_iff_ne.mpr c16
  by_cases c17 : a0 = 95
  ·
   rw [if_pos c17] at H
   have c17b0 := beq_iff_eq.mpr c17
   have c17b1 := bne_eq_false_iff_eq.mpr c17
   clear c17
   obtain rfl := Option.some.inj H
   go_enter Tryz.func142, Tryz.ntmps142
   go_wp2
   go_ret
   exact ⟨xR, by repeat (first | exact Drawn0.refl _ | apply Drawn0.step)⟩
  rw [if_neg c17] at H
  have c17b0 := beq_eq_false_iff_ne.mpr c17
  have c17b1 := bne_iff_ne.mpr c17
  obtain rfl := Option.some.inj H
  go_enter Tryz.func142, Tryz.ntmps142
  go_wp2
  go_ret
  exact ⟨xR, by repeat (first | exact Drawn0.refl _ | apply Drawn0.step)⟩
 rw [if_neg c2] at H
 have c2b0 := decide_eq_false c2
 clear c2
 by_cases c18 : a0 ≥ 65
 ·
  rw [if_pos c18] at H
  have c18b0 := decide_eq_true c18
  clear c18
  by_cases c19 : a0 ≤ 90
  ·
   rw [if_pos c19] at H
   have c19b0 := decide_eq_true c19
   clear c19
   obtain rfl := Option.some.inj H
   go_enter Tryz.func142, Tryz.ntmps142
   go_wp2
   go_ret
   exact ⟨xR, by repeat (first | exact Drawn0.refl _ | apply Drawn0.step)⟩
  rw [if_neg c19] at H
  have c19b0 := decide_eq_false c19
  clear c19
  by_cases c20 : a0 ≥ 48
  ·
   rw [if_pos c20] at H
   have c20b0 := decide_eq_true c20
   clear c20
   by_cases c21 : a0 ≤ 57
   ·
    rw [if_pos c21] at H
    have c21b0 := decide_eq_true c21
    clear c21
    obtain rfl := Option.some.inj H
    go_enter Tryz.func142, Tryz.ntmps142
    go_wp2
    go_ret
    exact ⟨xR, by repeat (first | exact Drawn0.refl _ | apply Drawn0.step)⟩
   rw [if_neg c21] at H
   have c21b0 := decide_eq_false c21
   clear c21
   by_cases c22 : a0 = 45
   ·
    rw [if_pos c22] at H
    have c22b0 := beq_iff_eq.mpr c22
    have c22b1 := bne_eq_false_iff_eq.mpr c22
    clear c22
    obtain rfl := Option.some.inj H
    go_enter Tryz.func142, Tryz.ntmps142
    go_wp2
    go_ret
    exact ⟨xR, by repeat (first | exact Drawn0.refl _ | apply Drawn0.step)⟩
   rw [if_neg c22] at H
   have c22b0 := beq_eq_false_iff_ne.mpr c22
   have c22b1 := bne_iff_ne.mpr c22
   by_cases c23 : a0 = 95
   ·
    rw [if_pos c23] at H
    have c23b0 := beq_iff_eq.mpr c23
    have c23b1 := bne_eq_false_iff_eq.mpr c23
    clear c23
    obtain rfl := Option.some.inj H
    go_enter Tryz.func142, Tryz.ntmps142
    go_wp2
    go_ret
    exact ⟨xR, by repeat (first | exact Drawn0.refl _ | apply Drawn0.step)⟩
   rw [if_neg c23] at H
   have c23b0 := beq_eq_false_iff_ne.mpr c23
   have c23b1 := bne_iff_ne.mpr c23
   obtain rfl := Option.some.inj H
   go_enter Tryz.func142, Tryz.ntmps142
   go_wp2
   go_ret
   exact ⟨xR, by repeat (first | exact Drawn0.refl _ | apply Drawn0.step)⟩
  rw [if_neg c20] at H
  have c20b0 := decide_eq_false c20
  clear c20
  by_cases c24 : a0 = 45
  ·
   rw [if_pos c24] at H
   have c24b0 := beq_iff_eq.mpr c24
   have c24b1 := bne_eq_false_iff_eq.mpr c24
   clear c24
   obtain rfl := Option.some.inj H
   go_enter Tryz.func142, Tryz.ntmps142
   go_wp2
   go_ret
   exact ⟨xR, by repeat (first | exact Drawn0.refl _ | apply Drawn0.step)⟩
  rw [if_neg c24] at H
  have c24b0 := beq_eq_false_iff_ne.mpr c24
  have c24b1 := bne_iff_ne.mpr c24
  by_cases c25 : a0 = 95
  ·
   rw [if_pos c25] at H
   have c25b0 := beq_iff_eq.mpr c25
   have c25b1 := bne_eq_false_iff_eq.mpr c25
   clear c25
   obtain rfl := Option.some.inj H
   go_enter Tryz.func142, Tryz.ntmps142
   go_wp2
   go_ret
   exact ⟨xR, by repeat (first | exact Drawn0.refl _ | apply Drawn0.step)⟩
  rw [if_neg c25] at H
  have c25b0 := beq_eq_false_iff_ne.mpr c25
  have c25b1 := bne_iff_ne.mpr c25
  obtain rfl := Option.some.inj H
  go_enter Tryz.func142, Tryz.ntmps142
  go_wp2
  go_ret
  exact ⟨xR, by repeat (first | exact Drawn0.refl _ | apply Drawn0.step)⟩
 rw [if_neg c18] at H
 have c18b0 := decide_eq_false c18
 clear c18
 by_cases c26 : a0 ≥ 48
 ·
  rw [if_pos c26] at H
  have c26b0 := decide_eq_true c26
  clear c26
  by_cases c27 : a0 ≤ 57
  ·
   rw [if_pos c27] at H
   have c27b0 := decide_eq_true c27
   clear c27
   obtain rfl := Option.some.inj H
   go_enter Tryz.func142, Tryz.ntmps142
   go_wp2
   go_ret
   exact ⟨xR, by repeat (first | exact Drawn0.refl _ | apply Drawn0.step)⟩
  rw [if_neg c27] at H
  have c27b0 := decide_eq_false c27
  clear c27
  by_cases c28 : a0 = 45
  ·
   rw [if_pos c28] at H
   have c28b0 := beq_iff_eq.mpr c28
   have c28b1 := bne_eq_false_iff_eq.mpr c28
   clear c28
   obtain rfl := Option.some.inj H
   go_enter Tryz.func142, Tryz.ntmps142
   go_wp2
   go_ret
   exact ⟨xR, by repeat (first | exact Drawn0.refl _ | apply Drawn0.step)⟩
  rw [if_neg c28] at H
  have c28b0 := beq_eq_false_iff_ne.mpr c28
  have c28b1 := bne_iff_ne.mpr c28
  by_cases c29 : a0 = 95
  ·
   rw [if_pos c29] at H
   have c29b0 := beq_iff_eq.mpr c29
   have c29b1 := bne_eq_false_iff_eq.mpr c29
   clear c29
   obtain rfl := Option.some.inj H
   go_enter Tryz.func142, Tryz.ntmps142
   go_wp2
   go_ret
   exact ⟨xR, by repeat (first | exact Drawn0.refl _ | apply Drawn0.step)⟩
  rw [if_neg c29] at H
  have c29b0 := beq_eq_false_iff_ne.mpr c29
  have c29b1 := bne_iff_ne.mpr c29
  obtain rfl := Option.some.inj H
  go_enter Tryz.func142, Tryz.ntmps142
  go_wp2
  go_ret
  exact ⟨xR, by repeat (first | exact Drawn0.refl _ | apply Drawn0.step)⟩
 rw [if_neg c26] at H
 have c26b0 := decide_eq_false c26
 clear c26
 by_cases c30 : a0 = 45
 ·
  rw [if_pos c30] at H
  have c30b0 := beq_iff_eq.mpr c30
  have c30b1 := bne_eq_false_iff_eq.mpr c30
  clear c30
  obtain rfl := Option.some.inj H
  go_enter Tryz.func142, Tryz.ntmps142
  go_wp2
  go_ret
  exact ⟨xR, by repeat (first | exact Drawn0.refl _ | apply Drawn0.step)⟩
 rw [if_neg c30] at H
 have c30b0 := beq_eq_false_iff_ne.mpr c30
 have c30b1 := bne_iff_ne.mpr c30
 by_cases c31 : a0 = 95
 ·
  rw [if_pos c31] at H
  have c31b0 := beq_iff_eq.mpr c31
  have c31b1 := bne_eq_false_iff_eq.mpr c31
  clear c31
  obtain rfl := Option.some.inj H
  go_enter Tryz.func142, Tryz.ntmps142
  go_wp2
  go_ret
  exact ⟨xR, by repeat (first | exact Drawn0.refl _ | apply Drawn0.step)⟩
 rw [if_neg c31] at H
 have c31b0 := beq_eq_false_iff_ne.mpr c31
 have c31b1 := bne_iff_ne.mpr c31
 obtain rfl := Option.some.inj H
 go_enter Tryz.func142, Tryz.ntmps142
 go_wp2
 go_ret
 exact ⟨xR, by repeat (first | exact Drawn0.refl _ | apply Drawn0.step)⟩
def files_part.l0 : Nat → ByteArray → Int → Int → Option (Bool)
 | 0, _, _, _ => none
 | k + 1, x0, x5, x6 => if x6 < x5 then (if 0 ≤ x6 then (if x6 < (x0.size : Int) then ((files_plain.f (bt x0 x6)).bind fun t104 => (if t104 = true then (files_part.l0 k x0 x5 (wrap64 (x6 + 1))) else (some false))) else (none)) else (none)) else (if x0.toList = ([] : List UInt8) then (some false) else (if x0.toList = ([46] : List UInt8) then (some false) else (some (x0.toList != ([46, 46] : List UInt8)))))
def files_part.f (k : Nat) (a0 : ByteArray) : Option (Bool) := files_part.l0 k a0 (a0.size : Int) 0
theorem files_part.mono_l : ∀ k, (∀ y0 y1 y2, LeO (files_part.l0 k y0 y1 y2) (files_part.l0 (k + 1) y0 y1 y2))
 | 0 => fun _ _ _ r h => by simp [files_part.l0] at h
 | k + 1 => by
  have ih0 := files_part.mono_l k
  ·
   intro y0 y1 y2
   unfold files_part.l0
   exact xM
theorem files_part.mono : ∀ a0 k, LeO (files_part.f k a0) (files_part.f (k + 1) a0) := by
 intro a0 k
 have ih0 := files_part.mono_l k
 unfold files_part.f
 exact xM
set_option maxHeartbeats 8000000 in
set_option maxRecDepth 100000 in
theorem files_part.calls (k : Nat) (a0 : ByteArray) (r : Bool) (w : World) (h : files_part.f k a0 = some r) :
  Calls Tryz.prog 117 #[.string a0] w fun e w' => e = .returned (.bool r) ∧ Drawn0 w w' := by
 have H : (files_part.l0 k a0 (a0.size : Int) 0) = some r := h
 clear h
 have H' := Aside0.mk H
 clear H
 go_enter Tryz.func117, Tryz.ntmps117
 go_wp2
 go_loopg [6] k (fun kq v6 w' => ∃ (x6_1 : Int), v6 = .int .i64 x6_1 ∧ Aside0 (files_part.l0 kq a0 (a0.size : Int) x6_1 = some r) ∧ Aside0 (kq ≤ k) ∧ Drawn0 w w')
 case atStart => exact ⟨(0), xR, H', ⟨Nat.le_refl _⟩, by repeat (first | exact Drawn0.refl _ | apply Drawn0.step)⟩
 case round =>
  clear H'
  try clear c1
  obtain ⟨x6_1, rfl, HA, HK1, ⟨m1, rfl⟩⟩ := hrel
  cases gk with
  | zero => exact absurd HA.out (by simp [files_part.l0])
  | succ k1 =>
   have H := HA.out
   clear HA
   simp only [files_part.l0] at H
   by_cases c2 : x6_1 < (a0.size : Int)
   ·
    rw [if_pos c2] at H
    have c2b0 := decide_eq_true c2
    clear c2
    replace H := xI H
    obtain ⟨c3, H⟩ := H
    have c3b0 := decide_eq_true c3
    clear c3
    replace H := xI H
    obtain ⟨c4, H⟩ := H
    have c4b0 := decide_eq_true c4
    clear c4
    replace H := xb H
    obtain ⟨t104, A6, H⟩ := H
    by_cases c7 : t104 = true
    ·
     subst c7
     rw [if_pos rfl] at H
     have H' := Aside0.mk H
     clear H
     have p5 : 0 ≤ (x6_1 : Int) := xD
     have q5 : x6_1 < (a0.size : Int) := xD
     have hx5 := bt_at a0 x6_1
     replace p5 := eq_true p5
     replace q5 := eq_true q5
     go_wp2_with (first | ((with_reducible refine gate_callee (f := 142) rfl ?_); refine goesL_ (some 12) rfl rfl Tryz.func142 (by kernel_rfl) rfl #[.int .u8 (bt a0 x6_1)] rfl xS ?_; (with_reducible refine (files_plain.calls (bt a0 x6_1) true _ A6.out).mono ?_); rintro e w' ⟨rfl, ⟨nd, rfl⟩⟩; refine ⟨_, rfl, ?_⟩))
     go_roundg k1
     case measure => have := HK1.out; omega
     case rel => exact ⟨(wrap64 (x6_1 + 1)), xR, H', ⟨by have := HK1.out; omega⟩, by repeat (first | exact Drawn0.refl _ | apply Drawn0.step)⟩
    replace c7 := Bool.eq_false_iff.mpr c7
    subst c7
    rw [if_neg (show ¬ (false = true) by decide)] at H
    obtain rfl := Option.some.inj H
    have p5 : 0 ≤ (x6_1 : Int) := xD
    have q5 : x6_1 < (a0.size : Int) := xD
    have hx5 := bt_at a0 x6_1
    replace p5 := eq_true p5
    replace q5 := eq_true q5
    go_wp2_with (first | ((with_reducible refine gate_callee (f := 142) rfl ?_); refine goesL_ (some 12) rfl rfl Tryz.func142 (by kernel_rfl) rfl #[.int .u8 (bt a0 x6_1)] rfl xS ?_; (with_reducible refine (files_plain.calls (bt a0 x6_1) false _ A6.out).mono ?_); rintro e w' ⟨rfl, ⟨nd, rfl⟩⟩; refine ⟨_, rfl, ?_⟩))
    go_ret
    exact ⟨xR, by repeat (first | exact Drawn0.refl _ | apply Drawn0.step)⟩
   rw [if_neg c2] at H
   have c2b0 := decide_eq_false c2
   clear c2
   by_cases c8 : a0.toList = ([] : List UInt8)
   ·
    rw [if_pos c8] at H
    have c8b0 := beq_iff_eq.mpr c8
    have c8b1 := bne_eq_false_iff_eq.mpr c8
    clear c8
    obtain rfl := Option.some.inj H
    go_wp2
    go_ret
    exact ⟨xR, by repeat (first | exact Drawn0.refl _ | apply Drawn0.step)⟩
   rw [if_neg c8] at H
   have c8b0 := beq_eq_false_iff_ne.mpr c8
   have c8b1 := bne_iff_ne.mpr c8
   by_cases c9 : a0.toList = ([46] : List UInt8)
   ·
    rw [if_pos c9] at H
    have c9b0 := beq_iff_eq.mpr c9
    have c9b1 := bne_eq_false_iff_eq.mpr c9
    clear c9
    obtain rfl := Option.some.inj H
    go_wp2
    go_ret
    exact ⟨xR, by repeat (first | exact Drawn0.refl _ | apply Drawn0.step)⟩
   rw [if_neg c9] at H
   have c9b0 := beq_eq_false_iff_ne.mpr c9
   have c9b1 := bne_iff_ne.mpr c9
   obtain rfl := Option.some.inj H
   go_wp2
   go_ret
   exact ⟨xR, by repeat (first | exact Drawn0.refl _ | apply Drawn0.step)⟩
end Go.Proofs.YtillhaipemengaaGreatDoor.R1
end

section
namespace Go.Proofs.YtillhaipemengaaGreatDoor.R1
open Go.RowKit Go.Proofs.YtillhaipemengaaGreatDoor Go.Proofs.YtillhaipemengaaGreatDoor.K0 Go.Proofs.YtillhaipemengaaGreatDoorW.PrintWords Go.Proofs.YtillhaipemengaaGreatDoorW.PrintLast Go.Proofs.YtillhaipemengaaGreatDoorW.PrintMore
attribute [local go_sem] max2_int min2_int max_two min_two max_three min_three max_four min_four
set_option linter.unusedVariables false
set_option linter.unusedSimpArgs false
end Go.Proofs.YtillhaipemengaaGreatDoor.R1
end
