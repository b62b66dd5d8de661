/- The texts RDx5 in one file, without what these claims do not use (put together by prune2.py). -/
import Derived.Test.YtkidfclnakbgiaaGreatDoorZT28
import Derived.Test.YtkidfclnakbgiaaGreatDoorZT29
import Derived.Test.YtkidfclnakbgiaaGreatDoorZT31
import Derived.Test.YtkidfclnakbgiaaGreatDoorZT32
section
namespace Go.Proofs.YtkidfclnakbgiaaGreatDoor.RD
open Go.RowKit Go.Proofs.YtkidfclnakbgiaaGreatDoor Go.Proofs.YtkidfclnakbgiaaGreatDoor.K0 Go.Proofs.YtkidfclnakbgiaaGreatDoorW.PrintWords Go.Proofs.YtkidfclnakbgiaaGreatDoorW.PrintLast Go.Proofs.YtkidfclnakbgiaaGreatDoorW.PrintMore
attribute [local go_sem] max2_int min2_int max_two min_two max_three min_three max_four min_four
set_option linter.unusedVariables false
set_option linter.unusedSimpArgs false
def armadaref05_Path.l0 : Nat → List ByteArray → Int → Option (Bool)
 | 0, _, _ => none
 | k + 1, x3, x4 => if x4 < (x3.length : Int) then (if 0 ≤ x4 then ((armadaref05_part.f k (rdOf ByteArray.empty x3 x4)).bind fun t128 => (if t128 = true then (armadaref05_Path.l0 k x3 (wrap64 (x4 + 1))) else (some false))) else (none)) else (some true)
def armadaref05_Path.f (k : Nat) (a0 : ByteArray) : Option (Bool) := if (a0.size : Int) > 60 then (some false) else ((armadaref05_Split.f k a0 47).bind fun t124 => (armadaref05_Path.l0 k t124 0))
theorem armadaref05_Path.mono_l : ∀ k, (∀ y0 y1, LeO (armadaref05_Path.l0 k y0 y1) (armadaref05_Path.l0 (k + 1) y0 y1))
 | 0 => fun _ _ r h => by simp [armadaref05_Path.l0] at h
 | k + 1 => by
  have ih0 := armadaref05_Path.mono_l k
  ·
   intro y0 y1
   unfold armadaref05_Path.l0
   repeat' first
   | (with_reducible exact ih0 _ _)
   | (with_reducible exact armadaref05_Split.mono _ _ _)
   | (with_reducible exact armadaref05_part.mono _ _)
   | (with_reducible exact LeO.refl _)
   | (with_reducible exact LeO.none _)
   | (with_reducible refine LeO.ite ?_ ?_)
   | (with_reducible refine LeO.bind ?_ (fun _ => ?_))
   | exact ih0 _ _
   | exact armadaref05_Split.mono _ _ _
   | exact armadaref05_part.mono _ _
   | exact LeO.none _
   | refine LeO.ite ?_ ?_
   | refine LeO.bind ?_ (fun _ => ?_)
theorem armadaref05_Path.mono : ∀ a0 k, LeO (armadaref05_Path.f k a0) (armadaref05_Path.f (k + 1) a0) := by
 intro a0 k
 have ih0 := armadaref05_Path.mono_l k
 unfold armadaref05_Path.f
 repeat' first
   | (with_reducible exact ih0 _ _)
   | (with_reducible exact armadaref05_Split.mono _ _ _)
   | (with_reducible exact armadaref05_part.mono _ _)
   | (with_reducible exact LeO.refl _)
   | (with_reducible exact LeO.none _)
   | (with_reducible refine LeO.ite ?_ ?_)
   | (with_reducible refine LeO.bind ?_ (fun _ => ?_))
   | exact ih0 _ _
   | exact armadaref05_Split.mono _ _ _
   | exact armadaref05_part.mono _ _
   | exact LeO.none _
   | refine LeO.ite ?_ ?_
   | refine LeO.bind ?_ (fun _ => ?_)
set_option maxHeartbeats 8000000 in
set_option maxRecDepth 100000 in
theorem armadaref05_Path.calls (k : Nat) (a0 : ByteArray) (r : Bool) (w : World) (h : armadaref05_Path.f k a0 = some r) :
  Calls Tryz.prog 112 #[.string a0] w fun e w' => e = .returned (.bool r) ∧ Below w.heap.size w w' := by
 have HB := Aside0.mk (Below.refl w.heap.size w)
 have H : (if (a0.size : Int) > 60 then (some false) else ((armadaref05_Split.f k a0 47).bind fun t124 => (armadaref05_Path.l0 k t124 0))) = some r := h
 clear h
 by_cases c2 : (a0.size : Int) > 60
 ·
  rw [if_pos c2] at H
  have c2b0 := decide_eq_true c2
  have c2b1 : decide (60 < a0.size) = true := decide_eq_true (by omega)
  clear c2
  obtain rfl := Option.some.inj H
  go_enter Tryz.func112, Tryz.ntmps112
  go_wp2
  go_ret
  exact ⟨by first | rfl | (simp [errW_none, errW_some] <;> rfl) | (simp [*, errW_none, errW_some] <;> rfl) | (simp [isEmpty_bne]; done), xB⟩
 rw [if_neg c2] at H
 have c2b0 := decide_eq_false c2
 have c2b1 : decide (60 < a0.size) = false := decide_eq_false (by omega)
 clear c2
 replace H := xb H
 obtain ⟨t124, A3, H⟩ := H
 have H' := Aside0.mk H
 clear H
 go_enter Tryz.func112, Tryz.ntmps112
 go_wp2_with (first | ((with_reducible refine gate_callee (f := 71) rfl ?_); refine goesL_ (some 9) rfl rfl Tryz.func71 (by kernel_rfl) rfl #[.string a0, .int .u8 47] rfl xS ?_; (with_reducible refine (armadaref05_Split.calls k a0 47 t124 _ A3.out).mono ?_); rintro e w4 ⟨v125, rfl, ho0, hb⟩; refine ⟨_, rfl, ?_⟩; have HO126 := Aside0.mk (Kd.R_lower ho0 (below_size xB)); replace HB := Aside0.mk (below_step xB hb); (try clear hb); (try clear hb2); (try clear hk); (try clear hi); (try clear ho0)))
 go_loopg [4] k (fun kq v4 w' => ∃ (x4_1 : Int), v4 = .int .i64 x4_1 ∧ Aside0 (armadaref05_Path.l0 kq t124 x4_1 = some r) ∧ Aside0 (kq ≤ k) ∧ Aside0 (Kd.R Kd.string 9 w' w.heap.size (fun _ => True) v125 t124) ∧ Aside0 (Below w.heap.size w w'))
 case atStart => exact ⟨(0), xR, H', ⟨Nat.le_refl _⟩, ⟨by (with_reducible repeat (first | apply Kd.R_alloc | apply Kd.R_drewN | apply Kd.R_drew)); exact HO126.out⟩, ⟨xB⟩⟩
 case round =>
  clear H'
  try clear c1
  try clear c2
  try clear c2b0
  try clear c2b1
  try clear p2
  obtain ⟨x4_1, rfl, HA, HK1, HO_3, HB⟩ := hrel
  cases gk with
  | zero => exact absurd HA.out (by simp [armadaref05_Path.l0])
  | succ k1 =>
   have H := HA.out
   clear HA
   simp only [armadaref05_Path.l0] at H
   by_cases c5 : x4_1 < (t124.length : Int)
   ·
    rw [if_pos c5] at H
    have c5b0 := decide_eq_true c5
    clear c5
    replace H := xI H
    obtain ⟨c6, H⟩ := H
    have c6b0 := decide_eq_true c6
    clear c6
    replace H := xb H
    obtain ⟨t128, A7, H⟩ := H
    by_cases c8 : t128 = true
    ·
     subst c8
     rw [if_pos rfl] at H
     have H' := Aside0.mk H
     clear H
     obtain ⟨Ao9, co9, eo9⟩ := Kd.R_slice HO_3.out
     subst eo9
     have p127 : 0 ≤ (x4_1 : Int) := xD
     have q127 : x4_1 < (t124.length : Int) := xD
     obtain ⟨ad127, e127, hx127_0⟩ := Kd.at_string (Kd.R_reads' HO_3.out).2.2 x4_1 p127 q127
     cases e127
     replace p127 := eq_true p127
     replace q127 := eq_true q127
     go_wp2_with (first | ((with_reducible refine gate_callee (f := 125) rfl ?_); refine goesL_ (some 20) rfl rfl Tryz.func125 (by kernel_rfl) rfl #[.string (rdOf ByteArray.empty t124 x4_1)] rfl xS ?_; (with_reducible refine (armadaref05_part.calls k1 (rdOf ByteArray.empty t124 x4_1) true _ A7.out).mono ?_); rintro e w' ⟨rfl, ⟨nd, rfl⟩⟩; refine ⟨_, rfl, ?_⟩))
     go_roundg k1
     case measure => have := HK1.out; omega
     case rel => exact ⟨(wrap64 (x4_1 + 1)), xR, H', ⟨by have := HK1.out; omega⟩, ⟨by (with_reducible repeat (first | apply Kd.R_alloc | apply Kd.R_drewN | apply Kd.R_drew)); exact HO_3.out⟩, ⟨xB⟩⟩
    replace c8 := Bool.eq_false_iff.mpr c8
    subst c8
    rw [if_neg (show ¬ (false = true) by decide)] at H
    obtain rfl := Option.some.inj H
    obtain ⟨Ao10, co10, eo10⟩ := Kd.R_slice HO_3.out
    subst eo10
    have p127 : 0 ≤ (x4_1 : Int) := xD
    have q127 : x4_1 < (t124.length : Int) := xD
    obtain ⟨ad127, e127, hx127_0⟩ := Kd.at_string (Kd.R_reads' HO_3.out).2.2 x4_1 p127 q127
    cases e127
    replace p127 := eq_true p127
    replace q127 := eq_true q127
    go_wp2_with (first | ((with_reducible refine gate_callee (f := 125) rfl ?_); refine goesL_ (some 20) rfl rfl Tryz.func125 (by kernel_rfl) rfl #[.string (rdOf ByteArray.empty t124 x4_1)] rfl xS ?_; (with_reducible refine (armadaref05_part.calls k1 (rdOf ByteArray.empty t124 x4_1) false _ A7.out).mono ?_); rintro e w' ⟨rfl, ⟨nd, rfl⟩⟩; refine ⟨_, rfl, ?_⟩))
    go_ret
    exact ⟨by first | rfl | (simp [errW_none, errW_some] <;> rfl) | (simp [*, errW_none, errW_some] <;> rfl) | (simp [isEmpty_bne]; done), xB⟩
   rw [if_neg c5] at H
   have c5b0 := decide_eq_false c5
   clear c5
   obtain rfl := Option.some.inj H
   obtain ⟨Ao11, co11, eo11⟩ := Kd.R_slice HO_3.out
   subst eo11
   go_wp2
   go_ret
   exact ⟨by first | rfl | (simp [errW_none, errW_some] <;> rfl) | (simp [*, errW_none, errW_some] <;> rfl) | (simp [isEmpty_bne]; done), xB⟩
def armadaref08_Check.l0 : Nat → List ByteArray → Int → Option (Bool)
 | 0, _, _ => none
 | k + 1, x3, x4 => if x4 < (x3.length : Int) then (if 0 ≤ x4 then ((armadaref08_tells.f k (rdOf ByteArray.empty x3 x4)).bind fun t134 => (if t134 = true then (if x4 < (wrap64 ((x3.length : Int) - 1)) then (some false) else (if x4 = 0 then (some false) else ((armadaref08_number.f k (rdOf ByteArray.empty x3 x4)).bind fun t136 => (if t136 = 0 then (some false) else (armadaref08_Check.l0 k x3 (wrap64 (x4 + 1))))))) else (armadaref08_Check.l0 k x3 (wrap64 (x4 + 1))))) else (none)) else (some true)
def armadaref08_Check.f (k : Nat) (a0 : ByteArray) : Option (Bool) := (armadaref05_Path.f k a0).bind fun t129 => (if t129 = true then ((armadaref05_Split.f k a0 47).bind fun t130 => (armadaref08_Check.l0 k t130 0)) else (some false))
theorem armadaref08_Check.mono_l : ∀ k, (∀ y0 y1, LeO (armadaref08_Check.l0 k y0 y1) (armadaref08_Check.l0 (k + 1) y0 y1))
 | 0 => fun _ _ r h => by simp [armadaref08_Check.l0] at h
 | k + 1 => by
  have ih0 := armadaref08_Check.mono_l k
  ·
   intro y0 y1
   unfold armadaref08_Check.l0
   repeat' first
   | (with_reducible exact ih0 _ _)
   | (with_reducible exact armadaref05_Path.mono _ _)
   | (with_reducible exact armadaref05_Split.mono _ _ _)
   | (with_reducible exact armadaref08_number.mono _ _)
   | (with_reducible exact armadaref08_tells.mono _ _)
   | (with_reducible exact LeO.refl _)
   | (with_reducible exact LeO.none _)
   | (with_reducible refine LeO.ite ?_ ?_)
   | (with_reducible refine LeO.bind ?_ (fun _ => ?_))
   | exact ih0 _ _
   | exact armadaref05_Path.mono _ _
   | exact armadaref05_Split.mono _ _ _
   | exact armadaref08_number.mono _ _
   | exact armadaref08_tells.mono _ _
   | exact LeO.none _
   | refine LeO.ite ?_ ?_
   | refine LeO.bind ?_ (fun _ => ?_)
theorem armadaref08_Check.mono : ∀ a0 k, LeO (armadaref08_Check.f k a0) (armadaref08_Check.f (k + 1) a0) := by
 intro a0 k
 have ih0 := armadaref08_Check.mono_l k
 unfold armadaref08_Check.f
 repeat' first
   | (with_reducible exact ih0 _ _)
   | (with_reducible exact armadaref05_Path.mono _ _)
   | (with_reducible exact armadaref05_Split.mono _ _ _)
   | (with_reducible exact armadaref08_number.mono _ _)
   | (with_reducible exact armadaref08_tells.mono _ _)
   | (with_reducible exact LeO.refl _)
   | (with_reducible exact LeO.none _)
   | (with_reducible refine LeO.ite ?_ ?_)
   | (with_reducible refine LeO.bind ?_ (fun _ => ?_))
   | exact ih0 _ _
   | exact armadaref05_Path.mono _ _
   | exact armadaref05_Split.mono _ _ _
   | exact armadaref08_number.mono _ _
   | exact armadaref08_tells.mono _ _
   | exact LeO.none _
   | refine LeO.ite ?_ ?_
   | refine LeO.bind ?_ (fun _ => ?_)
set_option maxHeartbeats 8000000 in
set_option maxRecDepth 100000 in
theorem armadaref08_Check.calls (k : Nat) (a0 : ByteArray) (r : Bool) (w : World) (h : armadaref08_Check.f k a0 = some r) :
  Calls Tryz.prog 94 #[.string a0] w fun e w' => e = .returned (.bool r) ∧ Below w.heap.size w w' := by
 have HB := Aside0.mk (Below.refl w.heap.size w)
 have H : ((armadaref05_Path.f k a0).bind fun t129 => (if t129 = true then ((armadaref05_Split.f k a0 47).bind fun t130 => (armadaref08_Check.l0 k t130 0)) else (some false))) = some r := h
 clear h
 replace H := xb H
 obtain ⟨t129, A2, H⟩ := H
 by_cases c3 : t129 = true
 ·
  subst c3
  rw [if_pos rfl] at H
  replace H := xb H
  obtain ⟨t130, A4, H⟩ := H
  have H' := Aside0.mk H
  clear H
  go_enter Tryz.func94, Tryz.ntmps94
  go_wp2_with (first | ((with_reducible refine gate_callee (f := 112) rfl ?_); refine goesL_ (some 6) rfl rfl Tryz.func112 (by kernel_rfl) rfl #[.string a0] rfl xS ?_; (with_reducible refine (armadaref05_Path.calls k a0 true _ A2.out).mono ?_); rintro e w5 ⟨rfl, hb⟩; refine ⟨_, rfl, ?_⟩; replace HB := Aside0.mk (below_step xB hb); (try clear hb); (try clear hb2); (try clear hk); (try clear hi)) | ((with_reducible refine gate_callee (f := 71) rfl ?_); refine goesL_ (some 9) rfl rfl Tryz.func71 (by kernel_rfl) rfl #[.string a0, .int .u8 47] rfl xS ?_; (with_reducible refine (armadaref05_Split.calls k a0 47 t130 _ A4.out).mono ?_); rintro e w6 ⟨v131, rfl, ho0, hb⟩; refine ⟨_, rfl, ?_⟩; have HO132 := Aside0.mk (Kd.R_lower ho0 (below_size xB)); replace HB := Aside0.mk (below_step xB hb); (try clear hb); (try clear hb2); (try clear hk); (try clear hi); (try clear ho0)))
  go_loopg [4] k (fun kq v4 w' => ∃ (x4_1 : Int), v4 = .int .i64 x4_1 ∧ Aside0 (armadaref08_Check.l0 kq t130 x4_1 = some r) ∧ Aside0 (kq ≤ k) ∧ Aside0 (Kd.R Kd.string 9 w' w.heap.size (fun _ => True) v131 t130) ∧ Aside0 (Below w.heap.size w w'))
  case atStart => exact ⟨(0), xR, H', ⟨Nat.le_refl _⟩, ⟨by (with_reducible repeat (first | apply Kd.R_alloc | apply Kd.R_drewN | apply Kd.R_drew)); exact HO132.out⟩, ⟨xB⟩⟩
  case round =>
   clear H'
   try clear c1
   try clear p2
   try clear c3
   obtain ⟨x4_1, rfl, HA, HK1, HO_3, HB⟩ := hrel
   cases gk with
   | zero => exact absurd HA.out (by simp [armadaref08_Check.l0])
   | succ k1 =>
    have H := HA.out
    clear HA
    simp only [armadaref08_Check.l0] at H
    by_cases c7 : x4_1 < (t130.length : Int)
    ·
     rw [if_pos c7] at H
     have c7b0 := decide_eq_true c7
     clear c7
     replace H := xI H
     obtain ⟨c8, H⟩ := H
     have c8b0 := decide_eq_true c8
     clear c8
     replace H := xb H
     obtain ⟨t134, A9, H⟩ := H
     by_cases c10 : t134 = true
     ·
      subst c10
      rw [if_pos rfl] at H
      by_cases c11 : x4_1 < (wrap64 ((t130.length : Int) - 1))
      ·
       rw [if_pos c11] at H
       have c11b0 := decide_eq_true c11
       clear c11
       obtain rfl := Option.some.inj H
       obtain ⟨Ao12, co12, eo12⟩ := Kd.R_slice HO_3.out
       subst eo12
       have p133 : 0 ≤ (x4_1 : Int) := xD
       have q133 : x4_1 < (t130.length : Int) := xD
       obtain ⟨ad133, e133, hx133_0⟩ := Kd.at_string (Kd.R_reads' HO_3.out).2.2 x4_1 p133 q133
       cases e133
       replace p133 := eq_true p133
       replace q133 := eq_true q133
       go_wp2_with (first | ((with_reducible refine gate_callee (f := 95) rfl ?_); refine goesL_ (some 20) rfl rfl Tryz.func95 (by kernel_rfl) rfl #[.string (rdOf ByteArray.empty t130 x4_1)] rfl xS ?_; (with_reducible refine (armadaref08_tells.calls k1 (rdOf ByteArray.empty t130 x4_1) true _ A9.out).mono ?_); rintro e w' ⟨rfl, ⟨nd, rfl⟩⟩; refine ⟨_, rfl, ?_⟩))
       go_ret
       exact ⟨by first | rfl | (simp [errW_none, errW_some] <;> rfl) | (simp [*, errW_none, errW_some] <;> rfl) | (simp [isEmpty_bne]; done), xB⟩
      rw [if_neg c11] at H
      have c11b0 := decide_eq_false c11
      clear c11
      by_cases c13 : x4_1 = 0
      ·
       rw [if_pos c13] at H
       have c13b0 := beq_iff_eq.mpr c13
       have c13b1 := bne_eq_false_iff_eq.mpr c13
       clear c13
       obtain rfl := Option.some.inj H
       obtain ⟨Ao14, co14, eo14⟩ := Kd.R_slice HO_3.out
       subst eo14
       have p133 : 0 ≤ (x4_1 : Int) := xD
       have q133 : x4_1 < (t130.length : Int) := xD
       obtain ⟨ad133, e133, hx133_0⟩ := Kd.at_string (Kd.R_reads' HO_3.out).2.2 x4_1 p133 q133
       cases e133
       replace p133 := eq_true p133
       replace q133 := eq_true q133
       go_wp2_with (first | ((with_reducible refine gate_callee (f := 95) rfl ?_); refine goesL_ (some 20) rfl rfl Tryz.func95 (by kernel_rfl) rfl #[.string (rdOf ByteArray.empty t130 x4_1)] rfl xS ?_; (with_reducible refine (armadaref08_tells.calls k1 (rdOf ByteArray.empty t130 x4_1) true _ A9.out).mono ?_); rintro e w' ⟨rfl, ⟨nd, rfl⟩⟩; refine ⟨_, rfl, ?_⟩))
       go_ret
       exact ⟨by first | rfl | (simp [errW_none, errW_some] <;> rfl) | (simp [*, errW_none, errW_some] <;> rfl) | (simp [isEmpty_bne]; done), xB⟩
      rw [if_neg c13] at H
      have c13b0 := beq_eq_false_iff_ne.mpr c13
      have c13b1 := bne_iff_ne.mpr c13
      replace H := xb H
      obtain ⟨t136, A15, H⟩ := H
      by_cases c16 : t136 = 0
      ·
       rw [if_pos c16] at H
       have c16b0 := beq_iff_eq.mpr c16
       have c16b1 := bne_eq_false_iff_eq.mpr c16
       clear c16
       obtain rfl := Option.some.inj H
       obtain ⟨Ao17, co17, eo17⟩ := Kd.R_slice HO_3.out
       subst eo17
       have p133 : 0 ≤ (x4_1 : Int) := xD
       have q133 : x4_1 < (t130.length : Int) := xD
       obtain ⟨ad133, e133, hx133_0⟩ := Kd.at_string (Kd.R_reads' HO_3.out).2.2 x4_1 p133 q133
       cases e133
       replace p133 := eq_true p133
       replace q133 := eq_true q133
       go_wp2_with (first | ((with_reducible refine gate_callee (f := 95) rfl ?_); refine goesL_ (some 20) rfl rfl Tryz.func95 (by kernel_rfl) rfl #[.string (rdOf ByteArray.empty t130 x4_1)] rfl xS ?_; (with_reducible refine (armadaref08_tells.calls k1 (rdOf ByteArray.empty t130 x4_1) true _ A9.out).mono ?_); rintro e w' ⟨rfl, ⟨nd, rfl⟩⟩; refine ⟨_, rfl, ?_⟩; have p135 : 0 ≤ (x4_1 : Int) := xD; have q135 : x4_1 < (t130.length : Int) := xD; obtain ⟨ad135, e135, hx135_0⟩ := Kd.at_string (Kd.R_reads' HO_3.out).2.2 x4_1 p135 q135; obtain rfl : ad133 = ad135 := (by injection e135); replace p135 := eq_true p135; replace q135 := eq_true q135) | (go_at_call 97; (with_reducible refine (armadaref08_number.calls k1 (rdOf ByteArray.empty t130 x4_1) t136 _ A15.out).mono ?_); rintro e w' ⟨rfl, ⟨nd, rfl⟩⟩))
       go_ret
       exact ⟨by first | rfl | (simp [errW_none, errW_some] <;> rfl) | (simp [*, errW_none, errW_some] <;> rfl) | (simp [isEmpty_bne]; done), xB⟩
      rw [if_neg c16] at H
      have c16b0 := beq_eq_false_iff_ne.mpr c16
      have c16b1 := bne_iff_ne.mpr c16
      have H' := Aside0.mk H
      clear H
      obtain ⟨Ao18, co18, eo18⟩ := Kd.R_slice HO_3.out
      subst eo18
      have p133 : 0 ≤ (x4_1 : Int) := xD
      have q133 : x4_1 < (t130.length : Int) := xD
      obtain ⟨ad133, e133, hx133_0⟩ := Kd.at_string (Kd.R_reads' HO_3.out).2.2 x4_1 p133 q133
      cases e133
      replace p133 := eq_true p133
      replace q133 := eq_true q133
      go_wp2_with (first | ((with_reducible refine gate_callee (f := 95) rfl ?_); refine goesL_ (some 20) rfl rfl Tryz.func95 (by kernel_rfl) rfl #[.string (rdOf ByteArray.empty t130 x4_1)] rfl xS ?_; (with_reducible refine (armadaref08_tells.calls k1 (rdOf ByteArray.empty t130 x4_1) true _ A9.out).mono ?_); rintro e w' ⟨rfl, ⟨nd, rfl⟩⟩; refine ⟨_, rfl, ?_⟩; have p135 : 0 ≤ (x4_1 : Int) := xD; have q135 : x4_1 < (t130.length : Int) := xD; obtain ⟨ad135, e135, hx135_0⟩ := Kd.at_string (Kd.R_reads' HO_3.out).2.2 x4_1 p135 q135; obtain rfl : ad133 = ad135 := (by injection e135); replace p135 := eq_true p135; replace q135 := eq_true q135) | (go_at_call 97; (with_reducible refine (armadaref08_number.calls k1 (rdOf ByteArray.empty t130 x4_1) t136 _ A15.out).mono ?_); rintro e w' ⟨rfl, ⟨nd, rfl⟩⟩))
      go_roundg k1
      case measure => have := HK1.out; omega
      case rel => exact ⟨(wrap64 (x4_1 + 1)), xR, H', ⟨by have := HK1.out; omega⟩, ⟨by (with_reducible repeat (first | apply Kd.R_alloc | apply Kd.R_drewN | apply Kd.R_drew)); exact HO_3.out⟩, ⟨xB⟩⟩
     replace c10 := Bool.eq_false_iff.mpr c10
     subst c10
     rw [if_neg (show ¬ (false = true) by decide)] at H
     have H' := Aside0.mk H
     clear H
     obtain ⟨Ao19, co19, eo19⟩ := Kd.R_slice HO_3.out
     subst eo19
     have p133 : 0 ≤ (x4_1 : Int) := xD
     have q133 : x4_1 < (t130.length : Int) := xD
     obtain ⟨ad133, e133, hx133_0⟩ := Kd.at_string (Kd.R_reads' HO_3.out).2.2 x4_1 p133 q133
     cases e133
     replace p133 := eq_true p133
     replace q133 := eq_true q133
     go_wp2_with (first | ((with_reducible refine gate_callee (f := 95) rfl ?_); refine goesL_ (some 20) rfl rfl Tryz.func95 (by kernel_rfl) rfl #[.string (rdOf ByteArray.empty t130 x4_1)] rfl xS ?_; (with_reducible refine (armadaref08_tells.calls k1 (rdOf ByteArray.empty t130 x4_1) false _ A9.out).mono ?_); rintro e w' ⟨rfl, ⟨nd, rfl⟩⟩; refine ⟨_, rfl, ?_⟩))
     go_roundg k1
     case measure => have := HK1.out; omega
     case rel => exact ⟨(wrap64 (x4_1 + 1)), xR, H', ⟨by have := HK1.out; omega⟩, ⟨by (with_reducible repeat (first | apply Kd.R_alloc | apply Kd.R_drewN | apply Kd.R_drew)); exact HO_3.out⟩, ⟨xB⟩⟩
    rw [if_neg c7] at H
    have c7b0 := decide_eq_false c7
    clear c7
    obtain rfl := Option.some.inj H
    obtain ⟨Ao20, co20, eo20⟩ := Kd.R_slice HO_3.out
    subst eo20
    go_wp2
    go_ret
    exact ⟨by first | rfl | (simp [errW_none, errW_some] <;> rfl) | (simp [*, errW_none, errW_some] <;> rfl) | (simp [isEmpty_bne]; done), xB⟩
 replace c3 := Bool.eq_false_iff.mpr c3
 subst c3
 rw [if_neg (show ¬ (false = true) by decide)] at H
 obtain rfl := Option.some.inj H
 go_enter Tryz.func94, Tryz.ntmps94
 go_wp2_with (first | ((with_reducible refine gate_callee (f := 112) rfl ?_); refine goesL_ (some 6) rfl rfl Tryz.func112 (by kernel_rfl) rfl #[.string a0] rfl xS ?_; (with_reducible refine (armadaref05_Path.calls k a0 false _ A2.out).mono ?_); rintro e w21 ⟨rfl, hb⟩; refine ⟨_, rfl, ?_⟩; replace HB := Aside0.mk (below_step xB hb); (try clear hb); (try clear hb2); (try clear hk); (try clear hi)))
 go_ret
 exact ⟨by first | rfl | (simp [errW_none, errW_some] <;> rfl) | (simp [*, errW_none, errW_some] <;> rfl) | (simp [isEmpty_bne]; done), xB⟩
def armadaref08_Base.l0 : Nat → ByteArray → Int → Option (ByteArray)
 | 0, _, _ => none
 | k + 1, x0, x3 => if x3 ≥ 0 then (if 0 ≤ x3 then (if x3 < (x0.size : Int) then (if (bt x0 x3) = 47 then (if x3 ≤ (x0.size : Int) then (some (x0.extract 0 (x3 : Int).toNat)) else (none)) else (armadaref08_Base.l0 k x0 (wrap64 (x3 - 1)))) else (none)) else (none)) else (some (⟨#[]⟩ : ByteArray))
def armadaref08_Base.f (k : Nat) (a0 : ByteArray) : Option (ByteArray) := armadaref08_Base.l0 k a0 (wrap64 ((a0.size : Int) - 1))
theorem armadaref08_Base.mono_l : ∀ k, (∀ y0 y1, LeO (armadaref08_Base.l0 k y0 y1) (armadaref08_Base.l0 (k + 1) y0 y1))
 | 0 => fun _ _ r h => by simp [armadaref08_Base.l0] at h
 | k + 1 => by
  have ih0 := armadaref08_Base.mono_l k
  ·
   intro y0 y1
   unfold armadaref08_Base.l0
   exact xM
theorem armadaref08_Base.mono : ∀ a0 k, LeO (armadaref08_Base.f k a0) (armadaref08_Base.f (k + 1) a0) := by
 intro a0 k
 have ih0 := armadaref08_Base.mono_l k
 unfold armadaref08_Base.f
 exact xM
set_option maxHeartbeats 8000000 in
set_option maxRecDepth 100000 in
theorem armadaref08_Base.calls (k : Nat) (a0 : ByteArray) (r : ByteArray) (w : World) (h : armadaref08_Base.f k a0 = some r) :
  Calls Tryz.prog 96 #[.string a0] w fun e w' => e = .returned (.string r) ∧ Drawn0 w w' := by
 have H : (armadaref08_Base.l0 k a0 (wrap64 ((a0.size : Int) - 1))) = some r := h
 clear h
 have H' := Aside0.mk H
 clear H
 go_enter Tryz.func96, Tryz.ntmps96
 go_wp2
 go_loopg [3] k (fun kq v3 w' => ∃ (x3_1 : Int), v3 = .int .i64 x3_1 ∧ Aside0 (armadaref08_Base.l0 kq a0 x3_1 = some r) ∧ Aside0 (kq ≤ k) ∧ Drawn0 w w')
 case atStart => exact ⟨(wrap64 ((a0.size : Int) - 1)), xR, H', ⟨Nat.le_refl _⟩, by repeat (first | exact Drawn0.refl _ | apply Drawn0.step)⟩
 case round =>
  clear H'
  obtain ⟨x3_1, rfl, HA, HK1, ⟨m1, rfl⟩⟩ := hrel
  cases gk with
  | zero => exact absurd HA.out (by simp [armadaref08_Base.l0])
  | succ k1 =>
   have H := HA.out
   clear HA
   simp only [armadaref08_Base.l0] at H
   by_cases c2 : x3_1 ≥ 0
   ·
    rw [if_pos c2] at H
    have c2b0 := decide_eq_true c2
    clear c2
    replace H := xI H
    obtain ⟨c3, H⟩ := H
    have c3b0 := decide_eq_true c3
    clear c3
    replace H := xI H
    obtain ⟨c4, H⟩ := H
    have c4b0 := decide_eq_true c4
    clear c4
    by_cases c6 : (bt a0 x3_1) = 47
    ·
     rw [if_pos c6] at H
     have c6b0 := beq_iff_eq.mpr c6
     have c6b1 := bne_eq_false_iff_eq.mpr c6
     clear c6
     have c7b0 := eq_true (xD : 0 ≤ x3_1)
     replace H := xI H
     obtain ⟨c8, H⟩ := H
     have c8b0 := eq_true c8
     have c8b1 := decide_eq_true c8
     clear c8
     obtain rfl := Option.some.inj H
     have p5 : 0 ≤ (x3_1 : Int) := xD
     have q5 : x3_1 < (a0.size : Int) := xD
     have hx5 := bt_at a0 x3_1
     replace p5 := eq_true p5
     replace q5 := eq_true q5
     go_wp2
     go_ret
     exact ⟨xR, by repeat (first | exact Drawn0.refl _ | apply Drawn0.step)⟩
    rw [if_neg c6] at H
    have c6b0 := beq_eq_false_iff_ne.mpr c6
    have c6b1 := bne_iff_ne.mpr c6
    have H' := Aside0.mk H
    clear H
    have p5 : 0 ≤ (x3_1 : Int) := xD
    have q5 : x3_1 < (a0.size : Int) := xD
    have hx5 := bt_at a0 x3_1
    replace p5 := eq_true p5
    replace q5 := eq_true q5
    go_wp2
    go_roundg k1
    case measure => have := HK1.out; omega
    case rel => exact ⟨(wrap64 (x3_1 - 1)), xR, H', ⟨by have := HK1.out; omega⟩, by repeat (first | exact Drawn0.refl _ | apply Drawn0.step)⟩
   rw [if_neg c2] at H
   have c2b0 := decide_eq_false c2
   clear c2
   obtain rfl := Option.some.inj H
   go_wp2
   go_ret
   exact ⟨xR, by repeat (first | exact Drawn0.refl _ | apply Drawn0.step)⟩
def armadaref08_Major.f (k : Nat) (a0 : ByteArray) : Option (ByteArray × Int × Bool) := (armadaref08_Check.f k a0).bind fun t137 => (if t137 = true then ((armadaref05_Split.f k a0 47).bind fun t138 => (if 0 ≤ (wrap64 ((t138.length : Int) - 1)) then (if (wrap64 ((t138.length : Int) - 1)) < (t138.length : Int) then ((armadaref08_tells.f k (rdOf ByteArray.empty t138 (wrap64 ((t138.length : Int) - 1)))).bind fun t142 => (if t142 = true then ((armadaref08_Base.f k a0).bind fun t143 => ((armadaref08_number.f k (rdOf ByteArray.empty t138 (wrap64 ((t138.length : Int) - 1)))).bind fun t144 => (some (t143, t144, true)))) else (some (a0, 0, true)))) else (none)) else (none))) else (some ((⟨#[]⟩ : ByteArray), 0, false)))
theorem armadaref08_Major.mono : ∀ a0 k, LeO (armadaref08_Major.f k a0) (armadaref08_Major.f (k + 1) a0) := by
 intro a0 k
 unfold armadaref08_Major.f
 repeat' first
   | (with_reducible exact armadaref05_Split.mono _ _ _)
   | (with_reducible exact armadaref08_Base.mono _ _)
   | (with_reducible exact armadaref08_Check.mono _ _)
   | (with_reducible exact armadaref08_number.mono _ _)
   | (with_reducible exact armadaref08_tells.mono _ _)
   | (with_reducible exact LeO.refl _)
   | (with_reducible exact LeO.none _)
   | (with_reducible refine LeO.ite ?_ ?_)
   | (with_reducible refine LeO.bind ?_ (fun _ => ?_))
   | exact armadaref05_Split.mono _ _ _
   | exact armadaref08_Base.mono _ _
   | exact armadaref08_Check.mono _ _
   | exact armadaref08_number.mono _ _
   | exact armadaref08_tells.mono _ _
   | exact LeO.none _
   | refine LeO.ite ?_ ?_
   | refine LeO.bind ?_ (fun _ => ?_)
set_option maxHeartbeats 8000000 in
set_option maxRecDepth 100000 in
theorem armadaref08_Major.calls (k : Nat) (a0 : ByteArray) (r1 : ByteArray) (r2 : Int) (r3 : Bool) (w : World) (h : armadaref08_Major.f k a0 = some (r1, r2, r3)) :
  Calls Tryz.prog 67 #[.string a0] w fun e w' => e = .returned (.tuple #[.string r1, .int .i64 r2, .bool r3]) ∧ Below w.heap.size w w' := by
 have HB := Aside0.mk (Below.refl w.heap.size w)
 have H : ((armadaref08_Check.f k a0).bind fun t137 => (if t137 = true then ((armadaref05_Split.f k a0 47).bind fun t138 => (if 0 ≤ (wrap64 ((t138.length : Int) - 1)) then (if (wrap64 ((t138.length : Int) - 1)) < (t138.length : Int) then ((armadaref08_tells.f k (rdOf ByteArray.empty t138 (wrap64 ((t138.length : Int) - 1)))).bind fun t142 => (if t142 = true then ((armadaref08_Base.f k a0).bind fun t143 => ((armadaref08_number.f k (rdOf ByteArray.empty t138 (wrap64 ((t138.length : Int) - 1)))).bind fun t144 => (some (t143, t144, true)))) else (some (a0, 0, true)))) else (none)) else (none))) else (some ((⟨#[]⟩ : ByteArray), 0, false)))) = some (r1, r2, r3) := h
 clear h
 replace H := xb H
 obtain ⟨t137, A2, H⟩ := H
 by_cases c3 : t137 = true
 ·
  subst c3
  rw [if_pos rfl] at H
  replace H := xb H
  obtain ⟨t138, A4, H⟩ := H
  obtain ⟨ji5, hji5⟩ : ∃ j_ : Int, (wrap64 ((t138.length : Int) - 1)) = j_ := ⟨_, rfl⟩
  replace H : (if 0 ≤ (ji5) then (if (ji5) < (t138.length : Int) then ((armadaref08_tells.f k (rdOf ByteArray.empty t138 (ji5))).bind fun t142 => (if t142 = true then ((armadaref08_Base.f k a0).bind fun t143 => ((armadaref08_number.f k (rdOf ByteArray.empty t138 (ji5))).bind fun t144 => (some (t143, t144, true)))) else (some (a0, 0, true)))) else (none)) else (none)) = some (r1, r2, r3) := by first | (rw [hji5] at H; exact H) | (simp only [hji5] at H ⊢; exact H)
  (try rw [hji5] at A2)
  (try rw [hji5] at A4)
  have hji5w : (IntKind.i64.wrap ((t138.length : Int) - 1)) = ji5 := (i64_w _).trans hji5
  replace H := xI H
  obtain ⟨c6, H⟩ := H
  have c6b0 := decide_eq_true c6
  clear c6
  replace H := xI H
  obtain ⟨c7, H⟩ := H
  have c7b0 := decide_eq_true c7
  clear c7
  replace H := xb H
  obtain ⟨t142, A8, H⟩ := H
  by_cases c9 : t142 = true
  ·
   subst c9
   rw [if_pos rfl] at H
   replace H := xb H
   obtain ⟨t143, A10, H⟩ := H
   replace H := xb H
   obtain ⟨t144, A11, H⟩ := H
   simp only [Option.some.injEq, Prod.mk.injEq] at H
   obtain ⟨rfl, rfl, rfl⟩ := H
   go_enter Tryz.func67, Tryz.ntmps67
   go_wp2_with (first | ((with_reducible refine gate_callee (f := 94) rfl ?_); refine goesL_ (some 8) rfl rfl Tryz.func94 (by kernel_rfl) rfl #[.string a0] rfl xS ?_; (with_reducible refine (armadaref08_Check.calls k a0 true _ A2.out).mono ?_); rintro e w12 ⟨rfl, hb⟩; refine ⟨_, rfl, ?_⟩; replace HB := Aside0.mk (below_step xB hb); (try clear hb); (try clear hb2); (try clear hk); (try clear hi)) | ((with_reducible refine gate_callee (f := 71) rfl ?_); refine goesL_ (some 11) rfl rfl Tryz.func71 (by kernel_rfl) rfl #[.string a0, .int .u8 47] rfl xS ?_; (with_reducible refine (armadaref05_Split.calls k a0 47 t138 _ A4.out).mono ?_); rintro e w13 ⟨v139, rfl, ho0, hb⟩; refine ⟨_, rfl, ?_⟩; have HO140 := Aside0.mk (Kd.R_lower ho0 (below_size xB)); replace HB := Aside0.mk (below_step xB hb); (try clear hb); (try clear hb2); (try clear hk); (try clear hi); (try clear ho0); obtain ⟨Ao14, co14, eo14⟩ := Kd.R_slice HO140.out; subst eo14; have p141 : 0 ≤ ((ji5) : Int) := xD; have q141 : (ji5) < (t138.length : Int) := xD; obtain ⟨ad141, e141, hx141_0⟩ := Kd.at_string (Kd.R_reads' HO140.out).2.2 (ji5) p141 q141; cases e141; replace p141 := eq_true p141; replace q141 := eq_true q141) | ((with_reducible refine gate_callee (f := 95) rfl ?_); refine goesL_ (some 19) rfl rfl Tryz.func95 (by kernel_rfl) rfl #[.string (rdOf ByteArray.empty t138 (ji5))] rfl (by (try simp only [List.map_toArray, List.map_cons, List.map_nil]); first | done | (simp only [hji5]; rfl) | rfl | (simp only [List.length_drop, List.length_take]; rfl)) ?_; (with_reducible refine (armadaref08_tells.calls k (rdOf ByteArray.empty t138 (ji5)) true _ A8.out).mono ?_); rintro e w' ⟨rfl, ⟨nd, rfl⟩⟩; refine ⟨_, rfl, ?_⟩) | ((with_reducible refine gate_callee (f := 96) rfl ?_); refine goesL_ (some 23) rfl rfl Tryz.func96 (by kernel_rfl) rfl #[.string a0] rfl xS ?_; (with_reducible refine (armadaref08_Base.calls k a0 t143 _ A10.out).mono ?_); rintro e w' ⟨rfl, ⟨nd, rfl⟩⟩; refine ⟨_, rfl, ?_⟩) | ((with_reducible refine gate_callee (f := 97) rfl ?_); refine goesL_ (some 25) rfl rfl Tryz.func97 (by kernel_rfl) rfl #[.string (rdOf ByteArray.empty t138 (ji5))] rfl (by (try simp only [List.map_toArray, List.map_cons, List.map_nil]); first | done | (simp only [hji5]; rfl) | rfl | (simp only [List.length_drop, List.length_take]; rfl)) ?_; (with_reducible refine (armadaref08_number.calls k (rdOf ByteArray.empty t138 (ji5)) t144 _ A11.out).mono ?_); rintro e w' ⟨rfl, ⟨nd, rfl⟩⟩; refine ⟨_, rfl, ?_⟩))
   go_ret3
   exact ⟨by first | rfl | (simp [errW_none, errW_some] <;> rfl) | (simp only [← hji5]; first | rfl | (simp [errW_none, errW_some] <;> rfl)) | (simp [*, errW_none, errW_some] <;> rfl), xB⟩
  replace c9 := Bool.eq_false_iff.mpr c9
  subst c9
  rw [if_neg (show ¬ (false = true) by decide)] at H
  simp only [Option.some.injEq, Prod.mk.injEq] at H
  obtain ⟨rfl, rfl, rfl⟩ := H
  go_enter Tryz.func67, Tryz.ntmps67
  go_wp2_with (first | ((with_reducible refine gate_callee (f := 94) rfl ?_); refine goesL_ (some 8) rfl rfl Tryz.func94 (by kernel_rfl) rfl #[.string a0] rfl xS ?_; (with_reducible refine (armadaref08_Check.calls k a0 true _ A2.out).mono ?_); rintro e w15 ⟨rfl, hb⟩; refine ⟨_, rfl, ?_⟩; replace HB := Aside0.mk (below_step xB hb); (try clear hb); (try clear hb2); (try clear hk); (try clear hi)) | ((with_reducible refine gate_callee (f := 71) rfl ?_); refine goesL_ (some 11) rfl rfl Tryz.func71 (by kernel_rfl) rfl #[.string a0, .int .u8 47] rfl xS ?_; (with_reducible refine (armadaref05_Split.calls k a0 47 t138 _ A4.out).mono ?_); rintro e w16 ⟨v139, rfl, ho0, hb⟩; refine ⟨_, rfl, ?_⟩; have HO140 := Aside0.mk (Kd.R_lower ho0 (below_size xB)); replace HB := Aside0.mk (below_step xB hb); (try clear hb); (try clear hb2); (try clear hk); (try clear hi); (try clear ho0); obtain ⟨Ao17, co17, eo17⟩ := Kd.R_slice HO140.out; subst eo17; have p141 : 0 ≤ ((ji5) : Int) := xD; have q141 : (ji5) < (t138.length : Int) := xD; obtain ⟨ad141, e141, hx141_0⟩ := Kd.at_string (Kd.R_reads' HO140.out).2.2 (ji5) p141 q141; cases e141; replace p141 := eq_true p141; replace q141 := eq_true q141) | ((with_reducible refine gate_callee (f := 95) rfl ?_); refine goesL_ (some 19) rfl rfl Tryz.func95 (by kernel_rfl) rfl #[.string (rdOf ByteArray.empty t138 (ji5))] rfl (by (try simp only [List.map_toArray, List.map_cons, List.map_nil]); first | done | (simp only [hji5]; rfl) | rfl | (simp only [List.length_drop, List.length_take]; rfl)) ?_; (with_reducible refine (armadaref08_tells.calls k (rdOf ByteArray.empty t138 (ji5)) false _ A8.out).mono ?_); rintro e w' ⟨rfl, ⟨nd, rfl⟩⟩; refine ⟨_, rfl, ?_⟩))
  go_ret3
  exact ⟨by first | rfl | (simp [errW_none, errW_some] <;> rfl) | (simp only [← hji5]; first | rfl | (simp [errW_none, errW_some] <;> rfl)) | (simp [*, errW_none, errW_some] <;> rfl), xB⟩
 replace c3 := Bool.eq_false_iff.mpr c3
 subst c3
 rw [if_neg (show ¬ (false = true) by decide)] at H
 simp only [Option.some.injEq, Prod.mk.injEq] at H
 obtain ⟨rfl, rfl, rfl⟩ := H
 go_enter Tryz.func67, Tryz.ntmps67
 go_wp2_with (first | ((with_reducible refine gate_callee (f := 94) rfl ?_); refine goesL_ (some 8) rfl rfl Tryz.func94 (by kernel_rfl) rfl #[.string a0] rfl xS ?_; (with_reducible refine (armadaref08_Check.calls k a0 false _ A2.out).mono ?_); rintro e w18 ⟨rfl, hb⟩; refine ⟨_, rfl, ?_⟩; replace HB := Aside0.mk (below_step xB hb); (try clear hb); (try clear hb2); (try clear hk); (try clear hi)))
 go_ret3
 exact ⟨by first | rfl | (simp [errW_none, errW_some] <;> rfl) | (simp [*, errW_none, errW_some] <;> rfl) | (simp [isEmpty_bne]; done), xB⟩
def armadaref08_Fits.f (k : Nat) (a0 : ByteArray) (a1_0 : Int) (a1_1 : Int) (a1_2 : Int) (a1_3 : ByteArray) (a1_4 : ByteArray) : Option (Bool) := (armadaref08_Major.f k a0).bind fun bt146 => (if bt146.2.2 = true then ((armadaref07_Check.f k a1_0 a1_1 a1_2 a1_3 a1_4).bind fun t149 => (if t149 = true then (if a1_0 = bt146.2.1 then (some true) else (if bt146.2.1 = 0 then (some (a1_0 == 1)) else (some false))) else (some false))) else (some false))
theorem armadaref08_Fits.mono : ∀ a0 a1 a2 a3 a4 a5 k, LeO (armadaref08_Fits.f k a0 a1 a2 a3 a4 a5) (armadaref08_Fits.f (k + 1) a0 a1 a2 a3 a4 a5) := by
 intro a0 a1 a2 a3 a4 a5 k
 unfold armadaref08_Fits.f
 repeat' first
   | (with_reducible exact armadaref07_Check.mono _ _ _ _ _ _)
   | (with_reducible exact armadaref08_Major.mono _ _)
   | (with_reducible exact LeO.refl _)
   | (with_reducible exact LeO.none _)
   | (with_reducible refine LeO.ite ?_ ?_)
   | (with_reducible refine LeO.bind ?_ (fun _ => ?_))
   | exact armadaref07_Check.mono _ _ _ _ _ _
   | exact armadaref08_Major.mono _ _
   | exact LeO.none _
   | refine LeO.ite ?_ ?_
   | refine LeO.bind ?_ (fun _ => ?_)
set_option maxHeartbeats 8000000 in
set_option maxRecDepth 100000 in
theorem armadaref08_Fits.calls (k : Nat) (a0 : ByteArray) (a1_0 : Int) (a1_1 : Int) (a1_2 : Int) (a1_3 : ByteArray) (a1_4 : ByteArray) (r : Bool) (w : World) (h : armadaref08_Fits.f k a0 a1_0 a1_1 a1_2 a1_3 a1_4 = some r) :
  Calls Tryz.prog 50 #[.string a0, .agg #[.int .i64 a1_0, .int .i64 a1_1, .int .i64 a1_2, .string a1_3, .string a1_4]] w fun e w' => e = .returned (.bool r) ∧ Below w.heap.size w w' := by
 have hu25 := Tryz.underlying25
 have HB := Aside0.mk (Below.refl w.heap.size w)
 have H : ((armadaref08_Major.f k a0).bind fun bt146 => (if bt146.2.2 = true then ((armadaref07_Check.f k a1_0 a1_1 a1_2 a1_3 a1_4).bind fun t149 => (if t149 = true then (if a1_0 = bt146.2.1 then (some true) else (if bt146.2.1 = 0 then (some (a1_0 == 1)) else (some false))) else (some false))) else (some false))) = some r := h
 clear h
 replace H := Option.bind_eq_some_iff.mp H
 obtain ⟨⟨t146, t147, t148⟩, A30, H⟩ := H
 replace H : (if t148 = true then ((armadaref07_Check.f k a1_0 a1_1 a1_2 a1_3 a1_4).bind fun t149 => (if t149 = true then (if a1_0 = t147 then (some true) else (if t147 = 0 then (some (a1_0 == 1)) else (some false))) else (some false))) else (some false)) = some r := H
 have A3 := Aside0.mk A30
 clear A30
 by_cases c4 : t148 = true
 ·
  subst c4
  rw [if_pos rfl] at H
  replace H := xb H
  obtain ⟨t149, A5, H⟩ := H
  by_cases c6 : t149 = true
  ·
   subst c6
   rw [if_pos rfl] at H
   by_cases c7 : a1_0 = t147
   ·
    rw [if_pos c7] at H
    have c7b0 := beq_iff_eq.mpr c7
    have c7b1 := bne_eq_false_iff_eq.mpr c7
    clear c7
    obtain rfl := Option.some.inj H
    go_enter Tryz.func50, Tryz.ntmps50
    go_wp2_with (first | ((with_reducible refine gate_dst (N := 3) rfl ?_); refine box_event ?hg (N := 3) ?hd (cs := #[.int .i64 a1_0, .int .i64 a1_1, .int .i64 a1_2, .string a1_3, .string a1_4]) (t := 25) ?hr ?_; (case hd => rfl); (case hg => rfl); (case hr => first | (go_simp; done) | (go_simp; rfl)); intro gb145 hg w8 hbox hb; have BK145 := Aside0.mk (hbox); have GW145 := Aside0.mk ((by rw [hg]; exact (below_size xB) : w.heap.size ≤ gb145)); have GE145 := Aside0.mk ((by rw [hg]; exact (below_size xB) : w.heap.size ≤ gb145)); replace HB := Aside0.mk (below_step xB hb); clear hb hbox hg) | ((with_reducible refine gate_callee (f := 67) rfl ?_); refine goesL_ (some 10) rfl rfl Tryz.func67 (by kernel_rfl) rfl #[.string a0] rfl xS ?_; (with_reducible refine (armadaref08_Major.calls k a0 t146 t147 true _ A3.out).mono ?_); rintro e w9 ⟨rfl, hb⟩; refine ⟨_, rfl, ?_⟩; replace BK145 := Aside0.mk (blk_below (g := gb145) (o := .cells #[.int .i64 a1_0, .int .i64 a1_1, .int .i64 a1_2, .string a1_3, .string a1_4] 25 (0, 0)) xK hb); replace HB := Aside0.mk (below_step xB hb); (try clear hb); (try clear hb2); (try clear hk); (try clear hi); obtain ⟨hcz10_0, hcz10_1, hcz10_2, hcz10_3, hcz10_4⟩ := xC5 BK145.out; obtain ⟨hfz10_0, hfz10_1, hfz10_2, hfz10_3, hfz10_4⟩ := xF5 BK145.out) | (go_at_call 51; (with_reducible refine (armadaref07_Check.calls k a1_0 a1_1 a1_2 a1_3 a1_4 true _ A5.out).mono ?_); rintro e w11 ⟨rfl, hb⟩; replace BK145 := Aside0.mk (blk_below (g := gb145) (o := .cells #[.int .i64 a1_0, .int .i64 a1_1, .int .i64 a1_2, .string a1_3, .string a1_4] 25 (0, 0)) xK hb); replace HB := Aside0.mk (below_step xB hb); (try clear hb); (try clear hb2); (try clear hk); (try clear hi); obtain ⟨hcz12_0, hcz12_1, hcz12_2, hcz12_3, hcz12_4⟩ := xC5 BK145.out; obtain ⟨hfz12_0, hfz12_1, hfz12_2, hfz12_3, hfz12_4⟩ := xF5 BK145.out))
    go_ret
    exact ⟨by first | rfl | (simp [errW_none, errW_some] <;> rfl) | (simp [*, errW_none, errW_some] <;> rfl) | (simp [isEmpty_bne]; done), xB⟩
   rw [if_neg c7] at H
   have c7b0 := beq_eq_false_iff_ne.mpr c7
   have c7b1 := bne_iff_ne.mpr c7
   by_cases c13 : t147 = 0
   ·
    rw [if_pos c13] at H
    have c13b0 := beq_iff_eq.mpr c13
    have c13b1 := bne_eq_false_iff_eq.mpr c13
    clear c13
    obtain rfl := Option.some.inj H
    go_enter Tryz.func50, Tryz.ntmps50
    go_wp2_with (first | ((with_reducible refine gate_dst (N := 3) rfl ?_); refine box_event ?hg (N := 3) ?hd (cs := #[.int .i64 a1_0, .int .i64 a1_1, .int .i64 a1_2, .string a1_3, .string a1_4]) (t := 25) ?hr ?_; (case hd => rfl); (case hg => rfl); (case hr => first | (go_simp; done) | (go_simp; rfl)); intro gb145 hg w14 hbox hb; have BK145 := Aside0.mk (hbox); have GW145 := Aside0.mk ((by rw [hg]; exact (below_size xB) : w.heap.size ≤ gb145)); have GE145 := Aside0.mk ((by rw [hg]; exact (below_size xB) : w.heap.size ≤ gb145)); replace HB := Aside0.mk (below_step xB hb); clear hb hbox hg) | ((with_reducible refine gate_callee (f := 67) rfl ?_); refine goesL_ (some 10) rfl rfl Tryz.func67 (by kernel_rfl) rfl #[.string a0] rfl xS ?_; (with_reducible refine (armadaref08_Major.calls k a0 t146 t147 true _ A3.out).mono ?_); rintro e w15 ⟨rfl, hb⟩; refine ⟨_, rfl, ?_⟩; replace BK145 := Aside0.mk (blk_below (g := gb145) (o := .cells #[.int .i64 a1_0, .int .i64 a1_1, .int .i64 a1_2, .string a1_3, .string a1_4] 25 (0, 0)) xK hb); replace HB := Aside0.mk (below_step xB hb); (try clear hb); (try clear hb2); (try clear hk); (try clear hi); obtain ⟨hcz16_0, hcz16_1, hcz16_2, hcz16_3, hcz16_4⟩ := xC5 BK145.out; obtain ⟨hfz16_0, hfz16_1, hfz16_2, hfz16_3, hfz16_4⟩ := xF5 BK145.out) | (go_at_call 51; (with_reducible refine (armadaref07_Check.calls k a1_0 a1_1 a1_2 a1_3 a1_4 true _ A5.out).mono ?_); rintro e w17 ⟨rfl, hb⟩; replace BK145 := Aside0.mk (blk_below (g := gb145) (o := .cells #[.int .i64 a1_0, .int .i64 a1_1, .int .i64 a1_2, .string a1_3, .string a1_4] 25 (0, 0)) xK hb); replace HB := Aside0.mk (below_step xB hb); (try clear hb); (try clear hb2); (try clear hk); (try clear hi); obtain ⟨hcz18_0, hcz18_1, hcz18_2, hcz18_3, hcz18_4⟩ := xC5 BK145.out; obtain ⟨hfz18_0, hfz18_1, hfz18_2, hfz18_3, hfz18_4⟩ := xF5 BK145.out))
    go_ret
    exact ⟨by first | rfl | (simp [errW_none, errW_some] <;> rfl) | (simp [*, errW_none, errW_some] <;> rfl) | (simp [isEmpty_bne]; done), xB⟩
   rw [if_neg c13] at H
   have c13b0 := beq_eq_false_iff_ne.mpr c13
   have c13b1 := bne_iff_ne.mpr c13
   obtain rfl := Option.some.inj H
   go_enter Tryz.func50, Tryz.ntmps50
   go_wp2_with (first | ((with_reducible refine gate_dst (N := 3) rfl ?_); refine box_event ?hg (N := 3) ?hd (cs := #[.int .i64 a1_0, .int .i64 a1_1, .int .i64 a1_2, .string a1_3, .string a1_4]) (t := 25) ?hr ?_; (case hd => rfl); (case hg => rfl); (case hr => first | (go_simp; done) | (go_simp; rfl)); intro gb145 hg w19 hbox hb; have BK145 := Aside0.mk (hbox); have GW145 := Aside0.mk ((by rw [hg]; exact (below_size xB) : w.heap.size ≤ gb145)); have GE145 := Aside0.mk ((by rw [hg]; exact (below_size xB) : w.heap.size ≤ gb145)); replace HB := Aside0.mk (below_step xB hb); clear hb hbox hg) | ((with_reducible refine gate_callee (f := 67) rfl ?_); refine goesL_ (some 10) rfl rfl Tryz.func67 (by kernel_rfl) rfl #[.string a0] rfl xS ?_; (with_reducible refine (armadaref08_Major.calls k a0 t146 t147 true _ A3.out).mono ?_); rintro e w20 ⟨rfl, hb⟩; refine ⟨_, rfl, ?_⟩; replace BK145 := Aside0.mk (blk_below (g := gb145) (o := .cells #[.int .i64 a1_0, .int .i64 a1_1, .int .i64 a1_2, .string a1_3, .string a1_4] 25 (0, 0)) xK hb); replace HB := Aside0.mk (below_step xB hb); (try clear hb); (try clear hb2); (try clear hk); (try clear hi); obtain ⟨hcz21_0, hcz21_1, hcz21_2, hcz21_3, hcz21_4⟩ := xC5 BK145.out; obtain ⟨hfz21_0, hfz21_1, hfz21_2, hfz21_3, hfz21_4⟩ := xF5 BK145.out) | (go_at_call 51; (with_reducible refine (armadaref07_Check.calls k a1_0 a1_1 a1_2 a1_3 a1_4 true _ A5.out).mono ?_); rintro e w22 ⟨rfl, hb⟩; replace BK145 := Aside0.mk (blk_below (g := gb145) (o := .cells #[.int .i64 a1_0, .int .i64 a1_1, .int .i64 a1_2, .string a1_3, .string a1_4] 25 (0, 0)) xK hb); replace HB := Aside0.mk (below_step xB hb); (try clear hb); (try clear hb2); (try clear hk); (try clear hi); obtain ⟨hcz23_0, hcz23_1, hcz23_2, hcz23_3, hcz23_4⟩ := xC5 BK145.out; obtain ⟨hfz23_0, hfz23_1, hfz23_2, hfz23_3, hfz23_4⟩ := xF5 BK145.out))
   go_ret
   exact ⟨by first | rfl | (simp [errW_none, errW_some] <;> rfl) | (simp [*, errW_none, errW_some] <;> rfl) | (simp [isEmpty_bne]; done), xB⟩
  replace c6 := Bool.eq_false_iff.mpr c6
  subst c6
  rw [if_neg (show ¬ (false = true) by decide)] at H
  obtain rfl := Option.some.inj H
  go_enter Tryz.func50, Tryz.ntmps50
  go_wp2_with (first | ((with_reducible refine gate_dst (N := 3) rfl ?_); refine box_event ?hg (N := 3) ?hd (cs := #[.int .i64 a1_0, .int .i64 a1_1, .int .i64 a1_2, .string a1_3, .string a1_4]) (t := 25) ?hr ?_; (case hd => rfl); (case hg => rfl); (case hr => first | (go_simp; done) | (go_simp; rfl)); intro gb145 hg w24 hbox hb; have BK145 := Aside0.mk (hbox); have GW145 := Aside0.mk ((by rw [hg]; exact (below_size xB) : w.heap.size ≤ gb145)); have GE145 := Aside0.mk ((by rw [hg]; exact (below_size xB) : w.heap.size ≤ gb145)); replace HB := Aside0.mk (below_step xB hb); clear hb hbox hg) | ((with_reducible refine gate_callee (f := 67) rfl ?_); refine goesL_ (some 10) rfl rfl Tryz.func67 (by kernel_rfl) rfl #[.string a0] rfl xS ?_; (with_reducible refine (armadaref08_Major.calls k a0 t146 t147 true _ A3.out).mono ?_); rintro e w25 ⟨rfl, hb⟩; refine ⟨_, rfl, ?_⟩; replace BK145 := Aside0.mk (blk_below (g := gb145) (o := .cells #[.int .i64 a1_0, .int .i64 a1_1, .int .i64 a1_2, .string a1_3, .string a1_4] 25 (0, 0)) xK hb); replace HB := Aside0.mk (below_step xB hb); (try clear hb); (try clear hb2); (try clear hk); (try clear hi); obtain ⟨hcz26_0, hcz26_1, hcz26_2, hcz26_3, hcz26_4⟩ := xC5 BK145.out; obtain ⟨hfz26_0, hfz26_1, hfz26_2, hfz26_3, hfz26_4⟩ := xF5 BK145.out) | (go_at_call 51; (with_reducible refine (armadaref07_Check.calls k a1_0 a1_1 a1_2 a1_3 a1_4 false _ A5.out).mono ?_); rintro e w27 ⟨rfl, hb⟩; replace BK145 := Aside0.mk (blk_below (g := gb145) (o := .cells #[.int .i64 a1_0, .int .i64 a1_1, .int .i64 a1_2, .string a1_3, .string a1_4] 25 (0, 0)) xK hb); replace HB := Aside0.mk (below_step xB hb); (try clear hb); (try clear hb2); (try clear hk); (try clear hi)))
  go_ret
  exact ⟨by first | rfl | (simp [errW_none, errW_some] <;> rfl) | (simp [*, errW_none, errW_some] <;> rfl) | (simp [isEmpty_bne]; done), xB⟩
 replace c4 := Bool.eq_false_iff.mpr c4
 subst c4
 rw [if_neg (show ¬ (false = true) by decide)] at H
 obtain rfl := Option.some.inj H
 go_enter Tryz.func50, Tryz.ntmps50
 go_wp2_with (first | ((with_reducible refine gate_dst (N := 3) rfl ?_); refine box_event ?hg (N := 3) ?hd (cs := #[.int .i64 a1_0, .int .i64 a1_1, .int .i64 a1_2, .string a1_3, .string a1_4]) (t := 25) ?hr ?_; (case hd => rfl); (case hg => rfl); (case hr => first | (go_simp; done) | (go_simp; rfl)); intro gb145 hg w28 hbox hb; have BK145 := Aside0.mk (hbox); have GW145 := Aside0.mk ((by rw [hg]; exact (below_size xB) : w.heap.size ≤ gb145)); have GE145 := Aside0.mk ((by rw [hg]; exact (below_size xB) : w.heap.size ≤ gb145)); replace HB := Aside0.mk (below_step xB hb); clear hb hbox hg) | ((with_reducible refine gate_callee (f := 67) rfl ?_); refine goesL_ (some 10) rfl rfl Tryz.func67 (by kernel_rfl) rfl #[.string a0] rfl xS ?_; (with_reducible refine (armadaref08_Major.calls k a0 t146 t147 false _ A3.out).mono ?_); rintro e w29 ⟨rfl, hb⟩; refine ⟨_, rfl, ?_⟩; replace BK145 := Aside0.mk (blk_below (g := gb145) (o := .cells #[.int .i64 a1_0, .int .i64 a1_1, .int .i64 a1_2, .string a1_3, .string a1_4] 25 (0, 0)) xK hb); replace HB := Aside0.mk (below_step xB hb); (try clear hb); (try clear hb2); (try clear hk); (try clear hi)))
 go_ret
 exact ⟨by first | rfl | (simp [errW_none, errW_some] <;> rfl) | (simp [*, errW_none, errW_some] <;> rfl) | (simp [isEmpty_bne]; done), xB⟩
def armadaref07_order.f (a0 : Int) (a1 : Int) : Option (Int) := if a0 < a1 then (some (-1)) else (if a0 > a1 then (some 1) else (some 0))
set_option maxHeartbeats 8000000 in
set_option maxRecDepth 100000 in
theorem armadaref07_order.calls (a0 : Int) (a1 : Int) (r : Int) (w : World) (h : armadaref07_order.f a0 a1 = some r) :
  Calls Tryz.prog 52 #[.int .i64 a0, .int .i64 a1] w fun e w' => e = .returned (.int .i64 r) ∧ Drawn0 w w' := by
 have H : (if a0 < a1 then (some (-1)) else (if a0 > a1 then (some 1) else (some 0))) = some r := h
 clear h
 by_cases c3 : a0 < a1
 ·
  rw [if_pos c3] at H
  have c3b0 := decide_eq_true c3
  clear c3
  obtain rfl := Option.some.inj H
  go_enter Tryz.func52, Tryz.ntmps52
  go_wp2
  go_ret
  exact ⟨xR, by repeat (first | exact Drawn0.refl _ | apply Drawn0.step)⟩
 rw [if_neg c3] at H
 have c3b0 := decide_eq_false c3
 clear c3
 by_cases c4 : a0 > a1
 ·
  rw [if_pos c4] at H
  have c4b0 := decide_eq_true c4
  clear c4
  obtain rfl := Option.some.inj H
  go_enter Tryz.func52, Tryz.ntmps52
  go_wp2
  go_ret
  exact ⟨xR, by repeat (first | exact Drawn0.refl _ | apply Drawn0.step)⟩
 rw [if_neg c4] at H
 have c4b0 := decide_eq_false c4
 clear c4
 obtain rfl := Option.some.inj H
 go_enter Tryz.func52, Tryz.ntmps52
 go_wp2
 go_ret
 exact ⟨xR, by repeat (first | exact Drawn0.refl _ | apply Drawn0.step)⟩
def armadaref07_one.f (a0 : Bool) : Option (Int) := if a0 = true then (some 1) else (some 0)
set_option maxHeartbeats 8000000 in
set_option maxRecDepth 100000 in
theorem armadaref07_one.calls (a0 : Bool) (r : Int) (w : World) (h : armadaref07_one.f a0 = some r) :
  Calls Tryz.prog 70 #[.bool a0] w fun e w' => e = .returned (.int .i64 r) ∧ Drawn0 w w' := by
 have H : (if a0 = true then (some 1) else (some 0)) = some r := h
 clear h
 by_cases c2 : a0 = true
 ·
  subst c2
  rw [if_pos rfl] at H
  obtain rfl := Option.some.inj H
  go_enter Tryz.func70, Tryz.ntmps70
  go_wp2
  go_ret
  exact ⟨xR, by repeat (first | exact Drawn0.refl _ | apply Drawn0.step)⟩
 replace c2 := Bool.eq_false_iff.mpr c2
 subst c2
 rw [if_neg (show ¬ (false = true) by decide)] at H
 obtain rfl := Option.some.inj H
 go_enter Tryz.func70, Tryz.ntmps70
 go_wp2
 go_ret
 exact ⟨xR, by repeat (first | exact Drawn0.refl _ | apply Drawn0.step)⟩
end Go.Proofs.YtkidfclnakbgiaaGreatDoor.RD
end
