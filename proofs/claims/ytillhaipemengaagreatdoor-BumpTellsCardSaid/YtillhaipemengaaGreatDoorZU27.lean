/- The texts RDx1 in one file, without what these claims do not use (put together by prune2.py). -/
import Derived.Test.YtillhaipemengaaGreatDoorZU26
section
namespace Go.Proofs.YtillhaipemengaaGreatDoor.RD
open Go.RowKit Go.Proofs.YtillhaipemengaaGreatDoor Go.Proofs.YtillhaipemengaaGreatDoor.K0 Go.Proofs.YtillhaipemengaaGreatDoorW.PrintWords Go.Proofs.YtillhaipemengaaGreatDoorW.PrintLast Go.Proofs.YtillhaipemengaaGreatDoorW.PrintMore
attribute [local go_sem] max2_int min2_int max_two min_two max_three min_three max_four min_four
set_option linter.unusedVariables false
set_option linter.unusedSimpArgs false
def armadaref05_Split.l0 : Nat → ByteArray → Int → List ByteArray → Int → Int → Option (List ByteArray)
 | 0, _, _, _, _, _ => none
 | k + 1, x0, x1, x5, x6, x7 => if x7 ≤ (x0.size : Int) then (if x7 = (x0.size : Int) then (if 0 ≤ x6 then (if x6 ≤ x7 then (if x5.length < 8796093022208 then (armadaref05_Split.l0 k x0 x1 (x5 ++ [x0.extract (x6 : Int).toNat (x7 : Int).toNat]) (wrap64 (x7 + 1)) (wrap64 (x7 + 1))) else (none)) else (none)) else (none)) else (if 0 ≤ x7 then (if x7 < (x0.size : Int) then (if (bt x0 x7) = x1 then (if 0 ≤ x6 then (if x6 ≤ x7 then (if x5.length < 8796093022208 then (armadaref05_Split.l0 k x0 x1 (x5 ++ [x0.extract (x6 : Int).toNat (x7 : Int).toNat]) (wrap64 (x7 + 1)) (wrap64 (x7 + 1))) else (none)) else (none)) else (none)) else (armadaref05_Split.l0 k x0 x1 x5 x6 (wrap64 (x7 + 1)))) else (none)) else (none))) else (some x5)
def armadaref05_Split.f (k : Nat) (a0 : ByteArray) (a1 : Int) : Option (List ByteArray) := armadaref05_Split.l0 k a0 a1 ([] : List ByteArray) 0 0
set_option maxHeartbeats 8000000 in
set_option maxRecDepth 100000 in
theorem armadaref05_Split.calls (k : Nat) (a0 : ByteArray) (a1 : Int) (r : List ByteArray) (w : World) (h : armadaref05_Split.f k a0 a1 = some r) :
  Calls Tryz.prog 60 #[.string a0, .int .u8 a1] w fun e w' => ∃ v0_ : Value, e = .returned (v0_) ∧ Kd.R Kd.string 9 w' w.heap.size (fun _ => True) v0_ r ∧ Below w.heap.size w w' := by
 have HB := Aside0.mk (Below.refl w.heap.size w); have H : (armadaref05_Split.l0 k a0 a1 ([] : List ByteArray) 0 0) = some r := h; clear h; have H' := Aside0.mk H; clear H; go_enter Tryz.func60, Tryz.ntmps60; go_wp2
 go_loopg [5, 6, 7] k (fun kq v5 v6 v7 w' => ∃ (x5_1 : List ByteArray) (x6_1 : Int) (x7_1 : Int), v6 = .int .i64 x6_1 ∧ v7 = .int .i64 x7_1 ∧ Aside0 (armadaref05_Split.l0 kq a0 a1 x5_1 x6_1 x7_1 = some r) ∧ Aside0 (kq ≤ k) ∧ Aside0 (Kd.R Kd.string 9 w' w.heap.size (fun _ => True) v5 x5_1) ∧ Aside0 (Below w.heap.size w w'))
 case atStart => exact ⟨(([] : List ByteArray)), (0), (0), xR, xR, H', ⟨Nat.le_refl _⟩, ⟨by first | exact Kd.R_nil _ _ _ _ _ | exact Kd.N_nil _ _ _ _ _ | exact Kd.V_nil _ _ _ _ _ | exact Kd.Q_nil _ _ _ _ _ | exact Kd.S_nil _ _ _ _ _⟩, ⟨xB⟩⟩
 case round =>
  clear H'
  try clear p2
  obtain ⟨x5_1, x6_1, x7_1, rfl, rfl, HA, HK1, HO_5, HB⟩ := hrel
  cases gk with
  | zero => exact absurd HA.out (by simp [armadaref05_Split.l0])
  | succ k1 =>
   have H := HA.out; clear HA; simp only [armadaref05_Split.l0] at H; replace H := xJ H; rcases H with ⟨c3, H⟩ | ⟨c3, H⟩
   ·
    have c3b0 := decide_eq_true c3; clear c3; replace H := xJ H; rcases H with ⟨c4, H⟩ | ⟨c4, H⟩
    ·
     have c4b0 := beq_iff_eq.mpr c4; have c4b1 := bne_eq_false_iff_eq.mpr c4; clear c4; replace H := xI H; obtain ⟨c5, H⟩ := H; have c5b0 := eq_true c5; have c5b1 := decide_eq_true c5; clear c5; replace H := xI H; obtain ⟨c6, H⟩ := H; have c6b0 := eq_true c6; have c6b1 := decide_eq_true c6; clear c6; have c7b0 := eq_true (xD : x7_1 ≤ (a0.size : Int)); replace H := xI H; obtain ⟨c8, H⟩ := H; have LMc8 := Aside0.mk c8; clear c8; obtain ⟨y101, hy101⟩ : ∃ y_ : List ByteArray, y_ = (x5_1 ++ [a0.extract (x6_1 : Int).toNat (x7_1 : Int).toNat]) := ⟨_, rfl⟩
     replace H : (armadaref05_Split.l0 k1 a0 a1 y101 (wrap64 (x7_1 + 1)) (wrap64 (x7_1 + 1))) = some r := by first | (rw [hy101]; with_reducible exact H) | (have H2_ := (Option.bind_some _ _).symm.trans H; rw [hy101]; with_reducible exact H2_) | (have H2_ := (Option.bind_some _ _).symm.trans H; with_reducible exact H2_) | with_reducible exact H | (rw [hy101]; exact H) | exact H
     have Ny101 := Aside0.mk hy101; clear hy101; have H' := Aside0.mk H; clear H; go_wp2_with (first | ((with_reducible refine gate_builtin (b := .append) (xs := #[.tmp 25, .tmp 30]) rfl ?_); at_builtin; refine Kd.R_append Kd.string (w0 := w) w.heap.size rfl (.tmp 25) (.tmp 30) 103 9 (.string ⟨#[]⟩) 16 rfl Tryz.underlying103 info9 rfl (by decide) (by omega) u5 x5_1 (a0.extract (x6_1 : Int).toNat (x7_1 : Int).toNat) [.string (a0.extract (x6_1 : Int).toNat (x7_1 : Int).toNat)] (fun _ => True) (fun _ => False) rfl rfl ?aP (fun _ hk => hk.elim) ?aF ?aO ?aB ?aS ?aL ?_; (case aP => exact rfl); (case aB => exact xB); (case aF => exact (fun _ _ => trivial)); (case aO => exact (by (with_reducible repeat (first | apply Kd.R_alloc | apply Kd.R_drewN | apply Kd.R_drew)); exact HO_5.out)); (case aS => exact (below_size xB)); (case aL => have := LMc8.out; omega); intro v102 w9 ho hb hg hat; rw [← Ny101.out] at ho; have HO103 := Aside0.mk (ho); replace HB := Aside0.mk (hb); clear HO_5; clear ho hb hg hat)); go_roundg k1
     case measure => exact xO1
     case rel => exact ⟨(y101), (wrap64 (x7_1 + 1)), (wrap64 (x7_1 + 1)), xR, xR, H', ⟨xO1⟩, ⟨xQ HO103⟩, ⟨xB⟩⟩
    have c4b0 := beq_eq_false_iff_ne.mpr c4; have c4b1 := bne_iff_ne.mpr c4; replace H := xI H; obtain ⟨c10, H⟩ := H; replace c10 := decide_eq_true c10; replace H := xI H; obtain ⟨c11, H⟩ := H; replace c11 := decide_eq_true c11; replace H := xJ H; rcases H with ⟨c13, H⟩ | ⟨c13, H⟩
    ·
     have c13b0 := beq_iff_eq.mpr c13; have c13b1 := bne_eq_false_iff_eq.mpr c13; clear c13; replace H := xI H; obtain ⟨c14, H⟩ := H; have c14b0 := eq_true c14; have c14b1 := decide_eq_true c14; clear c14; replace H := xI H; obtain ⟨c15, H⟩ := H; have c15b0 := eq_true c15; have c15b1 := decide_eq_true c15; clear c15; have c16b0 := eq_true (xD : x7_1 ≤ (a0.size : Int)); replace H := xI H; obtain ⟨c17, H⟩ := H; have LMc17 := Aside0.mk c17; clear c17; obtain ⟨y104, hy104⟩ : ∃ y_ : List ByteArray, y_ = (x5_1 ++ [a0.extract (x6_1 : Int).toNat (x7_1 : Int).toNat]) := ⟨_, rfl⟩
     replace H : (armadaref05_Split.l0 k1 a0 a1 y104 (wrap64 (x7_1 + 1)) (wrap64 (x7_1 + 1))) = some r := by first | (rw [hy104]; with_reducible exact H) | (have H2_ := (Option.bind_some _ _).symm.trans H; rw [hy104]; with_reducible exact H2_) | (have H2_ := (Option.bind_some _ _).symm.trans H; with_reducible exact H2_) | with_reducible exact H | (rw [hy104]; exact H) | exact H
     have Ny104 := Aside0.mk hy104; clear hy104; have H' := Aside0.mk H; clear H; obtain ⟨p12, q12, hx12⟩ := xV a0 x7_1; go_wp2_with (first | ((with_reducible refine gate_builtin (b := .append) (xs := #[.tmp 25, .tmp 30]) rfl ?_); at_builtin; refine Kd.R_append Kd.string (w0 := w) w.heap.size rfl (.tmp 25) (.tmp 30) 103 9 (.string ⟨#[]⟩) 16 rfl Tryz.underlying103 info9 rfl (by decide) (by omega) u5 x5_1 (a0.extract (x6_1 : Int).toNat (x7_1 : Int).toNat) [.string (a0.extract (x6_1 : Int).toNat (x7_1 : Int).toNat)] (fun _ => True) (fun _ => False) rfl rfl ?aP (fun _ hk => hk.elim) ?aF ?aO ?aB ?aS ?aL ?_; (case aP => exact rfl); (case aB => exact xB); (case aF => exact (fun _ _ => trivial)); (case aO => exact (by (with_reducible repeat (first | apply Kd.R_alloc | apply Kd.R_drewN | apply Kd.R_drew)); exact HO_5.out)); (case aS => exact (below_size xB)); (case aL => have := LMc17.out; omega); intro v105 w18 ho hb hg hat; rw [← Ny104.out] at ho; have HO106 := Aside0.mk (ho); replace HB := Aside0.mk (hb); clear HO_5; clear ho hb hg hat)); go_roundg k1
     case measure => exact xO1
     case rel => exact ⟨(y104), (wrap64 (x7_1 + 1)), (wrap64 (x7_1 + 1)), xR, xR, H', ⟨xO1⟩, ⟨xQ HO106⟩, ⟨xB⟩⟩
    have c13b0 := beq_eq_false_iff_ne.mpr c13; have c13b1 := bne_iff_ne.mpr c13; have H' := Aside0.mk H; clear H; obtain ⟨p12, q12, hx12⟩ := xV a0 x7_1; go_wp2; go_roundg k1
    case measure => exact xO1
    case rel => exact ⟨(x5_1), (x6_1), (wrap64 (x7_1 + 1)), xR, xR, H', ⟨xO1⟩, ⟨xQ HO_5⟩, ⟨xB⟩⟩
   have c3b0 := decide_eq_false c3; clear c3; obtain rfl := Option.some.inj H; go_wp2; go_ret; exact ⟨_, xW, by (with_reducible repeat (first | apply Kd.R_alloc | apply Kd.R_drewN | apply Kd.R_drew)); exact HO_5.out, xB⟩
def armadaref08_tells.l0 : Nat → ByteArray → Int → Option (Bool)
 | 0, _, _ => none
 | k + 1, x0, x3 => if x3 < (x0.size : Int) then (if 0 ≤ x3 then (if (bt x0 x3) < 48 then (some false) else (if (bt x0 x3) > 57 then (some false) else (armadaref08_tells.l0 k x0 (wrap64 (x3 + 1))))) else (none)) else (if (x0.size : Int) > 1 then (if 0 < (x0.size : Int) then (some ((bt x0 0) == 118)) else (none)) else (some false))
def armadaref08_tells.f (k : Nat) (a0 : ByteArray) : Option (Bool) := armadaref08_tells.l0 k a0 1
set_option maxHeartbeats 8000000 in
set_option maxRecDepth 100000 in
theorem armadaref08_tells.calls (k : Nat) (a0 : ByteArray) (r : Bool) (w : World) (h : armadaref08_tells.f k a0 = some r) :
  Calls Tryz.prog 61 #[.string a0] w fun e w' => e = .returned (.bool r) ∧ Drawn0 w w' := by
 have H : (armadaref08_tells.l0 k a0 1) = some r := h; clear h; have H' := Aside0.mk H; clear H; go_enter Tryz.func61, Tryz.ntmps61; go_wp2
 go_loopg [3] k (fun kq v3 w' => ∃ (x3_1 : Int), v3 = .int .i64 x3_1 ∧ Aside0 (armadaref08_tells.l0 kq a0 x3_1 = some r) ∧ Aside0 (kq ≤ k) ∧ Drawn0 w w')
 case atStart => exact ⟨(1), xR, H', ⟨Nat.le_refl _⟩, by repeat (first | exact Drawn0.refl _ | apply Drawn0.step)⟩
 case round =>
  clear H'; obtain ⟨x3_1, rfl, HA, HK1, ⟨m1, rfl⟩⟩ := hrel
  cases gk with
  | zero => exact absurd HA.out (by simp [armadaref08_tells.l0])
  | succ k1 =>
   have H := HA.out; clear HA; simp only [armadaref08_tells.l0] at H; replace H := xJ H; rcases H with ⟨c2, H⟩ | ⟨c2, H⟩
   ·
    replace c2 := decide_eq_true c2; replace H := xI H; obtain ⟨c3, H⟩ := H; have c3b0 := decide_eq_true c3; clear c3; replace H := xJ H; rcases H with ⟨c5, H⟩ | ⟨c5, H⟩
    ·
     replace c5 := decide_eq_true c5; obtain rfl := Option.some.inj H; obtain ⟨p4, q4, hx4⟩ := xV a0 x3_1; go_wp2; go_ret; exact ⟨xR, xG⟩
    replace c5 := decide_eq_false c5; replace H := xJ H; rcases H with ⟨c7, H⟩ | ⟨c7, H⟩
    ·
     replace c7 := decide_eq_true c7; obtain rfl := Option.some.inj H; obtain ⟨p4, q4, hx4⟩ := xV a0 x3_1; obtain ⟨p6, q6, hx6⟩ := xV a0 x3_1; go_wp2; go_ret; exact ⟨xR, xG⟩
    replace c7 := decide_eq_false c7; have H' := Aside0.mk H; clear H; obtain ⟨p4, q4, hx4⟩ := xV a0 x3_1; obtain ⟨p6, q6, hx6⟩ := xV a0 x3_1; go_wp2; go_roundg k1
    case measure => exact xO1
    case rel => exact ⟨(wrap64 (x3_1 + 1)), xR, H', ⟨xO1⟩, by repeat (first | exact Drawn0.refl _ | apply Drawn0.step)⟩
   replace c2 := decide_eq_false c2; replace H := xJ H; rcases H with ⟨c8, H⟩ | ⟨c8, H⟩
   ·
    have c8b0 := decide_eq_true c8; have c8b1 : decide (1 < a0.size) = true := decide_eq_true (by omega); clear c8; replace H := xI H; obtain ⟨c9, H⟩ := H; have c9b0 := decide_eq_true c9; have c9b1 : decide (0 < a0.size) = true := decide_eq_true (by omega); clear c9; obtain rfl := Option.some.inj H; have p10 : 0 ≤ (0 : Int) := (by omega); have q10 : 0 < a0.size := (by have : (0 : Int) < (a0.size : Int) := xD; omega); have hx10 : ∀ h : 0 < a0.size, ((a0[0]'h).toNat : Int) = bt a0 0 := bt_at a0 0; clear p10; have qi10 : (0 < (a0.size : Int)) = True := eq_true (xD); replace q10 := eq_true q10; go_wp2; go_ret; exact ⟨xR, xG⟩
   have c8b0 := decide_eq_false c8; have c8b1 : decide (1 < a0.size) = false := decide_eq_false (by omega); clear c8; obtain rfl := Option.some.inj H; go_wp2; go_ret; exact ⟨xR, xG⟩
mutual
def armadaref08_number.j0 : Nat → ByteArray → Int → Bool → Option (Int)
 | 0, _, _, _ => none
 | k + 1, x0, x3, x12 => if x12 = true then (some 0) else (armadaref08_number.l0 k x0 x3 1)
def armadaref08_number.l0 : Nat → ByteArray → Int → Int → Option (Int)
 | 0, _, _, _ => none
 | k + 1, x0, x3, x4 => if x4 < (x0.size : Int) then (if 0 ≤ x4 then (armadaref08_number.l0 k x0 (wrap64 ((wrap64 ((wrap64 (10 * x3)) + (wrap64 (bt x0 x4)))) - 48)) (wrap64 (x4 + 1))) else (none)) else (if x3 < 2 then (some 0) else (some x3))
end
def armadaref08_number.f (k : Nat) (a0 : ByteArray) : Option (Int) := if (a0.size : Int) > 10 then (armadaref08_number.j0 k a0 0 true) else (if 1 < (a0.size : Int) then (armadaref08_number.j0 k a0 0 ((bt a0 1) == 48)) else (none))
set_option maxHeartbeats 8000000 in
set_option maxRecDepth 100000 in
theorem armadaref08_number.calls (k : Nat) (a0 : ByteArray) (r : Int) (w : World) (h : armadaref08_number.f k a0 = some r) :
  Calls Tryz.prog 63 #[.string a0] w fun e w' => e = .returned (.int .i64 r) ∧ Drawn0 w w' := by
 have H : (if (a0.size : Int) > 10 then (armadaref08_number.j0 k a0 0 true) else (if 1 < (a0.size : Int) then (armadaref08_number.j0 k a0 0 ((bt a0 1) == 48)) else (none))) = some r := h; clear h; have HC2 := Aside0.mk H; clear H; go_enter Tryz.func63, Tryz.ntmps63; go_upto_region 2 with (fail)
 go_cut [12] (fun v12 wc => ∃ (kq : Nat) (x12_1 : Bool), v12 = .bool x12_1 ∧ Aside0 (armadaref08_number.j0 kq a0 0 x12_1 = some r) ∧ Aside0 (kq ≤ k) ∧ Drawn0 w wc)
 case first =>
  have H := HC2.out; clear HC2; replace H := xJ H; rcases H with ⟨c3, H⟩ | ⟨c3, H⟩
  ·
   have c3b0 := decide_eq_true c3; have c3b1 : decide (10 < a0.size) = true := decide_eq_true (by omega); clear c3
   (first | rw [c3b0] | (simp only [i64_w, i32_w]; rw [c3b0]) | skip)
   have H' := Aside0.mk H; clear H; go_wp2; go_meet
   case rel => exact ⟨_, (true), xR, H', ⟨by first | omega | exact Nat.le_refl _⟩, by repeat (first | exact Drawn0.refl _ | apply Drawn0.step)⟩
  have c3b0 := decide_eq_false c3; have c3b1 : decide (10 < a0.size) = false := decide_eq_false (by omega); clear c3
  (first | rw [c3b0] | (simp only [i64_w, i32_w]; rw [c3b0]) | skip)
  replace H := xI H; obtain ⟨c4, H⟩ := H; have c4b0 := decide_eq_true c4; have c4b1 : decide (1 < a0.size) = true := decide_eq_true (by omega); clear c4; have H' := Aside0.mk H; clear H; have p5 : 0 ≤ (1 : Int) := (by omega); have q5 : 1 < a0.size := (by have : (1 : Int) < (a0.size : Int) := xD; omega); have hx5 : ∀ h : 1 < a0.size, ((a0[1]'h).toNat : Int) = bt a0 1 := bt_at a0 1; clear p5; have qi5 : (1 < (a0.size : Int)) = True := eq_true (xD); replace q5 := eq_true q5; go_wp2; go_meet
  case rel => exact ⟨_, (((bt a0 1) == 48)), xR, H', ⟨by first | omega | exact Nat.le_refl _⟩, by repeat (first | exact Drawn0.refl _ | apply Drawn0.step)⟩
 case rest =>
  clear HC2
  try clear p2
  try clear c3
  try clear c3b0
  try clear c3b1
  try clear c4
  try clear c4b0
  try clear c4b1
  try clear p5
  try clear q5
  try clear hx5
  try clear qi5
  try clear p5
  try clear q5
  obtain ⟨kq, x12_1, rfl, HA, HJ1, ⟨mc1, rfl⟩⟩ := hcut
  cases kq with
  | zero => exact absurd HA.out (by simp [armadaref08_number.j0])
  | succ kj1 =>
   have H := HA.out; clear HA; simp only [armadaref08_number.j0] at H
   by_cases c6 : x12_1 = true
   ·
    subst c6; rw [if_pos rfl] at H; obtain rfl := Option.some.inj H; go_wp2; go_ret; exact ⟨xR, xG⟩
   replace c6 := Bool.eq_false_iff.mpr c6; subst c6; rw [if_neg (show ¬ (false = true) by decide)] at H; have H' := Aside0.mk H; clear H; go_wp2
   go_loopg [3, 4] kj1 (fun kq v3 v4 w' => ∃ (x3_2 : Int) (x4_2 : Int), v3 = .int .i64 x3_2 ∧ v4 = .int .i64 x4_2 ∧ Aside0 (armadaref08_number.l0 kq a0 x3_2 x4_2 = some r) ∧ Aside0 (kq ≤ kj1) ∧ Drawn0 w w')
   case atStart => exact ⟨(0), (1), xR, xR, H', ⟨Nat.le_refl _⟩, by repeat (first | exact Drawn0.refl _ | apply Drawn0.step)⟩
   case round =>
    clear H'
    try clear c1
    try clear p2
    try clear c3
    try clear c3b0
    try clear c3b1
    try clear c4
    try clear c4b0
    try clear c4b1
    try clear p5
    try clear q5
    try clear hx5
    try clear qi5
    try clear c6
    try clear p2
    try clear p5
    try clear q5
    obtain ⟨x3_2, x4_2, rfl, rfl, HA, HK2, ⟨m2, rfl⟩⟩ := hrel
    cases gk with
    | zero => exact absurd HA.out (by simp [armadaref08_number.l0])
    | succ k2 =>
     have H := HA.out; clear HA; simp only [armadaref08_number.l0] at H; replace H := xJ H; rcases H with ⟨c7, H⟩ | ⟨c7, H⟩
     ·
      replace c7 := decide_eq_true c7; replace H := xI H; obtain ⟨c8, H⟩ := H; replace c8 := decide_eq_true c8; have H' := Aside0.mk H; clear H; obtain ⟨p9, q9, hx9⟩ := xV a0 x4_2; go_wp2; go_roundg k2
      case measure => have := HJ1.out; have := HK2.out; omega
      case rel => exact ⟨(wrap64 ((wrap64 ((wrap64 (10 * x3_2)) + (wrap64 (bt a0 x4_2)))) - 48)), (wrap64 (x4_2 + 1)), xR, xR, H', ⟨by have := HJ1.out; have := HK2.out; omega⟩, by repeat (first | exact Drawn0.refl _ | apply Drawn0.step)⟩
     replace c7 := decide_eq_false c7; replace H := xJ H; rcases H with ⟨c10, H⟩ | ⟨c10, H⟩
     ·
      replace c10 := decide_eq_true c10; obtain rfl := Option.some.inj H; go_wp2; go_ret; exact ⟨xR, xG⟩
     replace c10 := decide_eq_false c10; obtain rfl := Option.some.inj H; go_wp2; go_ret; exact ⟨xR, xG⟩
end Go.Proofs.YtillhaipemengaaGreatDoor.RD
end
