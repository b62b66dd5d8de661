/- The texts RDx1 in one file, without what these claims do not use (put together by prune2.py). -/
import Derived.Test.YtkidfclnakbgiaaGreatDoorZT28
section
namespace Go.Proofs.YtkidfclnakbgiaaGreatDoor.RD
open Go.RowKit Go.Proofs.YtkidfclnakbgiaaGreatDoor Go.Proofs.YtkidfclnakbgiaaGreatDoor.K0 Go.Proofs.YtkidfclnakbgiaaGreatDoorW.PrintWords Go.Proofs.YtkidfclnakbgiaaGreatDoorW.PrintLast Go.Proofs.YtkidfclnakbgiaaGreatDoorW.PrintMore
attribute [local go_sem] max2_int min2_int max_two min_two max_three min_three max_four min_four
set_option linter.unusedVariables false
set_option linter.unusedSimpArgs false
def armadaref07_num.f (a0 : Int) : Option (Bool) := if a0 ≥ 0 then (some (decide (a0 ≤ 999999999))) else (some false)
set_option maxHeartbeats 8000000 in
set_option maxRecDepth 100000 in
theorem armadaref07_num.calls (a0 : Int) (r : Bool) (w : World) (h : armadaref07_num.f a0 = some r) :
  Calls Tryz.prog 68 #[.int .i64 a0] w fun e w' => e = .returned (.bool r) ∧ Drawn0 w w' := by
 have H : (if a0 ≥ 0 then (some (decide (a0 ≤ 999999999))) else (some false)) = some r := h
 clear h
 by_cases c2 : a0 ≥ 0
 ·
  rw [if_pos c2] at H
  have c2b0 := decide_eq_true c2
  clear c2
  obtain rfl := Option.some.inj H
  go_enter Tryz.func68, Tryz.ntmps68
  go_wp2
  go_ret
  exact ⟨xR, by repeat (first | exact Drawn0.refl _ | apply Drawn0.step)⟩
 rw [if_neg c2] at H
 have c2b0 := decide_eq_false c2
 clear c2
 obtain rfl := Option.some.inj H
 go_enter Tryz.func68, Tryz.ntmps68
 go_wp2
 go_ret
 exact ⟨xR, by repeat (first | exact Drawn0.refl _ | apply Drawn0.step)⟩
def armadaref05_Split.l0 : Nat → ByteArray → Int → List ByteArray → Int → Int → Option (List ByteArray)
 | 0, _, _, _, _, _ => none
 | k + 1, x0, x1, x5, x6, x7 => if x7 ≤ (x0.size : Int) then (if x7 = (x0.size : Int) then (if 0 ≤ x6 then (if x6 ≤ x7 then (if x5.length < 8796093022208 then (armadaref05_Split.l0 k x0 x1 (x5 ++ [x0.extract (x6 : Int).toNat (x7 : Int).toNat]) (wrap64 (x7 + 1)) (wrap64 (x7 + 1))) else (none)) else (none)) else (none)) else (if 0 ≤ x7 then (if x7 < (x0.size : Int) then (if (bt x0 x7) = x1 then (if 0 ≤ x6 then (if x6 ≤ x7 then (if x5.length < 8796093022208 then (armadaref05_Split.l0 k x0 x1 (x5 ++ [x0.extract (x6 : Int).toNat (x7 : Int).toNat]) (wrap64 (x7 + 1)) (wrap64 (x7 + 1))) else (none)) else (none)) else (none)) else (armadaref05_Split.l0 k x0 x1 x5 x6 (wrap64 (x7 + 1)))) else (none)) else (none))) else (some x5)
def armadaref05_Split.f (k : Nat) (a0 : ByteArray) (a1 : Int) : Option (List ByteArray) := armadaref05_Split.l0 k a0 a1 ([] : List ByteArray) 0 0
theorem armadaref05_Split.mono_l : ∀ k, (∀ y0 y1 y2 y3 y4, LeO (armadaref05_Split.l0 k y0 y1 y2 y3 y4) (armadaref05_Split.l0 (k + 1) y0 y1 y2 y3 y4))
 | 0 => fun _ _ _ _ _ r h => by simp [armadaref05_Split.l0] at h
 | k + 1 => by
  have ih0 := armadaref05_Split.mono_l k
  ·
   intro y0 y1 y2 y3 y4
   unfold armadaref05_Split.l0
   exact xM
theorem armadaref05_Split.mono : ∀ a0 a1 k, LeO (armadaref05_Split.f k a0 a1) (armadaref05_Split.f (k + 1) a0 a1) := by
 intro a0 a1 k
 have ih0 := armadaref05_Split.mono_l k
 unfold armadaref05_Split.f
 exact xM
set_option maxHeartbeats 8000000 in
set_option maxRecDepth 100000 in
theorem armadaref05_Split.calls (k : Nat) (a0 : ByteArray) (a1 : Int) (r : List ByteArray) (w : World) (h : armadaref05_Split.f k a0 a1 = some r) :
  Calls Tryz.prog 71 #[.string a0, .int .u8 a1] w fun e w' => ∃ v0_ : Value, e = .returned (v0_) ∧ Kd.R Kd.string 9 w' w.heap.size (fun _ => True) v0_ r ∧ Below w.heap.size w w' := by
 have HB := Aside0.mk (Below.refl w.heap.size w)
 have H : (armadaref05_Split.l0 k a0 a1 ([] : List ByteArray) 0 0) = some r := h
 clear h
 have H' := Aside0.mk H
 clear H
 go_enter Tryz.func71, Tryz.ntmps71
 go_wp2
 go_loopg [5, 6, 7] k (fun kq v5 v6 v7 w' => ∃ (x5_1 : List ByteArray) (x6_1 : Int) (x7_1 : Int), v6 = .int .i64 x6_1 ∧ v7 = .int .i64 x7_1 ∧ Aside0 (armadaref05_Split.l0 kq a0 a1 x5_1 x6_1 x7_1 = some r) ∧ Aside0 (kq ≤ k) ∧ Aside0 (Kd.R Kd.string 9 w' w.heap.size (fun _ => True) v5 x5_1) ∧ Aside0 (Below w.heap.size w w'))
 case atStart => exact ⟨(([] : List ByteArray)), (0), (0), xR, xR, H', ⟨Nat.le_refl _⟩, ⟨by first | exact Kd.R_nil _ _ _ _ _ | exact Kd.N_nil _ _ _ _ _ | exact Kd.V_nil _ _ _ _ _ | exact Kd.Q_nil _ _ _ _ _ | exact Kd.S_nil _ _ _ _ _⟩, ⟨xB⟩⟩
 case round =>
  clear H'
  try clear p2
  obtain ⟨x5_1, x6_1, x7_1, rfl, rfl, HA, HK1, HO_5, HB⟩ := hrel
  cases gk with
  | zero => exact absurd HA.out (by simp [armadaref05_Split.l0])
  | succ k1 =>
   have H := HA.out
   clear HA
   simp only [armadaref05_Split.l0] at H
   by_cases c3 : x7_1 ≤ (a0.size : Int)
   ·
    rw [if_pos c3] at H
    have c3b0 := decide_eq_true c3
    clear c3
    by_cases c4 : x7_1 = (a0.size : Int)
    ·
     rw [if_pos c4] at H
     have c4b0 := beq_iff_eq.mpr c4
     have c4b1 := bne_eq_false_iff_eq.mpr c4
     clear c4
     replace H := xI H
     obtain ⟨c5, H⟩ := H
     have c5b0 := eq_true c5
     have c5b1 := decide_eq_true c5
     clear c5
     replace H := xI H
     obtain ⟨c6, H⟩ := H
     have c6b0 := eq_true c6
     have c6b1 := decide_eq_true c6
     clear c6
     have c7b0 := eq_true (xD : x7_1 ≤ (a0.size : Int))
     replace H := xI H
     obtain ⟨c8, H⟩ := H
     have LMc8 := Aside0.mk c8
     clear c8
     obtain ⟨y101, hy101⟩ : ∃ y_ : List ByteArray, y_ = (x5_1 ++ [a0.extract (x6_1 : Int).toNat (x7_1 : Int).toNat]) := ⟨_, rfl⟩
     replace H : (armadaref05_Split.l0 k1 a0 a1 y101 (wrap64 (x7_1 + 1)) (wrap64 (x7_1 + 1))) = some r := by first | (rw [hy101]; with_reducible exact H) | (have H2_ := (Option.bind_some _ _).symm.trans H; rw [hy101]; with_reducible exact H2_) | (have H2_ := (Option.bind_some _ _).symm.trans H; with_reducible exact H2_) | with_reducible exact H | (rw [hy101]; exact H) | exact H
     have Ny101 := Aside0.mk hy101
     clear hy101
     have H' := Aside0.mk H
     clear H
     go_wp2_with (first | ((with_reducible refine gate_builtin (b := .append) (xs := #[.tmp 25, .tmp 30]) rfl ?_); at_builtin; refine Kd.R_append Kd.string (w0 := w) w.heap.size rfl (.tmp 25) (.tmp 30) 88 9 (.string ⟨#[]⟩) 16 rfl Tryz.underlying88 info9 rfl (by decide) (by omega) u5 x5_1 (a0.extract (x6_1 : Int).toNat (x7_1 : Int).toNat) [.string (a0.extract (x6_1 : Int).toNat (x7_1 : Int).toNat)] (fun _ => True) (fun _ => False) rfl rfl ?aP (fun _ hk => hk.elim) ?aF ?aO ?aB ?aS ?aL ?_; (case aP => exact rfl); (case aB => exact xB); (case aF => exact (fun _ _ => trivial)); (case aO => exact (by (with_reducible repeat (first | apply Kd.R_alloc | apply Kd.R_drewN | apply Kd.R_drew)); exact HO_5.out)); (case aS => exact (below_size xB)); (case aL => have := LMc8.out; omega); intro v102 w9 ho hb hg hat; rw [← Ny101.out] at ho; have HO103 := Aside0.mk (ho); replace HB := Aside0.mk (hb); clear HO_5; clear ho hb hg hat))
     go_roundg k1
     case measure => have := HK1.out; omega
     case rel => exact ⟨(y101), (wrap64 (x7_1 + 1)), (wrap64 (x7_1 + 1)), xR, xR, H', ⟨by have := HK1.out; omega⟩, ⟨by (with_reducible repeat (first | apply Kd.R_alloc | apply Kd.R_drewN | apply Kd.R_drew)); exact HO103.out⟩, ⟨xB⟩⟩
    rw [if_neg c4] at H
    have c4b0 := beq_eq_false_iff_ne.mpr c4
    have c4b1 := bne_iff_ne.mpr c4
    replace H := xI H
    obtain ⟨c10, H⟩ := H
    have c10b0 := decide_eq_true c10
    clear c10
    replace H := xI H
    obtain ⟨c11, H⟩ := H
    have c11b0 := decide_eq_true c11
    clear c11
    by_cases c13 : (bt a0 x7_1) = a1
    ·
     rw [if_pos c13] at H
     have c13b0 := beq_iff_eq.mpr c13
     have c13b1 := bne_eq_false_iff_eq.mpr c13
     clear c13
     replace H := xI H
     obtain ⟨c14, H⟩ := H
     have c14b0 := eq_true c14
     have c14b1 := decide_eq_true c14
     clear c14
     replace H := xI H
     obtain ⟨c15, H⟩ := H
     have c15b0 := eq_true c15
     have c15b1 := decide_eq_true c15
     clear c15
     have c16b0 := eq_true (xD : x7_1 ≤ (a0.size : Int))
     replace H := xI H
     obtain ⟨c17, H⟩ := H
     have LMc17 := Aside0.mk c17
     clear c17
     obtain ⟨y104, hy104⟩ : ∃ y_ : List ByteArray, y_ = (x5_1 ++ [a0.extract (x6_1 : Int).toNat (x7_1 : Int).toNat]) := ⟨_, rfl⟩
     replace H : (armadaref05_Split.l0 k1 a0 a1 y104 (wrap64 (x7_1 + 1)) (wrap64 (x7_1 + 1))) = some r := by first | (rw [hy104]; with_reducible exact H) | (have H2_ := (Option.bind_some _ _).symm.trans H; rw [hy104]; with_reducible exact H2_) | (have H2_ := (Option.bind_some _ _).symm.trans H; with_reducible exact H2_) | with_reducible exact H | (rw [hy104]; exact H) | exact H
     have Ny104 := Aside0.mk hy104
     clear hy104
     have H' := Aside0.mk H
     clear H
     have p12 : 0 ≤ (x7_1 : Int) := xD
     have q12 : x7_1 < (a0.size : Int) := xD
     have hx12 := bt_at a0 x7_1
     replace p12 := eq_true p12
     replace q12 := eq_true q12
     go_wp2_with (first | ((with_reducible refine gate_builtin (b := .append) (xs := #[.tmp 25, .tmp 30]) rfl ?_); at_builtin; refine Kd.R_append Kd.string (w0 := w) w.heap.size rfl (.tmp 25) (.tmp 30) 88 9 (.string ⟨#[]⟩) 16 rfl Tryz.underlying88 info9 rfl (by decide) (by omega) u5 x5_1 (a0.extract (x6_1 : Int).toNat (x7_1 : Int).toNat) [.string (a0.extract (x6_1 : Int).toNat (x7_1 : Int).toNat)] (fun _ => True) (fun _ => False) rfl rfl ?aP (fun _ hk => hk.elim) ?aF ?aO ?aB ?aS ?aL ?_; (case aP => exact rfl); (case aB => exact xB); (case aF => exact (fun _ _ => trivial)); (case aO => exact (by (with_reducible repeat (first | apply Kd.R_alloc | apply Kd.R_drewN | apply Kd.R_drew)); exact HO_5.out)); (case aS => exact (below_size xB)); (case aL => have := LMc17.out; omega); intro v105 w18 ho hb hg hat; rw [← Ny104.out] at ho; have HO106 := Aside0.mk (ho); replace HB := Aside0.mk (hb); clear HO_5; clear ho hb hg hat))
     go_roundg k1
     case measure => have := HK1.out; omega
     case rel => exact ⟨(y104), (wrap64 (x7_1 + 1)), (wrap64 (x7_1 + 1)), xR, xR, H', ⟨by have := HK1.out; omega⟩, ⟨by (with_reducible repeat (first | apply Kd.R_alloc | apply Kd.R_drewN | apply Kd.R_drew)); exact HO106.out⟩, ⟨xB⟩⟩
    rw [if_neg c13] at H
    have c13b0 := beq_eq_false_iff_ne.mpr c13
    have c13b1 := bne_iff_ne.mpr c13
    have H' := Aside0.mk H
    clear H
    have p12 : 0 ≤ (x7_1 : Int) := xD
    have q12 : x7_1 < (a0.size : Int) := xD
    have hx12 := bt_at a0 x7_1
    replace p12 := eq_true p12
    replace q12 := eq_true q12
    go_wp2
    go_roundg k1
    case measure => have := HK1.out; omega
    case rel => exact ⟨(x5_1), (x6_1), (wrap64 (x7_1 + 1)), xR, xR, H', ⟨by have := HK1.out; omega⟩, ⟨by (with_reducible repeat (first | apply Kd.R_alloc | apply Kd.R_drewN | apply Kd.R_drew)); exact HO_5.out⟩, ⟨xB⟩⟩
   rw [if_neg c3] at H
   have c3b0 := decide_eq_false c3
   clear c3
   obtain rfl := Option.some.inj H
   go_wp2
   go_ret
   exact ⟨_, by first | rfl | (simp [errW_none, errW_some] <;> rfl) | (simp [*, errW_none, errW_some] <;> rfl) | (simp [isEmpty_bne]; done), by (with_reducible repeat (first | apply Kd.R_alloc | apply Kd.R_drewN | apply Kd.R_drew)); exact HO_5.out, xB⟩
def armadaref07_digits.l0 : Nat → ByteArray → Int → Option (Bool)
 | 0, _, _ => none
 | k + 1, x0, x3 => if x3 < (x0.size : Int) then (if 0 ≤ x3 then (if (bt x0 x3) < 48 then (some false) else (if (bt x0 x3) > 57 then (some false) else (armadaref07_digits.l0 k x0 (wrap64 (x3 + 1))))) else (none)) else (some (x0.toList != ([] : List UInt8)))
def armadaref07_digits.f (k : Nat) (a0 : ByteArray) : Option (Bool) := armadaref07_digits.l0 k a0 0
theorem armadaref07_digits.mono_l : ∀ k, (∀ y0 y1, LeO (armadaref07_digits.l0 k y0 y1) (armadaref07_digits.l0 (k + 1) y0 y1))
 | 0 => fun _ _ r h => by simp [armadaref07_digits.l0] at h
 | k + 1 => by
  have ih0 := armadaref07_digits.mono_l k
  ·
   intro y0 y1
   unfold armadaref07_digits.l0
   exact xM
theorem armadaref07_digits.mono : ∀ a0 k, LeO (armadaref07_digits.f k a0) (armadaref07_digits.f (k + 1) a0) := by
 intro a0 k
 have ih0 := armadaref07_digits.mono_l k
 unfold armadaref07_digits.f
 exact xM
set_option maxHeartbeats 8000000 in
set_option maxRecDepth 100000 in
theorem armadaref07_digits.calls (k : Nat) (a0 : ByteArray) (r : Bool) (w : World) (h : armadaref07_digits.f k a0 = some r) :
  Calls Tryz.prog 98 #[.string a0] w fun e w' => e = .returned (.bool r) ∧ Drawn0 w w' := by
 have H : (armadaref07_digits.l0 k a0 0) = some r := h
 clear h
 have H' := Aside0.mk H
 clear H
 go_enter Tryz.func98, Tryz.ntmps98
 go_wp2
 go_loopg [3] k (fun kq v3 w' => ∃ (x3_1 : Int), v3 = .int .i64 x3_1 ∧ Aside0 (armadaref07_digits.l0 kq a0 x3_1 = some r) ∧ Aside0 (kq ≤ k) ∧ Drawn0 w w')
 case atStart => exact ⟨(0), xR, H', ⟨Nat.le_refl _⟩, by repeat (first | exact Drawn0.refl _ | apply Drawn0.step)⟩
 case round =>
  clear H'
  obtain ⟨x3_1, rfl, HA, HK1, ⟨m1, rfl⟩⟩ := hrel
  cases gk with
  | zero => exact absurd HA.out (by simp [armadaref07_digits.l0])
  | succ k1 =>
   have H := HA.out
   clear HA
   simp only [armadaref07_digits.l0] at H
   by_cases c2 : x3_1 < (a0.size : Int)
   ·
    rw [if_pos c2] at H
    have c2b0 := decide_eq_true c2
    clear c2
    replace H := xI H
    obtain ⟨c3, H⟩ := H
    have c3b0 := decide_eq_true c3
    clear c3
    by_cases c5 : (bt a0 x3_1) < 48
    ·
     rw [if_pos c5] at H
     have c5b0 := decide_eq_true c5
     clear c5
     obtain rfl := Option.some.inj H
     have p4 : 0 ≤ (x3_1 : Int) := xD
     have q4 : x3_1 < (a0.size : Int) := xD
     have hx4 := bt_at a0 x3_1
     replace p4 := eq_true p4
     replace q4 := eq_true q4
     go_wp2
     go_ret
     exact ⟨xR, by repeat (first | exact Drawn0.refl _ | apply Drawn0.step)⟩
    rw [if_neg c5] at H
    have c5b0 := decide_eq_false c5
    clear c5
    by_cases c7 : (bt a0 x3_1) > 57
    ·
     rw [if_pos c7] at H
     have c7b0 := decide_eq_true c7
     clear c7
     obtain rfl := Option.some.inj H
     have p4 : 0 ≤ (x3_1 : Int) := xD
     have q4 : x3_1 < (a0.size : Int) := xD
     have hx4 := bt_at a0 x3_1
     replace p4 := eq_true p4
     replace q4 := eq_true q4
     have p6 : 0 ≤ (x3_1 : Int) := xD
     have q6 : x3_1 < (a0.size : Int) := xD
     have hx6 := bt_at a0 x3_1
     replace p6 := eq_true p6
     replace q6 := eq_true q6
     go_wp2
     go_ret
     exact ⟨xR, by repeat (first | exact Drawn0.refl _ | apply Drawn0.step)⟩
    rw [if_neg c7] at H
    have c7b0 := decide_eq_false c7
    clear c7
    have H' := Aside0.mk H
    clear H
    have p4 : 0 ≤ (x3_1 : Int) := xD
    have q4 : x3_1 < (a0.size : Int) := xD
    have hx4 := bt_at a0 x3_1
    replace p4 := eq_true p4
    replace q4 := eq_true q4
    have p6 : 0 ≤ (x3_1 : Int) := xD
    have q6 : x3_1 < (a0.size : Int) := xD
    have hx6 := bt_at a0 x3_1
    replace p6 := eq_true p6
    replace q6 := eq_true q6
    go_wp2
    go_roundg k1
    case measure => have := HK1.out; omega
    case rel => exact ⟨(wrap64 (x3_1 + 1)), xR, H', ⟨by have := HK1.out; omega⟩, by repeat (first | exact Drawn0.refl _ | apply Drawn0.step)⟩
   rw [if_neg c2] at H
   have c2b0 := decide_eq_false c2
   clear c2
   obtain rfl := Option.some.inj H
   go_wp2
   go_ret
   exact ⟨xR, by repeat (first | exact Drawn0.refl _ | apply Drawn0.step)⟩
end Go.Proofs.YtkidfclnakbgiaaGreatDoor.RD
end
