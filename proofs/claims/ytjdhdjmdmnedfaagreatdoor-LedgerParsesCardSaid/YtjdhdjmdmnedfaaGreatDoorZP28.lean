/- The texts RDx7 in one file, without what these claims do not use (put together by prune2.py). -/
import Derived.Test.YtjdhdjmdmnedfaaGreatDoorZP22
import Derived.Test.YtjdhdjmdmnedfaaGreatDoorZP27
section
namespace Go.Proofs.YtjdhdjmdmnedfaaGreatDoor.RD
open Go.RowKit Go.Proofs.YtjdhdjmdmnedfaaGreatDoor Go.Proofs.YtjdhdjmdmnedfaaGreatDoor.K0 Go.Proofs.YtjdhdjmdmnedfaaGreatDoorW.PrintWords Go.Proofs.YtjdhdjmdmnedfaaGreatDoorW.PrintLast Go.Proofs.YtjdhdjmdmnedfaaGreatDoorW.PrintMore
attribute [local go_sem] max2_int min2_int max_two min_two max_three min_three max_four min_four
set_option linter.unusedVariables false
set_option linter.unusedSimpArgs false
mutual
def armadaref13_Encode.l0 : Nat → ByteArray → List Int → Int → Option (ByteArray)
 | 0, _, _, _ => none
 | k + 1, x0, x3, x4 => if x4 < (x0.size : Int) then (armadaref13_Encode.l1 k x0 x3 x4 7) else (armadaref13_Encode.l2 k x3)
def armadaref13_Encode.l1 : Nat → ByteArray → List Int → Int → Int → Option (ByteArray)
 | 0, _, _, _, _ => none
 | k + 1, x0, x3, x4, x5 => if x5 ≥ 0 then (if 0 ≤ x4 then (if x4 < (x0.size : Int) then (if 0 ≤ x5 then (if x3.length < 17592186044416 then (armadaref13_Encode.l1 k x0 (x3 ++ [Go.bits .and .i64 (shr .i64 (wrap64 (bt x0 x4)) x5) 1]) x4 (wrap64 (x5 - 1))) else (none)) else (none)) else (none)) else (none)) else (armadaref13_Encode.l0 k x0 x3 (wrap64 (x4 + 1)))
def armadaref13_Encode.l2 : Nat → List Int → Option (ByteArray)
 | 0, _ => none
 | k + 1, x3 => if ((x3.length : Int) % 6) = 0 then (armadaref13_Encode.l3 k x3 ([] : List Int) 0) else (if x3.length < 17592186044416 then (armadaref13_Encode.l2 k (x3 ++ [0])) else (none))
def armadaref13_Encode.l3 : Nat → List Int → List Int → Int → Option (ByteArray)
 | 0, _, _, _ => none
 | k + 1, x3, x6, x7 => if x7 < (x3.length : Int) then (armadaref13_Encode.l4 k x3 x6 x7 0 0) else (armadaref13_Encode.l5 k x6)
def armadaref13_Encode.l4 : Nat → List Int → List Int → Int → Int → Int → Option (ByteArray)
 | 0, _, _, _, _, _ => none
 | k + 1, x3, x6, x7, x8, x9 => if x9 < 6 then (if 0 ≤ (wrap64 (x7 + x9)) then (if (wrap64 (x7 + x9)) < (x3.length : Int) then (armadaref13_Encode.l4 k x3 x6 x7 (wrap64 ((wrap64 (2 * x8)) + (rd x3 (wrap64 (x7 + x9))))) (wrap64 (x9 + 1))) else (none)) else (none)) else (if 0 ≤ x8 then (if x8 < 64 then (if x6.length < 140737488355328 then (armadaref13_Encode.l3 k x3 (x6 ++ [bt (⟨#[65, 66, 67, 68, 69, 70, 71, 72, 73, 74, 75, 76, 77, 78, 79, 80, 81, 82, 83, 84, 85, 86, 87, 88, 89, 90, 97, 98, 99, 100, 101, 102, 103, 104, 105, 106, 107, 108, 109, 110, 111, 112, 113, 114, 115, 116, 117, 118, 119, 120, 121, 122, 48, 49, 50, 51, 52, 53, 54, 55, 56, 57, 43, 47]⟩ : ByteArray) x8]) (wrap64 (x7 + 6))) else (none)) else (none)) else (none))
def armadaref13_Encode.l5 : Nat → List Int → Option (ByteArray)
 | 0, _ => none
 | k + 1, x6 => if ((x6.length : Int) % 4) = 0 then (some (strOfNums x6)) else (if x6.length < 140737488355328 then (armadaref13_Encode.l5 k (x6 ++ [61])) else (none))
end
def armadaref13_Encode.f (k : Nat) (a0 : ByteArray) : Option (ByteArray) := armadaref13_Encode.l0 k a0 ([] : List Int) 0
set_option maxHeartbeats 8000000 in
set_option maxRecDepth 100000 in
theorem armadaref13_Encode.calls (k : Nat) (a0 : ByteArray) (r : ByteArray) (w : World) (h : armadaref13_Encode.f k a0 = some r) :
  Calls Tryz.prog 103 #[.string a0] w fun e w' => e = .returned (.string r) ∧ Below w.heap.size w w' := by
 have HB := Aside0.mk (Below.refl w.heap.size w); have H : (armadaref13_Encode.l0 k a0 ([] : List Int) 0) = some r := h; clear h; have H' := Aside0.mk H; clear H; go_enter Tryz.func103, Tryz.ntmps103; go_wp2
 go_loopg [3, 4] k (fun kq v3 v4 w' => ∃ (x3_1 : List Int) (x4_1 : Int), v4 = .int .i64 x4_1 ∧ Aside0 (armadaref13_Encode.l0 kq a0 x3_1 x4_1 = some r) ∧ Aside0 (kq ≤ k) ∧ Aside0 (Kd.R (Kd.int .i64) 3 w' w.heap.size (fun _ => True) v3 x3_1) ∧ Aside0 (Below w.heap.size w w'))
 case atStart => exact ⟨(([] : List Int)), (0), xR, H', ⟨Nat.le_refl _⟩, ⟨by first | exact Kd.R_nil _ _ _ _ _ | exact Kd.N_nil _ _ _ _ _ | exact Kd.V_nil _ _ _ _ _ | exact Kd.Q_nil _ _ _ _ _ | exact Kd.S_nil _ _ _ _ _⟩, ⟨xB⟩⟩
 case round =>
  clear H'
  try clear c1
  obtain ⟨x3_1, x4_1, rfl, HA, HK1, HO_3, HB⟩ := hrel
  cases gk with
  | zero => exact absurd HA.out (by simp [armadaref13_Encode.l0])
  | succ k1 =>
   have H := HA.out; clear HA; simp only [armadaref13_Encode.l0] at H; replace H := xJ H; rcases H with ⟨c2, H⟩ | ⟨c2, H⟩
   ·
    have c2b0 := decide_eq_true c2; clear c2; have H' := Aside0.mk H; clear H; go_wp2
    go_loopg [3, 5] k1 (fun kq v3 v5 w' => ∃ (x3_2 : List Int) (x5_2 : Int), v5 = .int .i64 x5_2 ∧ Aside0 (armadaref13_Encode.l1 kq a0 x3_2 x4_1 x5_2 = some r) ∧ Aside0 (kq ≤ k1) ∧ Aside0 (Kd.R (Kd.int .i64) 3 w' w.heap.size (fun _ => True) v3 x3_2) ∧ Aside0 (Below w.heap.size w w'))
    case atStart => exact ⟨(x3_1), (7), xR, H', ⟨Nat.le_refl _⟩, ⟨xQ HO_3⟩, ⟨xB⟩⟩
    case round =>
     clear H'
     try clear c1
     try clear c2
     try clear c2b0
     try clear p2
     obtain ⟨x3_2, x5_2, rfl, HA, HK2, HO_3, HB⟩ := hrel
     cases gk with
     | zero => exact absurd HA.out (by simp [armadaref13_Encode.l1])
     | succ k2 =>
      have H := HA.out; clear HA; simp only [armadaref13_Encode.l1] at H; replace H := xJ H; rcases H with ⟨c3, H⟩ | ⟨c3, H⟩
      ·
       have c3b0 := decide_eq_true c3; clear c3; replace H := xI H; obtain ⟨c4, H⟩ := H; have c4b0 := decide_eq_true c4; clear c4; replace H := xI H; obtain ⟨c5, H⟩ := H; have c5b0 := decide_eq_true c5; clear c5; replace H := xI H; obtain ⟨c7, H⟩ := H; have c7b0 := eq_true c7; have c7b1 := decide_eq_true c7; clear c7; obtain ⟨ji8, hji8⟩ : ∃ j_ : Int, (shr .i64 (wrap64 (bt a0 x4_1)) x5_2) = j_ := ⟨_, rfl⟩
       replace H : (if x3_2.length < 17592186044416 then (armadaref13_Encode.l1 k2 a0 (x3_2 ++ [Go.bits .and .i64 (ji8) 1]) x4_1 (wrap64 (x5_2 - 1))) else (none)) = some r := by first | (rw [hji8] at H; exact H) | (simp only [hji8] at H ⊢; exact H)
       have hji8_ : ((wrap64 (bt a0 x4_1)) / 2 ^ min x5_2.toNat 64) = ji8 := hji8; have hji8z : x5_2 ≤ 64 → ((wrap64 (bt a0 x4_1)) / 2 ^ x5_2.toNat) = ji8 := shr_small hji8; replace H := xI H; obtain ⟨c9, H⟩ := H; have LMc9 := Aside0.mk c9; clear c9; obtain ⟨y150, hy150⟩ : ∃ y_ : List Int, y_ = (x3_2 ++ [Go.bits .and .i64 (ji8) 1]) := ⟨_, rfl⟩
       replace H : (armadaref13_Encode.l1 k2 a0 y150 x4_1 (wrap64 (x5_2 - 1))) = some r := by first | (rw [hy150]; with_reducible exact H) | (have H2_ := (Option.bind_some _ _).symm.trans H; rw [hy150]; with_reducible exact H2_) | (have H2_ := (Option.bind_some _ _).symm.trans H; with_reducible exact H2_) | with_reducible exact H | (rw [hy150]; exact H) | exact H
       have Ny150 := Aside0.mk hy150; clear hy150; have H' := Aside0.mk H; clear H; obtain ⟨p6, q6, hx6⟩ := xV a0 x4_1; go_wp2_with (first | ((with_reducible refine gate_builtin (b := .append) (xs := #[.tmp 20, .tmp 28]) rfl ?_); at_builtin; refine Kd.R_append (Kd.int .i64) (w0 := w) w.heap.size rfl (.tmp 20) (.tmp 28) 97 3 (.int .i64 0) 8 rfl Tryz.underlying97 info3 rfl (by decide) (by omega) u3 x3_2 (Go.bits .and .i64 (ji8) 1) [.int .i64 (Go.bits .and .i64 (ji8) 1)] (fun _ => True) (fun _ => False) rfl rfl ?aP (fun _ hk => hk.elim) ?aF ?aO ?aB ?aS ?aL ?_; (case aP => exact rfl); (case aB => exact xB); (case aF => exact (fun _ _ => trivial)); (case aO => exact (by (with_reducible repeat (first | apply Kd.R_alloc | apply Kd.R_drewN | apply Kd.R_drew)); exact HO_3.out)); (case aS => exact (below_size xB)); (case aL => have := LMc9.out; omega); intro v151 w10 ho hb hg hat; rw [← Ny150.out] at ho; have HO152 := Aside0.mk (ho); replace HB := Aside0.mk (hb); clear HO_3; clear ho hb hg hat)); go_roundg k2
       case measure => exact xO2
       case rel => exact ⟨(y150), (wrap64 (x5_2 - 1)), xR, H', ⟨xO2⟩, ⟨xQ HO152⟩, ⟨xB⟩⟩
      have c3b0 := decide_eq_false c3; clear c3; have H' := Aside0.mk H; clear H; go_wp2; go_roundg k2
      case measure => exact xO2
      case rel => exact ⟨(x3_2), (wrap64 (x4_1 + 1)), xR, H', ⟨xO2⟩, ⟨xQ HO_3⟩, ⟨xB⟩⟩
   have c2b0 := decide_eq_false c2; clear c2; have H' := Aside0.mk H; clear H; go_wp2
   go_loopg [3] k1 (fun kq v3 w' => ∃ (x3_2 : List Int), Aside0 (armadaref13_Encode.l2 kq x3_2 = some r) ∧ Aside0 (kq ≤ k1) ∧ Aside0 (Kd.R (Kd.int .i64) 3 w' w.heap.size (fun _ => True) v3 x3_2) ∧ Aside0 (Below w.heap.size w w'))
   case atStart => exact ⟨(x3_1), H', ⟨Nat.le_refl _⟩, ⟨xQ HO_3⟩, ⟨xB⟩⟩
   case round =>
    clear H'
    try clear c1
    try clear c2
    try clear c2b0
    try clear p2
    try clear c3
    try clear c3b0
    try clear c4
    try clear c4b0
    try clear c5
    try clear c5b0
    try clear p6
    try clear q6
    try clear hx6
    try clear c7
    try clear c7b0
    try clear c7b1
    try clear c9
    try clear c10
    try clear p2
    try clear p6
    try clear q6
    obtain ⟨x3_2, HA, HK2, HO_3, HB⟩ := hrel
    cases gk with
    | zero => exact absurd HA.out (by simp [armadaref13_Encode.l2])
    | succ k2 =>
     have H := HA.out; clear HA; simp only [armadaref13_Encode.l2] at H; replace H := xJ H; rcases H with ⟨c11, H⟩ | ⟨c11, H⟩
     ·
      have c11b0 := beq_iff_eq.mpr c11; have c11b1 := bne_eq_false_iff_eq.mpr c11; clear c11; have H' := Aside0.mk H; clear H; obtain ⟨Ao12, co12, eo12⟩ := Kd.R_slice HO_3.out; subst eo12; go_wp2
      go_loopg [6, 7] k2 (fun kq v6 v7 w' => ∃ (x6_3 : List Int) (x7_3 : Int), v7 = .int .i64 x7_3 ∧ Aside0 (armadaref13_Encode.l3 kq x3_2 x6_3 x7_3 = some r) ∧ Aside0 (kq ≤ k2) ∧ Aside0 (Kd.R (Kd.int .i64) 3 w' w.heap.size (fun _ => True) (.slice Ao12 x3_2.length co12) x3_2) ∧ Aside0 (Kd.R (Kd.int .u8) 5 w' w.heap.size (fun _ => True) v6 x6_3) ∧ Aside0 (Below w.heap.size w w'))
      case atStart => exact ⟨(([] : List Int)), (0), xR, H', ⟨Nat.le_refl _⟩, ⟨xQ HO_3⟩, ⟨by first | exact Kd.R_nil _ _ _ _ _ | exact Kd.N_nil _ _ _ _ _ | exact Kd.V_nil _ _ _ _ _ | exact Kd.Q_nil _ _ _ _ _ | exact Kd.S_nil _ _ _ _ _⟩, ⟨xB⟩⟩
      case round =>
       clear H'
       try clear c1
       try clear c2
       try clear c2b0
       try clear p2
       try clear c3
       try clear c3b0
       try clear c4
       try clear c4b0
       try clear c5
       try clear c5b0
       try clear p6
       try clear q6
       try clear hx6
       try clear c7
       try clear c7b0
       try clear c7b1
       try clear c9
       try clear c10
       try clear c11
       try clear c11b0
       try clear c11b1
       try clear p2
       try clear p6
       try clear q6
       obtain ⟨x6_3, x7_3, rfl, HA, HK3, HO_3, HO_6, HB⟩ := hrel
       cases gk with
       | zero => exact absurd HA.out (by simp [armadaref13_Encode.l3])
       | succ k3 =>
        have H := HA.out; clear HA; simp only [armadaref13_Encode.l3] at H; replace H := xJ H; rcases H with ⟨c13, H⟩ | ⟨c13, H⟩
        ·
         have c13b0 := decide_eq_true c13; clear c13; have H' := Aside0.mk H; clear H; go_wp2
         go_loopg [8, 9] k3 (fun kq v8 v9 w' => ∃ (x8_4 : Int) (x9_4 : Int), v8 = .int .i64 x8_4 ∧ v9 = .int .i64 x9_4 ∧ Aside0 (armadaref13_Encode.l4 kq x3_2 x6_3 x7_3 x8_4 x9_4 = some r) ∧ Aside0 (kq ≤ k3) ∧ Aside0 (Kd.R (Kd.int .i64) 3 w' w.heap.size (fun _ => True) (.slice Ao12 x3_2.length co12) x3_2) ∧ Aside0 (Kd.R (Kd.int .u8) 5 w' w.heap.size (fun _ => True) u6 x6_3) ∧ Aside0 (Below w.heap.size w w'))
         case atStart => exact ⟨(0), (0), xR, xR, H', ⟨Nat.le_refl _⟩, ⟨xQ HO_3⟩, ⟨xQ HO_6⟩, ⟨xB⟩⟩
         case round =>
          clear H'
          try clear c1
          try clear c2
          try clear c2b0
          try clear p2
          try clear c3
          try clear c3b0
          try clear c4
          try clear c4b0
          try clear c5
          try clear c5b0
          try clear p6
          try clear q6
          try clear hx6
          try clear c7
          try clear c7b0
          try clear c7b1
          try clear c9
          try clear c10
          try clear c11
          try clear c11b0
          try clear c11b1
          try clear c13
          try clear c13b0
          try clear p2
          try clear p6
          try clear q6
          obtain ⟨x8_4, x9_4, rfl, rfl, HA, HK4, HO_3, HO_6, HB⟩ := hrel
          cases gk with
          | zero => exact absurd HA.out (by simp [armadaref13_Encode.l4])
          | succ k4 =>
           have H := HA.out; clear HA; simp only [armadaref13_Encode.l4] at H; replace H := xJ H; rcases H with ⟨c14, H⟩ | ⟨c14, H⟩
           ·
            have c14b0 := decide_eq_true c14; clear c14; obtain ⟨ji15, hji15⟩ : ∃ j_ : Int, (wrap64 (x7_3 + x9_4)) = j_ := ⟨_, rfl⟩
            replace H : (if 0 ≤ (ji15) then (if (ji15) < (x3_2.length : Int) then (armadaref13_Encode.l4 k4 x3_2 x6_3 x7_3 (wrap64 ((wrap64 (2 * x8_4)) + (rd x3_2 (ji15)))) (wrap64 (x9_4 + 1))) else (none)) else (none)) = some r := by first | (rw [hji15] at H; exact H) | (simp only [hji15] at H ⊢; exact H)
            have hji15w : (IntKind.i64.wrap (x7_3 + x9_4)) = ji15 := (i64_w _).trans hji15; replace H := xI H; obtain ⟨c16, H⟩ := H; have c16b0 := decide_eq_true c16; clear c16; replace H := xI H; obtain ⟨c17, H⟩ := H; have c17b0 := decide_eq_true c17; clear c17; have H' := Aside0.mk H; clear H; obtain ⟨p156, q156, ad156, e156, hx156_0⟩ := xT (Kd.at_int (Kd.R_reads' HO_3.out).2.2 (ji15))
            cases e156
            go_wp2; go_roundg k4
            case measure => exact xO4
            case rel => exact ⟨(wrap64 ((wrap64 (2 * x8_4)) + (rd x3_2 (ji15)))), (wrap64 (x9_4 + 1)), (by first | rfl | (simp; done) | (simp only [← hji15] <;> (first | rfl | simp)) | (simp [*]; done)), xR, H', ⟨xO4⟩, ⟨xQ HO_3⟩, ⟨xQ HO_6⟩, ⟨xB⟩⟩
           have c14b0 := decide_eq_false c14; clear c14; replace H := xI H; obtain ⟨c18, H⟩ := H; have c18b0 := decide_eq_true c18; clear c18; replace H := xI H; obtain ⟨c19, H⟩ := H; have c19b0 := decide_eq_true c19; clear c19; replace H := xI H; obtain ⟨c21, H⟩ := H; have LMc21 := Aside0.mk c21; clear c21; obtain ⟨y157, hy157⟩ : ∃ y_ : List Int, y_ = (x6_3 ++ [bt (⟨#[65, 66, 67, 68, 69, 70, 71, 72, 73, 74, 75, 76, 77, 78, 79, 80, 81, 82, 83, 84, 85, 86, 87, 88, 89, 90, 97, 98, 99, 100, 101, 102, 103, 104, 105, 106, 107, 108, 109, 110, 111, 112, 113, 114, 115, 116, 117, 118, 119, 120, 121, 122, 48, 49, 50, 51, 52, 53, 54, 55, 56, 57, 43, 47]⟩ : ByteArray) x8_4]) := ⟨_, rfl⟩
           replace H : (armadaref13_Encode.l3 k4 x3_2 y157 (wrap64 (x7_3 + 6))) = some r := by first | (rw [hy157]; with_reducible exact H) | (have H2_ := (Option.bind_some _ _).symm.trans H; rw [hy157]; with_reducible exact H2_) | (have H2_ := (Option.bind_some _ _).symm.trans H; with_reducible exact H2_) | with_reducible exact H | (rw [hy157]; exact H) | exact H
           have Ny157 := Aside0.mk hy157; clear hy157; have H' := Aside0.mk H; clear H; have p20 : 0 ≤ (x8_4 : Int) := xD; have q20 : x8_4 < (64 : Int) := xD; have hx20 := bt_at (⟨#[65, 66, 67, 68, 69, 70, 71, 72, 73, 74, 75, 76, 77, 78, 79, 80, 81, 82, 83, 84, 85, 86, 87, 88, 89, 90, 97, 98, 99, 100, 101, 102, 103, 104, 105, 106, 107, 108, 109, 110, 111, 112, 113, 114, 115, 116, 117, 118, 119, 120, 121, 122, 48, 49, 50, 51, 52, 53, 54, 55, 56, 57, 43, 47]⟩ : ByteArray) x8_4; replace p20 := eq_true p20; replace q20 := eq_true q20; go_wp2_with (first | ((with_reducible refine gate_builtin (b := .append) (xs := #[.tmp 56, .tmp 59]) rfl ?_); at_builtin; refine Kd.R_append (Kd.int .u8) (w0 := w) w.heap.size rfl (.tmp 56) (.tmp 59) 64 5 (.int .u8 0) 1 rfl Tryz.underlying64 info5 rfl (by decide) (by omega) u6 x6_3 (bt (⟨#[65, 66, 67, 68, 69, 70, 71, 72, 73, 74, 75, 76, 77, 78, 79, 80, 81, 82, 83, 84, 85, 86, 87, 88, 89, 90, 97, 98, 99, 100, 101, 102, 103, 104, 105, 106, 107, 108, 109, 110, 111, 112, 113, 114, 115, 116, 117, 118, 119, 120, 121, 122, 48, 49, 50, 51, 52, 53, 54, 55, 56, 57, 43, 47]⟩ : ByteArray) x8_4) [.int .u8 (bt (⟨#[65, 66, 67, 68, 69, 70, 71, 72, 73, 74, 75, 76, 77, 78, 79, 80, 81, 82, 83, 84, 85, 86, 87, 88, 89, 90, 97, 98, 99, 100, 101, 102, 103, 104, 105, 106, 107, 108, 109, 110, 111, 112, 113, 114, 115, 116, 117, 118, 119, 120, 121, 122, 48, 49, 50, 51, 52, 53, 54, 55, 56, 57, 43, 47]⟩ : ByteArray) x8_4)] (fun _ => True) (fun _ => False) rfl rfl ?aP (fun _ hk => hk.elim) ?aF ?aO ?aB ?aS ?aL ?_; (case aP => exact rfl); (case aB => exact xB); (case aF => exact (fun _ _ => trivial)); (case aO => exact (by (with_reducible repeat (first | apply Kd.R_alloc | apply Kd.R_drewN | apply Kd.R_drew)); exact HO_6.out)); (case aS => exact (below_size xB)); (case aL => have := LMc21.out; omega); intro v158 w22 ho hb hg hat; rw [← Ny157.out] at ho; replace HO_3 := Aside0.mk (Kd.R_over' (by (with_reducible repeat (first | apply Kd.R_alloc | apply Kd.R_drewN | apply Kd.R_drew)); exact HO_3.out) (Kd.R_typed (by (with_reducible repeat (first | apply Kd.R_alloc | apply Kd.R_drewN | apply Kd.R_drew)); exact HO_6.out)) (by decide) hg); have HO159 := Aside0.mk (ho); replace HB := Aside0.mk (hb); clear HO_6; clear ho hb hg hat)); go_roundg k4
           case measure => exact xO4
           case rel => exact ⟨(y157), (wrap64 (x7_3 + 6)), xR, H', ⟨xO4⟩, ⟨xQ HO_3⟩, ⟨xQ HO159⟩, ⟨xB⟩⟩
        have c13b0 := decide_eq_false c13; clear c13; have H' := Aside0.mk H; clear H; go_wp2
        go_loopg [6] k3 (fun kq v6 w' => ∃ (x6_4 : List Int), Aside0 (armadaref13_Encode.l5 kq x6_4 = some r) ∧ Aside0 (kq ≤ k3) ∧ Aside0 (Kd.R (Kd.int .u8) 5 w' w.heap.size (fun _ => True) v6 x6_4) ∧ Aside0 (Below w.heap.size w w'))
        case atStart => exact ⟨(x6_3), H', ⟨Nat.le_refl _⟩, ⟨xQ HO_6⟩, ⟨xB⟩⟩
        case round =>
         clear H'
         try clear c1
         try clear p1
         try clear q1
         try clear hx1
         try clear c2
         try clear c2b0
         try clear p2
         try clear q2
         try clear hx2
         try clear c3
         try clear c3b0
         try clear c4
         try clear c4b0
         try clear c5
         try clear c5b0
         try clear p6
         try clear q6
         try clear hx6
         try clear c7
         try clear c7b0
         try clear c7b1
         try clear c9
         try clear c10
         try clear c11
         try clear c11b0
         try clear c11b1
         try clear c13
         try clear c13b0
         try clear c14
         try clear c14b0
         try clear p15
         try clear q15
         try clear hx15
         try clear c16
         try clear c16b0
         try clear c17
         try clear c17b0
         try clear c18
         try clear c18b0
         try clear c19
         try clear c19b0
         try clear p20
         try clear q20
         try clear hx20
         try clear c21
         try clear hx156_0
         try clear p156
         try clear p2
         try clear p20
         try clear p6
         try clear q156
         try clear q20
         try clear q6
         obtain ⟨x6_4, HA, HK4, HO_6, HB⟩ := hrel
         cases gk with
         | zero => exact absurd HA.out (by simp [armadaref13_Encode.l5])
         | succ k4 =>
          have H := HA.out; clear HA; simp only [armadaref13_Encode.l5] at H; replace H := xJ H; rcases H with ⟨c23, H⟩ | ⟨c23, H⟩
          ·
           have c23b0 := beq_iff_eq.mpr c23; have c23b1 := bne_eq_false_iff_eq.mpr c23; clear c23; obtain rfl := Option.some.inj H; obtain ⟨Ao24, co24, eo24⟩ := Kd.R_slice HO_6.out; subst eo24; have hcv25 := own_string (P := Tryz.prog) Tryz.underlying64 Tryz.underlying5 Tryz.underlying9 (Kd.own_of_R HO_6.out); go_wp2; go_ret; exact ⟨xW, xB⟩
          have c23b0 := beq_eq_false_iff_ne.mpr c23; have c23b1 := bne_iff_ne.mpr c23; replace H := xI H; obtain ⟨c26, H⟩ := H; have LMc26 := Aside0.mk c26; clear c26; obtain ⟨y160, hy160⟩ : ∃ y_ : List Int, y_ = (x6_4 ++ [61]) := ⟨_, rfl⟩
          replace H : (armadaref13_Encode.l5 k4 y160) = some r := by first | (rw [hy160]; with_reducible exact H) | (have H2_ := (Option.bind_some _ _).symm.trans H; rw [hy160]; with_reducible exact H2_) | (have H2_ := (Option.bind_some _ _).symm.trans H; with_reducible exact H2_) | with_reducible exact H | (rw [hy160]; exact H) | exact H
          have Ny160 := Aside0.mk hy160; clear hy160; have H' := Aside0.mk H; clear H; obtain ⟨Ao27, co27, eo27⟩ := Kd.R_slice HO_6.out; subst eo27; go_wp2_with (first | ((with_reducible refine gate_builtin (b := .append) (xs := #[.tmp 65, .tmp 66]) rfl ?_); at_builtin; refine Kd.R_append (Kd.int .u8) (w0 := w) w.heap.size rfl (.tmp 65) (.tmp 66) 64 5 (.int .u8 0) 1 rfl Tryz.underlying64 info5 rfl (by decide) (by omega) (.slice Ao27 x6_4.length co27) x6_4 61 [.int .u8 61] (fun _ => True) (fun _ => False) rfl rfl ?aP (fun _ hk => hk.elim) ?aF ?aO ?aB ?aS ?aL ?_; (case aP => exact rfl); (case aB => exact xB); (case aF => exact (fun _ _ => trivial)); (case aO => exact (by (with_reducible repeat (first | apply Kd.R_alloc | apply Kd.R_drewN | apply Kd.R_drew)); exact HO_6.out)); (case aS => exact (below_size xB)); (case aL => have := LMc26.out; omega); intro v161 w28 ho hb hg hat; rw [← Ny160.out] at ho; have HO162 := Aside0.mk (ho); replace HB := Aside0.mk (hb); clear HO_6; clear ho hb hg hat)); go_roundg k4
          case measure => exact xO4
          case rel => exact ⟨(y160), H', ⟨xO4⟩, ⟨xQ HO162⟩, ⟨xB⟩⟩
     have c11b0 := beq_eq_false_iff_ne.mpr c11; have c11b1 := bne_iff_ne.mpr c11; replace H := xI H; obtain ⟨c29, H⟩ := H; have LMc29 := Aside0.mk c29; clear c29; obtain ⟨y153, hy153⟩ : ∃ y_ : List Int, y_ = (x3_2 ++ [0]) := ⟨_, rfl⟩
     replace H : (armadaref13_Encode.l2 k2 y153) = some r := by first | (rw [hy153]; with_reducible exact H) | (have H2_ := (Option.bind_some _ _).symm.trans H; rw [hy153]; with_reducible exact H2_) | (have H2_ := (Option.bind_some _ _).symm.trans H; with_reducible exact H2_) | with_reducible exact H | (rw [hy153]; exact H) | exact H
     have Ny153 := Aside0.mk hy153; clear hy153; have H' := Aside0.mk H; clear H; obtain ⟨Ao30, co30, eo30⟩ := Kd.R_slice HO_3.out; subst eo30; go_wp2_with (first | ((with_reducible refine gate_builtin (b := .append) (xs := #[.tmp 34, .tmp 35]) rfl ?_); at_builtin; refine Kd.R_append (Kd.int .i64) (w0 := w) w.heap.size rfl (.tmp 34) (.tmp 35) 97 3 (.int .i64 0) 8 rfl Tryz.underlying97 info3 rfl (by decide) (by omega) (.slice Ao30 x3_2.length co30) x3_2 0 [.int .i64 0] (fun _ => True) (fun _ => False) rfl rfl ?aP (fun _ hk => hk.elim) ?aF ?aO ?aB ?aS ?aL ?_; (case aP => exact rfl); (case aB => exact xB); (case aF => exact (fun _ _ => trivial)); (case aO => exact (by (with_reducible repeat (first | apply Kd.R_alloc | apply Kd.R_drewN | apply Kd.R_drew)); exact HO_3.out)); (case aS => exact (below_size xB)); (case aL => have := LMc29.out; omega); intro v154 w31 ho hb hg hat; rw [← Ny153.out] at ho; have HO155 := Aside0.mk (ho); replace HB := Aside0.mk (hb); clear HO_3; clear ho hb hg hat)); go_roundg k2
     case measure => exact xO2
     case rel => exact ⟨(y153), H', ⟨xO2⟩, ⟨xQ HO155⟩, ⟨xB⟩⟩
mutual
def armadaref13_Decode.l0 : Nat → ByteArray → List Int → Int → Int → Int → Option (ByteArray × Bool)
 | 0, _, _, _, _, _ => none
 | k + 1, x0, x4, x5, x6, x7 => if x7 < (x0.size : Int) then (if 0 ≤ x7 then (armadaref13_Decode.j1 k x0 x4 x5 x6 x7 ((bt x0 x7) != 61)) else (none)) else (armadaref13_Decode.j1 k x0 x4 x5 x6 x7 false)
def armadaref13_Decode.j1 : Nat → ByteArray → List Int → Int → Int → Int → Bool → Option (ByteArray × Bool)
 | 0, _, _, _, _, _, _ => none
 | k + 1, x0, x4, x5, x6, x7, x18 => if x18 = true then (if 0 ≤ x7 then (if x7 < (x0.size : Int) then ((armadaref13_number.f k (bt x0 x7)).bind fun t164 => (if t164 < 0 then (some ((⟨#[]⟩ : ByteArray), false)) else (if (wrap64 (x6 + 6)) ≥ 8 then (if 0 ≤ (wrap64 ((wrap64 (x6 + 6)) - 8)) then (if x4.length < 140737488355328 then (armadaref13_Decode.l0 k x0 (x4 ++ [(Go.bits .and .i64 (shr .i64 (Go.bits .and .i64 (wrap64 ((wrap64 (x5 * 64)) + t164)) 65535) (wrap64 ((wrap64 (x6 + 6)) - 8))) 255) % 256]) (Go.bits .and .i64 (wrap64 ((wrap64 (x5 * 64)) + t164)) 65535) (wrap64 ((wrap64 (x6 + 6)) - 8)) (wrap64 (x7 + 1))) else (none)) else (none)) else (armadaref13_Decode.l0 k x0 x4 (Go.bits .and .i64 (wrap64 ((wrap64 (x5 * 64)) + t164)) 65535) (wrap64 (x6 + 6)) (wrap64 (x7 + 1)))))) else (none)) else (none)) else ((armadaref13_Encode.f k (strOfNums x4)).bind fun t163 => (if t163.toList = x0.toList then (some (strOfNums x4, true)) else (some ((⟨#[]⟩ : ByteArray), false))))
end
def armadaref13_Decode.f (k : Nat) (a0 : ByteArray) : Option (ByteArray × Bool) := armadaref13_Decode.l0 k a0 ([] : List Int) 0 0 0
set_option maxHeartbeats 8000000 in
set_option maxRecDepth 100000 in
theorem armadaref13_Decode.calls (k : Nat) (a0 : ByteArray) (r1 : ByteArray) (r2 : Bool) (w : World) (h : armadaref13_Decode.f k a0 = some (r1, r2)) :
  Calls Tryz.prog 75 #[.string a0] w fun e w' => e = .returned (.tuple #[.string r1, .bool r2]) ∧ Below w.heap.size w w' := by
 have HB := Aside0.mk (Below.refl w.heap.size w); have H : (armadaref13_Decode.l0 k a0 ([] : List Int) 0 0 0) = some (r1, r2) := h; clear h; have H' := Aside0.mk H; clear H; go_enter Tryz.func75, Tryz.ntmps75; go_wp2
 go_loopg [4, 5, 6, 7] k (fun kq v4 v5 v6 v7 w' => ∃ (x4_1 : List Int) (x5_1 : Int) (x6_1 : Int) (x7_1 : Int), v5 = .int .i64 x5_1 ∧ v6 = .int .i64 x6_1 ∧ v7 = .int .i64 x7_1 ∧ Aside0 (armadaref13_Decode.l0 kq a0 x4_1 x5_1 x6_1 x7_1 = some (r1, r2)) ∧ Aside0 (kq ≤ k) ∧ Aside0 (Kd.R (Kd.int .u8) 5 w' w.heap.size (fun _ => True) v4 x4_1) ∧ Aside0 (Below w.heap.size w w'))
 case atStart => exact ⟨(([] : List Int)), (0), (0), (0), xR, xR, xR, H', ⟨Nat.le_refl _⟩, ⟨by first | exact Kd.R_nil _ _ _ _ _ | exact Kd.N_nil _ _ _ _ _ | exact Kd.V_nil _ _ _ _ _ | exact Kd.Q_nil _ _ _ _ _ | exact Kd.S_nil _ _ _ _ _⟩, ⟨xB⟩⟩
 case round =>
  clear H'; obtain ⟨x4_1, x5_1, x6_1, x7_1, rfl, rfl, rfl, HA, HK1, HO_4, HB⟩ := hrel
  cases gk with
  | zero => exact absurd HA.out (by simp [armadaref13_Decode.l0])
  | succ k1 =>
   have H := HA.out; clear HA; simp only [armadaref13_Decode.l0] at H; have HC2 := Aside0.mk H; clear H; go_upto_region 5 with (fail)
   go_cut [18] (fun v18 wc => ∃ (kq : Nat) (x18_1 : Bool), v18 = .bool x18_1 ∧ Aside0 (armadaref13_Decode.j1 kq a0 x4_1 x5_1 x6_1 x7_1 x18_1 = some (r1, r2)) ∧ Aside0 (kq ≤ k1) ∧ Aside0 (Kd.R (Kd.int .u8) 5 wc w.heap.size (fun _ => True) u4 x4_1) ∧ Aside0 (Below w.heap.size w wc))
   case first =>
    have H := HC2.out; clear HC2; replace H := xJ H; rcases H with ⟨c3, H⟩ | ⟨c3, H⟩
    ·
     have c3b0 := decide_eq_true c3; clear c3
     (first | rw [c3b0] | (simp only [i64_w, i32_w]; rw [c3b0]) | skip)
     replace H := xI H; obtain ⟨c4, H⟩ := H; have c4b0 := decide_eq_true c4; clear c4; have H' := Aside0.mk H; clear H; obtain ⟨p5, q5, hx5⟩ := xV a0 x7_1; go_wp2; go_meet
     case rel => exact ⟨_, (((bt a0 x7_1) != 61)), xR, H', ⟨by have := HK1.out; first | omega | exact Nat.le_refl _⟩, ⟨xQ HO_4⟩, ⟨xB⟩⟩
    have c3b0 := decide_eq_false c3; clear c3
    (first | rw [c3b0] | (simp only [i64_w, i32_w]; rw [c3b0]) | skip)
    have H' := Aside0.mk H; clear H; go_wp2; go_meet
    case rel => exact ⟨_, (false), xR, H', ⟨by have := HK1.out; first | omega | exact Nat.le_refl _⟩, ⟨xQ HO_4⟩, ⟨xB⟩⟩
   case rest =>
    clear HC2
    try clear p2
    try clear c3
    try clear c3b0
    try clear c4
    try clear c4b0
    try clear p5
    try clear q5
    try clear hx5
    try clear p5
    try clear q5
    obtain ⟨kq, x18_1, rfl, HA, HJ1, HO_4, HB⟩ := hcut
    cases kq with
    | zero => exact absurd HA.out (by simp [armadaref13_Decode.j1])
    | succ kj1 =>
     have H := HA.out; clear HA; simp only [armadaref13_Decode.j1] at H
     by_cases c6 : x18_1 = true
     ·
      subst c6; rw [if_pos rfl] at H; replace H := xI H; obtain ⟨c7, H⟩ := H; have c7b0 := decide_eq_true c7; clear c7; replace H := xI H; obtain ⟨c8, H⟩ := H; replace c8 := decide_eq_true c8; replace H := xb H; obtain ⟨t164, A10, H⟩ := H; replace H := xJ H; rcases H with ⟨c11, H⟩ | ⟨c11, H⟩
      ·
       have c11b0 := decide_eq_true c11; clear c11; simp only [Option.some.injEq, Prod.mk.injEq] at H; obtain ⟨rfl, rfl⟩ := H; obtain ⟨p9, q9, hx9⟩ := xV a0 x7_1; go_wp2_with (first | ((with_reducible refine gate_callee (f := 102) rfl ?_); refine goesL_ (some 24) rfl rfl Tryz.func102 (by kernel_rfl) rfl #[.int .u8 (bt a0 x7_1)] rfl xS ?_; (with_reducible refine (armadaref13_number.calls kj1 (bt a0 x7_1) t164 _ A10.out).mono ?_); rintro e w' ⟨rfl, ⟨nd, rfl⟩⟩; refine ⟨_, rfl, ?_⟩)); go_ret2; exact ⟨xW, xB⟩
      have c11b0 := decide_eq_false c11; clear c11; replace H := xJ H; rcases H with ⟨c12, H⟩ | ⟨c12, H⟩
      ·
       replace c12 := decide_eq_true c12; obtain ⟨ji13, hji13⟩ : ∃ j_ : Int, (wrap64 ((wrap64 (x6_1 + 6)) - 8)) = j_ := ⟨_, rfl⟩
       replace H : (if 0 ≤ (ji13) then (if x4_1.length < 140737488355328 then (armadaref13_Decode.l0 kj1 a0 (x4_1 ++ [(Go.bits .and .i64 (shr .i64 (Go.bits .and .i64 (wrap64 ((wrap64 (x5_1 * 64)) + t164)) 65535) (ji13)) 255) % 256]) (Go.bits .and .i64 (wrap64 ((wrap64 (x5_1 * 64)) + t164)) 65535) ji13 (wrap64 (x7_1 + 1))) else (none)) else (none)) = some (r1, r2) := by first | (rw [hji13] at H; exact H) | (simp only [hji13] at H ⊢; exact H)
       (try rw [hji13] at A10)
       have hji13w : (IntKind.i64.wrap ((wrap64 (x6_1 + 6)) - 8)) = ji13 := (i64_w _).trans hji13; replace H := xI H; obtain ⟨c14, H⟩ := H; have c14b0 := eq_true c14; have c14b1 := decide_eq_true c14; clear c14; obtain ⟨ji15, hji15⟩ : ∃ j_ : Int, (shr .i64 (Go.bits .and .i64 (wrap64 ((wrap64 (x5_1 * 64)) + t164)) 65535) (ji13)) = j_ := ⟨_, rfl⟩
       replace H : (if x4_1.length < 140737488355328 then (armadaref13_Decode.l0 kj1 a0 (x4_1 ++ [(Go.bits .and .i64 (ji15) 255) % 256]) (Go.bits .and .i64 (wrap64 ((wrap64 (x5_1 * 64)) + t164)) 65535) ji13 (wrap64 (x7_1 + 1))) else (none)) = some (r1, r2) := by first | (rw [hji15] at H; exact H) | (simp only [hji15] at H ⊢; exact H)
       (try rw [hji15] at A10)
       have hji15_ : ((Go.bits .and .i64 (wrap64 ((wrap64 (x5_1 * 64)) + t164)) 65535) / 2 ^ min (ji13).toNat 64) = ji15 := hji15; have hji15z : (ji13) ≤ 64 → ((Go.bits .and .i64 (wrap64 ((wrap64 (x5_1 * 64)) + t164)) 65535) / 2 ^ (ji13).toNat) = ji15 := shr_small hji15; replace H := xI H; obtain ⟨c16, H⟩ := H; have LMc16 := Aside0.mk c16; clear c16; obtain ⟨y165, hy165⟩ : ∃ y_ : List Int, y_ = (x4_1 ++ [(Go.bits .and .i64 (ji15) 255) % 256]) := ⟨_, rfl⟩
       replace H : (armadaref13_Decode.l0 kj1 a0 y165 (Go.bits .and .i64 (wrap64 ((wrap64 (x5_1 * 64)) + t164)) 65535) ji13 (wrap64 (x7_1 + 1))) = some (r1, r2) := by first | (rw [hy165]; with_reducible exact H) | (have H2_ := (Option.bind_some _ _).symm.trans H; rw [hy165]; with_reducible exact H2_) | (have H2_ := (Option.bind_some _ _).symm.trans H; with_reducible exact H2_) | with_reducible exact H | (rw [hy165]; exact H) | exact H
       have Ny165 := Aside0.mk hy165; clear hy165; have H' := Aside0.mk H; clear H; obtain ⟨p9, q9, hx9⟩ := xV a0 x7_1; go_wp2_with (first | ((with_reducible refine gate_callee (f := 102) rfl ?_); refine goesL_ (some 24) rfl rfl Tryz.func102 (by kernel_rfl) rfl #[.int .u8 (bt a0 x7_1)] rfl xS ?_; (with_reducible refine (armadaref13_number.calls kj1 (bt a0 x7_1) t164 _ A10.out).mono ?_); rintro e w' ⟨rfl, ⟨nd, rfl⟩⟩; refine ⟨_, rfl, ?_⟩) | ((with_reducible refine gate_builtin (b := .append) (xs := #[.tmp 38, .tmp 44]) rfl ?_); at_builtin; refine Kd.R_append (Kd.int .u8) (w0 := w) w.heap.size rfl (.tmp 38) (.tmp 44) 64 5 (.int .u8 0) 1 rfl Tryz.underlying64 info5 rfl (by decide) (by omega) u4 x4_1 ((Go.bits .and .i64 (ji15) 255) % 256) [.int .u8 ((Go.bits .and .i64 (ji15) 255) % 256)] (fun _ => True) (fun _ => False) rfl rfl ?aP (fun _ hk => hk.elim) ?aF ?aO ?aB ?aS ?aL ?_; (case aP => exact rfl); (case aB => exact xB); (case aF => exact (fun _ _ => trivial)); (case aO => exact (by (with_reducible repeat (first | apply Kd.R_alloc | apply Kd.R_drewN | apply Kd.R_drew)); exact HO_4.out)); (case aS => exact (below_size xB)); (case aL => have := LMc16.out; omega); intro v166 w17 ho hb hg hat; rw [← Ny165.out] at ho; have HO167 := Aside0.mk (ho); replace HB := Aside0.mk (hb); clear HO_4; clear ho hb hg hat)); go_roundg kj1
       case measure => have := HK1.out; have := HJ1.out; omega
       case rel => exact ⟨(y165), (Go.bits .and .i64 (wrap64 ((wrap64 (x5_1 * 64)) + t164)) 65535), (ji13), (wrap64 (x7_1 + 1)), xR, (by first | rfl | (simp; done) | (simp only [← hji13] <;> (first | rfl | simp)) | (simp [*]; done)), xR, H', ⟨by have := HK1.out; have := HJ1.out; omega⟩, ⟨xQ HO167⟩, ⟨xB⟩⟩
      replace c12 := decide_eq_false c12; have H' := Aside0.mk H; clear H; obtain ⟨p9, q9, hx9⟩ := xV a0 x7_1; go_wp2_with (first | ((with_reducible refine gate_callee (f := 102) rfl ?_); refine goesL_ (some 24) rfl rfl Tryz.func102 (by kernel_rfl) rfl #[.int .u8 (bt a0 x7_1)] rfl xS ?_; (with_reducible refine (armadaref13_number.calls kj1 (bt a0 x7_1) t164 _ A10.out).mono ?_); rintro e w' ⟨rfl, ⟨nd, rfl⟩⟩; refine ⟨_, rfl, ?_⟩)); go_roundg kj1
      case measure => have := HK1.out; have := HJ1.out; omega
      case rel => exact ⟨(x4_1), (Go.bits .and .i64 (wrap64 ((wrap64 (x5_1 * 64)) + t164)) 65535), (wrap64 (x6_1 + 6)), (wrap64 (x7_1 + 1)), xR, xR, xR, H', ⟨by have := HK1.out; have := HJ1.out; omega⟩, ⟨xQ HO_4⟩, ⟨xB⟩⟩
     replace c6 := Bool.eq_false_iff.mpr c6; subst c6; rw [if_neg (show ¬ (false = true) by decide)] at H; replace H := xb H; obtain ⟨t163, A18, H⟩ := H; replace H := xJ H; rcases H with ⟨c19, H⟩ | ⟨c19, H⟩
     ·
      have c19b0 := beq_iff_eq.mpr c19; have c19b1 := bne_eq_false_iff_eq.mpr c19; clear c19; simp only [Option.some.injEq, Prod.mk.injEq] at H; obtain ⟨rfl, rfl⟩ := H; have hcv20 := own_string (P := Tryz.prog) Tryz.underlying64 Tryz.underlying5 Tryz.underlying9 (Kd.own_of_R HO_4.out); go_wp2_with (first | ((with_reducible refine gate_callee (f := 103) rfl ?_); refine goesL_ (some 48) rfl rfl Tryz.func103 (by kernel_rfl) rfl #[.string (strOfNums x4_1)] rfl xS ?_; (with_reducible refine (armadaref13_Encode.calls kj1 (strOfNums x4_1) t163 _ A18.out).mono ?_); rintro e w21 ⟨rfl, hb⟩; refine ⟨_, rfl, ?_⟩; replace HO_4 := Aside0.mk (Kd.R_below (by (with_reducible repeat (first | apply Kd.R_alloc | apply Kd.R_drewN | apply Kd.R_drew)); exact HO_4.out) hb); replace HB := Aside0.mk (below_step xB hb); (try clear hb); have hcv22 := own_string (P := Tryz.prog) Tryz.underlying64 Tryz.underlying5 Tryz.underlying9 (Kd.own_of_R HO_4.out))); go_ret2; exact ⟨xW, xB⟩
     have c19b0 := beq_eq_false_iff_ne.mpr c19; have c19b1 := bne_iff_ne.mpr c19; simp only [Option.some.injEq, Prod.mk.injEq] at H; obtain ⟨rfl, rfl⟩ := H; have hcv23 := own_string (P := Tryz.prog) Tryz.underlying64 Tryz.underlying5 Tryz.underlying9 (Kd.own_of_R HO_4.out); go_wp2_with (first | ((with_reducible refine gate_callee (f := 103) rfl ?_); refine goesL_ (some 48) rfl rfl Tryz.func103 (by kernel_rfl) rfl #[.string (strOfNums x4_1)] rfl xS ?_; (with_reducible refine (armadaref13_Encode.calls kj1 (strOfNums x4_1) t163 _ A18.out).mono ?_); rintro e w24 ⟨rfl, hb⟩; refine ⟨_, rfl, ?_⟩; replace HO_4 := Aside0.mk (Kd.R_below (by (with_reducible repeat (first | apply Kd.R_alloc | apply Kd.R_drewN | apply Kd.R_drew)); exact HO_4.out) hb); replace HB := Aside0.mk (below_step xB hb); (try clear hb))); go_ret2; exact ⟨xW, xB⟩
end Go.Proofs.YtjdhdjmdmnedfaaGreatDoor.RD
end
