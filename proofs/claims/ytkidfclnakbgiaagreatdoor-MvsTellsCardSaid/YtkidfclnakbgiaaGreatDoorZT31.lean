/- The texts RDx3 in one file, without what these claims do not use (put together by prune2.py). -/
import Derived.Test.YtkidfclnakbgiaaGreatDoorZT28
import Derived.Test.YtkidfclnakbgiaaGreatDoorZT29
import Derived.Test.YtkidfclnakbgiaaGreatDoorZT30
section
namespace Go.Proofs.YtkidfclnakbgiaaGreatDoor.RD
open Go.RowKit Go.Proofs.YtkidfclnakbgiaaGreatDoor Go.Proofs.YtkidfclnakbgiaaGreatDoor.K0 Go.Proofs.YtkidfclnakbgiaaGreatDoorW.PrintWords Go.Proofs.YtkidfclnakbgiaaGreatDoorW.PrintLast Go.Proofs.YtkidfclnakbgiaaGreatDoorW.PrintMore
attribute [local go_sem] max2_int min2_int max_two min_two max_three min_three max_four min_four
set_option linter.unusedVariables false
set_option linter.unusedSimpArgs false
def armadaref07_Check.j0 : Nat → Bool → Int → Int → Int → ByteArray → ByteArray → Option (Bool)
 | 0, _, _, _, _, _, _ => none
 | k + 1, x30, x118000, x118001, x118002, x118003, x118004 => if x30 = true then (some false) else (if x118003.toList = ([] : List UInt8) then (if x118004.toList = ([] : List UInt8) then (some true) else ((armadaref07_identifiers.f k x118004 true).bind fun t121 => (some t121))) else ((armadaref07_identifiers.f k x118003 false).bind fun t122 => (if t122 = true then (if x118004.toList = ([] : List UInt8) then (some true) else ((armadaref07_identifiers.f k x118004 true).bind fun t123 => (some t123))) else (some false))))
def armadaref07_Check.f (k : Nat) (a0_0 : Int) (a0_1 : Int) (a0_2 : Int) (a0_3 : ByteArray) (a0_4 : ByteArray) : Option (Bool) := (armadaref07_num.f a0_0).bind fun t118 => (if t118 = true then ((armadaref07_num.f a0_1).bind fun t119 => (if t119 = true then ((armadaref07_num.f a0_2).bind fun t120 => (if t120 = true then (if (a0_3.size : Int) > 30 then (armadaref07_Check.j0 k true a0_0 a0_1 a0_2 a0_3 a0_4) else (armadaref07_Check.j0 k (decide ((a0_4.size : Int) > 30)) a0_0 a0_1 a0_2 a0_3 a0_4)) else (armadaref07_Check.j0 k true a0_0 a0_1 a0_2 a0_3 a0_4))) else (armadaref07_Check.j0 k true a0_0 a0_1 a0_2 a0_3 a0_4))) else (armadaref07_Check.j0 k true a0_0 a0_1 a0_2 a0_3 a0_4))
theorem armadaref07_Check.mono_l : ∀ k, (∀ y0 y1 y2 y3 y4 y5, LeO (armadaref07_Check.j0 k y0 y1 y2 y3 y4 y5) (armadaref07_Check.j0 (k + 1) y0 y1 y2 y3 y4 y5))
 | 0 => fun _ _ _ _ _ _ r h => by simp [armadaref07_Check.j0] at h
 | k + 1 => by
  have ih0 := armadaref07_Check.mono_l k
  ·
   intro y0 y1 y2 y3 y4 y5
   unfold armadaref07_Check.j0
   repeat' first
   | (with_reducible exact ih0 _ _ _ _ _ _)
   | (with_reducible exact armadaref07_identifiers.mono _ _ _)
   | (with_reducible exact LeO.refl _)
   | (with_reducible exact LeO.none _)
   | (with_reducible refine LeO.ite ?_ ?_)
   | (with_reducible refine LeO.bind ?_ (fun _ => ?_))
   | exact ih0 _ _ _ _ _ _
   | exact armadaref07_identifiers.mono _ _ _
   | exact LeO.none _
   | refine LeO.ite ?_ ?_
   | refine LeO.bind ?_ (fun _ => ?_)
theorem armadaref07_Check.mono : ∀ a0 a1 a2 a3 a4 k, LeO (armadaref07_Check.f k a0 a1 a2 a3 a4) (armadaref07_Check.f (k + 1) a0 a1 a2 a3 a4) := by
 intro a0 a1 a2 a3 a4 k
 have ih0 := armadaref07_Check.mono_l k
 unfold armadaref07_Check.f
 repeat' first
   | (with_reducible exact ih0 _ _ _ _ _ _)
   | (with_reducible exact armadaref07_identifiers.mono _ _ _)
   | (with_reducible exact LeO.refl _)
   | (with_reducible exact LeO.none _)
   | (with_reducible refine LeO.ite ?_ ?_)
   | (with_reducible refine LeO.bind ?_ (fun _ => ?_))
   | exact ih0 _ _ _ _ _ _
   | exact armadaref07_identifiers.mono _ _ _
   | exact LeO.none _
   | refine LeO.ite ?_ ?_
   | refine LeO.bind ?_ (fun _ => ?_)
set_option maxHeartbeats 8000000 in
set_option maxRecDepth 100000 in
theorem armadaref07_Check.calls (k : Nat) (a0_0 : Int) (a0_1 : Int) (a0_2 : Int) (a0_3 : ByteArray) (a0_4 : ByteArray) (r : Bool) (w : World) (h : armadaref07_Check.f k a0_0 a0_1 a0_2 a0_3 a0_4 = some r) :
  Calls Tryz.prog 51 #[.agg #[.int .i64 a0_0, .int .i64 a0_1, .int .i64 a0_2, .string a0_3, .string a0_4]] w fun e w' => e = .returned (.bool r) ∧ Below w.heap.size w w' := by
 have hu25 := Tryz.underlying25
 have HB := Aside0.mk (Below.refl w.heap.size w)
 have H : ((armadaref07_num.f a0_0).bind fun t118 => (if t118 = true then ((armadaref07_num.f a0_1).bind fun t119 => (if t119 = true then ((armadaref07_num.f a0_2).bind fun t120 => (if t120 = true then (if (a0_3.size : Int) > 30 then (armadaref07_Check.j0 k true a0_0 a0_1 a0_2 a0_3 a0_4) else (armadaref07_Check.j0 k (decide ((a0_4.size : Int) > 30)) a0_0 a0_1 a0_2 a0_3 a0_4)) else (armadaref07_Check.j0 k true a0_0 a0_1 a0_2 a0_3 a0_4))) else (armadaref07_Check.j0 k true a0_0 a0_1 a0_2 a0_3 a0_4))) else (armadaref07_Check.j0 k true a0_0 a0_1 a0_2 a0_3 a0_4))) = some r := h
 clear h
 have HC2 := Aside0.mk H
 clear H
 go_enter Tryz.func51, Tryz.ntmps51
 go_upto_region 1 with (first | ((with_reducible refine gate_dst (N := 1) rfl ?_); (try (refine gate_guard (by rfl) ?_; dsimp only)); refine box_event ?hg (N := 1) ?hd (cs := #[.int .i64 a0_0, .int .i64 a0_1, .int .i64 a0_2, .string a0_3, .string a0_4]) (t := 25) ?hr ?_; (case hd => rfl); (case hg => rfl); (case hr => first | (go_simp; done) | (go_simp; rfl)); intro gb117 hg w3 hbox hb; have BK117 := Aside0.mk (hbox); have GW117 := Aside0.mk ((by rw [hg]; exact (below_size xB) : w.heap.size ≤ gb117)); have GE117 := Aside0.mk ((by rw [hg]; exact (below_size xB) : w.heap.size ≤ gb117)); replace HB := Aside0.mk (below_step xB hb); clear hb hbox hg))
 (try simp only [Act.put, List.setIfInBounds_toArray, List.set_cons_zero, List.set_cons_succ])
 go_cut [30] (fun v30 wc => ∃ (kq : Nat) (x30_1 : Bool), v30 = .bool x30_1 ∧ Aside0 (armadaref07_Check.j0 kq x30_1 a0_0 a0_1 a0_2 a0_3 a0_4 = some r) ∧ Aside0 (kq ≤ k) ∧ Aside0 (wc.heap[gb117]? = some (.cells #[.int .i64 a0_0, .int .i64 a0_1, .int .i64 a0_2, .string a0_3, .string a0_4] 25 (0, 0))) ∧ Aside0 (Below w.heap.size w wc))
 case first =>
  have H := HC2.out
  clear HC2
  replace H := xb H
  obtain ⟨t118, A4, H⟩ := H
  by_cases c5 : t118 = true
  ·
   subst c5
   rw [if_pos rfl] at H
   replace H := xb H
   obtain ⟨t119, A6, H⟩ := H
   by_cases c7 : t119 = true
   ·
    subst c7
    rw [if_pos rfl] at H
    replace H := xb H
    obtain ⟨t120, A8, H⟩ := H
    by_cases c9 : t120 = true
    ·
     subst c9
     rw [if_pos rfl] at H
     by_cases c10 : (a0_3.size : Int) > 30
     ·
      rw [if_pos c10] at H
      have c10b0 := decide_eq_true c10
      have c10b1 : decide (30 < a0_3.size) = true := decide_eq_true (by omega)
      clear c10
      (first | rw [c10b0] | (simp only [i64_w, i32_w]; rw [c10b0]) | skip)
      have H' := Aside0.mk H
      clear H
      have hcz11_0 : w3.cell? ⟨gb117, 0, none⟩ = some (.int .i64 a0_0) := (blk_cell BK117.out 0).trans rfl
      have hcz11_1 : w3.cell? ⟨gb117, 1, none⟩ = some (.int .i64 a0_1) := (blk_cell BK117.out 1).trans rfl
      have hcz11_2 : w3.cell? ⟨gb117, 2, none⟩ = some (.int .i64 a0_2) := (blk_cell BK117.out 2).trans rfl
      have hcz11_3 : w3.cell? ⟨gb117, 3, none⟩ = some (.string a0_3) := (blk_cell BK117.out 3).trans rfl
      have hcz11_4 : w3.cell? ⟨gb117, 4, none⟩ = some (.string a0_4) := (blk_cell BK117.out 4).trans rfl
      have hfz11_0 := blk_frozen BK117.out 0
      have hfz11_1 := blk_frozen BK117.out 1
      have hfz11_2 := blk_frozen BK117.out 2
      have hfz11_3 := blk_frozen BK117.out 3
      have hfz11_4 := blk_frozen BK117.out 4
      go_wp2_with (first | ((with_reducible refine gate_callee (f := 68) rfl ?_); refine goesL_ (some 5) rfl rfl Tryz.func68 (by kernel_rfl) rfl #[.int .i64 a0_0] rfl xS ?_; (with_reducible refine (armadaref07_num.calls a0_0 true _ A4.out).mono ?_); rintro e w' ⟨rfl, ⟨nd, rfl⟩⟩; refine ⟨_, rfl, ?_⟩) | (go_at_call 68; (with_reducible refine (armadaref07_num.calls a0_1 true _ A6.out).mono ?_); rintro e w' ⟨rfl, ⟨nd, rfl⟩⟩) | (go_at_call 68; (with_reducible refine (armadaref07_num.calls a0_2 true _ A8.out).mono ?_); rintro e w' ⟨rfl, ⟨nd, rfl⟩⟩))
      go_meet
      case rel => exact ⟨_, (true), xR, H', ⟨by first | omega | exact Nat.le_refl _⟩, ⟨by (with_reducible repeat (first | refine blk_drewN ?_ _ | refine blk_drew ?_ | refine blk_alloc ?_ _)); exact BK117.out⟩, ⟨xB⟩⟩
     rw [if_neg c10] at H
     have c10b0 := decide_eq_false c10
     have c10b1 : decide (30 < a0_3.size) = false := decide_eq_false (by omega)
     clear c10
     (first | rw [c10b0] | (simp only [i64_w, i32_w]; rw [c10b0]) | skip)
     have H' := Aside0.mk H
     clear H
     have hcz12_0 : w3.cell? ⟨gb117, 0, none⟩ = some (.int .i64 a0_0) := (blk_cell BK117.out 0).trans rfl
     have hcz12_1 : w3.cell? ⟨gb117, 1, none⟩ = some (.int .i64 a0_1) := (blk_cell BK117.out 1).trans rfl
     have hcz12_2 : w3.cell? ⟨gb117, 2, none⟩ = some (.int .i64 a0_2) := (blk_cell BK117.out 2).trans rfl
     have hcz12_3 : w3.cell? ⟨gb117, 3, none⟩ = some (.string a0_3) := (blk_cell BK117.out 3).trans rfl
     have hcz12_4 : w3.cell? ⟨gb117, 4, none⟩ = some (.string a0_4) := (blk_cell BK117.out 4).trans rfl
     have hfz12_0 := blk_frozen BK117.out 0
     have hfz12_1 := blk_frozen BK117.out 1
     have hfz12_2 := blk_frozen BK117.out 2
     have hfz12_3 := blk_frozen BK117.out 3
     have hfz12_4 := blk_frozen BK117.out 4
     go_wp2_with (first | ((with_reducible refine gate_callee (f := 68) rfl ?_); refine goesL_ (some 5) rfl rfl Tryz.func68 (by kernel_rfl) rfl #[.int .i64 a0_0] rfl xS ?_; (with_reducible refine (armadaref07_num.calls a0_0 true _ A4.out).mono ?_); rintro e w' ⟨rfl, ⟨nd, rfl⟩⟩; refine ⟨_, rfl, ?_⟩) | (go_at_call 68; (with_reducible refine (armadaref07_num.calls a0_1 true _ A6.out).mono ?_); rintro e w' ⟨rfl, ⟨nd, rfl⟩⟩) | (go_at_call 68; (with_reducible refine (armadaref07_num.calls a0_2 true _ A8.out).mono ?_); rintro e w' ⟨rfl, ⟨nd, rfl⟩⟩))
     go_meet
     case rel => exact ⟨_, (decide ((a0_4.size : Int) > 30)), xR, H', ⟨by first | omega | exact Nat.le_refl _⟩, ⟨by (with_reducible repeat (first | refine blk_drewN ?_ _ | refine blk_drew ?_ | refine blk_alloc ?_ _)); exact BK117.out⟩, ⟨xB⟩⟩
    replace c9 := Bool.eq_false_iff.mpr c9
    subst c9
    rw [if_neg (show ¬ (false = true) by decide)] at H
    have H' := Aside0.mk H
    clear H
    have hcz13_0 : w3.cell? ⟨gb117, 0, none⟩ = some (.int .i64 a0_0) := (blk_cell BK117.out 0).trans rfl
    have hcz13_1 : w3.cell? ⟨gb117, 1, none⟩ = some (.int .i64 a0_1) := (blk_cell BK117.out 1).trans rfl
    have hcz13_2 : w3.cell? ⟨gb117, 2, none⟩ = some (.int .i64 a0_2) := (blk_cell BK117.out 2).trans rfl
    have hcz13_3 : w3.cell? ⟨gb117, 3, none⟩ = some (.string a0_3) := (blk_cell BK117.out 3).trans rfl
    have hcz13_4 : w3.cell? ⟨gb117, 4, none⟩ = some (.string a0_4) := (blk_cell BK117.out 4).trans rfl
    have hfz13_0 := blk_frozen BK117.out 0
    have hfz13_1 := blk_frozen BK117.out 1
    have hfz13_2 := blk_frozen BK117.out 2
    have hfz13_3 := blk_frozen BK117.out 3
    have hfz13_4 := blk_frozen BK117.out 4
    go_wp2_with (first | ((with_reducible refine gate_callee (f := 68) rfl ?_); refine goesL_ (some 5) rfl rfl Tryz.func68 (by kernel_rfl) rfl #[.int .i64 a0_0] rfl xS ?_; (with_reducible refine (armadaref07_num.calls a0_0 true _ A4.out).mono ?_); rintro e w' ⟨rfl, ⟨nd, rfl⟩⟩; refine ⟨_, rfl, ?_⟩) | (go_at_call 68; (with_reducible refine (armadaref07_num.calls a0_1 true _ A6.out).mono ?_); rintro e w' ⟨rfl, ⟨nd, rfl⟩⟩) | (go_at_call 68; (with_reducible refine (armadaref07_num.calls a0_2 false _ A8.out).mono ?_); rintro e w' ⟨rfl, ⟨nd, rfl⟩⟩))
    go_meet
    case rel => exact ⟨_, (true), xR, H', ⟨by first | omega | exact Nat.le_refl _⟩, ⟨by (with_reducible repeat (first | refine blk_drewN ?_ _ | refine blk_drew ?_ | refine blk_alloc ?_ _)); exact BK117.out⟩, ⟨xB⟩⟩
   replace c7 := Bool.eq_false_iff.mpr c7
   subst c7
   rw [if_neg (show ¬ (false = true) by decide)] at H
   have H' := Aside0.mk H
   clear H
   have hcz14_0 : w3.cell? ⟨gb117, 0, none⟩ = some (.int .i64 a0_0) := (blk_cell BK117.out 0).trans rfl
   have hcz14_1 : w3.cell? ⟨gb117, 1, none⟩ = some (.int .i64 a0_1) := (blk_cell BK117.out 1).trans rfl
   have hcz14_2 : w3.cell? ⟨gb117, 2, none⟩ = some (.int .i64 a0_2) := (blk_cell BK117.out 2).trans rfl
   have hcz14_3 : w3.cell? ⟨gb117, 3, none⟩ = some (.string a0_3) := (blk_cell BK117.out 3).trans rfl
   have hcz14_4 : w3.cell? ⟨gb117, 4, none⟩ = some (.string a0_4) := (blk_cell BK117.out 4).trans rfl
   have hfz14_0 := blk_frozen BK117.out 0
   have hfz14_1 := blk_frozen BK117.out 1
   have hfz14_2 := blk_frozen BK117.out 2
   have hfz14_3 := blk_frozen BK117.out 3
   have hfz14_4 := blk_frozen BK117.out 4
   go_wp2_with (first | ((with_reducible refine gate_callee (f := 68) rfl ?_); refine goesL_ (some 5) rfl rfl Tryz.func68 (by kernel_rfl) rfl #[.int .i64 a0_0] rfl xS ?_; (with_reducible refine (armadaref07_num.calls a0_0 true _ A4.out).mono ?_); rintro e w' ⟨rfl, ⟨nd, rfl⟩⟩; refine ⟨_, rfl, ?_⟩) | (go_at_call 68; (with_reducible refine (armadaref07_num.calls a0_1 false _ A6.out).mono ?_); rintro e w' ⟨rfl, ⟨nd, rfl⟩⟩))
   go_meet
   case rel => exact ⟨_, (true), xR, H', ⟨by first | omega | exact Nat.le_refl _⟩, ⟨by (with_reducible repeat (first | refine blk_drewN ?_ _ | refine blk_drew ?_ | refine blk_alloc ?_ _)); exact BK117.out⟩, ⟨xB⟩⟩
  replace c5 := Bool.eq_false_iff.mpr c5
  subst c5
  rw [if_neg (show ¬ (false = true) by decide)] at H
  have H' := Aside0.mk H
  clear H
  have hcz15_0 : w3.cell? ⟨gb117, 0, none⟩ = some (.int .i64 a0_0) := (blk_cell BK117.out 0).trans rfl
  have hcz15_1 : w3.cell? ⟨gb117, 1, none⟩ = some (.int .i64 a0_1) := (blk_cell BK117.out 1).trans rfl
  have hcz15_2 : w3.cell? ⟨gb117, 2, none⟩ = some (.int .i64 a0_2) := (blk_cell BK117.out 2).trans rfl
  have hcz15_3 : w3.cell? ⟨gb117, 3, none⟩ = some (.string a0_3) := (blk_cell BK117.out 3).trans rfl
  have hcz15_4 : w3.cell? ⟨gb117, 4, none⟩ = some (.string a0_4) := (blk_cell BK117.out 4).trans rfl
  have hfz15_0 := blk_frozen BK117.out 0
  have hfz15_1 := blk_frozen BK117.out 1
  have hfz15_2 := blk_frozen BK117.out 2
  have hfz15_3 := blk_frozen BK117.out 3
  have hfz15_4 := blk_frozen BK117.out 4
  go_wp2_with (first | ((with_reducible refine gate_callee (f := 68) rfl ?_); refine goesL_ (some 5) rfl rfl Tryz.func68 (by kernel_rfl) rfl #[.int .i64 a0_0] rfl xS ?_; (with_reducible refine (armadaref07_num.calls a0_0 false _ A4.out).mono ?_); rintro e w' ⟨rfl, ⟨nd, rfl⟩⟩; refine ⟨_, rfl, ?_⟩))
  go_meet
  case rel => exact ⟨_, (true), xR, H', ⟨by first | omega | exact Nat.le_refl _⟩, ⟨by (with_reducible repeat (first | refine blk_drewN ?_ _ | refine blk_drew ?_ | refine blk_alloc ?_ _)); exact BK117.out⟩, ⟨xB⟩⟩
 case rest =>
  clear HC2
  try clear c1
  try clear p2
  try clear c5
  try clear c6
  try clear c7
  try clear c9
  try clear c10
  try clear c10b0
  try clear c10b1
  try clear hcz11_0
  try clear hcz11_1
  try clear hcz11_2
  try clear hcz11_3
  try clear hcz11_4
  try clear hcz12_0
  try clear hcz12_1
  try clear hcz12_2
  try clear hcz12_3
  try clear hcz12_4
  try clear hcz13_0
  try clear hcz13_1
  try clear hcz13_2
  try clear hcz13_3
  try clear hcz13_4
  try clear hcz14_0
  try clear hcz14_1
  try clear hcz14_2
  try clear hcz14_3
  try clear hcz14_4
  try clear hcz15_0
  try clear hcz15_1
  try clear hcz15_2
  try clear hcz15_3
  try clear hcz15_4
  try clear hfz11_0
  try clear hfz11_1
  try clear hfz11_2
  try clear hfz11_3
  try clear hfz11_4
  try clear hfz12_0
  try clear hfz12_1
  try clear hfz12_2
  try clear hfz12_3
  try clear hfz12_4
  try clear hfz13_0
  try clear hfz13_1
  try clear hfz13_2
  try clear hfz13_3
  try clear hfz13_4
  try clear hfz14_0
  try clear hfz14_1
  try clear hfz14_2
  try clear hfz14_3
  try clear hfz14_4
  try clear hfz15_0
  try clear hfz15_1
  try clear hfz15_2
  try clear hfz15_3
  try clear hfz15_4
  obtain ⟨kq, x30_1, rfl, HA, HJ1, BK117, HB⟩ := hcut
  cases kq with
  | zero => exact absurd HA.out (by simp [armadaref07_Check.j0])
  | succ kj1 =>
   have H := HA.out
   clear HA
   simp only [armadaref07_Check.j0] at H
   by_cases c16 : x30_1 = true
   ·
    subst c16
    rw [if_pos rfl] at H
    obtain rfl := Option.some.inj H
    go_wp2
    go_ret
    exact ⟨by first | rfl | (simp [errW_none, errW_some] <;> rfl) | (simp [*, errW_none, errW_some] <;> rfl) | (simp [isEmpty_bne]; done), xB⟩
   replace c16 := Bool.eq_false_iff.mpr c16
   subst c16
   rw [if_neg (show ¬ (false = true) by decide)] at H
   by_cases c17 : a0_3.toList = ([] : List UInt8)
   ·
    rw [if_pos c17] at H
    have c17b0 := beq_iff_eq.mpr c17
    have c17b1 := bne_eq_false_iff_eq.mpr c17
    clear c17
    by_cases c18 : a0_4.toList = ([] : List UInt8)
    ·
     rw [if_pos c18] at H
     have c18b0 := beq_iff_eq.mpr c18
     have c18b1 := bne_eq_false_iff_eq.mpr c18
     clear c18
     obtain rfl := Option.some.inj H
     have hcz19_0 : wc.cell? ⟨gb117, 0, none⟩ = some (.int .i64 a0_0) := (blk_cell BK117.out 0).trans rfl
     have hcz19_1 : wc.cell? ⟨gb117, 1, none⟩ = some (.int .i64 a0_1) := (blk_cell BK117.out 1).trans rfl
     have hcz19_2 : wc.cell? ⟨gb117, 2, none⟩ = some (.int .i64 a0_2) := (blk_cell BK117.out 2).trans rfl
     have hcz19_3 : wc.cell? ⟨gb117, 3, none⟩ = some (.string a0_3) := (blk_cell BK117.out 3).trans rfl
     have hcz19_4 : wc.cell? ⟨gb117, 4, none⟩ = some (.string a0_4) := (blk_cell BK117.out 4).trans rfl
     have hfz19_0 := blk_frozen BK117.out 0
     have hfz19_1 := blk_frozen BK117.out 1
     have hfz19_2 := blk_frozen BK117.out 2
     have hfz19_3 := blk_frozen BK117.out 3
     have hfz19_4 := blk_frozen BK117.out 4
     go_wp2
     go_ret
     exact ⟨by first | rfl | (simp [errW_none, errW_some] <;> rfl) | (simp [*, errW_none, errW_some] <;> rfl) | (simp [isEmpty_bne]; done), xB⟩
    rw [if_neg c18] at H
    have c18b0 := beq_eq_false_iff_ne.mpr c18
    have c18b1 := bne_iff_ne.mpr c18
    replace H := xb H
    obtain ⟨t121, A20, H⟩ := H
    obtain rfl := Option.some.inj H
    have hcz21_0 : wc.cell? ⟨gb117, 0, none⟩ = some (.int .i64 a0_0) := (blk_cell BK117.out 0).trans rfl
    have hcz21_1 : wc.cell? ⟨gb117, 1, none⟩ = some (.int .i64 a0_1) := (blk_cell BK117.out 1).trans rfl
    have hcz21_2 : wc.cell? ⟨gb117, 2, none⟩ = some (.int .i64 a0_2) := (blk_cell BK117.out 2).trans rfl
    have hcz21_3 : wc.cell? ⟨gb117, 3, none⟩ = some (.string a0_3) := (blk_cell BK117.out 3).trans rfl
    have hcz21_4 : wc.cell? ⟨gb117, 4, none⟩ = some (.string a0_4) := (blk_cell BK117.out 4).trans rfl
    have hfz21_0 := blk_frozen BK117.out 0
    have hfz21_1 := blk_frozen BK117.out 1
    have hfz21_2 := blk_frozen BK117.out 2
    have hfz21_3 := blk_frozen BK117.out 3
    have hfz21_4 := blk_frozen BK117.out 4
    go_wp2_with (first | (go_at_call 69; (with_reducible refine (armadaref07_identifiers.calls kj1 a0_4 true t121 _ A20.out).mono ?_); rintro e w22 ⟨rfl, hb⟩; replace BK117 := Aside0.mk (blk_below (g := gb117) (o := .cells #[.int .i64 a0_0, .int .i64 a0_1, .int .i64 a0_2, .string a0_3, .string a0_4] 25 (0, 0)) xK hb); replace HB := Aside0.mk (below_step xB hb); (try clear hb); (try clear hb2); (try clear hk); (try clear hi)))
    go_ret
    exact ⟨by first | rfl | (simp [errW_none, errW_some] <;> rfl) | (simp [*, errW_none, errW_some] <;> rfl) | (simp [isEmpty_bne]; done), xB⟩
   rw [if_neg c17] at H
   have c17b0 := beq_eq_false_iff_ne.mpr c17
   have c17b1 := bne_iff_ne.mpr c17
   replace H := xb H
   obtain ⟨t122, A23, H⟩ := H
   by_cases c24 : t122 = true
   ·
    subst c24
    rw [if_pos rfl] at H
    by_cases c25 : a0_4.toList = ([] : List UInt8)
    ·
     rw [if_pos c25] at H
     have c25b0 := beq_iff_eq.mpr c25
     have c25b1 := bne_eq_false_iff_eq.mpr c25
     clear c25
     obtain rfl := Option.some.inj H
     have hcz26_0 : wc.cell? ⟨gb117, 0, none⟩ = some (.int .i64 a0_0) := (blk_cell BK117.out 0).trans rfl
     have hcz26_1 : wc.cell? ⟨gb117, 1, none⟩ = some (.int .i64 a0_1) := (blk_cell BK117.out 1).trans rfl
     have hcz26_2 : wc.cell? ⟨gb117, 2, none⟩ = some (.int .i64 a0_2) := (blk_cell BK117.out 2).trans rfl
     have hcz26_3 : wc.cell? ⟨gb117, 3, none⟩ = some (.string a0_3) := (blk_cell BK117.out 3).trans rfl
     have hcz26_4 : wc.cell? ⟨gb117, 4, none⟩ = some (.string a0_4) := (blk_cell BK117.out 4).trans rfl
     have hfz26_0 := blk_frozen BK117.out 0
     have hfz26_1 := blk_frozen BK117.out 1
     have hfz26_2 := blk_frozen BK117.out 2
     have hfz26_3 := blk_frozen BK117.out 3
     have hfz26_4 := blk_frozen BK117.out 4
     go_wp2_with (first | (go_at_call 69; (with_reducible refine (armadaref07_identifiers.calls kj1 a0_3 false true _ A23.out).mono ?_); rintro e w27 ⟨rfl, hb⟩; replace BK117 := Aside0.mk (blk_below (g := gb117) (o := .cells #[.int .i64 a0_0, .int .i64 a0_1, .int .i64 a0_2, .string a0_3, .string a0_4] 25 (0, 0)) xK hb); replace HB := Aside0.mk (below_step xB hb); (try clear hb); (try clear hb2); (try clear hk); (try clear hi); obtain ⟨hcz28_0, hcz28_1, hcz28_2, hcz28_3, hcz28_4⟩ := xC5 BK117.out; obtain ⟨hfz28_0, hfz28_1, hfz28_2, hfz28_3, hfz28_4⟩ := xF5 BK117.out))
     go_ret
     exact ⟨by first | rfl | (simp [errW_none, errW_some] <;> rfl) | (simp [*, errW_none, errW_some] <;> rfl) | (simp [isEmpty_bne]; done), xB⟩
    rw [if_neg c25] at H
    have c25b0 := beq_eq_false_iff_ne.mpr c25
    have c25b1 := bne_iff_ne.mpr c25
    replace H := xb H
    obtain ⟨t123, A29, H⟩ := H
    obtain rfl := Option.some.inj H
    have hcz30_0 : wc.cell? ⟨gb117, 0, none⟩ = some (.int .i64 a0_0) := (blk_cell BK117.out 0).trans rfl
    have hcz30_1 : wc.cell? ⟨gb117, 1, none⟩ = some (.int .i64 a0_1) := (blk_cell BK117.out 1).trans rfl
    have hcz30_2 : wc.cell? ⟨gb117, 2, none⟩ = some (.int .i64 a0_2) := (blk_cell BK117.out 2).trans rfl
    have hcz30_3 : wc.cell? ⟨gb117, 3, none⟩ = some (.string a0_3) := (blk_cell BK117.out 3).trans rfl
    have hcz30_4 : wc.cell? ⟨gb117, 4, none⟩ = some (.string a0_4) := (blk_cell BK117.out 4).trans rfl
    have hfz30_0 := blk_frozen BK117.out 0
    have hfz30_1 := blk_frozen BK117.out 1
    have hfz30_2 := blk_frozen BK117.out 2
    have hfz30_3 := blk_frozen BK117.out 3
    have hfz30_4 := blk_frozen BK117.out 4
    go_wp2_with (first | (go_at_call 69; (with_reducible refine (armadaref07_identifiers.calls kj1 a0_3 false true _ A23.out).mono ?_); rintro e w31 ⟨rfl, hb⟩; replace BK117 := Aside0.mk (blk_below (g := gb117) (o := .cells #[.int .i64 a0_0, .int .i64 a0_1, .int .i64 a0_2, .string a0_3, .string a0_4] 25 (0, 0)) xK hb); replace HB := Aside0.mk (below_step xB hb); (try clear hb); (try clear hb2); (try clear hk); (try clear hi); obtain ⟨hcz32_0, hcz32_1, hcz32_2, hcz32_3, hcz32_4⟩ := xC5 BK117.out; obtain ⟨hfz32_0, hfz32_1, hfz32_2, hfz32_3, hfz32_4⟩ := xF5 BK117.out) | (go_at_call 69; (with_reducible refine (armadaref07_identifiers.calls kj1 a0_4 true t123 _ A29.out).mono ?_); rintro e w33 ⟨rfl, hb⟩; replace BK117 := Aside0.mk (blk_below (g := gb117) (o := .cells #[.int .i64 a0_0, .int .i64 a0_1, .int .i64 a0_2, .string a0_3, .string a0_4] 25 (0, 0)) xK hb); replace HB := Aside0.mk (below_step xB hb); (try clear hb); (try clear hb2); (try clear hk); (try clear hi)))
    go_ret
    exact ⟨by first | rfl | (simp [errW_none, errW_some] <;> rfl) | (simp [*, errW_none, errW_some] <;> rfl) | (simp [isEmpty_bne]; done), xB⟩
   replace c24 := Bool.eq_false_iff.mpr c24
   subst c24
   rw [if_neg (show ¬ (false = true) by decide)] at H
   obtain rfl := Option.some.inj H
   have hcz34_0 : wc.cell? ⟨gb117, 0, none⟩ = some (.int .i64 a0_0) := (blk_cell BK117.out 0).trans rfl
   have hcz34_1 : wc.cell? ⟨gb117, 1, none⟩ = some (.int .i64 a0_1) := (blk_cell BK117.out 1).trans rfl
   have hcz34_2 : wc.cell? ⟨gb117, 2, none⟩ = some (.int .i64 a0_2) := (blk_cell BK117.out 2).trans rfl
   have hcz34_3 : wc.cell? ⟨gb117, 3, none⟩ = some (.string a0_3) := (blk_cell BK117.out 3).trans rfl
   have hcz34_4 : wc.cell? ⟨gb117, 4, none⟩ = some (.string a0_4) := (blk_cell BK117.out 4).trans rfl
   have hfz34_0 := blk_frozen BK117.out 0
   have hfz34_1 := blk_frozen BK117.out 1
   have hfz34_2 := blk_frozen BK117.out 2
   have hfz34_3 := blk_frozen BK117.out 3
   have hfz34_4 := blk_frozen BK117.out 4
   go_wp2_with (first | (go_at_call 69; (with_reducible refine (armadaref07_identifiers.calls kj1 a0_3 false false _ A23.out).mono ?_); rintro e w35 ⟨rfl, hb⟩; replace BK117 := Aside0.mk (blk_below (g := gb117) (o := .cells #[.int .i64 a0_0, .int .i64 a0_1, .int .i64 a0_2, .string a0_3, .string a0_4] 25 (0, 0)) xK hb); replace HB := Aside0.mk (below_step xB hb); (try clear hb); (try clear hb2); (try clear hk); (try clear hi)))
   go_ret
   exact ⟨by first | rfl | (simp [errW_none, errW_some] <;> rfl) | (simp [*, errW_none, errW_some] <;> rfl) | (simp [isEmpty_bne]; done), xB⟩
def armadaref08_tells.l0 : Nat → ByteArray → Int → Option (Bool)
 | 0, _, _ => none
 | k + 1, x0, x3 => if x3 < (x0.size : Int) then (if 0 ≤ x3 then (if (bt x0 x3) < 48 then (some false) else (if (bt x0 x3) > 57 then (some false) else (armadaref08_tells.l0 k x0 (wrap64 (x3 + 1))))) else (none)) else (if (x0.size : Int) > 1 then (if 0 < (x0.size : Int) then (some ((bt x0 0) == 118)) else (none)) else (some false))
def armadaref08_tells.f (k : Nat) (a0 : ByteArray) : Option (Bool) := armadaref08_tells.l0 k a0 1
theorem armadaref08_tells.mono_l : ∀ k, (∀ y0 y1, LeO (armadaref08_tells.l0 k y0 y1) (armadaref08_tells.l0 (k + 1) y0 y1))
 | 0 => fun _ _ r h => by simp [armadaref08_tells.l0] at h
 | k + 1 => by
  have ih0 := armadaref08_tells.mono_l k
  ·
   intro y0 y1
   unfold armadaref08_tells.l0
   exact xM
theorem armadaref08_tells.mono : ∀ a0 k, LeO (armadaref08_tells.f k a0) (armadaref08_tells.f (k + 1) a0) := by
 intro a0 k
 have ih0 := armadaref08_tells.mono_l k
 unfold armadaref08_tells.f
 exact xM
set_option maxHeartbeats 8000000 in
set_option maxRecDepth 100000 in
theorem armadaref08_tells.calls (k : Nat) (a0 : ByteArray) (r : Bool) (w : World) (h : armadaref08_tells.f k a0 = some r) :
  Calls Tryz.prog 95 #[.string a0] w fun e w' => e = .returned (.bool r) ∧ Drawn0 w w' := by
 have H : (armadaref08_tells.l0 k a0 1) = some r := h
 clear h
 have H' := Aside0.mk H
 clear H
 go_enter Tryz.func95, Tryz.ntmps95
 go_wp2
 go_loopg [3] k (fun kq v3 w' => ∃ (x3_1 : Int), v3 = .int .i64 x3_1 ∧ Aside0 (armadaref08_tells.l0 kq a0 x3_1 = some r) ∧ Aside0 (kq ≤ k) ∧ Drawn0 w w')
 case atStart => exact ⟨(1), xR, H', ⟨Nat.le_refl _⟩, by repeat (first | exact Drawn0.refl _ | apply Drawn0.step)⟩
 case round =>
  clear H'
  obtain ⟨x3_1, rfl, HA, HK1, ⟨m1, rfl⟩⟩ := hrel
  cases gk with
  | zero => exact absurd HA.out (by simp [armadaref08_tells.l0])
  | succ k1 =>
   have H := HA.out
   clear HA
   simp only [armadaref08_tells.l0] at H
   by_cases c2 : x3_1 < (a0.size : Int)
   ·
    rw [if_pos c2] at H
    have c2b0 := decide_eq_true c2
    clear c2
    replace H := xI H
    obtain ⟨c3, H⟩ := H
    have c3b0 := decide_eq_true c3
    clear c3
    by_cases c5 : (bt a0 x3_1) < 48
    ·
     rw [if_pos c5] at H
     have c5b0 := decide_eq_true c5
     clear c5
     obtain rfl := Option.some.inj H
     have p4 : 0 ≤ (x3_1 : Int) := xD
     have q4 : x3_1 < (a0.size : Int) := xD
     have hx4 := bt_at a0 x3_1
     replace p4 := eq_true p4
     replace q4 := eq_true q4
     go_wp2
     go_ret
     exact ⟨xR, by repeat (first | exact Drawn0.refl _ | apply Drawn0.step)⟩
    rw [if_neg c5] at H
    have c5b0 := decide_eq_false c5
    clear c5
    by_cases c7 : (bt a0 x3_1) > 57
    ·
     rw [if_pos c7] at H
     have c7b0 := decide_eq_true c7
     clear c7
     obtain rfl := Option.some.inj H
     have p4 : 0 ≤ (x3_1 : Int) := xD
     have q4 : x3_1 < (a0.size : Int) := xD
     have hx4 := bt_at a0 x3_1
     replace p4 := eq_true p4
     replace q4 := eq_true q4
     have p6 : 0 ≤ (x3_1 : Int) := xD
     have q6 : x3_1 < (a0.size : Int) := xD
     have hx6 := bt_at a0 x3_1
     replace p6 := eq_true p6
     replace q6 := eq_true q6
     go_wp2
     go_ret
     exact ⟨xR, by repeat (first | exact Drawn0.refl _ | apply Drawn0.step)⟩
    rw [if_neg c7] at H
    have c7b0 := decide_eq_false c7
    clear c7
    have H' := Aside0.mk H
    clear H
    have p4 : 0 ≤ (x3_1 : Int) := xD
    have q4 : x3_1 < (a0.size : Int) := xD
    have hx4 := bt_at a0 x3_1
    replace p4 := eq_true p4
    replace q4 := eq_true q4
    have p6 : 0 ≤ (x3_1 : Int) := xD
    have q6 : x3_1 < (a0.size : Int) := xD
    have hx6 := bt_at a0 x3_1
    replace p6 := eq_true p6
    replace q6 := eq_true q6
    go_wp2
    go_roundg k1
    case measure => have := HK1.out; omega
    case rel => exact ⟨(wrap64 (x3_1 + 1)), xR, H', ⟨by have := HK1.out; omega⟩, by repeat (first | exact Drawn0.refl _ | apply Drawn0.step)⟩
   rw [if_neg c2] at H
   have c2b0 := decide_eq_false c2
   clear c2
   by_cases c8 : (a0.size : Int) > 1
   ·
    rw [if_pos c8] at H
    have c8b0 := decide_eq_true c8
    have c8b1 : decide (1 < a0.size) = true := decide_eq_true (by omega)
    clear c8
    replace H := xI H
    obtain ⟨c9, H⟩ := H
    have c9b0 := decide_eq_true c9
    have c9b1 : decide (0 < a0.size) = true := decide_eq_true (by omega)
    clear c9
    obtain rfl := Option.some.inj H
    have p10 : 0 ≤ (0 : Int) := (by omega)
    have q10 : 0 < a0.size := (by have : (0 : Int) < (a0.size : Int) := xD; omega)
    have hx10 : ∀ h : 0 < a0.size, ((a0[0]'h).toNat : Int) = bt a0 0 := bt_at a0 0
    clear p10
    have qi10 : (0 < (a0.size : Int)) = True := eq_true (xD)
    replace q10 := eq_true q10
    go_wp2
    go_ret
    exact ⟨xR, by repeat (first | exact Drawn0.refl _ | apply Drawn0.step)⟩
   rw [if_neg c8] at H
   have c8b0 := decide_eq_false c8
   have c8b1 : decide (1 < a0.size) = false := decide_eq_false (by omega)
   clear c8
   obtain rfl := Option.some.inj H
   go_wp2
   go_ret
   exact ⟨xR, by repeat (first | exact Drawn0.refl _ | apply Drawn0.step)⟩
mutual
def armadaref08_number.j0 : Nat → ByteArray → Int → Bool → Option (Int)
 | 0, _, _, _ => none
 | k + 1, x0, x3, x12 => if x12 = true then (some 0) else (armadaref08_number.l0 k x0 x3 1)
def armadaref08_number.l0 : Nat → ByteArray → Int → Int → Option (Int)
 | 0, _, _, _ => none
 | k + 1, x0, x3, x4 => if x4 < (x0.size : Int) then (if 0 ≤ x4 then (armadaref08_number.l0 k x0 (wrap64 ((wrap64 ((wrap64 (10 * x3)) + (wrap64 (bt x0 x4)))) - 48)) (wrap64 (x4 + 1))) else (none)) else (if x3 < 2 then (some 0) else (some x3))
end
def armadaref08_number.f (k : Nat) (a0 : ByteArray) : Option (Int) := if (a0.size : Int) > 10 then (armadaref08_number.j0 k a0 0 true) else (if 1 < (a0.size : Int) then (armadaref08_number.j0 k a0 0 ((bt a0 1) == 48)) else (none))
theorem armadaref08_number.mono_l : ∀ k, (∀ y0 y1 y2, LeO (armadaref08_number.j0 k y0 y1 y2) (armadaref08_number.j0 (k + 1) y0 y1 y2)) ∧ (∀ y0 y1 y2, LeO (armadaref08_number.l0 k y0 y1 y2) (armadaref08_number.l0 (k + 1) y0 y1 y2))
 | 0 => ⟨fun _ _ _ r h => by simp [armadaref08_number.j0] at h, fun _ _ _ r h => by simp [armadaref08_number.l0] at h⟩
 | k + 1 => by
  obtain ⟨ih0, ih1⟩ := armadaref08_number.mono_l k
  refine ⟨?_, ?_⟩
  ·
   intro y0 y1 y2
   unfold armadaref08_number.j0
   exact xM
  ·
   intro y0 y1 y2
   unfold armadaref08_number.l0
   exact xM
theorem armadaref08_number.mono : ∀ a0 k, LeO (armadaref08_number.f k a0) (armadaref08_number.f (k + 1) a0) := by
 intro a0 k
 obtain ⟨ih0, ih1⟩ := armadaref08_number.mono_l k
 unfold armadaref08_number.f
 exact xM
set_option maxHeartbeats 8000000 in
set_option maxRecDepth 100000 in
theorem armadaref08_number.calls (k : Nat) (a0 : ByteArray) (r : Int) (w : World) (h : armadaref08_number.f k a0 = some r) :
  Calls Tryz.prog 97 #[.string a0] w fun e w' => e = .returned (.int .i64 r) ∧ Drawn0 w w' := by
 have H : (if (a0.size : Int) > 10 then (armadaref08_number.j0 k a0 0 true) else (if 1 < (a0.size : Int) then (armadaref08_number.j0 k a0 0 ((bt a0 1) == 48)) else (none))) = some r := h
 clear h
 have HC2 := Aside0.mk H
 clear H
 go_enter Tryz.func97, Tryz.ntmps97
 go_upto_region 2 with (fail)
 go_cut [12] (fun v12 wc => ∃ (kq : Nat) (x12_1 : Bool), v12 = .bool x12_1 ∧ Aside0 (armadaref08_number.j0 kq a0 0 x12_1 = some r) ∧ Aside0 (kq ≤ k) ∧ Drawn0 w wc)
 case first =>
  have H := HC2.out
  clear HC2
  by_cases c3 : (a0.size : Int) > 10
  ·
   rw [if_pos c3] at H
   have c3b0 := decide_eq_true c3
   have c3b1 : decide (10 < a0.size) = true := decide_eq_true (by omega)
   clear c3
   (first | rw [c3b0] | (simp only [i64_w, i32_w]; rw [c3b0]) | skip)
   have H' := Aside0.mk H
   clear H
   go_wp2
   go_meet
   case rel => exact ⟨_, (true), xR, H', ⟨by first | omega | exact Nat.le_refl _⟩, by repeat (first | exact Drawn0.refl _ | apply Drawn0.step)⟩
  rw [if_neg c3] at H
  have c3b0 := decide_eq_false c3
  have c3b1 : decide (10 < a0.size) = false := decide_eq_false (by omega)
  clear c3
  (first | rw [c3b0] | (simp only [i64_w, i32_w]; rw [c3b0]) | skip)
  replace H := xI H
  obtain ⟨c4, H⟩ := H
  have c4b0 := decide_eq_true c4
  have c4b1 : decide (1 < a0.size) = true := decide_eq_true (by omega)
  clear c4
  have H' := Aside0.mk H
  clear H
  have p5 : 0 ≤ (1 : Int) := (by omega)
  have q5 : 1 < a0.size := (by have : (1 : Int) < (a0.size : Int) := xD; omega)
  have hx5 : ∀ h : 1 < a0.size, ((a0[1]'h).toNat : Int) = bt a0 1 := bt_at a0 1
  clear p5
  have qi5 : (1 < (a0.size : Int)) = True := eq_true (xD)
  replace q5 := eq_true q5
  go_wp2
  go_meet
  case rel => exact ⟨_, (((bt a0 1) == 48)), xR, H', ⟨by first | omega | exact Nat.le_refl _⟩, by repeat (first | exact Drawn0.refl _ | apply Drawn0.step)⟩
 case rest =>
  clear HC2
  try clear p2
  try clear c3
  try clear c3b0
  try clear c3b1
  try clear c4
  try clear c4b0
  try clear c4b1
  try clear p5
  try clear q5
  try clear hx5
  try clear qi5
  try clear p5
  try clear q5
  obtain ⟨kq, x12_1, rfl, HA, HJ1, ⟨mc1, rfl⟩⟩ := hcut
  cases kq with
  | zero => exact absurd HA.out (by simp [armadaref08_number.j0])
  | succ kj1 =>
   have H := HA.out
   clear HA
   simp only [armadaref08_number.j0] at H
   by_cases c6 : x12_1 = true
   ·
    subst c6
    rw [if_pos rfl] at H
    obtain rfl := Option.some.inj H
    go_wp2
    go_ret
    exact ⟨xR, by repeat (first | exact Drawn0.refl _ | apply Drawn0.step)⟩
   replace c6 := Bool.eq_false_iff.mpr c6
   subst c6
   rw [if_neg (show ¬ (false = true) by decide)] at H
   have H' := Aside0.mk H
   clear H
   go_wp2
   go_loopg [3, 4] kj1 (fun kq v3 v4 w' => ∃ (x3_2 : Int) (x4_2 : Int), v3 = .int .i64 x3_2 ∧ v4 = .int .i64 x4_2 ∧ Aside0 (armadaref08_number.l0 kq a0 x3_2 x4_2 = some r) ∧ Aside0 (kq ≤ kj1) ∧ Drawn0 w w')
   case atStart => exact ⟨(0), (1), xR, xR, H', ⟨Nat.le_refl _⟩, by repeat (first | exact Drawn0.refl _ | apply Drawn0.step)⟩
   case round =>
    clear H'
    try clear c1
    try clear p2
    try clear c3
    try clear c3b0
    try clear c3b1
    try clear c4
    try clear c4b0
    try clear c4b1
    try clear p5
    try clear q5
    try clear hx5
    try clear qi5
    try clear c6
    try clear p2
    try clear p5
    try clear q5
    obtain ⟨x3_2, x4_2, rfl, rfl, HA, HK2, ⟨m2, rfl⟩⟩ := hrel
    cases gk with
    | zero => exact absurd HA.out (by simp [armadaref08_number.l0])
    | succ k2 =>
     have H := HA.out
     clear HA
     simp only [armadaref08_number.l0] at H
     by_cases c7 : x4_2 < (a0.size : Int)
     ·
      rw [if_pos c7] at H
      have c7b0 := decide_eq_true c7
      clear c7
      replace H := xI H
      obtain ⟨c8, H⟩ := H
      have c8b0 := decide_eq_true c8
      clear c8
      have H' := Aside0.mk H
      clear H
      have p9 : 0 ≤ (x4_2 : Int) := xD
      have q9 : x4_2 < (a0.size : Int) := xD
      have hx9 := bt_at a0 x4_2
      replace p9 := eq_true p9
      replace q9 := eq_true q9
      go_wp2
      go_roundg k2
      case measure => have := HJ1.out; have := HK2.out; omega
      case rel => exact ⟨(wrap64 ((wrap64 ((wrap64 (10 * x3_2)) + (wrap64 (bt a0 x4_2)))) - 48)), (wrap64 (x4_2 + 1)), xR, xR, H', ⟨by have := HJ1.out; have := HK2.out; omega⟩, by repeat (first | exact Drawn0.refl _ | apply Drawn0.step)⟩
     rw [if_neg c7] at H
     have c7b0 := decide_eq_false c7
     clear c7
     by_cases c10 : x3_2 < 2
     ·
      rw [if_pos c10] at H
      have c10b0 := decide_eq_true c10
      clear c10
      obtain rfl := Option.some.inj H
      go_wp2
      go_ret
      exact ⟨xR, by repeat (first | exact Drawn0.refl _ | apply Drawn0.step)⟩
     rw [if_neg c10] at H
     have c10b0 := decide_eq_false c10
     clear c10
     obtain rfl := Option.some.inj H
     go_wp2
     go_ret
     exact ⟨xR, by repeat (first | exact Drawn0.refl _ | apply Drawn0.step)⟩
end Go.Proofs.YtkidfclnakbgiaaGreatDoor.RD
end
