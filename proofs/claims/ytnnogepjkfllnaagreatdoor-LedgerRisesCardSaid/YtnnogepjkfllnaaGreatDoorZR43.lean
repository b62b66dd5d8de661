/- The texts RDx5 in one file, without what this claim does not use (put together by prune.py). -/
import Derived.Test.YtnnogepjkfllnaaGreatDoorZR38
import Derived.Test.YtnnogepjkfllnaaGreatDoorZR41
import Derived.Test.YtnnogepjkfllnaaGreatDoorZR42
section
namespace Go.Proofs.YtnnogepjkfllnaaGreatDoor.RD
open Go.RowKit Go.Proofs.YtnnogepjkfllnaaGreatDoor Go.Proofs.YtnnogepjkfllnaaGreatDoor.K0 Go.Proofs.YtnnogepjkfllnaaGreatDoorW.PrintWords Go.Proofs.YtnnogepjkfllnaaGreatDoorW.PrintLast Go.Proofs.YtnnogepjkfllnaaGreatDoorW.PrintMore
attribute [local go_sem] max2_int min2_int max_two min_two max_three min_three max_four min_four
set_option linter.unusedVariables false
set_option linter.unusedSimpArgs false
def armadaref07_Check.j0 : Nat → Bool → Int → Int → Int → ByteArray → ByteArray → Option (Bool)
 | 0, _, _, _, _, _, _ => none
 | k + 1, x30, x139000, x139001, x139002, x139003, x139004 => if x30 = true then (some false) else (if x139003.toList = ([] : List UInt8) then (if x139004.toList = ([] : List UInt8) then (some true) else ((armadaref07_identifiers.f k x139004 true).bind fun t142 => (some t142))) else ((armadaref07_identifiers.f k x139003 false).bind fun t143 => (if t143 = true then (if x139004.toList = ([] : List UInt8) then (some true) else ((armadaref07_identifiers.f k x139004 true).bind fun t144 => (some t144))) else (some false))))
def armadaref07_Check.f (k : Nat) (a0_0 : Int) (a0_1 : Int) (a0_2 : Int) (a0_3 : ByteArray) (a0_4 : ByteArray) : Option (Bool) := (armadaref07_num.f a0_0).bind fun t139 => (if t139 = true then ((armadaref07_num.f a0_1).bind fun t140 => (if t140 = true then ((armadaref07_num.f a0_2).bind fun t141 => (if t141 = true then (if (a0_3.size : Int) > 30 then (armadaref07_Check.j0 k true a0_0 a0_1 a0_2 a0_3 a0_4) else (armadaref07_Check.j0 k (decide ((a0_4.size : Int) > 30)) a0_0 a0_1 a0_2 a0_3 a0_4)) else (armadaref07_Check.j0 k true a0_0 a0_1 a0_2 a0_3 a0_4))) else (armadaref07_Check.j0 k true a0_0 a0_1 a0_2 a0_3 a0_4))) else (armadaref07_Check.j0 k true a0_0 a0_1 a0_2 a0_3 a0_4))
theorem armadaref07_Check.mono_l : ∀ k, (∀ y0 y1 y2 y3 y4 y5, LeO (armadaref07_Check.j0 k y0 y1 y2 y3 y4 y5) (armadaref07_Check.j0 (k + 1) y0 y1 y2 y3 y4 y5))
 | 0 => fun _ _ _ _ _ _ r h => by simp [armadaref07_Check.j0] at h
 | k + 1 => by
  have ih0 := armadaref07_Check.mono_l k
  ·
   intro y0 y1 y2 y3 y4 y5
   unfold armadaref07_Check.j0
   repeat' first
   | (with_reducible exact ih0 _ _ _ _ _ _)
   | (with_reducible exact armadaref07_identifiers.mono _ _ _)
   | (with_reducible exact LeO.refl _)
   | (with_reducible exact LeO.none _)
   | (with_reducible refine LeO.ite ?_ ?_)
   | (with_reducible refine LeO.bind ?_ (fun _ => ?_))
   | exact ih0 _ _ _ _ _ _
   | exact armadaref07_identifiers.mono _ _ _
   | exact LeO.none _
   | refine LeO.ite ?_ ?_
   | refine LeO.bind ?_ (fun _ => ?_)
theorem armadaref07_Check.mono : ∀ a0 a1 a2 a3 a4 k, LeO (armadaref07_Check.f k a0 a1 a2 a3 a4) (armadaref07_Check.f (k + 1) a0 a1 a2 a3 a4) := by
 intro a0 a1 a2 a3 a4 k
 have ih0 := armadaref07_Check.mono_l k
 unfold armadaref07_Check.f
 repeat' first
   | (with_reducible exact ih0 _ _ _ _ _ _)
   | (with_reducible exact armadaref07_identifiers.mono _ _ _)
   | (with_reducible exact LeO.refl _)
   | (with_reducible exact LeO.none _)
   | (with_reducible refine LeO.ite ?_ ?_)
   | (with_reducible refine LeO.bind ?_ (fun _ => ?_))
   | exact ih0 _ _ _ _ _ _
   | exact armadaref07_identifiers.mono _ _ _
   | exact LeO.none _
   | refine LeO.ite ?_ ?_
   | refine LeO.bind ?_ (fun _ => ?_)
set_option maxHeartbeats 8000000 in
set_option maxRecDepth 100000 in
theorem armadaref07_Check.calls (k : Nat) (a0_0 : Int) (a0_1 : Int) (a0_2 : Int) (a0_3 : ByteArray) (a0_4 : ByteArray) (r : Bool) (w : World) (h : armadaref07_Check.f k a0_0 a0_1 a0_2 a0_3 a0_4 = some r) :
  Calls Tryz.prog 35 #[.agg #[.int .i64 a0_0, .int .i64 a0_1, .int .i64 a0_2, .string a0_3, .string a0_4]] w fun e w' => e = .returned (.bool r) ∧ Below w.heap.size w w' := by
 have hu30 := Tryz.underlying30
 have HB := Aside0.mk (Below.refl w.heap.size w)
 have H : ((armadaref07_num.f a0_0).bind fun t139 => (if t139 = true then ((armadaref07_num.f a0_1).bind fun t140 => (if t140 = true then ((armadaref07_num.f a0_2).bind fun t141 => (if t141 = true then (if (a0_3.size : Int) > 30 then (armadaref07_Check.j0 k true a0_0 a0_1 a0_2 a0_3 a0_4) else (armadaref07_Check.j0 k (decide ((a0_4.size : Int) > 30)) a0_0 a0_1 a0_2 a0_3 a0_4)) else (armadaref07_Check.j0 k true a0_0 a0_1 a0_2 a0_3 a0_4))) else (armadaref07_Check.j0 k true a0_0 a0_1 a0_2 a0_3 a0_4))) else (armadaref07_Check.j0 k true a0_0 a0_1 a0_2 a0_3 a0_4))) = some r := h
 clear h
 have HC2 := Aside0.mk H
 clear H
 go_enter Tryz.func35, Tryz.ntmps35
 go_upto_region 1 with (first | ((with_reducible refine gate_dst (N := 1) rfl ?_); (try (refine gate_guard (by rfl) ?_; dsimp only)); refine box_event ?hg (N := 1) ?hd (cs := #[.int .i64 a0_0, .int .i64 a0_1, .int .i64 a0_2, .string a0_3, .string a0_4]) (t := 30) ?hr ?_; (case hd => rfl); (case hg => rfl); (case hr => first | (go_simp; done) | (go_simp; rfl)); intro gb138 hg w3 hbox hb; have BK138 := Aside0.mk (hbox); have GW138 := Aside0.mk ((by rw [hg]; exact (below_size xB) : w.heap.size ≤ gb138)); have GE138 := Aside0.mk ((by rw [hg]; exact (below_size xB) : w.heap.size ≤ gb138)); replace HB := Aside0.mk (below_step xB hb); clear hb hbox hg))
 (try simp only [Act.put, List.setIfInBounds_toArray, List.set_cons_zero, List.set_cons_succ])
 go_cut [30] (fun v30 wc => ∃ (kq : Nat) (x30_1 : Bool), v30 = .bool x30_1 ∧ Aside0 (armadaref07_Check.j0 kq x30_1 a0_0 a0_1 a0_2 a0_3 a0_4 = some r) ∧ Aside0 (kq ≤ k) ∧ Aside0 (wc.heap[gb138]? = some (.cells #[.int .i64 a0_0, .int .i64 a0_1, .int .i64 a0_2, .string a0_3, .string a0_4] 30 (0, 0))) ∧ Aside0 (Below w.heap.size w wc))
 case first =>
  have H := HC2.out
  clear HC2
  replace H := xb H
  obtain ⟨t139, A4, H⟩ := H
  by_cases c5 : t139 = true
  ·
   subst c5
   rw [if_pos rfl] at H
   replace H := xb H
   obtain ⟨t140, A6, H⟩ := H
   by_cases c7 : t140 = true
   ·
    subst c7
    rw [if_pos rfl] at H
    replace H := xb H
    obtain ⟨t141, A8, H⟩ := H
    by_cases c9 : t141 = true
    ·
     subst c9
     rw [if_pos rfl] at H
     by_cases c10 : (a0_3.size : Int) > 30
     ·
      rw [if_pos c10] at H
      have c10b0 := decide_eq_true c10
      have c10b1 : decide (30 < a0_3.size) = true := decide_eq_true (by omega)
      clear c10
      (first | rw [c10b0] | (simp only [i64_w, i32_w]; rw [c10b0]) | skip)
      have H' := Aside0.mk H
      clear H
      have hcz11_0 : w3.cell? ⟨gb138, 0, none⟩ = some (.int .i64 a0_0) := (blk_cell BK138.out 0).trans rfl
      have hcz11_1 : w3.cell? ⟨gb138, 1, none⟩ = some (.int .i64 a0_1) := (blk_cell BK138.out 1).trans rfl
      have hcz11_2 : w3.cell? ⟨gb138, 2, none⟩ = some (.int .i64 a0_2) := (blk_cell BK138.out 2).trans rfl
      have hcz11_3 : w3.cell? ⟨gb138, 3, none⟩ = some (.string a0_3) := (blk_cell BK138.out 3).trans rfl
      have hcz11_4 : w3.cell? ⟨gb138, 4, none⟩ = some (.string a0_4) := (blk_cell BK138.out 4).trans rfl
      have hfz11_0 := blk_frozen BK138.out 0
      have hfz11_1 := blk_frozen BK138.out 1
      have hfz11_2 := blk_frozen BK138.out 2
      have hfz11_3 := blk_frozen BK138.out 3
      have hfz11_4 := blk_frozen BK138.out 4
      go_wp2_with (first | ((with_reducible refine gate_callee (f := 60) rfl ?_); refine goesL_ (some 5) rfl rfl Tryz.func60 (by kernel_rfl) rfl #[.int .i64 a0_0] rfl xS ?_; (with_reducible refine (armadaref07_num.calls a0_0 true _ A4.out).mono ?_); rintro e w' ⟨rfl, ⟨nd, rfl⟩⟩; refine ⟨_, rfl, ?_⟩) | (go_at_call 60; (with_reducible refine (armadaref07_num.calls a0_1 true _ A6.out).mono ?_); rintro e w' ⟨rfl, ⟨nd, rfl⟩⟩) | (go_at_call 60; (with_reducible refine (armadaref07_num.calls a0_2 true _ A8.out).mono ?_); rintro e w' ⟨rfl, ⟨nd, rfl⟩⟩))
      go_meet
      case rel => exact ⟨_, (true), xR, H', ⟨by first | omega | exact Nat.le_refl _⟩, ⟨by (with_reducible repeat (first | refine blk_drewN ?_ _ | refine blk_drew ?_ | refine blk_alloc ?_ _)); exact BK138.out⟩, ⟨xB⟩⟩
     rw [if_neg c10] at H
     have c10b0 := decide_eq_false c10
     have c10b1 : decide (30 < a0_3.size) = false := decide_eq_false (by omega)
     clear c10
     (first | rw [c10b0] | (simp only [i64_w, i32_w]; rw [c10b0]) | skip)
     have H' := Aside0.mk H
     clear H
     have hcz12_0 : w3.cell? ⟨gb138, 0, none⟩ = some (.int .i64 a0_0) := (blk_cell BK138.out 0).trans rfl
     have hcz12_1 : w3.cell? ⟨gb138, 1, none⟩ = some (.int .i64 a0_1) := (blk_cell BK138.out 1).trans rfl
     have hcz12_2 : w3.cell? ⟨gb138, 2, none⟩ = some (.int .i64 a0_2) := (blk_cell BK138.out 2).trans rfl
     have hcz12_3 : w3.cell? ⟨gb138, 3, none⟩ = some (.string a0_3) := (blk_cell BK138.out 3).trans rfl
     have hcz12_4 : w3.cell? ⟨gb138, 4, none⟩ = some (.string a0_4) := (blk_cell BK138.out 4).trans rfl
     have hfz12_0 := blk_frozen BK138.out 0
     have hfz12_1 := blk_frozen BK138.out 1
     have hfz12_2 := blk_frozen BK138.out 2
     have hfz12_3 := blk_frozen BK138.out 3
     have hfz12_4 := blk_frozen BK138.out 4
     go_wp2_with (first | ((with_reducible refine gate_callee (f := 60) rfl ?_); refine goesL_ (some 5) rfl rfl Tryz.func60 (by kernel_rfl) rfl #[.int .i64 a0_0] rfl xS ?_; (with_reducible refine (armadaref07_num.calls a0_0 true _ A4.out).mono ?_); rintro e w' ⟨rfl, ⟨nd, rfl⟩⟩; refine ⟨_, rfl, ?_⟩) | (go_at_call 60; (with_reducible refine (armadaref07_num.calls a0_1 true _ A6.out).mono ?_); rintro e w' ⟨rfl, ⟨nd, rfl⟩⟩) | (go_at_call 60; (with_reducible refine (armadaref07_num.calls a0_2 true _ A8.out).mono ?_); rintro e w' ⟨rfl, ⟨nd, rfl⟩⟩))
     go_meet
     case rel => exact ⟨_, (decide ((a0_4.size : Int) > 30)), xR, H', ⟨by first | omega | exact Nat.le_refl _⟩, ⟨by (with_reducible repeat (first | refine blk_drewN ?_ _ | refine blk_drew ?_ | refine blk_alloc ?_ _)); exact BK138.out⟩, ⟨xB⟩⟩
    replace c9 := Bool.eq_false_iff.mpr c9
    subst c9
    rw [if_neg (show ¬ (false = true) by decide)] at H
    have H' := Aside0.mk H
    clear H
    have hcz13_0 : w3.cell? ⟨gb138, 0, none⟩ = some (.int .i64 a0_0) := (blk_cell BK138.out 0).trans rfl
    have hcz13_1 : w3.cell? ⟨gb138, 1, none⟩ = some (.int .i64 a0_1) := (blk_cell BK138.out 1).trans rfl
    have hcz13_2 : w3.cell? ⟨gb138, 2, none⟩ = some (.int .i64 a0_2) := (blk_cell BK138.out 2).trans rfl
    have hcz13_3 : w3.cell? ⟨gb138, 3, none⟩ = some (.string a0_3) := (blk_cell BK138.out 3).trans rfl
    have hcz13_4 : w3.cell? ⟨gb138, 4, none⟩ = some (.string a0_4) := (blk_cell BK138.out 4).trans rfl
    have hfz13_0 := blk_frozen BK138.out 0
    have hfz13_1 := blk_frozen BK138.out 1
    have hfz13_2 := blk_frozen BK138.out 2
    have hfz13_3 := blk_frozen BK138.out 3
    have hfz13_4 := blk_frozen BK138.out 4
    go_wp2_with (first | ((with_reducible refine gate_callee (f := 60) rfl ?_); refine goesL_ (some 5) rfl rfl Tryz.func60 (by kernel_rfl) rfl #[.int .i64 a0_0] rfl xS ?_; (with_reducible refine (armadaref07_num.calls a0_0 true _ A4.out).mono ?_); rintro e w' ⟨rfl, ⟨nd, rfl⟩⟩; refine ⟨_, rfl, ?_⟩) | (go_at_call 60; (with_reducible refine (armadaref07_num.calls a0_1 true _ A6.out).mono ?_); rintro e w' ⟨rfl, ⟨nd, rfl⟩⟩) | (go_at_call 60; (with_reducible refine (armadaref07_num.calls a0_2 false _ A8.out).mono ?_); rintro e w' ⟨rfl, ⟨nd, rfl⟩⟩))
    go_meet
    case rel => exact ⟨_, (true), xR, H', ⟨by first | omega | exact Nat.le_refl _⟩, ⟨by (with_reducible repeat (first | refine blk_drewN ?_ _ | refine blk_drew ?_ | refine blk_alloc ?_ _)); exact BK138.out⟩, ⟨xB⟩⟩
   replace c7 := Bool.eq_false_iff.mpr c7
   subst c7
   rw [if_neg (show ¬ (false = true) by decide)] at H
   have H' := Aside0.mk H
   clear H
   have hcz14_0 : w3.cell? ⟨gb138, 0, none⟩ = some (.int .i64 a0_0) := (blk_cell BK138.out 0).trans rfl
   have hcz14_1 : w3.cell? ⟨gb138, 1, none⟩ = some (.int .i64 a0_1) := (blk_cell BK138.out 1).trans rfl
   have hcz14_2 : w3.cell? ⟨gb138, 2, none⟩ = some (.int .i64 a0_2) := (blk_cell BK138.out 2).trans rfl
   have hcz14_3 : w3.cell? ⟨gb138, 3, none⟩ = some (.string a0_3) := (blk_cell BK138.out 3).trans rfl
   have hcz14_4 : w3.cell? ⟨gb138, 4, none⟩ = some (.string a0_4) := (blk_cell BK138.out 4).trans rfl
   have hfz14_0 := blk_frozen BK138.out 0
   have hfz14_1 := blk_frozen BK138.out 1
   have hfz14_2 := blk_frozen BK138.out 2
   have hfz14_3 := blk_frozen BK138.out 3
   have hfz14_4 := blk_frozen BK138.out 4
   go_wp2_with (first | ((with_reducible refine gate_callee (f := 60) rfl ?_); refine goesL_ (some 5) rfl rfl Tryz.func60 (by kernel_rfl) rfl #[.int .i64 a0_0] rfl xS ?_; (with_reducible refine (armadaref07_num.calls a0_0 true _ A4.out).mono ?_); rintro e w' ⟨rfl, ⟨nd, rfl⟩⟩; refine ⟨_, rfl, ?_⟩) | (go_at_call 60; (with_reducible refine (armadaref07_num.calls a0_1 false _ A6.out).mono ?_); rintro e w' ⟨rfl, ⟨nd, rfl⟩⟩))
   go_meet
   case rel => exact ⟨_, (true), xR, H', ⟨by first | omega | exact Nat.le_refl _⟩, ⟨by (with_reducible repeat (first | refine blk_drewN ?_ _ | refine blk_drew ?_ | refine blk_alloc ?_ _)); exact BK138.out⟩, ⟨xB⟩⟩
  replace c5 := Bool.eq_false_iff.mpr c5
  subst c5
  rw [if_neg (show ¬ (false = true) by decide)] at H
  have H' := Aside0.mk H
  clear H
  have hcz15_0 : w3.cell? ⟨gb138, 0, none⟩ = some (.int .i64 a0_0) := (blk_cell BK138.out 0).trans rfl
  have hcz15_1 : w3.cell? ⟨gb138, 1, none⟩ = some (.int .i64 a0_1) := (blk_cell BK138.out 1).trans rfl
  have hcz15_2 : w3.cell? ⟨gb138, 2, none⟩ = some (.int .i64 a0_2) := (blk_cell BK138.out 2).trans rfl
  have hcz15_3 : w3.cell? ⟨gb138, 3, none⟩ = some (.string a0_3) := (blk_cell BK138.out 3).trans rfl
  have hcz15_4 : w3.cell? ⟨gb138, 4, none⟩ = some (.string a0_4) := (blk_cell BK138.out 4).trans rfl
  have hfz15_0 := blk_frozen BK138.out 0
  have hfz15_1 := blk_frozen BK138.out 1
  have hfz15_2 := blk_frozen BK138.out 2
  have hfz15_3 := blk_frozen BK138.out 3
  have hfz15_4 := blk_frozen BK138.out 4
  go_wp2_with (first | ((with_reducible refine gate_callee (f := 60) rfl ?_); refine goesL_ (some 5) rfl rfl Tryz.func60 (by kernel_rfl) rfl #[.int .i64 a0_0] rfl xS ?_; (with_reducible refine (armadaref07_num.calls a0_0 false _ A4.out).mono ?_); rintro e w' ⟨rfl, ⟨nd, rfl⟩⟩; refine ⟨_, rfl, ?_⟩))
  go_meet
  case rel => exact ⟨_, (true), xR, H', ⟨by first | omega | exact Nat.le_refl _⟩, ⟨by (with_reducible repeat (first | refine blk_drewN ?_ _ | refine blk_drew ?_ | refine blk_alloc ?_ _)); exact BK138.out⟩, ⟨xB⟩⟩
 case rest =>
  clear HC2
  try clear c1
  try clear p2
  try clear c3
  try clear c5
  try clear c6
  try clear c7
  try clear c9
  try clear c10
  try clear c10b0
  try clear c10b1
  try clear hcz11_0
  try clear hcz11_1
  try clear hcz11_2
  try clear hcz11_3
  try clear hcz11_4
  try clear hcz12_0
  try clear hcz12_1
  try clear hcz12_2
  try clear hcz12_3
  try clear hcz12_4
  try clear hcz13_0
  try clear hcz13_1
  try clear hcz13_2
  try clear hcz13_3
  try clear hcz13_4
  try clear hcz14_0
  try clear hcz14_1
  try clear hcz14_2
  try clear hcz14_3
  try clear hcz14_4
  try clear hcz15_0
  try clear hcz15_1
  try clear hcz15_2
  try clear hcz15_3
  try clear hcz15_4
  try clear hfz11_0
  try clear hfz11_1
  try clear hfz11_2
  try clear hfz11_3
  try clear hfz11_4
  try clear hfz12_0
  try clear hfz12_1
  try clear hfz12_2
  try clear hfz12_3
  try clear hfz12_4
  try clear hfz13_0
  try clear hfz13_1
  try clear hfz13_2
  try clear hfz13_3
  try clear hfz13_4
  try clear hfz14_0
  try clear hfz14_1
  try clear hfz14_2
  try clear hfz14_3
  try clear hfz14_4
  try clear hfz15_0
  try clear hfz15_1
  try clear hfz15_2
  try clear hfz15_3
  try clear hfz15_4
  obtain ⟨kq, x30_1, rfl, HA, HJ1, BK138, HB⟩ := hcut
  cases kq with
  | zero => exact absurd HA.out (by simp [armadaref07_Check.j0])
  | succ kj1 =>
   have H := HA.out
   clear HA
   simp only [armadaref07_Check.j0] at H
   by_cases c16 : x30_1 = true
   ·
    subst c16
    rw [if_pos rfl] at H
    obtain rfl := Option.some.inj H
    go_wp2
    go_ret
    exact ⟨by first | rfl | (simp [errW_none, errW_some] <;> rfl) | (simp [*, errW_none, errW_some] <;> rfl) | (simp [isEmpty_bne]; done), xB⟩
   replace c16 := Bool.eq_false_iff.mpr c16
   subst c16
   rw [if_neg (show ¬ (false = true) by decide)] at H
   by_cases c17 : a0_3.toList = ([] : List UInt8)
   ·
    rw [if_pos c17] at H
    have c17b0 := beq_iff_eq.mpr c17
    have c17b1 := bne_eq_false_iff_eq.mpr c17
    clear c17
    by_cases c18 : a0_4.toList = ([] : List UInt8)
    ·
     rw [if_pos c18] at H
     have c18b0 := beq_iff_eq.mpr c18
     have c18b1 := bne_eq_false_iff_eq.mpr c18
     clear c18
     obtain rfl := Option.some.inj H
     have hcz19_0 : wc.cell? ⟨gb138, 0, none⟩ = some (.int .i64 a0_0) := (blk_cell BK138.out 0).trans rfl
     have hcz19_1 : wc.cell? ⟨gb138, 1, none⟩ = some (.int .i64 a0_1) := (blk_cell BK138.out 1).trans rfl
     have hcz19_2 : wc.cell? ⟨gb138, 2, none⟩ = some (.int .i64 a0_2) := (blk_cell BK138.out 2).trans rfl
     have hcz19_3 : wc.cell? ⟨gb138, 3, none⟩ = some (.string a0_3) := (blk_cell BK138.out 3).trans rfl
     have hcz19_4 : wc.cell? ⟨gb138, 4, none⟩ = some (.string a0_4) := (blk_cell BK138.out 4).trans rfl
     have hfz19_0 := blk_frozen BK138.out 0
     have hfz19_1 := blk_frozen BK138.out 1
     have hfz19_2 := blk_frozen BK138.out 2
     have hfz19_3 := blk_frozen BK138.out 3
     have hfz19_4 := blk_frozen BK138.out 4
     go_wp2
     go_ret
     exact ⟨by first | rfl | (simp [errW_none, errW_some] <;> rfl) | (simp [*, errW_none, errW_some] <;> rfl) | (simp [isEmpty_bne]; done), xB⟩
    rw [if_neg c18] at H
    have c18b0 := beq_eq_false_iff_ne.mpr c18
    have c18b1 := bne_iff_ne.mpr c18
    replace H := xb H
    obtain ⟨t142, A20, H⟩ := H
    obtain rfl := Option.some.inj H
    have hcz21_0 : wc.cell? ⟨gb138, 0, none⟩ = some (.int .i64 a0_0) := (blk_cell BK138.out 0).trans rfl
    have hcz21_1 : wc.cell? ⟨gb138, 1, none⟩ = some (.int .i64 a0_1) := (blk_cell BK138.out 1).trans rfl
    have hcz21_2 : wc.cell? ⟨gb138, 2, none⟩ = some (.int .i64 a0_2) := (blk_cell BK138.out 2).trans rfl
    have hcz21_3 : wc.cell? ⟨gb138, 3, none⟩ = some (.string a0_3) := (blk_cell BK138.out 3).trans rfl
    have hcz21_4 : wc.cell? ⟨gb138, 4, none⟩ = some (.string a0_4) := (blk_cell BK138.out 4).trans rfl
    have hfz21_0 := blk_frozen BK138.out 0
    have hfz21_1 := blk_frozen BK138.out 1
    have hfz21_2 := blk_frozen BK138.out 2
    have hfz21_3 := blk_frozen BK138.out 3
    have hfz21_4 := blk_frozen BK138.out 4
    go_wp2_with (first | (go_at_call 61; (with_reducible refine (armadaref07_identifiers.calls kj1 a0_4 true t142 _ A20.out).mono ?_); rintro e w22 ⟨rfl, hb⟩; replace BK138 := Aside0.mk (blk_below (g := gb138) (o := .cells #[.int .i64 a0_0, .int .i64 a0_1, .int .i64 a0_2, .string a0_3, .string a0_4] 30 (0, 0)) xK hb); replace HB := Aside0.mk (below_step xB hb); (try clear hb); (try clear hb2); (try clear hk); (try clear hi)))
    go_ret
    exact ⟨by first | rfl | (simp [errW_none, errW_some] <;> rfl) | (simp [*, errW_none, errW_some] <;> rfl) | (simp [isEmpty_bne]; done), xB⟩
   rw [if_neg c17] at H
   have c17b0 := beq_eq_false_iff_ne.mpr c17
   have c17b1 := bne_iff_ne.mpr c17
   replace H := xb H
   obtain ⟨t143, A23, H⟩ := H
   by_cases c24 : t143 = true
   ·
    subst c24
    rw [if_pos rfl] at H
    by_cases c25 : a0_4.toList = ([] : List UInt8)
    ·
     rw [if_pos c25] at H
     have c25b0 := beq_iff_eq.mpr c25
     have c25b1 := bne_eq_false_iff_eq.mpr c25
     clear c25
     obtain rfl := Option.some.inj H
     have hcz26_0 : wc.cell? ⟨gb138, 0, none⟩ = some (.int .i64 a0_0) := (blk_cell BK138.out 0).trans rfl
     have hcz26_1 : wc.cell? ⟨gb138, 1, none⟩ = some (.int .i64 a0_1) := (blk_cell BK138.out 1).trans rfl
     have hcz26_2 : wc.cell? ⟨gb138, 2, none⟩ = some (.int .i64 a0_2) := (blk_cell BK138.out 2).trans rfl
     have hcz26_3 : wc.cell? ⟨gb138, 3, none⟩ = some (.string a0_3) := (blk_cell BK138.out 3).trans rfl
     have hcz26_4 : wc.cell? ⟨gb138, 4, none⟩ = some (.string a0_4) := (blk_cell BK138.out 4).trans rfl
     have hfz26_0 := blk_frozen BK138.out 0
     have hfz26_1 := blk_frozen BK138.out 1
     have hfz26_2 := blk_frozen BK138.out 2
     have hfz26_3 := blk_frozen BK138.out 3
     have hfz26_4 := blk_frozen BK138.out 4
     go_wp2_with (first | (go_at_call 61; (with_reducible refine (armadaref07_identifiers.calls kj1 a0_3 false true _ A23.out).mono ?_); rintro e w27 ⟨rfl, hb⟩; replace BK138 := Aside0.mk (blk_below (g := gb138) (o := .cells #[.int .i64 a0_0, .int .i64 a0_1, .int .i64 a0_2, .string a0_3, .string a0_4] 30 (0, 0)) xK hb); replace HB := Aside0.mk (below_step xB hb); (try clear hb); (try clear hb2); (try clear hk); (try clear hi); obtain ⟨hcz28_0, hcz28_1, hcz28_2, hcz28_3, hcz28_4⟩ := xC5 BK138.out; obtain ⟨hfz28_0, hfz28_1, hfz28_2, hfz28_3, hfz28_4⟩ := xF5 BK138.out))
     go_ret
     exact ⟨by first | rfl | (simp [errW_none, errW_some] <;> rfl) | (simp [*, errW_none, errW_some] <;> rfl) | (simp [isEmpty_bne]; done), xB⟩
    rw [if_neg c25] at H
    have c25b0 := beq_eq_false_iff_ne.mpr c25
    have c25b1 := bne_iff_ne.mpr c25
    replace H := xb H
    obtain ⟨t144, A29, H⟩ := H
    obtain rfl := Option.some.inj H
    have hcz30_0 : wc.cell? ⟨gb138, 0, none⟩ = some (.int .i64 a0_0) := (blk_cell BK138.out 0).trans rfl
    have hcz30_1 : wc.cell? ⟨gb138, 1, none⟩ = some (.int .i64 a0_1) := (blk_cell BK138.out 1).trans rfl
    have hcz30_2 : wc.cell? ⟨gb138, 2, none⟩ = some (.int .i64 a0_2) := (blk_cell BK138.out 2).trans rfl
    have hcz30_3 : wc.cell? ⟨gb138, 3, none⟩ = some (.string a0_3) := (blk_cell BK138.out 3).trans rfl
    have hcz30_4 : wc.cell? ⟨gb138, 4, none⟩ = some (.string a0_4) := (blk_cell BK138.out 4).trans rfl
    have hfz30_0 := blk_frozen BK138.out 0
    have hfz30_1 := blk_frozen BK138.out 1
    have hfz30_2 := blk_frozen BK138.out 2
    have hfz30_3 := blk_frozen BK138.out 3
    have hfz30_4 := blk_frozen BK138.out 4
    go_wp2_with (first | (go_at_call 61; (with_reducible refine (armadaref07_identifiers.calls kj1 a0_3 false true _ A23.out).mono ?_); rintro e w31 ⟨rfl, hb⟩; replace BK138 := Aside0.mk (blk_below (g := gb138) (o := .cells #[.int .i64 a0_0, .int .i64 a0_1, .int .i64 a0_2, .string a0_3, .string a0_4] 30 (0, 0)) xK hb); replace HB := Aside0.mk (below_step xB hb); (try clear hb); (try clear hb2); (try clear hk); (try clear hi); obtain ⟨hcz32_0, hcz32_1, hcz32_2, hcz32_3, hcz32_4⟩ := xC5 BK138.out; obtain ⟨hfz32_0, hfz32_1, hfz32_2, hfz32_3, hfz32_4⟩ := xF5 BK138.out) | (go_at_call 61; (with_reducible refine (armadaref07_identifiers.calls kj1 a0_4 true t144 _ A29.out).mono ?_); rintro e w33 ⟨rfl, hb⟩; replace BK138 := Aside0.mk (blk_below (g := gb138) (o := .cells #[.int .i64 a0_0, .int .i64 a0_1, .int .i64 a0_2, .string a0_3, .string a0_4] 30 (0, 0)) xK hb); replace HB := Aside0.mk (below_step xB hb); (try clear hb); (try clear hb2); (try clear hk); (try clear hi)))
    go_ret
    exact ⟨by first | rfl | (simp [errW_none, errW_some] <;> rfl) | (simp [*, errW_none, errW_some] <;> rfl) | (simp [isEmpty_bne]; done), xB⟩
   replace c24 := Bool.eq_false_iff.mpr c24
   subst c24
   rw [if_neg (show ¬ (false = true) by decide)] at H
   obtain rfl := Option.some.inj H
   have hcz34_0 : wc.cell? ⟨gb138, 0, none⟩ = some (.int .i64 a0_0) := (blk_cell BK138.out 0).trans rfl
   have hcz34_1 : wc.cell? ⟨gb138, 1, none⟩ = some (.int .i64 a0_1) := (blk_cell BK138.out 1).trans rfl
   have hcz34_2 : wc.cell? ⟨gb138, 2, none⟩ = some (.int .i64 a0_2) := (blk_cell BK138.out 2).trans rfl
   have hcz34_3 : wc.cell? ⟨gb138, 3, none⟩ = some (.string a0_3) := (blk_cell BK138.out 3).trans rfl
   have hcz34_4 : wc.cell? ⟨gb138, 4, none⟩ = some (.string a0_4) := (blk_cell BK138.out 4).trans rfl
   have hfz34_0 := blk_frozen BK138.out 0
   have hfz34_1 := blk_frozen BK138.out 1
   have hfz34_2 := blk_frozen BK138.out 2
   have hfz34_3 := blk_frozen BK138.out 3
   have hfz34_4 := blk_frozen BK138.out 4
   go_wp2_with (first | (go_at_call 61; (with_reducible refine (armadaref07_identifiers.calls kj1 a0_3 false false _ A23.out).mono ?_); rintro e w35 ⟨rfl, hb⟩; replace BK138 := Aside0.mk (blk_below (g := gb138) (o := .cells #[.int .i64 a0_0, .int .i64 a0_1, .int .i64 a0_2, .string a0_3, .string a0_4] 30 (0, 0)) xK hb); replace HB := Aside0.mk (below_step xB hb); (try clear hb); (try clear hb2); (try clear hk); (try clear hi)))
   go_ret
   exact ⟨by first | rfl | (simp [errW_none, errW_some] <;> rfl) | (simp [*, errW_none, errW_some] <;> rfl) | (simp [isEmpty_bne]; done), xB⟩
def armadaref08_Fits.f (k : Nat) (a0 : ByteArray) (a1_0 : Int) (a1_1 : Int) (a1_2 : Int) (a1_3 : ByteArray) (a1_4 : ByteArray) : Option (Bool) := (armadaref08_Major.f k a0).bind fun bt146 => (if bt146.2.2 = true then ((armadaref07_Check.f k a1_0 a1_1 a1_2 a1_3 a1_4).bind fun t149 => (if t149 = true then (if a1_0 = bt146.2.1 then (some true) else (if bt146.2.1 = 0 then (some (a1_0 == 1)) else (some false))) else (some false))) else (some false))
theorem armadaref08_Fits.mono : ∀ a0 a1 a2 a3 a4 a5 k, LeO (armadaref08_Fits.f k a0 a1 a2 a3 a4 a5) (armadaref08_Fits.f (k + 1) a0 a1 a2 a3 a4 a5) := by
 intro a0 a1 a2 a3 a4 a5 k
 unfold armadaref08_Fits.f
 repeat' first
   | (with_reducible exact armadaref07_Check.mono _ _ _ _ _ _)
   | (with_reducible exact armadaref08_Major.mono _ _)
   | (with_reducible exact LeO.refl _)
   | (with_reducible exact LeO.none _)
   | (with_reducible refine LeO.ite ?_ ?_)
   | (with_reducible refine LeO.bind ?_ (fun _ => ?_))
   | exact armadaref07_Check.mono _ _ _ _ _ _
   | exact armadaref08_Major.mono _ _
   | exact LeO.none _
   | refine LeO.ite ?_ ?_
   | refine LeO.bind ?_ (fun _ => ?_)
set_option maxHeartbeats 8000000 in
set_option maxRecDepth 100000 in
theorem armadaref08_Fits.calls (k : Nat) (a0 : ByteArray) (a1_0 : Int) (a1_1 : Int) (a1_2 : Int) (a1_3 : ByteArray) (a1_4 : ByteArray) (r : Bool) (w : World) (h : armadaref08_Fits.f k a0 a1_0 a1_1 a1_2 a1_3 a1_4 = some r) :
  Calls Tryz.prog 20 #[.string a0, .agg #[.int .i64 a1_0, .int .i64 a1_1, .int .i64 a1_2, .string a1_3, .string a1_4]] w fun e w' => e = .returned (.bool r) ∧ Below w.heap.size w w' := by
 have hu30 := Tryz.underlying30
 have HB := Aside0.mk (Below.refl w.heap.size w)
 have H : ((armadaref08_Major.f k a0).bind fun bt146 => (if bt146.2.2 = true then ((armadaref07_Check.f k a1_0 a1_1 a1_2 a1_3 a1_4).bind fun t149 => (if t149 = true then (if a1_0 = bt146.2.1 then (some true) else (if bt146.2.1 = 0 then (some (a1_0 == 1)) else (some false))) else (some false))) else (some false))) = some r := h
 clear h
 replace H := Option.bind_eq_some_iff.mp H
 obtain ⟨⟨t146, t147, t148⟩, A30, H⟩ := H
 replace H : (if t148 = true then ((armadaref07_Check.f k a1_0 a1_1 a1_2 a1_3 a1_4).bind fun t149 => (if t149 = true then (if a1_0 = t147 then (some true) else (if t147 = 0 then (some (a1_0 == 1)) else (some false))) else (some false))) else (some false)) = some r := H
 have A3 := Aside0.mk A30
 clear A30
 by_cases c4 : t148 = true
 ·
  subst c4
  rw [if_pos rfl] at H
  replace H := xb H
  obtain ⟨t149, A5, H⟩ := H
  by_cases c6 : t149 = true
  ·
   subst c6
   rw [if_pos rfl] at H
   by_cases c7 : a1_0 = t147
   ·
    rw [if_pos c7] at H
    have c7b0 := beq_iff_eq.mpr c7
    have c7b1 := bne_eq_false_iff_eq.mpr c7
    clear c7
    obtain rfl := Option.some.inj H
    go_enter Tryz.func20, Tryz.ntmps20
    go_wp2_with (first | ((with_reducible refine gate_dst (N := 3) rfl ?_); refine box_event ?hg (N := 3) ?hd (cs := #[.int .i64 a1_0, .int .i64 a1_1, .int .i64 a1_2, .string a1_3, .string a1_4]) (t := 30) ?hr ?_; (case hd => rfl); (case hg => rfl); (case hr => first | (go_simp; done) | (go_simp; rfl)); intro gb145 hg w8 hbox hb; have BK145 := Aside0.mk (hbox); have GW145 := Aside0.mk ((by rw [hg]; exact (below_size xB) : w.heap.size ≤ gb145)); have GE145 := Aside0.mk ((by rw [hg]; exact (below_size xB) : w.heap.size ≤ gb145)); replace HB := Aside0.mk (below_step xB hb); clear hb hbox hg) | ((with_reducible refine gate_callee (f := 34) rfl ?_); refine goesL_ (some 10) rfl rfl Tryz.func34 (by kernel_rfl) rfl #[.string a0] rfl xS ?_; (with_reducible refine (armadaref08_Major.calls k a0 t146 t147 true _ A3.out).mono ?_); rintro e w9 ⟨rfl, hb⟩; refine ⟨_, rfl, ?_⟩; replace BK145 := Aside0.mk (blk_below (g := gb145) (o := .cells #[.int .i64 a1_0, .int .i64 a1_1, .int .i64 a1_2, .string a1_3, .string a1_4] 30 (0, 0)) xK hb); replace HB := Aside0.mk (below_step xB hb); (try clear hb); (try clear hb2); (try clear hk); (try clear hi); obtain ⟨hcz10_0, hcz10_1, hcz10_2, hcz10_3, hcz10_4⟩ := xC5 BK145.out; obtain ⟨hfz10_0, hfz10_1, hfz10_2, hfz10_3, hfz10_4⟩ := xF5 BK145.out) | (go_at_call 35; (with_reducible refine (armadaref07_Check.calls k a1_0 a1_1 a1_2 a1_3 a1_4 true _ A5.out).mono ?_); rintro e w11 ⟨rfl, hb⟩; replace BK145 := Aside0.mk (blk_below (g := gb145) (o := .cells #[.int .i64 a1_0, .int .i64 a1_1, .int .i64 a1_2, .string a1_3, .string a1_4] 30 (0, 0)) xK hb); replace HB := Aside0.mk (below_step xB hb); (try clear hb); (try clear hb2); (try clear hk); (try clear hi); obtain ⟨hcz12_0, hcz12_1, hcz12_2, hcz12_3, hcz12_4⟩ := xC5 BK145.out; obtain ⟨hfz12_0, hfz12_1, hfz12_2, hfz12_3, hfz12_4⟩ := xF5 BK145.out))
    go_ret
    exact ⟨by first | rfl | (simp [errW_none, errW_some] <;> rfl) | (simp [*, errW_none, errW_some] <;> rfl) | (simp [isEmpty_bne]; done), xB⟩
   rw [if_neg c7] at H
   have c7b0 := beq_eq_false_iff_ne.mpr c7
   have c7b1 := bne_iff_ne.mpr c7
   by_cases c13 : t147 = 0
   ·
    rw [if_pos c13] at H
    have c13b0 := beq_iff_eq.mpr c13
    have c13b1 := bne_eq_false_iff_eq.mpr c13
    clear c13
    obtain rfl := Option.some.inj H
    go_enter Tryz.func20, Tryz.ntmps20
    go_wp2_with (first | ((with_reducible refine gate_dst (N := 3) rfl ?_); refine box_event ?hg (N := 3) ?hd (cs := #[.int .i64 a1_0, .int .i64 a1_1, .int .i64 a1_2, .string a1_3, .string a1_4]) (t := 30) ?hr ?_; (case hd => rfl); (case hg => rfl); (case hr => first | (go_simp; done) | (go_simp; rfl)); intro gb145 hg w14 hbox hb; have BK145 := Aside0.mk (hbox); have GW145 := Aside0.mk ((by rw [hg]; exact (below_size xB) : w.heap.size ≤ gb145)); have GE145 := Aside0.mk ((by rw [hg]; exact (below_size xB) : w.heap.size ≤ gb145)); replace HB := Aside0.mk (below_step xB hb); clear hb hbox hg) | ((with_reducible refine gate_callee (f := 34) rfl ?_); refine goesL_ (some 10) rfl rfl Tryz.func34 (by kernel_rfl) rfl #[.string a0] rfl xS ?_; (with_reducible refine (armadaref08_Major.calls k a0 t146 t147 true _ A3.out).mono ?_); rintro e w15 ⟨rfl, hb⟩; refine ⟨_, rfl, ?_⟩; replace BK145 := Aside0.mk (blk_below (g := gb145) (o := .cells #[.int .i64 a1_0, .int .i64 a1_1, .int .i64 a1_2, .string a1_3, .string a1_4] 30 (0, 0)) xK hb); replace HB := Aside0.mk (below_step xB hb); (try clear hb); (try clear hb2); (try clear hk); (try clear hi); obtain ⟨hcz16_0, hcz16_1, hcz16_2, hcz16_3, hcz16_4⟩ := xC5 BK145.out; obtain ⟨hfz16_0, hfz16_1, hfz16_2, hfz16_3, hfz16_4⟩ := xF5 BK145.out) | (go_at_call 35; (with_reducible refine (armadaref07_Check.calls k a1_0 a1_1 a1_2 a1_3 a1_4 true _ A5.out).mono ?_); rintro e w17 ⟨rfl, hb⟩; replace BK145 := Aside0.mk (blk_below (g := gb145) (o := .cells #[.int .i64 a1_0, .int .i64 a1_1, .int .i64 a1_2, .string a1_3, .string a1_4] 30 (0, 0)) xK hb); replace HB := Aside0.mk (below_step xB hb); (try clear hb); (try clear hb2); (try clear hk); (try clear hi); obtain ⟨hcz18_0, hcz18_1, hcz18_2, hcz18_3, hcz18_4⟩ := xC5 BK145.out; obtain ⟨hfz18_0, hfz18_1, hfz18_2, hfz18_3, hfz18_4⟩ := xF5 BK145.out))
    go_ret
    exact ⟨by first | rfl | (simp [errW_none, errW_some] <;> rfl) | (simp [*, errW_none, errW_some] <;> rfl) | (simp [isEmpty_bne]; done), xB⟩
   rw [if_neg c13] at H
   have c13b0 := beq_eq_false_iff_ne.mpr c13
   have c13b1 := bne_iff_ne.mpr c13
   obtain rfl := Option.some.inj H
   go_enter Tryz.func20, Tryz.ntmps20
   go_wp2_with (first | ((with_reducible refine gate_dst (N := 3) rfl ?_); refine box_event ?hg (N := 3) ?hd (cs := #[.int .i64 a1_0, .int .i64 a1_1, .int .i64 a1_2, .string a1_3, .string a1_4]) (t := 30) ?hr ?_; (case hd => rfl); (case hg => rfl); (case hr => first | (go_simp; done) | (go_simp; rfl)); intro gb145 hg w19 hbox hb; have BK145 := Aside0.mk (hbox); have GW145 := Aside0.mk ((by rw [hg]; exact (below_size xB) : w.heap.size ≤ gb145)); have GE145 := Aside0.mk ((by rw [hg]; exact (below_size xB) : w.heap.size ≤ gb145)); replace HB := Aside0.mk (below_step xB hb); clear hb hbox hg) | ((with_reducible refine gate_callee (f := 34) rfl ?_); refine goesL_ (some 10) rfl rfl Tryz.func34 (by kernel_rfl) rfl #[.string a0] rfl xS ?_; (with_reducible refine (armadaref08_Major.calls k a0 t146 t147 true _ A3.out).mono ?_); rintro e w20 ⟨rfl, hb⟩; refine ⟨_, rfl, ?_⟩; replace BK145 := Aside0.mk (blk_below (g := gb145) (o := .cells #[.int .i64 a1_0, .int .i64 a1_1, .int .i64 a1_2, .string a1_3, .string a1_4] 30 (0, 0)) xK hb); replace HB := Aside0.mk (below_step xB hb); (try clear hb); (try clear hb2); (try clear hk); (try clear hi); obtain ⟨hcz21_0, hcz21_1, hcz21_2, hcz21_3, hcz21_4⟩ := xC5 BK145.out; obtain ⟨hfz21_0, hfz21_1, hfz21_2, hfz21_3, hfz21_4⟩ := xF5 BK145.out) | (go_at_call 35; (with_reducible refine (armadaref07_Check.calls k a1_0 a1_1 a1_2 a1_3 a1_4 true _ A5.out).mono ?_); rintro e w22 ⟨rfl, hb⟩; replace BK145 := Aside0.mk (blk_below (g := gb145) (o := .cells #[.int .i64 a1_0, .int .i64 a1_1, .int .i64 a1_2, .string a1_3, .string a1_4] 30 (0, 0)) xK hb); replace HB := Aside0.mk (below_step xB hb); (try clear hb); (try clear hb2); (try clear hk); (try clear hi); obtain ⟨hcz23_0, hcz23_1, hcz23_2, hcz23_3, hcz23_4⟩ := xC5 BK145.out; obtain ⟨hfz23_0, hfz23_1, hfz23_2, hfz23_3, hfz23_4⟩ := xF5 BK145.out))
   go_ret
   exact ⟨by first | rfl | (simp [errW_none, errW_some] <;> rfl) | (simp [*, errW_none, errW_some] <;> rfl) | (simp [isEmpty_bne]; done), xB⟩
  replace c6 := Bool.eq_false_iff.mpr c6
  subst c6
  rw [if_neg (show ¬ (false = true) by decide)] at H
  obtain rfl := Option.some.inj H
  go_enter Tryz.func20, Tryz.ntmps20
  go_wp2_with (first | ((with_reducible refine gate_dst (N := 3) rfl ?_); refine box_event ?hg (N := 3) ?hd (cs := #[.int .i64 a1_0, .int .i64 a1_1, .int .i64 a1_2, .string a1_3, .string a1_4]) (t := 30) ?hr ?_; (case hd => rfl); (case hg => rfl); (case hr => first | (go_simp; done) | (go_simp; rfl)); intro gb145 hg w24 hbox hb; have BK145 := Aside0.mk (hbox); have GW145 := Aside0.mk ((by rw [hg]; exact (below_size xB) : w.heap.size ≤ gb145)); have GE145 := Aside0.mk ((by rw [hg]; exact (below_size xB) : w.heap.size ≤ gb145)); replace HB := Aside0.mk (below_step xB hb); clear hb hbox hg) | ((with_reducible refine gate_callee (f := 34) rfl ?_); refine goesL_ (some 10) rfl rfl Tryz.func34 (by kernel_rfl) rfl #[.string a0] rfl xS ?_; (with_reducible refine (armadaref08_Major.calls k a0 t146 t147 true _ A3.out).mono ?_); rintro e w25 ⟨rfl, hb⟩; refine ⟨_, rfl, ?_⟩; replace BK145 := Aside0.mk (blk_below (g := gb145) (o := .cells #[.int .i64 a1_0, .int .i64 a1_1, .int .i64 a1_2, .string a1_3, .string a1_4] 30 (0, 0)) xK hb); replace HB := Aside0.mk (below_step xB hb); (try clear hb); (try clear hb2); (try clear hk); (try clear hi); obtain ⟨hcz26_0, hcz26_1, hcz26_2, hcz26_3, hcz26_4⟩ := xC5 BK145.out; obtain ⟨hfz26_0, hfz26_1, hfz26_2, hfz26_3, hfz26_4⟩ := xF5 BK145.out) | (go_at_call 35; (with_reducible refine (armadaref07_Check.calls k a1_0 a1_1 a1_2 a1_3 a1_4 false _ A5.out).mono ?_); rintro e w27 ⟨rfl, hb⟩; replace BK145 := Aside0.mk (blk_below (g := gb145) (o := .cells #[.int .i64 a1_0, .int .i64 a1_1, .int .i64 a1_2, .string a1_3, .string a1_4] 30 (0, 0)) xK hb); replace HB := Aside0.mk (below_step xB hb); (try clear hb); (try clear hb2); (try clear hk); (try clear hi)))
  go_ret
  exact ⟨by first | rfl | (simp [errW_none, errW_some] <;> rfl) | (simp [*, errW_none, errW_some] <;> rfl) | (simp [isEmpty_bne]; done), xB⟩
 replace c4 := Bool.eq_false_iff.mpr c4
 subst c4
 rw [if_neg (show ¬ (false = true) by decide)] at H
 obtain rfl := Option.some.inj H
 go_enter Tryz.func20, Tryz.ntmps20
 go_wp2_with (first | ((with_reducible refine gate_dst (N := 3) rfl ?_); refine box_event ?hg (N := 3) ?hd (cs := #[.int .i64 a1_0, .int .i64 a1_1, .int .i64 a1_2, .string a1_3, .string a1_4]) (t := 30) ?hr ?_; (case hd => rfl); (case hg => rfl); (case hr => first | (go_simp; done) | (go_simp; rfl)); intro gb145 hg w28 hbox hb; have BK145 := Aside0.mk (hbox); have GW145 := Aside0.mk ((by rw [hg]; exact (below_size xB) : w.heap.size ≤ gb145)); have GE145 := Aside0.mk ((by rw [hg]; exact (below_size xB) : w.heap.size ≤ gb145)); replace HB := Aside0.mk (below_step xB hb); clear hb hbox hg) | ((with_reducible refine gate_callee (f := 34) rfl ?_); refine goesL_ (some 10) rfl rfl Tryz.func34 (by kernel_rfl) rfl #[.string a0] rfl xS ?_; (with_reducible refine (armadaref08_Major.calls k a0 t146 t147 false _ A3.out).mono ?_); rintro e w29 ⟨rfl, hb⟩; refine ⟨_, rfl, ?_⟩; replace BK145 := Aside0.mk (blk_below (g := gb145) (o := .cells #[.int .i64 a1_0, .int .i64 a1_1, .int .i64 a1_2, .string a1_3, .string a1_4] 30 (0, 0)) xK hb); replace HB := Aside0.mk (below_step xB hb); (try clear hb); (try clear hb2); (try clear hk); (try clear hi)))
 go_ret
 exact ⟨by first | rfl | (simp [errW_none, errW_some] <;> rfl) | (simp [*, errW_none, errW_some] <;> rfl) | (simp [isEmpty_bne]; done), xB⟩
def armadaref13_number.l0 : Nat → Int → Int → Option (Int)
 | 0, _, _ => none
 | k + 1, x0, x3 => if x3 < 64 then (if 0 ≤ x3 then (if (bt (⟨#[65, 66, 67, 68, 69, 70, 71, 72, 73, 74, 75, 76, 77, 78, 79, 80, 81, 82, 83, 84, 85, 86, 87, 88, 89, 90, 97, 98, 99, 100, 101, 102, 103, 104, 105, 106, 107, 108, 109, 110, 111, 112, 113, 114, 115, 116, 117, 118, 119, 120, 121, 122, 48, 49, 50, 51, 52, 53, 54, 55, 56, 57, 43, 47]⟩ : ByteArray) x3) = x0 then (some x3) else (armadaref13_number.l0 k x0 (wrap64 (x3 + 1)))) else (none)) else (some (-1))
def armadaref13_number.f (k : Nat) (a0 : Int) : Option (Int) := armadaref13_number.l0 k a0 0
theorem armadaref13_number.mono_l : ∀ k, (∀ y0 y1, LeO (armadaref13_number.l0 k y0 y1) (armadaref13_number.l0 (k + 1) y0 y1))
 | 0 => fun _ _ r h => by simp [armadaref13_number.l0] at h
 | k + 1 => by
  have ih0 := armadaref13_number.mono_l k
  ·
   intro y0 y1
   unfold armadaref13_number.l0
   exact xM
theorem armadaref13_number.mono : ∀ a0 k, LeO (armadaref13_number.f k a0) (armadaref13_number.f (k + 1) a0) := by
 intro a0 k
 have ih0 := armadaref13_number.mono_l k
 unfold armadaref13_number.f
 exact xM
set_option maxHeartbeats 8000000 in
set_option maxRecDepth 100000 in
theorem armadaref13_number.calls (k : Nat) (a0 : Int) (r : Int) (w : World) (h : armadaref13_number.f k a0 = some r) :
  Calls Tryz.prog 62 #[.int .u8 a0] w fun e w' => e = .returned (.int .i64 r) ∧ Drawn0 w w' := by
 have H : (armadaref13_number.l0 k a0 0) = some r := h
 clear h
 have H' := Aside0.mk H
 clear H
 go_enter Tryz.func62, Tryz.ntmps62
 go_wp2
 go_loopg [3] k (fun kq v3 w' => ∃ (x3_1 : Int), v3 = .int .i64 x3_1 ∧ Aside0 (armadaref13_number.l0 kq a0 x3_1 = some r) ∧ Aside0 (kq ≤ k) ∧ Drawn0 w w')
 case atStart => exact ⟨(0), xR, H', ⟨Nat.le_refl _⟩, by repeat (first | exact Drawn0.refl _ | apply Drawn0.step)⟩
 case round =>
  clear H'
  obtain ⟨x3_1, rfl, HA, HK1, ⟨m1, rfl⟩⟩ := hrel
  cases gk with
  | zero => exact absurd HA.out (by simp [armadaref13_number.l0])
  | succ k1 =>
   have H := HA.out
   clear HA
   simp only [armadaref13_number.l0] at H
   by_cases c2 : x3_1 < 64
   ·
    rw [if_pos c2] at H
    have c2b0 := decide_eq_true c2
    clear c2
    replace H := xI H
    obtain ⟨c3, H⟩ := H
    have c3b0 := decide_eq_true c3
    clear c3
    by_cases c5 : (bt (⟨#[65, 66, 67, 68, 69, 70, 71, 72, 73, 74, 75, 76, 77, 78, 79, 80, 81, 82, 83, 84, 85, 86, 87, 88, 89, 90, 97, 98, 99, 100, 101, 102, 103, 104, 105, 106, 107, 108, 109, 110, 111, 112, 113, 114, 115, 116, 117, 118, 119, 120, 121, 122, 48, 49, 50, 51, 52, 53, 54, 55, 56, 57, 43, 47]⟩ : ByteArray) x3_1) = a0
    ·
     rw [if_pos c5] at H
     have c5b0 := beq_iff_eq.mpr c5
     have c5b1 := bne_eq_false_iff_eq.mpr c5
     clear c5
     obtain rfl := Option.some.inj H
     have p4 : 0 ≤ (x3_1 : Int) := xD
     have q4 : x3_1 < (64 : Int) := xD
     have hx4 := bt_at (⟨#[65, 66, 67, 68, 69, 70, 71, 72, 73, 74, 75, 76, 77, 78, 79, 80, 81, 82, 83, 84, 85, 86, 87, 88, 89, 90, 97, 98, 99, 100, 101, 102, 103, 104, 105, 106, 107, 108, 109, 110, 111, 112, 113, 114, 115, 116, 117, 118, 119, 120, 121, 122, 48, 49, 50, 51, 52, 53, 54, 55, 56, 57, 43, 47]⟩ : ByteArray) x3_1
     replace p4 := eq_true p4
     replace q4 := eq_true q4
     go_wp2
     go_ret
     exact ⟨xR, by repeat (first | exact Drawn0.refl _ | apply Drawn0.step)⟩
    rw [if_neg c5] at H
    have c5b0 := beq_eq_false_iff_ne.mpr c5
    have c5b1 := bne_iff_ne.mpr c5
    have H' := Aside0.mk H
    clear H
    have p4 : 0 ≤ (x3_1 : Int) := xD
    have q4 : x3_1 < (64 : Int) := xD
    have hx4 := bt_at (⟨#[65, 66, 67, 68, 69, 70, 71, 72, 73, 74, 75, 76, 77, 78, 79, 80, 81, 82, 83, 84, 85, 86, 87, 88, 89, 90, 97, 98, 99, 100, 101, 102, 103, 104, 105, 106, 107, 108, 109, 110, 111, 112, 113, 114, 115, 116, 117, 118, 119, 120, 121, 122, 48, 49, 50, 51, 52, 53, 54, 55, 56, 57, 43, 47]⟩ : ByteArray) x3_1
    replace p4 := eq_true p4
    replace q4 := eq_true q4
    go_wp2
    go_roundg k1
    case measure => have := HK1.out; omega
    case rel => exact ⟨(wrap64 (x3_1 + 1)), xR, H', ⟨by have := HK1.out; omega⟩, by repeat (first | exact Drawn0.refl _ | apply Drawn0.step)⟩
   rw [if_neg c2] at H
   have c2b0 := decide_eq_false c2
   clear c2
   obtain rfl := Option.some.inj H
   go_wp2
   go_ret
   exact ⟨xR, by repeat (first | exact Drawn0.refl _ | apply Drawn0.step)⟩
end Go.Proofs.YtnnogepjkfllnaaGreatDoor.RD
end
