/- The texts RDx7, RDx, RSx0 in one file, without what these claims do not use (put together by prune2.py). -/
import Derived.Test.YtkidfclnakbgiaaGreatDoorZT28
import Derived.Test.YtkidfclnakbgiaaGreatDoorZT9
import Derived.Laws.Cover1
import Derived.Test.YtkidfclnakbgiaaGreatDoorZT31
import Derived.Test.YtkidfclnakbgiaaGreatDoorZT33
import Derived.Test.YtkidfclnakbgiaaGreatDoorZT34
import Derived.Test.YtkidfclnakbgiaaGreatDoorZT29
import Derived.Test.YtkidfclnakbgiaaGreatDoorZT30
import Derived.Test.YtkidfclnakbgiaaGreatDoorZT32
import Derived.Test.YtkidfclnakbgiaaGreatDoorZT8
section
namespace Go.Proofs.YtkidfclnakbgiaaGreatDoor.RD
open Go.RowKit Go.Proofs.YtkidfclnakbgiaaGreatDoor Go.Proofs.YtkidfclnakbgiaaGreatDoor.K0 Go.Proofs.YtkidfclnakbgiaaGreatDoorW.PrintWords Go.Proofs.YtkidfclnakbgiaaGreatDoorW.PrintLast Go.Proofs.YtkidfclnakbgiaaGreatDoorW.PrintMore
attribute [local go_sem] max2_int min2_int max_two min_two max_three min_three max_four min_four
set_option linter.unusedVariables false
set_option linter.unusedSimpArgs false
def armadaref07_Compare.j0 : Nat → Bool → Int → Int → Int → ByteArray → ByteArray → Int → Int → Int → ByteArray → ByteArray → Option (Int)
 | 0, _, _, _, _, _, _, _, _, _, _, _ => none
 | k + 1, x12, x170000, x170001, x170002, x170003, x170004, x171000, x171001, x171002, x171003, x171004 => if x12 = true then (some 0) else (if x170000 = x171000 then (if x170001 = x171001 then (if x170002 = x171002 then ((armadaref07_pre.f k x170003 x171003).bind fun t175 => (some t175)) else ((armadaref07_order.f x170002 x171002).bind fun t176 => (some t176))) else ((armadaref07_order.f x170001 x171001).bind fun t174 => (some t174))) else ((armadaref07_order.f x170000 x171000).bind fun t173 => (some t173)))
def armadaref07_Compare.f (k : Nat) (a0_0 : Int) (a0_1 : Int) (a0_2 : Int) (a0_3 : ByteArray) (a0_4 : ByteArray) (a1_0 : Int) (a1_1 : Int) (a1_2 : Int) (a1_3 : ByteArray) (a1_4 : ByteArray) : Option (Int) := (armadaref07_Check.f k a0_0 a0_1 a0_2 a0_3 a0_4).bind fun t171 => (if t171 = true then ((armadaref07_Check.f k a1_0 a1_1 a1_2 a1_3 a1_4).bind fun t172 => (armadaref07_Compare.j0 k (!t172) a0_0 a0_1 a0_2 a0_3 a0_4 a1_0 a1_1 a1_2 a1_3 a1_4)) else (armadaref07_Compare.j0 k true a0_0 a0_1 a0_2 a0_3 a0_4 a1_0 a1_1 a1_2 a1_3 a1_4))
theorem armadaref07_Compare.mono_l : ∀ k, (∀ y0 y1 y2 y3 y4 y5 y6 y7 y8 y9 y10, LeO (armadaref07_Compare.j0 k y0 y1 y2 y3 y4 y5 y6 y7 y8 y9 y10) (armadaref07_Compare.j0 (k + 1) y0 y1 y2 y3 y4 y5 y6 y7 y8 y9 y10))
 | 0 => fun _ _ _ _ _ _ _ _ _ _ _ r h => by simp [armadaref07_Compare.j0] at h
 | k + 1 => by
  have ih0 := armadaref07_Compare.mono_l k
  ·
   intro y0 y1 y2 y3 y4 y5 y6 y7 y8 y9 y10
   unfold armadaref07_Compare.j0
   repeat' first
   | (with_reducible exact ih0 _ _ _ _ _ _ _ _ _ _ _)
   | (with_reducible exact armadaref07_Check.mono _ _ _ _ _ _)
   | (with_reducible exact armadaref07_pre.mono _ _ _)
   | (with_reducible exact LeO.refl _)
   | (with_reducible exact LeO.none _)
   | (with_reducible refine LeO.ite ?_ ?_)
   | (with_reducible refine LeO.bind ?_ (fun _ => ?_))
   | exact ih0 _ _ _ _ _ _ _ _ _ _ _
   | exact armadaref07_Check.mono _ _ _ _ _ _
   | exact armadaref07_pre.mono _ _ _
   | exact LeO.none _
   | refine LeO.ite ?_ ?_
   | refine LeO.bind ?_ (fun _ => ?_)
theorem armadaref07_Compare.mono : ∀ a0 a1 a2 a3 a4 a5 a6 a7 a8 a9 k, LeO (armadaref07_Compare.f k a0 a1 a2 a3 a4 a5 a6 a7 a8 a9) (armadaref07_Compare.f (k + 1) a0 a1 a2 a3 a4 a5 a6 a7 a8 a9) := by
 intro a0 a1 a2 a3 a4 a5 a6 a7 a8 a9 k
 have ih0 := armadaref07_Compare.mono_l k
 unfold armadaref07_Compare.f
 repeat' first
   | (with_reducible exact ih0 _ _ _ _ _ _ _ _ _ _ _)
   | (with_reducible exact armadaref07_Check.mono _ _ _ _ _ _)
   | (with_reducible exact armadaref07_pre.mono _ _ _)
   | (with_reducible exact LeO.refl _)
   | (with_reducible exact LeO.none _)
   | (with_reducible refine LeO.ite ?_ ?_)
   | (with_reducible refine LeO.bind ?_ (fun _ => ?_))
   | exact ih0 _ _ _ _ _ _ _ _ _ _ _
   | exact armadaref07_Check.mono _ _ _ _ _ _
   | exact armadaref07_pre.mono _ _ _
   | exact LeO.none _
   | refine LeO.ite ?_ ?_
   | refine LeO.bind ?_ (fun _ => ?_)
set_option maxHeartbeats 8000000 in
set_option maxRecDepth 100000 in
theorem armadaref07_Compare.calls (k : Nat) (a0_0 : Int) (a0_1 : Int) (a0_2 : Int) (a0_3 : ByteArray) (a0_4 : ByteArray) (a1_0 : Int) (a1_1 : Int) (a1_2 : Int) (a1_3 : ByteArray) (a1_4 : ByteArray) (r : Int) (w : World) (h : armadaref07_Compare.f k a0_0 a0_1 a0_2 a0_3 a0_4 a1_0 a1_1 a1_2 a1_3 a1_4 = some r) :
  Calls Tryz.prog 26 #[.agg #[.int .i64 a0_0, .int .i64 a0_1, .int .i64 a0_2, .string a0_3, .string a0_4], .agg #[.int .i64 a1_0, .int .i64 a1_1, .int .i64 a1_2, .string a1_3, .string a1_4]] w fun e w' => e = .returned (.int .i64 r) ∧ Below w.heap.size w w' := by
 have hu25 := Tryz.underlying25
 have HB := Aside0.mk (Below.refl w.heap.size w)
 have H : ((armadaref07_Check.f k a0_0 a0_1 a0_2 a0_3 a0_4).bind fun t171 => (if t171 = true then ((armadaref07_Check.f k a1_0 a1_1 a1_2 a1_3 a1_4).bind fun t172 => (armadaref07_Compare.j0 k (!t172) a0_0 a0_1 a0_2 a0_3 a0_4 a1_0 a1_1 a1_2 a1_3 a1_4)) else (armadaref07_Compare.j0 k true a0_0 a0_1 a0_2 a0_3 a0_4 a1_0 a1_1 a1_2 a1_3 a1_4))) = some r := h
 clear h
 have HC3 := Aside0.mk H
 clear H
 go_enter Tryz.func26, Tryz.ntmps26
 go_upto_region 1 with (first | ((with_reducible refine gate_dst (N := 2) rfl ?_); refine box_event ?hg (N := 2) ?hd (cs := #[.int .i64 a0_0, .int .i64 a0_1, .int .i64 a0_2, .string a0_3, .string a0_4]) (t := 25) ?hr ?_; (case hd => rfl); (case hg => rfl); (case hr => first | (go_simp; done) | (go_simp; rfl)); intro gb169 hg w4 hbox hb; have BK169 := Aside0.mk (hbox); have GW169 := Aside0.mk ((by rw [hg]; exact (below_size xB) : w.heap.size ≤ gb169)); have GE169 := Aside0.mk ((by rw [hg]; exact (below_size xB) : w.heap.size ≤ gb169)); replace HB := Aside0.mk (below_step xB hb); clear hb hbox hg) | ((with_reducible refine gate_dst (N := 3) rfl ?_); refine box_event ?hg (N := 3) ?hd (cs := #[.int .i64 a1_0, .int .i64 a1_1, .int .i64 a1_2, .string a1_3, .string a1_4]) (t := 25) ?hr ?_; (case hd => rfl); (case hg => rfl); (case hr => first | (go_simp; done) | (go_simp; rfl)); intro gb170 hg w5 hbox hb; have GW170 := Aside0.mk ((by rw [hg]; exact (below_size xB) : w.heap.size ≤ gb170)); have GE170 := Aside0.mk ((by rw [hg]; exact (below_size xB) : w.heap.size ≤ gb170)); have NB169_170 := Aside0.mk ((by rw [hg]; exact Nat.ne_of_lt (blk_lt (g := gb169) (o := .cells #[.int .i64 a0_0, .int .i64 a0_1, .int .i64 a0_2, .string a0_3, .string a0_4] 25 (0, 0)) xK) : gb169 ≠ gb170)); have NB170_169 := Aside0.mk ((by rw [hg]; exact Nat.ne_of_gt (blk_lt (g := gb169) (o := .cells #[.int .i64 a0_0, .int .i64 a0_1, .int .i64 a0_2, .string a0_3, .string a0_4] 25 (0, 0)) xK) : gb170 ≠ gb169)); replace BK169 := Aside0.mk (blk_below (g := gb169) (o := .cells #[.int .i64 a0_0, .int .i64 a0_1, .int .i64 a0_2, .string a0_3, .string a0_4] 25 (0, 0)) xK hb); have BK170 := Aside0.mk (hbox); replace HB := Aside0.mk (below_step xB hb); clear hb hbox hg))
 (try simp only [Act.put, List.setIfInBounds_toArray, List.set_cons_zero, List.set_cons_succ])
 go_cut [12] (fun v12 wc => ∃ (kq : Nat) (x12_2 : Bool), v12 = .bool x12_2 ∧ Aside0 (armadaref07_Compare.j0 kq x12_2 a0_0 a0_1 a0_2 a0_3 a0_4 a1_0 a1_1 a1_2 a1_3 a1_4 = some r) ∧ Aside0 (kq ≤ k) ∧ Aside0 (wc.heap[gb169]? = some (.cells #[.int .i64 a0_0, .int .i64 a0_1, .int .i64 a0_2, .string a0_3, .string a0_4] 25 (0, 0))) ∧ Aside0 (wc.heap[gb170]? = some (.cells #[.int .i64 a1_0, .int .i64 a1_1, .int .i64 a1_2, .string a1_3, .string a1_4] 25 (0, 0))) ∧ Aside0 (Below w.heap.size w wc))
 case first =>
  have H := HC3.out
  clear HC3
  replace H := xb H
  obtain ⟨t171, A6, H⟩ := H
  by_cases c7 : t171 = true
  ·
   subst c7
   rw [if_pos rfl] at H
   replace H := xb H
   obtain ⟨t172, A8, H⟩ := H
   have H' := Aside0.mk H
   clear H
   have hnb9 := NB169_170.out
   have hnc9 := NB170_169.out
   have hcz10_0 : w5.cell? ⟨gb169, 0, none⟩ = some (.int .i64 a0_0) := (blk_cell BK169.out 0).trans rfl
   have hcz10_1 : w5.cell? ⟨gb169, 1, none⟩ = some (.int .i64 a0_1) := (blk_cell BK169.out 1).trans rfl
   have hcz10_2 : w5.cell? ⟨gb169, 2, none⟩ = some (.int .i64 a0_2) := (blk_cell BK169.out 2).trans rfl
   have hcz10_3 : w5.cell? ⟨gb169, 3, none⟩ = some (.string a0_3) := (blk_cell BK169.out 3).trans rfl
   have hcz10_4 : w5.cell? ⟨gb169, 4, none⟩ = some (.string a0_4) := (blk_cell BK169.out 4).trans rfl
   have hfz10_0 := blk_frozen BK169.out 0
   have hfz10_1 := blk_frozen BK169.out 1
   have hfz10_2 := blk_frozen BK169.out 2
   have hfz10_3 := blk_frozen BK169.out 3
   have hfz10_4 := blk_frozen BK169.out 4
   go_wp2_with (first | ((with_reducible refine gate_callee (f := 51) rfl ?_); refine goesL_ (some 6) rfl rfl Tryz.func51 (by kernel_rfl) rfl #[.agg #[.int .i64 a0_0, .int .i64 a0_1, .int .i64 a0_2, .string a0_3, .string a0_4]] rfl xS ?_; (with_reducible refine (armadaref07_Check.calls k a0_0 a0_1 a0_2 a0_3 a0_4 true _ A6.out).mono ?_); rintro e w11 ⟨rfl, hb⟩; refine ⟨_, rfl, ?_⟩; have n0_ := Aside0.mk (blk_below (g := gb169) (o := .cells #[.int .i64 a0_0, .int .i64 a0_1, .int .i64 a0_2, .string a0_3, .string a0_4] 25 (0, 0)) xK hb); have n1_ := Aside0.mk (blk_below (g := gb170) (o := .cells #[.int .i64 a1_0, .int .i64 a1_1, .int .i64 a1_2, .string a1_3, .string a1_4] 25 (0, 0)) xK hb); have n2_ := Aside0.mk (below_step xB hb); clear BK169; clear BK170; clear HB; have BK169 := n0_; have BK170 := n1_; have HB := n2_; clear n0_ n1_ n2_; (try clear hb); (try clear hb2); (try clear hk); (try clear hi); obtain ⟨hcz12_0, hcz12_1, hcz12_2, hcz12_3, hcz12_4⟩ := xC5 BK170.out; obtain ⟨hfz12_0, hfz12_1, hfz12_2, hfz12_3, hfz12_4⟩ := xF5 BK170.out) | (go_at_call 51; (with_reducible refine (armadaref07_Check.calls k a1_0 a1_1 a1_2 a1_3 a1_4 t172 _ A8.out).mono ?_); rintro e w13 ⟨rfl, hb⟩; have n0_ := Aside0.mk (blk_below (g := gb169) (o := .cells #[.int .i64 a0_0, .int .i64 a0_1, .int .i64 a0_2, .string a0_3, .string a0_4] 25 (0, 0)) xK hb); have n1_ := Aside0.mk (blk_below (g := gb170) (o := .cells #[.int .i64 a1_0, .int .i64 a1_1, .int .i64 a1_2, .string a1_3, .string a1_4] 25 (0, 0)) xK hb); have n2_ := Aside0.mk (below_step xB hb); clear BK169; clear BK170; clear HB; have BK169 := n0_; have BK170 := n1_; have HB := n2_; clear n0_ n1_ n2_; (try clear hb); (try clear hb2); (try clear hk); (try clear hi)))
   go_meet
   case rel => exact ⟨_, (!t172), xR, H', ⟨by first | omega | exact Nat.le_refl _⟩, ⟨by (with_reducible repeat (first | refine blk_drewN ?_ _ | refine blk_drew ?_ | refine blk_alloc ?_ _)); exact BK169.out⟩, ⟨by (with_reducible repeat (first | refine blk_drewN ?_ _ | refine blk_drew ?_ | refine blk_alloc ?_ _)); exact BK170.out⟩, ⟨xB⟩⟩
  replace c7 := Bool.eq_false_iff.mpr c7
  subst c7
  rw [if_neg (show ¬ (false = true) by decide)] at H
  have H' := Aside0.mk H
  clear H
  have hnb14 := NB169_170.out
  have hnc14 := NB170_169.out
  have hcz15_0 : w5.cell? ⟨gb169, 0, none⟩ = some (.int .i64 a0_0) := (blk_cell BK169.out 0).trans rfl
  have hcz15_1 : w5.cell? ⟨gb169, 1, none⟩ = some (.int .i64 a0_1) := (blk_cell BK169.out 1).trans rfl
  have hcz15_2 : w5.cell? ⟨gb169, 2, none⟩ = some (.int .i64 a0_2) := (blk_cell BK169.out 2).trans rfl
  have hcz15_3 : w5.cell? ⟨gb169, 3, none⟩ = some (.string a0_3) := (blk_cell BK169.out 3).trans rfl
  have hcz15_4 : w5.cell? ⟨gb169, 4, none⟩ = some (.string a0_4) := (blk_cell BK169.out 4).trans rfl
  have hfz15_0 := blk_frozen BK169.out 0
  have hfz15_1 := blk_frozen BK169.out 1
  have hfz15_2 := blk_frozen BK169.out 2
  have hfz15_3 := blk_frozen BK169.out 3
  have hfz15_4 := blk_frozen BK169.out 4
  go_wp2_with (first | ((with_reducible refine gate_callee (f := 51) rfl ?_); refine goesL_ (some 6) rfl rfl Tryz.func51 (by kernel_rfl) rfl #[.agg #[.int .i64 a0_0, .int .i64 a0_1, .int .i64 a0_2, .string a0_3, .string a0_4]] rfl xS ?_; (with_reducible refine (armadaref07_Check.calls k a0_0 a0_1 a0_2 a0_3 a0_4 false _ A6.out).mono ?_); rintro e w16 ⟨rfl, hb⟩; refine ⟨_, rfl, ?_⟩; have n0_ := Aside0.mk (blk_below (g := gb169) (o := .cells #[.int .i64 a0_0, .int .i64 a0_1, .int .i64 a0_2, .string a0_3, .string a0_4] 25 (0, 0)) xK hb); have n1_ := Aside0.mk (blk_below (g := gb170) (o := .cells #[.int .i64 a1_0, .int .i64 a1_1, .int .i64 a1_2, .string a1_3, .string a1_4] 25 (0, 0)) xK hb); have n2_ := Aside0.mk (below_step xB hb); clear BK169; clear BK170; clear HB; have BK169 := n0_; have BK170 := n1_; have HB := n2_; clear n0_ n1_ n2_; (try clear hb); (try clear hb2); (try clear hk); (try clear hi)))
  go_meet
  case rel => exact ⟨_, (true), xR, H', ⟨by first | omega | exact Nat.le_refl _⟩, ⟨by (with_reducible repeat (first | refine blk_drewN ?_ _ | refine blk_drew ?_ | refine blk_alloc ?_ _)); exact BK169.out⟩, ⟨by (with_reducible repeat (first | refine blk_drewN ?_ _ | refine blk_drew ?_ | refine blk_alloc ?_ _)); exact BK170.out⟩, ⟨xB⟩⟩
 case rest =>
  clear HC3
  try clear c1
  try clear c2
  try clear p2
  try clear c5
  try clear c7
  try clear c9
  try clear c14
  try clear hcz10_0
  try clear hcz10_1
  try clear hcz10_2
  try clear hcz10_3
  try clear hcz10_4
  try clear hcz12_0
  try clear hcz12_1
  try clear hcz12_2
  try clear hcz12_3
  try clear hcz12_4
  try clear hcz15_0
  try clear hcz15_1
  try clear hcz15_2
  try clear hcz15_3
  try clear hcz15_4
  try clear hfz10_0
  try clear hfz10_1
  try clear hfz10_2
  try clear hfz10_3
  try clear hfz10_4
  try clear hfz12_0
  try clear hfz12_1
  try clear hfz12_2
  try clear hfz12_3
  try clear hfz12_4
  try clear hfz15_0
  try clear hfz15_1
  try clear hfz15_2
  try clear hfz15_3
  try clear hfz15_4
  obtain ⟨kq, x12_2, rfl, HA, HJ2, BK169, BK170, HB⟩ := hcut
  cases kq with
  | zero => exact absurd HA.out (by simp [armadaref07_Compare.j0])
  | succ kj2 =>
   have H := HA.out
   clear HA
   simp only [armadaref07_Compare.j0] at H
   by_cases c17 : x12_2 = true
   ·
    subst c17
    rw [if_pos rfl] at H
    obtain rfl := Option.some.inj H
    go_wp2
    go_ret
    exact ⟨by first | rfl | (simp [errW_none, errW_some] <;> rfl) | (simp [*, errW_none, errW_some] <;> rfl) | (simp [isEmpty_bne]; done), xB⟩
   replace c17 := Bool.eq_false_iff.mpr c17
   subst c17
   rw [if_neg (show ¬ (false = true) by decide)] at H
   by_cases c18 : a0_0 = a1_0
   ·
    rw [if_pos c18] at H
    have c18b0 := beq_iff_eq.mpr c18
    have c18b1 := bne_eq_false_iff_eq.mpr c18
    clear c18
    by_cases c19 : a0_1 = a1_1
    ·
     rw [if_pos c19] at H
     have c19b0 := beq_iff_eq.mpr c19
     have c19b1 := bne_eq_false_iff_eq.mpr c19
     clear c19
     by_cases c20 : a0_2 = a1_2
     ·
      rw [if_pos c20] at H
      have c20b0 := beq_iff_eq.mpr c20
      have c20b1 := bne_eq_false_iff_eq.mpr c20
      clear c20
      replace H := xb H
      obtain ⟨t175, A21, H⟩ := H
      obtain rfl := Option.some.inj H
      have hnb22 := NB169_170.out
      have hnc22 := NB170_169.out
      have hcz23_0 : wc.cell? ⟨gb169, 0, none⟩ = some (.int .i64 a0_0) := (blk_cell BK169.out 0).trans rfl
      have hcz23_1 : wc.cell? ⟨gb169, 1, none⟩ = some (.int .i64 a0_1) := (blk_cell BK169.out 1).trans rfl
      have hcz23_2 : wc.cell? ⟨gb169, 2, none⟩ = some (.int .i64 a0_2) := (blk_cell BK169.out 2).trans rfl
      have hcz23_3 : wc.cell? ⟨gb169, 3, none⟩ = some (.string a0_3) := (blk_cell BK169.out 3).trans rfl
      have hcz23_4 : wc.cell? ⟨gb169, 4, none⟩ = some (.string a0_4) := (blk_cell BK169.out 4).trans rfl
      have hfz23_0 := blk_frozen BK169.out 0
      have hfz23_1 := blk_frozen BK169.out 1
      have hfz23_2 := blk_frozen BK169.out 2
      have hfz23_3 := blk_frozen BK169.out 3
      have hfz23_4 := blk_frozen BK169.out 4
      have hcz24_0 : wc.cell? ⟨gb170, 0, none⟩ = some (.int .i64 a1_0) := (blk_cell BK170.out 0).trans rfl
      have hcz24_1 : wc.cell? ⟨gb170, 1, none⟩ = some (.int .i64 a1_1) := (blk_cell BK170.out 1).trans rfl
      have hcz24_2 : wc.cell? ⟨gb170, 2, none⟩ = some (.int .i64 a1_2) := (blk_cell BK170.out 2).trans rfl
      have hcz24_3 : wc.cell? ⟨gb170, 3, none⟩ = some (.string a1_3) := (blk_cell BK170.out 3).trans rfl
      have hcz24_4 : wc.cell? ⟨gb170, 4, none⟩ = some (.string a1_4) := (blk_cell BK170.out 4).trans rfl
      have hfz24_0 := blk_frozen BK170.out 0
      have hfz24_1 := blk_frozen BK170.out 1
      have hfz24_2 := blk_frozen BK170.out 2
      have hfz24_3 := blk_frozen BK170.out 3
      have hfz24_4 := blk_frozen BK170.out 4
      go_wp2_with (first | ((with_reducible refine gate_callee (f := 53) rfl ?_); refine goesL_ (some 47) rfl rfl Tryz.func53 (by kernel_rfl) rfl #[.string a0_3, .string a1_3] rfl xS ?_; (with_reducible refine (armadaref07_pre.calls kj2 a0_3 a1_3 t175 _ A21.out).mono ?_); rintro e w25 ⟨rfl, hb⟩; refine ⟨_, rfl, ?_⟩; have n0_ := Aside0.mk (blk_below (g := gb169) (o := .cells #[.int .i64 a0_0, .int .i64 a0_1, .int .i64 a0_2, .string a0_3, .string a0_4] 25 (0, 0)) xK hb); have n1_ := Aside0.mk (blk_below (g := gb170) (o := .cells #[.int .i64 a1_0, .int .i64 a1_1, .int .i64 a1_2, .string a1_3, .string a1_4] 25 (0, 0)) xK hb); have n2_ := Aside0.mk (below_step xB hb); clear BK169; clear BK170; clear HB; have BK169 := n0_; have BK170 := n1_; have HB := n2_; clear n0_ n1_ n2_; (try clear hb); (try clear hb2); (try clear hk); (try clear hi)))
      go_ret
      exact ⟨by first | rfl | (simp [errW_none, errW_some] <;> rfl) | (simp [*, errW_none, errW_some] <;> rfl) | (simp [isEmpty_bne]; done), xB⟩
     rw [if_neg c20] at H
     have c20b0 := beq_eq_false_iff_ne.mpr c20
     have c20b1 := bne_iff_ne.mpr c20
     replace H := xb H
     obtain ⟨t176, A26, H⟩ := H
     obtain rfl := Option.some.inj H
     have hnb27 := NB169_170.out
     have hnc27 := NB170_169.out
     have hcz28_0 : wc.cell? ⟨gb169, 0, none⟩ = some (.int .i64 a0_0) := (blk_cell BK169.out 0).trans rfl
     have hcz28_1 : wc.cell? ⟨gb169, 1, none⟩ = some (.int .i64 a0_1) := (blk_cell BK169.out 1).trans rfl
     have hcz28_2 : wc.cell? ⟨gb169, 2, none⟩ = some (.int .i64 a0_2) := (blk_cell BK169.out 2).trans rfl
     have hcz28_3 : wc.cell? ⟨gb169, 3, none⟩ = some (.string a0_3) := (blk_cell BK169.out 3).trans rfl
     have hcz28_4 : wc.cell? ⟨gb169, 4, none⟩ = some (.string a0_4) := (blk_cell BK169.out 4).trans rfl
     have hfz28_0 := blk_frozen BK169.out 0
     have hfz28_1 := blk_frozen BK169.out 1
     have hfz28_2 := blk_frozen BK169.out 2
     have hfz28_3 := blk_frozen BK169.out 3
     have hfz28_4 := blk_frozen BK169.out 4
     have hcz29_0 : wc.cell? ⟨gb170, 0, none⟩ = some (.int .i64 a1_0) := (blk_cell BK170.out 0).trans rfl
     have hcz29_1 : wc.cell? ⟨gb170, 1, none⟩ = some (.int .i64 a1_1) := (blk_cell BK170.out 1).trans rfl
     have hcz29_2 : wc.cell? ⟨gb170, 2, none⟩ = some (.int .i64 a1_2) := (blk_cell BK170.out 2).trans rfl
     have hcz29_3 : wc.cell? ⟨gb170, 3, none⟩ = some (.string a1_3) := (blk_cell BK170.out 3).trans rfl
     have hcz29_4 : wc.cell? ⟨gb170, 4, none⟩ = some (.string a1_4) := (blk_cell BK170.out 4).trans rfl
     have hfz29_0 := blk_frozen BK170.out 0
     have hfz29_1 := blk_frozen BK170.out 1
     have hfz29_2 := blk_frozen BK170.out 2
     have hfz29_3 := blk_frozen BK170.out 3
     have hfz29_4 := blk_frozen BK170.out 4
     go_wp2_with (first | ((with_reducible refine gate_callee (f := 52) rfl ?_); refine goesL_ (some 42) rfl rfl Tryz.func52 (by kernel_rfl) rfl #[.int .i64 a0_2, .int .i64 a1_2] rfl xS ?_; (with_reducible refine (armadaref07_order.calls a0_2 a1_2 t176 _ A26.out).mono ?_); rintro e w' ⟨rfl, ⟨nd, rfl⟩⟩; refine ⟨_, rfl, ?_⟩))
     go_ret
     exact ⟨by first | rfl | (simp [errW_none, errW_some] <;> rfl) | (simp [*, errW_none, errW_some] <;> rfl) | (simp [isEmpty_bne]; done), xB⟩
    rw [if_neg c19] at H
    have c19b0 := beq_eq_false_iff_ne.mpr c19
    have c19b1 := bne_iff_ne.mpr c19
    replace H := xb H
    obtain ⟨t174, A30, H⟩ := H
    obtain rfl := Option.some.inj H
    have hnb31 := NB169_170.out
    have hnc31 := NB170_169.out
    have hcz32_0 : wc.cell? ⟨gb169, 0, none⟩ = some (.int .i64 a0_0) := (blk_cell BK169.out 0).trans rfl
    have hcz32_1 : wc.cell? ⟨gb169, 1, none⟩ = some (.int .i64 a0_1) := (blk_cell BK169.out 1).trans rfl
    have hcz32_2 : wc.cell? ⟨gb169, 2, none⟩ = some (.int .i64 a0_2) := (blk_cell BK169.out 2).trans rfl
    have hcz32_3 : wc.cell? ⟨gb169, 3, none⟩ = some (.string a0_3) := (blk_cell BK169.out 3).trans rfl
    have hcz32_4 : wc.cell? ⟨gb169, 4, none⟩ = some (.string a0_4) := (blk_cell BK169.out 4).trans rfl
    have hfz32_0 := blk_frozen BK169.out 0
    have hfz32_1 := blk_frozen BK169.out 1
    have hfz32_2 := blk_frozen BK169.out 2
    have hfz32_3 := blk_frozen BK169.out 3
    have hfz32_4 := blk_frozen BK169.out 4
    have hcz33_0 : wc.cell? ⟨gb170, 0, none⟩ = some (.int .i64 a1_0) := (blk_cell BK170.out 0).trans rfl
    have hcz33_1 : wc.cell? ⟨gb170, 1, none⟩ = some (.int .i64 a1_1) := (blk_cell BK170.out 1).trans rfl
    have hcz33_2 : wc.cell? ⟨gb170, 2, none⟩ = some (.int .i64 a1_2) := (blk_cell BK170.out 2).trans rfl
    have hcz33_3 : wc.cell? ⟨gb170, 3, none⟩ = some (.string a1_3) := (blk_cell BK170.out 3).trans rfl
    have hcz33_4 : wc.cell? ⟨gb170, 4, none⟩ = some (.string a1_4) := (blk_cell BK170.out 4).trans rfl
    have hfz33_0 := blk_frozen BK170.out 0
    have hfz33_1 := blk_frozen BK170.out 1
    have hfz33_2 := blk_frozen BK170.out 2
    have hfz33_3 := blk_frozen BK170.out 3
    have hfz33_4 := blk_frozen BK170.out 4
    go_wp2_with (first | ((with_reducible refine gate_callee (f := 52) rfl ?_); refine goesL_ (some 32) rfl rfl Tryz.func52 (by kernel_rfl) rfl #[.int .i64 a0_1, .int .i64 a1_1] rfl xS ?_; (with_reducible refine (armadaref07_order.calls a0_1 a1_1 t174 _ A30.out).mono ?_); rintro e w' ⟨rfl, ⟨nd, rfl⟩⟩; refine ⟨_, rfl, ?_⟩))
    go_ret
    exact ⟨by first | rfl | (simp [errW_none, errW_some] <;> rfl) | (simp [*, errW_none, errW_some] <;> rfl) | (simp [isEmpty_bne]; done), xB⟩
   rw [if_neg c18] at H
   have c18b0 := beq_eq_false_iff_ne.mpr c18
   have c18b1 := bne_iff_ne.mpr c18
   replace H := xb H
   obtain ⟨t173, A34, H⟩ := H
   obtain rfl := Option.some.inj H
   have hnb35 := NB169_170.out
   have hnc35 := NB170_169.out
   have hcz36_0 : wc.cell? ⟨gb169, 0, none⟩ = some (.int .i64 a0_0) := (blk_cell BK169.out 0).trans rfl
   have hcz36_1 : wc.cell? ⟨gb169, 1, none⟩ = some (.int .i64 a0_1) := (blk_cell BK169.out 1).trans rfl
   have hcz36_2 : wc.cell? ⟨gb169, 2, none⟩ = some (.int .i64 a0_2) := (blk_cell BK169.out 2).trans rfl
   have hcz36_3 : wc.cell? ⟨gb169, 3, none⟩ = some (.string a0_3) := (blk_cell BK169.out 3).trans rfl
   have hcz36_4 : wc.cell? ⟨gb169, 4, none⟩ = some (.string a0_4) := (blk_cell BK169.out 4).trans rfl
   have hfz36_0 := blk_frozen BK169.out 0
   have hfz36_1 := blk_frozen BK169.out 1
   have hfz36_2 := blk_frozen BK169.out 2
   have hfz36_3 := blk_frozen BK169.out 3
   have hfz36_4 := blk_frozen BK169.out 4
   have hcz37_0 : wc.cell? ⟨gb170, 0, none⟩ = some (.int .i64 a1_0) := (blk_cell BK170.out 0).trans rfl
   have hcz37_1 : wc.cell? ⟨gb170, 1, none⟩ = some (.int .i64 a1_1) := (blk_cell BK170.out 1).trans rfl
   have hcz37_2 : wc.cell? ⟨gb170, 2, none⟩ = some (.int .i64 a1_2) := (blk_cell BK170.out 2).trans rfl
   have hcz37_3 : wc.cell? ⟨gb170, 3, none⟩ = some (.string a1_3) := (blk_cell BK170.out 3).trans rfl
   have hcz37_4 : wc.cell? ⟨gb170, 4, none⟩ = some (.string a1_4) := (blk_cell BK170.out 4).trans rfl
   have hfz37_0 := blk_frozen BK170.out 0
   have hfz37_1 := blk_frozen BK170.out 1
   have hfz37_2 := blk_frozen BK170.out 2
   have hfz37_3 := blk_frozen BK170.out 3
   have hfz37_4 := blk_frozen BK170.out 4
   go_wp2_with (first | ((with_reducible refine gate_callee (f := 52) rfl ?_); refine goesL_ (some 22) rfl rfl Tryz.func52 (by kernel_rfl) rfl #[.int .i64 a0_0, .int .i64 a1_0] rfl xS ?_; (with_reducible refine (armadaref07_order.calls a0_0 a1_0 t173 _ A34.out).mono ?_); rintro e w' ⟨rfl, ⟨nd, rfl⟩⟩; refine ⟨_, rfl, ?_⟩))
   go_ret
   exact ⟨by first | rfl | (simp [errW_none, errW_some] <;> rfl) | (simp [*, errW_none, errW_some] <;> rfl) | (simp [isEmpty_bne]; done), xB⟩
end Go.Proofs.YtkidfclnakbgiaaGreatDoor.RD
end

section
namespace Go.Proofs.YtkidfclnakbgiaaGreatDoor.RD
open Go.RowKit Go.Proofs.YtkidfclnakbgiaaGreatDoor Go.Proofs.YtkidfclnakbgiaaGreatDoor.K0 Go.Proofs.YtkidfclnakbgiaaGreatDoorW.PrintWords Go.Proofs.YtkidfclnakbgiaaGreatDoorW.PrintLast Go.Proofs.YtkidfclnakbgiaaGreatDoorW.PrintMore
attribute [local go_sem] max2_int min2_int max_two min_two max_three min_three max_four min_four
set_option linter.unusedVariables false
set_option linter.unusedSimpArgs false
end Go.Proofs.YtkidfclnakbgiaaGreatDoor.RD
end

section
namespace Go.Proofs.YtkidfclnakbgiaaGreatDoor.RS
open Go.RowKit Go.Proofs.YtkidfclnakbgiaaGreatDoor Go.Proofs.YtkidfclnakbgiaaGreatDoor.K0 Go.Proofs.YtkidfclnakbgiaaGreatDoor.RD Go.Proofs.YtkidfclnakbgiaaGreatDoorW.PrintWords Go.Proofs.YtkidfclnakbgiaaGreatDoorW.PrintLast Go.Proofs.YtkidfclnakbgiaaGreatDoorW.PrintMore
attribute [local go_sem] max2_int min2_int max_two min_two max_three min_three max_four min_four
set_option linter.unusedVariables false
set_option linter.unusedSimpArgs false
end Go.Proofs.YtkidfclnakbgiaaGreatDoor.RS
end
