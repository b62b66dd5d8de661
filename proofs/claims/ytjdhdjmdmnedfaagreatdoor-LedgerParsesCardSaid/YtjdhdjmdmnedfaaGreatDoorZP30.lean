/- The texts RDx9, RDx in one file, without what these claims do not use (put together by prune2.py). -/
import Derived.Test.YtjdhdjmdmnedfaaGreatDoorZP22
import Derived.Test.YtjdhdjmdmnedfaaGreatDoorZP24
import Derived.Test.YtjdhdjmdmnedfaaGreatDoorZP29
import Derived.Test.YtjdhdjmdmnedfaaGreatDoorZP23
import Derived.Test.YtjdhdjmdmnedfaaGreatDoorZP25
import Derived.Test.YtjdhdjmdmnedfaaGreatDoorZP26
import Derived.Test.YtjdhdjmdmnedfaaGreatDoorZP27
import Derived.Test.YtjdhdjmdmnedfaaGreatDoorZP28
section
namespace Go.Proofs.YtjdhdjmdmnedfaaGreatDoor.RD
open Go.RowKit Go.Proofs.YtjdhdjmdmnedfaaGreatDoor Go.Proofs.YtjdhdjmdmnedfaaGreatDoor.K0 Go.Proofs.YtjdhdjmdmnedfaaGreatDoorW.PrintWords Go.Proofs.YtjdhdjmdmnedfaaGreatDoorW.PrintLast Go.Proofs.YtjdhdjmdmnedfaaGreatDoorW.PrintMore
attribute [local go_sem] max2_int min2_int max_two min_two max_three min_three max_four min_four
set_option linter.unusedVariables false
set_option linter.unusedSimpArgs false
def armadaref07_Compare.j0 : Nat → Bool → Int → Int → Int → ByteArray → ByteArray → Int → Int → Int → ByteArray → ByteArray → Option (Int)
 | 0, _, _, _, _, _, _, _, _, _, _, _ => none
 | k + 1, x12, x190000, x190001, x190002, x190003, x190004, x191000, x191001, x191002, x191003, x191004 => if x12 = true then (some 0) else (if x190000 = x191000 then (if x190001 = x191001 then (if x190002 = x191002 then ((armadaref07_pre.f k x190003 x191003).bind fun t195 => (some t195)) else ((armadaref07_order.f x190002 x191002).bind fun t196 => (some t196))) else ((armadaref07_order.f x190001 x191001).bind fun t194 => (some t194))) else ((armadaref07_order.f x190000 x191000).bind fun t193 => (some t193)))
def armadaref07_Compare.f (k : Nat) (a0_0 : Int) (a0_1 : Int) (a0_2 : Int) (a0_3 : ByteArray) (a0_4 : ByteArray) (a1_0 : Int) (a1_1 : Int) (a1_2 : Int) (a1_3 : ByteArray) (a1_4 : ByteArray) : Option (Int) := (armadaref07_Check.f k a0_0 a0_1 a0_2 a0_3 a0_4).bind fun t191 => (if t191 = true then ((armadaref07_Check.f k a1_0 a1_1 a1_2 a1_3 a1_4).bind fun t192 => (armadaref07_Compare.j0 k (!t192) a0_0 a0_1 a0_2 a0_3 a0_4 a1_0 a1_1 a1_2 a1_3 a1_4)) else (armadaref07_Compare.j0 k true a0_0 a0_1 a0_2 a0_3 a0_4 a1_0 a1_1 a1_2 a1_3 a1_4))
set_option maxHeartbeats 8000000 in
set_option maxRecDepth 100000 in
theorem armadaref07_Compare.calls (k : Nat) (a0_0 : Int) (a0_1 : Int) (a0_2 : Int) (a0_3 : ByteArray) (a0_4 : ByteArray) (a1_0 : Int) (a1_1 : Int) (a1_2 : Int) (a1_3 : ByteArray) (a1_4 : ByteArray) (r : Int) (w : World) (h : armadaref07_Compare.f k a0_0 a0_1 a0_2 a0_3 a0_4 a1_0 a1_1 a1_2 a1_3 a1_4 = some r) :
  Calls Tryz.prog 27 #[.agg #[.int .i64 a0_0, .int .i64 a0_1, .int .i64 a0_2, .string a0_3, .string a0_4], .agg #[.int .i64 a1_0, .int .i64 a1_1, .int .i64 a1_2, .string a1_3, .string a1_4]] w fun e w' => e = .returned (.int .i64 r) ∧ Below w.heap.size w w' := by
 have hu30 := Tryz.underlying30; have HB := Aside0.mk (Below.refl w.heap.size w); have H : ((armadaref07_Check.f k a0_0 a0_1 a0_2 a0_3 a0_4).bind fun t191 => (if t191 = true then ((armadaref07_Check.f k a1_0 a1_1 a1_2 a1_3 a1_4).bind fun t192 => (armadaref07_Compare.j0 k (!t192) a0_0 a0_1 a0_2 a0_3 a0_4 a1_0 a1_1 a1_2 a1_3 a1_4)) else (armadaref07_Compare.j0 k true a0_0 a0_1 a0_2 a0_3 a0_4 a1_0 a1_1 a1_2 a1_3 a1_4))) = some r := h; clear h; have HC3 := Aside0.mk H; clear H; go_enter Tryz.func27, Tryz.ntmps27; go_upto_region 1 with (first | ((with_reducible refine gate_dst (N := 2) rfl ?_); refine box_event ?hg (N := 2) ?hd (cs := #[.int .i64 a0_0, .int .i64 a0_1, .int .i64 a0_2, .string a0_3, .string a0_4]) (t := 30) ?hr ?_; (case hd => rfl); (case hg => rfl); (case hr => first | (go_simp; done) | (go_simp; rfl)); intro gb189 hg w4 hbox hb; have BK189 := Aside0.mk (hbox); have GW189 := Aside0.mk ((by rw [hg]; exact (below_size xB) : w.heap.size ≤ gb189)); have GE189 := Aside0.mk ((by rw [hg]; exact (below_size xB) : w.heap.size ≤ gb189)); replace HB := Aside0.mk (below_step xB hb); clear hb hbox hg) | ((with_reducible refine gate_dst (N := 3) rfl ?_); refine box_event ?hg (N := 3) ?hd (cs := #[.int .i64 a1_0, .int .i64 a1_1, .int .i64 a1_2, .string a1_3, .string a1_4]) (t := 30) ?hr ?_; (case hd => rfl); (case hg => rfl); (case hr => first | (go_simp; done) | (go_simp; rfl)); intro gb190 hg w5 hbox hb; have GW190 := Aside0.mk ((by rw [hg]; exact (below_size xB) : w.heap.size ≤ gb190)); have GE190 := Aside0.mk ((by rw [hg]; exact (below_size xB) : w.heap.size ≤ gb190)); have NB189_190 := Aside0.mk ((by rw [hg]; exact Nat.ne_of_lt (blk_lt (g := gb189) (o := .cells #[.int .i64 a0_0, .int .i64 a0_1, .int .i64 a0_2, .string a0_3, .string a0_4] 30 (0, 0)) xK) : gb189 ≠ gb190)); have NB190_189 := Aside0.mk ((by rw [hg]; exact Nat.ne_of_gt (blk_lt (g := gb189) (o := .cells #[.int .i64 a0_0, .int .i64 a0_1, .int .i64 a0_2, .string a0_3, .string a0_4] 30 (0, 0)) xK) : gb190 ≠ gb189)); replace BK189 := Aside0.mk (blk_below (g := gb189) (o := .cells #[.int .i64 a0_0, .int .i64 a0_1, .int .i64 a0_2, .string a0_3, .string a0_4] 30 (0, 0)) xK hb); have BK190 := Aside0.mk (hbox); replace HB := Aside0.mk (below_step xB hb); clear hb hbox hg))
 (try simp only [Act.put, z1, z2, z3])
 go_cut [12] (fun v12 wc => ∃ (kq : Nat) (x12_2 : Bool), v12 = .bool x12_2 ∧ Aside0 (armadaref07_Compare.j0 kq x12_2 a0_0 a0_1 a0_2 a0_3 a0_4 a1_0 a1_1 a1_2 a1_3 a1_4 = some r) ∧ Aside0 (kq ≤ k) ∧ Aside0 (wc.heap[gb189]? = some (.cells #[.int .i64 a0_0, .int .i64 a0_1, .int .i64 a0_2, .string a0_3, .string a0_4] 30 (0, 0))) ∧ Aside0 (wc.heap[gb190]? = some (.cells #[.int .i64 a1_0, .int .i64 a1_1, .int .i64 a1_2, .string a1_3, .string a1_4] 30 (0, 0))) ∧ Aside0 (Below w.heap.size w wc))
 case first =>
  have H := HC3.out; clear HC3; replace H := xb H; obtain ⟨t191, A6, H⟩ := H
  by_cases c7 : t191 = true
  ·
   subst c7; rw [if_pos rfl] at H; replace H := xb H; obtain ⟨t192, A8, H⟩ := H; have H' := Aside0.mk H; clear H; have hnb9 := NB189_190.out; have hnc9 := NB190_189.out; obtain ⟨hcz10_0, hcz10_1, hcz10_2, hcz10_3, hcz10_4⟩ := xC5 BK189.out; obtain ⟨hfz10_0, hfz10_1, hfz10_2, hfz10_3, hfz10_4⟩ := xF5 BK189.out; go_wp2_with (first | ((with_reducible refine gate_callee (f := 42) rfl ?_); refine goesL_ (some 6) rfl rfl Tryz.func42 (by kernel_rfl) rfl #[.agg #[.int .i64 a0_0, .int .i64 a0_1, .int .i64 a0_2, .string a0_3, .string a0_4]] rfl xS ?_; (with_reducible refine (armadaref07_Check.calls k a0_0 a0_1 a0_2 a0_3 a0_4 true _ A6.out).mono ?_); rintro e w11 ⟨rfl, hb⟩; refine ⟨_, rfl, ?_⟩; have n0_ := Aside0.mk (blk_below (g := gb189) (o := .cells #[.int .i64 a0_0, .int .i64 a0_1, .int .i64 a0_2, .string a0_3, .string a0_4] 30 (0, 0)) xK hb); have n1_ := Aside0.mk (blk_below (g := gb190) (o := .cells #[.int .i64 a1_0, .int .i64 a1_1, .int .i64 a1_2, .string a1_3, .string a1_4] 30 (0, 0)) xK hb); have n2_ := Aside0.mk (below_step xB hb); clear BK189; clear BK190; clear HB; have BK189 := n0_; have BK190 := n1_; have HB := n2_; clear n0_ n1_ n2_; (try clear hb); obtain ⟨hcz12_0, hcz12_1, hcz12_2, hcz12_3, hcz12_4⟩ := xC5 BK190.out; obtain ⟨hfz12_0, hfz12_1, hfz12_2, hfz12_3, hfz12_4⟩ := xF5 BK190.out) | (go_at_call 42; (with_reducible refine (armadaref07_Check.calls k a1_0 a1_1 a1_2 a1_3 a1_4 t192 _ A8.out).mono ?_); rintro e w13 ⟨rfl, hb⟩; have n0_ := Aside0.mk (blk_below (g := gb189) (o := .cells #[.int .i64 a0_0, .int .i64 a0_1, .int .i64 a0_2, .string a0_3, .string a0_4] 30 (0, 0)) xK hb); have n1_ := Aside0.mk (blk_below (g := gb190) (o := .cells #[.int .i64 a1_0, .int .i64 a1_1, .int .i64 a1_2, .string a1_3, .string a1_4] 30 (0, 0)) xK hb); have n2_ := Aside0.mk (below_step xB hb); clear BK189; clear BK190; clear HB; have BK189 := n0_; have BK190 := n1_; have HB := n2_; clear n0_ n1_ n2_; (try clear hb))); go_meet
   case rel => exact ⟨_, (!t192), xR, H', ⟨by first | omega | exact Nat.le_refl _⟩, ⟨by (with_reducible repeat (first | refine blk_drewN ?_ _ | refine blk_drew ?_ | refine blk_alloc ?_ _)); exact BK189.out⟩, ⟨by (with_reducible repeat (first | refine blk_drewN ?_ _ | refine blk_drew ?_ | refine blk_alloc ?_ _)); exact BK190.out⟩, ⟨xB⟩⟩
  replace c7 := Bool.eq_false_iff.mpr c7; subst c7; rw [if_neg (show ¬ (false = true) by decide)] at H; have H' := Aside0.mk H; clear H; have hnb14 := NB189_190.out; have hnc14 := NB190_189.out; obtain ⟨hcz15_0, hcz15_1, hcz15_2, hcz15_3, hcz15_4⟩ := xC5 BK189.out; obtain ⟨hfz15_0, hfz15_1, hfz15_2, hfz15_3, hfz15_4⟩ := xF5 BK189.out; go_wp2_with (first | ((with_reducible refine gate_callee (f := 42) rfl ?_); refine goesL_ (some 6) rfl rfl Tryz.func42 (by kernel_rfl) rfl #[.agg #[.int .i64 a0_0, .int .i64 a0_1, .int .i64 a0_2, .string a0_3, .string a0_4]] rfl xS ?_; (with_reducible refine (armadaref07_Check.calls k a0_0 a0_1 a0_2 a0_3 a0_4 false _ A6.out).mono ?_); rintro e w16 ⟨rfl, hb⟩; refine ⟨_, rfl, ?_⟩; have n0_ := Aside0.mk (blk_below (g := gb189) (o := .cells #[.int .i64 a0_0, .int .i64 a0_1, .int .i64 a0_2, .string a0_3, .string a0_4] 30 (0, 0)) xK hb); have n1_ := Aside0.mk (blk_below (g := gb190) (o := .cells #[.int .i64 a1_0, .int .i64 a1_1, .int .i64 a1_2, .string a1_3, .string a1_4] 30 (0, 0)) xK hb); have n2_ := Aside0.mk (below_step xB hb); clear BK189; clear BK190; clear HB; have BK189 := n0_; have BK190 := n1_; have HB := n2_; clear n0_ n1_ n2_; (try clear hb))); go_meet
  case rel => exact ⟨_, (true), xR, H', ⟨by first | omega | exact Nat.le_refl _⟩, ⟨by (with_reducible repeat (first | refine blk_drewN ?_ _ | refine blk_drew ?_ | refine blk_alloc ?_ _)); exact BK189.out⟩, ⟨by (with_reducible repeat (first | refine blk_drewN ?_ _ | refine blk_drew ?_ | refine blk_alloc ?_ _)); exact BK190.out⟩, ⟨xB⟩⟩
 case rest =>
  clear HC3
  try clear c1
  try clear c2
  try clear p2
  try clear c4
  try clear c7
  try clear c9
  try clear c14
  try clear hcz10_0
  try clear hcz10_1
  try clear hcz10_2
  try clear hcz10_3
  try clear hcz10_4
  try clear hcz12_0
  try clear hcz12_1
  try clear hcz12_2
  try clear hcz12_3
  try clear hcz12_4
  try clear hcz15_0
  try clear hcz15_1
  try clear hcz15_2
  try clear hcz15_3
  try clear hcz15_4
  try clear hfz10_0
  try clear hfz10_1
  try clear hfz10_2
  try clear hfz10_3
  try clear hfz10_4
  try clear hfz12_0
  try clear hfz12_1
  try clear hfz12_2
  try clear hfz12_3
  try clear hfz12_4
  try clear hfz15_0
  try clear hfz15_1
  try clear hfz15_2
  try clear hfz15_3
  try clear hfz15_4
  obtain ⟨kq, x12_2, rfl, HA, HJ2, BK189, BK190, HB⟩ := hcut
  cases kq with
  | zero => exact absurd HA.out (by simp [armadaref07_Compare.j0])
  | succ kj2 =>
   have H := HA.out; clear HA; simp only [armadaref07_Compare.j0] at H
   by_cases c17 : x12_2 = true
   ·
    subst c17; rw [if_pos rfl] at H; obtain rfl := Option.some.inj H; go_wp2; go_ret; exact ⟨xW, xB⟩
   replace c17 := Bool.eq_false_iff.mpr c17; subst c17; rw [if_neg (show ¬ (false = true) by decide)] at H; replace H := xJ H; rcases H with ⟨c18, H⟩ | ⟨c18, H⟩
   ·
    have c18b0 := beq_iff_eq.mpr c18; have c18b1 := bne_eq_false_iff_eq.mpr c18; clear c18; replace H := xJ H; rcases H with ⟨c19, H⟩ | ⟨c19, H⟩
    ·
     have c19b0 := beq_iff_eq.mpr c19; have c19b1 := bne_eq_false_iff_eq.mpr c19; clear c19; replace H := xJ H; rcases H with ⟨c20, H⟩ | ⟨c20, H⟩
     ·
      have c20b0 := beq_iff_eq.mpr c20; have c20b1 := bne_eq_false_iff_eq.mpr c20; clear c20; replace H := xb H; obtain ⟨t195, A21, H⟩ := H; obtain rfl := Option.some.inj H; have hnb22 := NB189_190.out; have hnc22 := NB190_189.out; obtain ⟨hcz23_0, hcz23_1, hcz23_2, hcz23_3, hcz23_4⟩ := xC5 BK189.out; obtain ⟨hfz23_0, hfz23_1, hfz23_2, hfz23_3, hfz23_4⟩ := xF5 BK189.out; obtain ⟨hcz24_0, hcz24_1, hcz24_2, hcz24_3, hcz24_4⟩ := xC5 BK190.out; obtain ⟨hfz24_0, hfz24_1, hfz24_2, hfz24_3, hfz24_4⟩ := xF5 BK190.out; go_wp2_with (first | ((with_reducible refine gate_callee (f := 50) rfl ?_); refine goesL_ (some 47) rfl rfl Tryz.func50 (by kernel_rfl) rfl #[.string a0_3, .string a1_3] rfl xS ?_; (with_reducible refine (armadaref07_pre.calls kj2 a0_3 a1_3 t195 _ A21.out).mono ?_); rintro e w25 ⟨rfl, hb⟩; refine ⟨_, rfl, ?_⟩; have n0_ := Aside0.mk (blk_below (g := gb189) (o := .cells #[.int .i64 a0_0, .int .i64 a0_1, .int .i64 a0_2, .string a0_3, .string a0_4] 30 (0, 0)) xK hb); have n1_ := Aside0.mk (blk_below (g := gb190) (o := .cells #[.int .i64 a1_0, .int .i64 a1_1, .int .i64 a1_2, .string a1_3, .string a1_4] 30 (0, 0)) xK hb); have n2_ := Aside0.mk (below_step xB hb); clear BK189; clear BK190; clear HB; have BK189 := n0_; have BK190 := n1_; have HB := n2_; clear n0_ n1_ n2_; (try clear hb))); go_ret; exact ⟨xW, xB⟩
     have c20b0 := beq_eq_false_iff_ne.mpr c20; have c20b1 := bne_iff_ne.mpr c20; replace H := xb H; obtain ⟨t196, A26, H⟩ := H; obtain rfl := Option.some.inj H; have hnb27 := NB189_190.out; have hnc27 := NB190_189.out; obtain ⟨hcz28_0, hcz28_1, hcz28_2, hcz28_3, hcz28_4⟩ := xC5 BK189.out; obtain ⟨hfz28_0, hfz28_1, hfz28_2, hfz28_3, hfz28_4⟩ := xF5 BK189.out; obtain ⟨hcz29_0, hcz29_1, hcz29_2, hcz29_3, hcz29_4⟩ := xC5 BK190.out; obtain ⟨hfz29_0, hfz29_1, hfz29_2, hfz29_3, hfz29_4⟩ := xF5 BK190.out; go_wp2_with (first | ((with_reducible refine gate_callee (f := 49) rfl ?_); refine goesL_ (some 42) rfl rfl Tryz.func49 (by kernel_rfl) rfl #[.int .i64 a0_2, .int .i64 a1_2] rfl xS ?_; (with_reducible refine (armadaref07_order.calls a0_2 a1_2 t196 _ A26.out).mono ?_); rintro e w' ⟨rfl, ⟨nd, rfl⟩⟩; refine ⟨_, rfl, ?_⟩)); go_ret; exact ⟨xW, xB⟩
    have c19b0 := beq_eq_false_iff_ne.mpr c19; have c19b1 := bne_iff_ne.mpr c19; replace H := xb H; obtain ⟨t194, A30, H⟩ := H; obtain rfl := Option.some.inj H; have hnb31 := NB189_190.out; have hnc31 := NB190_189.out; obtain ⟨hcz32_0, hcz32_1, hcz32_2, hcz32_3, hcz32_4⟩ := xC5 BK189.out; obtain ⟨hfz32_0, hfz32_1, hfz32_2, hfz32_3, hfz32_4⟩ := xF5 BK189.out; obtain ⟨hcz33_0, hcz33_1, hcz33_2, hcz33_3, hcz33_4⟩ := xC5 BK190.out; obtain ⟨hfz33_0, hfz33_1, hfz33_2, hfz33_3, hfz33_4⟩ := xF5 BK190.out; go_wp2_with (first | ((with_reducible refine gate_callee (f := 49) rfl ?_); refine goesL_ (some 32) rfl rfl Tryz.func49 (by kernel_rfl) rfl #[.int .i64 a0_1, .int .i64 a1_1] rfl xS ?_; (with_reducible refine (armadaref07_order.calls a0_1 a1_1 t194 _ A30.out).mono ?_); rintro e w' ⟨rfl, ⟨nd, rfl⟩⟩; refine ⟨_, rfl, ?_⟩)); go_ret; exact ⟨xW, xB⟩
   have c18b0 := beq_eq_false_iff_ne.mpr c18; have c18b1 := bne_iff_ne.mpr c18; replace H := xb H; obtain ⟨t193, A34, H⟩ := H; obtain rfl := Option.some.inj H; have hnb35 := NB189_190.out; have hnc35 := NB190_189.out; obtain ⟨hcz36_0, hcz36_1, hcz36_2, hcz36_3, hcz36_4⟩ := xC5 BK189.out; obtain ⟨hfz36_0, hfz36_1, hfz36_2, hfz36_3, hfz36_4⟩ := xF5 BK189.out; obtain ⟨hcz37_0, hcz37_1, hcz37_2, hcz37_3, hcz37_4⟩ := xC5 BK190.out; obtain ⟨hfz37_0, hfz37_1, hfz37_2, hfz37_3, hfz37_4⟩ := xF5 BK190.out; go_wp2_with (first | ((with_reducible refine gate_callee (f := 49) rfl ?_); refine goesL_ (some 22) rfl rfl Tryz.func49 (by kernel_rfl) rfl #[.int .i64 a0_0, .int .i64 a1_0] rfl xS ?_; (with_reducible refine (armadaref07_order.calls a0_0 a1_0 t193 _ A34.out).mono ?_); rintro e w' ⟨rfl, ⟨nd, rfl⟩⟩; refine ⟨_, rfl, ?_⟩)); go_ret; exact ⟨xW, xB⟩
end Go.Proofs.YtjdhdjmdmnedfaaGreatDoor.RD
end

section
namespace Go.Proofs.YtjdhdjmdmnedfaaGreatDoor.RD
open Go.RowKit Go.Proofs.YtjdhdjmdmnedfaaGreatDoor Go.Proofs.YtjdhdjmdmnedfaaGreatDoor.K0 Go.Proofs.YtjdhdjmdmnedfaaGreatDoorW.PrintWords Go.Proofs.YtjdhdjmdmnedfaaGreatDoorW.PrintLast Go.Proofs.YtjdhdjmdmnedfaaGreatDoorW.PrintMore
attribute [local go_sem] max2_int min2_int max_two min_two max_three min_three max_four min_four
set_option linter.unusedVariables false
set_option linter.unusedSimpArgs false
end Go.Proofs.YtjdhdjmdmnedfaaGreatDoor.RD
end
