-- Written by a program of this place (myprint.py) out of the translation. Not trusted: Lean checks it.
import Derived.Test.YtpkhemnngjmcjaaDoorR2x0
import Derived.Test.YtpkhemnngjmcjaaDoorR2x1
import Derived.Test.YtpkhemnngjmcjaaDoorR2x2
namespace Go.Proofs.YtpkhemnngjmcjaaDoor.R2
open Go.RowKit Go.Proofs.YtpkhemnngjmcjaaDoor Go.Proofs.YtpkhemnngjmcjaaDoor.K0 Go.Proofs.YtpkhemnngjmcjaaDoor.R1 Go.Proofs.YtpkhemnngjmcjaaDoorW.PrintWords Go.Proofs.YtpkhemnngjmcjaaDoorW.PrintLast Go.Proofs.YtpkhemnngjmcjaaDoorW.PrintMore
attribute [local go_sem] max2_int min2_int max_two min_two max_three min_three max_four min_four   -- for this text's walks alone
set_option linter.unusedVariables false
set_option linter.unusedSimpArgs false

/-! ### armadalaw08_MpathMajors: function 3 -/
mutual
def armadalaw08_MpathMajors.j0 : Nat → ByteArray → Int → Bool → Int → Int → Int → ByteArray → ByteArray → Option (Bool)
 | 0, _, _, _, _, _, _, _, _ => none
 | k + 1, x0, x1, x28, x150000, x150001, x150002, x150003, x150004 => if x28 = true then ((armadalaw08_live.f k).bind fun t150 => (some t150)) else ((mpath_Major.f k x0).bind fun bt151 => (if bt151.2.2 = true then ((mpath_Major.f k bt151.1).bind fun bt156 => (if bt156.2.2 = true then (if bt156.2.1 = 0 then (if ((bt151.2.1 == 0) != (bt151.1.toList == x0.toList)) = true then (armadalaw08_MpathMajors.j1 k x1 bt151.1 true x150000 x150001 x150002 x150003 x150004) else (if bt151.2.1 > 0 then (if bt151.1.size + 2 ≤ 9223372036854775807 then ((armadaref07_Number.f k bt151.2.1).bind fun t159 => (if (bt151.1 ++ (⟨#[47, 118]⟩ : ByteArray)).size + t159.size ≤ 9223372036854775807 then (armadalaw08_MpathMajors.j1 k x1 bt151.1 (((bt151.1 ++ (⟨#[47, 118]⟩ : ByteArray)) ++ t159).toList != x0.toList) x150000 x150001 x150002 x150003 x150004) else (none))) else (none)) else (armadalaw08_MpathMajors.j1 k x1 bt151.1 false x150000 x150001 x150002 x150003 x150004))) else (armadalaw08_MpathMajors.j1 k x1 bt151.1 true x150000 x150001 x150002 x150003 x150004)) else (armadalaw08_MpathMajors.j1 k x1 bt151.1 true x150000 x150001 x150002 x150003 x150004))) else (if bt151.1.toList = ([] : List UInt8) then (if bt151.2.1 = 0 then ((mpath_Fits.f k x0 x150000 x150001 x150002 x150003 x150004).bind fun t154 => (if t154 = true then (some false) else ((armadalaw08_live.f k).bind fun t155 => (some t155)))) else (some false)) else (some false))))
def armadalaw08_MpathMajors.j1 : Nat → Int → ByteArray → Bool → Int → Int → Int → ByteArray → ByteArray → Option (Bool)
 | 0, _, _, _, _, _, _, _, _ => none
 | k + 1, x1, x7, x85, x150000, x150001, x150002, x150003, x150004 => if x85 = true then (some false) else (if x1 < 2 then (armadalaw08_MpathMajors.j2 k x1 x7 true x150000 x150001 x150002 x150003 x150004) else (if x1 > 999999999 then (armadalaw08_MpathMajors.j2 k x1 x7 true x150000 x150001 x150002 x150003 x150004) else (if x7.size + 2 ≤ 9223372036854775807 then ((armadaref07_Number.f k x1).bind fun t160 => (if (x7 ++ (⟨#[47, 118]⟩ : ByteArray)).size + t160.size ≤ 9223372036854775807 then ((armadaref05_Path.f k ((x7 ++ (⟨#[47, 118]⟩ : ByteArray)) ++ t160)).bind fun t161 => (armadalaw08_MpathMajors.j2 k x1 x7 (!t161) x150000 x150001 x150002 x150003 x150004)) else (none))) else (none))))
def armadalaw08_MpathMajors.j2 : Nat → Int → ByteArray → Bool → Int → Int → Int → ByteArray → ByteArray → Option (Bool)
 | 0, _, _, _, _, _, _, _, _ => none
 | k + 1, x1, x7, x100, x150000, x150001, x150002, x150003, x150004 => if x100 = true then ((armadalaw08_live.f k).bind fun t162 => (some t162)) else (if x7.size + 2 ≤ 9223372036854775807 then ((armadaref07_Number.f k x1).bind fun t163 => (if (x7 ++ (⟨#[47, 118]⟩ : ByteArray)).size + t163.size ≤ 9223372036854775807 then ((mpath_Check.f k ((x7 ++ (⟨#[47, 118]⟩ : ByteArray)) ++ t163)).bind fun t164 => (if t164 = true then ((mpath_Fits.f k x7 x150000 x150001 x150002 x150003 x150004).bind fun t165 => (if t165 = true then ((mpath_Fits.f k ((x7 ++ (⟨#[47, 118]⟩ : ByteArray)) ++ t163) x150000 x150001 x150002 x150003 x150004).bind fun t166 => (armadalaw08_MpathMajors.j3 k x1 ((x7 ++ (⟨#[47, 118]⟩ : ByteArray)) ++ t163) t166)) else (armadalaw08_MpathMajors.j3 k x1 ((x7 ++ (⟨#[47, 118]⟩ : ByteArray)) ++ t163) false))) else (armadalaw08_MpathMajors.j3 k x1 ((x7 ++ (⟨#[47, 118]⟩ : ByteArray)) ++ t163) true))) else (none))) else (none))
def armadalaw08_MpathMajors.j3 : Nat → Int → ByteArray → Bool → Option (Bool)
 | 0, _, _, _ => none
 | k + 1, x1, x13, x119 => if x119 = true then (some false) else ((mpath_Fits.f k x13 x1 0 0 (⟨#[]⟩ : ByteArray) (⟨#[]⟩ : ByteArray)).bind fun t167 => (if t167 = true then ((armadalaw08_live.f k).bind fun t168 => (some t168)) else (some false)))
end
def armadalaw08_MpathMajors.f (k : Nat) (a0 : ByteArray) (a1 : Int) (a2_0 : Int) (a2_1 : Int) (a2_2 : Int) (a2_3 : ByteArray) (a2_4 : ByteArray) : Option (Bool) := if (a0.size : Int) > 200 then (armadalaw08_MpathMajors.j0 k a0 a1 true a2_0 a2_1 a2_2 a2_3 a2_4) else (if (a2_3.size : Int) > 200 then (armadalaw08_MpathMajors.j0 k a0 a1 true a2_0 a2_1 a2_2 a2_3 a2_4) else (armadalaw08_MpathMajors.j0 k a0 a1 (decide ((a2_4.size : Int) > 200)) a2_0 a2_1 a2_2 a2_3 a2_4))
theorem armadalaw08_MpathMajors.mono_l : ∀ k, (∀ y0 y1 y2 y3 y4 y5 y6 y7, LeO (armadalaw08_MpathMajors.j0 k y0 y1 y2 y3 y4 y5 y6 y7) (armadalaw08_MpathMajors.j0 (k + 1) y0 y1 y2 y3 y4 y5 y6 y7)) ∧ (∀ y0 y1 y2 y3 y4 y5 y6 y7, LeO (armadalaw08_MpathMajors.j1 k y0 y1 y2 y3 y4 y5 y6 y7) (armadalaw08_MpathMajors.j1 (k + 1) y0 y1 y2 y3 y4 y5 y6 y7)) ∧ (∀ y0 y1 y2 y3 y4 y5 y6 y7, LeO (armadalaw08_MpathMajors.j2 k y0 y1 y2 y3 y4 y5 y6 y7) (armadalaw08_MpathMajors.j2 (k + 1) y0 y1 y2 y3 y4 y5 y6 y7)) ∧ (∀ y0 y1 y2, LeO (armadalaw08_MpathMajors.j3 k y0 y1 y2) (armadalaw08_MpathMajors.j3 (k + 1) y0 y1 y2))
 | 0 => ⟨fun _ _ _ _ _ _ _ _ r h => by simp [armadalaw08_MpathMajors.j0] at h, fun _ _ _ _ _ _ _ _ r h => by simp [armadalaw08_MpathMajors.j1] at h, fun _ _ _ _ _ _ _ _ r h => by simp [armadalaw08_MpathMajors.j2] at h, fun _ _ _ r h => by simp [armadalaw08_MpathMajors.j3] at h⟩
 | k + 1 => by
  obtain ⟨ih0, ih1, ih2, ih3⟩ := armadalaw08_MpathMajors.mono_l k
  refine ⟨?_, ?_, ?_, ?_⟩
  ·
   intro y0 y1 y2 y3 y4 y5 y6 y7
   unfold armadalaw08_MpathMajors.j0
   repeat' first
   | (with_reducible exact ih0 _ _ _ _ _ _ _ _)
   | (with_reducible exact ih1 _ _ _ _ _ _ _ _)
   | (with_reducible exact ih2 _ _ _ _ _ _ _ _)
   | (with_reducible exact ih3 _ _ _)
   | (with_reducible exact armadalaw08_live.mono _)
   | (with_reducible exact armadaref05_Path.mono _ _)
   | (with_reducible exact armadaref07_Number.mono _ _)
   | (with_reducible exact mpath_Check.mono _ _)
   | (with_reducible exact mpath_Fits.mono _ _ _ _ _ _ _)
   | (with_reducible exact mpath_Major.mono _ _)
   | (with_reducible exact LeO.refl _)
   | (with_reducible exact LeO.none _)
   | (with_reducible refine LeO.ite ?_ ?_)
   | (with_reducible refine LeO.bind ?_ (fun _ => ?_))
   | exact ih0 _ _ _ _ _ _ _ _
   | exact ih1 _ _ _ _ _ _ _ _
   | exact ih2 _ _ _ _ _ _ _ _
   | exact ih3 _ _ _
   | exact armadalaw08_live.mono _
   | exact armadaref05_Path.mono _ _
   | exact armadaref07_Number.mono _ _
   | exact mpath_Check.mono _ _
   | exact mpath_Fits.mono _ _ _ _ _ _ _
   | exact mpath_Major.mono _ _
   | exact LeO.none _
   | refine LeO.ite ?_ ?_
   | refine LeO.bind ?_ (fun _ => ?_)
  ·
   intro y0 y1 y2 y3 y4 y5 y6 y7
   unfold armadalaw08_MpathMajors.j1
   repeat' first
   | (with_reducible exact ih0 _ _ _ _ _ _ _ _)
   | (with_reducible exact ih1 _ _ _ _ _ _ _ _)
   | (with_reducible exact ih2 _ _ _ _ _ _ _ _)
   | (with_reducible exact ih3 _ _ _)
   | (with_reducible exact armadalaw08_live.mono _)
   | (with_reducible exact armadaref05_Path.mono _ _)
   | (with_reducible exact armadaref07_Number.mono _ _)
   | (with_reducible exact mpath_Check.mono _ _)
   | (with_reducible exact mpath_Fits.mono _ _ _ _ _ _ _)
   | (with_reducible exact mpath_Major.mono _ _)
   | (with_reducible exact LeO.refl _)
   | (with_reducible exact LeO.none _)
   | (with_reducible refine LeO.ite ?_ ?_)
   | (with_reducible refine LeO.bind ?_ (fun _ => ?_))
   | exact ih0 _ _ _ _ _ _ _ _
   | exact ih1 _ _ _ _ _ _ _ _
   | exact ih2 _ _ _ _ _ _ _ _
   | exact ih3 _ _ _
   | exact armadalaw08_live.mono _
   | exact armadaref05_Path.mono _ _
   | exact armadaref07_Number.mono _ _
   | exact mpath_Check.mono _ _
   | exact mpath_Fits.mono _ _ _ _ _ _ _
   | exact mpath_Major.mono _ _
   | exact LeO.none _
   | refine LeO.ite ?_ ?_
   | refine LeO.bind ?_ (fun _ => ?_)
  ·
   intro y0 y1 y2 y3 y4 y5 y6 y7
   unfold armadalaw08_MpathMajors.j2
   repeat' first
   | (with_reducible exact ih0 _ _ _ _ _ _ _ _)
   | (with_reducible exact ih1 _ _ _ _ _ _ _ _)
   | (with_reducible exact ih2 _ _ _ _ _ _ _ _)
   | (with_reducible exact ih3 _ _ _)
   | (with_reducible exact armadalaw08_live.mono _)
   | (with_reducible exact armadaref05_Path.mono _ _)
   | (with_reducible exact armadaref07_Number.mono _ _)
   | (with_reducible exact mpath_Check.mono _ _)
   | (with_reducible exact mpath_Fits.mono _ _ _ _ _ _ _)
   | (with_reducible exact mpath_Major.mono _ _)
   | (with_reducible exact LeO.refl _)
   | (with_reducible exact LeO.none _)
   | (with_reducible refine LeO.ite ?_ ?_)
   | (with_reducible refine LeO.bind ?_ (fun _ => ?_))
   | exact ih0 _ _ _ _ _ _ _ _
   | exact ih1 _ _ _ _ _ _ _ _
   | exact ih2 _ _ _ _ _ _ _ _
   | exact ih3 _ _ _
   | exact armadalaw08_live.mono _
   | exact armadaref05_Path.mono _ _
   | exact armadaref07_Number.mono _ _
   | exact mpath_Check.mono _ _
   | exact mpath_Fits.mono _ _ _ _ _ _ _
   | exact mpath_Major.mono _ _
   | exact LeO.none _
   | refine LeO.ite ?_ ?_
   | refine LeO.bind ?_ (fun _ => ?_)
  ·
   intro y0 y1 y2
   unfold armadalaw08_MpathMajors.j3
   repeat' first
   | (with_reducible exact ih0 _ _ _ _ _ _ _ _)
   | (with_reducible exact ih1 _ _ _ _ _ _ _ _)
   | (with_reducible exact ih2 _ _ _ _ _ _ _ _)
   | (with_reducible exact ih3 _ _ _)
   | (with_reducible exact armadalaw08_live.mono _)
   | (with_reducible exact armadaref05_Path.mono _ _)
   | (with_reducible exact armadaref07_Number.mono _ _)
   | (with_reducible exact mpath_Check.mono _ _)
   | (with_reducible exact mpath_Fits.mono _ _ _ _ _ _ _)
   | (with_reducible exact mpath_Major.mono _ _)
   | (with_reducible exact LeO.refl _)
   | (with_reducible exact LeO.none _)
   | (with_reducible refine LeO.ite ?_ ?_)
   | (with_reducible refine LeO.bind ?_ (fun _ => ?_))
   | exact ih0 _ _ _ _ _ _ _ _
   | exact ih1 _ _ _ _ _ _ _ _
   | exact ih2 _ _ _ _ _ _ _ _
   | exact ih3 _ _ _
   | exact armadalaw08_live.mono _
   | exact armadaref05_Path.mono _ _
   | exact armadaref07_Number.mono _ _
   | exact mpath_Check.mono _ _
   | exact mpath_Fits.mono _ _ _ _ _ _ _
   | exact mpath_Major.mono _ _
   | exact LeO.none _
   | refine LeO.ite ?_ ?_
   | refine LeO.bind ?_ (fun _ => ?_)
theorem armadalaw08_MpathMajors.mono : ∀ a0 a1 a2 a3 a4 a5 a6 k, LeO (armadalaw08_MpathMajors.f k a0 a1 a2 a3 a4 a5 a6) (armadalaw08_MpathMajors.f (k + 1) a0 a1 a2 a3 a4 a5 a6) := by
 intro a0 a1 a2 a3 a4 a5 a6 k
 obtain ⟨ih0, ih1, ih2, ih3⟩ := armadalaw08_MpathMajors.mono_l k
 unfold armadalaw08_MpathMajors.f
 repeat' first
   | (with_reducible exact ih0 _ _ _ _ _ _ _ _)
   | (with_reducible exact ih1 _ _ _ _ _ _ _ _)
   | (with_reducible exact ih2 _ _ _ _ _ _ _ _)
   | (with_reducible exact ih3 _ _ _)
   | (with_reducible exact armadalaw08_live.mono _)
   | (with_reducible exact armadaref05_Path.mono _ _)
   | (with_reducible exact armadaref07_Number.mono _ _)
   | (with_reducible exact mpath_Check.mono _ _)
   | (with_reducible exact mpath_Fits.mono _ _ _ _ _ _ _)
   | (with_reducible exact mpath_Major.mono _ _)
   | (with_reducible exact LeO.refl _)
   | (with_reducible exact LeO.none _)
   | (with_reducible refine LeO.ite ?_ ?_)
   | (with_reducible refine LeO.bind ?_ (fun _ => ?_))
   | exact ih0 _ _ _ _ _ _ _ _
   | exact ih1 _ _ _ _ _ _ _ _
   | exact ih2 _ _ _ _ _ _ _ _
   | exact ih3 _ _ _
   | exact armadalaw08_live.mono _
   | exact armadaref05_Path.mono _ _
   | exact armadaref07_Number.mono _ _
   | exact mpath_Check.mono _ _
   | exact mpath_Fits.mono _ _ _ _ _ _ _
   | exact mpath_Major.mono _ _
   | exact LeO.none _
   | refine LeO.ite ?_ ?_
   | refine LeO.bind ?_ (fun _ => ?_)
set_option maxHeartbeats 8000000 in
set_option maxRecDepth 100000 in
theorem armadalaw08_MpathMajors.calls (k : Nat) (a0 : ByteArray) (a1 : Int) (a2_0 : Int) (a2_1 : Int) (a2_2 : Int) (a2_3 : ByteArray) (a2_4 : ByteArray) (r : Bool) (w : World) (hG : GW w) (hT : r = true) (h : armadalaw08_MpathMajors.f k a0 a1 a2_0 a2_1 a2_2 a2_3 a2_4 = some r) :
  Calls Tryd.prog 3 #[.string a0, .int .i64 a1, .agg #[.int .i64 a2_0, .int .i64 a2_1, .int .i64 a2_2, .string a2_3, .string a2_4]] w fun e w' => e = .returned (.bool r) ∧ Below w.heap.size w w' := by
 have hu23 := Tryd.underlying23
 have HGW := Aside0.mk hG
 clear hG
 have HTRU_ := Aside0.mk hT
 clear hT
 have HB := Aside0.mk (Below.refl w.heap.size w)
 have H : (if (a0.size : Int) > 200 then (armadalaw08_MpathMajors.j0 k a0 a1 true a2_0 a2_1 a2_2 a2_3 a2_4) else (if (a2_3.size : Int) > 200 then (armadalaw08_MpathMajors.j0 k a0 a1 true a2_0 a2_1 a2_2 a2_3 a2_4) else (armadalaw08_MpathMajors.j0 k a0 a1 (decide ((a2_4.size : Int) > 200)) a2_0 a2_1 a2_2 a2_3 a2_4))) = some r := h
 clear h
 have HC4 := Aside0.mk H
 clear H
 go_enter Tryd.func3, Tryd.ntmps3
 go_upto_region 1 with (first | ((with_reducible refine gate_dst (N := 5) rfl ?_); (try (refine gate_guard (by rfl) ?_; dsimp only)); refine box_event ?hg (N := 5) ?hd (cs := #[.int .i64 a2_0, .int .i64 a2_1, .int .i64 a2_2, .string a2_3, .string a2_4]) (t := 23) ?hr ?_; (case hd => rfl); (case hg => rfl); (case hr => first | (go_simp; done) | (go_simp; rfl)); intro gb149 hg w5 hbox hb; have n0_ := Aside0.mk (below_step (by repeat (first | (with_reducible first | exact HB.out | apply below_alloc | apply pw_below_drewN | apply below_drew1) | exact HB.out)) hb); have n1_ := Aside0.mk (hbox); have n2_ := Aside0.mk ((by rw [hg]; exact (below_size (by repeat (first | (with_reducible first | exact HB.out | apply below_alloc | apply pw_below_drewN | apply below_drew1) | exact HB.out))) : w.heap.size ≤ gb149)); have n3_ := Aside0.mk ((by rw [hg]; exact (below_size (by repeat (first | (with_reducible first | exact HB.out | apply below_alloc | apply pw_below_drewN | apply below_drew1) | exact HB.out))) : w.heap.size ≤ gb149)); clear HB; have HB := n0_; have BK149 := n1_; have GW149 := n2_; have GE149 := n3_; clear n0_ n1_ n2_ n3_; clear hb hbox hg))
 (try simp only [Act.put, List.setIfInBounds_toArray, List.set_cons_zero, List.set_cons_succ])
 go_cut [28] (fun v28 wc => ∃ (kq : Nat) (x28_3 : Bool), v28 = .bool x28_3 ∧ Aside0 (armadalaw08_MpathMajors.j0 kq a0 a1 x28_3 a2_0 a2_1 a2_2 a2_3 a2_4 = some r) ∧ Aside0 (kq ≤ k) ∧ Aside0 (wc.heap[gb149]? = some (.cells #[.int .i64 a2_0, .int .i64 a2_1, .int .i64 a2_2, .string a2_3, .string a2_4] 23 (0, 0))) ∧ Aside0 (Below w.heap.size w wc))
 case first =>
  have H := HC4.out
  clear HC4
  by_cases c6 : (a0.size : Int) > 200
  ·
   rw [if_pos c6] at H
   have c6b0 : decide (200 < (a0.size : Int)) = true := decide_eq_true c6
   have c6b1 : decide (200 < a0.size) = true := decide_eq_true (by omega)
   clear c6
   (first | rw [c6b0] | (simp only [i64_w, i32_w]; rw [c6b0]) | skip)
   have H' := Aside0.mk H
   clear H
   go_wp2
   go_meet
   case rel => exact ⟨_, (true), (by first | rfl | (simp; done) | (simp [*]; done) | (simp [isEmpty_bne]; done)), H', ⟨by first | omega | exact Nat.le_refl _⟩, ⟨by (with_reducible repeat (first | refine blk_drewN ?_ _ | refine blk_drew ?_ | refine blk_alloc ?_ _)); exact BK149.out⟩, ⟨by repeat (first | (with_reducible first | exact HB.out | apply below_alloc | apply pw_below_drewN | apply below_drew1 | refine below_set ?_ GE149.out) | exact HB.out)⟩⟩
  ·
   rw [if_neg c6] at H
   have c6b0 : decide (200 < (a0.size : Int)) = false := decide_eq_false c6
   have c6b1 : decide (200 < a0.size) = false := decide_eq_false (by omega)
   clear c6
   (first | rw [c6b0] | (simp only [i64_w, i32_w]; rw [c6b0]) | skip)
   by_cases c7 : (a2_3.size : Int) > 200
   ·
    rw [if_pos c7] at H
    have c7b0 : decide (200 < (a2_3.size : Int)) = true := decide_eq_true c7
    have c7b1 : decide (200 < a2_3.size) = true := decide_eq_true (by omega)
    clear c7
    have H' := Aside0.mk H
    clear H
    have hcz8_0 : w5.cell? ⟨gb149, 0, none⟩ = some (.int .i64 a2_0) := (blk_cell BK149.out 0).trans rfl
    have hcz8_1 : w5.cell? ⟨gb149, 1, none⟩ = some (.int .i64 a2_1) := (blk_cell BK149.out 1).trans rfl
    have hcz8_2 : w5.cell? ⟨gb149, 2, none⟩ = some (.int .i64 a2_2) := (blk_cell BK149.out 2).trans rfl
    have hcz8_3 : w5.cell? ⟨gb149, 3, none⟩ = some (.string a2_3) := (blk_cell BK149.out 3).trans rfl
    have hcz8_4 : w5.cell? ⟨gb149, 4, none⟩ = some (.string a2_4) := (blk_cell BK149.out 4).trans rfl
    have hfz8_0 := blk_frozen BK149.out 0
    have hfz8_1 := blk_frozen BK149.out 1
    have hfz8_2 := blk_frozen BK149.out 2
    have hfz8_3 := blk_frozen BK149.out 3
    have hfz8_4 := blk_frozen BK149.out 4
    go_wp2
    go_meet
    case rel => exact ⟨_, (true), (by first | rfl | (simp; done) | (simp [*]; done) | (simp [isEmpty_bne]; done)), H', ⟨by first | omega | exact Nat.le_refl _⟩, ⟨by (with_reducible repeat (first | refine blk_drewN ?_ _ | refine blk_drew ?_ | refine blk_alloc ?_ _)); exact BK149.out⟩, ⟨by repeat (first | (with_reducible first | exact HB.out | apply below_alloc | apply pw_below_drewN | apply below_drew1 | refine below_set ?_ GE149.out) | exact HB.out)⟩⟩
   ·
    rw [if_neg c7] at H
    have c7b0 : decide (200 < (a2_3.size : Int)) = false := decide_eq_false c7
    have c7b1 : decide (200 < a2_3.size) = false := decide_eq_false (by omega)
    clear c7
    have H' := Aside0.mk H
    clear H
    have hcz9_0 : w5.cell? ⟨gb149, 0, none⟩ = some (.int .i64 a2_0) := (blk_cell BK149.out 0).trans rfl
    have hcz9_1 : w5.cell? ⟨gb149, 1, none⟩ = some (.int .i64 a2_1) := (blk_cell BK149.out 1).trans rfl
    have hcz9_2 : w5.cell? ⟨gb149, 2, none⟩ = some (.int .i64 a2_2) := (blk_cell BK149.out 2).trans rfl
    have hcz9_3 : w5.cell? ⟨gb149, 3, none⟩ = some (.string a2_3) := (blk_cell BK149.out 3).trans rfl
    have hcz9_4 : w5.cell? ⟨gb149, 4, none⟩ = some (.string a2_4) := (blk_cell BK149.out 4).trans rfl
    have hfz9_0 := blk_frozen BK149.out 0
    have hfz9_1 := blk_frozen BK149.out 1
    have hfz9_2 := blk_frozen BK149.out 2
    have hfz9_3 := blk_frozen BK149.out 3
    have hfz9_4 := blk_frozen BK149.out 4
    go_wp2
    go_meet
    case rel => exact ⟨_, (decide ((a2_4.size : Int) > 200)), (by first | rfl | (simp; done) | (simp [*]; done) | (simp [isEmpty_bne]; done)), H', ⟨by first | omega | exact Nat.le_refl _⟩, ⟨by (with_reducible repeat (first | refine blk_drewN ?_ _ | refine blk_drew ?_ | refine blk_alloc ?_ _)); exact BK149.out⟩, ⟨by repeat (first | (with_reducible first | exact HB.out | apply below_alloc | apply pw_below_drewN | apply below_drew1 | refine below_set ?_ GE149.out) | exact HB.out)⟩⟩
 case rest =>
  clear HC4
  try clear p2
  try clear c3
  try clear c6
  try clear c6b0
  try clear c6b1
  try clear c7
  try clear c7b0
  try clear c7b1
  try clear hcz8_0
  try clear hcz8_1
  try clear hcz8_2
  try clear hcz8_3
  try clear hcz8_4
  try clear hcz9_0
  try clear hcz9_1
  try clear hcz9_2
  try clear hcz9_3
  try clear hcz9_4
  try clear hfz8_0
  try clear hfz8_1
  try clear hfz8_2
  try clear hfz8_3
  try clear hfz8_4
  try clear hfz9_0
  try clear hfz9_1
  try clear hfz9_2
  try clear hfz9_3
  try clear hfz9_4
  obtain ⟨kq, x28_3, rfl, HA, HJ3, BK149, HB⟩ := hcut
  cases kq with
  | zero => exact absurd HA.out (by simp [armadalaw08_MpathMajors.j0])
  | succ kj3 =>
   have H := HA.out
   clear HA
   simp only [armadalaw08_MpathMajors.j0] at H
   by_cases c10 : x28_3 = true
   ·
    subst c10
    have H1 : ((armadalaw08_live.f kj3).bind fun t150 => (some t150)) = some r := by rw [if_pos rfl] at H; exact H
    clear H
    have H := H1
    clear H1
    replace H := Option.bind_eq_some_iff.mp H
    obtain ⟨t150, A110, H⟩ := H
    replace H : (some t150) = some r := H
    have A11 := Aside0.mk A110
    clear A110
    obtain rfl := Option.some.inj H
    go_wp2_with (first | ((with_reducible refine gate_callee (f := 5) rfl ?_); refine goesL_ (some 29) rfl rfl Tryd.func5 (by kernel_rfl) rfl #[] rfl (by (try simp only [List.map_toArray, List.map_cons, List.map_nil]); first | done | rfl | (simp only [List.length_drop, List.length_take]; rfl)) ?_; (with_reducible refine (armadalaw08_live.calls kj3  t150 _ ?side1 ?side2 A11.out).mono ?_); (case side1 => exact GW.below HGW.out (by repeat (first | (with_reducible first | exact HB.out | apply below_alloc | apply pw_below_drewN | apply below_drew1 | refine below_set ?_ GE149.out) | exact HB.out))); (case side2 => exact HTRU_.out); rintro e w12 ⟨rfl, hb⟩; refine ⟨_, rfl, ?_⟩; have n0_ := Aside0.mk (blk_below (g := gb149) (o := .cells #[.int .i64 a2_0, .int .i64 a2_1, .int .i64 a2_2, .string a2_3, .string a2_4] 23 (0, 0)) (by (with_reducible repeat (first | refine blk_drewN ?_ _ | refine blk_drew ?_ | refine blk_alloc ?_ _)); exact BK149.out) hb); have n1_ := Aside0.mk (below_step (by repeat (first | (with_reducible first | exact HB.out | apply below_alloc | apply pw_below_drewN | apply below_drew1 | refine below_set ?_ GE149.out) | exact HB.out)) hb); clear BK149; clear HB; have BK149 := n0_; have HB := n1_; clear n0_ n1_; (try clear hb); (try clear hb2); (try clear hk); (try clear hi)))
    go_ret
    exact ⟨by first | rfl | (simp [errW_none, errW_some] <;> rfl) | (simp [*, errW_none, errW_some] <;> rfl) | (simp [isEmpty_bne]; done), by repeat (first | (with_reducible first | exact HB.out | apply below_alloc | apply pw_below_drewN | apply below_drew1 | refine below_set ?_ GE149.out) | exact HB.out)⟩
   ·
    replace c10 := Bool.eq_false_iff.mpr c10
    subst c10
    have H1 : ((mpath_Major.f kj3 a0).bind fun bt151 => (if bt151.2.2 = true then ((mpath_Major.f kj3 bt151.1).bind fun bt156 => (if bt156.2.2 = true then (if bt156.2.1 = 0 then (if ((bt151.2.1 == 0) != (bt151.1.toList == a0.toList)) = true then (armadalaw08_MpathMajors.j1 kj3 a1 bt151.1 true a2_0 a2_1 a2_2 a2_3 a2_4) else (if bt151.2.1 > 0 then (if bt151.1.size + 2 ≤ 9223372036854775807 then ((armadaref07_Number.f kj3 bt151.2.1).bind fun t159 => (if (bt151.1 ++ (⟨#[47, 118]⟩ : ByteArray)).size + t159.size ≤ 9223372036854775807 then (armadalaw08_MpathMajors.j1 kj3 a1 bt151.1 (((bt151.1 ++ (⟨#[47, 118]⟩ : ByteArray)) ++ t159).toList != a0.toList) a2_0 a2_1 a2_2 a2_3 a2_4) else (none))) else (none)) else (armadalaw08_MpathMajors.j1 kj3 a1 bt151.1 false a2_0 a2_1 a2_2 a2_3 a2_4))) else (armadalaw08_MpathMajors.j1 kj3 a1 bt151.1 true a2_0 a2_1 a2_2 a2_3 a2_4)) else (armadalaw08_MpathMajors.j1 kj3 a1 bt151.1 true a2_0 a2_1 a2_2 a2_3 a2_4))) else (if bt151.1.toList = ([] : List UInt8) then (if bt151.2.1 = 0 then ((mpath_Fits.f kj3 a0 a2_0 a2_1 a2_2 a2_3 a2_4).bind fun t154 => (if t154 = true then (some false) else ((armadalaw08_live.f kj3).bind fun t155 => (some t155)))) else (some false)) else (some false)))) = some r := by rw [if_neg (show ¬ (false = true) by decide)] at H; exact H
    clear H
    have H := H1
    clear H1
    replace H := Option.bind_eq_some_iff.mp H
    obtain ⟨⟨t151, t152, t153⟩, A130, H⟩ := H
    replace H : (if t153 = true then ((mpath_Major.f kj3 t151).bind fun bt156 => (if bt156.2.2 = true then (if bt156.2.1 = 0 then (if ((t152 == 0) != (t151.toList == a0.toList)) = true then (armadalaw08_MpathMajors.j1 kj3 a1 t151 true a2_0 a2_1 a2_2 a2_3 a2_4) else (if t152 > 0 then (if t151.size + 2 ≤ 9223372036854775807 then ((armadaref07_Number.f kj3 t152).bind fun t159 => (if (t151 ++ (⟨#[47, 118]⟩ : ByteArray)).size + t159.size ≤ 9223372036854775807 then (armadalaw08_MpathMajors.j1 kj3 a1 t151 (((t151 ++ (⟨#[47, 118]⟩ : ByteArray)) ++ t159).toList != a0.toList) a2_0 a2_1 a2_2 a2_3 a2_4) else (none))) else (none)) else (armadalaw08_MpathMajors.j1 kj3 a1 t151 false a2_0 a2_1 a2_2 a2_3 a2_4))) else (armadalaw08_MpathMajors.j1 kj3 a1 t151 true a2_0 a2_1 a2_2 a2_3 a2_4)) else (armadalaw08_MpathMajors.j1 kj3 a1 t151 true a2_0 a2_1 a2_2 a2_3 a2_4))) else (if t151.toList = ([] : List UInt8) then (if t152 = 0 then ((mpath_Fits.f kj3 a0 a2_0 a2_1 a2_2 a2_3 a2_4).bind fun t154 => (if t154 = true then (some false) else ((armadalaw08_live.f kj3).bind fun t155 => (some t155)))) else (some false)) else (some false))) = some r := H
    have A13 := Aside0.mk A130
    clear A130
    by_cases c14 : t153 = true
    ·
     subst c14
     have H1 : ((mpath_Major.f kj3 t151).bind fun bt156 => (if bt156.2.2 = true then (if bt156.2.1 = 0 then (if ((t152 == 0) != (t151.toList == a0.toList)) = true then (armadalaw08_MpathMajors.j1 kj3 a1 t151 true a2_0 a2_1 a2_2 a2_3 a2_4) else (if t152 > 0 then (if t151.size + 2 ≤ 9223372036854775807 then ((armadaref07_Number.f kj3 t152).bind fun t159 => (if (t151 ++ (⟨#[47, 118]⟩ : ByteArray)).size + t159.size ≤ 9223372036854775807 then (armadalaw08_MpathMajors.j1 kj3 a1 t151 (((t151 ++ (⟨#[47, 118]⟩ : ByteArray)) ++ t159).toList != a0.toList) a2_0 a2_1 a2_2 a2_3 a2_4) else (none))) else (none)) else (armadalaw08_MpathMajors.j1 kj3 a1 t151 false a2_0 a2_1 a2_2 a2_3 a2_4))) else (armadalaw08_MpathMajors.j1 kj3 a1 t151 true a2_0 a2_1 a2_2 a2_3 a2_4)) else (armadalaw08_MpathMajors.j1 kj3 a1 t151 true a2_0 a2_1 a2_2 a2_3 a2_4))) = some r := by rw [if_pos rfl] at H; exact H
     clear H
     have H := H1
     clear H1
     replace H := Option.bind_eq_some_iff.mp H
     obtain ⟨⟨t156, t157, t158⟩, A150, H⟩ := H
     replace H : (if t158 = true then (if t157 = 0 then (if ((t152 == 0) != (t151.toList == a0.toList)) = true then (armadalaw08_MpathMajors.j1 kj3 a1 t151 true a2_0 a2_1 a2_2 a2_3 a2_4) else (if t152 > 0 then (if t151.size + 2 ≤ 9223372036854775807 then ((armadaref07_Number.f kj3 t152).bind fun t159 => (if (t151 ++ (⟨#[47, 118]⟩ : ByteArray)).size + t159.size ≤ 9223372036854775807 then (armadalaw08_MpathMajors.j1 kj3 a1 t151 (((t151 ++ (⟨#[47, 118]⟩ : ByteArray)) ++ t159).toList != a0.toList) a2_0 a2_1 a2_2 a2_3 a2_4) else (none))) else (none)) else (armadalaw08_MpathMajors.j1 kj3 a1 t151 false a2_0 a2_1 a2_2 a2_3 a2_4))) else (armadalaw08_MpathMajors.j1 kj3 a1 t151 true a2_0 a2_1 a2_2 a2_3 a2_4)) else (armadalaw08_MpathMajors.j1 kj3 a1 t151 true a2_0 a2_1 a2_2 a2_3 a2_4)) = some r := H
     have A15 := Aside0.mk A150
     clear A150
     have HC16 := Aside0.mk H
     clear H
     go_upto_region 7 with (first | ((with_reducible refine gate_callee (f := 6) rfl ?_); refine goesL_ (some 32) rfl rfl Tryd.func6 (by kernel_rfl) rfl #[.string a0] rfl (by (try simp only [List.map_toArray, List.map_cons, List.map_nil]); first | done | rfl | (simp only [List.length_drop, List.length_take]; rfl)) ?_; (with_reducible refine (mpath_Major.calls kj3 a0 t151 t152 true _ ?side1 A13.out).mono ?_); (case side1 => exact GW.below HGW.out (by repeat (first | (with_reducible first | exact HB.out | apply below_alloc | apply pw_below_drewN | apply below_drew1 | refine below_set ?_ GE149.out) | exact HB.out))); rintro e w17 ⟨rfl, hb⟩; refine ⟨_, rfl, ?_⟩; have n0_ := Aside0.mk (blk_below (g := gb149) (o := .cells #[.int .i64 a2_0, .int .i64 a2_1, .int .i64 a2_2, .string a2_3, .string a2_4] 23 (0, 0)) (by (with_reducible repeat (first | refine blk_drewN ?_ _ | refine blk_drew ?_ | refine blk_alloc ?_ _)); exact BK149.out) hb); have n1_ := Aside0.mk (below_step (by repeat (first | (with_reducible first | exact HB.out | apply below_alloc | apply pw_below_drewN | apply below_drew1 | refine below_set ?_ GE149.out) | exact HB.out)) hb); clear BK149; clear HB; have BK149 := n0_; have HB := n1_; clear n0_ n1_; (try clear hb); (try clear hb2); (try clear hk); (try clear hi)) | ((with_reducible refine gate_callee (f := 6) rfl ?_); refine goesL_ (some 55) rfl rfl Tryd.func6 (by kernel_rfl) rfl #[.string t151] rfl (by (try simp only [List.map_toArray, List.map_cons, List.map_nil]); first | done | rfl | (simp only [List.length_drop, List.length_take]; rfl)) ?_; (with_reducible refine (mpath_Major.calls kj3 t151 t156 t157 t158 _ ?side1 A15.out).mono ?_); (case side1 => exact GW.below HGW.out (by repeat (first | (with_reducible first | exact HB.out | apply below_alloc | apply pw_below_drewN | apply below_drew1 | refine below_set ?_ GE149.out) | exact HB.out))); rintro e w18 ⟨rfl, hb⟩; refine ⟨_, rfl, ?_⟩; have n0_ := Aside0.mk (blk_below (g := gb149) (o := .cells #[.int .i64 a2_0, .int .i64 a2_1, .int .i64 a2_2, .string a2_3, .string a2_4] 23 (0, 0)) (by (with_reducible repeat (first | refine blk_drewN ?_ _ | refine blk_drew ?_ | refine blk_alloc ?_ _)); exact BK149.out) hb); have n1_ := Aside0.mk (below_step (by repeat (first | (with_reducible first | exact HB.out | apply below_alloc | apply pw_below_drewN | apply below_drew1 | refine below_set ?_ GE149.out) | exact HB.out)) hb); clear BK149; clear HB; have BK149 := n0_; have HB := n1_; clear n0_ n1_; (try clear hb); (try clear hb2); (try clear hk); (try clear hi)))
     (try simp only [Act.put, List.setIfInBounds_toArray, List.set_cons_zero, List.set_cons_succ])
     go_cut [85] (fun v85 wc => ∃ (kq : Nat) (x85_15 : Bool), v85 = .bool x85_15 ∧ Aside0 (armadalaw08_MpathMajors.j1 kq a1 t151 x85_15 a2_0 a2_1 a2_2 a2_3 a2_4 = some r) ∧ Aside0 (kq ≤ kj3) ∧ Aside0 (wc.heap[gb149]? = some (.cells #[.int .i64 a2_0, .int .i64 a2_1, .int .i64 a2_2, .string a2_3, .string a2_4] 23 (0, 0))) ∧ Aside0 (Below w.heap.size w wc))
     case first =>
      have H := HC16.out
      clear HC16
      by_cases c19 : t158 = true
      ·
       subst c19
       have H1 : (if t157 = 0 then (if ((t152 == 0) != (t151.toList == a0.toList)) = true then (armadalaw08_MpathMajors.j1 kj3 a1 t151 true a2_0 a2_1 a2_2 a2_3 a2_4) else (if t152 > 0 then (if t151.size + 2 ≤ 9223372036854775807 then ((armadaref07_Number.f kj3 t152).bind fun t159 => (if (t151 ++ (⟨#[47, 118]⟩ : ByteArray)).size + t159.size ≤ 9223372036854775807 then (armadalaw08_MpathMajors.j1 kj3 a1 t151 (((t151 ++ (⟨#[47, 118]⟩ : ByteArray)) ++ t159).toList != a0.toList) a2_0 a2_1 a2_2 a2_3 a2_4) else (none))) else (none)) else (armadalaw08_MpathMajors.j1 kj3 a1 t151 false a2_0 a2_1 a2_2 a2_3 a2_4))) else (armadalaw08_MpathMajors.j1 kj3 a1 t151 true a2_0 a2_1 a2_2 a2_3 a2_4)) = some r := by rw [if_pos rfl] at H; exact H
       clear H
       have H := H1
       clear H1
       by_cases c20 : t157 = 0
       ·
        rw [if_pos c20] at H
        have c20b0 : (t157 == 0) = true := beq_iff_eq.mpr c20
        have c20b1 : (t157 != 0) = false := bne_eq_false_iff_eq.mpr c20
        clear c20
        (first | rw [c20b0] | (simp only [i64_w, i32_w]; rw [c20b0]) | skip)
        by_cases c21 : ((t152 == 0) != (t151.toList == a0.toList)) = true
        ·
         rw [if_pos c21] at H
         have c21b0 : ((t152 == 0) != (t151.toList == a0.toList)) = true := c21
         (try (have c21b1 : decide ((t152 == 0) = (t151.toList == a0.toList)) = false := by simpa using c21))
         (try (have c21b2 : ((t152 == 0) == (t151.toList == a0.toList)) = false := by simpa using c21))
         (try (have c21b3 : ¬ ((t152 == 0) = (t151.toList == a0.toList)) := by simpa using c21))
         clear c21
         have H' := Aside0.mk H
         clear H
         go_wp2
         go_meet
         case rel => exact ⟨_, (true), (by first | rfl | (simp; done) | (simp [*]; done) | (simp [isEmpty_bne]; done)), H', ⟨by have := HJ3.out; first | omega | exact Nat.le_refl _⟩, ⟨by (with_reducible repeat (first | refine blk_drewN ?_ _ | refine blk_drew ?_ | refine blk_alloc ?_ _)); exact BK149.out⟩, ⟨by repeat (first | (with_reducible first | exact HB.out | apply below_alloc | apply pw_below_drewN | apply below_drew1 | refine below_set ?_ GE149.out) | exact HB.out)⟩⟩
        ·
         rw [if_neg c21] at H
         have c21b0 : ((t152 == 0) != (t151.toList == a0.toList)) = false := by simpa using c21
         (try (have c21b1 : decide ((t152 == 0) = (t151.toList == a0.toList)) = true := by simpa using c21))
         (try (have c21b2 : ((t152 == 0) == (t151.toList == a0.toList)) = true := by simpa using c21))
         clear c21
         by_cases c22 : t152 > 0
         ·
          rw [if_pos c22] at H
          have c22b0 : decide (0 < t152) = true := decide_eq_true c22
          clear c22
          by_cases c23 : t151.size + 2 ≤ 9223372036854775807
          ·
           rw [if_pos c23] at H
           have c23b0 := eq_true c23
           have c23b1 : decide (t151.size + 2 ≤ 9223372036854775807) = true := decide_eq_true c23
           try have c23b2 : (9223372036854775807 < t151.size + 2) = False := eq_false (Nat.not_lt.2 c23)
           replace H := Option.bind_eq_some_iff.mp H
           obtain ⟨t159, A240, H⟩ := H
           replace H : (if (t151 ++ (⟨#[47, 118]⟩ : ByteArray)).size + t159.size ≤ 9223372036854775807 then (armadalaw08_MpathMajors.j1 kj3 a1 t151 (((t151 ++ (⟨#[47, 118]⟩ : ByteArray)) ++ t159).toList != a0.toList) a2_0 a2_1 a2_2 a2_3 a2_4) else (none)) = some r := H
           have A24 := Aside0.mk A240
           clear A240
           by_cases c25 : (t151 ++ (⟨#[47, 118]⟩ : ByteArray)).size + t159.size ≤ 9223372036854775807
           ·
            rw [if_pos c25] at H
            have c25b0 := eq_true c25
            have c25b1 : decide ((t151 ++ (⟨#[47, 118]⟩ : ByteArray)).size + t159.size ≤ 9223372036854775807) = true := decide_eq_true c25
            try have c25b2 : (9223372036854775807 < (t151 ++ (⟨#[47, 118]⟩ : ByteArray)).size + t159.size) = False := eq_false (Nat.not_lt.2 c25)
            try have c25b3 : (9223372036854775807 < t151.size + 2 + t159.size) = False := eq_false (Nat.not_lt.2 (by have h_ := c25; simp only [ByteArray.size_append] at h_; exact h_))
            try have c25b4 : (t151.size + 2 + t159.size ≤ 9223372036854775807) = True := eq_true (by have h_ := c25; simp only [ByteArray.size_append] at h_; exact h_)
            have H' := Aside0.mk H
            clear H
            go_wp2_with (first | (go_at_call 8; (with_reducible refine (armadaref07_Number.calls kj3 t152 t159 _ A24.out).mono ?_); rintro e w26 ⟨rfl, hb⟩; have n0_ := Aside0.mk (blk_below (g := gb149) (o := .cells #[.int .i64 a2_0, .int .i64 a2_1, .int .i64 a2_2, .string a2_3, .string a2_4] 23 (0, 0)) (by (with_reducible repeat (first | refine blk_drewN ?_ _ | refine blk_drew ?_ | refine blk_alloc ?_ _)); exact BK149.out) hb); have n1_ := Aside0.mk (below_step (by repeat (first | (with_reducible first | exact HB.out | apply below_alloc | apply pw_below_drewN | apply below_drew1 | refine below_set ?_ GE149.out) | exact HB.out)) hb); clear BK149; clear HB; have BK149 := n0_; have HB := n1_; clear n0_ n1_; (try clear hb); (try clear hb2); (try clear hk); (try clear hi)))
            go_meet
            case rel => exact ⟨_, ((((t151 ++ (⟨#[47, 118]⟩ : ByteArray)) ++ t159).toList != a0.toList)), (by first | rfl | (simp; done) | (simp [*]; done) | (simp [isEmpty_bne]; done)), H', ⟨by have := HJ3.out; first | omega | exact Nat.le_refl _⟩, ⟨by (with_reducible repeat (first | refine blk_drewN ?_ _ | refine blk_drew ?_ | refine blk_alloc ?_ _)); exact BK149.out⟩, ⟨by repeat (first | (with_reducible first | exact HB.out | apply below_alloc | apply pw_below_drewN | apply below_drew1 | refine below_set ?_ GE149.out) | exact HB.out)⟩⟩
           ·
            rw [if_neg c25] at H
            exact absurd H (by simp)
          ·
           rw [if_neg c23] at H
           exact absurd H (by simp)
         ·
          rw [if_neg c22] at H
          have c22b0 : decide (0 < t152) = false := decide_eq_false c22
          clear c22
          have H' := Aside0.mk H
          clear H
          go_wp2
          go_meet
          case rel => exact ⟨_, (false), (by first | rfl | (simp; done) | (simp [*]; done) | (simp [isEmpty_bne]; done)), H', ⟨by have := HJ3.out; first | omega | exact Nat.le_refl _⟩, ⟨by (with_reducible repeat (first | refine blk_drewN ?_ _ | refine blk_drew ?_ | refine blk_alloc ?_ _)); exact BK149.out⟩, ⟨by repeat (first | (with_reducible first | exact HB.out | apply below_alloc | apply pw_below_drewN | apply below_drew1 | refine below_set ?_ GE149.out) | exact HB.out)⟩⟩
       ·
        rw [if_neg c20] at H
        have c20b0 : (t157 == 0) = false := beq_eq_false_iff_ne.mpr c20
        have c20b1 : (t157 != 0) = true := bne_iff_ne.mpr c20
        (first | rw [c20b0] | (simp only [i64_w, i32_w]; rw [c20b0]) | skip)
        have H' := Aside0.mk H
        clear H
        go_wp2
        go_meet
        case rel => exact ⟨_, (true), (by first | rfl | (simp; done) | (simp [*]; done) | (simp [isEmpty_bne]; done)), H', ⟨by have := HJ3.out; first | omega | exact Nat.le_refl _⟩, ⟨by (with_reducible repeat (first | refine blk_drewN ?_ _ | refine blk_drew ?_ | refine blk_alloc ?_ _)); exact BK149.out⟩, ⟨by repeat (first | (with_reducible first | exact HB.out | apply below_alloc | apply pw_below_drewN | apply below_drew1 | refine below_set ?_ GE149.out) | exact HB.out)⟩⟩
      ·
       replace c19 := Bool.eq_false_iff.mpr c19
       subst c19
       have H1 : (armadalaw08_MpathMajors.j1 kj3 a1 t151 true a2_0 a2_1 a2_2 a2_3 a2_4) = some r := by rw [if_neg (show ¬ (false = true) by decide)] at H; exact H
       clear H
       have H := H1
       clear H1
       have H' := Aside0.mk H
       clear H
       go_wp2
       go_meet
       case rel => exact ⟨_, (true), (by first | rfl | (simp; done) | (simp [*]; done) | (simp [isEmpty_bne]; done)), H', ⟨by have := HJ3.out; first | omega | exact Nat.le_refl _⟩, ⟨by (with_reducible repeat (first | refine blk_drewN ?_ _ | refine blk_drew ?_ | refine blk_alloc ?_ _)); exact BK149.out⟩, ⟨by repeat (first | (with_reducible first | exact HB.out | apply below_alloc | apply pw_below_drewN | apply below_drew1 | refine below_set ?_ GE149.out) | exact HB.out)⟩⟩
     case rest =>
      clear HC16
      try clear c1
      try clear c2
      try clear p2
      try clear c3
      try clear c5
      try clear c6
      try clear c6b0
      try clear c6b1
      try clear c7
      try clear c7b0
      try clear c7b1
      try clear c10
      try clear c14
      try clear c19
      try clear c20
      try clear c20b0
      try clear c20b1
      try clear c21
      try clear c21b0
      try clear c21b1
      try clear c21b2
      try clear c22
      try clear c22b0
      try clear c23
      try clear c23b0
      try clear c23b1
      try clear c23b2
      try clear c25
      try clear c25b0
      try clear c25b1
      try clear c25b2
      try clear hcz8_0
      try clear hcz8_1
      try clear hcz8_2
      try clear hcz8_3
      try clear hcz8_4
      try clear hcz9_0
      try clear hcz9_1
      try clear hcz9_2
      try clear hcz9_3
      try clear hcz9_4
      try clear hfz8_0
      try clear hfz8_1
      try clear hfz8_2
      try clear hfz8_3
      try clear hfz8_4
      try clear hfz9_0
      try clear hfz9_1
      try clear hfz9_2
      try clear hfz9_3
      try clear hfz9_4
      try clear p2
      obtain ⟨kq, x85_15, rfl, HA, HJ15, BK149, HB⟩ := hcut
      cases kq with
      | zero => exact absurd HA.out (by simp [armadalaw08_MpathMajors.j1])
      | succ kj15 =>
       have H := HA.out
       clear HA
       simp only [armadalaw08_MpathMajors.j1] at H
       by_cases c27 : x85_15 = true
       ·
        subst c27
        have H1 : (some false) = some r := by rw [if_pos rfl] at H; exact H
        clear H
        have H := H1
        clear H1
        exact absurd ((Option.some.inj H).trans HTRU_.out) (by decide)
       ·
        replace c27 := Bool.eq_false_iff.mpr c27
        subst c27
        have H1 : (if a1 < 2 then (armadalaw08_MpathMajors.j2 kj15 a1 t151 true a2_0 a2_1 a2_2 a2_3 a2_4) else (if a1 > 999999999 then (armadalaw08_MpathMajors.j2 kj15 a1 t151 true a2_0 a2_1 a2_2 a2_3 a2_4) else (if t151.size + 2 ≤ 9223372036854775807 then ((armadaref07_Number.f kj15 a1).bind fun t160 => (if (t151 ++ (⟨#[47, 118]⟩ : ByteArray)).size + t160.size ≤ 9223372036854775807 then ((armadaref05_Path.f kj15 ((t151 ++ (⟨#[47, 118]⟩ : ByteArray)) ++ t160)).bind fun t161 => (armadalaw08_MpathMajors.j2 kj15 a1 t151 (!t161) a2_0 a2_1 a2_2 a2_3 a2_4)) else (none))) else (none)))) = some r := by rw [if_neg (show ¬ (false = true) by decide)] at H; exact H
        clear H
        have H := H1
        clear H1
        have HC28 := Aside0.mk H
        clear H
        go_upto_region 9 with (fail)
        go_cut [100] (fun v100 wc => ∃ (kq : Nat) (x100_27 : Bool), v100 = .bool x100_27 ∧ Aside0 (armadalaw08_MpathMajors.j2 kq a1 t151 x100_27 a2_0 a2_1 a2_2 a2_3 a2_4 = some r) ∧ Aside0 (kq ≤ kj15) ∧ Aside0 (wc.heap[gb149]? = some (.cells #[.int .i64 a2_0, .int .i64 a2_1, .int .i64 a2_2, .string a2_3, .string a2_4] 23 (0, 0))) ∧ Aside0 (Below w.heap.size w wc))
        case first =>
         have H := HC28.out
         clear HC28
         by_cases c29 : a1 < 2
         ·
          rw [if_pos c29] at H
          have c29b0 : decide (a1 < 2) = true := decide_eq_true c29
          clear c29
          (first | rw [c29b0] | (simp only [i64_w, i32_w]; rw [c29b0]) | skip)
          have H' := Aside0.mk H
          clear H
          go_wp2
          go_meet
          case rel => exact ⟨_, (true), (by first | rfl | (simp; done) | (simp [*]; done) | (simp [isEmpty_bne]; done)), H', ⟨by have := HJ3.out; have := HJ15.out; first | omega | exact Nat.le_refl _⟩, ⟨by (with_reducible repeat (first | refine blk_drewN ?_ _ | refine blk_drew ?_ | refine blk_alloc ?_ _)); exact BK149.out⟩, ⟨by repeat (first | (with_reducible first | exact HB.out | apply below_alloc | apply pw_below_drewN | apply below_drew1 | refine below_set ?_ GE149.out) | exact HB.out)⟩⟩
         ·
          rw [if_neg c29] at H
          have c29b0 : decide (a1 < 2) = false := decide_eq_false c29
          clear c29
          (first | rw [c29b0] | (simp only [i64_w, i32_w]; rw [c29b0]) | skip)
          by_cases c30 : a1 > 999999999
          ·
           rw [if_pos c30] at H
           have c30b0 : decide (999999999 < a1) = true := decide_eq_true c30
           clear c30
           have H' := Aside0.mk H
           clear H
           go_wp2
           go_meet
           case rel => exact ⟨_, (true), (by first | rfl | (simp; done) | (simp [*]; done) | (simp [isEmpty_bne]; done)), H', ⟨by have := HJ3.out; have := HJ15.out; first | omega | exact Nat.le_refl _⟩, ⟨by (with_reducible repeat (first | refine blk_drewN ?_ _ | refine blk_drew ?_ | refine blk_alloc ?_ _)); exact BK149.out⟩, ⟨by repeat (first | (with_reducible first | exact HB.out | apply below_alloc | apply pw_below_drewN | apply below_drew1 | refine below_set ?_ GE149.out) | exact HB.out)⟩⟩
          ·
           rw [if_neg c30] at H
           have c30b0 : decide (999999999 < a1) = false := decide_eq_false c30
           clear c30
           by_cases c31 : t151.size + 2 ≤ 9223372036854775807
           ·
            rw [if_pos c31] at H
            have c31b0 := eq_true c31
            have c31b1 : decide (t151.size + 2 ≤ 9223372036854775807) = true := decide_eq_true c31
            try have c31b2 : (9223372036854775807 < t151.size + 2) = False := eq_false (Nat.not_lt.2 c31)
            replace H := Option.bind_eq_some_iff.mp H
            obtain ⟨t160, A320, H⟩ := H
            replace H : (if (t151 ++ (⟨#[47, 118]⟩ : ByteArray)).size + t160.size ≤ 9223372036854775807 then ((armadaref05_Path.f kj15 ((t151 ++ (⟨#[47, 118]⟩ : ByteArray)) ++ t160)).bind fun t161 => (armadalaw08_MpathMajors.j2 kj15 a1 t151 (!t161) a2_0 a2_1 a2_2 a2_3 a2_4)) else (none)) = some r := H
            have A32 := Aside0.mk A320
            clear A320
            by_cases c33 : (t151 ++ (⟨#[47, 118]⟩ : ByteArray)).size + t160.size ≤ 9223372036854775807
            ·
             rw [if_pos c33] at H
             have c33b0 := eq_true c33
             have c33b1 : decide ((t151 ++ (⟨#[47, 118]⟩ : ByteArray)).size + t160.size ≤ 9223372036854775807) = true := decide_eq_true c33
             try have c33b2 : (9223372036854775807 < (t151 ++ (⟨#[47, 118]⟩ : ByteArray)).size + t160.size) = False := eq_false (Nat.not_lt.2 c33)
             try have c33b3 : (9223372036854775807 < t151.size + 2 + t160.size) = False := eq_false (Nat.not_lt.2 (by have h_ := c33; simp only [ByteArray.size_append] at h_; exact h_))
             try have c33b4 : (t151.size + 2 + t160.size ≤ 9223372036854775807) = True := eq_true (by have h_ := c33; simp only [ByteArray.size_append] at h_; exact h_)
             replace H := Option.bind_eq_some_iff.mp H
             obtain ⟨t161, A340, H⟩ := H
             replace H : (armadalaw08_MpathMajors.j2 kj15 a1 t151 (!t161) a2_0 a2_1 a2_2 a2_3 a2_4) = some r := H
             have A34 := Aside0.mk A340
             clear A340
             have H' := Aside0.mk H
             clear H
             go_wp2_with (first | (go_at_call 8; (with_reducible refine (armadaref07_Number.calls kj15 a1 t160 _ A32.out).mono ?_); rintro e w35 ⟨rfl, hb⟩; have n0_ := Aside0.mk (blk_below (g := gb149) (o := .cells #[.int .i64 a2_0, .int .i64 a2_1, .int .i64 a2_2, .string a2_3, .string a2_4] 23 (0, 0)) (by (with_reducible repeat (first | refine blk_drewN ?_ _ | refine blk_drew ?_ | refine blk_alloc ?_ _)); exact BK149.out) hb); have n1_ := Aside0.mk (below_step (by repeat (first | (with_reducible first | exact HB.out | apply below_alloc | apply pw_below_drewN | apply below_drew1 | refine below_set ?_ GE149.out) | exact HB.out)) hb); clear BK149; clear HB; have BK149 := n0_; have HB := n1_; clear n0_ n1_; (try clear hb); (try clear hb2); (try clear hk); (try clear hi)) | (go_at_call 9; (with_reducible refine (armadaref05_Path.calls kj15 ((t151 ++ (⟨#[47, 118]⟩ : ByteArray)) ++ t160) t161 _ A34.out).mono ?_); rintro e w36 ⟨rfl, hb⟩; have n0_ := Aside0.mk (blk_below (g := gb149) (o := .cells #[.int .i64 a2_0, .int .i64 a2_1, .int .i64 a2_2, .string a2_3, .string a2_4] 23 (0, 0)) (by (with_reducible repeat (first | refine blk_drewN ?_ _ | refine blk_drew ?_ | refine blk_alloc ?_ _)); exact BK149.out) hb); have n1_ := Aside0.mk (below_step (by repeat (first | (with_reducible first | exact HB.out | apply below_alloc | apply pw_below_drewN | apply below_drew1 | refine below_set ?_ GE149.out) | exact HB.out)) hb); clear BK149; clear HB; have BK149 := n0_; have HB := n1_; clear n0_ n1_; (try clear hb); (try clear hb2); (try clear hk); (try clear hi)))
             go_meet
             case rel => exact ⟨_, (!t161), (by first | rfl | (simp; done) | (simp [*]; done) | (simp [isEmpty_bne]; done)), H', ⟨by have := HJ3.out; have := HJ15.out; first | omega | exact Nat.le_refl _⟩, ⟨by (with_reducible repeat (first | refine blk_drewN ?_ _ | refine blk_drew ?_ | refine blk_alloc ?_ _)); exact BK149.out⟩, ⟨by repeat (first | (with_reducible first | exact HB.out | apply below_alloc | apply pw_below_drewN | apply below_drew1 | refine below_set ?_ GE149.out) | exact HB.out)⟩⟩
            ·
             rw [if_neg c33] at H
             exact absurd H (by simp)
           ·
            rw [if_neg c31] at H
            exact absurd H (by simp)
        case rest =>
         clear HC28
         try clear c1
         try clear c2
         try clear p2
         try clear c3
         try clear c5
         try clear c6
         try clear c6b0
         try clear c6b1
         try clear c7
         try clear c7b0
         try clear c7b1
         try clear c10
         try clear c14
         try clear c19
         try clear c20
         try clear c20b0
         try clear c20b1
         try clear c21
         try clear c21b0
         try clear c21b1
         try clear c21b2
         try clear c22
         try clear c22b0
         try clear c23
         try clear c23b0
         try clear c23b1
         try clear c23b2
         try clear c25
         try clear c25b0
         try clear c25b1
         try clear c25b2
         try clear c27
         try clear c29
         try clear c29b0
         try clear c30
         try clear c30b0
         try clear c31
         try clear c31b0
         try clear c31b1
         try clear c31b2
         try clear c33
         try clear c33b0
         try clear c33b1
         try clear c33b2
         try clear hcz8_0
         try clear hcz8_1
         try clear hcz8_2
         try clear hcz8_3
         try clear hcz8_4
         try clear hcz9_0
         try clear hcz9_1
         try clear hcz9_2
         try clear hcz9_3
         try clear hcz9_4
         try clear hfz8_0
         try clear hfz8_1
         try clear hfz8_2
         try clear hfz8_3
         try clear hfz8_4
         try clear hfz9_0
         try clear hfz9_1
         try clear hfz9_2
         try clear hfz9_3
         try clear hfz9_4
         try clear p2
         obtain ⟨kq, x100_27, rfl, HA, HJ27, BK149, HB⟩ := hcut
         cases kq with
         | zero => exact absurd HA.out (by simp [armadalaw08_MpathMajors.j2])
         | succ kj27 =>
          have H := HA.out
          clear HA
          simp only [armadalaw08_MpathMajors.j2] at H
          by_cases c37 : x100_27 = true
          ·
           subst c37
           have H1 : ((armadalaw08_live.f kj27).bind fun t162 => (some t162)) = some r := by rw [if_pos rfl] at H; exact H
           clear H
           have H := H1
           clear H1
           replace H := Option.bind_eq_some_iff.mp H
           obtain ⟨t162, A380, H⟩ := H
           replace H : (some t162) = some r := H
           have A38 := Aside0.mk A380
           clear A380
           obtain rfl := Option.some.inj H
           go_wp2_with (first | ((with_reducible refine gate_callee (f := 5) rfl ?_); refine goesL_ (some 101) rfl rfl Tryd.func5 (by kernel_rfl) rfl #[] rfl (by (try simp only [List.map_toArray, List.map_cons, List.map_nil]); first | done | rfl | (simp only [List.length_drop, List.length_take]; rfl)) ?_; (with_reducible refine (armadalaw08_live.calls kj27  t162 _ ?side1 ?side2 A38.out).mono ?_); (case side1 => exact GW.below HGW.out (by repeat (first | (with_reducible first | exact HB.out | apply below_alloc | apply pw_below_drewN | apply below_drew1 | refine below_set ?_ GE149.out) | exact HB.out))); (case side2 => exact HTRU_.out); rintro e w39 ⟨rfl, hb⟩; refine ⟨_, rfl, ?_⟩; have n0_ := Aside0.mk (blk_below (g := gb149) (o := .cells #[.int .i64 a2_0, .int .i64 a2_1, .int .i64 a2_2, .string a2_3, .string a2_4] 23 (0, 0)) (by (with_reducible repeat (first | refine blk_drewN ?_ _ | refine blk_drew ?_ | refine blk_alloc ?_ _)); exact BK149.out) hb); have n1_ := Aside0.mk (below_step (by repeat (first | (with_reducible first | exact HB.out | apply below_alloc | apply pw_below_drewN | apply below_drew1 | refine below_set ?_ GE149.out) | exact HB.out)) hb); clear BK149; clear HB; have BK149 := n0_; have HB := n1_; clear n0_ n1_; (try clear hb); (try clear hb2); (try clear hk); (try clear hi)))
           go_ret
           exact ⟨by first | rfl | (simp [errW_none, errW_some] <;> rfl) | (simp [*, errW_none, errW_some] <;> rfl) | (simp [isEmpty_bne]; done), by repeat (first | (with_reducible first | exact HB.out | apply below_alloc | apply pw_below_drewN | apply below_drew1 | refine below_set ?_ GE149.out) | exact HB.out)⟩
          ·
           replace c37 := Bool.eq_false_iff.mpr c37
           subst c37
           have H1 : (if t151.size + 2 ≤ 9223372036854775807 then ((armadaref07_Number.f kj27 a1).bind fun t163 => (if (t151 ++ (⟨#[47, 118]⟩ : ByteArray)).size + t163.size ≤ 9223372036854775807 then ((mpath_Check.f kj27 ((t151 ++ (⟨#[47, 118]⟩ : ByteArray)) ++ t163)).bind fun t164 => (if t164 = true then ((mpath_Fits.f kj27 t151 a2_0 a2_1 a2_2 a2_3 a2_4).bind fun t165 => (if t165 = true then ((mpath_Fits.f kj27 ((t151 ++ (⟨#[47, 118]⟩ : ByteArray)) ++ t163) a2_0 a2_1 a2_2 a2_3 a2_4).bind fun t166 => (armadalaw08_MpathMajors.j3 kj27 a1 ((t151 ++ (⟨#[47, 118]⟩ : ByteArray)) ++ t163) t166)) else (armadalaw08_MpathMajors.j3 kj27 a1 ((t151 ++ (⟨#[47, 118]⟩ : ByteArray)) ++ t163) false))) else (armadalaw08_MpathMajors.j3 kj27 a1 ((t151 ++ (⟨#[47, 118]⟩ : ByteArray)) ++ t163) true))) else (none))) else (none)) = some r := by rw [if_neg (show ¬ (false = true) by decide)] at H; exact H
           clear H
           have H := H1
           clear H1
           by_cases c40 : t151.size + 2 ≤ 9223372036854775807
           ·
            rw [if_pos c40] at H
            have c40b0 := eq_true c40
            have c40b1 : decide (t151.size + 2 ≤ 9223372036854775807) = true := decide_eq_true c40
            try have c40b2 : (9223372036854775807 < t151.size + 2) = False := eq_false (Nat.not_lt.2 c40)
            replace H := Option.bind_eq_some_iff.mp H
            obtain ⟨t163, A410, H⟩ := H
            replace H : (if (t151 ++ (⟨#[47, 118]⟩ : ByteArray)).size + t163.size ≤ 9223372036854775807 then ((mpath_Check.f kj27 ((t151 ++ (⟨#[47, 118]⟩ : ByteArray)) ++ t163)).bind fun t164 => (if t164 = true then ((mpath_Fits.f kj27 t151 a2_0 a2_1 a2_2 a2_3 a2_4).bind fun t165 => (if t165 = true then ((mpath_Fits.f kj27 ((t151 ++ (⟨#[47, 118]⟩ : ByteArray)) ++ t163) a2_0 a2_1 a2_2 a2_3 a2_4).bind fun t166 => (armadalaw08_MpathMajors.j3 kj27 a1 ((t151 ++ (⟨#[47, 118]⟩ : ByteArray)) ++ t163) t166)) else (armadalaw08_MpathMajors.j3 kj27 a1 ((t151 ++ (⟨#[47, 118]⟩ : ByteArray)) ++ t163) false))) else (armadalaw08_MpathMajors.j3 kj27 a1 ((t151 ++ (⟨#[47, 118]⟩ : ByteArray)) ++ t163) true))) else (none)) = some r := H
            have A41 := Aside0.mk A410
            clear A410
            by_cases c42 : (t151 ++ (⟨#[47, 118]⟩ : ByteArray)).size + t163.size ≤ 9223372036854775807
            ·
             rw [if_pos c42] at H
             have c42b0 := eq_true c42
             have c42b1 : decide ((t151 ++ (⟨#[47, 118]⟩ : ByteArray)).size + t163.size ≤ 9223372036854775807) = true := decide_eq_true c42
             try have c42b2 : (9223372036854775807 < (t151 ++ (⟨#[47, 118]⟩ : ByteArray)).size + t163.size) = False := eq_false (Nat.not_lt.2 c42)
             try have c42b3 : (9223372036854775807 < t151.size + 2 + t163.size) = False := eq_false (Nat.not_lt.2 (by have h_ := c42; simp only [ByteArray.size_append] at h_; exact h_))
             try have c42b4 : (t151.size + 2 + t163.size ≤ 9223372036854775807) = True := eq_true (by have h_ := c42; simp only [ByteArray.size_append] at h_; exact h_)
             have HC43 := Aside0.mk H
             clear H
             go_upto_region 12 with (first | ((with_reducible refine gate_callee (f := 8) rfl ?_); refine goesL_ (some 105) rfl rfl Tryd.func8 (by kernel_rfl) rfl #[.int .i64 a1] rfl (by (try simp only [List.map_toArray, List.map_cons, List.map_nil]); first | done | rfl | (simp only [List.length_drop, List.length_take]; rfl)) ?_; (with_reducible refine (armadaref07_Number.calls kj27 a1 t163 _ A41.out).mono ?_); rintro e w44 ⟨rfl, hb⟩; refine ⟨_, rfl, ?_⟩; have n0_ := Aside0.mk (blk_below (g := gb149) (o := .cells #[.int .i64 a2_0, .int .i64 a2_1, .int .i64 a2_2, .string a2_3, .string a2_4] 23 (0, 0)) (by (with_reducible repeat (first | refine blk_drewN ?_ _ | refine blk_drew ?_ | refine blk_alloc ?_ _)); exact BK149.out) hb); have n1_ := Aside0.mk (below_step (by repeat (first | (with_reducible first | exact HB.out | apply below_alloc | apply pw_below_drewN | apply below_drew1 | refine below_set ?_ GE149.out) | exact HB.out)) hb); clear BK149; clear HB; have BK149 := n0_; have HB := n1_; clear n0_ n1_; (try clear hb); (try clear hb2); (try clear hk); (try clear hi)))
             (try simp only [Act.put, List.setIfInBounds_toArray, List.set_cons_zero, List.set_cons_succ])
             go_cut [119] (fun v119 wc => ∃ (kq : Nat) (x119_42 : Bool), v119 = .bool x119_42 ∧ Aside0 (armadalaw08_MpathMajors.j3 kq a1 ((t151 ++ (⟨#[47, 118]⟩ : ByteArray)) ++ t163) x119_42 = some r) ∧ Aside0 (kq ≤ kj27) ∧ Aside0 (wc.heap[gb149]? = some (.cells #[.int .i64 a2_0, .int .i64 a2_1, .int .i64 a2_2, .string a2_3, .string a2_4] 23 (0, 0))) ∧ Aside0 (Below w.heap.size w wc))
             case first =>
              have H := HC43.out
              clear HC43
              replace H := Option.bind_eq_some_iff.mp H
              obtain ⟨t164, A450, H⟩ := H
              replace H : (if t164 = true then ((mpath_Fits.f kj27 t151 a2_0 a2_1 a2_2 a2_3 a2_4).bind fun t165 => (if t165 = true then ((mpath_Fits.f kj27 ((t151 ++ (⟨#[47, 118]⟩ : ByteArray)) ++ t163) a2_0 a2_1 a2_2 a2_3 a2_4).bind fun t166 => (armadalaw08_MpathMajors.j3 kj27 a1 ((t151 ++ (⟨#[47, 118]⟩ : ByteArray)) ++ t163) t166)) else (armadalaw08_MpathMajors.j3 kj27 a1 ((t151 ++ (⟨#[47, 118]⟩ : ByteArray)) ++ t163) false))) else (armadalaw08_MpathMajors.j3 kj27 a1 ((t151 ++ (⟨#[47, 118]⟩ : ByteArray)) ++ t163) true)) = some r := H
              have A45 := Aside0.mk A450
              clear A450
              by_cases c46 : t164 = true
              ·
               subst c46
               have H1 : ((mpath_Fits.f kj27 t151 a2_0 a2_1 a2_2 a2_3 a2_4).bind fun t165 => (if t165 = true then ((mpath_Fits.f kj27 ((t151 ++ (⟨#[47, 118]⟩ : ByteArray)) ++ t163) a2_0 a2_1 a2_2 a2_3 a2_4).bind fun t166 => (armadalaw08_MpathMajors.j3 kj27 a1 ((t151 ++ (⟨#[47, 118]⟩ : ByteArray)) ++ t163) t166)) else (armadalaw08_MpathMajors.j3 kj27 a1 ((t151 ++ (⟨#[47, 118]⟩ : ByteArray)) ++ t163) false))) = some r := by rw [if_pos rfl] at H; exact H
               clear H
               have H := H1
               clear H1
               replace H := Option.bind_eq_some_iff.mp H
               obtain ⟨t165, A470, H⟩ := H
               replace H : (if t165 = true then ((mpath_Fits.f kj27 ((t151 ++ (⟨#[47, 118]⟩ : ByteArray)) ++ t163) a2_0 a2_1 a2_2 a2_3 a2_4).bind fun t166 => (armadalaw08_MpathMajors.j3 kj27 a1 ((t151 ++ (⟨#[47, 118]⟩ : ByteArray)) ++ t163) t166)) else (armadalaw08_MpathMajors.j3 kj27 a1 ((t151 ++ (⟨#[47, 118]⟩ : ByteArray)) ++ t163) false)) = some r := H
               have A47 := Aside0.mk A470
               clear A470
               by_cases c48 : t165 = true
               ·
                subst c48
                have H1 : ((mpath_Fits.f kj27 ((t151 ++ (⟨#[47, 118]⟩ : ByteArray)) ++ t163) a2_0 a2_1 a2_2 a2_3 a2_4).bind fun t166 => (armadalaw08_MpathMajors.j3 kj27 a1 ((t151 ++ (⟨#[47, 118]⟩ : ByteArray)) ++ t163) t166)) = some r := by rw [if_pos rfl] at H; exact H
                clear H
                have H := H1
                clear H1
                replace H := Option.bind_eq_some_iff.mp H
                obtain ⟨t166, A490, H⟩ := H
                replace H : (armadalaw08_MpathMajors.j3 kj27 a1 ((t151 ++ (⟨#[47, 118]⟩ : ByteArray)) ++ t163) t166) = some r := H
                have A49 := Aside0.mk A490
                clear A490
                have H' := Aside0.mk H
                clear H
                go_wp2_with (first | ((with_reducible refine gate_callee (f := 10) rfl ?_); refine goesL_ (some 108) rfl rfl Tryd.func10 (by kernel_rfl) rfl #[.string ((t151 ++ (⟨#[47, 118]⟩ : ByteArray)) ++ t163)] rfl (by (try simp only [List.map_toArray, List.map_cons, List.map_nil]); first | done | rfl | (simp only [List.length_drop, List.length_take]; rfl)) ?_; (with_reducible refine (mpath_Check.calls kj27 ((t151 ++ (⟨#[47, 118]⟩ : ByteArray)) ++ t163) true _ ?side1 A45.out).mono ?_); (case side1 => exact GW.below HGW.out (by repeat (first | (with_reducible first | exact HB.out | apply below_alloc | apply pw_below_drewN | apply below_drew1 | refine below_set ?_ GE149.out) | exact HB.out))); rintro e w50 ⟨rfl, hb⟩; refine ⟨_, rfl, ?_⟩; have n0_ := Aside0.mk (blk_below (g := gb149) (o := .cells #[.int .i64 a2_0, .int .i64 a2_1, .int .i64 a2_2, .string a2_3, .string a2_4] 23 (0, 0)) (by (with_reducible repeat (first | refine blk_drewN ?_ _ | refine blk_drew ?_ | refine blk_alloc ?_ _)); exact BK149.out) hb); have n1_ := Aside0.mk (below_step (by repeat (first | (with_reducible first | exact HB.out | apply below_alloc | apply pw_below_drewN | apply below_drew1 | refine below_set ?_ GE149.out) | exact HB.out)) hb); clear BK149; clear HB; have BK149 := n0_; have HB := n1_; clear n0_ n1_; (try clear hb); (try clear hb2); (try clear hk); (try clear hi); have hcz51_0 : w50.cell? ⟨gb149, 0, none⟩ = some (.int .i64 a2_0) := (blk_cell BK149.out 0).trans rfl; have hcz51_1 : w50.cell? ⟨gb149, 1, none⟩ = some (.int .i64 a2_1) := (blk_cell BK149.out 1).trans rfl; have hcz51_2 : w50.cell? ⟨gb149, 2, none⟩ = some (.int .i64 a2_2) := (blk_cell BK149.out 2).trans rfl; have hcz51_3 : w50.cell? ⟨gb149, 3, none⟩ = some (.string a2_3) := (blk_cell BK149.out 3).trans rfl; have hcz51_4 : w50.cell? ⟨gb149, 4, none⟩ = some (.string a2_4) := (blk_cell BK149.out 4).trans rfl; have hfz51_0 := blk_frozen BK149.out 0; have hfz51_1 := blk_frozen BK149.out 1; have hfz51_2 := blk_frozen BK149.out 2; have hfz51_3 := blk_frozen BK149.out 3; have hfz51_4 := blk_frozen BK149.out 4) | (go_at_call 7; (with_reducible refine (mpath_Fits.calls kj27 t151 a2_0 a2_1 a2_2 a2_3 a2_4 true _ ?side1 A47.out).mono ?_); (case side1 => exact GW.below HGW.out (by repeat (first | (with_reducible first | exact HB.out | apply below_alloc | apply pw_below_drewN | apply below_drew1 | refine below_set ?_ GE149.out) | exact HB.out))); rintro e w52 ⟨rfl, hb⟩; have n0_ := Aside0.mk (blk_below (g := gb149) (o := .cells #[.int .i64 a2_0, .int .i64 a2_1, .int .i64 a2_2, .string a2_3, .string a2_4] 23 (0, 0)) (by (with_reducible repeat (first | refine blk_drewN ?_ _ | refine blk_drew ?_ | refine blk_alloc ?_ _)); exact BK149.out) hb); have n1_ := Aside0.mk (below_step (by repeat (first | (with_reducible first | exact HB.out | apply below_alloc | apply pw_below_drewN | apply below_drew1 | refine below_set ?_ GE149.out) | exact HB.out)) hb); clear BK149; clear HB; have BK149 := n0_; have HB := n1_; clear n0_ n1_; (try clear hb); (try clear hb2); (try clear hk); (try clear hi); have hcz53_0 : w52.cell? ⟨gb149, 0, none⟩ = some (.int .i64 a2_0) := (blk_cell BK149.out 0).trans rfl; have hcz53_1 : w52.cell? ⟨gb149, 1, none⟩ = some (.int .i64 a2_1) := (blk_cell BK149.out 1).trans rfl; have hcz53_2 : w52.cell? ⟨gb149, 2, none⟩ = some (.int .i64 a2_2) := (blk_cell BK149.out 2).trans rfl; have hcz53_3 : w52.cell? ⟨gb149, 3, none⟩ = some (.string a2_3) := (blk_cell BK149.out 3).trans rfl; have hcz53_4 : w52.cell? ⟨gb149, 4, none⟩ = some (.string a2_4) := (blk_cell BK149.out 4).trans rfl; have hfz53_0 := blk_frozen BK149.out 0; have hfz53_1 := blk_frozen BK149.out 1; have hfz53_2 := blk_frozen BK149.out 2; have hfz53_3 := blk_frozen BK149.out 3; have hfz53_4 := blk_frozen BK149.out 4) | (go_at_call 7; (with_reducible refine (mpath_Fits.calls kj27 ((t151 ++ (⟨#[47, 118]⟩ : ByteArray)) ++ t163) a2_0 a2_1 a2_2 a2_3 a2_4 t166 _ ?side1 A49.out).mono ?_); (case side1 => exact GW.below HGW.out (by repeat (first | (with_reducible first | exact HB.out | apply below_alloc | apply pw_below_drewN | apply below_drew1 | refine below_set ?_ GE149.out) | exact HB.out))); rintro e w54 ⟨rfl, hb⟩; have n0_ := Aside0.mk (blk_below (g := gb149) (o := .cells #[.int .i64 a2_0, .int .i64 a2_1, .int .i64 a2_2, .string a2_3, .string a2_4] 23 (0, 0)) (by (with_reducible repeat (first | refine blk_drewN ?_ _ | refine blk_drew ?_ | refine blk_alloc ?_ _)); exact BK149.out) hb); have n1_ := Aside0.mk (below_step (by repeat (first | (with_reducible first | exact HB.out | apply below_alloc | apply pw_below_drewN | apply below_drew1 | refine below_set ?_ GE149.out) | exact HB.out)) hb); clear BK149; clear HB; have BK149 := n0_; have HB := n1_; clear n0_ n1_; (try clear hb); (try clear hb2); (try clear hk); (try clear hi)))
                go_meet
                case rel => exact ⟨_, (t166), (by first | rfl | (simp; done) | (simp [*]; done) | (simp [isEmpty_bne]; done)), H', ⟨by have := HJ3.out; have := HJ15.out; have := HJ27.out; first | omega | exact Nat.le_refl _⟩, ⟨by (with_reducible repeat (first | refine blk_drewN ?_ _ | refine blk_drew ?_ | refine blk_alloc ?_ _)); exact BK149.out⟩, ⟨by repeat (first | (with_reducible first | exact HB.out | apply below_alloc | apply pw_below_drewN | apply below_drew1 | refine below_set ?_ GE149.out) | exact HB.out)⟩⟩
               ·
                replace c48 := Bool.eq_false_iff.mpr c48
                subst c48
                have H1 : (armadalaw08_MpathMajors.j3 kj27 a1 ((t151 ++ (⟨#[47, 118]⟩ : ByteArray)) ++ t163) false) = some r := by rw [if_neg (show ¬ (false = true) by decide)] at H; exact H
                clear H
                have H := H1
                clear H1
                have H' := Aside0.mk H
                clear H
                go_wp2_with (first | ((with_reducible refine gate_callee (f := 10) rfl ?_); refine goesL_ (some 108) rfl rfl Tryd.func10 (by kernel_rfl) rfl #[.string ((t151 ++ (⟨#[47, 118]⟩ : ByteArray)) ++ t163)] rfl (by (try simp only [List.map_toArray, List.map_cons, List.map_nil]); first | done | rfl | (simp only [List.length_drop, List.length_take]; rfl)) ?_; (with_reducible refine (mpath_Check.calls kj27 ((t151 ++ (⟨#[47, 118]⟩ : ByteArray)) ++ t163) true _ ?side1 A45.out).mono ?_); (case side1 => exact GW.below HGW.out (by repeat (first | (with_reducible first | exact HB.out | apply below_alloc | apply pw_below_drewN | apply below_drew1 | refine below_set ?_ GE149.out) | exact HB.out))); rintro e w55 ⟨rfl, hb⟩; refine ⟨_, rfl, ?_⟩; have n0_ := Aside0.mk (blk_below (g := gb149) (o := .cells #[.int .i64 a2_0, .int .i64 a2_1, .int .i64 a2_2, .string a2_3, .string a2_4] 23 (0, 0)) (by (with_reducible repeat (first | refine blk_drewN ?_ _ | refine blk_drew ?_ | refine blk_alloc ?_ _)); exact BK149.out) hb); have n1_ := Aside0.mk (below_step (by repeat (first | (with_reducible first | exact HB.out | apply below_alloc | apply pw_below_drewN | apply below_drew1 | refine below_set ?_ GE149.out) | exact HB.out)) hb); clear BK149; clear HB; have BK149 := n0_; have HB := n1_; clear n0_ n1_; (try clear hb); (try clear hb2); (try clear hk); (try clear hi); have hcz56_0 : w55.cell? ⟨gb149, 0, none⟩ = some (.int .i64 a2_0) := (blk_cell BK149.out 0).trans rfl; have hcz56_1 : w55.cell? ⟨gb149, 1, none⟩ = some (.int .i64 a2_1) := (blk_cell BK149.out 1).trans rfl; have hcz56_2 : w55.cell? ⟨gb149, 2, none⟩ = some (.int .i64 a2_2) := (blk_cell BK149.out 2).trans rfl; have hcz56_3 : w55.cell? ⟨gb149, 3, none⟩ = some (.string a2_3) := (blk_cell BK149.out 3).trans rfl; have hcz56_4 : w55.cell? ⟨gb149, 4, none⟩ = some (.string a2_4) := (blk_cell BK149.out 4).trans rfl; have hfz56_0 := blk_frozen BK149.out 0; have hfz56_1 := blk_frozen BK149.out 1; have hfz56_2 := blk_frozen BK149.out 2; have hfz56_3 := blk_frozen BK149.out 3; have hfz56_4 := blk_frozen BK149.out 4) | (go_at_call 7; (with_reducible refine (mpath_Fits.calls kj27 t151 a2_0 a2_1 a2_2 a2_3 a2_4 false _ ?side1 A47.out).mono ?_); (case side1 => exact GW.below HGW.out (by repeat (first | (with_reducible first | exact HB.out | apply below_alloc | apply pw_below_drewN | apply below_drew1 | refine below_set ?_ GE149.out) | exact HB.out))); rintro e w57 ⟨rfl, hb⟩; have n0_ := Aside0.mk (blk_below (g := gb149) (o := .cells #[.int .i64 a2_0, .int .i64 a2_1, .int .i64 a2_2, .string a2_3, .string a2_4] 23 (0, 0)) (by (with_reducible repeat (first | refine blk_drewN ?_ _ | refine blk_drew ?_ | refine blk_alloc ?_ _)); exact BK149.out) hb); have n1_ := Aside0.mk (below_step (by repeat (first | (with_reducible first | exact HB.out | apply below_alloc | apply pw_below_drewN | apply below_drew1 | refine below_set ?_ GE149.out) | exact HB.out)) hb); clear BK149; clear HB; have BK149 := n0_; have HB := n1_; clear n0_ n1_; (try clear hb); (try clear hb2); (try clear hk); (try clear hi)))
                go_meet
                case rel => exact ⟨_, (false), (by first | rfl | (simp; done) | (simp [*]; done) | (simp [isEmpty_bne]; done)), H', ⟨by have := HJ3.out; have := HJ15.out; have := HJ27.out; first | omega | exact Nat.le_refl _⟩, ⟨by (with_reducible repeat (first | refine blk_drewN ?_ _ | refine blk_drew ?_ | refine blk_alloc ?_ _)); exact BK149.out⟩, ⟨by repeat (first | (with_reducible first | exact HB.out | apply below_alloc | apply pw_below_drewN | apply below_drew1 | refine below_set ?_ GE149.out) | exact HB.out)⟩⟩
              ·
               replace c46 := Bool.eq_false_iff.mpr c46
               subst c46
               have H1 : (armadalaw08_MpathMajors.j3 kj27 a1 ((t151 ++ (⟨#[47, 118]⟩ : ByteArray)) ++ t163) true) = some r := by rw [if_neg (show ¬ (false = true) by decide)] at H; exact H
               clear H
               have H := H1
               clear H1
               have H' := Aside0.mk H
               clear H
               go_wp2_with (first | ((with_reducible refine gate_callee (f := 10) rfl ?_); refine goesL_ (some 108) rfl rfl Tryd.func10 (by kernel_rfl) rfl #[.string ((t151 ++ (⟨#[47, 118]⟩ : ByteArray)) ++ t163)] rfl (by (try simp only [List.map_toArray, List.map_cons, List.map_nil]); first | done | rfl | (simp only [List.length_drop, List.length_take]; rfl)) ?_; (with_reducible refine (mpath_Check.calls kj27 ((t151 ++ (⟨#[47, 118]⟩ : ByteArray)) ++ t163) false _ ?side1 A45.out).mono ?_); (case side1 => exact GW.below HGW.out (by repeat (first | (with_reducible first | exact HB.out | apply below_alloc | apply pw_below_drewN | apply below_drew1 | refine below_set ?_ GE149.out) | exact HB.out))); rintro e w58 ⟨rfl, hb⟩; refine ⟨_, rfl, ?_⟩; have n0_ := Aside0.mk (blk_below (g := gb149) (o := .cells #[.int .i64 a2_0, .int .i64 a2_1, .int .i64 a2_2, .string a2_3, .string a2_4] 23 (0, 0)) (by (with_reducible repeat (first | refine blk_drewN ?_ _ | refine blk_drew ?_ | refine blk_alloc ?_ _)); exact BK149.out) hb); have n1_ := Aside0.mk (below_step (by repeat (first | (with_reducible first | exact HB.out | apply below_alloc | apply pw_below_drewN | apply below_drew1 | refine below_set ?_ GE149.out) | exact HB.out)) hb); clear BK149; clear HB; have BK149 := n0_; have HB := n1_; clear n0_ n1_; (try clear hb); (try clear hb2); (try clear hk); (try clear hi)))
               go_meet
               case rel => exact ⟨_, (true), (by first | rfl | (simp; done) | (simp [*]; done) | (simp [isEmpty_bne]; done)), H', ⟨by have := HJ3.out; have := HJ15.out; have := HJ27.out; first | omega | exact Nat.le_refl _⟩, ⟨by (with_reducible repeat (first | refine blk_drewN ?_ _ | refine blk_drew ?_ | refine blk_alloc ?_ _)); exact BK149.out⟩, ⟨by repeat (first | (with_reducible first | exact HB.out | apply below_alloc | apply pw_below_drewN | apply below_drew1 | refine below_set ?_ GE149.out) | exact HB.out)⟩⟩
             case rest =>
              clear HC43
              try clear c1
              try clear c2
              try clear p2
              try clear c3
              try clear c4
              try clear c5
              try clear c6
              try clear c6b0
              try clear c6b1
              try clear c7
              try clear c7b0
              try clear c7b1
              try clear c8
              try clear c10
              try clear c14
              try clear c19
              try clear c20
              try clear c20b0
              try clear c20b1
              try clear c21
              try clear c21b0
              try clear c21b1
              try clear c21b2
              try clear c22
              try clear c22b0
              try clear c23
              try clear c23b0
              try clear c23b1
              try clear c23b2
              try clear c25
              try clear c25b0
              try clear c25b1
              try clear c25b2
              try clear c27
              try clear c29
              try clear c29b0
              try clear c30
              try clear c30b0
              try clear c31
              try clear c31b0
              try clear c31b1
              try clear c31b2
              try clear c33
              try clear c33b0
              try clear c33b1
              try clear c33b2
              try clear c37
              try clear c40
              try clear c40b0
              try clear c40b1
              try clear c40b2
              try clear c42
              try clear c42b0
              try clear c42b1
              try clear c42b2
              try clear c46
              try clear c48
              try clear hcz51_0
              try clear hcz51_1
              try clear hcz51_2
              try clear hcz51_3
              try clear hcz51_4
              try clear hcz53_0
              try clear hcz53_1
              try clear hcz53_2
              try clear hcz53_3
              try clear hcz53_4
              try clear hcz56_0
              try clear hcz56_1
              try clear hcz56_2
              try clear hcz56_3
              try clear hcz56_4
              try clear hcz8_0
              try clear hcz8_1
              try clear hcz8_2
              try clear hcz8_3
              try clear hcz8_4
              try clear hcz9_0
              try clear hcz9_1
              try clear hcz9_2
              try clear hcz9_3
              try clear hcz9_4
              try clear hfz51_0
              try clear hfz51_1
              try clear hfz51_2
              try clear hfz51_3
              try clear hfz51_4
              try clear hfz53_0
              try clear hfz53_1
              try clear hfz53_2
              try clear hfz53_3
              try clear hfz53_4
              try clear hfz56_0
              try clear hfz56_1
              try clear hfz56_2
              try clear hfz56_3
              try clear hfz56_4
              try clear hfz8_0
              try clear hfz8_1
              try clear hfz8_2
              try clear hfz8_3
              try clear hfz8_4
              try clear hfz9_0
              try clear hfz9_1
              try clear hfz9_2
              try clear hfz9_3
              try clear hfz9_4
              try clear p2
              obtain ⟨kq, x119_42, rfl, HA, HJ42, BK149, HB⟩ := hcut
              cases kq with
              | zero => exact absurd HA.out (by simp [armadalaw08_MpathMajors.j3])
              | succ kj42 =>
               have H := HA.out
               clear HA
               simp only [armadalaw08_MpathMajors.j3] at H
               by_cases c59 : x119_42 = true
               ·
                subst c59
                have H1 : (some false) = some r := by rw [if_pos rfl] at H; exact H
                clear H
                have H := H1
                clear H1
                exact absurd ((Option.some.inj H).trans HTRU_.out) (by decide)
               ·
                replace c59 := Bool.eq_false_iff.mpr c59
                subst c59
                have H1 : ((mpath_Fits.f kj42 ((t151 ++ (⟨#[47, 118]⟩ : ByteArray)) ++ t163) a1 0 0 (⟨#[]⟩ : ByteArray) (⟨#[]⟩ : ByteArray)).bind fun t167 => (if t167 = true then ((armadalaw08_live.f kj42).bind fun t168 => (some t168)) else (some false))) = some r := by rw [if_neg (show ¬ (false = true) by decide)] at H; exact H
                clear H
                have H := H1
                clear H1
                replace H := Option.bind_eq_some_iff.mp H
                obtain ⟨t167, A600, H⟩ := H
                replace H : (if t167 = true then ((armadalaw08_live.f kj42).bind fun t168 => (some t168)) else (some false)) = some r := H
                have A60 := Aside0.mk A600
                clear A600
                by_cases c61 : t167 = true
                ·
                 subst c61
                 have H1 : ((armadalaw08_live.f kj42).bind fun t168 => (some t168)) = some r := by rw [if_pos rfl] at H; exact H
                 clear H
                 have H := H1
                 clear H1
                 replace H := Option.bind_eq_some_iff.mp H
                 obtain ⟨t168, A620, H⟩ := H
                 replace H : (some t168) = some r := H
                 have A62 := Aside0.mk A620
                 clear A620
                 obtain rfl := Option.some.inj H
                 go_wp2_with (first | ((with_reducible refine gate_callee (f := 7) rfl ?_); refine goesL_ (some 123) rfl rfl Tryd.func7 (by kernel_rfl) rfl #[.string ((t151 ++ (⟨#[47, 118]⟩ : ByteArray)) ++ t163), .agg #[.int .i64 a1, .int .i64 0, .int .i64 0, .string (⟨#[]⟩ : ByteArray), .string (⟨#[]⟩ : ByteArray)]] rfl (by (try simp only [List.map_toArray, List.map_cons, List.map_nil]); first | done | rfl | (simp only [List.length_drop, List.length_take]; rfl)) ?_; (with_reducible refine (mpath_Fits.calls kj42 ((t151 ++ (⟨#[47, 118]⟩ : ByteArray)) ++ t163) a1 0 0 (⟨#[]⟩ : ByteArray) (⟨#[]⟩ : ByteArray) true _ ?side1 A60.out).mono ?_); (case side1 => exact GW.below HGW.out (by repeat (first | (with_reducible first | exact HB.out | apply below_alloc | apply pw_below_drewN | apply below_drew1 | refine below_set ?_ GE149.out) | exact HB.out))); rintro e w63 ⟨rfl, hb⟩; refine ⟨_, rfl, ?_⟩; have n0_ := Aside0.mk (blk_below (g := gb149) (o := .cells #[.int .i64 a2_0, .int .i64 a2_1, .int .i64 a2_2, .string a2_3, .string a2_4] 23 (0, 0)) (by (with_reducible repeat (first | refine blk_drewN ?_ _ | refine blk_drew ?_ | refine blk_alloc ?_ _)); exact BK149.out) hb); have n1_ := Aside0.mk (below_step (by repeat (first | (with_reducible first | exact HB.out | apply below_alloc | apply pw_below_drewN | apply below_drew1 | refine below_set ?_ GE149.out) | exact HB.out)) hb); clear BK149; clear HB; have BK149 := n0_; have HB := n1_; clear n0_ n1_; (try clear hb); (try clear hb2); (try clear hk); (try clear hi)) | (go_at_call 5; (with_reducible refine (armadalaw08_live.calls kj42  t168 _ ?side1 ?side2 A62.out).mono ?_); (case side1 => exact GW.below HGW.out (by repeat (first | (with_reducible first | exact HB.out | apply below_alloc | apply pw_below_drewN | apply below_drew1 | refine below_set ?_ GE149.out) | exact HB.out))); (case side2 => exact HTRU_.out); rintro e w64 ⟨rfl, hb⟩; have n0_ := Aside0.mk (blk_below (g := gb149) (o := .cells #[.int .i64 a2_0, .int .i64 a2_1, .int .i64 a2_2, .string a2_3, .string a2_4] 23 (0, 0)) (by (with_reducible repeat (first | refine blk_drewN ?_ _ | refine blk_drew ?_ | refine blk_alloc ?_ _)); exact BK149.out) hb); have n1_ := Aside0.mk (below_step (by repeat (first | (with_reducible first | exact HB.out | apply below_alloc | apply pw_below_drewN | apply below_drew1 | refine below_set ?_ GE149.out) | exact HB.out)) hb); clear BK149; clear HB; have BK149 := n0_; have HB := n1_; clear n0_ n1_; (try clear hb); (try clear hb2); (try clear hk); (try clear hi)))
                 go_ret
                 exact ⟨by first | rfl | (simp [errW_none, errW_some] <;> rfl) | (simp [*, errW_none, errW_some] <;> rfl) | (simp [isEmpty_bne]; done), by repeat (first | (with_reducible first | exact HB.out | apply below_alloc | apply pw_below_drewN | apply below_drew1 | refine below_set ?_ GE149.out) | exact HB.out)⟩
                ·
                 replace c61 := Bool.eq_false_iff.mpr c61
                 subst c61
                 have H1 : (some false) = some r := by rw [if_neg (show ¬ (false = true) by decide)] at H; exact H
                 clear H
                 have H := H1
                 clear H1
                 exact absurd ((Option.some.inj H).trans HTRU_.out) (by decide)
            ·
             rw [if_neg c42] at H
             exact absurd H (by simp)
           ·
            rw [if_neg c40] at H
            exact absurd H (by simp)
    ·
     replace c14 := Bool.eq_false_iff.mpr c14
     subst c14
     have H1 : (if t151.toList = ([] : List UInt8) then (if t152 = 0 then ((mpath_Fits.f kj3 a0 a2_0 a2_1 a2_2 a2_3 a2_4).bind fun t154 => (if t154 = true then (some false) else ((armadalaw08_live.f kj3).bind fun t155 => (some t155)))) else (some false)) else (some false)) = some r := by rw [if_neg (show ¬ (false = true) by decide)] at H; exact H
     clear H
     have H := H1
     clear H1
     by_cases c65 : t151.toList = ([] : List UInt8)
     ·
      rw [if_pos c65] at H
      have c65b0 : (t151.toList == ([] : List UInt8)) = true := beq_iff_eq.mpr c65
      have c65b1 : (t151.toList != ([] : List UInt8)) = false := bne_eq_false_iff_eq.mpr c65
      clear c65
      by_cases c66 : t152 = 0
      ·
       rw [if_pos c66] at H
       have c66b0 : (t152 == 0) = true := beq_iff_eq.mpr c66
       have c66b1 : (t152 != 0) = false := bne_eq_false_iff_eq.mpr c66
       clear c66
       replace H := Option.bind_eq_some_iff.mp H
       obtain ⟨t154, A670, H⟩ := H
       replace H : (if t154 = true then (some false) else ((armadalaw08_live.f kj3).bind fun t155 => (some t155))) = some r := H
       have A67 := Aside0.mk A670
       clear A670
       by_cases c68 : t154 = true
       ·
        subst c68
        have H1 : (some false) = some r := by rw [if_pos rfl] at H; exact H
        clear H
        have H := H1
        clear H1
        exact absurd ((Option.some.inj H).trans HTRU_.out) (by decide)
       ·
        replace c68 := Bool.eq_false_iff.mpr c68
        subst c68
        have H1 : ((armadalaw08_live.f kj3).bind fun t155 => (some t155)) = some r := by rw [if_neg (show ¬ (false = true) by decide)] at H; exact H
        clear H
        have H := H1
        clear H1
        replace H := Option.bind_eq_some_iff.mp H
        obtain ⟨t155, A690, H⟩ := H
        replace H : (some t155) = some r := H
        have A69 := Aside0.mk A690
        clear A690
        obtain rfl := Option.some.inj H
        go_wp2_with (first | ((with_reducible refine gate_callee (f := 6) rfl ?_); refine goesL_ (some 32) rfl rfl Tryd.func6 (by kernel_rfl) rfl #[.string a0] rfl (by (try simp only [List.map_toArray, List.map_cons, List.map_nil]); first | done | rfl | (simp only [List.length_drop, List.length_take]; rfl)) ?_; (with_reducible refine (mpath_Major.calls kj3 a0 t151 t152 false _ ?side1 A13.out).mono ?_); (case side1 => exact GW.below HGW.out (by repeat (first | (with_reducible first | exact HB.out | apply below_alloc | apply pw_below_drewN | apply below_drew1 | refine below_set ?_ GE149.out) | exact HB.out))); rintro e w70 ⟨rfl, hb⟩; refine ⟨_, rfl, ?_⟩; have n0_ := Aside0.mk (blk_below (g := gb149) (o := .cells #[.int .i64 a2_0, .int .i64 a2_1, .int .i64 a2_2, .string a2_3, .string a2_4] 23 (0, 0)) (by (with_reducible repeat (first | refine blk_drewN ?_ _ | refine blk_drew ?_ | refine blk_alloc ?_ _)); exact BK149.out) hb); have n1_ := Aside0.mk (below_step (by repeat (first | (with_reducible first | exact HB.out | apply below_alloc | apply pw_below_drewN | apply below_drew1 | refine below_set ?_ GE149.out) | exact HB.out)) hb); clear BK149; clear HB; have BK149 := n0_; have HB := n1_; clear n0_ n1_; (try clear hb); (try clear hb2); (try clear hk); (try clear hi); have hcz71_0 : w70.cell? ⟨gb149, 0, none⟩ = some (.int .i64 a2_0) := (blk_cell BK149.out 0).trans rfl; have hcz71_1 : w70.cell? ⟨gb149, 1, none⟩ = some (.int .i64 a2_1) := (blk_cell BK149.out 1).trans rfl; have hcz71_2 : w70.cell? ⟨gb149, 2, none⟩ = some (.int .i64 a2_2) := (blk_cell BK149.out 2).trans rfl; have hcz71_3 : w70.cell? ⟨gb149, 3, none⟩ = some (.string a2_3) := (blk_cell BK149.out 3).trans rfl; have hcz71_4 : w70.cell? ⟨gb149, 4, none⟩ = some (.string a2_4) := (blk_cell BK149.out 4).trans rfl; have hfz71_0 := blk_frozen BK149.out 0; have hfz71_1 := blk_frozen BK149.out 1; have hfz71_2 := blk_frozen BK149.out 2; have hfz71_3 := blk_frozen BK149.out 3; have hfz71_4 := blk_frozen BK149.out 4) | (go_at_call 7; (with_reducible refine (mpath_Fits.calls kj3 a0 a2_0 a2_1 a2_2 a2_3 a2_4 false _ ?side1 A67.out).mono ?_); (case side1 => exact GW.below HGW.out (by repeat (first | (with_reducible first | exact HB.out | apply below_alloc | apply pw_below_drewN | apply below_drew1 | refine below_set ?_ GE149.out) | exact HB.out))); rintro e w72 ⟨rfl, hb⟩; have n0_ := Aside0.mk (blk_below (g := gb149) (o := .cells #[.int .i64 a2_0, .int .i64 a2_1, .int .i64 a2_2, .string a2_3, .string a2_4] 23 (0, 0)) (by (with_reducible repeat (first | refine blk_drewN ?_ _ | refine blk_drew ?_ | refine blk_alloc ?_ _)); exact BK149.out) hb); have n1_ := Aside0.mk (below_step (by repeat (first | (with_reducible first | exact HB.out | apply below_alloc | apply pw_below_drewN | apply below_drew1 | refine below_set ?_ GE149.out) | exact HB.out)) hb); clear BK149; clear HB; have BK149 := n0_; have HB := n1_; clear n0_ n1_; (try clear hb); (try clear hb2); (try clear hk); (try clear hi)) | (go_at_call 5; (with_reducible refine (armadalaw08_live.calls kj3  t155 _ ?side1 ?side2 A69.out).mono ?_); (case side1 => exact GW.below HGW.out (by repeat (first | (with_reducible first | exact HB.out | apply below_alloc | apply pw_below_drewN | apply below_drew1 | refine below_set ?_ GE149.out) | exact HB.out))); (case side2 => exact HTRU_.out); rintro e w73 ⟨rfl, hb⟩; have n0_ := Aside0.mk (blk_below (g := gb149) (o := .cells #[.int .i64 a2_0, .int .i64 a2_1, .int .i64 a2_2, .string a2_3, .string a2_4] 23 (0, 0)) (by (with_reducible repeat (first | refine blk_drewN ?_ _ | refine blk_drew ?_ | refine blk_alloc ?_ _)); exact BK149.out) hb); have n1_ := Aside0.mk (below_step (by repeat (first | (with_reducible first | exact HB.out | apply below_alloc | apply pw_below_drewN | apply below_drew1 | refine below_set ?_ GE149.out) | exact HB.out)) hb); clear BK149; clear HB; have BK149 := n0_; have HB := n1_; clear n0_ n1_; (try clear hb); (try clear hb2); (try clear hk); (try clear hi)))
        go_ret
        exact ⟨by first | rfl | (simp [errW_none, errW_some] <;> rfl) | (simp [*, errW_none, errW_some] <;> rfl) | (simp [isEmpty_bne]; done), by repeat (first | (with_reducible first | exact HB.out | apply below_alloc | apply pw_below_drewN | apply below_drew1 | refine below_set ?_ GE149.out) | exact HB.out)⟩
      ·
       rw [if_neg c66] at H
       have c66b0 : (t152 == 0) = false := beq_eq_false_iff_ne.mpr c66
       have c66b1 : (t152 != 0) = true := bne_iff_ne.mpr c66
       exact absurd ((Option.some.inj H).trans HTRU_.out) (by decide)
     ·
      rw [if_neg c65] at H
      have c65b0 : (t151.toList == ([] : List UInt8)) = false := beq_eq_false_iff_ne.mpr c65
      have c65b1 : (t151.toList != ([] : List UInt8)) = true := bne_iff_ne.mpr c65
      exact absurd ((Option.some.inj H).trans HTRU_.out) (by decide)

end Go.Proofs.YtpkhemnngjmcjaaDoor.R2
