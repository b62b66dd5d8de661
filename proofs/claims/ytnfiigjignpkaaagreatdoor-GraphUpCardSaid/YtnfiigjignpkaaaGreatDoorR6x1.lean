-- Written by a program of this place (myprint.py) out of the translation. Not trusted: Lean checks it.
import Derived.Test.YtnfiigjignpkaaaGreatDoorWRepsOne
import Derived.Test.YtnfiigjignpkaaaGreatDoorR6x0
namespace Go.Proofs.YtnfiigjignpkaaaGreatDoor.R6
open Go.RowKit Go.Proofs.YtnfiigjignpkaaaGreatDoor Go.Proofs.YtnfiigjignpkaaaGreatDoor.K0 Go.Proofs.YtnfiigjignpkaaaGreatDoor.R1 Go.Proofs.YtnfiigjignpkaaaGreatDoor.R2 Go.Proofs.YtnfiigjignpkaaaGreatDoor.R3 Go.Proofs.YtnfiigjignpkaaaGreatDoorW.PrintWords Go.Proofs.YtnfiigjignpkaaaGreatDoorW.PrintLast Go.Proofs.YtnfiigjignpkaaaGreatDoorW.PrintMore
attribute [local go_sem] max2_int min2_int max_two min_two max_three min_three max_four min_four   -- for this text's walks alone
set_option linter.unusedVariables false
set_option linter.unusedSimpArgs false

/-! ### armadalaw16_GraphUp: function 5 -/
mutual
def armadalaw16_GraphUp.j0 : Nat → List (S40) → List Int → Int → Bool → Option (Bool)
 | 0, _, _, _, _ => none
 | k + 1, x0, x1, x2, x28 => if x28 = true then ((armadalaw16_live.f).bind fun t103 => (some t103)) else ((graph_Up.f x0 x1).bind fun t104 => (armadalaw16_GraphUp.l0 k x0 x1 x2 t104 0))
def armadalaw16_GraphUp.l0 : Nat → List (S40) → List Int → Int → List Int → Int → Option (Bool)
 | 0, _, _, _, _, _ => none
 | k + 1, x0, x1, x2, x7, x8 => if x8 < (x0.length : Int) then ((armadaref16_In.f k x1 x8).bind fun t107 => ((graph_Edges.f x0 x8).bind fun t108 => (armadalaw16_GraphUp.l1 k x0 x1 x2 x7 x8 t107 t108 false 0))) else ((some (([] : List Int) : List Int)).bind fun y114 => (if y114.length + x1.length < 17592186044416 then ((some (y114 ++ x1 : List Int)).bind fun y117 => (if y117.length < 17592186044416 then ((graph_Up.f x0 (y117 ++ [x2])).bind fun t123 => (armadalaw16_GraphUp.l2 k x0 x7 t123 0)) else (none))) else (none)))
def armadalaw16_GraphUp.l1 : Nat → List (S40) → List Int → Int → List Int → Int → Bool → List Int → Bool → Int → Option (Bool)
 | 0, _, _, _, _, _, _, _, _, _ => none
 | k + 1, x0, x1, x2, x7, x8, x9, x10, x11, x12 => if x12 < (x10.length : Int) then (if x11 = true then (armadalaw16_GraphUp.l1 k x0 x1 x2 x7 x8 x9 x10 true (wrap64 (x12 + 1))) else (if 0 ≤ x12 then ((armadaref16_In.f k x7 (rd x10 x12)).bind fun t112 => (armadalaw16_GraphUp.l1 k x0 x1 x2 x7 x8 x9 x10 t112 (wrap64 (x12 + 1)))) else (none))) else ((armadaref16_In.f k x7 x8).bind fun t113 => (if x9 = true then (if (t113 != true) = true then (some false) else (armadalaw16_GraphUp.l0 k x0 x1 x2 x7 (wrap64 (x8 + 1)))) else (if (t113 != x11) = true then (some false) else (armadalaw16_GraphUp.l0 k x0 x1 x2 x7 (wrap64 (x8 + 1))))))
def armadalaw16_GraphUp.l2 : Nat → List (S40) → List Int → List Int → Int → Option (Bool)
 | 0, _, _, _, _ => none
 | k + 1, x0, x7, x14, x15 => if x15 < (x7.length : Int) then (if 0 ≤ x15 then ((armadaref16_In.f k x14 (rd x7 x15)).bind fun t127 => (if t127 = true then (if (rd x7 x15) < 0 then (some false) else (if (rd x7 x15) ≥ (x0.length : Int) then (some false) else (armadalaw16_GraphUp.l2 k x0 x7 x14 (wrap64 (x15 + 1))))) else (some false))) else (none)) else ((graph_Up.f x0 x7).bind fun t130 => ((armadaref16_Same.f k t130 x7).bind fun t133 => (if t133 = true then ((armadalaw16_live.f).bind fun t134 => (some t134)) else (some false))))
end
def armadalaw16_GraphUp.f (k : Nat) (l0 : List (S40)) (l1 : List Int) (a2 : Int) : Option (Bool) := (armadaref16_Small.f k l0).bind fun t101 => (if t101 = true then (if (l1.length : Int) > 30 then (armadalaw16_GraphUp.j0 k l0 l1 a2 true) else ((graph_Check.f l0).bind fun t102 => (armadalaw16_GraphUp.j0 k l0 l1 a2 (t102 != 0)))) else (armadalaw16_GraphUp.j0 k l0 l1 a2 true))
theorem armadalaw16_GraphUp.mono_l : ∀ k, (∀ y0 y1 y2 y3, LeO (armadalaw16_GraphUp.j0 k y0 y1 y2 y3) (armadalaw16_GraphUp.j0 (k + 1) y0 y1 y2 y3)) ∧ (∀ y0 y1 y2 y3 y4, LeO (armadalaw16_GraphUp.l0 k y0 y1 y2 y3 y4) (armadalaw16_GraphUp.l0 (k + 1) y0 y1 y2 y3 y4)) ∧ (∀ y0 y1 y2 y3 y4 y5 y6 y7 y8, LeO (armadalaw16_GraphUp.l1 k y0 y1 y2 y3 y4 y5 y6 y7 y8) (armadalaw16_GraphUp.l1 (k + 1) y0 y1 y2 y3 y4 y5 y6 y7 y8)) ∧ (∀ y0 y1 y2 y3, LeO (armadalaw16_GraphUp.l2 k y0 y1 y2 y3) (armadalaw16_GraphUp.l2 (k + 1) y0 y1 y2 y3))
 | 0 => ⟨fun _ _ _ _ r h => by simp [armadalaw16_GraphUp.j0] at h, fun _ _ _ _ _ r h => by simp [armadalaw16_GraphUp.l0] at h, fun _ _ _ _ _ _ _ _ _ r h => by simp [armadalaw16_GraphUp.l1] at h, fun _ _ _ _ r h => by simp [armadalaw16_GraphUp.l2] at h⟩
 | k + 1 => by
  obtain ⟨ih0, ih1, ih2, ih3⟩ := armadalaw16_GraphUp.mono_l k
  refine ⟨?_, ?_, ?_, ?_⟩
  ·
   intro y0 y1 y2 y3
   unfold armadalaw16_GraphUp.j0
   repeat' first
   | (with_reducible exact ih0 _ _ _ _)
   | (with_reducible exact ih1 _ _ _ _ _)
   | (with_reducible exact ih2 _ _ _ _ _ _ _ _ _)
   | (with_reducible exact ih3 _ _ _ _)
   | (with_reducible exact armadaref16_In.mono _ _ _)
   | (with_reducible exact armadaref16_Same.mono _ _ _)
   | (with_reducible exact armadaref16_Small.mono _ _)
   | (with_reducible exact LeO.refl _)
   | (with_reducible exact LeO.none _)
   | (with_reducible refine LeO.ite ?_ ?_)
   | (with_reducible refine LeO.bind ?_ (fun _ => ?_))
   | exact ih0 _ _ _ _
   | exact ih1 _ _ _ _ _
   | exact ih2 _ _ _ _ _ _ _ _ _
   | exact ih3 _ _ _ _
   | exact armadaref16_In.mono _ _ _
   | exact armadaref16_Same.mono _ _ _
   | exact armadaref16_Small.mono _ _
   | exact LeO.none _
   | refine LeO.ite ?_ ?_
   | refine LeO.bind ?_ (fun _ => ?_)
  ·
   intro y0 y1 y2 y3 y4
   unfold armadalaw16_GraphUp.l0
   repeat' first
   | (with_reducible exact ih0 _ _ _ _)
   | (with_reducible exact ih1 _ _ _ _ _)
   | (with_reducible exact ih2 _ _ _ _ _ _ _ _ _)
   | (with_reducible exact ih3 _ _ _ _)
   | (with_reducible exact armadaref16_In.mono _ _ _)
   | (with_reducible exact armadaref16_Same.mono _ _ _)
   | (with_reducible exact armadaref16_Small.mono _ _)
   | (with_reducible exact LeO.refl _)
   | (with_reducible exact LeO.none _)
   | (with_reducible refine LeO.ite ?_ ?_)
   | (with_reducible refine LeO.bind ?_ (fun _ => ?_))
   | exact ih0 _ _ _ _
   | exact ih1 _ _ _ _ _
   | exact ih2 _ _ _ _ _ _ _ _ _
   | exact ih3 _ _ _ _
   | exact armadaref16_In.mono _ _ _
   | exact armadaref16_Same.mono _ _ _
   | exact armadaref16_Small.mono _ _
   | exact LeO.none _
   | refine LeO.ite ?_ ?_
   | refine LeO.bind ?_ (fun _ => ?_)
  ·
   intro y0 y1 y2 y3 y4 y5 y6 y7 y8
   unfold armadalaw16_GraphUp.l1
   repeat' first
   | (with_reducible exact ih0 _ _ _ _)
   | (with_reducible exact ih1 _ _ _ _ _)
   | (with_reducible exact ih2 _ _ _ _ _ _ _ _ _)
   | (with_reducible exact ih3 _ _ _ _)
   | (with_reducible exact armadaref16_In.mono _ _ _)
   | (with_reducible exact armadaref16_Same.mono _ _ _)
   | (with_reducible exact armadaref16_Small.mono _ _)
   | (with_reducible exact LeO.refl _)
   | (with_reducible exact LeO.none _)
   | (with_reducible refine LeO.ite ?_ ?_)
   | (with_reducible refine LeO.bind ?_ (fun _ => ?_))
   | exact ih0 _ _ _ _
   | exact ih1 _ _ _ _ _
   | exact ih2 _ _ _ _ _ _ _ _ _
   | exact ih3 _ _ _ _
   | exact armadaref16_In.mono _ _ _
   | exact armadaref16_Same.mono _ _ _
   | exact armadaref16_Small.mono _ _
   | exact LeO.none _
   | refine LeO.ite ?_ ?_
   | refine LeO.bind ?_ (fun _ => ?_)
  ·
   intro y0 y1 y2 y3
   unfold armadalaw16_GraphUp.l2
   repeat' first
   | (with_reducible exact ih0 _ _ _ _)
   | (with_reducible exact ih1 _ _ _ _ _)
   | (with_reducible exact ih2 _ _ _ _ _ _ _ _ _)
   | (with_reducible exact ih3 _ _ _ _)
   | (with_reducible exact armadaref16_In.mono _ _ _)
   | (with_reducible exact armadaref16_Same.mono _ _ _)
   | (with_reducible exact armadaref16_Small.mono _ _)
   | (with_reducible exact LeO.refl _)
   | (with_reducible exact LeO.none _)
   | (with_reducible refine LeO.ite ?_ ?_)
   | (with_reducible refine LeO.bind ?_ (fun _ => ?_))
   | exact ih0 _ _ _ _
   | exact ih1 _ _ _ _ _
   | exact ih2 _ _ _ _ _ _ _ _ _
   | exact ih3 _ _ _ _
   | exact armadaref16_In.mono _ _ _
   | exact armadaref16_Same.mono _ _ _
   | exact armadaref16_Small.mono _ _
   | exact LeO.none _
   | refine LeO.ite ?_ ?_
   | refine LeO.bind ?_ (fun _ => ?_)
theorem armadalaw16_GraphUp.mono : ∀ a0 a1 a2 k, LeO (armadalaw16_GraphUp.f k a0 a1 a2) (armadalaw16_GraphUp.f (k + 1) a0 a1 a2) := by
 intro a0 a1 a2 k
 obtain ⟨ih0, ih1, ih2, ih3⟩ := armadalaw16_GraphUp.mono_l k
 unfold armadalaw16_GraphUp.f
 repeat' first
   | (with_reducible exact ih0 _ _ _ _)
   | (with_reducible exact ih1 _ _ _ _ _)
   | (with_reducible exact ih2 _ _ _ _ _ _ _ _ _)
   | (with_reducible exact ih3 _ _ _ _)
   | (with_reducible exact armadaref16_In.mono _ _ _)
   | (with_reducible exact armadaref16_Same.mono _ _ _)
   | (with_reducible exact armadaref16_Small.mono _ _)
   | (with_reducible exact LeO.refl _)
   | (with_reducible exact LeO.none _)
   | (with_reducible refine LeO.ite ?_ ?_)
   | (with_reducible refine LeO.bind ?_ (fun _ => ?_))
   | exact ih0 _ _ _ _
   | exact ih1 _ _ _ _ _
   | exact ih2 _ _ _ _ _ _ _ _ _
   | exact ih3 _ _ _ _
   | exact armadaref16_In.mono _ _ _
   | exact armadaref16_Same.mono _ _ _
   | exact armadaref16_Small.mono _ _
   | exact LeO.none _
   | refine LeO.ite ?_ ?_
   | refine LeO.bind ?_ (fun _ => ?_)
set_option maxHeartbeats 8000000 in
set_option maxRecDepth 100000 in
theorem armadalaw16_GraphUp.calls (k : Nat) (A0 : Option Addr) (c0 : Nat) (l0 : List (S40)) (A1 : Option Addr) (c1 : Nat) (l1 : List Int) (a2 : Int) (r : Bool) (w : World) (hr0 : Kd.C k40 w A0 l0.length l0) (hc0 : l0.length ≤ c0) (hr1 : Kd.C (Kd.int .i64) w A1 l1.length l1) (hc1 : l1.length ≤ c1) (hG : GW w) (hT : r = true) (h : armadalaw16_GraphUp.f k l0 l1 a2 = some r) :
  Calls Tryz.prog 5 #[.slice A0 l0.length c0, .slice A1 l1.length c1, .int .i64 a2] w fun e w' => e = .returned (.bool r) ∧ Below w.heap.size w w' := by
 have HR0 := Aside0.mk hr0
 have HC0 := Aside0.mk hc0
 clear hr0 hc0
 have HR1 := Aside0.mk hr1
 have HC1 := Aside0.mk hc1
 clear hr1 hc1
 have HGW := Aside0.mk hG
 clear hG
 have HTRU_ := Aside0.mk hT
 clear hT
 have HB := Aside0.mk (Below.refl w.heap.size w)
 have H : ((armadaref16_Small.f k l0).bind fun t101 => (if t101 = true then (if (l1.length : Int) > 30 then (armadalaw16_GraphUp.j0 k l0 l1 a2 true) else ((graph_Check.f l0).bind fun t102 => (armadalaw16_GraphUp.j0 k l0 l1 a2 (t102 != 0)))) else (armadalaw16_GraphUp.j0 k l0 l1 a2 true))) = some r := h
 clear h
 have HC4 := Aside0.mk H
 clear H
 go_enter Tryz.func5, Tryz.ntmps5
 go_upto_region 1 with (fail)
 go_cut [28] (fun v28 wc => ∃ (kq : Nat) (x28_3 : Bool), v28 = .bool x28_3 ∧ Aside0 (armadalaw16_GraphUp.j0 kq l0 l1 a2 x28_3 = some r) ∧ Aside0 (kq ≤ k) ∧ Aside0 (Below w.heap.size w wc))
 case first =>
  have H := HC4.out
  clear HC4
  replace H := Option.bind_eq_some_iff.mp H
  obtain ⟨t101, A50, H⟩ := H
  replace H : (if t101 = true then (if (l1.length : Int) > 30 then (armadalaw16_GraphUp.j0 k l0 l1 a2 true) else ((graph_Check.f l0).bind fun t102 => (armadalaw16_GraphUp.j0 k l0 l1 a2 (t102 != 0)))) else (armadalaw16_GraphUp.j0 k l0 l1 a2 true)) = some r := H
  have A5 := Aside0.mk A50
  clear A50
  by_cases c6 : t101 = true
  ·
   subst c6
   have H1 : (if (l1.length : Int) > 30 then (armadalaw16_GraphUp.j0 k l0 l1 a2 true) else ((graph_Check.f l0).bind fun t102 => (armadalaw16_GraphUp.j0 k l0 l1 a2 (t102 != 0)))) = some r := by rw [if_pos rfl] at H; exact H
   clear H
   have H := H1
   clear H1
   by_cases c7 : (l1.length : Int) > 30
   ·
    rw [if_pos c7] at H
    have c7b0 : decide (30 < (l1.length : Int)) = true := decide_eq_true c7
    have c7b1 : decide (30 < l1.length) = true := decide_eq_true (by omega)
    clear c7
    (first | rw [c7b0] | (simp only [i64_w, i32_w]; rw [c7b0]) | skip)
    have H' := Aside0.mk H
    clear H
    go_wp2_with (first | ((with_reducible refine gate_callee (f := 8) rfl ?_); refine goesL_ (some 17) rfl rfl Tryz.func8 (by kernel_rfl) rfl #[.slice A0 l0.length c0] rfl (by (try simp only [List.map_toArray, List.map_cons, List.map_nil]); first | done | rfl | (simp only [List.length_drop, List.length_take]; rfl)) ?_; (with_reducible refine (armadaref16_Small.calls k _ _ l0 true _ ?side1 ?side2 A5.out).mono ?_); (case side1 => repeat (first | exact (Kd.C_below HR0.out HB.out) | (with_reducible refine Kd.C_alloc ?_ _) | (with_reducible refine Kd.C_drewN ?_ _) | (with_reducible refine Kd.C_drew ?_))); (case side2 => exact HC0.out); rintro e w8 ⟨rfl, hb⟩; refine ⟨_, rfl, ?_⟩; have n0_ := Aside0.mk (below_step (by repeat (first | (with_reducible first | exact HB.out | apply below_alloc | apply pw_below_drewN | apply below_drew1) | exact HB.out)) hb); clear HB; have HB := n0_; clear n0_; (try clear hb); (try clear hb2); (try clear hk); (try clear hi)))
    go_meet
    case rel => exact ⟨_, (true), (by first | rfl | (simp; done) | (simp [*]; done) | (simp [isEmpty_bne]; done)), H', ⟨by first | omega | exact Nat.le_refl _⟩, ⟨by repeat (first | (with_reducible first | exact HB.out | apply below_alloc | apply pw_below_drewN | apply below_drew1) | exact HB.out)⟩⟩
   ·
    rw [if_neg c7] at H
    have c7b0 : decide (30 < (l1.length : Int)) = false := decide_eq_false c7
    have c7b1 : decide (30 < l1.length) = false := decide_eq_false (by omega)
    clear c7
    (first | rw [c7b0] | (simp only [i64_w, i32_w]; rw [c7b0]) | skip)
    replace H := Option.bind_eq_some_iff.mp H
    obtain ⟨t102, A90, H⟩ := H
    replace H : (armadalaw16_GraphUp.j0 k l0 l1 a2 (t102 != 0)) = some r := H
    have A9 := Aside0.mk A90
    clear A90
    have H' := Aside0.mk H
    clear H
    go_wp2_with (first | ((with_reducible refine gate_callee (f := 8) rfl ?_); refine goesL_ (some 17) rfl rfl Tryz.func8 (by kernel_rfl) rfl #[.slice A0 l0.length c0] rfl (by (try simp only [List.map_toArray, List.map_cons, List.map_nil]); first | done | rfl | (simp only [List.length_drop, List.length_take]; rfl)) ?_; (with_reducible refine (armadaref16_Small.calls k _ _ l0 true _ ?side1 ?side2 A5.out).mono ?_); (case side1 => repeat (first | exact (Kd.C_below HR0.out HB.out) | (with_reducible refine Kd.C_alloc ?_ _) | (with_reducible refine Kd.C_drewN ?_ _) | (with_reducible refine Kd.C_drew ?_))); (case side2 => exact HC0.out); rintro e w10 ⟨rfl, hb⟩; refine ⟨_, rfl, ?_⟩; have n0_ := Aside0.mk (below_step (by repeat (first | (with_reducible first | exact HB.out | apply below_alloc | apply pw_below_drewN | apply below_drew1) | exact HB.out)) hb); clear HB; have HB := n0_; clear n0_; (try clear hb); (try clear hb2); (try clear hk); (try clear hi)) | (go_at_call 12; (with_reducible refine (graph_Check.calls _ _ l0 t102 _ ?side1 ?side2 ?side3 A9.out).mono ?_); (case side1 => repeat (first | exact (Kd.C_below HR0.out HB.out) | (with_reducible refine Kd.C_alloc ?_ _) | (with_reducible refine Kd.C_drewN ?_ _) | (with_reducible refine Kd.C_drew ?_))); (case side2 => exact HC0.out); (case side3 => exact GW.below HGW.out (by repeat (first | (with_reducible first | exact HB.out | apply below_alloc | apply pw_below_drewN | apply below_drew1) | exact HB.out))); rintro e w11 ⟨rfl, hb⟩; have n0_ := Aside0.mk (below_step (by repeat (first | (with_reducible first | exact HB.out | apply below_alloc | apply pw_below_drewN | apply below_drew1) | exact HB.out)) hb); clear HB; have HB := n0_; clear n0_; (try clear hb); (try clear hb2); (try clear hk); (try clear hi)))
    go_meet
    case rel => exact ⟨_, ((t102 != 0)), (by first | rfl | (simp; done) | (simp [*]; done) | (simp [isEmpty_bne]; done)), H', ⟨by first | omega | exact Nat.le_refl _⟩, ⟨by repeat (first | (with_reducible first | exact HB.out | apply below_alloc | apply pw_below_drewN | apply below_drew1) | exact HB.out)⟩⟩
  ·
   replace c6 := Bool.eq_false_iff.mpr c6
   subst c6
   have H1 : (armadalaw16_GraphUp.j0 k l0 l1 a2 true) = some r := by rw [if_neg (show ¬ (false = true) by decide)] at H; exact H
   clear H
   have H := H1
   clear H1
   have H' := Aside0.mk H
   clear H
   go_wp2_with (first | ((with_reducible refine gate_callee (f := 8) rfl ?_); refine goesL_ (some 17) rfl rfl Tryz.func8 (by kernel_rfl) rfl #[.slice A0 l0.length c0] rfl (by (try simp only [List.map_toArray, List.map_cons, List.map_nil]); first | done | rfl | (simp only [List.length_drop, List.length_take]; rfl)) ?_; (with_reducible refine (armadaref16_Small.calls k _ _ l0 false _ ?side1 ?side2 A5.out).mono ?_); (case side1 => repeat (first | exact (Kd.C_below HR0.out HB.out) | (with_reducible refine Kd.C_alloc ?_ _) | (with_reducible refine Kd.C_drewN ?_ _) | (with_reducible refine Kd.C_drew ?_))); (case side2 => exact HC0.out); rintro e w12 ⟨rfl, hb⟩; refine ⟨_, rfl, ?_⟩; have n0_ := Aside0.mk (below_step (by repeat (first | (with_reducible first | exact HB.out | apply below_alloc | apply pw_below_drewN | apply below_drew1) | exact HB.out)) hb); clear HB; have HB := n0_; clear n0_; (try clear hb); (try clear hb2); (try clear hk); (try clear hi)))
   go_meet
   case rel => exact ⟨_, (true), (by first | rfl | (simp; done) | (simp [*]; done) | (simp [isEmpty_bne]; done)), H', ⟨by first | omega | exact Nat.le_refl _⟩, ⟨by repeat (first | (with_reducible first | exact HB.out | apply below_alloc | apply pw_below_drewN | apply below_drew1) | exact HB.out)⟩⟩
 case rest =>
  clear HC4
  try clear c1
  try clear p2
  try clear c5
  try clear c6
  try clear c7
  try clear c7b0
  try clear c7b1
  try clear c8
  obtain ⟨kq, x28_3, rfl, HA, HJ3, HB⟩ := hcut
  cases kq with
  | zero => exact absurd HA.out (by simp [armadalaw16_GraphUp.j0])
  | succ kj3 =>
   have H := HA.out
   clear HA
   simp only [armadalaw16_GraphUp.j0] at H
   by_cases c13 : x28_3 = true
   ·
    subst c13
    have H1 : ((armadalaw16_live.f).bind fun t103 => (some t103)) = some r := by rw [if_pos rfl] at H; exact H
    clear H
    have H := H1
    clear H1
    replace H := Option.bind_eq_some_iff.mp H
    obtain ⟨t103, A140, H⟩ := H
    replace H : (some t103) = some r := H
    have A14 := Aside0.mk A140
    clear A140
    obtain rfl := Option.some.inj H
    go_wp2_with (first | ((with_reducible refine gate_callee (f := 9) rfl ?_); refine goesL_ (some 29) rfl rfl Tryz.func9 (by kernel_rfl) rfl #[] rfl (by (try simp only [List.map_toArray, List.map_cons, List.map_nil]); first | done | rfl | (simp only [List.length_drop, List.length_take]; rfl)) ?_; (with_reducible refine (armadalaw16_live.calls  t103 _ ?side1 A14.out).mono ?_); (case side1 => exact GW.below HGW.out (by repeat (first | (with_reducible first | exact HB.out | apply below_alloc | apply pw_below_drewN | apply below_drew1) | exact HB.out))); rintro e w15 ⟨rfl, hb⟩; refine ⟨_, rfl, ?_⟩; have n0_ := Aside0.mk (below_step (by repeat (first | (with_reducible first | exact HB.out | apply below_alloc | apply pw_below_drewN | apply below_drew1) | exact HB.out)) hb); clear HB; have HB := n0_; clear n0_; (try clear hb); (try clear hb2); (try clear hk); (try clear hi)))
    go_ret
    exact ⟨by first | rfl | (simp [errW_none, errW_some] <;> rfl) | (simp [*, errW_none, errW_some] <;> rfl) | (simp [isEmpty_bne]; done), by repeat (first | (with_reducible first | exact HB.out | apply below_alloc | apply pw_below_drewN | apply below_drew1) | exact HB.out)⟩
   ·
    replace c13 := Bool.eq_false_iff.mpr c13
    subst c13
    have H1 : ((graph_Up.f l0 l1).bind fun t104 => (armadalaw16_GraphUp.l0 kj3 l0 l1 a2 t104 0)) = some r := by rw [if_neg (show ¬ (false = true) by decide)] at H; exact H
    clear H
    have H := H1
    clear H1
    replace H := Option.bind_eq_some_iff.mp H
    obtain ⟨t104, A160, H⟩ := H
    replace H : (armadalaw16_GraphUp.l0 kj3 l0 l1 a2 t104 0) = some r := H
    have A16 := Aside0.mk A160
    clear A160
    have H' := Aside0.mk H
    clear H
    go_wp2_with (first | ((with_reducible refine gate_callee (f := 19) rfl ?_); refine goesL_ (some 32) rfl rfl Tryz.func19 (by kernel_rfl) rfl #[.slice A0 l0.length c0, .slice A1 l1.length c1] rfl (by (try simp only [List.map_toArray, List.map_cons, List.map_nil]); first | done | rfl | (simp only [List.length_drop, List.length_take]; rfl)) ?_; (with_reducible refine (graph_Up.calls _ _ l0 _ _ l1 t104 _ ?side1 ?side2 ?side3 ?side4 ?side5 A16.out).mono ?_); (case side1 => repeat (first | exact (Kd.C_below HR0.out HB.out) | (with_reducible refine Kd.C_alloc ?_ _) | (with_reducible refine Kd.C_drewN ?_ _) | (with_reducible refine Kd.C_drew ?_))); (case side2 => exact HC0.out); (case side3 => repeat (first | exact (Kd.C_below HR1.out HB.out) | (with_reducible refine Kd.C_alloc ?_ _) | (with_reducible refine Kd.C_drewN ?_ _) | (with_reducible refine Kd.C_drew ?_))); (case side4 => exact HC1.out); (case side5 => exact GW.below HGW.out (by repeat (first | (with_reducible first | exact HB.out | apply below_alloc | apply pw_below_drewN | apply below_drew1) | exact HB.out))); rintro e w17 ⟨v105, rfl, ho0, hb⟩; refine ⟨_, rfl, ?_⟩; have n0_ := Aside0.mk (Kd.R_lower ho0 (below_size (by repeat (first | (with_reducible first | exact HB.out | apply below_alloc | apply pw_below_drewN | apply below_drew1) | exact HB.out)))); have n1_ := Aside0.mk (below_step (by repeat (first | (with_reducible first | exact HB.out | apply below_alloc | apply pw_below_drewN | apply below_drew1) | exact HB.out)) hb); clear HB; have HO106 := n0_; have HB := n1_; clear n0_ n1_; (try clear hb); (try clear hb2); (try clear hk); (try clear hi); (try clear ho0)))
    go_loopg [8] kj3 (fun kq v8 w' => ∃ (x8_2 : Int), v8 = .int .i64 x8_2 ∧ Aside0 (armadalaw16_GraphUp.l0 kq l0 l1 a2 t104 x8_2 = some r) ∧ Aside0 (kq ≤ kj3) ∧ Aside0 (Kd.R (Kd.int .i64) 3 w' w.heap.size (fun _ => True) v105 t104) ∧ Aside0 (Below w.heap.size w w'))
    case atStart => exact ⟨(0), (by first | rfl | (simp; done) | (simp [*]; done) | (simp [isEmpty_bne]; done)), H', ⟨Nat.le_refl _⟩, ⟨by (with_reducible repeat (first | apply Kd.R_alloc | apply Kd.R_drewN | apply Kd.R_drew)); exact HO106.out⟩, ⟨by repeat (first | (with_reducible first | exact HB.out | apply below_alloc | apply pw_below_drewN | apply below_drew1) | exact HB.out)⟩⟩
    case round =>
     clear H'
     try clear c1
     try clear p2
     try clear c5
     try clear c6
     try clear c7
     try clear c7b0
     try clear c7b1
     try clear c8
     try clear c9
     try clear c13
     try clear p2
     obtain ⟨x8_2, rfl, HA, HK2, HO_7, HB⟩ := hrel
     cases gk with
     | zero => exact absurd HA.out (by simp [armadalaw16_GraphUp.l0])
     | succ k2 =>
      have H := HA.out
      clear HA
      simp only [armadalaw16_GraphUp.l0] at H
      by_cases c18 : x8_2 < (l0.length : Int)
      ·
       rw [if_pos c18] at H
       have c18b0 : decide (x8_2 < (l0.length : Int)) = true := decide_eq_true c18
       clear c18
       replace H := Option.bind_eq_some_iff.mp H
       obtain ⟨t107, A190, H⟩ := H
       replace H : ((graph_Edges.f l0 x8_2).bind fun t108 => (armadalaw16_GraphUp.l1 k2 l0 l1 a2 t104 x8_2 t107 t108 false 0)) = some r := H
       have A19 := Aside0.mk A190
       clear A190
       replace H := Option.bind_eq_some_iff.mp H
       obtain ⟨t108, A200, H⟩ := H
       replace H : (armadalaw16_GraphUp.l1 k2 l0 l1 a2 t104 x8_2 t107 t108 false 0) = some r := H
       have A20 := Aside0.mk A200
       clear A200
       have H' := Aside0.mk H
       clear H
       go_wp2_with (first | ((with_reducible refine gate_callee (f := 21) rfl ?_); refine goesL_ (some 41) rfl rfl Tryz.func21 (by kernel_rfl) rfl #[.slice A1 l1.length c1, .int .i64 x8_2] rfl (by (try simp only [List.map_toArray, List.map_cons, List.map_nil]); first | done | rfl | (simp only [List.length_drop, List.length_take]; rfl)) ?_; (with_reducible refine (armadaref16_In.calls k2 _ _ l1 x8_2 t107 _ ?side1 ?side2 A19.out).mono ?_); (case side1 => repeat (first | exact (Kd.C_below HR1.out HB.out) | (with_reducible refine Kd.C_alloc ?_ _) | (with_reducible refine Kd.C_drewN ?_ _) | (with_reducible refine Kd.C_drew ?_))); (case side2 => exact HC1.out); rintro e w' ⟨rfl, ⟨nd, rfl⟩⟩; refine ⟨_, rfl, ?_⟩) | ((with_reducible refine gate_callee (f := 15) rfl ?_); refine goesL_ (some 44) rfl rfl Tryz.func15 (by kernel_rfl) rfl #[.slice A0 l0.length c0, .int .i64 x8_2] rfl (by (try simp only [List.map_toArray, List.map_cons, List.map_nil]); first | done | rfl | (simp only [List.length_drop, List.length_take]; rfl)) ?_; (with_reducible refine (graph_Edges.calls _ _ l0 x8_2 t108 _ ?side1 ?side2 ?side3 A20.out).mono ?_); (case side1 => repeat (first | exact (Kd.C_below HR0.out (by repeat (first | (with_reducible first | exact HB.out | apply below_alloc | apply pw_below_drewN | apply below_drew1) | exact HB.out))) | (with_reducible refine Kd.C_alloc ?_ _) | (with_reducible refine Kd.C_drewN ?_ _) | (with_reducible refine Kd.C_drew ?_))); (case side2 => exact HC0.out); (case side3 => exact GW.below HGW.out (by repeat (first | (with_reducible first | exact HB.out | apply below_alloc | apply pw_below_drewN | apply below_drew1) | exact HB.out))); rintro e w21 ⟨v109, rfl, ho0, hb⟩; refine ⟨_, rfl, ?_⟩; have n0_ := Aside0.mk (Kd.R_elder' (by (with_reducible repeat (first | apply Kd.R_alloc | apply Kd.R_drewN | apply Kd.R_drew)); exact HO_7.out) (Kd.R_base ho0) hb); have n1_ := Aside0.mk (Kd.R_lower (Kd.R_new' ho0 (Kd.R_lt (by (with_reducible repeat (first | apply Kd.R_alloc | apply Kd.R_drewN | apply Kd.R_drew)); exact HO_7.out))) (below_size (by repeat (first | (with_reducible first | exact HB.out | apply below_alloc | apply pw_below_drewN | apply below_drew1) | exact HB.out)))); have n2_ := Aside0.mk (below_step (by repeat (first | (with_reducible first | exact HB.out | apply below_alloc | apply pw_below_drewN | apply below_drew1) | exact HB.out)) hb); clear HO_7; clear HB; have HO_7 := n0_; have HO110 := n1_; have HB := n2_; clear n0_ n1_ n2_; (try clear hb); (try clear hb2); (try clear hk); (try clear hi); (try clear ho0)))
       go_loopg [11, 12] k2 (fun kq v11 v12 w' => ∃ (x11_3 : Bool) (x12_3 : Int), v11 = .bool x11_3 ∧ v12 = .int .i64 x12_3 ∧ Aside0 (armadalaw16_GraphUp.l1 kq l0 l1 a2 t104 x8_2 t107 t108 x11_3 x12_3 = some r) ∧ Aside0 (kq ≤ k2) ∧ Aside0 (Kd.R (Kd.int .i64) 3 w' w.heap.size (fun k_ => some k_ ≠ (v109 : Value).ownBlock) v105 t104) ∧ Aside0 (Kd.R (Kd.int .i64) 3 w' w.heap.size (fun k_ => some k_ ≠ (v105 : Value).ownBlock) v109 t108) ∧ Aside0 (Below w.heap.size w w'))
       case atStart => exact ⟨(false), (0), (by first | rfl | (simp; done) | (simp [*]; done) | (simp [isEmpty_bne]; done)), (by first | rfl | (simp; done) | (simp [*]; done) | (simp [isEmpty_bne]; done)), H', ⟨Nat.le_refl _⟩, ⟨by (with_reducible repeat (first | apply Kd.R_alloc | apply Kd.R_drewN | apply Kd.R_drew)); exact Kd.R_mono HO_7.out (fun _ hk => hk.2)⟩, ⟨by (with_reducible repeat (first | apply Kd.R_alloc | apply Kd.R_drewN | apply Kd.R_drew)); exact Kd.R_mono HO110.out (fun _ hk => hk.2)⟩, ⟨by repeat (first | (with_reducible first | exact HB.out | apply below_alloc | apply pw_below_drewN | apply below_drew1) | exact HB.out)⟩⟩
       case round =>
        clear H'
        try clear c1
        try clear c2
        try clear p2
        try clear c5
        try clear c6
        try clear c7
        try clear c7b0
        try clear c7b1
        try clear c8
        try clear c9
        try clear c13
        try clear c15
        try clear c18
        try clear c18b0
        try clear c19
        try clear c21
        try clear p2
        obtain ⟨x11_3, x12_3, rfl, rfl, HA, HK3, HO_7, HO_10, HB⟩ := hrel
        cases gk with
        | zero => exact absurd HA.out (by simp [armadalaw16_GraphUp.l1])
        | succ k3 =>
         have H := HA.out
         clear HA
         simp only [armadalaw16_GraphUp.l1] at H
         by_cases c22 : x12_3 < (t108.length : Int)
         ·
          rw [if_pos c22] at H
          have c22b0 : decide (x12_3 < (t108.length : Int)) = true := decide_eq_true c22
          clear c22
          by_cases c23 : x11_3 = true
          ·
           subst c23
           have H1 : (armadalaw16_GraphUp.l1 k3 l0 l1 a2 t104 x8_2 t107 t108 true (wrap64 (x12_3 + 1))) = some r := by rw [if_pos rfl] at H; exact H
           clear H
           have H := H1
           clear H1
           have H' := Aside0.mk H
           clear H
           obtain ⟨Ao24, co24, eo24⟩ := Kd.R_slice HO_10.out
           subst eo24
           go_wp2
           go_roundg k3
           case measure => have := HJ3.out; have := HK2.out; have := HK3.out; omega
           case rel => exact ⟨(true), (wrap64 (x12_3 + 1)), (by first | rfl | (simp; done) | (simp [*]; done) | (simp [isEmpty_bne]; done)), (by first | rfl | (simp; done) | (simp [*]; done) | (simp [isEmpty_bne]; done)), H', ⟨by have := HJ3.out; have := HK2.out; have := HK3.out; omega⟩, ⟨by (with_reducible repeat (first | apply Kd.R_alloc | apply Kd.R_drewN | apply Kd.R_drew)); exact HO_7.out⟩, ⟨by (with_reducible repeat (first | apply Kd.R_alloc | apply Kd.R_drewN | apply Kd.R_drew)); exact HO_10.out⟩, ⟨by repeat (first | (with_reducible first | exact HB.out | apply below_alloc | apply pw_below_drewN | apply below_drew1) | exact HB.out)⟩⟩
          ·
           replace c23 := Bool.eq_false_iff.mpr c23
           subst c23
           have H1 : (if 0 ≤ x12_3 then ((armadaref16_In.f k3 t104 (rd t108 x12_3)).bind fun t112 => (armadalaw16_GraphUp.l1 k3 l0 l1 a2 t104 x8_2 t107 t108 t112 (wrap64 (x12_3 + 1)))) else (none)) = some r := by rw [if_neg (show ¬ (false = true) by decide)] at H; exact H
           clear H
           have H := H1
           clear H1
           by_cases c25 : 0 ≤ x12_3
           ·
            rw [if_pos c25] at H
            have c25b0 : decide (0 ≤ x12_3) = true := decide_eq_true c25
            clear c25
            replace H := Option.bind_eq_some_iff.mp H
            obtain ⟨t112, A260, H⟩ := H
            replace H : (armadalaw16_GraphUp.l1 k3 l0 l1 a2 t104 x8_2 t107 t108 t112 (wrap64 (x12_3 + 1))) = some r := H
            have A26 := Aside0.mk A260
            clear A260
            have H' := Aside0.mk H
            clear H
            obtain ⟨Ao27, co27, eo27⟩ := Kd.R_slice HO_10.out
            subst eo27
            have p111 : 0 ≤ (x12_3 : Int) := of_decide_eq_true (by first | (with_reducible assumption) | assumption)
            have q111 : x12_3 < (t108.length : Int) := of_decide_eq_true (by first | (with_reducible assumption) | assumption)
            obtain ⟨ad111, e111, hx111_0⟩ := Kd.at_int (Kd.R_reads' HO_10.out).2.2 x12_3 p111 q111
            cases e111
            replace p111 := eq_true p111
            replace q111 := eq_true q111
            obtain ⟨Ao28, co28, eo28⟩ := Kd.R_slice HO_7.out
            subst eo28
            go_wp2_with (first | (go_at_call 21; (with_reducible refine (armadaref16_In.calls k3 _ _ t104 (rd t108 x12_3) t112 _ ?side1 ?side2 A26.out).mono ?_); (case side1 => repeat (first | exact (Kd.R_reads' HO_7.out).2.2 | (with_reducible refine Kd.C_alloc ?_ _) | (with_reducible refine Kd.C_drewN ?_ _) | (with_reducible refine Kd.C_drew ?_))); (case side2 => exact (Kd.R_reads' HO_7.out).2.1); rintro e w' ⟨rfl, ⟨nd, rfl⟩⟩))
            go_roundg k3
            case measure => have := HJ3.out; have := HK2.out; have := HK3.out; omega
            case rel => exact ⟨(t112), (wrap64 (x12_3 + 1)), (by first | rfl | (simp; done) | (simp [*]; done) | (simp [isEmpty_bne]; done)), (by first | rfl | (simp; done) | (simp [*]; done) | (simp [isEmpty_bne]; done)), H', ⟨by have := HJ3.out; have := HK2.out; have := HK3.out; omega⟩, ⟨by (with_reducible repeat (first | apply Kd.R_alloc | apply Kd.R_drewN | apply Kd.R_drew)); exact HO_7.out⟩, ⟨by (with_reducible repeat (first | apply Kd.R_alloc | apply Kd.R_drewN | apply Kd.R_drew)); exact HO_10.out⟩, ⟨by repeat (first | (with_reducible first | exact HB.out | apply below_alloc | apply pw_below_drewN | apply below_drew1) | exact HB.out)⟩⟩
           ·
            rw [if_neg c25] at H
            exact absurd H (by simp)
         ·
          rw [if_neg c22] at H
          have c22b0 : decide (x12_3 < (t108.length : Int)) = false := decide_eq_false c22
          clear c22
          replace H := Option.bind_eq_some_iff.mp H
          obtain ⟨t113, A290, H⟩ := H
          replace H : (if t107 = true then (if (t113 != true) = true then (some false) else (armadalaw16_GraphUp.l0 k3 l0 l1 a2 t104 (wrap64 (x8_2 + 1)))) else (if (t113 != x11_3) = true then (some false) else (armadalaw16_GraphUp.l0 k3 l0 l1 a2 t104 (wrap64 (x8_2 + 1))))) = some r := H
          have A29 := Aside0.mk A290
          clear A290
          by_cases c30 : t107 = true
          ·
           subst c30
           have H1 : (if (t113 != true) = true then (some false) else (armadalaw16_GraphUp.l0 k3 l0 l1 a2 t104 (wrap64 (x8_2 + 1)))) = some r := by rw [if_pos rfl] at H; exact H
           clear H
           have H := H1
           clear H1
           by_cases c31 : (t113 != true) = true
           ·
            rw [if_pos c31] at H
            have c31b0 : (t113 != true) = true := c31
            (try (have c31b1 : decide (t113 = true) = false := by simpa using c31))
            (try (have c31b2 : (t113 == true) = false := by simpa using c31))
            (try (have c31b3 : ¬ (t113 = true) := by simpa using c31))
            clear c31
            exact absurd ((Option.some.inj H).trans HTRU_.out) (by decide)
           ·
            rw [if_neg c31] at H
            have c31b0 : (t113 != true) = false := by simpa using c31
            (try (have c31b1 : decide (t113 = true) = true := by simpa using c31))
            (try (have c31b2 : (t113 == true) = true := by simpa using c31))
            clear c31
            have H' := Aside0.mk H
            clear H
            obtain ⟨Ao32, co32, eo32⟩ := Kd.R_slice HO_10.out
            subst eo32
            obtain ⟨Ao33, co33, eo33⟩ := Kd.R_slice HO_7.out
            subst eo33
            go_wp2_with (first | ((with_reducible refine gate_callee (f := 21) rfl ?_); refine goesL_ (some 62) rfl rfl Tryz.func21 (by kernel_rfl) rfl #[.slice Ao33 t104.length co33, .int .i64 x8_2] rfl (by (try simp only [List.map_toArray, List.map_cons, List.map_nil]); first | done | rfl | (simp only [List.length_drop, List.length_take]; rfl)) ?_; (with_reducible refine (armadaref16_In.calls k3 _ _ t104 x8_2 t113 _ ?side1 ?side2 A29.out).mono ?_); (case side1 => repeat (first | exact (Kd.R_reads' HO_7.out).2.2 | (with_reducible refine Kd.C_alloc ?_ _) | (with_reducible refine Kd.C_drewN ?_ _) | (with_reducible refine Kd.C_drew ?_))); (case side2 => exact (Kd.R_reads' HO_7.out).2.1); rintro e w' ⟨rfl, ⟨nd, rfl⟩⟩; refine ⟨_, rfl, ?_⟩))
            go_roundg k3
            case measure => have := HJ3.out; have := HK2.out; have := HK3.out; omega
            case rel => exact ⟨(wrap64 (x8_2 + 1)), (by first | rfl | (simp; done) | (simp [*]; done) | (simp [isEmpty_bne]; done)), H', ⟨by have := HJ3.out; have := HK2.out; have := HK3.out; omega⟩, ⟨by (with_reducible repeat (first | apply Kd.R_alloc | apply Kd.R_drewN | apply Kd.R_drew)); exact Kd.R_mono HO_7.out (fun _ hk => trivial)⟩, ⟨by repeat (first | (with_reducible first | exact HB.out | apply below_alloc | apply pw_below_drewN | apply below_drew1) | exact HB.out)⟩⟩
          ·
           replace c30 := Bool.eq_false_iff.mpr c30
           subst c30
           have H1 : (if (t113 != x11_3) = true then (some false) else (armadalaw16_GraphUp.l0 k3 l0 l1 a2 t104 (wrap64 (x8_2 + 1)))) = some r := by rw [if_neg (show ¬ (false = true) by decide)] at H; exact H
           clear H
           have H := H1
           clear H1
           by_cases c34 : (t113 != x11_3) = true
           ·
            rw [if_pos c34] at H
            have c34b0 : (t113 != x11_3) = true := c34
            (try (have c34b1 : decide (t113 = x11_3) = false := by simpa using c34))
            (try (have c34b2 : (t113 == x11_3) = false := by simpa using c34))
            (try (have c34b3 : ¬ (t113 = x11_3) := by simpa using c34))
            clear c34
            exact absurd ((Option.some.inj H).trans HTRU_.out) (by decide)
           ·
            rw [if_neg c34] at H
            have c34b0 : (t113 != x11_3) = false := by simpa using c34
            (try (have c34b1 : decide (t113 = x11_3) = true := by simpa using c34))
            (try (have c34b2 : (t113 == x11_3) = true := by simpa using c34))
            clear c34
            have H' := Aside0.mk H
            clear H
            obtain ⟨Ao35, co35, eo35⟩ := Kd.R_slice HO_10.out
            subst eo35
            obtain ⟨Ao36, co36, eo36⟩ := Kd.R_slice HO_7.out
            subst eo36
            go_wp2_with (first | ((with_reducible refine gate_callee (f := 21) rfl ?_); refine goesL_ (some 62) rfl rfl Tryz.func21 (by kernel_rfl) rfl #[.slice Ao36 t104.length co36, .int .i64 x8_2] rfl (by (try simp only [List.map_toArray, List.map_cons, List.map_nil]); first | done | rfl | (simp only [List.length_drop, List.length_take]; rfl)) ?_; (with_reducible refine (armadaref16_In.calls k3 _ _ t104 x8_2 t113 _ ?side1 ?side2 A29.out).mono ?_); (case side1 => repeat (first | exact (Kd.R_reads' HO_7.out).2.2 | (with_reducible refine Kd.C_alloc ?_ _) | (with_reducible refine Kd.C_drewN ?_ _) | (with_reducible refine Kd.C_drew ?_))); (case side2 => exact (Kd.R_reads' HO_7.out).2.1); rintro e w' ⟨rfl, ⟨nd, rfl⟩⟩; refine ⟨_, rfl, ?_⟩))
            go_roundg k3
            case measure => have := HJ3.out; have := HK2.out; have := HK3.out; omega
            case rel => exact ⟨(wrap64 (x8_2 + 1)), (by first | rfl | (simp; done) | (simp [*]; done) | (simp [isEmpty_bne]; done)), H', ⟨by have := HJ3.out; have := HK2.out; have := HK3.out; omega⟩, ⟨by (with_reducible repeat (first | apply Kd.R_alloc | apply Kd.R_drewN | apply Kd.R_drew)); exact Kd.R_mono HO_7.out (fun _ hk => trivial)⟩, ⟨by repeat (first | (with_reducible first | exact HB.out | apply below_alloc | apply pw_below_drewN | apply below_drew1) | exact HB.out)⟩⟩
      ·
       rw [if_neg c18] at H
       have c18b0 : decide (x8_2 < (l0.length : Int)) = false := decide_eq_false c18
       clear c18
       obtain ⟨y114, hy114⟩ : ∃ y_ : List Int, y_ = (([] : List Int)) := ⟨_, rfl⟩
       replace H : (if y114.length + l1.length < 17592186044416 then ((some (y114 ++ l1 : List Int)).bind fun y117 => (if y117.length < 17592186044416 then ((graph_Up.f l0 (y117 ++ [a2])).bind fun t123 => (armadalaw16_GraphUp.l2 k2 l0 t104 t123 0)) else (none))) else (none)) = some r := by first | (rw [hy114]; with_reducible exact H) | (have H2_ := (Option.bind_some _ _).symm.trans H; rw [hy114]; with_reducible exact H2_) | (have H2_ := (Option.bind_some _ _).symm.trans H; with_reducible exact H2_) | with_reducible exact H | (rw [hy114]; exact H) | exact H
       have Ny114 := Aside0.mk hy114
       clear hy114
       by_cases c37 : y114.length + l1.length < 17592186044416
       ·
        rw [if_pos c37] at H
        have LMc37 := Aside0.mk c37
        clear c37
        obtain ⟨y117, hy117⟩ : ∃ y_ : List Int, y_ = (y114 ++ l1) := ⟨_, rfl⟩
        replace H : (if y117.length < 17592186044416 then ((graph_Up.f l0 (y117 ++ [a2])).bind fun t123 => (armadalaw16_GraphUp.l2 k2 l0 t104 t123 0)) else (none)) = some r := by first | (rw [hy117]; with_reducible exact H) | (have H2_ := (Option.bind_some _ _).symm.trans H; rw [hy117]; with_reducible exact H2_) | (have H2_ := (Option.bind_some _ _).symm.trans H; with_reducible exact H2_) | with_reducible exact H | (rw [hy117]; exact H) | exact H
        have Ny117 := Aside0.mk hy117
        clear hy117
        by_cases c38 : y117.length < 17592186044416
        ·
         rw [if_pos c38] at H
         have LMc38 := Aside0.mk c38
         clear c38
         obtain ⟨y120, hy120⟩ : ∃ y_ : List Int, y_ = (y117 ++ [a2]) := ⟨_, rfl⟩
         replace H : ((graph_Up.f l0 y120).bind fun t123 => (armadalaw16_GraphUp.l2 k2 l0 t104 t123 0)) = some r := by first | (rw [hy120]; with_reducible exact H) | (have H2_ := (Option.bind_some _ _).symm.trans H; rw [hy120]; with_reducible exact H2_) | (have H2_ := (Option.bind_some _ _).symm.trans H; with_reducible exact H2_) | with_reducible exact H | (rw [hy120]; exact H) | exact H
         have Ny120 := Aside0.mk hy120
         clear hy120
         replace H := Option.bind_eq_some_iff.mp H
         obtain ⟨t123, A390, H⟩ := H
         replace H : (armadalaw16_GraphUp.l2 k2 l0 t104 t123 0) = some r := H
         have A39 := Aside0.mk A390
         clear A390
         have H' := Aside0.mk H
         clear H
         go_wp2_with (first | ((with_reducible refine gate_dst (N := 68) rfl ?_); (try (refine gate_guard (by rfl) ?_; dsimp only)); refine Kd.R_lit (Kd.int .i64) _ 3 ?hg (N := 68) ?hd (xs := ([] : List Int)) (inner := []) (ok := fun _ => True) (okp := fun _ => True) ?hr ?hp (fun _ hk => hk) trivial (Below.refl _ _) (Nat.le_refl _) (by simp) ?_; (case hd => rfl); (case hg => rfl); (case hr => first | (go_simp; done) | (go_simp; rfl)); (case hp => exact (Reps.none _ _)); intro v115 w40 ho41 hb hg_ hnew_; clear hg_ hnew_; (first | rw [← Ny114.out] at ho41 | (simp only [Int.reduceToNat] at ho41; rw [← Ny114.out] at ho41)); have n0_ := Aside0.mk (Kd.R_elder' (by (with_reducible repeat (first | apply Kd.R_alloc | apply Kd.R_drewN | apply Kd.R_drew)); exact HO_7.out) (Kd.R_base ho41) hb); have n1_ := Aside0.mk (Kd.R_lower (Kd.R_new' ho41 (Kd.R_lt (by (with_reducible repeat (first | apply Kd.R_alloc | apply Kd.R_drewN | apply Kd.R_drew)); exact HO_7.out))) (below_size (by repeat (first | (with_reducible first | exact HB.out | apply below_alloc | apply pw_below_drewN | apply below_drew1) | exact HB.out)))); have n2_ := Aside0.mk (below_step (by repeat (first | (with_reducible first | exact HB.out | apply below_alloc | apply pw_below_drewN | apply below_drew1) | exact HB.out)) hb); clear HO_7; clear HB; have HO_7 := n0_; have HO116 := n1_; have HB := n2_; clear n0_ n1_ n2_; clear hb ho41) | ((with_reducible refine gate_builtin (b := .append) (xs := #[.tmp 68, .tmp 69]) rfl ?_); (try (refine gate_guard (by rfl) ?_; dsimp only)); at_builtin; refine Kd.R_append_rows (Kd.int .i64) (w0 := w) w.heap.size rfl (.tmp 68) (.tmp 69) 23 3 (.int .i64 0) 8 rfl Tryz.underlying23 info3 rfl (by decide) (by omega) v115 y114 l1 _ _ _ (fun k_ => some k_ ≠ (v105 : Value).ownBlock) (fun _ => False) rfl rfl ?aO ?aR (fun _ _ h => h) (fun _ h => h.elim) ?aF ?aB ?aS ?aL ?_; (case aR => repeat (first | exact (Kd.C_below HR1.out HB.out) | (with_reducible refine Kd.C_alloc ?_ _) | (with_reducible refine Kd.C_drewN ?_ _) | (with_reducible refine Kd.C_drew ?_))); (case aB => exact (by repeat (first | (with_reducible first | exact HB.out | apply below_alloc | apply pw_below_drewN | apply below_drew1) | exact HB.out))); (case aF => exact (fun k_ hk => Kd.fresh' (Kd.R_lt (by (with_reducible repeat (first | apply Kd.R_alloc | apply Kd.R_drewN | apply Kd.R_drew)); exact HO_7.out)) k_ hk)); (case aO => exact (by (with_reducible repeat (first | apply Kd.R_alloc | apply Kd.R_drewN | apply Kd.R_drew)); exact Kd.R_mono HO116.out (fun _ hk => hk.2))); (case aS => exact (below_size (by repeat (first | (with_reducible first | exact HB.out | apply below_alloc | apply pw_below_drewN | apply below_drew1) | exact HB.out)))); (case aL => have := LMc37.out; omega); intro v118 w42 ho hb hg hat; rw [← Ny117.out] at ho; have n0_ := Aside0.mk (Kd.R_after (ok := (fun _ => True)) (by (with_reducible repeat (first | apply Kd.R_alloc | apply Kd.R_drewN | apply Kd.R_drew)); exact HO_7.out) hg hat); have n1_ := Aside0.mk (hb); have n2_ := Aside0.mk (ho); clear HO_7; clear HB; clear HO116; have HO_7 := n0_; have HB := n1_; have HO119 := n2_; clear n0_ n1_ n2_; clear ho hb hg hat) | ((with_reducible refine gate_builtin (b := .append) (xs := #[.tmp 71, .tmp 73]) rfl ?_); (try (refine gate_guard (by rfl) ?_; dsimp only)); at_builtin; refine Kd.R_append (Kd.int .i64) (w0 := w) w.heap.size rfl (.tmp 71) (.tmp 73) 23 3 (.int .i64 0) 8 rfl Tryz.underlying23 info3 rfl (by decide) (by omega) v118 y117 a2 [.int .i64 a2] (fun k_ => some k_ ≠ (v105 : Value).ownBlock) (fun _ => False) rfl rfl ?aP (fun _ hk => hk.elim) ?aF ?aO ?aB ?aS ?aL ?_; (case aP => exact rfl); (case aB => exact (by repeat (first | (with_reducible first | exact HB.out | apply below_alloc | apply pw_below_drewN | apply below_drew1) | exact HB.out))); (case aF => exact (fun k_ hk => Kd.fresh' (Kd.R_lt (by (with_reducible repeat (first | apply Kd.R_alloc | apply Kd.R_drewN | apply Kd.R_drew)); exact HO_7.out)) k_ hk)); (case aO => exact (by (with_reducible repeat (first | apply Kd.R_alloc | apply Kd.R_drewN | apply Kd.R_drew)); exact HO119.out)); (case aS => exact (below_size (by repeat (first | (with_reducible first | exact HB.out | apply below_alloc | apply pw_below_drewN | apply below_drew1) | exact HB.out)))); (case aL => have := LMc38.out; omega); intro v121 w43 ho hb hg hat; rw [← Ny120.out] at ho; have n0_ := Aside0.mk (Kd.R_after (ok := (fun _ => True)) (by (with_reducible repeat (first | apply Kd.R_alloc | apply Kd.R_drewN | apply Kd.R_drew)); exact HO_7.out) hg hat); have n1_ := Aside0.mk (hb); have n2_ := Aside0.mk (ho); clear HO_7; clear HB; clear HO119; have HO_7 := n0_; have HB := n1_; have HO122 := n2_; clear n0_ n1_ n2_; clear ho hb hg hat; obtain ⟨Ao44, co44, eo44⟩ := Kd.R_slice HO122.out; subst eo44) | ((with_reducible refine gate_callee (f := 19) rfl ?_); refine goesL_ (some 77) rfl rfl Tryz.func19 (by kernel_rfl) rfl #[.slice A0 l0.length c0, .slice Ao44 y120.length co44] rfl (by (try simp only [List.map_toArray, List.map_cons, List.map_nil]); first | done | rfl | (simp only [List.length_drop, List.length_take]; rfl)) ?_; (with_reducible refine (graph_Up.calls _ _ l0 _ _ y120 t123 _ ?side1 ?side2 ?side3 ?side4 ?side5 A39.out).mono ?_); (case side1 => repeat (first | exact (Kd.C_below HR0.out HB.out) | (with_reducible refine Kd.C_alloc ?_ _) | (with_reducible refine Kd.C_drewN ?_ _) | (with_reducible refine Kd.C_drew ?_))); (case side2 => exact HC0.out); (case side3 => repeat (first | exact (Kd.R_reads' HO122.out).2.2 | (with_reducible refine Kd.C_alloc ?_ _) | (with_reducible refine Kd.C_drewN ?_ _) | (with_reducible refine Kd.C_drew ?_))); (case side4 => exact (Kd.R_reads' HO122.out).2.1); (case side5 => exact GW.below HGW.out (by repeat (first | (with_reducible first | exact HB.out | apply below_alloc | apply pw_below_drewN | apply below_drew1) | exact HB.out))); rintro e w45 ⟨v124, rfl, ho0, hb⟩; refine ⟨_, rfl, ?_⟩; have n0_ := Aside0.mk (Kd.R_elder' (by (with_reducible repeat (first | apply Kd.R_alloc | apply Kd.R_drewN | apply Kd.R_drew)); exact HO_7.out) (Kd.R_base ho0) hb); have n1_ := Aside0.mk (Kd.R_elder' (by (with_reducible repeat (first | apply Kd.R_alloc | apply Kd.R_drewN | apply Kd.R_drew)); exact HO122.out) (Kd.R_base ho0) hb); have n2_ := Aside0.mk (Kd.R_lower (Kd.R_new' (Kd.R_new' ho0 (Kd.R_lt (by (with_reducible repeat (first | apply Kd.R_alloc | apply Kd.R_drewN | apply Kd.R_drew)); exact HO_7.out))) (Kd.R_lt (by (with_reducible repeat (first | apply Kd.R_alloc | apply Kd.R_drewN | apply Kd.R_drew)); exact HO122.out))) (below_size (by repeat (first | (with_reducible first | exact HB.out | apply below_alloc | apply pw_below_drewN | apply below_drew1) | exact HB.out)))); have n3_ := Aside0.mk (below_step (by repeat (first | (with_reducible first | exact HB.out | apply below_alloc | apply pw_below_drewN | apply below_drew1) | exact HB.out)) hb); clear HO_7; clear HO122; clear HB; have HO_7 := n0_; have HO122 := n1_; have HO125 := n2_; have HB := n3_; clear n0_ n1_ n2_ n3_; (try clear hb); (try clear hb2); (try clear hk); (try clear hi); (try clear ho0)))
         go_loopg [15] k2 (fun kq v15 w' => ∃ (x15_3 : Int), v15 = .int .i64 x15_3 ∧ Aside0 (armadalaw16_GraphUp.l2 kq l0 t104 t123 x15_3 = some r) ∧ Aside0 (kq ≤ k2) ∧ Aside0 (Kd.R (Kd.int .i64) 3 w' w.heap.size (fun k_ => some k_ ≠ (v124 : Value).ownBlock) v105 t104) ∧ Aside0 (Kd.R (Kd.int .i64) 3 w' w.heap.size (fun k_ => some k_ ≠ (v105 : Value).ownBlock) v124 t123) ∧ Aside0 (Below w.heap.size w w'))
         case atStart => exact ⟨(0), (by first | rfl | (simp; done) | (simp [*]; done) | (simp [isEmpty_bne]; done)), H', ⟨Nat.le_refl _⟩, ⟨by (with_reducible repeat (first | apply Kd.R_alloc | apply Kd.R_drewN | apply Kd.R_drew)); exact Kd.R_mono HO_7.out (fun _ hk => hk.2)⟩, ⟨by (with_reducible repeat (first | apply Kd.R_alloc | apply Kd.R_drewN | apply Kd.R_drew)); exact Kd.R_mono HO125.out (fun _ hk => hk.1.2)⟩, ⟨by repeat (first | (with_reducible first | exact HB.out | apply below_alloc | apply pw_below_drewN | apply below_drew1) | exact HB.out)⟩⟩
         case round =>
          clear H'
          try clear c1
          try clear p1
          try clear q1
          try clear hx1
          try clear c2
          try clear p2
          try clear c3
          try clear c5
          try clear c6
          try clear p6
          try clear c7
          try clear c7b0
          try clear c7b1
          try clear c8
          try clear c9
          try clear p11
          try clear q11
          try clear hx11
          try clear c13
          try clear c15
          try clear c18
          try clear c18b0
          try clear c19
          try clear c21
          try clear c22
          try clear c22b0
          try clear c23
          try clear c25
          try clear c25b0
          try clear c30
          try clear c31
          try clear c31b0
          try clear c31b1
          try clear c31b2
          try clear c34
          try clear c34b0
          try clear c34b1
          try clear c34b2
          try clear c37
          try clear c38
          try clear hx111_0
          try clear p111
          try clear p2
          try clear q111
          obtain ⟨x15_3, rfl, HA, HK3, HO_7, HO_14, HB⟩ := hrel
          cases gk with
          | zero => exact absurd HA.out (by simp [armadalaw16_GraphUp.l2])
          | succ k3 =>
           have H := HA.out
           clear HA
           simp only [armadalaw16_GraphUp.l2] at H
           by_cases c46 : x15_3 < (t104.length : Int)
           ·
            rw [if_pos c46] at H
            have c46b0 : decide (x15_3 < (t104.length : Int)) = true := decide_eq_true c46
            clear c46
            by_cases c47 : 0 ≤ x15_3
            ·
             rw [if_pos c47] at H
             have c47b0 : decide (0 ≤ x15_3) = true := decide_eq_true c47
             clear c47
             replace H := Option.bind_eq_some_iff.mp H
             obtain ⟨t127, A480, H⟩ := H
             replace H : (if t127 = true then (if (rd t104 x15_3) < 0 then (some false) else (if (rd t104 x15_3) ≥ (l0.length : Int) then (some false) else (armadalaw16_GraphUp.l2 k3 l0 t104 t123 (wrap64 (x15_3 + 1))))) else (some false)) = some r := H
             have A48 := Aside0.mk A480
             clear A480
             by_cases c49 : t127 = true
             ·
              subst c49
              have H1 : (if (rd t104 x15_3) < 0 then (some false) else (if (rd t104 x15_3) ≥ (l0.length : Int) then (some false) else (armadalaw16_GraphUp.l2 k3 l0 t104 t123 (wrap64 (x15_3 + 1))))) = some r := by rw [if_pos rfl] at H; exact H
              clear H
              have H := H1
              clear H1
              by_cases c50 : (rd t104 x15_3) < 0
              ·
               rw [if_pos c50] at H
               have c50b0 : decide ((rd t104 x15_3) < 0) = true := decide_eq_true c50
               clear c50
               exact absurd ((Option.some.inj H).trans HTRU_.out) (by decide)
              ·
               rw [if_neg c50] at H
               have c50b0 : decide ((rd t104 x15_3) < 0) = false := decide_eq_false c50
               clear c50
               by_cases c51 : (rd t104 x15_3) ≥ (l0.length : Int)
               ·
                rw [if_pos c51] at H
                have c51b0 : decide ((l0.length : Int) ≤ (rd t104 x15_3)) = true := decide_eq_true c51
                clear c51
                exact absurd ((Option.some.inj H).trans HTRU_.out) (by decide)
               ·
                rw [if_neg c51] at H
                have c51b0 : decide ((l0.length : Int) ≤ (rd t104 x15_3)) = false := decide_eq_false c51
                clear c51
                have H' := Aside0.mk H
                clear H
                obtain ⟨Ao52, co52, eo52⟩ := Kd.R_slice HO_7.out
                subst eo52
                have p126 : 0 ≤ (x15_3 : Int) := of_decide_eq_true (by first | (with_reducible assumption) | assumption)
                have q126 : x15_3 < (t104.length : Int) := of_decide_eq_true (by first | (with_reducible assumption) | assumption)
                obtain ⟨ad126, e126, hx126_0⟩ := Kd.at_int (Kd.R_reads' HO_7.out).2.2 x15_3 p126 q126
                cases e126
                replace p126 := eq_true p126
                replace q126 := eq_true q126
                obtain ⟨Ao53, co53, eo53⟩ := Kd.R_slice HO_14.out
                subst eo53
                go_wp2_with (first | ((with_reducible refine gate_callee (f := 21) rfl ?_); refine goesL_ (some 89) rfl rfl Tryz.func21 (by kernel_rfl) rfl #[.slice Ao53 t123.length co53, .int .i64 (rd t104 x15_3)] rfl (by (try simp only [List.map_toArray, List.map_cons, List.map_nil]); first | done | rfl | (simp only [List.length_drop, List.length_take]; rfl)) ?_; (with_reducible refine (armadaref16_In.calls k3 _ _ t123 (rd t104 x15_3) true _ ?side1 ?side2 A48.out).mono ?_); (case side1 => repeat (first | exact (Kd.R_reads' HO_14.out).2.2 | (with_reducible refine Kd.C_alloc ?_ _) | (with_reducible refine Kd.C_drewN ?_ _) | (with_reducible refine Kd.C_drew ?_))); (case side2 => exact (Kd.R_reads' HO_14.out).2.1); rintro e w' ⟨rfl, ⟨nd, rfl⟩⟩; refine ⟨_, rfl, ?_⟩; have p128 : 0 ≤ (x15_3 : Int) := of_decide_eq_true (by first | (with_reducible assumption) | assumption); have q128 : x15_3 < (t104.length : Int) := of_decide_eq_true (by first | (with_reducible assumption) | assumption); obtain ⟨ad128, e128, hx128_0⟩ := Kd.at_int (Kd.R_reads' HO_7.out).2.2 x15_3 p128 q128; obtain rfl : ad126 = ad128 := (by injection e128); replace p128 := eq_true p128; replace q128 := eq_true q128; have p129 : 0 ≤ (x15_3 : Int) := of_decide_eq_true (by first | (with_reducible assumption) | assumption); have q129 : x15_3 < (t104.length : Int) := of_decide_eq_true (by first | (with_reducible assumption) | assumption); obtain ⟨ad129, e129, hx129_0⟩ := Kd.at_int (Kd.R_reads' HO_7.out).2.2 x15_3 p129 q129; obtain rfl : ad126 = ad129 := (by injection e129); replace p129 := eq_true p129; replace q129 := eq_true q129))
                go_roundg k3
                case measure => have := HJ3.out; have := HK2.out; have := HK3.out; omega
                case rel => exact ⟨(wrap64 (x15_3 + 1)), (by first | rfl | (simp; done) | (simp [*]; done) | (simp [isEmpty_bne]; done)), H', ⟨by have := HJ3.out; have := HK2.out; have := HK3.out; omega⟩, ⟨by (with_reducible repeat (first | apply Kd.R_alloc | apply Kd.R_drewN | apply Kd.R_drew)); exact HO_7.out⟩, ⟨by (with_reducible repeat (first | apply Kd.R_alloc | apply Kd.R_drewN | apply Kd.R_drew)); exact HO_14.out⟩, ⟨by repeat (first | (with_reducible first | exact HB.out | apply below_alloc | apply pw_below_drewN | apply below_drew1) | exact HB.out)⟩⟩
             ·
              replace c49 := Bool.eq_false_iff.mpr c49
              subst c49
              have H1 : (some false) = some r := by rw [if_neg (show ¬ (false = true) by decide)] at H; exact H
              clear H
              have H := H1
              clear H1
              exact absurd ((Option.some.inj H).trans HTRU_.out) (by decide)
            ·
             rw [if_neg c47] at H
             exact absurd H (by simp)
           ·
            rw [if_neg c46] at H
            have c46b0 : decide (x15_3 < (t104.length : Int)) = false := decide_eq_false c46
            clear c46
            replace H := Option.bind_eq_some_iff.mp H
            obtain ⟨t130, A540, H⟩ := H
            replace H : ((armadaref16_Same.f k3 t130 t104).bind fun t133 => (if t133 = true then ((armadalaw16_live.f).bind fun t134 => (some t134)) else (some false))) = some r := H
            have A54 := Aside0.mk A540
            clear A540
            replace H := Option.bind_eq_some_iff.mp H
            obtain ⟨t133, A550, H⟩ := H
            replace H : (if t133 = true then ((armadalaw16_live.f).bind fun t134 => (some t134)) else (some false)) = some r := H
            have A55 := Aside0.mk A550
            clear A550
            by_cases c56 : t133 = true
            ·
             subst c56
             have H1 : ((armadalaw16_live.f).bind fun t134 => (some t134)) = some r := by rw [if_pos rfl] at H; exact H
             clear H
             have H := H1
             clear H1
             replace H := Option.bind_eq_some_iff.mp H
             obtain ⟨t134, A570, H⟩ := H
             replace H : (some t134) = some r := H
             have A57 := Aside0.mk A570
             clear A570
             obtain rfl := Option.some.inj H
             obtain ⟨Ao58, co58, eo58⟩ := Kd.R_slice HO_7.out
             subst eo58
             go_wp2_with (first | ((with_reducible refine gate_callee (f := 19) rfl ?_); refine goesL_ (some 109) rfl rfl Tryz.func19 (by kernel_rfl) rfl #[.slice A0 l0.length c0, .slice Ao58 t104.length co58] rfl (by (try simp only [List.map_toArray, List.map_cons, List.map_nil]); first | done | rfl | (simp only [List.length_drop, List.length_take]; rfl)) ?_; (with_reducible refine (graph_Up.calls _ _ l0 _ _ t104 t130 _ ?side1 ?side2 ?side3 ?side4 ?side5 A54.out).mono ?_); (case side1 => repeat (first | exact (Kd.C_below HR0.out HB.out) | (with_reducible refine Kd.C_alloc ?_ _) | (with_reducible refine Kd.C_drewN ?_ _) | (with_reducible refine Kd.C_drew ?_))); (case side2 => exact HC0.out); (case side3 => repeat (first | exact (Kd.R_reads' HO_7.out).2.2 | (with_reducible refine Kd.C_alloc ?_ _) | (with_reducible refine Kd.C_drewN ?_ _) | (with_reducible refine Kd.C_drew ?_))); (case side4 => exact (Kd.R_reads' HO_7.out).2.1); (case side5 => exact GW.below HGW.out (by repeat (first | (with_reducible first | exact HB.out | apply below_alloc | apply pw_below_drewN | apply below_drew1) | exact HB.out))); rintro e w59 ⟨v131, rfl, ho0, hb⟩; refine ⟨_, rfl, ?_⟩; have n0_ := Aside0.mk (Kd.R_elder' (by (with_reducible repeat (first | apply Kd.R_alloc | apply Kd.R_drewN | apply Kd.R_drew)); exact HO_7.out) (Kd.R_base ho0) hb); have n1_ := Aside0.mk (Kd.R_elder' (by (with_reducible repeat (first | apply Kd.R_alloc | apply Kd.R_drewN | apply Kd.R_drew)); exact HO_14.out) (Kd.R_base ho0) hb); have n2_ := Aside0.mk (Kd.R_lower (Kd.R_new' (Kd.R_new' ho0 (Kd.R_lt (by (with_reducible repeat (first | apply Kd.R_alloc | apply Kd.R_drewN | apply Kd.R_drew)); exact HO_7.out))) (Kd.R_lt (by (with_reducible repeat (first | apply Kd.R_alloc | apply Kd.R_drewN | apply Kd.R_drew)); exact HO_14.out))) (below_size (by repeat (first | (with_reducible first | exact HB.out | apply below_alloc | apply pw_below_drewN | apply below_drew1) | exact HB.out)))); have n3_ := Aside0.mk (below_step (by repeat (first | (with_reducible first | exact HB.out | apply below_alloc | apply pw_below_drewN | apply below_drew1) | exact HB.out)) hb); clear HO_7; clear HO_14; clear HB; have HO_7 := n0_; have HO_14 := n1_; have HO132 := n2_; have HB := n3_; clear n0_ n1_ n2_ n3_; (try clear hb); (try clear hb2); (try clear hk); (try clear hi); (try clear ho0); obtain ⟨Ao60, co60, eo60⟩ := Kd.R_slice HO132.out; subst eo60) | ((with_reducible refine gate_callee (f := 14) rfl ?_); refine goesL_ (some 111) rfl rfl Tryz.func14 (by kernel_rfl) rfl #[.slice Ao60 t130.length co60, .slice Ao58 t104.length co58] rfl (by (try simp only [List.map_toArray, List.map_cons, List.map_nil]); first | done | rfl | (simp only [List.length_drop, List.length_take]; rfl)) ?_; (with_reducible refine (armadaref16_Same.calls k3 _ _ t130 _ _ t104 true _ ?side1 ?side2 ?side3 ?side4 A55.out).mono ?_); (case side1 => repeat (first | exact (Kd.R_reads' HO132.out).2.2 | (with_reducible refine Kd.C_alloc ?_ _) | (with_reducible refine Kd.C_drewN ?_ _) | (with_reducible refine Kd.C_drew ?_))); (case side2 => exact (Kd.R_reads' HO132.out).2.1); (case side3 => repeat (first | exact (Kd.R_reads' HO_7.out).2.2 | (with_reducible refine Kd.C_alloc ?_ _) | (with_reducible refine Kd.C_drewN ?_ _) | (with_reducible refine Kd.C_drew ?_))); (case side4 => exact (Kd.R_reads' HO_7.out).2.1); rintro e w' ⟨rfl, ⟨nd, rfl⟩⟩; refine ⟨_, rfl, ?_⟩) | (go_at_call 9; (with_reducible refine (armadalaw16_live.calls  t134 _ ?side1 A57.out).mono ?_); (case side1 => exact GW.below HGW.out (by repeat (first | (with_reducible first | exact HB.out | apply below_alloc | apply pw_below_drewN | apply below_drew1) | exact HB.out))); rintro e w61 ⟨rfl, hb⟩; have n0_ := Aside0.mk (Kd.R_below (by (with_reducible repeat (first | apply Kd.R_alloc | apply Kd.R_drewN | apply Kd.R_drew)); exact HO_7.out) hb); have n1_ := Aside0.mk (Kd.R_below (by (with_reducible repeat (first | apply Kd.R_alloc | apply Kd.R_drewN | apply Kd.R_drew)); exact HO_14.out) hb); have n2_ := Aside0.mk (Kd.R_below (by (with_reducible repeat (first | apply Kd.R_alloc | apply Kd.R_drewN | apply Kd.R_drew)); exact HO132.out) hb); have n3_ := Aside0.mk (below_step (by repeat (first | (with_reducible first | exact HB.out | apply below_alloc | apply pw_below_drewN | apply below_drew1) | exact HB.out)) hb); clear HO_7; clear HO_14; clear HO132; clear HB; have HO_7 := n0_; have HO_14 := n1_; have HO132 := n2_; have HB := n3_; clear n0_ n1_ n2_ n3_; (try clear hb); (try clear hb2); (try clear hk); (try clear hi)))
             go_ret
             exact ⟨by first | rfl | (simp [errW_none, errW_some] <;> rfl) | (simp [*, errW_none, errW_some] <;> rfl) | (simp [isEmpty_bne]; done), by repeat (first | (with_reducible first | exact HB.out | apply below_alloc | apply pw_below_drewN | apply below_drew1) | exact HB.out)⟩
            ·
             replace c56 := Bool.eq_false_iff.mpr c56
             subst c56
             have H1 : (some false) = some r := by rw [if_neg (show ¬ (false = true) by decide)] at H; exact H
             clear H
             have H := H1
             clear H1
             exact absurd ((Option.some.inj H).trans HTRU_.out) (by decide)
        ·
         rw [if_neg c38] at H
         exact absurd H (by simp)
       ·
        rw [if_neg c37] at H
        exact absurd H (by simp)

end Go.Proofs.YtnfiigjignpkaaaGreatDoor.R6
