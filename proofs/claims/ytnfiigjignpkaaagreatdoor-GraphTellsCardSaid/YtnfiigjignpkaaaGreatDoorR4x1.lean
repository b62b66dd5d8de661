-- Written by a program of this place (myprint.py) out of the translation. Not trusted: Lean checks it.
import Derived.Test.YtnfiigjignpkaaaGreatDoorR4x0
namespace Go.Proofs.YtnfiigjignpkaaaGreatDoor.R4
open Go.RowKit Go.Proofs.YtnfiigjignpkaaaGreatDoor Go.Proofs.YtnfiigjignpkaaaGreatDoor.K0 Go.Proofs.YtnfiigjignpkaaaGreatDoor.R1 Go.Proofs.YtnfiigjignpkaaaGreatDoor.R2 Go.Proofs.YtnfiigjignpkaaaGreatDoor.R3 Go.Proofs.YtnfiigjignpkaaaGreatDoorW.PrintWords Go.Proofs.YtnfiigjignpkaaaGreatDoorW.PrintLast Go.Proofs.YtnfiigjignpkaaaGreatDoorW.PrintMore
attribute [local go_sem] max2_int min2_int max_two min_two max_three min_three max_four min_four   -- for this text's walks alone
set_option linter.unusedVariables false
set_option linter.unusedSimpArgs false

/-! ### armadalaw16_GraphTells: function 3 -/
def armadalaw16_GraphTells.j0 : Nat → List (S40) → Int → List Int → Bool → Option (Bool)
 | 0, _, _, _, _ => none
 | k + 1, x0, x1, x2, x18 => if x18 = true then ((armadalaw16_live.f).bind fun t102 => (some t102)) else ((graph_Order.f x0).bind fun bt103 => ((armadaref16_Order.f k x0).bind fun bt107 => ((graph_Check.f x0).bind fun t111 => ((armadaref16_Check.f k x0).bind fun t112 => (if t111 = t112 then ((graph_Edges.f x0 x1).bind fun t113 => ((armadaref16_Edges.f k x0 x1).bind fun t116 => ((armadaref16_Same.f k t113 t116).bind fun t119 => (if t119 = true then ((graph_Cyclic.f x0).bind fun t120 => ((armadaref16_Cyclic.f k x0).bind fun t123 => ((armadaref16_Same.f k t120 t123).bind fun t126 => (if t126 = true then ((armadaref16_Same.f k bt103.1 bt107.1).bind fun t127 => (if t127 = true then (if bt103.2 = bt107.2 then ((graph_Up.f x0 x2).bind fun t128 => ((armadaref16_Up.f k x0 x2).bind fun t131 => ((armadaref16_Same.f k t128 t131).bind fun t134 => (if t134 = true then ((armadalaw16_live.f).bind fun t135 => (some t135)) else (some false))))) else (some false)) else (some false))) else (some false))))) else (some false))))) else (some false))))))
def armadalaw16_GraphTells.f (k : Nat) (l0 : List (S40)) (a1 : Int) (l2 : List Int) : Option (Bool) := (armadaref16_Small.f k l0).bind fun t101 => (if t101 = true then (armadalaw16_GraphTells.j0 k l0 a1 l2 (decide ((l2.length : Int) > 30))) else (armadalaw16_GraphTells.j0 k l0 a1 l2 true))
theorem armadalaw16_GraphTells.mono_l : ∀ k, (∀ y0 y1 y2 y3, LeO (armadalaw16_GraphTells.j0 k y0 y1 y2 y3) (armadalaw16_GraphTells.j0 (k + 1) y0 y1 y2 y3))
 | 0 => fun _ _ _ _ r h => by simp [armadalaw16_GraphTells.j0] at h
 | k + 1 => by
  have ih0 := armadalaw16_GraphTells.mono_l k
  ·
   intro y0 y1 y2 y3
   unfold armadalaw16_GraphTells.j0
   repeat' first
   | (with_reducible exact ih0 _ _ _ _)
   | (with_reducible exact armadaref16_Check.mono _ _)
   | (with_reducible exact armadaref16_Cyclic.mono _ _)
   | (with_reducible exact armadaref16_Edges.mono _ _ _)
   | (with_reducible exact armadaref16_Order.mono _ _)
   | (with_reducible exact armadaref16_Same.mono _ _ _)
   | (with_reducible exact armadaref16_Small.mono _ _)
   | (with_reducible exact armadaref16_Up.mono _ _ _)
   | (with_reducible exact LeO.refl _)
   | (with_reducible exact LeO.none _)
   | (with_reducible refine LeO.ite ?_ ?_)
   | (with_reducible refine LeO.bind ?_ (fun _ => ?_))
   | exact ih0 _ _ _ _
   | exact armadaref16_Check.mono _ _
   | exact armadaref16_Cyclic.mono _ _
   | exact armadaref16_Edges.mono _ _ _
   | exact armadaref16_Order.mono _ _
   | exact armadaref16_Same.mono _ _ _
   | exact armadaref16_Small.mono _ _
   | exact armadaref16_Up.mono _ _ _
   | exact LeO.none _
   | refine LeO.ite ?_ ?_
   | refine LeO.bind ?_ (fun _ => ?_)
theorem armadalaw16_GraphTells.mono : ∀ a0 a1 a2 k, LeO (armadalaw16_GraphTells.f k a0 a1 a2) (armadalaw16_GraphTells.f (k + 1) a0 a1 a2) := by
 intro a0 a1 a2 k
 have ih0 := armadalaw16_GraphTells.mono_l k
 unfold armadalaw16_GraphTells.f
 repeat' first
   | (with_reducible exact ih0 _ _ _ _)
   | (with_reducible exact armadaref16_Check.mono _ _)
   | (with_reducible exact armadaref16_Cyclic.mono _ _)
   | (with_reducible exact armadaref16_Edges.mono _ _ _)
   | (with_reducible exact armadaref16_Order.mono _ _)
   | (with_reducible exact armadaref16_Same.mono _ _ _)
   | (with_reducible exact armadaref16_Small.mono _ _)
   | (with_reducible exact armadaref16_Up.mono _ _ _)
   | (with_reducible exact LeO.refl _)
   | (with_reducible exact LeO.none _)
   | (with_reducible refine LeO.ite ?_ ?_)
   | (with_reducible refine LeO.bind ?_ (fun _ => ?_))
   | exact ih0 _ _ _ _
   | exact armadaref16_Check.mono _ _
   | exact armadaref16_Cyclic.mono _ _
   | exact armadaref16_Edges.mono _ _ _
   | exact armadaref16_Order.mono _ _
   | exact armadaref16_Same.mono _ _ _
   | exact armadaref16_Small.mono _ _
   | exact armadaref16_Up.mono _ _ _
   | exact LeO.none _
   | refine LeO.ite ?_ ?_
   | refine LeO.bind ?_ (fun _ => ?_)
set_option maxHeartbeats 8000000 in
set_option maxRecDepth 100000 in
theorem armadalaw16_GraphTells.calls (k : Nat) (A0 : Option Addr) (c0 : Nat) (l0 : List (S40)) (a1 : Int) (A2 : Option Addr) (c2 : Nat) (l2 : List Int) (r : Bool) (w : World) (hr0 : Kd.C k40 w A0 l0.length l0) (hc0 : l0.length ≤ c0) (hr2 : Kd.C (Kd.int .i64) w A2 l2.length l2) (hc2 : l2.length ≤ c2) (hG : GW w) (hT : r = true) (h : armadalaw16_GraphTells.f k l0 a1 l2 = some r) :
  Calls Tryz.prog 3 #[.slice A0 l0.length c0, .int .i64 a1, .slice A2 l2.length c2] w fun e w' => e = .returned (.bool r) ∧ Below w.heap.size w w' := by
 have HR0 := Aside0.mk hr0
 have HC0 := Aside0.mk hc0
 clear hr0 hc0
 have HR2 := Aside0.mk hr2
 have HC2 := Aside0.mk hc2
 clear hr2 hc2
 have HGW := Aside0.mk hG
 clear hG
 have HTRU_ := Aside0.mk hT
 clear hT
 have HB := Aside0.mk (Below.refl w.heap.size w)
 have H : ((armadaref16_Small.f k l0).bind fun t101 => (if t101 = true then (armadalaw16_GraphTells.j0 k l0 a1 l2 (decide ((l2.length : Int) > 30))) else (armadalaw16_GraphTells.j0 k l0 a1 l2 true))) = some r := h
 clear h
 have HC4 := Aside0.mk H
 clear H
 go_enter Tryz.func3, Tryz.ntmps3
 go_upto_region 1 with (fail)
 go_cut [18] (fun v18 wc => ∃ (kq : Nat) (x18_3 : Bool), v18 = .bool x18_3 ∧ Aside0 (armadalaw16_GraphTells.j0 kq l0 a1 l2 x18_3 = some r) ∧ Aside0 (kq ≤ k) ∧ Aside0 (Below w.heap.size w wc))
 case first =>
  have H := HC4.out
  clear HC4
  replace H := Option.bind_eq_some_iff.mp H
  obtain ⟨t101, A50, H⟩ := H
  replace H : (if t101 = true then (armadalaw16_GraphTells.j0 k l0 a1 l2 (decide ((l2.length : Int) > 30))) else (armadalaw16_GraphTells.j0 k l0 a1 l2 true)) = some r := H
  have A5 := Aside0.mk A50
  clear A50
  by_cases c6 : t101 = true
  ·
   subst c6
   have H1 : (armadalaw16_GraphTells.j0 k l0 a1 l2 (decide ((l2.length : Int) > 30))) = some r := by rw [if_pos rfl] at H; exact H
   clear H
   have H := H1
   clear H1
   have H' := Aside0.mk H
   clear H
   go_wp2_with (first | ((with_reducible refine gate_callee (f := 8) rfl ?_); refine goesL_ (some 12) rfl rfl Tryz.func8 (by kernel_rfl) rfl #[.slice A0 l0.length c0] rfl (by (try simp only [List.map_toArray, List.map_cons, List.map_nil]); first | done | rfl | (simp only [List.length_drop, List.length_take]; rfl)) ?_; (with_reducible refine (armadaref16_Small.calls k _ _ l0 true _ ?side1 ?side2 A5.out).mono ?_); (case side1 => repeat (first | exact (Kd.C_below HR0.out HB.out) | (with_reducible refine Kd.C_alloc ?_ _) | (with_reducible refine Kd.C_drewN ?_ _) | (with_reducible refine Kd.C_drew ?_))); (case side2 => exact HC0.out); rintro e w7 ⟨rfl, hb⟩; refine ⟨_, rfl, ?_⟩; have n0_ := Aside0.mk (below_step (by repeat (first | (with_reducible first | exact HB.out | apply below_alloc | apply pw_below_drewN | apply below_drew1) | exact HB.out)) hb); clear HB; have HB := n0_; clear n0_; (try clear hb); (try clear hb2); (try clear hk); (try clear hi)))
   go_meet
   case rel => exact ⟨_, (decide ((l2.length : Int) > 30)), (by first | rfl | (simp; done) | (simp [*]; done) | (simp [isEmpty_bne]; done)), H', ⟨by first | omega | exact Nat.le_refl _⟩, ⟨by repeat (first | (with_reducible first | exact HB.out | apply below_alloc | apply pw_below_drewN | apply below_drew1) | exact HB.out)⟩⟩
  ·
   replace c6 := Bool.eq_false_iff.mpr c6
   subst c6
   have H1 : (armadalaw16_GraphTells.j0 k l0 a1 l2 true) = some r := by rw [if_neg (show ¬ (false = true) by decide)] at H; exact H
   clear H
   have H := H1
   clear H1
   have H' := Aside0.mk H
   clear H
   go_wp2_with (first | ((with_reducible refine gate_callee (f := 8) rfl ?_); refine goesL_ (some 12) rfl rfl Tryz.func8 (by kernel_rfl) rfl #[.slice A0 l0.length c0] rfl (by (try simp only [List.map_toArray, List.map_cons, List.map_nil]); first | done | rfl | (simp only [List.length_drop, List.length_take]; rfl)) ?_; (with_reducible refine (armadaref16_Small.calls k _ _ l0 false _ ?side1 ?side2 A5.out).mono ?_); (case side1 => repeat (first | exact (Kd.C_below HR0.out HB.out) | (with_reducible refine Kd.C_alloc ?_ _) | (with_reducible refine Kd.C_drewN ?_ _) | (with_reducible refine Kd.C_drew ?_))); (case side2 => exact HC0.out); rintro e w8 ⟨rfl, hb⟩; refine ⟨_, rfl, ?_⟩; have n0_ := Aside0.mk (below_step (by repeat (first | (with_reducible first | exact HB.out | apply below_alloc | apply pw_below_drewN | apply below_drew1) | exact HB.out)) hb); clear HB; have HB := n0_; clear n0_; (try clear hb); (try clear hb2); (try clear hk); (try clear hi)))
   go_meet
   case rel => exact ⟨_, (true), (by first | rfl | (simp; done) | (simp [*]; done) | (simp [isEmpty_bne]; done)), H', ⟨by first | omega | exact Nat.le_refl _⟩, ⟨by repeat (first | (with_reducible first | exact HB.out | apply below_alloc | apply pw_below_drewN | apply below_drew1) | exact HB.out)⟩⟩
 case rest =>
  clear HC4
  try clear c2
  try clear p2
  try clear c3
  try clear c6
  try clear c8
  obtain ⟨kq, x18_3, rfl, HA, HJ3, HB⟩ := hcut
  cases kq with
  | zero => exact absurd HA.out (by simp [armadalaw16_GraphTells.j0])
  | succ kj3 =>
   have H := HA.out
   clear HA
   simp only [armadalaw16_GraphTells.j0] at H
   by_cases c9 : x18_3 = true
   ·
    subst c9
    have H1 : ((armadalaw16_live.f).bind fun t102 => (some t102)) = some r := by rw [if_pos rfl] at H; exact H
    clear H
    have H := H1
    clear H1
    replace H := Option.bind_eq_some_iff.mp H
    obtain ⟨t102, A100, H⟩ := H
    replace H : (some t102) = some r := H
    have A10 := Aside0.mk A100
    clear A100
    obtain rfl := Option.some.inj H
    go_wp2_with (first | ((with_reducible refine gate_callee (f := 9) rfl ?_); refine goesL_ (some 19) rfl rfl Tryz.func9 (by kernel_rfl) rfl #[] rfl (by (try simp only [List.map_toArray, List.map_cons, List.map_nil]); first | done | rfl | (simp only [List.length_drop, List.length_take]; rfl)) ?_; (with_reducible refine (armadalaw16_live.calls  t102 _ ?side1 A10.out).mono ?_); (case side1 => exact GW.below HGW.out (by repeat (first | (with_reducible first | exact HB.out | apply below_alloc | apply pw_below_drewN | apply below_drew1) | exact HB.out))); rintro e w11 ⟨rfl, hb⟩; refine ⟨_, rfl, ?_⟩; have n0_ := Aside0.mk (below_step (by repeat (first | (with_reducible first | exact HB.out | apply below_alloc | apply pw_below_drewN | apply below_drew1) | exact HB.out)) hb); clear HB; have HB := n0_; clear n0_; (try clear hb); (try clear hb2); (try clear hk); (try clear hi)))
    go_ret
    exact ⟨by first | rfl | (simp [errW_none, errW_some] <;> rfl) | (simp [*, errW_none, errW_some] <;> rfl) | (simp [isEmpty_bne]; done), by repeat (first | (with_reducible first | exact HB.out | apply below_alloc | apply pw_below_drewN | apply below_drew1) | exact HB.out)⟩
   ·
    replace c9 := Bool.eq_false_iff.mpr c9
    subst c9
    have H1 : ((graph_Order.f l0).bind fun bt103 => ((armadaref16_Order.f kj3 l0).bind fun bt107 => ((graph_Check.f l0).bind fun t111 => ((armadaref16_Check.f kj3 l0).bind fun t112 => (if t111 = t112 then ((graph_Edges.f l0 a1).bind fun t113 => ((armadaref16_Edges.f kj3 l0 a1).bind fun t116 => ((armadaref16_Same.f kj3 t113 t116).bind fun t119 => (if t119 = true then ((graph_Cyclic.f l0).bind fun t120 => ((armadaref16_Cyclic.f kj3 l0).bind fun t123 => ((armadaref16_Same.f kj3 t120 t123).bind fun t126 => (if t126 = true then ((armadaref16_Same.f kj3 bt103.1 bt107.1).bind fun t127 => (if t127 = true then (if bt103.2 = bt107.2 then ((graph_Up.f l0 l2).bind fun t128 => ((armadaref16_Up.f kj3 l0 l2).bind fun t131 => ((armadaref16_Same.f kj3 t128 t131).bind fun t134 => (if t134 = true then ((armadalaw16_live.f).bind fun t135 => (some t135)) else (some false))))) else (some false)) else (some false))) else (some false))))) else (some false))))) else (some false)))))) = some r := by rw [if_neg (show ¬ (false = true) by decide)] at H; exact H
    clear H
    have H := H1
    clear H1
    replace H := Option.bind_eq_some_iff.mp H
    obtain ⟨⟨t103, t104⟩, A120, H⟩ := H
    replace H : ((armadaref16_Order.f kj3 l0).bind fun bt107 => ((graph_Check.f l0).bind fun t111 => ((armadaref16_Check.f kj3 l0).bind fun t112 => (if t111 = t112 then ((graph_Edges.f l0 a1).bind fun t113 => ((armadaref16_Edges.f kj3 l0 a1).bind fun t116 => ((armadaref16_Same.f kj3 t113 t116).bind fun t119 => (if t119 = true then ((graph_Cyclic.f l0).bind fun t120 => ((armadaref16_Cyclic.f kj3 l0).bind fun t123 => ((armadaref16_Same.f kj3 t120 t123).bind fun t126 => (if t126 = true then ((armadaref16_Same.f kj3 t103 bt107.1).bind fun t127 => (if t127 = true then (if t104 = bt107.2 then ((graph_Up.f l0 l2).bind fun t128 => ((armadaref16_Up.f kj3 l0 l2).bind fun t131 => ((armadaref16_Same.f kj3 t128 t131).bind fun t134 => (if t134 = true then ((armadalaw16_live.f).bind fun t135 => (some t135)) else (some false))))) else (some false)) else (some false))) else (some false))))) else (some false))))) else (some false))))) = some r := H
    have A12 := Aside0.mk A120
    clear A120
    replace H := Option.bind_eq_some_iff.mp H
    obtain ⟨⟨t107, t108⟩, A130, H⟩ := H
    replace H : ((graph_Check.f l0).bind fun t111 => ((armadaref16_Check.f kj3 l0).bind fun t112 => (if t111 = t112 then ((graph_Edges.f l0 a1).bind fun t113 => ((armadaref16_Edges.f kj3 l0 a1).bind fun t116 => ((armadaref16_Same.f kj3 t113 t116).bind fun t119 => (if t119 = true then ((graph_Cyclic.f l0).bind fun t120 => ((armadaref16_Cyclic.f kj3 l0).bind fun t123 => ((armadaref16_Same.f kj3 t120 t123).bind fun t126 => (if t126 = true then ((armadaref16_Same.f kj3 t103 t107).bind fun t127 => (if t127 = true then (if t104 = t108 then ((graph_Up.f l0 l2).bind fun t128 => ((armadaref16_Up.f kj3 l0 l2).bind fun t131 => ((armadaref16_Same.f kj3 t128 t131).bind fun t134 => (if t134 = true then ((armadalaw16_live.f).bind fun t135 => (some t135)) else (some false))))) else (some false)) else (some false))) else (some false))))) else (some false))))) else (some false)))) = some r := H
    have A13 := Aside0.mk A130
    clear A130
    replace H := Option.bind_eq_some_iff.mp H
    obtain ⟨t111, A140, H⟩ := H
    replace H : ((armadaref16_Check.f kj3 l0).bind fun t112 => (if t111 = t112 then ((graph_Edges.f l0 a1).bind fun t113 => ((armadaref16_Edges.f kj3 l0 a1).bind fun t116 => ((armadaref16_Same.f kj3 t113 t116).bind fun t119 => (if t119 = true then ((graph_Cyclic.f l0).bind fun t120 => ((armadaref16_Cyclic.f kj3 l0).bind fun t123 => ((armadaref16_Same.f kj3 t120 t123).bind fun t126 => (if t126 = true then ((armadaref16_Same.f kj3 t103 t107).bind fun t127 => (if t127 = true then (if t104 = t108 then ((graph_Up.f l0 l2).bind fun t128 => ((armadaref16_Up.f kj3 l0 l2).bind fun t131 => ((armadaref16_Same.f kj3 t128 t131).bind fun t134 => (if t134 = true then ((armadalaw16_live.f).bind fun t135 => (some t135)) else (some false))))) else (some false)) else (some false))) else (some false))))) else (some false))))) else (some false))) = some r := H
    have A14 := Aside0.mk A140
    clear A140
    replace H := Option.bind_eq_some_iff.mp H
    obtain ⟨t112, A150, H⟩ := H
    replace H : (if t111 = t112 then ((graph_Edges.f l0 a1).bind fun t113 => ((armadaref16_Edges.f kj3 l0 a1).bind fun t116 => ((armadaref16_Same.f kj3 t113 t116).bind fun t119 => (if t119 = true then ((graph_Cyclic.f l0).bind fun t120 => ((armadaref16_Cyclic.f kj3 l0).bind fun t123 => ((armadaref16_Same.f kj3 t120 t123).bind fun t126 => (if t126 = true then ((armadaref16_Same.f kj3 t103 t107).bind fun t127 => (if t127 = true then (if t104 = t108 then ((graph_Up.f l0 l2).bind fun t128 => ((armadaref16_Up.f kj3 l0 l2).bind fun t131 => ((armadaref16_Same.f kj3 t128 t131).bind fun t134 => (if t134 = true then ((armadalaw16_live.f).bind fun t135 => (some t135)) else (some false))))) else (some false)) else (some false))) else (some false))))) else (some false))))) else (some false)) = some r := H
    have A15 := Aside0.mk A150
    clear A150
    by_cases c16 : t111 = t112
    ·
     rw [if_pos c16] at H
     have c16b0 : (t111 == t112) = true := beq_iff_eq.mpr c16
     have c16b1 : (t111 != t112) = false := bne_eq_false_iff_eq.mpr c16
     clear c16
     replace H := Option.bind_eq_some_iff.mp H
     obtain ⟨t113, A170, H⟩ := H
     replace H : ((armadaref16_Edges.f kj3 l0 a1).bind fun t116 => ((armadaref16_Same.f kj3 t113 t116).bind fun t119 => (if t119 = true then ((graph_Cyclic.f l0).bind fun t120 => ((armadaref16_Cyclic.f kj3 l0).bind fun t123 => ((armadaref16_Same.f kj3 t120 t123).bind fun t126 => (if t126 = true then ((armadaref16_Same.f kj3 t103 t107).bind fun t127 => (if t127 = true then (if t104 = t108 then ((graph_Up.f l0 l2).bind fun t128 => ((armadaref16_Up.f kj3 l0 l2).bind fun t131 => ((armadaref16_Same.f kj3 t128 t131).bind fun t134 => (if t134 = true then ((armadalaw16_live.f).bind fun t135 => (some t135)) else (some false))))) else (some false)) else (some false))) else (some false))))) else (some false)))) = some r := H
     have A17 := Aside0.mk A170
     clear A170
     replace H := Option.bind_eq_some_iff.mp H
     obtain ⟨t116, A180, H⟩ := H
     replace H : ((armadaref16_Same.f kj3 t113 t116).bind fun t119 => (if t119 = true then ((graph_Cyclic.f l0).bind fun t120 => ((armadaref16_Cyclic.f kj3 l0).bind fun t123 => ((armadaref16_Same.f kj3 t120 t123).bind fun t126 => (if t126 = true then ((armadaref16_Same.f kj3 t103 t107).bind fun t127 => (if t127 = true then (if t104 = t108 then ((graph_Up.f l0 l2).bind fun t128 => ((armadaref16_Up.f kj3 l0 l2).bind fun t131 => ((armadaref16_Same.f kj3 t128 t131).bind fun t134 => (if t134 = true then ((armadalaw16_live.f).bind fun t135 => (some t135)) else (some false))))) else (some false)) else (some false))) else (some false))))) else (some false))) = some r := H
     have A18 := Aside0.mk A180
     clear A180
     replace H := Option.bind_eq_some_iff.mp H
     obtain ⟨t119, A190, H⟩ := H
     replace H : (if t119 = true then ((graph_Cyclic.f l0).bind fun t120 => ((armadaref16_Cyclic.f kj3 l0).bind fun t123 => ((armadaref16_Same.f kj3 t120 t123).bind fun t126 => (if t126 = true then ((armadaref16_Same.f kj3 t103 t107).bind fun t127 => (if t127 = true then (if t104 = t108 then ((graph_Up.f l0 l2).bind fun t128 => ((armadaref16_Up.f kj3 l0 l2).bind fun t131 => ((armadaref16_Same.f kj3 t128 t131).bind fun t134 => (if t134 = true then ((armadalaw16_live.f).bind fun t135 => (some t135)) else (some false))))) else (some false)) else (some false))) else (some false))))) else (some false)) = some r := H
     have A19 := Aside0.mk A190
     clear A190
     by_cases c20 : t119 = true
     ·
      subst c20
      have H1 : ((graph_Cyclic.f l0).bind fun t120 => ((armadaref16_Cyclic.f kj3 l0).bind fun t123 => ((armadaref16_Same.f kj3 t120 t123).bind fun t126 => (if t126 = true then ((armadaref16_Same.f kj3 t103 t107).bind fun t127 => (if t127 = true then (if t104 = t108 then ((graph_Up.f l0 l2).bind fun t128 => ((armadaref16_Up.f kj3 l0 l2).bind fun t131 => ((armadaref16_Same.f kj3 t128 t131).bind fun t134 => (if t134 = true then ((armadalaw16_live.f).bind fun t135 => (some t135)) else (some false))))) else (some false)) else (some false))) else (some false))))) = some r := by rw [if_pos rfl] at H; exact H
      clear H
      have H := H1
      clear H1
      replace H := Option.bind_eq_some_iff.mp H
      obtain ⟨t120, A210, H⟩ := H
      replace H : ((armadaref16_Cyclic.f kj3 l0).bind fun t123 => ((armadaref16_Same.f kj3 t120 t123).bind fun t126 => (if t126 = true then ((armadaref16_Same.f kj3 t103 t107).bind fun t127 => (if t127 = true then (if t104 = t108 then ((graph_Up.f l0 l2).bind fun t128 => ((armadaref16_Up.f kj3 l0 l2).bind fun t131 => ((armadaref16_Same.f kj3 t128 t131).bind fun t134 => (if t134 = true then ((armadalaw16_live.f).bind fun t135 => (some t135)) else (some false))))) else (some false)) else (some false))) else (some false)))) = some r := H
      have A21 := Aside0.mk A210
      clear A210
      replace H := Option.bind_eq_some_iff.mp H
      obtain ⟨t123, A220, H⟩ := H
      replace H : ((armadaref16_Same.f kj3 t120 t123).bind fun t126 => (if t126 = true then ((armadaref16_Same.f kj3 t103 t107).bind fun t127 => (if t127 = true then (if t104 = t108 then ((graph_Up.f l0 l2).bind fun t128 => ((armadaref16_Up.f kj3 l0 l2).bind fun t131 => ((armadaref16_Same.f kj3 t128 t131).bind fun t134 => (if t134 = true then ((armadalaw16_live.f).bind fun t135 => (some t135)) else (some false))))) else (some false)) else (some false))) else (some false))) = some r := H
      have A22 := Aside0.mk A220
      clear A220
      replace H := Option.bind_eq_some_iff.mp H
      obtain ⟨t126, A230, H⟩ := H
      replace H : (if t126 = true then ((armadaref16_Same.f kj3 t103 t107).bind fun t127 => (if t127 = true then (if t104 = t108 then ((graph_Up.f l0 l2).bind fun t128 => ((armadaref16_Up.f kj3 l0 l2).bind fun t131 => ((armadaref16_Same.f kj3 t128 t131).bind fun t134 => (if t134 = true then ((armadalaw16_live.f).bind fun t135 => (some t135)) else (some false))))) else (some false)) else (some false))) else (some false)) = some r := H
      have A23 := Aside0.mk A230
      clear A230
      by_cases c24 : t126 = true
      ·
       subst c24
       have H1 : ((armadaref16_Same.f kj3 t103 t107).bind fun t127 => (if t127 = true then (if t104 = t108 then ((graph_Up.f l0 l2).bind fun t128 => ((armadaref16_Up.f kj3 l0 l2).bind fun t131 => ((armadaref16_Same.f kj3 t128 t131).bind fun t134 => (if t134 = true then ((armadalaw16_live.f).bind fun t135 => (some t135)) else (some false))))) else (some false)) else (some false))) = some r := by rw [if_pos rfl] at H; exact H
       clear H
       have H := H1
       clear H1
       replace H := Option.bind_eq_some_iff.mp H
       obtain ⟨t127, A250, H⟩ := H
       replace H : (if t127 = true then (if t104 = t108 then ((graph_Up.f l0 l2).bind fun t128 => ((armadaref16_Up.f kj3 l0 l2).bind fun t131 => ((armadaref16_Same.f kj3 t128 t131).bind fun t134 => (if t134 = true then ((armadalaw16_live.f).bind fun t135 => (some t135)) else (some false))))) else (some false)) else (some false)) = some r := H
       have A25 := Aside0.mk A250
       clear A250
       by_cases c26 : t127 = true
       ·
        subst c26
        have H1 : (if t104 = t108 then ((graph_Up.f l0 l2).bind fun t128 => ((armadaref16_Up.f kj3 l0 l2).bind fun t131 => ((armadaref16_Same.f kj3 t128 t131).bind fun t134 => (if t134 = true then ((armadalaw16_live.f).bind fun t135 => (some t135)) else (some false))))) else (some false)) = some r := by rw [if_pos rfl] at H; exact H
        clear H
        have H := H1
        clear H1
        by_cases c27 : t104 = t108
        ·
         rw [if_pos c27] at H
         have c27b0 : (t104 == t108) = true := beq_iff_eq.mpr c27
         have c27b1 : (t104 != t108) = false := bne_eq_false_iff_eq.mpr c27
         clear c27
         replace H := Option.bind_eq_some_iff.mp H
         obtain ⟨t128, A280, H⟩ := H
         replace H : ((armadaref16_Up.f kj3 l0 l2).bind fun t131 => ((armadaref16_Same.f kj3 t128 t131).bind fun t134 => (if t134 = true then ((armadalaw16_live.f).bind fun t135 => (some t135)) else (some false)))) = some r := H
         have A28 := Aside0.mk A280
         clear A280
         replace H := Option.bind_eq_some_iff.mp H
         obtain ⟨t131, A290, H⟩ := H
         replace H : ((armadaref16_Same.f kj3 t128 t131).bind fun t134 => (if t134 = true then ((armadalaw16_live.f).bind fun t135 => (some t135)) else (some false))) = some r := H
         have A29 := Aside0.mk A290
         clear A290
         replace H := Option.bind_eq_some_iff.mp H
         obtain ⟨t134, A300, H⟩ := H
         replace H : (if t134 = true then ((armadalaw16_live.f).bind fun t135 => (some t135)) else (some false)) = some r := H
         have A30 := Aside0.mk A300
         clear A300
         by_cases c31 : t134 = true
         ·
          subst c31
          have H1 : ((armadalaw16_live.f).bind fun t135 => (some t135)) = some r := by rw [if_pos rfl] at H; exact H
          clear H
          have H := H1
          clear H1
          replace H := Option.bind_eq_some_iff.mp H
          obtain ⟨t135, A320, H⟩ := H
          replace H : (some t135) = some r := H
          have A32 := Aside0.mk A320
          clear A320
          obtain rfl := Option.some.inj H
          go_wp2_with (first | ((with_reducible refine gate_callee (f := 10) rfl ?_); refine goesL_ (some 22) rfl rfl Tryz.func10 (by kernel_rfl) rfl #[.slice A0 l0.length c0] rfl (by (try simp only [List.map_toArray, List.map_cons, List.map_nil]); first | done | rfl | (simp only [List.length_drop, List.length_take]; rfl)) ?_; (with_reducible refine (graph_Order.calls _ _ l0 t103 t104 _ ?side1 ?side2 ?side3 A12.out).mono ?_); (case side1 => repeat (first | exact (Kd.C_below HR0.out HB.out) | (with_reducible refine Kd.C_alloc ?_ _) | (with_reducible refine Kd.C_drewN ?_ _) | (with_reducible refine Kd.C_drew ?_))); (case side2 => exact HC0.out); (case side3 => exact GW.below HGW.out (by repeat (first | (with_reducible first | exact HB.out | apply below_alloc | apply pw_below_drewN | apply below_drew1) | exact HB.out))); rintro e w33 ⟨v105, rfl, ho0, hb⟩; refine ⟨_, rfl, ?_⟩; have n0_ := Aside0.mk (Kd.R_lower ho0 (below_size (by repeat (first | (with_reducible first | exact HB.out | apply below_alloc | apply pw_below_drewN | apply below_drew1) | exact HB.out)))); have n1_ := Aside0.mk (below_step (by repeat (first | (with_reducible first | exact HB.out | apply below_alloc | apply pw_below_drewN | apply below_drew1) | exact HB.out)) hb); clear HB; have HO106 := n0_; have HB := n1_; clear n0_ n1_; (try clear hb); (try clear hb2); (try clear hk); (try clear hi); (try clear ho0)) | ((with_reducible refine gate_callee (f := 11) rfl ?_); refine goesL_ (some 27) rfl rfl Tryz.func11 (by kernel_rfl) rfl #[.slice A0 l0.length c0] rfl (by (try simp only [List.map_toArray, List.map_cons, List.map_nil]); first | done | rfl | (simp only [List.length_drop, List.length_take]; rfl)) ?_; (with_reducible refine (armadaref16_Order.calls kj3 _ _ l0 t107 t108 _ ?side1 ?side2 A13.out).mono ?_); (case side1 => repeat (first | exact (Kd.C_below HR0.out HB.out) | (with_reducible refine Kd.C_alloc ?_ _) | (with_reducible refine Kd.C_drewN ?_ _) | (with_reducible refine Kd.C_drew ?_))); (case side2 => exact HC0.out); rintro e w34 ⟨v109, rfl, ho0, hb⟩; refine ⟨_, rfl, ?_⟩; have n0_ := Aside0.mk (Kd.R_elder' (by (with_reducible repeat (first | apply Kd.R_alloc | apply Kd.R_drewN | apply Kd.R_drew)); exact HO106.out) (Kd.R_base ho0) hb); have n1_ := Aside0.mk (Kd.R_lower (Kd.R_new' ho0 (Kd.R_lt (by (with_reducible repeat (first | apply Kd.R_alloc | apply Kd.R_drewN | apply Kd.R_drew)); exact HO106.out))) (below_size (by repeat (first | (with_reducible first | exact HB.out | apply below_alloc | apply pw_below_drewN | apply below_drew1) | exact HB.out)))); have n2_ := Aside0.mk (below_step (by repeat (first | (with_reducible first | exact HB.out | apply below_alloc | apply pw_below_drewN | apply below_drew1) | exact HB.out)) hb); clear HO106; clear HB; have HO106 := n0_; have HO110 := n1_; have HB := n2_; clear n0_ n1_ n2_; (try clear hb); (try clear hb2); (try clear hk); (try clear hi); (try clear ho0)) | ((with_reducible refine gate_callee (f := 12) rfl ?_); refine goesL_ (some 31) rfl rfl Tryz.func12 (by kernel_rfl) rfl #[.slice A0 l0.length c0] rfl (by (try simp only [List.map_toArray, List.map_cons, List.map_nil]); first | done | rfl | (simp only [List.length_drop, List.length_take]; rfl)) ?_; (with_reducible refine (graph_Check.calls _ _ l0 t111 _ ?side1 ?side2 ?side3 A14.out).mono ?_); (case side1 => repeat (first | exact (Kd.C_below HR0.out HB.out) | (with_reducible refine Kd.C_alloc ?_ _) | (with_reducible refine Kd.C_drewN ?_ _) | (with_reducible refine Kd.C_drew ?_))); (case side2 => exact HC0.out); (case side3 => exact GW.below HGW.out (by repeat (first | (with_reducible first | exact HB.out | apply below_alloc | apply pw_below_drewN | apply below_drew1) | exact HB.out))); rintro e w35 ⟨rfl, hb⟩; refine ⟨_, rfl, ?_⟩; have n0_ := Aside0.mk (Kd.R_below (by (with_reducible repeat (first | apply Kd.R_alloc | apply Kd.R_drewN | apply Kd.R_drew)); exact HO106.out) hb); have n1_ := Aside0.mk (Kd.R_below (by (with_reducible repeat (first | apply Kd.R_alloc | apply Kd.R_drewN | apply Kd.R_drew)); exact HO110.out) hb); have n2_ := Aside0.mk (below_step (by repeat (first | (with_reducible first | exact HB.out | apply below_alloc | apply pw_below_drewN | apply below_drew1) | exact HB.out)) hb); clear HO106; clear HO110; clear HB; have HO106 := n0_; have HO110 := n1_; have HB := n2_; clear n0_ n1_ n2_; (try clear hb); (try clear hb2); (try clear hk); (try clear hi)) | ((with_reducible refine gate_callee (f := 13) rfl ?_); refine goesL_ (some 33) rfl rfl Tryz.func13 (by kernel_rfl) rfl #[.slice A0 l0.length c0] rfl (by (try simp only [List.map_toArray, List.map_cons, List.map_nil]); first | done | rfl | (simp only [List.length_drop, List.length_take]; rfl)) ?_; (with_reducible refine (armadaref16_Check.calls kj3 _ _ l0 t112 _ ?side1 ?side2 A15.out).mono ?_); (case side1 => repeat (first | exact (Kd.C_below HR0.out HB.out) | (with_reducible refine Kd.C_alloc ?_ _) | (with_reducible refine Kd.C_drewN ?_ _) | (with_reducible refine Kd.C_drew ?_))); (case side2 => exact HC0.out); rintro e w36 ⟨rfl, hb⟩; refine ⟨_, rfl, ?_⟩; have n0_ := Aside0.mk (Kd.R_below (by (with_reducible repeat (first | apply Kd.R_alloc | apply Kd.R_drewN | apply Kd.R_drew)); exact HO106.out) hb); have n1_ := Aside0.mk (Kd.R_below (by (with_reducible repeat (first | apply Kd.R_alloc | apply Kd.R_drewN | apply Kd.R_drew)); exact HO110.out) hb); have n2_ := Aside0.mk (below_step (by repeat (first | (with_reducible first | exact HB.out | apply below_alloc | apply pw_below_drewN | apply below_drew1) | exact HB.out)) hb); clear HO106; clear HO110; clear HB; have HO106 := n0_; have HO110 := n1_; have HB := n2_; clear n0_ n1_ n2_; (try clear hb); (try clear hb2); (try clear hk); (try clear hi)) | (go_at_call 15; (with_reducible refine (graph_Edges.calls _ _ l0 a1 t113 _ ?side1 ?side2 ?side3 A17.out).mono ?_); (case side1 => repeat (first | exact (Kd.C_below HR0.out HB.out) | (with_reducible refine Kd.C_alloc ?_ _) | (with_reducible refine Kd.C_drewN ?_ _) | (with_reducible refine Kd.C_drew ?_))); (case side2 => exact HC0.out); (case side3 => exact GW.below HGW.out (by repeat (first | (with_reducible first | exact HB.out | apply below_alloc | apply pw_below_drewN | apply below_drew1) | exact HB.out))); rintro e w37 ⟨v114, rfl, ho0, hb⟩; have n0_ := Aside0.mk (Kd.R_elder' (by (with_reducible repeat (first | apply Kd.R_alloc | apply Kd.R_drewN | apply Kd.R_drew)); exact HO106.out) (Kd.R_base ho0) hb); have n1_ := Aside0.mk (Kd.R_elder' (by (with_reducible repeat (first | apply Kd.R_alloc | apply Kd.R_drewN | apply Kd.R_drew)); exact HO110.out) (Kd.R_base ho0) hb); have n2_ := Aside0.mk (Kd.R_lower (Kd.R_new' (Kd.R_new' ho0 (Kd.R_lt (by (with_reducible repeat (first | apply Kd.R_alloc | apply Kd.R_drewN | apply Kd.R_drew)); exact HO106.out))) (Kd.R_lt (by (with_reducible repeat (first | apply Kd.R_alloc | apply Kd.R_drewN | apply Kd.R_drew)); exact HO110.out))) (below_size (by repeat (first | (with_reducible first | exact HB.out | apply below_alloc | apply pw_below_drewN | apply below_drew1) | exact HB.out)))); have n3_ := Aside0.mk (below_step (by repeat (first | (with_reducible first | exact HB.out | apply below_alloc | apply pw_below_drewN | apply below_drew1) | exact HB.out)) hb); clear HO106; clear HO110; clear HB; have HO106 := n0_; have HO110 := n1_; have HO115 := n2_; have HB := n3_; clear n0_ n1_ n2_ n3_; (try clear hb); (try clear hb2); (try clear hk); (try clear hi); (try clear ho0)) | (go_at_call 16; (with_reducible refine (armadaref16_Edges.calls kj3 _ _ l0 a1 t116 _ ?side1 ?side2 A18.out).mono ?_); (case side1 => repeat (first | exact (Kd.C_below HR0.out HB.out) | (with_reducible refine Kd.C_alloc ?_ _) | (with_reducible refine Kd.C_drewN ?_ _) | (with_reducible refine Kd.C_drew ?_))); (case side2 => exact HC0.out); rintro e w38 ⟨v117, rfl, ho0, hb⟩; have n0_ := Aside0.mk (Kd.R_elder' (by (with_reducible repeat (first | apply Kd.R_alloc | apply Kd.R_drewN | apply Kd.R_drew)); exact HO106.out) (Kd.R_base ho0) hb); have n1_ := Aside0.mk (Kd.R_elder' (by (with_reducible repeat (first | apply Kd.R_alloc | apply Kd.R_drewN | apply Kd.R_drew)); exact HO110.out) (Kd.R_base ho0) hb); have n2_ := Aside0.mk (Kd.R_elder' (by (with_reducible repeat (first | apply Kd.R_alloc | apply Kd.R_drewN | apply Kd.R_drew)); exact HO115.out) (Kd.R_base ho0) hb); have n3_ := Aside0.mk (Kd.R_lower (Kd.R_new' (Kd.R_new' (Kd.R_new' ho0 (Kd.R_lt (by (with_reducible repeat (first | apply Kd.R_alloc | apply Kd.R_drewN | apply Kd.R_drew)); exact HO106.out))) (Kd.R_lt (by (with_reducible repeat (first | apply Kd.R_alloc | apply Kd.R_drewN | apply Kd.R_drew)); exact HO110.out))) (Kd.R_lt (by (with_reducible repeat (first | apply Kd.R_alloc | apply Kd.R_drewN | apply Kd.R_drew)); exact HO115.out))) (below_size (by repeat (first | (with_reducible first | exact HB.out | apply below_alloc | apply pw_below_drewN | apply below_drew1) | exact HB.out)))); have n4_ := Aside0.mk (below_step (by repeat (first | (with_reducible first | exact HB.out | apply below_alloc | apply pw_below_drewN | apply below_drew1) | exact HB.out)) hb); clear HO106; clear HO110; clear HO115; clear HB; have HO106 := n0_; have HO110 := n1_; have HO115 := n2_; have HO118 := n3_; have HB := n4_; clear n0_ n1_ n2_ n3_ n4_; (try clear hb); (try clear hb2); (try clear hk); (try clear hi); (try clear ho0); obtain ⟨Ao39, co39, eo39⟩ := Kd.R_slice HO115.out; subst eo39; obtain ⟨Ao40, co40, eo40⟩ := Kd.R_slice HO118.out; subst eo40) | (go_at_call 14; (with_reducible refine (armadaref16_Same.calls kj3 _ _ t113 _ _ t116 true _ ?side1 ?side2 ?side3 ?side4 A19.out).mono ?_); (case side1 => repeat (first | exact (Kd.R_reads' HO115.out).2.2 | (with_reducible refine Kd.C_alloc ?_ _) | (with_reducible refine Kd.C_drewN ?_ _) | (with_reducible refine Kd.C_drew ?_))); (case side2 => exact (Kd.R_reads' HO115.out).2.1); (case side3 => repeat (first | exact (Kd.R_reads' HO118.out).2.2 | (with_reducible refine Kd.C_alloc ?_ _) | (with_reducible refine Kd.C_drewN ?_ _) | (with_reducible refine Kd.C_drew ?_))); (case side4 => exact (Kd.R_reads' HO118.out).2.1); rintro e w' ⟨rfl, ⟨nd, rfl⟩⟩) | (go_at_call 17; (with_reducible refine (graph_Cyclic.calls _ _ l0 t120 _ ?side1 ?side2 ?side3 A21.out).mono ?_); (case side1 => repeat (first | exact (Kd.C_below HR0.out (by repeat (first | (with_reducible first | exact HB.out | apply below_alloc | apply pw_below_drewN | apply below_drew1) | exact HB.out))) | (with_reducible refine Kd.C_alloc ?_ _) | (with_reducible refine Kd.C_drewN ?_ _) | (with_reducible refine Kd.C_drew ?_))); (case side2 => exact HC0.out); (case side3 => exact GW.below HGW.out (by repeat (first | (with_reducible first | exact HB.out | apply below_alloc | apply pw_below_drewN | apply below_drew1) | exact HB.out))); rintro e w41 ⟨v121, rfl, ho0, hb⟩; have n0_ := Aside0.mk (Kd.R_elder' (by (with_reducible repeat (first | apply Kd.R_alloc | apply Kd.R_drewN | apply Kd.R_drew)); exact HO106.out) (Kd.R_base ho0) hb); have n1_ := Aside0.mk (Kd.R_elder' (by (with_reducible repeat (first | apply Kd.R_alloc | apply Kd.R_drewN | apply Kd.R_drew)); exact HO110.out) (Kd.R_base ho0) hb); have n2_ := Aside0.mk (Kd.R_elder' (by (with_reducible repeat (first | apply Kd.R_alloc | apply Kd.R_drewN | apply Kd.R_drew)); exact HO115.out) (Kd.R_base ho0) hb); have n3_ := Aside0.mk (Kd.R_elder' (by (with_reducible repeat (first | apply Kd.R_alloc | apply Kd.R_drewN | apply Kd.R_drew)); exact HO118.out) (Kd.R_base ho0) hb); have n4_ := Aside0.mk (Kd.R_lower (Kd.R_new' (Kd.R_new' (Kd.R_new' (Kd.R_new' ho0 (Kd.R_lt (by (with_reducible repeat (first | apply Kd.R_alloc | apply Kd.R_drewN | apply Kd.R_drew)); exact HO106.out))) (Kd.R_lt (by (with_reducible repeat (first | apply Kd.R_alloc | apply Kd.R_drewN | apply Kd.R_drew)); exact HO110.out))) (Kd.R_lt (by (with_reducible repeat (first | apply Kd.R_alloc | apply Kd.R_drewN | apply Kd.R_drew)); exact HO115.out))) (Kd.R_lt (by (with_reducible repeat (first | apply Kd.R_alloc | apply Kd.R_drewN | apply Kd.R_drew)); exact HO118.out))) (below_size (by repeat (first | (with_reducible first | exact HB.out | apply below_alloc | apply pw_below_drewN | apply below_drew1) | exact HB.out)))); have n5_ := Aside0.mk (below_step (by repeat (first | (with_reducible first | exact HB.out | apply below_alloc | apply pw_below_drewN | apply below_drew1) | exact HB.out)) hb); clear HO106; clear HO110; clear HO115; clear HO118; clear HB; have HO106 := n0_; have HO110 := n1_; have HO115 := n2_; have HO118 := n3_; have HO122 := n4_; have HB := n5_; clear n0_ n1_ n2_ n3_ n4_ n5_; (try clear hb); (try clear hb2); (try clear hk); (try clear hi); (try clear ho0)) | (go_at_call 18; (with_reducible refine (armadaref16_Cyclic.calls kj3 _ _ l0 t123 _ ?side1 ?side2 A22.out).mono ?_); (case side1 => repeat (first | exact (Kd.C_below HR0.out HB.out) | (with_reducible refine Kd.C_alloc ?_ _) | (with_reducible refine Kd.C_drewN ?_ _) | (with_reducible refine Kd.C_drew ?_))); (case side2 => exact HC0.out); rintro e w42 ⟨v124, rfl, ho0, hb⟩; have n0_ := Aside0.mk (Kd.R_elder' (by (with_reducible repeat (first | apply Kd.R_alloc | apply Kd.R_drewN | apply Kd.R_drew)); exact HO106.out) (Kd.R_base ho0) hb); have n1_ := Aside0.mk (Kd.R_elder' (by (with_reducible repeat (first | apply Kd.R_alloc | apply Kd.R_drewN | apply Kd.R_drew)); exact HO110.out) (Kd.R_base ho0) hb); have n2_ := Aside0.mk (Kd.R_elder' (by (with_reducible repeat (first | apply Kd.R_alloc | apply Kd.R_drewN | apply Kd.R_drew)); exact HO115.out) (Kd.R_base ho0) hb); have n3_ := Aside0.mk (Kd.R_elder' (by (with_reducible repeat (first | apply Kd.R_alloc | apply Kd.R_drewN | apply Kd.R_drew)); exact HO118.out) (Kd.R_base ho0) hb); have n4_ := Aside0.mk (Kd.R_elder' (by (with_reducible repeat (first | apply Kd.R_alloc | apply Kd.R_drewN | apply Kd.R_drew)); exact HO122.out) (Kd.R_base ho0) hb); have n5_ := Aside0.mk (Kd.R_lower (Kd.R_new' (Kd.R_new' (Kd.R_new' (Kd.R_new' (Kd.R_new' ho0 (Kd.R_lt (by (with_reducible repeat (first | apply Kd.R_alloc | apply Kd.R_drewN | apply Kd.R_drew)); exact HO106.out))) (Kd.R_lt (by (with_reducible repeat (first | apply Kd.R_alloc | apply Kd.R_drewN | apply Kd.R_drew)); exact HO110.out))) (Kd.R_lt (by (with_reducible repeat (first | apply Kd.R_alloc | apply Kd.R_drewN | apply Kd.R_drew)); exact HO115.out))) (Kd.R_lt (by (with_reducible repeat (first | apply Kd.R_alloc | apply Kd.R_drewN | apply Kd.R_drew)); exact HO118.out))) (Kd.R_lt (by (with_reducible repeat (first | apply Kd.R_alloc | apply Kd.R_drewN | apply Kd.R_drew)); exact HO122.out))) (below_size (by repeat (first | (with_reducible first | exact HB.out | apply below_alloc | apply pw_below_drewN | apply below_drew1) | exact HB.out)))); have n6_ := Aside0.mk (below_step (by repeat (first | (with_reducible first | exact HB.out | apply below_alloc | apply pw_below_drewN | apply below_drew1) | exact HB.out)) hb); clear HO106; clear HO110; clear HO115; clear HO118; clear HO122; clear HB; have HO106 := n0_; have HO110 := n1_; have HO115 := n2_; have HO118 := n3_; have HO122 := n4_; have HO125 := n5_; have HB := n6_; clear n0_ n1_ n2_ n3_ n4_ n5_ n6_; (try clear hb); (try clear hb2); (try clear hk); (try clear hi); (try clear ho0); obtain ⟨Ao43, co43, eo43⟩ := Kd.R_slice HO122.out; subst eo43; obtain ⟨Ao44, co44, eo44⟩ := Kd.R_slice HO125.out; subst eo44) | (go_at_call 14; (with_reducible refine (armadaref16_Same.calls kj3 _ _ t120 _ _ t123 true _ ?side1 ?side2 ?side3 ?side4 A23.out).mono ?_); (case side1 => repeat (first | exact (Kd.R_reads' HO122.out).2.2 | (with_reducible refine Kd.C_alloc ?_ _) | (with_reducible refine Kd.C_drewN ?_ _) | (with_reducible refine Kd.C_drew ?_))); (case side2 => exact (Kd.R_reads' HO122.out).2.1); (case side3 => repeat (first | exact (Kd.R_reads' HO125.out).2.2 | (with_reducible refine Kd.C_alloc ?_ _) | (with_reducible refine Kd.C_drewN ?_ _) | (with_reducible refine Kd.C_drew ?_))); (case side4 => exact (Kd.R_reads' HO125.out).2.1); rintro e w' ⟨rfl, ⟨nd, rfl⟩⟩; obtain ⟨Ao45, co45, eo45⟩ := Kd.R_slice HO106.out; subst eo45; obtain ⟨Ao46, co46, eo46⟩ := Kd.R_slice HO110.out; subst eo46) | (go_at_call 14; (with_reducible refine (armadaref16_Same.calls kj3 _ _ t103 _ _ t107 true _ ?side1 ?side2 ?side3 ?side4 A25.out).mono ?_); (case side1 => repeat (first | exact (Kd.R_reads' HO106.out).2.2 | (with_reducible refine Kd.C_alloc ?_ _) | (with_reducible refine Kd.C_drewN ?_ _) | (with_reducible refine Kd.C_drew ?_))); (case side2 => exact (Kd.R_reads' HO106.out).2.1); (case side3 => repeat (first | exact (Kd.R_reads' HO110.out).2.2 | (with_reducible refine Kd.C_alloc ?_ _) | (with_reducible refine Kd.C_drewN ?_ _) | (with_reducible refine Kd.C_drew ?_))); (case side4 => exact (Kd.R_reads' HO110.out).2.1); rintro e w' ⟨rfl, ⟨nd, rfl⟩⟩) | (go_at_call 19; (with_reducible refine (graph_Up.calls _ _ l0 _ _ l2 t128 _ ?side1 ?side2 ?side3 ?side4 ?side5 A28.out).mono ?_); (case side1 => repeat (first | exact (Kd.C_below HR0.out (by repeat (first | (with_reducible first | exact HB.out | apply below_alloc | apply pw_below_drewN | apply below_drew1) | exact HB.out))) | (with_reducible refine Kd.C_alloc ?_ _) | (with_reducible refine Kd.C_drewN ?_ _) | (with_reducible refine Kd.C_drew ?_))); (case side2 => exact HC0.out); (case side3 => repeat (first | exact (Kd.C_below HR2.out (by repeat (first | (with_reducible first | exact HB.out | apply below_alloc | apply pw_below_drewN | apply below_drew1) | exact HB.out))) | (with_reducible refine Kd.C_alloc ?_ _) | (with_reducible refine Kd.C_drewN ?_ _) | (with_reducible refine Kd.C_drew ?_))); (case side4 => exact HC2.out); (case side5 => exact GW.below HGW.out (by repeat (first | (with_reducible first | exact HB.out | apply below_alloc | apply pw_below_drewN | apply below_drew1) | exact HB.out))); rintro e w47 ⟨v129, rfl, ho0, hb⟩; have n0_ := Aside0.mk (Kd.R_elder' (by (with_reducible repeat (first | apply Kd.R_alloc | apply Kd.R_drewN | apply Kd.R_drew)); exact HO106.out) (Kd.R_base ho0) hb); have n1_ := Aside0.mk (Kd.R_elder' (by (with_reducible repeat (first | apply Kd.R_alloc | apply Kd.R_drewN | apply Kd.R_drew)); exact HO110.out) (Kd.R_base ho0) hb); have n2_ := Aside0.mk (Kd.R_elder' (by (with_reducible repeat (first | apply Kd.R_alloc | apply Kd.R_drewN | apply Kd.R_drew)); exact HO115.out) (Kd.R_base ho0) hb); have n3_ := Aside0.mk (Kd.R_elder' (by (with_reducible repeat (first | apply Kd.R_alloc | apply Kd.R_drewN | apply Kd.R_drew)); exact HO118.out) (Kd.R_base ho0) hb); have n4_ := Aside0.mk (Kd.R_elder' (by (with_reducible repeat (first | apply Kd.R_alloc | apply Kd.R_drewN | apply Kd.R_drew)); exact HO122.out) (Kd.R_base ho0) hb); have n5_ := Aside0.mk (Kd.R_elder' (by (with_reducible repeat (first | apply Kd.R_alloc | apply Kd.R_drewN | apply Kd.R_drew)); exact HO125.out) (Kd.R_base ho0) hb); have n6_ := Aside0.mk (Kd.R_lower (Kd.R_new' (Kd.R_new' (Kd.R_new' (Kd.R_new' (Kd.R_new' (Kd.R_new' ho0 (Kd.R_lt (by (with_reducible repeat (first | apply Kd.R_alloc | apply Kd.R_drewN | apply Kd.R_drew)); exact HO106.out))) (Kd.R_lt (by (with_reducible repeat (first | apply Kd.R_alloc | apply Kd.R_drewN | apply Kd.R_drew)); exact HO110.out))) (Kd.R_lt (by (with_reducible repeat (first | apply Kd.R_alloc | apply Kd.R_drewN | apply Kd.R_drew)); exact HO115.out))) (Kd.R_lt (by (with_reducible repeat (first | apply Kd.R_alloc | apply Kd.R_drewN | apply Kd.R_drew)); exact HO118.out))) (Kd.R_lt (by (with_reducible repeat (first | apply Kd.R_alloc | apply Kd.R_drewN | apply Kd.R_drew)); exact HO122.out))) (Kd.R_lt (by (with_reducible repeat (first | apply Kd.R_alloc | apply Kd.R_drewN | apply Kd.R_drew)); exact HO125.out))) (below_size (by repeat (first | (with_reducible first | exact HB.out | apply below_alloc | apply pw_below_drewN | apply below_drew1) | exact HB.out)))); have n7_ := Aside0.mk (below_step (by repeat (first | (with_reducible first | exact HB.out | apply below_alloc | apply pw_below_drewN | apply below_drew1) | exact HB.out)) hb); clear HO106; clear HO110; clear HO115; clear HO118; clear HO122; clear HO125; clear HB; have HO106 := n0_; have HO110 := n1_; have HO115 := n2_; have HO118 := n3_; have HO122 := n4_; have HO125 := n5_; have HO130 := n6_; have HB := n7_; clear n0_ n1_ n2_ n3_ n4_ n5_ n6_ n7_; (try clear hb); (try clear hb2); (try clear hk); (try clear hi); (try clear ho0)) | (go_at_call 20; (with_reducible refine (armadaref16_Up.calls kj3 _ _ l0 _ _ l2 t131 _ ?side1 ?side2 ?side3 ?side4 A29.out).mono ?_); (case side1 => repeat (first | exact (Kd.C_below HR0.out HB.out) | (with_reducible refine Kd.C_alloc ?_ _) | (with_reducible refine Kd.C_drewN ?_ _) | (with_reducible refine Kd.C_drew ?_))); (case side2 => exact HC0.out); (case side3 => repeat (first | exact (Kd.C_below HR2.out HB.out) | (with_reducible refine Kd.C_alloc ?_ _) | (with_reducible refine Kd.C_drewN ?_ _) | (with_reducible refine Kd.C_drew ?_))); (case side4 => exact HC2.out); rintro e w48 ⟨v132, rfl, ho0, hb⟩; have n0_ := Aside0.mk (Kd.R_elder' (by (with_reducible repeat (first | apply Kd.R_alloc | apply Kd.R_drewN | apply Kd.R_drew)); exact HO106.out) (Kd.R_base ho0) hb); have n1_ := Aside0.mk (Kd.R_elder' (by (with_reducible repeat (first | apply Kd.R_alloc | apply Kd.R_drewN | apply Kd.R_drew)); exact HO110.out) (Kd.R_base ho0) hb); have n2_ := Aside0.mk (Kd.R_elder' (by (with_reducible repeat (first | apply Kd.R_alloc | apply Kd.R_drewN | apply Kd.R_drew)); exact HO115.out) (Kd.R_base ho0) hb); have n3_ := Aside0.mk (Kd.R_elder' (by (with_reducible repeat (first | apply Kd.R_alloc | apply Kd.R_drewN | apply Kd.R_drew)); exact HO118.out) (Kd.R_base ho0) hb); have n4_ := Aside0.mk (Kd.R_elder' (by (with_reducible repeat (first | apply Kd.R_alloc | apply Kd.R_drewN | apply Kd.R_drew)); exact HO122.out) (Kd.R_base ho0) hb); have n5_ := Aside0.mk (Kd.R_elder' (by (with_reducible repeat (first | apply Kd.R_alloc | apply Kd.R_drewN | apply Kd.R_drew)); exact HO125.out) (Kd.R_base ho0) hb); have n6_ := Aside0.mk (Kd.R_elder' (by (with_reducible repeat (first | apply Kd.R_alloc | apply Kd.R_drewN | apply Kd.R_drew)); exact HO130.out) (Kd.R_base ho0) hb); have n7_ := Aside0.mk (Kd.R_lower (Kd.R_new' (Kd.R_new' (Kd.R_new' (Kd.R_new' (Kd.R_new' (Kd.R_new' (Kd.R_new' ho0 (Kd.R_lt (by (with_reducible repeat (first | apply Kd.R_alloc | apply Kd.R_drewN | apply Kd.R_drew)); exact HO106.out))) (Kd.R_lt (by (with_reducible repeat (first | apply Kd.R_alloc | apply Kd.R_drewN | apply Kd.R_drew)); exact HO110.out))) (Kd.R_lt (by (with_reducible repeat (first | apply Kd.R_alloc | apply Kd.R_drewN | apply Kd.R_drew)); exact HO115.out))) (Kd.R_lt (by (with_reducible repeat (first | apply Kd.R_alloc | apply Kd.R_drewN | apply Kd.R_drew)); exact HO118.out))) (Kd.R_lt (by (with_reducible repeat (first | apply Kd.R_alloc | apply Kd.R_drewN | apply Kd.R_drew)); exact HO122.out))) (Kd.R_lt (by (with_reducible repeat (first | apply Kd.R_alloc | apply Kd.R_drewN | apply Kd.R_drew)); exact HO125.out))) (Kd.R_lt (by (with_reducible repeat (first | apply Kd.R_alloc | apply Kd.R_drewN | apply Kd.R_drew)); exact HO130.out))) (below_size (by repeat (first | (with_reducible first | exact HB.out | apply below_alloc | apply pw_below_drewN | apply below_drew1) | exact HB.out)))); have n8_ := Aside0.mk (below_step (by repeat (first | (with_reducible first | exact HB.out | apply below_alloc | apply pw_below_drewN | apply below_drew1) | exact HB.out)) hb); clear HO106; clear HO110; clear HO115; clear HO118; clear HO122; clear HO125; clear HO130; clear HB; have HO106 := n0_; have HO110 := n1_; have HO115 := n2_; have HO118 := n3_; have HO122 := n4_; have HO125 := n5_; have HO130 := n6_; have HO133 := n7_; have HB := n8_; clear n0_ n1_ n2_ n3_ n4_ n5_ n6_ n7_ n8_; (try clear hb); (try clear hb2); (try clear hk); (try clear hi); (try clear ho0); obtain ⟨Ao49, co49, eo49⟩ := Kd.R_slice HO130.out; subst eo49; obtain ⟨Ao50, co50, eo50⟩ := Kd.R_slice HO133.out; subst eo50) | (go_at_call 14; (with_reducible refine (armadaref16_Same.calls kj3 _ _ t128 _ _ t131 true _ ?side1 ?side2 ?side3 ?side4 A30.out).mono ?_); (case side1 => repeat (first | exact (Kd.R_reads' HO130.out).2.2 | (with_reducible refine Kd.C_alloc ?_ _) | (with_reducible refine Kd.C_drewN ?_ _) | (with_reducible refine Kd.C_drew ?_))); (case side2 => exact (Kd.R_reads' HO130.out).2.1); (case side3 => repeat (first | exact (Kd.R_reads' HO133.out).2.2 | (with_reducible refine Kd.C_alloc ?_ _) | (with_reducible refine Kd.C_drewN ?_ _) | (with_reducible refine Kd.C_drew ?_))); (case side4 => exact (Kd.R_reads' HO133.out).2.1); rintro e w' ⟨rfl, ⟨nd, rfl⟩⟩) | (go_at_call 9; (with_reducible refine (armadalaw16_live.calls  t135 _ ?side1 A32.out).mono ?_); (case side1 => exact GW.below HGW.out (by repeat (first | (with_reducible first | exact HB.out | apply below_alloc | apply pw_below_drewN | apply below_drew1) | exact HB.out))); rintro e w51 ⟨rfl, hb⟩; have n0_ := Aside0.mk (Kd.R_below (by (with_reducible repeat (first | apply Kd.R_alloc | apply Kd.R_drewN | apply Kd.R_drew)); exact HO106.out) hb); have n1_ := Aside0.mk (Kd.R_below (by (with_reducible repeat (first | apply Kd.R_alloc | apply Kd.R_drewN | apply Kd.R_drew)); exact HO110.out) hb); have n2_ := Aside0.mk (Kd.R_below (by (with_reducible repeat (first | apply Kd.R_alloc | apply Kd.R_drewN | apply Kd.R_drew)); exact HO115.out) hb); have n3_ := Aside0.mk (Kd.R_below (by (with_reducible repeat (first | apply Kd.R_alloc | apply Kd.R_drewN | apply Kd.R_drew)); exact HO118.out) hb); have n4_ := Aside0.mk (Kd.R_below (by (with_reducible repeat (first | apply Kd.R_alloc | apply Kd.R_drewN | apply Kd.R_drew)); exact HO122.out) hb); have n5_ := Aside0.mk (Kd.R_below (by (with_reducible repeat (first | apply Kd.R_alloc | apply Kd.R_drewN | apply Kd.R_drew)); exact HO125.out) hb); have n6_ := Aside0.mk (Kd.R_below (by (with_reducible repeat (first | apply Kd.R_alloc | apply Kd.R_drewN | apply Kd.R_drew)); exact HO130.out) hb); have n7_ := Aside0.mk (Kd.R_below (by (with_reducible repeat (first | apply Kd.R_alloc | apply Kd.R_drewN | apply Kd.R_drew)); exact HO133.out) hb); have n8_ := Aside0.mk (below_step (by repeat (first | (with_reducible first | exact HB.out | apply below_alloc | apply pw_below_drewN | apply below_drew1) | exact HB.out)) hb); clear HO106; clear HO110; clear HO115; clear HO118; clear HO122; clear HO125; clear HO130; clear HO133; clear HB; have HO106 := n0_; have HO110 := n1_; have HO115 := n2_; have HO118 := n3_; have HO122 := n4_; have HO125 := n5_; have HO130 := n6_; have HO133 := n7_; have HB := n8_; clear n0_ n1_ n2_ n3_ n4_ n5_ n6_ n7_ n8_; (try clear hb); (try clear hb2); (try clear hk); (try clear hi)))
          go_ret
          exact ⟨by first | rfl | (simp [errW_none, errW_some] <;> rfl) | (simp [*, errW_none, errW_some] <;> rfl) | (simp [isEmpty_bne]; done), by repeat (first | (with_reducible first | exact HB.out | apply below_alloc | apply pw_below_drewN | apply below_drew1) | exact HB.out)⟩
         ·
          replace c31 := Bool.eq_false_iff.mpr c31
          subst c31
          have H1 : (some false) = some r := by rw [if_neg (show ¬ (false = true) by decide)] at H; exact H
          clear H
          have H := H1
          clear H1
          exact absurd ((Option.some.inj H).trans HTRU_.out) (by decide)
        ·
         rw [if_neg c27] at H
         have c27b0 : (t104 == t108) = false := beq_eq_false_iff_ne.mpr c27
         have c27b1 : (t104 != t108) = true := bne_iff_ne.mpr c27
         exact absurd ((Option.some.inj H).trans HTRU_.out) (by decide)
       ·
        replace c26 := Bool.eq_false_iff.mpr c26
        subst c26
        have H1 : (some false) = some r := by rw [if_neg (show ¬ (false = true) by decide)] at H; exact H
        clear H
        have H := H1
        clear H1
        exact absurd ((Option.some.inj H).trans HTRU_.out) (by decide)
      ·
       replace c24 := Bool.eq_false_iff.mpr c24
       subst c24
       have H1 : (some false) = some r := by rw [if_neg (show ¬ (false = true) by decide)] at H; exact H
       clear H
       have H := H1
       clear H1
       exact absurd ((Option.some.inj H).trans HTRU_.out) (by decide)
     ·
      replace c20 := Bool.eq_false_iff.mpr c20
      subst c20
      have H1 : (some false) = some r := by rw [if_neg (show ¬ (false = true) by decide)] at H; exact H
      clear H
      have H := H1
      clear H1
      exact absurd ((Option.some.inj H).trans HTRU_.out) (by decide)
    ·
     rw [if_neg c16] at H
     have c16b0 : (t111 == t112) = false := beq_eq_false_iff_ne.mpr c16
     have c16b1 : (t111 != t112) = true := bne_iff_ne.mpr c16
     exact absurd ((Option.some.inj H).trans HTRU_.out) (by decide)

end Go.Proofs.YtnfiigjignpkaaaGreatDoor.R4
