/- The texts RSx5 in one file, without what these claims do not use (put together by prune2.py). -/
import Derived.Test.YtillhaipemengaaGreatDoorZC34
import Derived.Test.YtillhaipemengaaGreatDoorZC36
section
namespace Go.Proofs.YtillhaipemengaaGreatDoor.RS
open Go.RowKit Go.Proofs.YtillhaipemengaaGreatDoor Go.Proofs.YtillhaipemengaaGreatDoor.K0 Go.Proofs.YtillhaipemengaaGreatDoor.RD Go.Proofs.YtillhaipemengaaGreatDoorW.PrintWords Go.Proofs.YtillhaipemengaaGreatDoorW.PrintLast Go.Proofs.YtillhaipemengaaGreatDoorW.PrintMore
attribute [local go_sem] max2_int min2_int max_two min_two max_three min_three max_four min_four
set_option linter.unusedVariables false
set_option linter.unusedSimpArgs false
mutual
def armadaref16_Edges.j0 : Nat → List (S63) → Int → List Int → Bool → Option (List Int)
 | 0, _, _, _, _ => none
 | k + 1, x0, x1, x5, x19 => if x19 = true then (some x5) else (armadaref16_Edges.l0 k x0 x1 x5 0)
def armadaref16_Edges.l0 : Nat → List (S63) → Int → List Int → Int → Option (List Int)
 | 0, _, _, _, _ => none
 | k + 1, x0, x1, x5, x6 => if x6 < (x0.length : Int) then (if 0 ≤ x1 then (if x1 < (x0.length : Int) then (if 0 ≤ x6 then ((armadaref16_requires.f k ((rd_T63 x0 x1).f0) ((rd_T63 x0 x1).f1) ((rd_T63 x0 x1).f2) ((rd_T63 x0 x6).f1)).bind fun t118 => (if t118 = true then (if x5.length < 17592186044416 then (armadaref16_Edges.l0 k x0 x1 (x5 ++ [x6]) (wrap64 (x6 + 1))) else (none)) else (armadaref16_Edges.l0 k x0 x1 x5 (wrap64 (x6 + 1))))) else (none)) else (none)) else (none)) else (some x5)
end
def armadaref16_Edges.f (k : Nat) (l0 : List (S63)) (a1 : Int) : Option (List Int) := (armadaref16_Check.f k l0).bind fun t115 => (if t115 = 0 then (if a1 < 0 then (armadaref16_Edges.j0 k l0 a1 ([] : List Int) true) else (armadaref16_Edges.j0 k l0 a1 ([] : List Int) (decide (a1 ≥ (l0.length : Int))))) else (armadaref16_Edges.j0 k l0 a1 ([] : List Int) true))
theorem armadaref16_Edges.mono_l : ∀ k, (∀ y0 y1 y2 y3, LeO (armadaref16_Edges.j0 k y0 y1 y2 y3) (armadaref16_Edges.j0 (k + 1) y0 y1 y2 y3)) ∧ (∀ y0 y1 y2 y3, LeO (armadaref16_Edges.l0 k y0 y1 y2 y3) (armadaref16_Edges.l0 (k + 1) y0 y1 y2 y3))
 | 0 => ⟨fun _ _ _ _ r h => by simp [armadaref16_Edges.j0] at h, fun _ _ _ _ r h => by simp [armadaref16_Edges.l0] at h⟩
 | k + 1 => by
  obtain ⟨ih0, ih1⟩ := armadaref16_Edges.mono_l k; refine ⟨?_, ?_⟩
  ·
   intro y0 y1 y2 y3; unfold armadaref16_Edges.j0; have ih2 := @armadaref16_Check.mono; have ih3 := @armadaref16_requires.mono; exact xM
  ·
   intro y0 y1 y2 y3; unfold armadaref16_Edges.l0; have ih2 := @armadaref16_Check.mono; have ih3 := @armadaref16_requires.mono; exact xM
theorem armadaref16_Edges.mono : ∀ a0 a1 k, LeO (armadaref16_Edges.f k a0 a1) (armadaref16_Edges.f (k + 1) a0 a1) := by
 intro a0 a1 k; obtain ⟨ih0, ih1⟩ := armadaref16_Edges.mono_l k; unfold armadaref16_Edges.f; have ih2 := @armadaref16_Check.mono; have ih3 := @armadaref16_requires.mono; exact xM
def armadaref16_Edges.T7 : Bool × List (List Nat × List Nat) := (true, [([], []), ([], []), ([0, 1], [0, 1]), ([2], [2]), ([], []), ([], []), ([4, 5], [4, 5]), ([6], [6]), ([7], [7]), ([3, 8], [3, 8])])
def armadaref16_Edges.B7 : List Nat := [0, 0, 3, 7, 0, 0, 48, 112, 240, 511]
theorem armadaref16_Edges.tab7 : rtab .any (opsOf Tryz.f24 7) = armadaref16_Edges.T7 := by kernel_rfl
theorem armadaref16_Edges.bits7 : waitsOk armadaref16_Edges.T7.2 armadaref16_Edges.B7 = true := by kernel_rfl
set_option maxHeartbeats 8000000 in
set_option maxRecDepth 100000 in
theorem armadaref16_Edges.calls (k : Nat) (A0 : Option Addr) (c0 : Nat) (l0 : List (S63)) (a1 : Int) (r : List Int) (w : World) (hr0 : Kd.C k63 w A0 l0.length l0) (hc0 : l0.length ≤ c0) (h : armadaref16_Edges.f k l0 a1 = some r) :
  Calls Tryz.prog 24 #[.slice A0 l0.length c0, .int .i64 a1] w fun e w' => ∃ v0_ : Value, e = .returned (v0_) ∧ Kd.R (Kd.int .i64) 3 w' w.heap.size (fun _ => True) v0_ r ∧ Below w.heap.size w w' := by
 have hu63 := Tryz.underlying63; have HR0 := Aside0.mk hr0; have HC0 := Aside0.mk hc0; clear hr0 hc0; have HB := Aside0.mk (Below.refl w.heap.size w); have H : ((armadaref16_Check.f k l0).bind fun t115 => (if t115 = 0 then (if a1 < 0 then (armadaref16_Edges.j0 k l0 a1 ([] : List Int) true) else (armadaref16_Edges.j0 k l0 a1 ([] : List Int) (decide (a1 ≥ (l0.length : Int))))) else (armadaref16_Edges.j0 k l0 a1 ([] : List Int) true))) = some r := h; clear h; have HC3 := Aside0.mk H; clear H; go_enter Tryz.func24, Tryz.ntmps24; go_upto_region 2 with (fail)
 go_cut [19] (fun v19 wc => ∃ (kq : Nat) (x19_2 : Bool), v19 = .bool x19_2 ∧ Aside0 (armadaref16_Edges.j0 kq l0 a1 ([] : List Int) x19_2 = some r) ∧ Aside0 (kq ≤ k) ∧ Aside0 (Kd.R (Kd.int .i64) 3 wc w.heap.size (fun _ => True) (.slice none 0 0) ([] : List Int)) ∧ Aside0 (Below w.heap.size w wc))
 case first =>
  have H := HC3.out; clear HC3; replace H := xb H; obtain ⟨t115, A4, H⟩ := H; replace H := xJ H; rcases H with ⟨c5, H⟩ | ⟨c5, H⟩
  ·
   have c5b0 := beq_iff_eq.mpr c5; have c5b1 := bne_eq_false_iff_eq.mpr c5; clear c5
   (first | rw [c5b0] | (simp only [i64_w, i32_w]; rw [c5b0]) | skip)
   replace H := xJ H; rcases H with ⟨c6, H⟩ | ⟨c6, H⟩
   ·
    have c6b0 := decide_eq_true c6; clear c6; have H' := Aside0.mk H; clear H; go_wp2_with (first | ((with_reducible refine gate_callee (f := 51) rfl ?_); refine goesL_ (some 8) rfl rfl Tryz.func51 (by kernel_rfl) rfl #[.slice A0 l0.length c0] rfl xS ?_; (with_reducible refine (armadaref16_Check.calls k _ _ l0 t115 _ ?side1 ?side2 A4.out).mono ?_); (case side1 => repeat (first | exact (Kd.C_below HR0.out HB.out) | (with_reducible refine Kd.C_alloc ?_ _) | (with_reducible refine Kd.C_drewN ?_ _) | (with_reducible refine Kd.C_drew ?_))); (case side2 => exact HC0.out); rintro e w7 ⟨rfl, hb⟩; refine ⟨_, rfl, ?_⟩; replace HB := Aside0.mk (below_step xB hb); (try clear hb))); go_meet
    case rel => exact ⟨_, (true), xR, H', ⟨by first | omega | exact Nat.le_refl _⟩, ⟨by first | exact Kd.R_nil _ _ _ _ _ | exact Kd.N_nil _ _ _ _ _ | exact Kd.V_nil _ _ _ _ _ | exact Kd.Q_nil _ _ _ _ _ | exact Kd.S_nil _ _ _ _ _⟩, ⟨xB⟩⟩
   have c6b0 := decide_eq_false c6; clear c6; have H' := Aside0.mk H; clear H; go_wp2_with (first | ((with_reducible refine gate_callee (f := 51) rfl ?_); refine goesL_ (some 8) rfl rfl Tryz.func51 (by kernel_rfl) rfl #[.slice A0 l0.length c0] rfl xS ?_; (with_reducible refine (armadaref16_Check.calls k _ _ l0 t115 _ ?side1 ?side2 A4.out).mono ?_); (case side1 => repeat (first | exact (Kd.C_below HR0.out HB.out) | (with_reducible refine Kd.C_alloc ?_ _) | (with_reducible refine Kd.C_drewN ?_ _) | (with_reducible refine Kd.C_drew ?_))); (case side2 => exact HC0.out); rintro e w8 ⟨rfl, hb⟩; refine ⟨_, rfl, ?_⟩; replace HB := Aside0.mk (below_step xB hb); (try clear hb))); go_meet
   case rel => exact ⟨_, (decide (a1 ≥ (l0.length : Int))), xR, H', ⟨by first | omega | exact Nat.le_refl _⟩, ⟨by first | exact Kd.R_nil _ _ _ _ _ | exact Kd.N_nil _ _ _ _ _ | exact Kd.V_nil _ _ _ _ _ | exact Kd.Q_nil _ _ _ _ _ | exact Kd.S_nil _ _ _ _ _⟩, ⟨xB⟩⟩
  have c5b0 := beq_eq_false_iff_ne.mpr c5; have c5b1 := bne_iff_ne.mpr c5
  (first | rw [c5b0] | (simp only [i64_w, i32_w]; rw [c5b0]) | skip)
  have H' := Aside0.mk H; clear H; go_wp2_with (first | ((with_reducible refine gate_callee (f := 51) rfl ?_); refine goesL_ (some 8) rfl rfl Tryz.func51 (by kernel_rfl) rfl #[.slice A0 l0.length c0] rfl xS ?_; (with_reducible refine (armadaref16_Check.calls k _ _ l0 t115 _ ?side1 ?side2 A4.out).mono ?_); (case side1 => repeat (first | exact (Kd.C_below HR0.out HB.out) | (with_reducible refine Kd.C_alloc ?_ _) | (with_reducible refine Kd.C_drewN ?_ _) | (with_reducible refine Kd.C_drew ?_))); (case side2 => exact HC0.out); rintro e w9 ⟨rfl, hb⟩; refine ⟨_, rfl, ?_⟩; replace HB := Aside0.mk (below_step xB hb); (try clear hb))); go_meet
  case rel => exact ⟨_, (true), xR, H', ⟨by first | omega | exact Nat.le_refl _⟩, ⟨by first | exact Kd.R_nil _ _ _ _ _ | exact Kd.N_nil _ _ _ _ _ | exact Kd.V_nil _ _ _ _ _ | exact Kd.Q_nil _ _ _ _ _ | exact Kd.S_nil _ _ _ _ _⟩, ⟨xB⟩⟩
 case rest =>
  clear HC3
  try clear c2
  try clear p2
  try clear c5
  try clear c5b0
  try clear c5b1
  try clear c6
  try clear c6b0
  obtain ⟨kq, x19_2, rfl, HA, HJ2, HO_5, HB⟩ := hcut
  cases kq with
  | zero => exact absurd HA.out (by simp [armadaref16_Edges.j0])
  | succ kj2 =>
   have H := HA.out; clear HA; simp only [armadaref16_Edges.j0] at H
   by_cases c10 : x19_2 = true
   ·
    subst c10; rw [if_pos rfl] at H; obtain rfl := Option.some.inj H; go_wp2; go_ret; exact ⟨_, xW, by (with_reducible repeat (first | apply Kd.R_alloc | apply Kd.R_drewN | apply Kd.R_drew)); exact HO_5.out, xB⟩
   replace c10 := Bool.eq_false_iff.mpr c10; subst c10; rw [if_neg (show ¬ (false = true) by decide)] at H; have H' := Aside0.mk H; clear H; go_wp2
   go_loopg [5, 6] kj2 (fun kq v5 v6 w' => ∃ (x5_2 : List Int) (x6_2 : Int), v6 = .int .i64 x6_2 ∧ Aside0 (armadaref16_Edges.l0 kq l0 a1 x5_2 x6_2 = some r) ∧ Aside0 (kq ≤ kj2) ∧ Aside0 (Kd.R (Kd.int .i64) 3 w' w.heap.size (fun _ => True) v5 x5_2) ∧ Aside0 (Below w.heap.size w w'))
   case atStart => exact ⟨(([] : List Int)), (0), xR, H', ⟨Nat.le_refl _⟩, ⟨xQ HO_5⟩, ⟨xB⟩⟩
   case round =>
    clear H'
    try clear c1
    try clear c2
    try clear p2
    try clear c5
    try clear c5b0
    try clear c5b1
    try clear c6
    try clear c6b0
    try clear c10
    try clear p2
    obtain ⟨x5_2, x6_2, rfl, HA, HK2, HO_5, HB⟩ := hrel
    cases gk with
    | zero => exact absurd HA.out (by simp [armadaref16_Edges.l0])
    | succ k2 =>
     have H := HA.out; clear HA; simp only [armadaref16_Edges.l0] at H; replace H := xJ H; rcases H with ⟨c11, H⟩ | ⟨c11, H⟩
     ·
      replace c11 := decide_eq_true c11; replace H := xI H; obtain ⟨c12, H⟩ := H; replace c12 := decide_eq_true c12; replace H := xI H; obtain ⟨c13, H⟩ := H; replace c13 := decide_eq_true c13; replace H := xI H; obtain ⟨c14, H⟩ := H; replace c14 := decide_eq_true c14; replace H := xb H; obtain ⟨t118, A15, H⟩ := H
      by_cases c16 : t118 = true
      ·
       subst c16; rw [if_pos rfl] at H; replace H := xI H; obtain ⟨c17, H⟩ := H; have LMc17 := Aside0.mk c17; clear c17; obtain ⟨y119, hy119⟩ : ∃ y_ : List Int, y_ = (x5_2 ++ [x6_2]) := ⟨_, rfl⟩
       replace H : (armadaref16_Edges.l0 k2 l0 a1 y119 (wrap64 (x6_2 + 1))) = some r := by first | (rw [hy119]; with_reducible exact H) | (have H2_ := (Option.bind_some _ _).symm.trans H; rw [hy119]; with_reducible exact H2_) | (have H2_ := (Option.bind_some _ _).symm.trans H; with_reducible exact H2_) | with_reducible exact H | (rw [hy119]; exact H) | exact H
       have Ny119 := Aside0.mk hy119; clear hy119; have H' := Aside0.mk H; clear H
       try go_wp2
       have n0_ := Aside0.mk (Kd.R_drew HO_5.out); have n1_ := Aside0.mk (below_drew1 HB.out); clear HO_5; clear HB; have HO_5 := n0_; have HB := n1_; clear n0_ n1_; obtain ⟨p116, q116, ad116, A116_2, c116_2, e116, hx116_0, hx116_1, hx116_2, hl116_2, hi116_2⟩ := xT (at_T63 HR0.out a1); have hw116_2 := hx116_2; have hw116_1 := hx116_1; have hw116_0 := hx116_0
       cases e116
       replace hx116_0 := xH HB hx116_0; replace hx116_1 := xH HB hx116_1; replace hx116_2 := xH HB hx116_2; have HR116_2 := Aside0.mk hi116_2; have HC116_2 := Aside0.mk hl116_2; clear hi116_2 hl116_2; obtain ⟨p117, q117, ad117, A117_2, c117_2, e117, hx117_0, hx117_1, hx117_2, hl117_2, hi117_2⟩ := xT (at_T63 HR0.out x6_2); have hw117_2 := hx117_2; have hw117_1 := hx117_1; have hw117_0 := hx117_0; obtain rfl := xE e117; replace hx117_0 := xH HB hx117_0; replace hx117_1 := xH HB hx117_1; replace hx117_2 := xH HB hx117_2; have HR117_2 := Aside0.mk hi117_2; have HC117_2 := Aside0.mk hl117_2; clear hi117_2 hl117_2; refine start_ (n := 10) (S := fun w' => w'.cell? (ad116.add ((a1).toNat * 3)) = some (.string ((rd_T63 l0 a1).f0)) ∧ w'.cell? ⟨(ad116.add ((a1).toNat * 3)).block, (ad116.add ((a1).toNat * 3)).off + 1, none⟩ = some (.string ((rd_T63 l0 a1).f1)) ∧ w'.cell? ⟨(ad116.add ((a1).toNat * 3)).block, (ad116.add ((a1).toNat * 3)).off + 2, none⟩ = some (.slice A116_2 ((rd_T63 l0 a1).f2).length c116_2) ∧ w'.cell? (ad116.add ((x6_2).toNat * 3)) = some (.string ((rd_T63 l0 x6_2).f0)) ∧ w'.cell? ⟨(ad116.add ((x6_2).toNat * 3)).block, (ad116.add ((x6_2).toNat * 3)).off + 1, none⟩ = some (.string ((rd_T63 l0 x6_2).f1)) ∧ w'.cell? ⟨(ad116.add ((x6_2).toNat * 3)).block, (ad116.add ((x6_2).toNat * 3)).off + 2, none⟩ = some (.slice A117_2 ((rd_T63 l0 x6_2).f2).length c117_2)) (ds := []) #[ff, ff, ff, ff, ff, ff, ff, ff, ff, ff] (by kernel_rfl) rfl rfl ⟨((HB.out.cell (World.block_lt_of_cell? w _ hw116_0)).trans hw116_0), ((HB.out.cell (World.block_lt_of_cell? w _ hw116_1)).trans hw116_1), ((HB.out.cell (World.block_lt_of_cell? w _ hw116_2)).trans hw116_2), ((HB.out.cell (World.block_lt_of_cell? w _ hw117_0)).trans hw117_0), ((HB.out.cell (World.block_lt_of_cell? w _ hw117_1)).trans hw117_1), ((HB.out.cell (World.block_lt_of_cell? w _ hw117_2)).trans hw117_2)⟩ (fun hHeld => ?_); refine with_tabW armadaref16_Edges.tab7 armadaref16_Edges.bits7 (fun HT_ HW_ => ?_)
       generalize wr.drew = w18 at HO_5 HB HR116_2 HR117_2 hx116_0 hx116_1 hx116_2 hx117_0 hx117_1 hx117_2 hHeld ⊢
       refine pure_ (i := 0) (N := some 27) (v := ?_) (a' := ?_) #[tt, ff, ff, ff, ff, ff, ff, ff, ff, ff] rfl rfl (any_of HT_.out (by kernel_rfl)) (fun _ _ _ h => h) (Or.inl ⟨by rfl, ?_⟩) ?_ ?_
       rotate_left
       ·
        intro w'; go_simp
        with_reducible rfl
       rotate_left
       ·
        simp only [Act.put, z1, z2, z3, i64_w, i32_w]
        rfl
       refine pure_ (i := 1) (N := some 28) (v := ?_) (a' := ?_) #[tt, tt, ff, ff, ff, ff, ff, ff, ff, ff] rfl rfl (any_of HT_.out (by kernel_rfl)) (fun _ _ _ h => h) (Or.inl ⟨by rfl, ?_⟩) ?_ ?_
       rotate_left
       ·
        intro w'; go_simp
        with_reducible rfl
       rotate_left
       ·
        simp only [Act.put, z1, z2, z3, i64_w, i32_w]
        rfl
       refine pure_ (i := 2) (N := some 29) (v := ?_) (a' := ?_) #[tt, tt, tt, ff, ff, ff, ff, ff, ff, ff] rfl rfl (any_of HT_.out (by kernel_rfl)) (fun _ _ _ h => h) (Or.inl ⟨by rfl, ?_⟩) ?_ ?_
       rotate_left
       ·
        intro w'; go_simp
        with_reducible rfl
       rotate_left
       ·
        simp only [Act.put, z1, z2, z3, i64_w, i32_w]
        rfl
       refine pure_ (i := 4) (N := some 31) (v := ?_) (a' := ?_) #[tt, tt, tt, ff, tt, ff, ff, ff, ff, ff] rfl rfl (any_of HT_.out (by kernel_rfl)) (fun _ _ _ h => h) (Or.inl ⟨by rfl, ?_⟩) ?_ ?_
       rotate_left
       ·
        intro w'; go_simp
        with_reducible rfl
       rotate_left
       ·
        simp only [Act.put, z1, z2, z3, i64_w, i32_w]
        rfl
       refine pure_ (i := 5) (N := some 32) (v := ?_) (a' := ?_) #[tt, tt, tt, ff, tt, tt, ff, ff, ff, ff] rfl rfl (any_of HT_.out (by kernel_rfl)) (fun _ _ _ h => h) (Or.inl ⟨by rfl, ?_⟩) ?_ ?_
       rotate_left
       ·
        intro w'; go_simp
        with_reducible rfl
       rotate_left
       ·
        simp only [Act.put, z1, z2, z3, i64_w, i32_w]
        rfl
       refine pure_ (i := 6) (N := some 33) (v := ?_) (a' := ?_) #[tt, tt, tt, ff, tt, tt, tt, ff, ff, ff] rfl rfl (any_of HT_.out (by kernel_rfl)) (fun _ _ _ h => h) (Or.inl ⟨by rfl, ?_⟩) ?_ ?_
       rotate_left
       ·
        intro w'; go_simp
        with_reducible rfl
       rotate_left
       ·
        simp only [Act.put, z1, z2, z3, i64_w, i32_w]
        rfl
       refine pure_ (i := 7) (N := some 34) (v := ?_) (a' := ?_) #[tt, tt, tt, ff, tt, tt, tt, tt, ff, ff] rfl rfl (any_of HT_.out (by kernel_rfl)) (fun _ _ _ h => h) (Or.inl ⟨by rfl, ?_⟩) ?_ ?_
       rotate_left
       ·
        intro w'; go_simp
        with_reducible rfl
       rotate_left
       ·
        simp only [Act.put, z1, z2, z3, i64_w, i32_w]
        rfl
       refine take_ (i := 3) (N := some 30) (v := ?_) (a' := ?_) #[tt, tt, tt, tt, tt, tt, tt, tt, ff, ff] rfl rfl (take_ofW HT_.out HW_.out (by kernel_rfl)) (fun _ _ _ h => h) (Or.inl ⟨by rfl, ?_⟩) hHeld ?_ ?_
       rotate_left
       ·
        rintro w' ⟨s0, s1, s2, s3, s4, s5⟩
        go_simp
        with_reducible rfl
       rotate_left
       ·
        simp only [Act.put, z1, z2, z3, i64_w, i32_w]
        rfl
       refine take_ (i := 8) (N := some 35) (v := ?_) (a' := ?_) #[tt, tt, tt, tt, tt, tt, tt, tt, tt, ff] rfl rfl (take_ofW HT_.out HW_.out (by kernel_rfl)) (fun _ _ _ h => h) (Or.inl ⟨by rfl, ?_⟩) hHeld ?_ ?_
       rotate_left
       ·
        rintro w' ⟨s0, s1, s2, s3, s4, s5⟩
        go_simp
        with_reducible rfl
       rotate_left
       ·
        simp only [Act.put, z1, z2, z3, i64_w, i32_w]
        rfl
       refine one_ (i := 9) (N := some 36) #[tt, tt, tt, tt, tt, tt, tt, tt, tt, tt] rfl rfl (one_of HT_.out (by kernel_rfl)) (by decide) (fun K hK => ?_); refine goes_ Tryz.func52 (by kernel_rfl) rfl #[.agg #[.string ((rd_T63 l0 a1).f0), .string ((rd_T63 l0 a1).f1), .slice A116_2 ((rd_T63 l0 a1).f2).length c116_2], .string ((rd_T63 l0 x6_2).f1)] (by rfl) rfl rfl xS ?_
       with_reducible refine (armadaref16_requires.calls k2 ((rd_T63 l0 a1).f0) ((rd_T63 l0 a1).f1) _ _ ((rd_T63 l0 a1).f2) ((rd_T63 l0 x6_2).f1) true _ ?side1 ?side2 A15.out).mono ?_
       (case side1 => repeat (first | exact (Kd.C_below HR116_2.out HB.out) | (with_reducible refine Kd.C_alloc ?_ _) | (with_reducible refine Kd.C_drewN ?_ _) | (with_reducible refine Kd.C_drew ?_)))
       (case side2 => exact HC116_2.out)
       rintro e w19 ⟨rfl, hb⟩
       refine ⟨_, rfl, ?_⟩; have n0_ := Aside0.mk (Kd.R_below (by (with_reducible repeat (first | apply Kd.R_alloc | apply Kd.R_drewN | apply Kd.R_drew)); exact HO_5.out) hb); have n1_ := Aside0.mk (below_step xB hb); clear HO_5; clear HB; have HO_5 := n0_; have HB := n1_; clear n0_ n1_
       (try clear hb)
       (try clear hb2)
       (try clear hk)
       (try clear hi)
       refine hK.out _ _ ⟨((HB.out.cell (World.block_lt_of_cell? w _ hw116_0)).trans hw116_0), ((HB.out.cell (World.block_lt_of_cell? w _ hw116_1)).trans hw116_1), ((HB.out.cell (World.block_lt_of_cell? w _ hw116_2)).trans hw116_2), ((HB.out.cell (World.block_lt_of_cell? w _ hw117_0)).trans hw117_0), ((HB.out.cell (World.block_lt_of_cell? w _ hw117_1)).trans hw117_1), ((HB.out.cell (World.block_lt_of_cell? w _ hw117_2)).trans hw117_2)⟩ (fun hHeld => ?_); clear hK K; refine norm_ (a' := ?_) ?_ ?_
       rotate_left
       ·
        show Act.put _ (some 36) _ = _
        simp only [Act.put, z1, z2, z3, i64_w, i32_w]
        rfl
       refine done_ (done_of HT_.out (by kernel_rfl)) ?_
       try go_wp2_with (first | ((with_reducible refine gate_builtin (b := .append) (xs := #[.tmp 37, .tmp 39]) rfl ?_); (try (refine gate_guard (by rfl) ?_; dsimp only)); at_builtin; refine Kd.R_append (Kd.int .i64) (w0 := w) w.heap.size rfl (.tmp 37) (.tmp 39) 39 3 (.int .i64 0) 8 rfl Tryz.underlying39 info3 rfl (by decide) (by omega) u5 x5_2 x6_2 [.int .i64 x6_2] (fun _ => True) (fun _ => False) rfl rfl ?aP (fun _ hk => hk.elim) ?aF ?aO ?aB ?aS ?aL ?_; (case aP => exact rfl); (case aB => exact xB); (case aF => exact (fun _ _ => trivial)); (case aO => exact (by (with_reducible repeat (first | apply Kd.R_alloc | apply Kd.R_drewN | apply Kd.R_drew)); exact HO_5.out)); (case aS => exact (below_size xB)); (case aL => have := LMc17.out; omega); intro v120 w20 ho hb hg hat; rw [← Ny119.out] at ho; have HO121 := Aside0.mk (ho); replace HB := Aside0.mk (hb); clear HO_5; clear ho hb hg hat))
       go_roundg k2
       case measure => have := HJ2.out; have := HK2.out; omega
       case rel => exact ⟨(y119), (wrap64 (x6_2 + 1)), xR, H', ⟨by have := HJ2.out; have := HK2.out; omega⟩, ⟨xQ HO121⟩, ⟨xB⟩⟩
      replace c16 := Bool.eq_false_iff.mpr c16; subst c16; rw [if_neg (show ¬ (false = true) by decide)] at H; have H' := Aside0.mk H; clear H
      try go_wp2
      have n0_ := Aside0.mk (Kd.R_drew HO_5.out); have n1_ := Aside0.mk (below_drew1 HB.out); clear HO_5; clear HB; have HO_5 := n0_; have HB := n1_; clear n0_ n1_; obtain ⟨p116, q116, ad116, A116_2, c116_2, e116, hx116_0, hx116_1, hx116_2, hl116_2, hi116_2⟩ := xT (at_T63 HR0.out a1); have hw116_2 := hx116_2; have hw116_1 := hx116_1; have hw116_0 := hx116_0
      cases e116
      replace hx116_0 := xH HB hx116_0; replace hx116_1 := xH HB hx116_1; replace hx116_2 := xH HB hx116_2; have HR116_2 := Aside0.mk hi116_2; have HC116_2 := Aside0.mk hl116_2; clear hi116_2 hl116_2; obtain ⟨p117, q117, ad117, A117_2, c117_2, e117, hx117_0, hx117_1, hx117_2, hl117_2, hi117_2⟩ := xT (at_T63 HR0.out x6_2); have hw117_2 := hx117_2; have hw117_1 := hx117_1; have hw117_0 := hx117_0; obtain rfl := xE e117; replace hx117_0 := xH HB hx117_0; replace hx117_1 := xH HB hx117_1; replace hx117_2 := xH HB hx117_2; have HR117_2 := Aside0.mk hi117_2; have HC117_2 := Aside0.mk hl117_2; clear hi117_2 hl117_2; refine start_ (n := 10) (S := fun w' => w'.cell? (ad116.add ((a1).toNat * 3)) = some (.string ((rd_T63 l0 a1).f0)) ∧ w'.cell? ⟨(ad116.add ((a1).toNat * 3)).block, (ad116.add ((a1).toNat * 3)).off + 1, none⟩ = some (.string ((rd_T63 l0 a1).f1)) ∧ w'.cell? ⟨(ad116.add ((a1).toNat * 3)).block, (ad116.add ((a1).toNat * 3)).off + 2, none⟩ = some (.slice A116_2 ((rd_T63 l0 a1).f2).length c116_2) ∧ w'.cell? (ad116.add ((x6_2).toNat * 3)) = some (.string ((rd_T63 l0 x6_2).f0)) ∧ w'.cell? ⟨(ad116.add ((x6_2).toNat * 3)).block, (ad116.add ((x6_2).toNat * 3)).off + 1, none⟩ = some (.string ((rd_T63 l0 x6_2).f1)) ∧ w'.cell? ⟨(ad116.add ((x6_2).toNat * 3)).block, (ad116.add ((x6_2).toNat * 3)).off + 2, none⟩ = some (.slice A117_2 ((rd_T63 l0 x6_2).f2).length c117_2)) (ds := []) #[ff, ff, ff, ff, ff, ff, ff, ff, ff, ff] (by kernel_rfl) rfl rfl ⟨((HB.out.cell (World.block_lt_of_cell? w _ hw116_0)).trans hw116_0), ((HB.out.cell (World.block_lt_of_cell? w _ hw116_1)).trans hw116_1), ((HB.out.cell (World.block_lt_of_cell? w _ hw116_2)).trans hw116_2), ((HB.out.cell (World.block_lt_of_cell? w _ hw117_0)).trans hw117_0), ((HB.out.cell (World.block_lt_of_cell? w _ hw117_1)).trans hw117_1), ((HB.out.cell (World.block_lt_of_cell? w _ hw117_2)).trans hw117_2)⟩ (fun hHeld => ?_); refine with_tabW armadaref16_Edges.tab7 armadaref16_Edges.bits7 (fun HT_ HW_ => ?_)
      generalize wr.drew = w21 at HO_5 HB HR116_2 HR117_2 hx116_0 hx116_1 hx116_2 hx117_0 hx117_1 hx117_2 hHeld ⊢
      refine pure_ (i := 0) (N := some 27) (v := ?_) (a' := ?_) #[tt, ff, ff, ff, ff, ff, ff, ff, ff, ff] rfl rfl (any_of HT_.out (by kernel_rfl)) (fun _ _ _ h => h) (Or.inl ⟨by rfl, ?_⟩) ?_ ?_
      rotate_left
      ·
       intro w'; go_simp
       with_reducible rfl
      rotate_left
      ·
       simp only [Act.put, z1, z2, z3, i64_w, i32_w]
       rfl
      refine pure_ (i := 1) (N := some 28) (v := ?_) (a' := ?_) #[tt, tt, ff, ff, ff, ff, ff, ff, ff, ff] rfl rfl (any_of HT_.out (by kernel_rfl)) (fun _ _ _ h => h) (Or.inl ⟨by rfl, ?_⟩) ?_ ?_
      rotate_left
      ·
       intro w'; go_simp
       with_reducible rfl
      rotate_left
      ·
       simp only [Act.put, z1, z2, z3, i64_w, i32_w]
       rfl
      refine pure_ (i := 2) (N := some 29) (v := ?_) (a' := ?_) #[tt, tt, tt, ff, ff, ff, ff, ff, ff, ff] rfl rfl (any_of HT_.out (by kernel_rfl)) (fun _ _ _ h => h) (Or.inl ⟨by rfl, ?_⟩) ?_ ?_
      rotate_left
      ·
       intro w'; go_simp
       with_reducible rfl
      rotate_left
      ·
       simp only [Act.put, z1, z2, z3, i64_w, i32_w]
       rfl
      refine pure_ (i := 4) (N := some 31) (v := ?_) (a' := ?_) #[tt, tt, tt, ff, tt, ff, ff, ff, ff, ff] rfl rfl (any_of HT_.out (by kernel_rfl)) (fun _ _ _ h => h) (Or.inl ⟨by rfl, ?_⟩) ?_ ?_
      rotate_left
      ·
       intro w'; go_simp
       with_reducible rfl
      rotate_left
      ·
       simp only [Act.put, z1, z2, z3, i64_w, i32_w]
       rfl
      refine pure_ (i := 5) (N := some 32) (v := ?_) (a' := ?_) #[tt, tt, tt, ff, tt, tt, ff, ff, ff, ff] rfl rfl (any_of HT_.out (by kernel_rfl)) (fun _ _ _ h => h) (Or.inl ⟨by rfl, ?_⟩) ?_ ?_
      rotate_left
      ·
       intro w'; go_simp
       with_reducible rfl
      rotate_left
      ·
       simp only [Act.put, z1, z2, z3, i64_w, i32_w]
       rfl
      refine pure_ (i := 6) (N := some 33) (v := ?_) (a' := ?_) #[tt, tt, tt, ff, tt, tt, tt, ff, ff, ff] rfl rfl (any_of HT_.out (by kernel_rfl)) (fun _ _ _ h => h) (Or.inl ⟨by rfl, ?_⟩) ?_ ?_
      rotate_left
      ·
       intro w'; go_simp
       with_reducible rfl
      rotate_left
      ·
       simp only [Act.put, z1, z2, z3, i64_w, i32_w]
       rfl
      refine pure_ (i := 7) (N := some 34) (v := ?_) (a' := ?_) #[tt, tt, tt, ff, tt, tt, tt, tt, ff, ff] rfl rfl (any_of HT_.out (by kernel_rfl)) (fun _ _ _ h => h) (Or.inl ⟨by rfl, ?_⟩) ?_ ?_
      rotate_left
      ·
       intro w'; go_simp
       with_reducible rfl
      rotate_left
      ·
       simp only [Act.put, z1, z2, z3, i64_w, i32_w]
       rfl
      refine take_ (i := 3) (N := some 30) (v := ?_) (a' := ?_) #[tt, tt, tt, tt, tt, tt, tt, tt, ff, ff] rfl rfl (take_ofW HT_.out HW_.out (by kernel_rfl)) (fun _ _ _ h => h) (Or.inl ⟨by rfl, ?_⟩) hHeld ?_ ?_
      rotate_left
      ·
       rintro w' ⟨s0, s1, s2, s3, s4, s5⟩
       go_simp
       with_reducible rfl
      rotate_left
      ·
       simp only [Act.put, z1, z2, z3, i64_w, i32_w]
       rfl
      refine take_ (i := 8) (N := some 35) (v := ?_) (a' := ?_) #[tt, tt, tt, tt, tt, tt, tt, tt, tt, ff] rfl rfl (take_ofW HT_.out HW_.out (by kernel_rfl)) (fun _ _ _ h => h) (Or.inl ⟨by rfl, ?_⟩) hHeld ?_ ?_
      rotate_left
      ·
       rintro w' ⟨s0, s1, s2, s3, s4, s5⟩
       go_simp
       with_reducible rfl
      rotate_left
      ·
       simp only [Act.put, z1, z2, z3, i64_w, i32_w]
       rfl
      refine one_ (i := 9) (N := some 36) #[tt, tt, tt, tt, tt, tt, tt, tt, tt, tt] rfl rfl (one_of HT_.out (by kernel_rfl)) (by decide) (fun K hK => ?_); refine goes_ Tryz.func52 (by kernel_rfl) rfl #[.agg #[.string ((rd_T63 l0 a1).f0), .string ((rd_T63 l0 a1).f1), .slice A116_2 ((rd_T63 l0 a1).f2).length c116_2], .string ((rd_T63 l0 x6_2).f1)] (by rfl) rfl rfl xS ?_
      with_reducible refine (armadaref16_requires.calls k2 ((rd_T63 l0 a1).f0) ((rd_T63 l0 a1).f1) _ _ ((rd_T63 l0 a1).f2) ((rd_T63 l0 x6_2).f1) false _ ?side1 ?side2 A15.out).mono ?_
      (case side1 => repeat (first | exact (Kd.C_below HR116_2.out HB.out) | (with_reducible refine Kd.C_alloc ?_ _) | (with_reducible refine Kd.C_drewN ?_ _) | (with_reducible refine Kd.C_drew ?_)))
      (case side2 => exact HC116_2.out)
      rintro e w22 ⟨rfl, hb⟩
      refine ⟨_, rfl, ?_⟩; have n0_ := Aside0.mk (Kd.R_below (by (with_reducible repeat (first | apply Kd.R_alloc | apply Kd.R_drewN | apply Kd.R_drew)); exact HO_5.out) hb); have n1_ := Aside0.mk (below_step xB hb); clear HO_5; clear HB; have HO_5 := n0_; have HB := n1_; clear n0_ n1_
      (try clear hb)
      (try clear hb2)
      (try clear hk)
      (try clear hi)
      refine hK.out _ _ ⟨((HB.out.cell (World.block_lt_of_cell? w _ hw116_0)).trans hw116_0), ((HB.out.cell (World.block_lt_of_cell? w _ hw116_1)).trans hw116_1), ((HB.out.cell (World.block_lt_of_cell? w _ hw116_2)).trans hw116_2), ((HB.out.cell (World.block_lt_of_cell? w _ hw117_0)).trans hw117_0), ((HB.out.cell (World.block_lt_of_cell? w _ hw117_1)).trans hw117_1), ((HB.out.cell (World.block_lt_of_cell? w _ hw117_2)).trans hw117_2)⟩ (fun hHeld => ?_); clear hK K; refine norm_ (a' := ?_) ?_ ?_
      rotate_left
      ·
       show Act.put _ (some 36) _ = _
       simp only [Act.put, z1, z2, z3, i64_w, i32_w]
       rfl
      refine done_ (done_of HT_.out (by kernel_rfl)) ?_
      try go_wp2
      go_roundg k2
      case measure => have := HJ2.out; have := HK2.out; omega
      case rel => exact ⟨(x5_2), (wrap64 (x6_2 + 1)), xR, H', ⟨by have := HJ2.out; have := HK2.out; omega⟩, ⟨xQ HO_5⟩, ⟨xB⟩⟩
     replace c11 := decide_eq_false c11; obtain rfl := Option.some.inj H; go_wp2; go_ret; exact ⟨_, xW, by (with_reducible repeat (first | apply Kd.R_alloc | apply Kd.R_drewN | apply Kd.R_drew)); exact HO_5.out, xB⟩
def armadaref15_Few.l0 : Nat → List (S71) → Int → Option (Bool)
 | 0, _, _ => none
 | k + 1, x0, x3 => if x3 < (x0.length : Int) then (if 0 ≤ x3 then (if (((rd_T71 x0 x3).f0).size : Int) > 200 then (some false) else (if (((rd_T71 x0 x3).f2).size : Int) > 200 then (some false) else (if (((rd_T71 x0 x3).f1.f3).size : Int) > 200 then (some false) else (if (((rd_T71 x0 x3).f1.f4).size : Int) > 200 then (some false) else (armadaref15_Few.l0 k x0 (wrap64 (x3 + 1))))))) else (none)) else (some (decide ((x0.length : Int) ≤ 60)))
def armadaref15_Few.f (k : Nat) (l0 : List (S71)) : Option (Bool) := armadaref15_Few.l0 k l0 0
theorem armadaref15_Few.mono_l : ∀ k, (∀ y0 y1, LeO (armadaref15_Few.l0 k y0 y1) (armadaref15_Few.l0 (k + 1) y0 y1))
 | 0 => fun _ _ r h => by simp [armadaref15_Few.l0] at h
 | k + 1 => by
  have ih0 := armadaref15_Few.mono_l k
  ·
   intro y0 y1; unfold armadaref15_Few.l0; exact xM
theorem armadaref15_Few.mono : ∀ a0 k, LeO (armadaref15_Few.f k a0) (armadaref15_Few.f (k + 1) a0) := by
 intro a0 k; have ih0 := armadaref15_Few.mono_l k; unfold armadaref15_Few.f; exact xM
set_option maxHeartbeats 8000000 in
set_option maxRecDepth 100000 in
theorem armadaref15_Few.calls (k : Nat) (A0 : Option Addr) (c0 : Nat) (l0 : List (S71)) (r : Bool) (w : World) (hr0 : Kd.C k71 w A0 l0.length l0) (hc0 : l0.length ≤ c0) (h : armadaref15_Few.f k l0 = some r) :
  Calls Tryz.prog 8 #[.slice A0 l0.length c0] w fun e w' => e = .returned (.bool r) ∧ Drawn0 w w' := by
 have HR0 := Aside0.mk hr0; have HC0 := Aside0.mk hc0; clear hr0 hc0; have H : (armadaref15_Few.l0 k l0 0) = some r := h; clear h; have H' := Aside0.mk H; clear H; go_enter Tryz.func8, Tryz.ntmps8; go_wp2
 go_loopg [3] k (fun kq v3 w' => ∃ (x3_1 : Int), v3 = .int .i64 x3_1 ∧ Aside0 (armadaref15_Few.l0 kq l0 x3_1 = some r) ∧ Aside0 (kq ≤ k) ∧ Drawn0 w w')
 case atStart => exact ⟨(0), xR, H', ⟨Nat.le_refl _⟩, by repeat (first | exact Drawn0.refl _ | apply Drawn0.step)⟩
 case round =>
  clear H'; obtain ⟨x3_1, rfl, HA, HK1, ⟨m1, rfl⟩⟩ := hrel
  cases gk with
  | zero => exact absurd HA.out (by simp [armadaref15_Few.l0])
  | succ k1 =>
   have H := HA.out; clear HA; simp only [armadaref15_Few.l0] at H; replace H := xJ H; rcases H with ⟨c2, H⟩ | ⟨c2, H⟩
   ·
    replace c2 := decide_eq_true c2; replace H := xI H; obtain ⟨c3, H⟩ := H; replace c3 := decide_eq_true c3; replace H := xJ H; rcases H with ⟨c4, H⟩ | ⟨c4, H⟩
    ·
     have c4b0 := decide_eq_true c4; have c4b1 : decide (200 < ((rd_T71 l0 x3_1).f0).size) = true := decide_eq_true (by omega); clear c4; obtain rfl := Option.some.inj H; obtain ⟨p122, q122, ad122, e122, hx122_0, hx122_1, hx122_2, hx122_3, hx122_4, hx122_5, hx122_6⟩ := xT (at_T71 HR0.out x3_1)
     cases e122
     go_wp2; go_ret; exact ⟨xR, xG⟩
    have c4b0 := decide_eq_false c4; have c4b1 : decide (200 < ((rd_T71 l0 x3_1).f0).size) = false := decide_eq_false (by omega); clear c4; replace H := xJ H; rcases H with ⟨c5, H⟩ | ⟨c5, H⟩
    ·
     have c5b0 := decide_eq_true c5; have c5b1 : decide (200 < ((rd_T71 l0 x3_1).f2).size) = true := decide_eq_true (by omega); clear c5; obtain rfl := Option.some.inj H; obtain ⟨p122, q122, ad122, e122, hx122_0, hx122_1, hx122_2, hx122_3, hx122_4, hx122_5, hx122_6⟩ := xT (at_T71 HR0.out x3_1)
     cases e122
     obtain ⟨p123, q123, ad123, e123, hx123_0, hx123_1, hx123_2, hx123_3, hx123_4, hx123_5, hx123_6⟩ := xT (at_T71 HR0.out x3_1); obtain rfl := xE e123; go_wp2; go_ret; exact ⟨xR, xG⟩
    have c5b0 := decide_eq_false c5; have c5b1 : decide (200 < ((rd_T71 l0 x3_1).f2).size) = false := decide_eq_false (by omega); clear c5; replace H := xJ H; rcases H with ⟨c6, H⟩ | ⟨c6, H⟩
    ·
     have c6b0 := decide_eq_true c6; have c6b1 : decide (200 < ((rd_T71 l0 x3_1).f1.f3).size) = true := decide_eq_true (by omega); clear c6; obtain rfl := Option.some.inj H; obtain ⟨p122, q122, ad122, e122, hx122_0, hx122_1, hx122_2, hx122_3, hx122_4, hx122_5, hx122_6⟩ := xT (at_T71 HR0.out x3_1)
     cases e122
     obtain ⟨p123, q123, ad123, e123, hx123_0, hx123_1, hx123_2, hx123_3, hx123_4, hx123_5, hx123_6⟩ := xT (at_T71 HR0.out x3_1); obtain rfl := xE e123; obtain ⟨p124, q124, ad124, e124, hx124_0, hx124_1, hx124_2, hx124_3, hx124_4, hx124_5, hx124_6⟩ := xT (at_T71 HR0.out x3_1); obtain rfl := xE e124; go_wp2; go_ret; exact ⟨xR, xG⟩
    have c6b0 := decide_eq_false c6; have c6b1 : decide (200 < ((rd_T71 l0 x3_1).f1.f3).size) = false := decide_eq_false (by omega); clear c6; replace H := xJ H; rcases H with ⟨c7, H⟩ | ⟨c7, H⟩
    ·
     have c7b0 := decide_eq_true c7; have c7b1 : decide (200 < ((rd_T71 l0 x3_1).f1.f4).size) = true := decide_eq_true (by omega); clear c7; obtain rfl := Option.some.inj H; obtain ⟨p122, q122, ad122, e122, hx122_0, hx122_1, hx122_2, hx122_3, hx122_4, hx122_5, hx122_6⟩ := xT (at_T71 HR0.out x3_1)
     cases e122
     obtain ⟨p123, q123, ad123, e123, hx123_0, hx123_1, hx123_2, hx123_3, hx123_4, hx123_5, hx123_6⟩ := xT (at_T71 HR0.out x3_1); obtain rfl := xE e123; obtain ⟨p124, q124, ad124, e124, hx124_0, hx124_1, hx124_2, hx124_3, hx124_4, hx124_5, hx124_6⟩ := xT (at_T71 HR0.out x3_1); obtain rfl := xE e124; obtain ⟨p125, q125, ad125, e125, hx125_0, hx125_1, hx125_2, hx125_3, hx125_4, hx125_5, hx125_6⟩ := xT (at_T71 HR0.out x3_1); obtain rfl := xE e125; go_wp2; go_ret; exact ⟨xR, xG⟩
    have c7b0 := decide_eq_false c7; have c7b1 : decide (200 < ((rd_T71 l0 x3_1).f1.f4).size) = false := decide_eq_false (by omega); clear c7; have H' := Aside0.mk H; clear H; obtain ⟨p122, q122, ad122, e122, hx122_0, hx122_1, hx122_2, hx122_3, hx122_4, hx122_5, hx122_6⟩ := xT (at_T71 HR0.out x3_1)
    cases e122
    obtain ⟨p123, q123, ad123, e123, hx123_0, hx123_1, hx123_2, hx123_3, hx123_4, hx123_5, hx123_6⟩ := xT (at_T71 HR0.out x3_1); obtain rfl := xE e123; obtain ⟨p124, q124, ad124, e124, hx124_0, hx124_1, hx124_2, hx124_3, hx124_4, hx124_5, hx124_6⟩ := xT (at_T71 HR0.out x3_1); obtain rfl := xE e124; obtain ⟨p125, q125, ad125, e125, hx125_0, hx125_1, hx125_2, hx125_3, hx125_4, hx125_5, hx125_6⟩ := xT (at_T71 HR0.out x3_1); obtain rfl := xE e125; go_wp2; go_roundg k1
    case measure => exact xO1
    case rel => exact ⟨(wrap64 (x3_1 + 1)), xR, H', ⟨xO1⟩, by repeat (first | exact Drawn0.refl _ | apply Drawn0.step)⟩
   replace c2 := decide_eq_false c2; obtain rfl := Option.some.inj H; go_wp2; go_ret; exact ⟨xR, xG⟩
def armadaref18_Few.l0 : Nat → List (S61) → Int → Option (Bool)
 | 0, _, _ => none
 | k + 1, x0, x3 => if x3 < (x0.length : Int) then (if 0 ≤ x3 then (if (((rd_T61 x0 x3).f0).size : Int) > 200 then (some false) else (armadaref18_Few.l0 k x0 (wrap64 (x3 + 1)))) else (none)) else (some (decide ((x0.length : Int) ≤ 20)))
def armadaref18_Few.f (k : Nat) (l0 : List (S61)) : Option (Bool) := armadaref18_Few.l0 k l0 0
theorem armadaref18_Few.mono_l : ∀ k, (∀ y0 y1, LeO (armadaref18_Few.l0 k y0 y1) (armadaref18_Few.l0 (k + 1) y0 y1))
 | 0 => fun _ _ r h => by simp [armadaref18_Few.l0] at h
 | k + 1 => by
  have ih0 := armadaref18_Few.mono_l k
  ·
   intro y0 y1; unfold armadaref18_Few.l0; exact xM
theorem armadaref18_Few.mono : ∀ a0 k, LeO (armadaref18_Few.f k a0) (armadaref18_Few.f (k + 1) a0) := by
 intro a0 k; have ih0 := armadaref18_Few.mono_l k; unfold armadaref18_Few.f; exact xM
set_option maxHeartbeats 8000000 in
set_option maxRecDepth 100000 in
theorem armadaref18_Few.calls (k : Nat) (A0 : Option Addr) (c0 : Nat) (l0 : List (S61)) (r : Bool) (w : World) (hr0 : Kd.C k61 w A0 l0.length l0) (hc0 : l0.length ≤ c0) (h : armadaref18_Few.f k l0 = some r) :
  Calls Tryz.prog 38 #[.slice A0 l0.length c0] w fun e w' => e = .returned (.bool r) ∧ Drawn0 w w' := by
 have HR0 := Aside0.mk hr0; have HC0 := Aside0.mk hc0; clear hr0 hc0; have H : (armadaref18_Few.l0 k l0 0) = some r := h; clear h; have H' := Aside0.mk H; clear H; go_enter Tryz.func38, Tryz.ntmps38; go_wp2
 go_loopg [3] k (fun kq v3 w' => ∃ (x3_1 : Int), v3 = .int .i64 x3_1 ∧ Aside0 (armadaref18_Few.l0 kq l0 x3_1 = some r) ∧ Aside0 (kq ≤ k) ∧ Drawn0 w w')
 case atStart => exact ⟨(0), xR, H', ⟨Nat.le_refl _⟩, by repeat (first | exact Drawn0.refl _ | apply Drawn0.step)⟩
 case round =>
  clear H'; obtain ⟨x3_1, rfl, HA, HK1, ⟨m1, rfl⟩⟩ := hrel
  cases gk with
  | zero => exact absurd HA.out (by simp [armadaref18_Few.l0])
  | succ k1 =>
   have H := HA.out; clear HA; simp only [armadaref18_Few.l0] at H; replace H := xJ H; rcases H with ⟨c2, H⟩ | ⟨c2, H⟩
   ·
    replace c2 := decide_eq_true c2; replace H := xI H; obtain ⟨c3, H⟩ := H; replace c3 := decide_eq_true c3; replace H := xJ H; rcases H with ⟨c4, H⟩ | ⟨c4, H⟩
    ·
     have c4b0 := decide_eq_true c4; have c4b1 : decide (200 < ((rd_T61 l0 x3_1).f0).size) = true := decide_eq_true (by omega); clear c4; obtain rfl := Option.some.inj H; obtain ⟨p126, q126, ad126, e126, hx126_0, hx126_1⟩ := xT (at_T61 HR0.out x3_1)
     cases e126
     go_wp2; go_ret; exact ⟨xR, xG⟩
    have c4b0 := decide_eq_false c4; have c4b1 : decide (200 < ((rd_T61 l0 x3_1).f0).size) = false := decide_eq_false (by omega); clear c4; have H' := Aside0.mk H; clear H; obtain ⟨p126, q126, ad126, e126, hx126_0, hx126_1⟩ := xT (at_T61 HR0.out x3_1)
    cases e126
    go_wp2; go_roundg k1
    case measure => exact xO1
    case rel => exact ⟨(wrap64 (x3_1 + 1)), xR, H', ⟨xO1⟩, by repeat (first | exact Drawn0.refl _ | apply Drawn0.step)⟩
   replace c2 := decide_eq_false c2; obtain rfl := Option.some.inj H; go_wp2; go_ret; exact ⟨xR, xG⟩
end Go.Proofs.YtillhaipemengaaGreatDoor.RS
end
