/- The texts RTx2 in one file, without what these claims do not use (put together by prune2.py). -/
import Derived.Test.YtkidfclnakbgiaaGreatDoorZT43
section
namespace Go.Proofs.YtkidfclnakbgiaaGreatDoor.RT
open Go.RowKit Go.Proofs.YtkidfclnakbgiaaGreatDoor Go.Proofs.YtkidfclnakbgiaaGreatDoor.K0 Go.Proofs.YtkidfclnakbgiaaGreatDoor.RD Go.Proofs.YtkidfclnakbgiaaGreatDoor.RS Go.Proofs.YtkidfclnakbgiaaGreatDoorW.PrintWords Go.Proofs.YtkidfclnakbgiaaGreatDoorW.PrintLast Go.Proofs.YtkidfclnakbgiaaGreatDoorW.PrintMore
attribute [local go_sem] max2_int min2_int max_two min_two max_three min_three max_four min_four
set_option linter.unusedVariables false
set_option linter.unusedSimpArgs false
attribute [local go_sem high] eqA27
def armadaref17_more.l0 : Nat → List (S27) → List (S27) → Int → Option ((List (S27)))
 | 0, _, _, _ => none
 | k + 1, x0, x1, x5 => if x5 < (x1.length : Int) then (if 0 ≤ x5 then ((armadaref17_May.f k ((rd_T27 x1 x5).f0) ((rd_T27 x1 x5).f1.f0) ((rd_T27 x1 x5).f1.f1) ((rd_T27 x1 x5).f1.f2) ((rd_T27 x1 x5).f1.f3) ((rd_T27 x1 x5).f1.f4)).bind fun t102 => (if t102 = true then ((armadaref17_In.f k x0 ((rd_T27 x1 x5).f0) ((rd_T27 x1 x5).f1.f0) ((rd_T27 x1 x5).f1.f1) ((rd_T27 x1 x5).f1.f2) ((rd_T27 x1 x5).f1.f3) ((rd_T27 x1 x5).f1.f4)).bind fun t104 => (if t104 = true then (armadaref17_more.l0 k x0 x1 (wrap64 (x5 + 1))) else (if x0.length < 1954687338268 then (armadaref17_more.l0 k (x0 ++ [(⟨(rd_T27 x1 x5).f0, (⟨(rd_T27 x1 x5).f1.f0, (rd_T27 x1 x5).f1.f1, (rd_T27 x1 x5).f1.f2, (rd_T27 x1 x5).f1.f3, (rd_T27 x1 x5).f1.f4⟩ : S25)⟩ : S27)]) x1 (wrap64 (x5 + 1))) else (none)))) else (armadaref17_more.l0 k x0 x1 (wrap64 (x5 + 1))))) else (none)) else (some x0)
def armadaref17_more.f (k : Nat) (l0 : List (S27)) (l1 : List (S27)) : Option ((List (S27))) := armadaref17_more.l0 k l0 l1 0
theorem armadaref17_more.mono_l : ∀ k, (∀ y0 y1 y2, LeO (armadaref17_more.l0 k y0 y1 y2) (armadaref17_more.l0 (k + 1) y0 y1 y2))
 | 0 => fun _ _ _ r h => by simp [armadaref17_more.l0] at h
 | k + 1 => by
  have ih0 := armadaref17_more.mono_l k
  ·
   intro y0 y1 y2
   unfold armadaref17_more.l0
   repeat' first
   | (with_reducible exact ih0 _ _ _)
   | (with_reducible exact armadaref17_In.mono _ _ _ _ _ _ _ _)
   | (with_reducible exact armadaref17_May.mono _ _ _ _ _ _ _)
   | (with_reducible exact LeO.refl _)
   | (with_reducible exact LeO.none _)
   | (with_reducible refine LeO.ite ?_ ?_)
   | (with_reducible refine LeO.bind ?_ (fun _ => ?_))
   | exact ih0 _ _ _
   | exact armadaref17_In.mono _ _ _ _ _ _ _ _
   | exact armadaref17_May.mono _ _ _ _ _ _ _
   | exact LeO.none _
   | refine LeO.ite ?_ ?_
   | refine LeO.bind ?_ (fun _ => ?_)
theorem armadaref17_more.mono : ∀ a0 a1 k, LeO (armadaref17_more.f k a0 a1) (armadaref17_more.f (k + 1) a0 a1) := by
 intro a0 a1 k
 have ih0 := armadaref17_more.mono_l k
 unfold armadaref17_more.f
 repeat' first
   | (with_reducible exact ih0 _ _ _)
   | (with_reducible exact armadaref17_In.mono _ _ _ _ _ _ _ _)
   | (with_reducible exact armadaref17_May.mono _ _ _ _ _ _ _)
   | (with_reducible exact LeO.refl _)
   | (with_reducible exact LeO.none _)
   | (with_reducible refine LeO.ite ?_ ?_)
   | (with_reducible refine LeO.bind ?_ (fun _ => ?_))
   | exact ih0 _ _ _
   | exact armadaref17_In.mono _ _ _ _ _ _ _ _
   | exact armadaref17_May.mono _ _ _ _ _ _ _
   | exact LeO.none _
   | refine LeO.ite ?_ ?_
   | refine LeO.bind ?_ (fun _ => ?_)
set_option maxHeartbeats 8000000 in
set_option maxRecDepth 100000 in
theorem armadaref17_more.calls (k : Nat) (P0_ : Nat → Prop) (u9000_ : Value) (l0 : List (S27)) (A1 : Option Addr) (c1 : Nat) (l1 : List (S27)) (r : List (S27)) (w0 w : World) (hB : Below w0.heap.size w0 w) (ho0 : Kd.R k27 27 w w0.heap.size P0_ u9000_ l0) (hr1 : ∀ W_, Kept w W_ (fun k_ => P0_ k_) → Kd.C k27 W_ A1 l1.length l1) (hc1 : l1.length ≤ c1) (h : armadaref17_more.f k l0 l1 = some r) :
  Calls Tryz.prog 32 #[u9000_, .slice A1 l1.length c1] w fun e w' => ∃ v0_ : Value, e = .returned (v0_) ∧ Kd.R k27 27 w' w0.heap.size (fun k_ => (P0_ k_ ∨ w.heap.size ≤ k_)) v0_ r ∧ Below w0.heap.size w0 w' ∧ Kept w w' (fun k_ => P0_ k_) := by
 have hu27 := Tryz.underlying27
 have HO0 := Aside0.mk (show Kd.R k27 27 w w0.heap.size (fun k_ => (P0_ k_ ∨ w.heap.size ≤ k_)) u9000_ l0 from Kd.R_mono ho0 (fun k_ hk => (.inl hk)))
 have HR1 := Aside0.mk hr1
 have HC1 := Aside0.mk hc1
 clear hr1 hc1
 have HK := Aside0.mk (Kept.refl w (fun k_ => P0_ k_))
 have HW0 := Aside0.mk hB.size
 have HB := Aside0.mk hB
 clear hB
 have H : (armadaref17_more.l0 k l0 l1 0) = some r := h
 clear h
 have H' := Aside0.mk H
 clear H
 go_enter Tryz.func32, Tryz.ntmps32
 go_wp2
 go_loopg [0, 5] k (fun kq v0 v5 w' => ∃ (x0_1 : List (S27)) (x5_1 : Int), v5 = .int .i64 x5_1 ∧ Aside0 (armadaref17_more.l0 kq x0_1 l1 x5_1 = some r) ∧ Aside0 (kq ≤ k) ∧ Aside0 (Kd.R k27 27 w' w0.heap.size (fun k_ => (P0_ k_ ∨ w.heap.size ≤ k_)) v0 x0_1) ∧ Aside0 (Kept w w' (fun k_ => P0_ k_)) ∧ Aside0 (Below w0.heap.size w0 w'))
 case atStart => exact ⟨(l0), (0), xR, H', ⟨Nat.le_refl _⟩, ⟨by (with_reducible repeat (first | apply Kd.R_alloc | apply Kd.R_drewN | apply Kd.R_drew)); exact HO0.out⟩, ⟨by repeat (first | (with_reducible first | exact HK.out | apply Kept.alloc | apply Kept.drewN | apply Kept.drew) | exact HK.out)⟩, ⟨xB⟩⟩
 case round =>
  clear H'
  try clear c1
  try clear p2
  obtain ⟨x0_1, x5_1, rfl, HA, HK1, HO_0, HK, HB⟩ := hrel
  cases gk with
  | zero => exact absurd HA.out (by simp [armadaref17_more.l0])
  | succ k1 =>
   have H := HA.out
   clear HA
   simp only [armadaref17_more.l0] at H
   by_cases c3 : x5_1 < (l1.length : Int)
   ·
    rw [if_pos c3] at H
    have c3b0 := decide_eq_true c3
    clear c3
    replace H := xI H
    obtain ⟨c4, H⟩ := H
    have c4b0 := decide_eq_true c4
    clear c4
    replace H := xb H
    obtain ⟨t102, A5, H⟩ := H
    by_cases c6 : t102 = true
    ·
     subst c6
     rw [if_pos rfl] at H
     replace H := xb H
     obtain ⟨t104, A7, H⟩ := H
     by_cases c8 : t104 = true
     ·
      subst c8
      rw [if_pos rfl] at H
      have H' := Aside0.mk H
      clear H
      have p101 : 0 ≤ (x5_1 : Int) := xD
      have q101 : x5_1 < (l1.length : Int) := xD
      obtain ⟨ad101, e101, hx101_0, hx101_1, hx101_2, hx101_3, hx101_4, hx101_5⟩ := at_T27 (Kd.C_kept_now HR1.out HK.out) x5_1 p101 q101
      cases e101
      replace p101 := eq_true p101
      replace q101 := eq_true q101
      go_wp2_with (first | ((with_reducible refine gate_callee (f := 25) rfl ?_); refine goesL_ (some 16) rfl rfl Tryz.func25 (by kernel_rfl) rfl #[.agg #[.string ((rd_T27 l1 x5_1).f0), .int .i64 ((rd_T27 l1 x5_1).f1.f0), .int .i64 ((rd_T27 l1 x5_1).f1.f1), .int .i64 ((rd_T27 l1 x5_1).f1.f2), .string ((rd_T27 l1 x5_1).f1.f3), .string ((rd_T27 l1 x5_1).f1.f4)]] rfl xS ?_; (with_reducible refine (armadaref17_May.calls k1 ((rd_T27 l1 x5_1).f0) ((rd_T27 l1 x5_1).f1.f0) ((rd_T27 l1 x5_1).f1.f1) ((rd_T27 l1 x5_1).f1.f2) ((rd_T27 l1 x5_1).f1.f3) ((rd_T27 l1 x5_1).f1.f4) true _ A5.out).mono ?_); rintro e w9 ⟨rfl, hb⟩; refine ⟨_, rfl, ?_⟩; replace HO_0 := Aside0.mk (Kd.R_below (by (with_reducible repeat (first | apply Kd.R_alloc | apply Kd.R_drewN | apply Kd.R_drew)); exact HO_0.out) hb); replace HK := Aside0.mk (Kept.below (S := (fun k_ => P0_ k_)) (by repeat (first | (with_reducible first | exact HK.out | apply Kept.alloc | apply Kept.drewN | apply Kept.drew) | exact HK.out)) hb); replace HB := Aside0.mk (below_step xB hb); (try clear hb); (try clear hb2); (try clear hk); (try clear hi); have p103 : 0 ≤ (x5_1 : Int) := xD; have q103 : x5_1 < (l1.length : Int) := xD; obtain ⟨ad103, e103, hx103_0, hx103_1, hx103_2, hx103_3, hx103_4, hx103_5⟩ := at_T27 (Kd.C_kept_now HR1.out HK.out) x5_1 p103 q103; obtain rfl : ad101 = ad103 := (by injection e103); replace p103 := eq_true p103; replace q103 := eq_true q103; obtain ⟨Ao10, co10, eo10⟩ := Kd.R_slice HO_0.out; subst eo10) | (go_at_call 23; (with_reducible refine (armadaref17_In.calls k1 _ _ x0_1 ((rd_T27 l1 x5_1).f0) ((rd_T27 l1 x5_1).f1.f0) ((rd_T27 l1 x5_1).f1.f1) ((rd_T27 l1 x5_1).f1.f2) ((rd_T27 l1 x5_1).f1.f3) ((rd_T27 l1 x5_1).f1.f4) true _ ?side1 ?side2 A7.out).mono ?_); (case side1 => repeat (first | exact (Kd.R_reads' HO_0.out).2.2 | (with_reducible refine Kd.C_alloc ?_ _) | (with_reducible refine Kd.C_drewN ?_ _) | (with_reducible refine Kd.C_drew ?_))); (case side2 => exact (Kd.R_reads' HO_0.out).2.1); rintro e w11 ⟨rfl, hb⟩; replace HO_0 := Aside0.mk (Kd.R_below (by (with_reducible repeat (first | apply Kd.R_alloc | apply Kd.R_drewN | apply Kd.R_drew)); exact HO_0.out) hb); replace HK := Aside0.mk (Kept.below (S := (fun k_ => P0_ k_)) (by repeat (first | (with_reducible first | exact HK.out | apply Kept.alloc | apply Kept.drewN | apply Kept.drew) | exact HK.out)) hb); replace HB := Aside0.mk (below_step xB hb); (try clear hb); (try clear hb2); (try clear hk); (try clear hi)))
      go_roundg k1
      case measure => have := HK1.out; omega
      case rel => exact ⟨(x0_1), (wrap64 (x5_1 + 1)), xR, H', ⟨by have := HK1.out; omega⟩, ⟨by (with_reducible repeat (first | apply Kd.R_alloc | apply Kd.R_drewN | apply Kd.R_drew)); exact HO_0.out⟩, ⟨by repeat (first | (with_reducible first | exact HK.out | apply Kept.alloc | apply Kept.drewN | apply Kept.drew) | exact HK.out)⟩, ⟨xB⟩⟩
     replace c8 := Bool.eq_false_iff.mpr c8
     subst c8
     rw [if_neg (show ¬ (false = true) by decide)] at H
     replace H := xI H
     obtain ⟨c12, H⟩ := H
     have LMc12 := Aside0.mk c12
     clear c12
     obtain ⟨y106, hy106⟩ : ∃ y_ : List (S27), y_ = (x0_1 ++ [(⟨(rd_T27 l1 x5_1).f0, (⟨(rd_T27 l1 x5_1).f1.f0, (rd_T27 l1 x5_1).f1.f1, (rd_T27 l1 x5_1).f1.f2, (rd_T27 l1 x5_1).f1.f3, (rd_T27 l1 x5_1).f1.f4⟩ : S25)⟩ : S27)]) := ⟨_, rfl⟩
     replace H : (armadaref17_more.l0 k1 y106 l1 (wrap64 (x5_1 + 1))) = some r := by first | (rw [hy106]; with_reducible exact H) | (have H2_ := (Option.bind_some _ _).symm.trans H; rw [hy106]; with_reducible exact H2_) | (have H2_ := (Option.bind_some _ _).symm.trans H; with_reducible exact H2_) | with_reducible exact H | (rw [hy106]; exact H) | exact H
     have Ny106 := Aside0.mk hy106
     clear hy106
     have H' := Aside0.mk H
     clear H
     have p101 : 0 ≤ (x5_1 : Int) := xD
     have q101 : x5_1 < (l1.length : Int) := xD
     obtain ⟨ad101, e101, hx101_0, hx101_1, hx101_2, hx101_3, hx101_4, hx101_5⟩ := at_T27 (Kd.C_kept_now HR1.out HK.out) x5_1 p101 q101
     cases e101
     replace p101 := eq_true p101
     replace q101 := eq_true q101
     go_wp2_with (first | ((with_reducible refine gate_callee (f := 25) rfl ?_); refine goesL_ (some 16) rfl rfl Tryz.func25 (by kernel_rfl) rfl #[.agg #[.string ((rd_T27 l1 x5_1).f0), .int .i64 ((rd_T27 l1 x5_1).f1.f0), .int .i64 ((rd_T27 l1 x5_1).f1.f1), .int .i64 ((rd_T27 l1 x5_1).f1.f2), .string ((rd_T27 l1 x5_1).f1.f3), .string ((rd_T27 l1 x5_1).f1.f4)]] rfl xS ?_; (with_reducible refine (armadaref17_May.calls k1 ((rd_T27 l1 x5_1).f0) ((rd_T27 l1 x5_1).f1.f0) ((rd_T27 l1 x5_1).f1.f1) ((rd_T27 l1 x5_1).f1.f2) ((rd_T27 l1 x5_1).f1.f3) ((rd_T27 l1 x5_1).f1.f4) true _ A5.out).mono ?_); rintro e w13 ⟨rfl, hb⟩; refine ⟨_, rfl, ?_⟩; replace HO_0 := Aside0.mk (Kd.R_below (by (with_reducible repeat (first | apply Kd.R_alloc | apply Kd.R_drewN | apply Kd.R_drew)); exact HO_0.out) hb); replace HK := Aside0.mk (Kept.below (S := (fun k_ => P0_ k_)) (by repeat (first | (with_reducible first | exact HK.out | apply Kept.alloc | apply Kept.drewN | apply Kept.drew) | exact HK.out)) hb); replace HB := Aside0.mk (below_step xB hb); (try clear hb); (try clear hb2); (try clear hk); (try clear hi); have p103 : 0 ≤ (x5_1 : Int) := xD; have q103 : x5_1 < (l1.length : Int) := xD; obtain ⟨ad103, e103, hx103_0, hx103_1, hx103_2, hx103_3, hx103_4, hx103_5⟩ := at_T27 (Kd.C_kept_now HR1.out HK.out) x5_1 p103 q103; obtain rfl : ad101 = ad103 := (by injection e103); replace p103 := eq_true p103; replace q103 := eq_true q103; obtain ⟨Ao14, co14, eo14⟩ := Kd.R_slice HO_0.out; subst eo14) | (go_at_call 23; (with_reducible refine (armadaref17_In.calls k1 _ _ x0_1 ((rd_T27 l1 x5_1).f0) ((rd_T27 l1 x5_1).f1.f0) ((rd_T27 l1 x5_1).f1.f1) ((rd_T27 l1 x5_1).f1.f2) ((rd_T27 l1 x5_1).f1.f3) ((rd_T27 l1 x5_1).f1.f4) false _ ?side1 ?side2 A7.out).mono ?_); (case side1 => repeat (first | exact (Kd.R_reads' HO_0.out).2.2 | (with_reducible refine Kd.C_alloc ?_ _) | (with_reducible refine Kd.C_drewN ?_ _) | (with_reducible refine Kd.C_drew ?_))); (case side2 => exact (Kd.R_reads' HO_0.out).2.1); rintro e w15 ⟨rfl, hb⟩; replace HO_0 := Aside0.mk (Kd.R_below (by (with_reducible repeat (first | apply Kd.R_alloc | apply Kd.R_drewN | apply Kd.R_drew)); exact HO_0.out) hb); replace HK := Aside0.mk (Kept.below (S := (fun k_ => P0_ k_)) (by repeat (first | (with_reducible first | exact HK.out | apply Kept.alloc | apply Kept.drewN | apply Kept.drew) | exact HK.out)) hb); replace HB := Aside0.mk (below_step xB hb); (try clear hb); (try clear hb2); (try clear hk); (try clear hi); have p105 : 0 ≤ (x5_1 : Int) := xD; have q105 : x5_1 < (l1.length : Int) := xD; obtain ⟨ad105, e105, hx105_0, hx105_1, hx105_2, hx105_3, hx105_4, hx105_5⟩ := at_T27 (Kd.C_kept_now HR1.out HK.out) x5_1 p105 q105; obtain rfl : ad101 = ad105 := (by injection e105); replace p105 := eq_true p105; replace q105 := eq_true q105) | ((with_reducible refine gate_builtin (b := .append) (xs := #[.tmp 26, .tmp 31]) rfl ?_); at_builtin; refine Kd.R_append k27 (w0 := w0) w0.heap.size rfl (.tmp 26) (.tmp 31) 22 27 (.agg #[(.string ⟨#[]⟩), (.int .i64 0), (.int .i64 0), (.int .i64 0), (.string ⟨#[]⟩), (.string ⟨#[]⟩)]) 72 rfl Tryz.underlying22 info27 rfl (by decide) (by omega) (.slice Ao14 x0_1.length co14) x0_1 (⟨(rd_T27 l1 x5_1).f0, (⟨(rd_T27 l1 x5_1).f1.f0, (rd_T27 l1 x5_1).f1.f1, (rd_T27 l1 x5_1).f1.f2, (rd_T27 l1 x5_1).f1.f3, (rd_T27 l1 x5_1).f1.f4⟩ : S25)⟩ : S27) [.string ((rd_T27 l1 x5_1).f0), .int .i64 ((rd_T27 l1 x5_1).f1.f0), .int .i64 ((rd_T27 l1 x5_1).f1.f1), .int .i64 ((rd_T27 l1 x5_1).f1.f2), .string ((rd_T27 l1 x5_1).f1.f3), .string ((rd_T27 l1 x5_1).f1.f4)] (fun k_ => (P0_ k_ ∨ w.heap.size ≤ k_)) (fun _ => False) rfl rfl ?aP (fun _ hk => hk.elim) ?aF ?aO ?aB ?aS ?aL ?_; (case aP => exact k27_mkM _ _ _ (⟨(rd_T27 l1 x5_1).f0, (⟨(rd_T27 l1 x5_1).f1.f0, (rd_T27 l1 x5_1).f1.f1, (rd_T27 l1 x5_1).f1.f2, (rd_T27 l1 x5_1).f1.f3, (rd_T27 l1 x5_1).f1.f4⟩ : S25)⟩ : S27)); (case aB => exact xB); (case aF => exact (fun k_ hk => (.inr (Nat.le_trans (by first | exact HK.out.1 | exact (show Kept w _ (fun k_ => P0_ k_) from by repeat (first | (with_reducible first | exact HK.out | apply Kept.alloc | apply Kept.drewN | apply Kept.drew) | exact HK.out)).1) hk)))); (case aO => exact (by (with_reducible repeat (first | apply Kd.R_alloc | apply Kd.R_drewN | apply Kd.R_drew)); exact HO_0.out)); (case aS => exact (below_size xB)); (case aL => have := LMc12.out; omega); intro v107 w16 ho hb hg hat; rw [← Ny106.out] at ho; replace HK := Aside0.mk (Kept.of_grown (S := (fun k_ => P0_ k_)) hg (by repeat (first | (with_reducible first | exact HK.out | apply Kept.alloc | apply Kept.drewN | apply Kept.drew) | exact HK.out)) (fun k_ e_ => (HO_0.out.1 k_ e_))); have HO108 := Aside0.mk (ho); replace HB := Aside0.mk (hb); clear HO_0; clear ho hb hg hat))
     go_roundg k1
     case measure => have := HK1.out; omega
     case rel => exact ⟨(y106), (wrap64 (x5_1 + 1)), xR, H', ⟨by have := HK1.out; omega⟩, ⟨by (with_reducible repeat (first | apply Kd.R_alloc | apply Kd.R_drewN | apply Kd.R_drew)); exact HO108.out⟩, ⟨by repeat (first | (with_reducible first | exact HK.out | apply Kept.alloc | apply Kept.drewN | apply Kept.drew) | exact HK.out)⟩, ⟨xB⟩⟩
    replace c6 := Bool.eq_false_iff.mpr c6
    subst c6
    rw [if_neg (show ¬ (false = true) by decide)] at H
    have H' := Aside0.mk H
    clear H
    have p101 : 0 ≤ (x5_1 : Int) := xD
    have q101 : x5_1 < (l1.length : Int) := xD
    obtain ⟨ad101, e101, hx101_0, hx101_1, hx101_2, hx101_3, hx101_4, hx101_5⟩ := at_T27 (Kd.C_kept_now HR1.out HK.out) x5_1 p101 q101
    cases e101
    replace p101 := eq_true p101
    replace q101 := eq_true q101
    go_wp2_with (first | ((with_reducible refine gate_callee (f := 25) rfl ?_); refine goesL_ (some 16) rfl rfl Tryz.func25 (by kernel_rfl) rfl #[.agg #[.string ((rd_T27 l1 x5_1).f0), .int .i64 ((rd_T27 l1 x5_1).f1.f0), .int .i64 ((rd_T27 l1 x5_1).f1.f1), .int .i64 ((rd_T27 l1 x5_1).f1.f2), .string ((rd_T27 l1 x5_1).f1.f3), .string ((rd_T27 l1 x5_1).f1.f4)]] rfl xS ?_; (with_reducible refine (armadaref17_May.calls k1 ((rd_T27 l1 x5_1).f0) ((rd_T27 l1 x5_1).f1.f0) ((rd_T27 l1 x5_1).f1.f1) ((rd_T27 l1 x5_1).f1.f2) ((rd_T27 l1 x5_1).f1.f3) ((rd_T27 l1 x5_1).f1.f4) false _ A5.out).mono ?_); rintro e w17 ⟨rfl, hb⟩; refine ⟨_, rfl, ?_⟩; replace HO_0 := Aside0.mk (Kd.R_below (by (with_reducible repeat (first | apply Kd.R_alloc | apply Kd.R_drewN | apply Kd.R_drew)); exact HO_0.out) hb); replace HK := Aside0.mk (Kept.below (S := (fun k_ => P0_ k_)) (by repeat (first | (with_reducible first | exact HK.out | apply Kept.alloc | apply Kept.drewN | apply Kept.drew) | exact HK.out)) hb); replace HB := Aside0.mk (below_step xB hb); (try clear hb); (try clear hb2); (try clear hk); (try clear hi)))
    go_roundg k1
    case measure => have := HK1.out; omega
    case rel => exact ⟨(x0_1), (wrap64 (x5_1 + 1)), xR, H', ⟨by have := HK1.out; omega⟩, ⟨by (with_reducible repeat (first | apply Kd.R_alloc | apply Kd.R_drewN | apply Kd.R_drew)); exact HO_0.out⟩, ⟨by repeat (first | (with_reducible first | exact HK.out | apply Kept.alloc | apply Kept.drewN | apply Kept.drew) | exact HK.out)⟩, ⟨xB⟩⟩
   rw [if_neg c3] at H
   have c3b0 := decide_eq_false c3
   clear c3
   obtain rfl := Option.some.inj H
   go_wp2
   go_ret
   exact ⟨_, by first | rfl | (simp [errW_none, errW_some] <;> rfl) | (simp [*, errW_none, errW_some] <;> rfl) | (simp [isEmpty_bne]; done), by (with_reducible repeat (first | apply Kd.R_alloc | apply Kd.R_drewN | apply Kd.R_drew)); exact HO_0.out, xB, by repeat (first | (with_reducible first | exact HK.out | apply Kept.alloc | apply Kept.drewN | apply Kept.drew) | exact HK.out)⟩
def armadaref17_requires.l0 : Nat → List (S46) → Int → ByteArray → Int → Int → Int → ByteArray → ByteArray → Option ((List (S27)))
 | 0, _, _, _, _, _, _, _, _ => none
 | k + 1, x0, x5, x110000, x110001, x110002, x110003, x110004, x110005 => if x5 < (x0.length : Int) then (if 0 ≤ x5 then (if ((((rd_T46 x0 x5).f0.f0).toList) == x110000.toList && ((((rd_T46 x0 x5).f0.f1.f0) == x110001 && (((rd_T46 x0 x5).f0.f1.f1) == x110002 && (((rd_T46 x0 x5).f0.f1.f2) == x110003 && ((((rd_T46 x0 x5).f0.f1.f3).toList) == x110004.toList && ((((rd_T46 x0 x5).f0.f1.f4).toList) == x110005.toList))))))) = true then (some ((rd_T46 x0 x5).f1)) else (armadaref17_requires.l0 k x0 (wrap64 (x5 + 1)) x110000 x110001 x110002 x110003 x110004 x110005)) else (none)) else (some ([] : List (S27)))
def armadaref17_requires.f (k : Nat) (l0 : List (S46)) (a1_0 : ByteArray) (a1_1 : Int) (a1_2 : Int) (a1_3 : Int) (a1_4 : ByteArray) (a1_5 : ByteArray) : Option ((List (S27))) := armadaref17_requires.l0 k l0 0 a1_0 a1_1 a1_2 a1_3 a1_4 a1_5
theorem armadaref17_requires.mono_l : ∀ k, (∀ y0 y1 y2 y3 y4 y5 y6 y7, LeO (armadaref17_requires.l0 k y0 y1 y2 y3 y4 y5 y6 y7) (armadaref17_requires.l0 (k + 1) y0 y1 y2 y3 y4 y5 y6 y7))
 | 0 => fun _ _ _ _ _ _ _ _ r h => by simp [armadaref17_requires.l0] at h
 | k + 1 => by
  have ih0 := armadaref17_requires.mono_l k
  ·
   intro y0 y1 y2 y3 y4 y5 y6 y7
   unfold armadaref17_requires.l0
   exact xM
theorem armadaref17_requires.mono : ∀ a0 a1 a2 a3 a4 a5 a6 k, LeO (armadaref17_requires.f k a0 a1 a2 a3 a4 a5 a6) (armadaref17_requires.f (k + 1) a0 a1 a2 a3 a4 a5 a6) := by
 intro a0 a1 a2 a3 a4 a5 a6 k
 have ih0 := armadaref17_requires.mono_l k
 unfold armadaref17_requires.f
 exact xM
set_option maxHeartbeats 8000000 in
set_option maxRecDepth 100000 in
theorem armadaref17_requires.calls (k : Nat) (P0_ : Nat → Prop) (A0 : Option Addr) (c0 : Nat) (l0 : List (S46)) (a1_0 : ByteArray) (a1_1 : Int) (a1_2 : Int) (a1_3 : Int) (a1_4 : ByteArray) (a1_5 : ByteArray) (r : List (S27)) (w : World) (hs0 : Kd.V k46 46 w w.heap.size (fun k_ => P0_ k_) (.slice A0 l0.length c0) l0) (h : armadaref17_requires.f k l0 a1_0 a1_1 a1_2 a1_3 a1_4 a1_5 = some r) :
  Calls Tryz.prog 33 #[.slice A0 l0.length c0, .agg #[.string a1_0, .int .i64 a1_1, .int .i64 a1_2, .int .i64 a1_3, .string a1_4, .string a1_5]] w fun e w' => ∃ v0_ : Value, e = .returned (v0_) ∧ Kd.V k27 27 w' w.heap.size (fun k_ => (P0_ k_ ∨ w.heap.size ≤ k_)) v0_ r ∧ Below w.heap.size w w' := by
 have hu27 := Tryz.underlying27
 have HO0 := Aside0.mk (show Kd.V k46 46 w w.heap.size (fun k_ => (P0_ k_ ∨ w.heap.size ≤ k_)) (.slice A0 l0.length c0) l0 from Kd.V_mono hs0 (fun k_ hk => .inl hk))
 have HB := Aside0.mk (Below.refl w.heap.size w)
 have H : (armadaref17_requires.l0 k l0 0 a1_0 a1_1 a1_2 a1_3 a1_4 a1_5) = some r := h
 clear h
 have H' := Aside0.mk H
 clear H
 go_enter Tryz.func33, Tryz.ntmps33
 go_wp2_with (first | ((with_reducible refine gate_dst (N := 3) rfl ?_); refine box_event ?hg (N := 3) ?hd (cs := #[.string a1_0, .int .i64 a1_1, .int .i64 a1_2, .int .i64 a1_3, .string a1_4, .string a1_5]) (t := 27) ?hr ?_; (case hd => rfl); (case hg => rfl); (case hr => first | (go_simp; done) | (go_simp; rfl)); intro gb109 hg w3 hbox hb; replace HO0 := Aside0.mk (Kd.V_below (Kd.V_elderB (by (with_reducible repeat (first | apply Kd.V_alloc | apply Kd.V_drewN | apply Kd.V_drew)); exact HO0.out) gb109 (Nat.le_of_eq hg.symm)) hb); have BK109 := Aside0.mk (hbox); have GW109 := Aside0.mk ((by rw [hg]; exact (below_size xB) : w.heap.size ≤ gb109)); have GE109 := Aside0.mk ((by rw [hg]; exact (below_size xB) : w.heap.size ≤ gb109)); replace HB := Aside0.mk (below_step xB hb); clear hb hbox hg))
 repeat (go_quiet (first | ((with_reducible refine gate_dst (N := 3) rfl ?_); refine box_event ?hg (N := 3) ?hd (cs := #[.string a1_0, .int .i64 a1_1, .int .i64 a1_2, .int .i64 a1_3, .string a1_4, .string a1_5]) (t := 27) ?hr ?_; (case hd => rfl); (case hg => rfl); (case hr => first | (go_simp; done) | (go_simp; rfl)); intro gb109 hg w3 hbox hb; replace HO0 := Aside0.mk (Kd.V_below (Kd.V_elderB (by (with_reducible repeat (first | apply Kd.V_alloc | apply Kd.V_drewN | apply Kd.V_drew)); exact HO0.out) gb109 (Nat.le_of_eq hg.symm)) hb); have BK109 := Aside0.mk (hbox); have GW109 := Aside0.mk ((by rw [hg]; exact (below_size xB) : w.heap.size ≤ gb109)); have GE109 := Aside0.mk ((by rw [hg]; exact (below_size xB) : w.heap.size ≤ gb109)); replace HB := Aside0.mk (below_step xB hb); clear hb hbox hg)); try go_wp2_with (first | ((with_reducible refine gate_dst (N := 3) rfl ?_); refine box_event ?hg (N := 3) ?hd (cs := #[.string a1_0, .int .i64 a1_1, .int .i64 a1_2, .int .i64 a1_3, .string a1_4, .string a1_5]) (t := 27) ?hr ?_; (case hd => rfl); (case hg => rfl); (case hr => first | (go_simp; done) | (go_simp; rfl)); intro gb109 hg w3 hbox hb; replace HO0 := Aside0.mk (Kd.V_below (Kd.V_elderB (by (with_reducible repeat (first | apply Kd.V_alloc | apply Kd.V_drewN | apply Kd.V_drew)); exact HO0.out) gb109 (Nat.le_of_eq hg.symm)) hb); have BK109 := Aside0.mk (hbox); have GW109 := Aside0.mk ((by rw [hg]; exact (below_size xB) : w.heap.size ≤ gb109)); have GE109 := Aside0.mk ((by rw [hg]; exact (below_size xB) : w.heap.size ≤ gb109)); replace HB := Aside0.mk (below_step xB hb); clear hb hbox hg)))
 go_loopg [5] k (fun kq v5 w' => ∃ (x5_1 : Int), v5 = .int .i64 x5_1 ∧ Aside0 (armadaref17_requires.l0 kq l0 x5_1 a1_0 a1_1 a1_2 a1_3 a1_4 a1_5 = some r) ∧ Aside0 (kq ≤ k) ∧ Aside0 (Kd.V k46 46 w' w.heap.size (fun k_ => (P0_ k_ ∨ w.heap.size ≤ k_) ∧ k_ ≠ gb109) (.slice A0 l0.length c0) l0) ∧ Aside0 (w'.heap[gb109]? = some (.cells #[.string a1_0, .int .i64 a1_1, .int .i64 a1_2, .int .i64 a1_3, .string a1_4, .string a1_5] 27 (0, 0))) ∧ Aside0 (Below w.heap.size w w'))
 case atStart => exact ⟨(0), xR, H', ⟨Nat.le_refl _⟩, ⟨by (with_reducible repeat (first | apply Kd.V_alloc | apply Kd.V_drewN | apply Kd.V_drew)); exact HO0.out⟩, ⟨by (with_reducible repeat (first | refine blk_drewN ?_ _ | refine blk_drew ?_ | refine blk_alloc ?_ _)); exact BK109.out⟩, ⟨xB⟩⟩
 case round =>
  clear H'
  try clear p2
  try clear c3
  obtain ⟨x5_1, rfl, HA, HK1, HO_0, BK109, HB⟩ := hrel
  cases gk with
  | zero => exact absurd HA.out (by simp [armadaref17_requires.l0])
  | succ k1 =>
   have H := HA.out
   clear HA
   simp only [armadaref17_requires.l0] at H
   by_cases c4 : x5_1 < (l0.length : Int)
   ·
    rw [if_pos c4] at H
    have c4b0 := decide_eq_true c4
    clear c4
    replace H := xI H
    obtain ⟨c5, H⟩ := H
    have c5b0 := decide_eq_true c5
    clear c5
    by_cases c6 : ((((rd_T46 l0 x5_1).f0.f0).toList) == a1_0.toList && ((((rd_T46 l0 x5_1).f0.f1.f0) == a1_1 && (((rd_T46 l0 x5_1).f0.f1.f1) == a1_2 && (((rd_T46 l0 x5_1).f0.f1.f2) == a1_3 && ((((rd_T46 l0 x5_1).f0.f1.f3).toList) == a1_4.toList && ((((rd_T46 l0 x5_1).f0.f1.f4).toList) == a1_5.toList))))))) = true
    ·
     rw [if_pos c6] at H
     have c6b0 : ((((rd_T46 l0 x5_1).f0.f0).toList) == a1_0.toList && ((((rd_T46 l0 x5_1).f0.f1.f0) == a1_1 && (((rd_T46 l0 x5_1).f0.f1.f1) == a1_2 && (((rd_T46 l0 x5_1).f0.f1.f2) == a1_3 && ((((rd_T46 l0 x5_1).f0.f1.f3).toList) == a1_4.toList && ((((rd_T46 l0 x5_1).f0.f1.f4).toList) == a1_5.toList))))))) = true := c6
     (try (have c6b1 : decide ((((rd_T46 l0 x5_1).f0.f0).toList) = a1_0.toList && ((((rd_T46 l0 x5_1).f0.f1.f0) == a1_1 && (((rd_T46 l0 x5_1).f0.f1.f1) == a1_2 && (((rd_T46 l0 x5_1).f0.f1.f2) == a1_3 && ((((rd_T46 l0 x5_1).f0.f1.f3).toList) == a1_4.toList && ((((rd_T46 l0 x5_1).f0.f1.f4).toList) == a1_5.toList))))))) = true := by simpa using c6))
     (try (have c6b2 : ((((rd_T46 l0 x5_1).f0.f0).toList) == a1_0.toList && ((((rd_T46 l0 x5_1).f0.f1.f0) == a1_1 && (((rd_T46 l0 x5_1).f0.f1.f1) == a1_2 && (((rd_T46 l0 x5_1).f0.f1.f2) == a1_3 && ((((rd_T46 l0 x5_1).f0.f1.f3).toList) == a1_4.toList && ((((rd_T46 l0 x5_1).f0.f1.f4).toList) == a1_5.toList))))))) = true := by simpa using c6))
     clear c6
     obtain rfl := Option.some.inj H
     have p110 : 0 ≤ (x5_1 : Int) := xD
     have q110 : x5_1 < (l0.length : Int) := xD
     obtain ⟨ad110, A110_6, c110_6, e110, hx110_0, hx110_1, hx110_2, hx110_3, hx110_4, hx110_5, hx110_6, hl110_6, hi110_6⟩ := at_T46 (Kd.V_reads' HO_0.out).2.2 x5_1 p110 q110
     cases e110
     obtain ⟨ce110, hce110, hMe110, hcc110⟩ := Kd.V_get HO_0.out z46 x5_1 p110 (by first | exact q110 | exact xD | (have e_ := (Kd.V_reads' HO_0.out).1; omega))
     obtain ⟨ua110_6, uc110_6, rfl, ul110_6, ge110_6⟩ := k46_openF hMe110
     have hv110_6 := hcc110 6 _ rfl
     rw [add_field _ _ 6 (by omega)] at hv110_6
     replace hv110_6 := Option.some.inj (hv110_6.symm.trans hx110_6)
     injection hv110_6 with hva_ hvn_ hvc_
     rw [hva_] at ge110_6
     rw [hvc_] at ul110_6
     have HL110_6 := Aside0.mk (show Kd.V k27 27 _ w.heap.size _ _ ((rd_T46 l0 x5_1).f1) from Kd.V_mk ul110_6 ge110_6)
     clear hva_ hvn_ hvc_ ge110_6 ul110_6
     clear hcc110 hce110
     have HR110_6 := Aside0.mk hi110_6
     have HC110_6 := Aside0.mk hl110_6
     clear hi110_6 hl110_6
     replace p110 := eq_true p110
     replace q110 := eq_true q110
     have hcz7_0 : wr.cell? ⟨gb109, 0, none⟩ = some (.string a1_0) := (blk_cell BK109.out 0).trans rfl
     have hcz7_1 : wr.cell? ⟨gb109, 1, none⟩ = some (.int .i64 a1_1) := (blk_cell BK109.out 1).trans rfl
     have hcz7_2 : wr.cell? ⟨gb109, 2, none⟩ = some (.int .i64 a1_2) := (blk_cell BK109.out 2).trans rfl
     have hcz7_3 : wr.cell? ⟨gb109, 3, none⟩ = some (.int .i64 a1_3) := (blk_cell BK109.out 3).trans rfl
     have hcz7_4 : wr.cell? ⟨gb109, 4, none⟩ = some (.string a1_4) := (blk_cell BK109.out 4).trans rfl
     have hcz7_5 : wr.cell? ⟨gb109, 5, none⟩ = some (.string a1_5) := (blk_cell BK109.out 5).trans rfl
     have hfz7_0 := blk_frozen BK109.out 0
     have hfz7_1 := blk_frozen BK109.out 1
     have hfz7_2 := blk_frozen BK109.out 2
     have hfz7_3 := blk_frozen BK109.out 3
     have hfz7_4 := blk_frozen BK109.out 4
     have hfz7_5 := blk_frozen BK109.out 5
     have p111 : 0 ≤ (x5_1 : Int) := xD
     have q111 : x5_1 < (l0.length : Int) := xD
     obtain ⟨ad111, A111_6, c111_6, e111, hx111_0, hx111_1, hx111_2, hx111_3, hx111_4, hx111_5, hx111_6, hl111_6, hi111_6⟩ := at_T46 (Kd.V_reads' HO_0.out).2.2 x5_1 p111 q111
     obtain rfl : ad110 = ad111 := (by injection e111)
     obtain ⟨ce111, hce111, hMe111, hcc111⟩ := Kd.V_get HO_0.out z46 x5_1 p111 (by first | exact q111 | exact xD | (have e_ := (Kd.V_reads' HO_0.out).1; omega))
     obtain ⟨ua111_6, uc111_6, rfl, ul111_6, ge111_6⟩ := k46_openF hMe111
     have hv111_6 := hcc111 6 _ rfl
     rw [add_field _ _ 6 (by omega)] at hv111_6
     replace hv111_6 := Option.some.inj (hv111_6.symm.trans hx111_6)
     injection hv111_6 with hva_ hvn_ hvc_
     rw [hva_] at ge111_6
     rw [hvc_] at ul111_6
     have HL111_6 := Aside0.mk (show Kd.V k27 27 _ w.heap.size _ _ ((rd_T46 l0 x5_1).f1) from Kd.V_mk ul111_6 ge111_6)
     clear hva_ hvn_ hvc_ ge111_6 ul111_6
     clear hcc111 hce111
     have HR111_6 := Aside0.mk hi111_6
     have HC111_6 := Aside0.mk hl111_6
     clear hi111_6 hl111_6
     replace p111 := eq_true p111
     replace q111 := eq_true q111
     have ea_ := Option.some.inj (hx110_6.symm.trans hx111_6)
     injection ea_ with ea_ en_ ec_
     subst ea_
     subst ec_
     clear en_
     go_wp2
     repeat (go_quiet (fail); try go_wp2)
     go_ret
     exact ⟨_, by first | rfl | (simp [errW_none, errW_some] <;> rfl) | (simp [*, errW_none, errW_some] <;> rfl) | (simp [isEmpty_bne]; done), by (with_reducible repeat (first | apply Kd.V_alloc | apply Kd.V_drewN | apply Kd.V_drew)); exact Kd.V_mono HL111_6.out (fun _ hk => hk.1), xB⟩
    rw [if_neg c6] at H
    have c6b0 : ((((rd_T46 l0 x5_1).f0.f0).toList) == a1_0.toList && ((((rd_T46 l0 x5_1).f0.f1.f0) == a1_1 && (((rd_T46 l0 x5_1).f0.f1.f1) == a1_2 && (((rd_T46 l0 x5_1).f0.f1.f2) == a1_3 && ((((rd_T46 l0 x5_1).f0.f1.f3).toList) == a1_4.toList && ((((rd_T46 l0 x5_1).f0.f1.f4).toList) == a1_5.toList))))))) = false := by simpa using c6
    (try (have c6b1 : decide ((((rd_T46 l0 x5_1).f0.f0).toList) = a1_0.toList && ((((rd_T46 l0 x5_1).f0.f1.f0) == a1_1 && (((rd_T46 l0 x5_1).f0.f1.f1) == a1_2 && (((rd_T46 l0 x5_1).f0.f1.f2) == a1_3 && ((((rd_T46 l0 x5_1).f0.f1.f3).toList) == a1_4.toList && ((((rd_T46 l0 x5_1).f0.f1.f4).toList) == a1_5.toList))))))) = false := by simpa using c6))
    (try (have c6b2 : ((((rd_T46 l0 x5_1).f0.f0).toList) == a1_0.toList && ((((rd_T46 l0 x5_1).f0.f1.f0) == a1_1 && (((rd_T46 l0 x5_1).f0.f1.f1) == a1_2 && (((rd_T46 l0 x5_1).f0.f1.f2) == a1_3 && ((((rd_T46 l0 x5_1).f0.f1.f3).toList) == a1_4.toList && ((((rd_T46 l0 x5_1).f0.f1.f4).toList) == a1_5.toList))))))) = false := by simpa using c6))
    (try (have c6b3 : ¬ ((((rd_T46 l0 x5_1).f0.f0).toList) = a1_0.toList && ((((rd_T46 l0 x5_1).f0.f1.f0) == a1_1 && (((rd_T46 l0 x5_1).f0.f1.f1) == a1_2 && (((rd_T46 l0 x5_1).f0.f1.f2) == a1_3 && ((((rd_T46 l0 x5_1).f0.f1.f3).toList) == a1_4.toList && ((((rd_T46 l0 x5_1).f0.f1.f4).toList) == a1_5.toList))))))) := by simpa using c6))
    clear c6
    have H' := Aside0.mk H
    clear H
    have p110 : 0 ≤ (x5_1 : Int) := xD
    have q110 : x5_1 < (l0.length : Int) := xD
    obtain ⟨ad110, A110_6, c110_6, e110, hx110_0, hx110_1, hx110_2, hx110_3, hx110_4, hx110_5, hx110_6, hl110_6, hi110_6⟩ := at_T46 (Kd.V_reads' HO_0.out).2.2 x5_1 p110 q110
    cases e110
    obtain ⟨ce110, hce110, hMe110, hcc110⟩ := Kd.V_get HO_0.out z46 x5_1 p110 (by first | exact q110 | exact xD | (have e_ := (Kd.V_reads' HO_0.out).1; omega))
    obtain ⟨ua110_6, uc110_6, rfl, ul110_6, ge110_6⟩ := k46_openF hMe110
    have hv110_6 := hcc110 6 _ rfl
    rw [add_field _ _ 6 (by omega)] at hv110_6
    replace hv110_6 := Option.some.inj (hv110_6.symm.trans hx110_6)
    injection hv110_6 with hva_ hvn_ hvc_
    rw [hva_] at ge110_6
    rw [hvc_] at ul110_6
    have HL110_6 := Aside0.mk (show Kd.V k27 27 _ w.heap.size _ _ ((rd_T46 l0 x5_1).f1) from Kd.V_mk ul110_6 ge110_6)
    clear hva_ hvn_ hvc_ ge110_6 ul110_6
    clear hcc110 hce110
    have HR110_6 := Aside0.mk hi110_6
    have HC110_6 := Aside0.mk hl110_6
    clear hi110_6 hl110_6
    replace p110 := eq_true p110
    replace q110 := eq_true q110
    have hcz8_0 : wr.cell? ⟨gb109, 0, none⟩ = some (.string a1_0) := (blk_cell BK109.out 0).trans rfl
    have hcz8_1 : wr.cell? ⟨gb109, 1, none⟩ = some (.int .i64 a1_1) := (blk_cell BK109.out 1).trans rfl
    have hcz8_2 : wr.cell? ⟨gb109, 2, none⟩ = some (.int .i64 a1_2) := (blk_cell BK109.out 2).trans rfl
    have hcz8_3 : wr.cell? ⟨gb109, 3, none⟩ = some (.int .i64 a1_3) := (blk_cell BK109.out 3).trans rfl
    have hcz8_4 : wr.cell? ⟨gb109, 4, none⟩ = some (.string a1_4) := (blk_cell BK109.out 4).trans rfl
    have hcz8_5 : wr.cell? ⟨gb109, 5, none⟩ = some (.string a1_5) := (blk_cell BK109.out 5).trans rfl
    have hfz8_0 := blk_frozen BK109.out 0
    have hfz8_1 := blk_frozen BK109.out 1
    have hfz8_2 := blk_frozen BK109.out 2
    have hfz8_3 := blk_frozen BK109.out 3
    have hfz8_4 := blk_frozen BK109.out 4
    have hfz8_5 := blk_frozen BK109.out 5
    go_wp2
    repeat (go_quiet (fail); try go_wp2)
    go_roundg k1
    case measure => have := HK1.out; omega
    case rel => exact ⟨(wrap64 (x5_1 + 1)), xR, H', ⟨by have := HK1.out; omega⟩, ⟨by (with_reducible repeat (first | apply Kd.V_alloc | apply Kd.V_drewN | apply Kd.V_drew)); exact HO_0.out⟩, ⟨by (with_reducible repeat (first | refine blk_drewN ?_ _ | refine blk_drew ?_ | refine blk_alloc ?_ _)); exact BK109.out⟩, ⟨xB⟩⟩
   rw [if_neg c4] at H
   have c4b0 := decide_eq_false c4
   clear c4
   obtain rfl := Option.some.inj H
   go_wp2
   repeat (go_quiet (fail); try go_wp2)
   go_ret
   exact ⟨.slice none 0 0, by first | rfl | (simp [errW_none, errW_some] <;> rfl) | (simp [*, errW_none, errW_some] <;> rfl) | (simp [isEmpty_bne]; done), Kd.V_nil _ _ _ _ _, xB⟩
def armadaref17_Reached.l0 : Nat → List (S46) → List (S27) → Int → Option ((List (S27)))
 | 0, _, _, _ => none
 | k + 1, x1, x6, x7 => if x7 < (x6.length : Int) then (if 0 ≤ x7 then ((armadaref17_requires.f k x1 ((rd_T27 x6 x7).f0) ((rd_T27 x6 x7).f1.f0) ((rd_T27 x6 x7).f1.f1) ((rd_T27 x6 x7).f1.f2) ((rd_T27 x6 x7).f1.f3) ((rd_T27 x6 x7).f1.f4)).bind fun t116 => ((armadaref17_more.f k x6 t116).bind fun t119 => (armadaref17_Reached.l0 k x1 t119 (wrap64 (x7 + 1))))) else (none)) else (some x6)
def armadaref17_Reached.f (k : Nat) (l0 : List (S27)) (l1 : List (S46)) : Option ((List (S27))) := (armadaref17_more.f k ([] : List (S27)) l0).bind fun t112 => (armadaref17_Reached.l0 k l1 t112 0)
theorem armadaref17_Reached.mono_l : ∀ k, (∀ y0 y1 y2, LeO (armadaref17_Reached.l0 k y0 y1 y2) (armadaref17_Reached.l0 (k + 1) y0 y1 y2))
 | 0 => fun _ _ _ r h => by simp [armadaref17_Reached.l0] at h
 | k + 1 => by
  have ih0 := armadaref17_Reached.mono_l k
  ·
   intro y0 y1 y2
   unfold armadaref17_Reached.l0
   repeat' first
   | (with_reducible exact ih0 _ _ _)
   | (with_reducible exact armadaref17_more.mono _ _ _)
   | (with_reducible exact armadaref17_requires.mono _ _ _ _ _ _ _ _)
   | (with_reducible exact LeO.refl _)
   | (with_reducible exact LeO.none _)
   | (with_reducible refine LeO.ite ?_ ?_)
   | (with_reducible refine LeO.bind ?_ (fun _ => ?_))
   | exact ih0 _ _ _
   | exact armadaref17_more.mono _ _ _
   | exact armadaref17_requires.mono _ _ _ _ _ _ _ _
   | exact LeO.none _
   | refine LeO.ite ?_ ?_
   | refine LeO.bind ?_ (fun _ => ?_)
theorem armadaref17_Reached.mono : ∀ a0 a1 k, LeO (armadaref17_Reached.f k a0 a1) (armadaref17_Reached.f (k + 1) a0 a1) := by
 intro a0 a1 k
 have ih0 := armadaref17_Reached.mono_l k
 unfold armadaref17_Reached.f
 repeat' first
   | (with_reducible exact ih0 _ _ _)
   | (with_reducible exact armadaref17_more.mono _ _ _)
   | (with_reducible exact armadaref17_requires.mono _ _ _ _ _ _ _ _)
   | (with_reducible exact LeO.refl _)
   | (with_reducible exact LeO.none _)
   | (with_reducible refine LeO.ite ?_ ?_)
   | (with_reducible refine LeO.bind ?_ (fun _ => ?_))
   | exact ih0 _ _ _
   | exact armadaref17_more.mono _ _ _
   | exact armadaref17_requires.mono _ _ _ _ _ _ _ _
   | exact LeO.none _
   | refine LeO.ite ?_ ?_
   | refine LeO.bind ?_ (fun _ => ?_)
set_option maxHeartbeats 8000000 in
set_option maxRecDepth 100000 in
theorem armadaref17_Reached.calls (k : Nat) (A0 : Option Addr) (c0 : Nat) (l0 : List (S27)) (A1 : Option Addr) (c1 : Nat) (l1 : List (S46)) (r : List (S27)) (w : World) (hr0 : Kd.C k27 w A0 l0.length l0) (hc0 : l0.length ≤ c0) (hr1 : Kd.C k46 w A1 l1.length l1) (hc1 : l1.length ≤ c1) (h : armadaref17_Reached.f k l0 l1 = some r) :
  Calls Tryz.prog 16 #[.slice A0 l0.length c0, .slice A1 l1.length c1] w fun e w' => ∃ v0_ : Value, e = .returned (v0_) ∧ Kd.R k27 27 w' w.heap.size (fun _ => True) v0_ r ∧ Below w.heap.size w w' := by
 have hu27 := Tryz.underlying27
 have HR0 := Aside0.mk hr0
 have HC0 := Aside0.mk hc0
 clear hr0 hc0
 have HR1 := Aside0.mk hr1
 have HC1 := Aside0.mk hc1
 clear hr1 hc1
 have HB := Aside0.mk (Below.refl w.heap.size w)
 have H : ((armadaref17_more.f k ([] : List (S27)) l0).bind fun t112 => (armadaref17_Reached.l0 k l1 t112 0)) = some r := h
 clear h
 replace H := xb H
 obtain ⟨t112, A3, H⟩ := H
 have H' := Aside0.mk H
 clear H
 go_enter Tryz.func16, Tryz.ntmps16
 go_wp2_with (first | ((with_reducible refine gate_callee (f := 32) rfl ?_); refine goesL_ (some 10) rfl rfl Tryz.func32 (by kernel_rfl) rfl #[.slice none 0 0, .slice A0 l0.length c0] rfl xS ?_; (refine (armadaref17_more.calls k (fun k_ => some k_ = (.slice none 0 0 : Value).ownBlock) (.slice none 0 0) ([] : List (S27)) _ _ l0 t112 w _ ?side1 ?side2 ?side3 ?side4 A3.out).mono ?_); (case side1 => repeat (first | (with_reducible first | exact HB.out | apply below_alloc | apply pw_below_drewN | apply below_drew1) | exact HB.out)); (case side2 => exact Kd.R_nil _ _ _ _ _); (case side3 => exact Kd.C_kept_came k27_heap HR0.out xB (fun k_ hs_ => (fun e_ => by simp [Value.ownBlock] at e_) hs_)); (case side4 => exact HC0.out); rintro e w4 ⟨v113, rfl, ho0, hb, hkp⟩; refine ⟨_, rfl, ?_⟩; have HO114 := Aside0.mk (Kd.R_mono (ok' := fun k_ => True) ho0 (fun k_ hk_ => trivial)); replace HB := Aside0.mk (hb); (try clear hb); (try clear hkp); (try clear ho0)))
 go_loopg [6, 7] k (fun kq v6 v7 w' => ∃ (x6_1 : List (S27)) (x7_1 : Int), v7 = .int .i64 x7_1 ∧ Aside0 (armadaref17_Reached.l0 kq l1 x6_1 x7_1 = some r) ∧ Aside0 (kq ≤ k) ∧ Aside0 (Kd.R k27 27 w' w.heap.size (fun _ => True) v6 x6_1) ∧ Aside0 (Below w.heap.size w w'))
 case atStart => exact ⟨(t112), (0), xR, H', ⟨Nat.le_refl _⟩, ⟨by (with_reducible repeat (first | apply Kd.R_alloc | apply Kd.R_drewN | apply Kd.R_drew)); exact HO114.out⟩, ⟨xB⟩⟩
 case round =>
  clear H'
  try clear c1
  try clear p2
  try clear c3
  obtain ⟨x6_1, x7_1, rfl, HA, HK1, HO_6, HB⟩ := hrel
  cases gk with
  | zero => exact absurd HA.out (by simp [armadaref17_Reached.l0])
  | succ k1 =>
   have H := HA.out
   clear HA
   simp only [armadaref17_Reached.l0] at H
   by_cases c5 : x7_1 < (x6_1.length : Int)
   ·
    rw [if_pos c5] at H
    have c5b0 := decide_eq_true c5
    clear c5
    replace H := xI H
    obtain ⟨c6, H⟩ := H
    have c6b0 := decide_eq_true c6
    clear c6
    replace H := xb H
    obtain ⟨t116, A7, H⟩ := H
    replace H := xb H
    obtain ⟨t119, A8, H⟩ := H
    have H' := Aside0.mk H
    clear H
    obtain ⟨Ao9, co9, eo9⟩ := Kd.R_slice HO_6.out
    subst eo9
    have p115 : 0 ≤ (x7_1 : Int) := xD
    have q115 : x7_1 < (x6_1.length : Int) := xD
    obtain ⟨ad115, e115, hx115_0, hx115_1, hx115_2, hx115_3, hx115_4, hx115_5⟩ := at_T27 (Kd.R_reads' HO_6.out).2.2 x7_1 p115 q115
    cases e115
    replace p115 := eq_true p115
    replace q115 := eq_true q115
    go_wp2_with (first | ((with_reducible refine gate_callee (f := 33) rfl ?_); refine goesL_ (some 23) rfl rfl Tryz.func33 (by kernel_rfl) rfl #[.slice A1 l1.length c1, .agg #[.string ((rd_T27 x6_1 x7_1).f0), .int .i64 ((rd_T27 x6_1 x7_1).f1.f0), .int .i64 ((rd_T27 x6_1 x7_1).f1.f1), .int .i64 ((rd_T27 x6_1 x7_1).f1.f2), .string ((rd_T27 x6_1 x7_1).f1.f3), .string ((rd_T27 x6_1 x7_1).f1.f4)]] rfl xS ?_; (with_reducible refine (armadaref17_requires.calls k1 (fun k_ => k_ < w.heap.size) _ _ l1 ((rd_T27 x6_1 x7_1).f0) ((rd_T27 x6_1 x7_1).f1.f0) ((rd_T27 x6_1 x7_1).f1.f1) ((rd_T27 x6_1 x7_1).f1.f2) ((rd_T27 x6_1 x7_1).f1.f3) ((rd_T27 x6_1 x7_1).f1.f4) t116 _ ?side1 A7.out).mono ?_); (case side1 => exact Kd.V_mk HC1.out (Kd.F_below (Kd.C_F k46_heap HR1.out) xB)); rintro e w10 ⟨v117, rfl, ho0, hb⟩; refine ⟨_, rfl, ?_⟩; have HO118 := Aside0.mk (Kd.V_lower (Kd.V_mono (ok' := fun k_ => some k_ ≠ (.slice (some ad115) x6_1.length co9 : Value).ownBlock) ho0 (fun k_ hk_ => Or.elim hk_ (fun hs_ => fun e_ => Nat.not_le.2 hs_ (Kd.R_base HO_6.out k_ e_.symm)) (fun hn_ => (Kd.fresh' (Kd.R_lt (by (with_reducible repeat (first | apply Kd.R_alloc | apply Kd.R_drewN | apply Kd.R_drew)); exact HO_6.out)) k_ hn_)))) (below_size xB)); replace HO_6 := Aside0.mk (Kd.R_below (by (with_reducible repeat (first | apply Kd.R_alloc | apply Kd.R_drewN | apply Kd.R_drew)); exact HO_6.out) hb); replace HB := Aside0.mk (below_step xB hb); (try clear hb); (try clear hb2); (try clear hk); (try clear hi); (try clear ho0); obtain ⟨Ao11, co11, eo11⟩ := Kd.V_slice HO118.out; subst eo11) | ((with_reducible refine gate_callee (f := 32) rfl ?_); refine goesL_ (some 24) rfl rfl Tryz.func32 (by kernel_rfl) rfl #[.slice (some ad115) x6_1.length co9, .slice Ao11 t116.length co11] rfl xS ?_; (with_reducible refine (armadaref17_more.calls k1 (fun k_ => some k_ = (.slice (some ad115) x6_1.length co9 : Value).ownBlock) (.slice (some ad115) x6_1.length co9) x6_1 _ _ t116 t119 w _ ?side1 ?side2 ?side3 ?side4 A8.out).mono ?_); (case side1 => repeat (first | (with_reducible first | exact HB.out | apply below_alloc | apply pw_below_drewN | apply below_drew1) | exact HB.out)); (case side2 => exact Kd.R_tight rfl HO_6.out); (case side3 => exact Kd.C_kept_ownV (HO118.out) (fun k_ hk_ hs_ => (hk_) hs_)); (case side4 => exact (Kd.V_reads' HO118.out).2.1); rintro e w12 ⟨v120, rfl, ho0, hb, hkp⟩; refine ⟨_, rfl, ?_⟩; replace HO118 := Aside0.mk (Kd.V_mono (ok' := fun k_ => some k_ ≠ (v120 : Value).ownBlock) (Kd.V_keptB (HO118.out) hkp (fun k_ hk_ hs_ => (hk_) hs_)) (fun k_ hk_ => fun e_ => Or.elim (ho0.1 k_ e_.symm) (fun hs_ => hk_.2.1 hs_) (fun hn_ => Nat.not_le.2 hk_.2.2 hn_))); have HO121 := Aside0.mk (Kd.R_mono (ok' := fun k_ => True) ho0 (fun k_ hk_ => trivial)); replace HB := Aside0.mk (hb); clear HO_6; (try clear hb); (try clear hkp); (try clear ho0)))
    go_roundg k1
    case measure => have := HK1.out; omega
    case rel => exact ⟨(t119), (wrap64 (x7_1 + 1)), xR, H', ⟨by have := HK1.out; omega⟩, ⟨by (with_reducible repeat (first | apply Kd.R_alloc | apply Kd.R_drewN | apply Kd.R_drew)); exact HO121.out⟩, ⟨xB⟩⟩
   rw [if_neg c5] at H
   have c5b0 := decide_eq_false c5
   clear c5
   obtain rfl := Option.some.inj H
   obtain ⟨Ao13, co13, eo13⟩ := Kd.R_slice HO_6.out
   subst eo13
   go_wp2
   go_ret
   exact ⟨_, by first | rfl | (simp [errW_none, errW_some] <;> rfl) | (simp [*, errW_none, errW_some] <;> rfl) | (simp [isEmpty_bne]; done), by (with_reducible repeat (first | apply Kd.R_alloc | apply Kd.R_drewN | apply Kd.R_drew)); exact HO_6.out, xB⟩
def armadaref17_put.l0 : Nat → List (S27) → List (S27) → Bool → Int → ByteArray → Int → Int → Int → ByteArray → ByteArray → Option ((List (S27)))
 | 0, _, _, _, _, _, _, _, _, _, _ => none
 | k + 1, x0, x5, x6, x7, x123000, x123001, x123002, x123003, x123004, x123005 => if x7 < (x0.length : Int) then (if 0 ≤ x7 then (if ((rd_T27 x0 x7).f0).toList = x123000.toList then (some x0) else (if x6 = true then (if x5.length < 1954687338268 then (armadaref17_put.l0 k x0 (x5 ++ [(⟨(rd_T27 x0 x7).f0, (⟨(rd_T27 x0 x7).f1.f0, (rd_T27 x0 x7).f1.f1, (rd_T27 x0 x7).f1.f2, (rd_T27 x0 x7).f1.f3, (rd_T27 x0 x7).f1.f4⟩ : S25)⟩ : S27)]) x6 (wrap64 (x7 + 1)) x123000 x123001 x123002 x123003 x123004 x123005) else (none)) else (if (Op.bytesLess x123000.toList (((rd_T27 x0 x7).f0).toList)) = true then (if x5.length < 1954687338268 then ((some (x5 ++ [(⟨x123000, (⟨x123001, x123002, x123003, x123004, x123005⟩ : S25)⟩ : S27)] : List (S27))).bind fun y132 => (if y132.length < 1954687338268 then (armadaref17_put.l0 k x0 (y132 ++ [(⟨(rd_T27 x0 x7).f0, (⟨(rd_T27 x0 x7).f1.f0, (rd_T27 x0 x7).f1.f1, (rd_T27 x0 x7).f1.f2, (rd_T27 x0 x7).f1.f3, (rd_T27 x0 x7).f1.f4⟩ : S25)⟩ : S27)]) true (wrap64 (x7 + 1)) x123000 x123001 x123002 x123003 x123004 x123005) else (none))) else (none)) else (if x5.length < 1954687338268 then (armadaref17_put.l0 k x0 (x5 ++ [(⟨(rd_T27 x0 x7).f0, (⟨(rd_T27 x0 x7).f1.f0, (rd_T27 x0 x7).f1.f1, (rd_T27 x0 x7).f1.f2, (rd_T27 x0 x7).f1.f3, (rd_T27 x0 x7).f1.f4⟩ : S25)⟩ : S27)]) x6 (wrap64 (x7 + 1)) x123000 x123001 x123002 x123003 x123004 x123005) else (none))))) else (none)) else (if x6 = true then (some x5) else (if x5.length < 1954687338268 then (some (x5 ++ [(⟨x123000, (⟨x123001, x123002, x123003, x123004, x123005⟩ : S25)⟩ : S27)])) else (none)))
def armadaref17_put.f (k : Nat) (l0 : List (S27)) (a1_0 : ByteArray) (a1_1 : Int) (a1_2 : Int) (a1_3 : Int) (a1_4 : ByteArray) (a1_5 : ByteArray) : Option ((List (S27))) := armadaref17_put.l0 k l0 ([] : List (S27)) false 0 a1_0 a1_1 a1_2 a1_3 a1_4 a1_5
theorem armadaref17_put.mono_l : ∀ k, (∀ y0 y1 y2 y3 y4 y5 y6 y7 y8 y9, LeO (armadaref17_put.l0 k y0 y1 y2 y3 y4 y5 y6 y7 y8 y9) (armadaref17_put.l0 (k + 1) y0 y1 y2 y3 y4 y5 y6 y7 y8 y9))
 | 0 => fun _ _ _ _ _ _ _ _ _ _ r h => by simp [armadaref17_put.l0] at h
 | k + 1 => by
  have ih0 := armadaref17_put.mono_l k
  ·
   intro y0 y1 y2 y3 y4 y5 y6 y7 y8 y9
   unfold armadaref17_put.l0
   exact xM
theorem armadaref17_put.mono : ∀ a0 a1 a2 a3 a4 a5 a6 k, LeO (armadaref17_put.f k a0 a1 a2 a3 a4 a5 a6) (armadaref17_put.f (k + 1) a0 a1 a2 a3 a4 a5 a6) := by
 intro a0 a1 a2 a3 a4 a5 a6 k
 have ih0 := armadaref17_put.mono_l k
 unfold armadaref17_put.f
 exact xM
set_option maxHeartbeats 8000000 in
set_option maxRecDepth 100000 in
theorem armadaref17_put.calls (k : Nat) (P0_ : Nat → Prop) (u9000_ : Value) (l0 : List (S27)) (a1_0 : ByteArray) (a1_1 : Int) (a1_2 : Int) (a1_3 : Int) (a1_4 : ByteArray) (a1_5 : ByteArray) (r : List (S27)) (w0 w : World) (hB : Below w0.heap.size w0 w) (ho0 : Kd.R k27 27 w w0.heap.size P0_ u9000_ l0) (h : armadaref17_put.f k l0 a1_0 a1_1 a1_2 a1_3 a1_4 a1_5 = some r) :
  Calls Tryz.prog 40 #[u9000_, .agg #[.string a1_0, .int .i64 a1_1, .int .i64 a1_2, .int .i64 a1_3, .string a1_4, .string a1_5]] w fun e w' => ∃ v0_ : Value, e = .returned (v0_) ∧ Kd.R k27 27 w' w0.heap.size (fun k_ => (P0_ k_ ∨ w.heap.size ≤ k_)) v0_ r ∧ Below w0.heap.size w0 w' ∧ Kept w w' (fun k_ => P0_ k_) := by
 have hu27 := Tryz.underlying27
 have HO0 := Aside0.mk (show Kd.R k27 27 w w0.heap.size (fun k_ => (P0_ k_ ∨ w.heap.size ≤ k_)) u9000_ l0 from Kd.R_mono ho0 (fun k_ hk => (.inl hk)))
 have HK := Aside0.mk (Kept.refl w (fun k_ => P0_ k_))
 have HW0 := Aside0.mk hB.size
 have HB := Aside0.mk hB
 clear hB
 have H : (armadaref17_put.l0 k l0 ([] : List (S27)) false 0 a1_0 a1_1 a1_2 a1_3 a1_4 a1_5) = some r := h
 clear h
 have H' := Aside0.mk H
 clear H
 go_enter Tryz.func40, Tryz.ntmps40
 go_wp2_with (first | ((with_reducible refine gate_dst (N := 3) rfl ?_); refine box_event ?hg (N := 3) ?hd (cs := #[.string a1_0, .int .i64 a1_1, .int .i64 a1_2, .int .i64 a1_3, .string a1_4, .string a1_5]) (t := 27) ?hr ?_; (case hd => rfl); (case hg => rfl); (case hr => first | (go_simp; done) | (go_simp; rfl)); intro gb122 hg w3 hbox hb; replace HO0 := Aside0.mk (Kd.R_below (Kd.R_elderB (by (with_reducible repeat (first | apply Kd.R_alloc | apply Kd.R_drewN | apply Kd.R_drew)); exact HO0.out) gb122 (Nat.le_of_eq hg.symm)) hb); have BK122 := Aside0.mk (hbox); have GW122 := Aside0.mk ((by rw [hg]; exact (by first | exact HK.out.1 | exact (show Kept w _ (fun k_ => P0_ k_) from by repeat (first | (with_reducible first | exact HK.out | apply Kept.alloc | apply Kept.drewN | apply Kept.drew) | exact HK.out)).1) : w.heap.size ≤ gb122)); replace HK := Aside0.mk (Kept.below (S := (fun k_ => P0_ k_)) (by repeat (first | (with_reducible first | exact HK.out | apply Kept.alloc | apply Kept.drewN | apply Kept.drew) | exact HK.out)) hb); have GE122 := Aside0.mk ((by rw [hg]; exact (below_size xB) : w0.heap.size ≤ gb122)); replace HB := Aside0.mk (below_step xB hb); clear hb hbox hg))
 repeat (go_quiet (first | ((with_reducible refine gate_dst (N := 3) rfl ?_); refine box_event ?hg (N := 3) ?hd (cs := #[.string a1_0, .int .i64 a1_1, .int .i64 a1_2, .int .i64 a1_3, .string a1_4, .string a1_5]) (t := 27) ?hr ?_; (case hd => rfl); (case hg => rfl); (case hr => first | (go_simp; done) | (go_simp; rfl)); intro gb122 hg w3 hbox hb; replace HO0 := Aside0.mk (Kd.R_below (Kd.R_elderB (by (with_reducible repeat (first | apply Kd.R_alloc | apply Kd.R_drewN | apply Kd.R_drew)); exact HO0.out) gb122 (Nat.le_of_eq hg.symm)) hb); have BK122 := Aside0.mk (hbox); have GW122 := Aside0.mk ((by rw [hg]; exact (by first | exact HK.out.1 | exact (show Kept w _ (fun k_ => P0_ k_) from by repeat (first | (with_reducible first | exact HK.out | apply Kept.alloc | apply Kept.drewN | apply Kept.drew) | exact HK.out)).1) : w.heap.size ≤ gb122)); replace HK := Aside0.mk (Kept.below (S := (fun k_ => P0_ k_)) (by repeat (first | (with_reducible first | exact HK.out | apply Kept.alloc | apply Kept.drewN | apply Kept.drew) | exact HK.out)) hb); have GE122 := Aside0.mk ((by rw [hg]; exact (below_size xB) : w0.heap.size ≤ gb122)); replace HB := Aside0.mk (below_step xB hb); clear hb hbox hg)); try go_wp2_with (first | ((with_reducible refine gate_dst (N := 3) rfl ?_); refine box_event ?hg (N := 3) ?hd (cs := #[.string a1_0, .int .i64 a1_1, .int .i64 a1_2, .int .i64 a1_3, .string a1_4, .string a1_5]) (t := 27) ?hr ?_; (case hd => rfl); (case hg => rfl); (case hr => first | (go_simp; done) | (go_simp; rfl)); intro gb122 hg w3 hbox hb; replace HO0 := Aside0.mk (Kd.R_below (Kd.R_elderB (by (with_reducible repeat (first | apply Kd.R_alloc | apply Kd.R_drewN | apply Kd.R_drew)); exact HO0.out) gb122 (Nat.le_of_eq hg.symm)) hb); have BK122 := Aside0.mk (hbox); have GW122 := Aside0.mk ((by rw [hg]; exact (by first | exact HK.out.1 | exact (show Kept w _ (fun k_ => P0_ k_) from by repeat (first | (with_reducible first | exact HK.out | apply Kept.alloc | apply Kept.drewN | apply Kept.drew) | exact HK.out)).1) : w.heap.size ≤ gb122)); replace HK := Aside0.mk (Kept.below (S := (fun k_ => P0_ k_)) (by repeat (first | (with_reducible first | exact HK.out | apply Kept.alloc | apply Kept.drewN | apply Kept.drew) | exact HK.out)) hb); have GE122 := Aside0.mk ((by rw [hg]; exact (below_size xB) : w0.heap.size ≤ gb122)); replace HB := Aside0.mk (below_step xB hb); clear hb hbox hg)))
 go_loopg [5, 6, 7] k (fun kq v5 v6 v7 w' => ∃ (x5_1 : List (S27)) (x6_1 : Bool) (x7_1 : Int), v6 = .bool x6_1 ∧ v7 = .int .i64 x7_1 ∧ Aside0 (armadaref17_put.l0 kq l0 x5_1 x6_1 x7_1 a1_0 a1_1 a1_2 a1_3 a1_4 a1_5 = some r) ∧ Aside0 (kq ≤ k) ∧ Aside0 (Kd.R k27 27 w' w0.heap.size (fun k_ => (P0_ k_ ∨ w.heap.size ≤ k_) ∧ some k_ ≠ (v5 : Value).ownBlock ∧ k_ ≠ gb122) u9000_ l0) ∧ Aside0 (Kd.R k27 27 w' w0.heap.size (fun k_ => (P0_ k_ ∨ w.heap.size ≤ k_) ∧ some k_ ≠ (u9000_ : Value).ownBlock ∧ k_ ≠ gb122) v5 x5_1) ∧ Aside0 (w'.heap[gb122]? = some (.cells #[.string a1_0, .int .i64 a1_1, .int .i64 a1_2, .int .i64 a1_3, .string a1_4, .string a1_5] 27 (0, 0))) ∧ Aside0 (Kept w w' (fun k_ => P0_ k_)) ∧ Aside0 (Below w0.heap.size w0 w'))
 case atStart => exact ⟨(([] : List (S27))), (false), (0), xR, xR, H', ⟨Nat.le_refl _⟩, ⟨by (with_reducible repeat (first | apply Kd.R_alloc | apply Kd.R_drewN | apply Kd.R_drew)); exact Kd.R_mono HO0.out (fun _ hk => ⟨hk.1, ⟨(by simp [Value.ownBlock]), hk.2⟩⟩)⟩, ⟨by first | exact Kd.R_nil _ _ _ _ _ | exact Kd.N_nil _ _ _ _ _ | exact Kd.V_nil _ _ _ _ _ | exact Kd.Q_nil _ _ _ _ _ | exact Kd.S_nil _ _ _ _ _⟩, ⟨by (with_reducible repeat (first | refine blk_drewN ?_ _ | refine blk_drew ?_ | refine blk_alloc ?_ _)); exact BK122.out⟩, ⟨by repeat (first | (with_reducible first | exact HK.out | apply Kept.alloc | apply Kept.drewN | apply Kept.drew | refine Kept.setCell ?_ (.inr GW122.out) _) | exact HK.out)⟩, ⟨xB⟩⟩
 case round =>
  clear H'
  try clear p2
  obtain ⟨x5_1, x6_1, x7_1, rfl, rfl, HA, HK1, HO_0, HO_5, BK122, HK, HB⟩ := hrel
  cases gk with
  | zero => exact absurd HA.out (by simp [armadaref17_put.l0])
  | succ k1 =>
   have H := HA.out
   clear HA
   simp only [armadaref17_put.l0] at H
   by_cases c4 : x7_1 < (l0.length : Int)
   ·
    rw [if_pos c4] at H
    have c4b0 := decide_eq_true c4
    clear c4
    replace H := xI H
    obtain ⟨c5, H⟩ := H
    have c5b0 := decide_eq_true c5
    clear c5
    by_cases c6 : ((rd_T27 l0 x7_1).f0).toList = a1_0.toList
    ·
     rw [if_pos c6] at H
     have c6b0 := beq_iff_eq.mpr c6
     have c6b1 := bne_eq_false_iff_eq.mpr c6
     clear c6
     obtain rfl := Option.some.inj H
     obtain ⟨Ao7, co7, eo7⟩ := Kd.R_slice HO_0.out
     subst eo7
     have p126 : 0 ≤ (x7_1 : Int) := xD
     have q126 : x7_1 < (l0.length : Int) := xD
     obtain ⟨ad126, e126, hx126_0, hx126_1, hx126_2, hx126_3, hx126_4, hx126_5⟩ := at_T27 (Kd.R_reads' HO_0.out).2.2 x7_1 p126 q126
     cases e126
     replace p126 := eq_true p126
     replace q126 := eq_true q126
     have hcz8_0 : wr.cell? ⟨gb122, 0, none⟩ = some (.string a1_0) := (blk_cell BK122.out 0).trans rfl
     have hcz8_1 : wr.cell? ⟨gb122, 1, none⟩ = some (.int .i64 a1_1) := (blk_cell BK122.out 1).trans rfl
     have hcz8_2 : wr.cell? ⟨gb122, 2, none⟩ = some (.int .i64 a1_2) := (blk_cell BK122.out 2).trans rfl
     have hcz8_3 : wr.cell? ⟨gb122, 3, none⟩ = some (.int .i64 a1_3) := (blk_cell BK122.out 3).trans rfl
     have hcz8_4 : wr.cell? ⟨gb122, 4, none⟩ = some (.string a1_4) := (blk_cell BK122.out 4).trans rfl
     have hcz8_5 : wr.cell? ⟨gb122, 5, none⟩ = some (.string a1_5) := (blk_cell BK122.out 5).trans rfl
     have hfz8_0 := blk_frozen BK122.out 0
     have hfz8_1 := blk_frozen BK122.out 1
     have hfz8_2 := blk_frozen BK122.out 2
     have hfz8_3 := blk_frozen BK122.out 3
     have hfz8_4 := blk_frozen BK122.out 4
     have hfz8_5 := blk_frozen BK122.out 5
     go_wp2
     repeat (go_quiet (fail); try go_wp2)
     go_ret
     exact ⟨_, by first | rfl | (simp [errW_none, errW_some] <;> rfl) | (simp [*, errW_none, errW_some] <;> rfl) | (simp [isEmpty_bne]; done), by (with_reducible repeat (first | apply Kd.R_alloc | apply Kd.R_drewN | apply Kd.R_drew)); exact Kd.R_mono HO_0.out (fun _ hk => hk.1), xB, by repeat (first | (with_reducible first | exact HK.out | apply Kept.alloc | apply Kept.drewN | apply Kept.drew | refine Kept.setCell ?_ (.inr GW122.out) _) | exact HK.out)⟩
    rw [if_neg c6] at H
    have c6b0 := beq_eq_false_iff_ne.mpr c6
    have c6b1 := bne_iff_ne.mpr c6
    by_cases c9 : x6_1 = true
    ·
     subst c9
     rw [if_pos rfl] at H
     replace H := xI H
     obtain ⟨c10, H⟩ := H
     have LMc10 := Aside0.mk c10
     clear c10
     obtain ⟨y128, hy128⟩ : ∃ y_ : List (S27), y_ = (x5_1 ++ [(⟨(rd_T27 l0 x7_1).f0, (⟨(rd_T27 l0 x7_1).f1.f0, (rd_T27 l0 x7_1).f1.f1, (rd_T27 l0 x7_1).f1.f2, (rd_T27 l0 x7_1).f1.f3, (rd_T27 l0 x7_1).f1.f4⟩ : S25)⟩ : S27)]) := ⟨_, rfl⟩
     replace H : (armadaref17_put.l0 k1 l0 y128 true (wrap64 (x7_1 + 1)) a1_0 a1_1 a1_2 a1_3 a1_4 a1_5) = some r := by first | (rw [hy128]; with_reducible exact H) | (have H2_ := (Option.bind_some _ _).symm.trans H; rw [hy128]; with_reducible exact H2_) | (have H2_ := (Option.bind_some _ _).symm.trans H; with_reducible exact H2_) | with_reducible exact H | (rw [hy128]; exact H) | exact H
     have Ny128 := Aside0.mk hy128
     clear hy128
     have H' := Aside0.mk H
     clear H
     obtain ⟨Ao11, co11, eo11⟩ := Kd.R_slice HO_0.out
     subst eo11
     have p126 : 0 ≤ (x7_1 : Int) := xD
     have q126 : x7_1 < (l0.length : Int) := xD
     obtain ⟨ad126, e126, hx126_0, hx126_1, hx126_2, hx126_3, hx126_4, hx126_5⟩ := at_T27 (Kd.R_reads' HO_0.out).2.2 x7_1 p126 q126
     cases e126
     replace p126 := eq_true p126
     replace q126 := eq_true q126
     have hcz12_0 : wr.cell? ⟨gb122, 0, none⟩ = some (.string a1_0) := (blk_cell BK122.out 0).trans rfl
     have hcz12_1 : wr.cell? ⟨gb122, 1, none⟩ = some (.int .i64 a1_1) := (blk_cell BK122.out 1).trans rfl
     have hcz12_2 : wr.cell? ⟨gb122, 2, none⟩ = some (.int .i64 a1_2) := (blk_cell BK122.out 2).trans rfl
     have hcz12_3 : wr.cell? ⟨gb122, 3, none⟩ = some (.int .i64 a1_3) := (blk_cell BK122.out 3).trans rfl
     have hcz12_4 : wr.cell? ⟨gb122, 4, none⟩ = some (.string a1_4) := (blk_cell BK122.out 4).trans rfl
     have hcz12_5 : wr.cell? ⟨gb122, 5, none⟩ = some (.string a1_5) := (blk_cell BK122.out 5).trans rfl
     have hfz12_0 := blk_frozen BK122.out 0
     have hfz12_1 := blk_frozen BK122.out 1
     have hfz12_2 := blk_frozen BK122.out 2
     have hfz12_3 := blk_frozen BK122.out 3
     have hfz12_4 := blk_frozen BK122.out 4
     have hfz12_5 := blk_frozen BK122.out 5
     have p127 : 0 ≤ (x7_1 : Int) := xD
     have q127 : x7_1 < (l0.length : Int) := xD
     obtain ⟨ad127, e127, hx127_0, hx127_1, hx127_2, hx127_3, hx127_4, hx127_5⟩ := at_T27 (Kd.R_reads' HO_0.out).2.2 x7_1 p127 q127
     obtain rfl : ad126 = ad127 := (by injection e127)
     replace p127 := eq_true p127
     replace q127 := eq_true q127
     go_wp2_with (first | ((with_reducible refine gate_builtin (b := .append) (xs := #[.tmp 39, .tmp 44]) rfl ?_); at_builtin; refine Kd.R_append k27 (w0 := w0) w0.heap.size rfl (.tmp 39) (.tmp 44) 22 27 (.agg #[(.string ⟨#[]⟩), (.int .i64 0), (.int .i64 0), (.int .i64 0), (.string ⟨#[]⟩), (.string ⟨#[]⟩)]) 72 rfl Tryz.underlying22 info27 rfl (by decide) (by omega) u5 x5_1 (⟨(rd_T27 l0 x7_1).f0, (⟨(rd_T27 l0 x7_1).f1.f0, (rd_T27 l0 x7_1).f1.f1, (rd_T27 l0 x7_1).f1.f2, (rd_T27 l0 x7_1).f1.f3, (rd_T27 l0 x7_1).f1.f4⟩ : S25)⟩ : S27) [.string ((rd_T27 l0 x7_1).f0), .int .i64 ((rd_T27 l0 x7_1).f1.f0), .int .i64 ((rd_T27 l0 x7_1).f1.f1), .int .i64 ((rd_T27 l0 x7_1).f1.f2), .string ((rd_T27 l0 x7_1).f1.f3), .string ((rd_T27 l0 x7_1).f1.f4)] (fun k_ => (P0_ k_ ∨ w.heap.size ≤ k_) ∧ some k_ ≠ (.slice (some ad126) l0.length co11 : Value).ownBlock ∧ k_ ≠ gb122) (fun _ => False) rfl rfl ?aP (fun _ hk => hk.elim) ?aF ?aO ?aB ?aS ?aL ?_; (case aP => exact k27_mkM _ _ _ (⟨(rd_T27 l0 x7_1).f0, (⟨(rd_T27 l0 x7_1).f1.f0, (rd_T27 l0 x7_1).f1.f1, (rd_T27 l0 x7_1).f1.f2, (rd_T27 l0 x7_1).f1.f3, (rd_T27 l0 x7_1).f1.f4⟩ : S25)⟩ : S27)); (case aB => exact xB); (case aF => exact (fun k_ hk => ⟨(.inr (Nat.le_trans (by first | exact HK.out.1 | exact (show Kept w _ (fun k_ => P0_ k_) from by repeat (first | (with_reducible first | exact HK.out | apply Kept.alloc | apply Kept.drewN | apply Kept.drew | refine Kept.setCell ?_ (.inr GW122.out) _) | exact HK.out)).1) hk)), Kd.fresh' (Kd.R_lt (by (with_reducible repeat (first | apply Kd.R_alloc | apply Kd.R_drewN | apply Kd.R_drew)); exact HO_0.out)) k_ hk, Kd.freshB (g := gb122) (o := .cells #[.string a1_0, .int .i64 a1_1, .int .i64 a1_2, .int .i64 a1_3, .string a1_4, .string a1_5] 27 (0, 0)) xK k_ hk⟩)); (case aO => exact (by (with_reducible repeat (first | apply Kd.R_alloc | apply Kd.R_drewN | apply Kd.R_drew)); exact HO_5.out)); (case aS => exact (below_size xB)); (case aL => have := LMc10.out; omega); intro v129 w13 ho hb hg hat; rw [← Ny128.out] at ho; replace HO_0 := Aside0.mk (Kd.R_after (ok := (fun k_ => (P0_ k_ ∨ w.heap.size ≤ k_) ∧ k_ ≠ gb122)) (by (with_reducible repeat (first | apply Kd.R_alloc | apply Kd.R_drewN | apply Kd.R_drew)); exact Kd.R_mono HO_0.out (fun _ hk => ⟨⟨hk.1, hk.2.2⟩, hk.2.1⟩)) hg hat); replace BK122 := Aside0.mk (blk_grown (g := gb122) (o := .cells #[.string a1_0, .int .i64 a1_1, .int .i64 a1_2, .int .i64 a1_3, .string a1_4, .string a1_5] 27 (0, 0)) xK hg (Kd.R_away HO_5.out (fun _ hk => hk.2.2))); replace HK := Aside0.mk (Kept.of_grown (S := (fun k_ => P0_ k_)) hg (by repeat (first | (with_reducible first | exact HK.out | apply Kept.alloc | apply Kept.drewN | apply Kept.drew | refine Kept.setCell ?_ (.inr GW122.out) _) | exact HK.out)) (fun k_ e_ => (HO_5.out.1 k_ e_).1)); have HO130 := Aside0.mk (ho); replace HB := Aside0.mk (hb); clear HO_5; clear ho hb hg hat))
     repeat (go_quiet (first | ((with_reducible refine gate_builtin (b := .append) (xs := #[.tmp 39, .tmp 44]) rfl ?_); at_builtin; refine Kd.R_append k27 (w0 := w0) w0.heap.size rfl (.tmp 39) (.tmp 44) 22 27 (.agg #[(.string ⟨#[]⟩), (.int .i64 0), (.int .i64 0), (.int .i64 0), (.string ⟨#[]⟩), (.string ⟨#[]⟩)]) 72 rfl Tryz.underlying22 info27 rfl (by decide) (by omega) u5 x5_1 (⟨(rd_T27 l0 x7_1).f0, (⟨(rd_T27 l0 x7_1).f1.f0, (rd_T27 l0 x7_1).f1.f1, (rd_T27 l0 x7_1).f1.f2, (rd_T27 l0 x7_1).f1.f3, (rd_T27 l0 x7_1).f1.f4⟩ : S25)⟩ : S27) [.string ((rd_T27 l0 x7_1).f0), .int .i64 ((rd_T27 l0 x7_1).f1.f0), .int .i64 ((rd_T27 l0 x7_1).f1.f1), .int .i64 ((rd_T27 l0 x7_1).f1.f2), .string ((rd_T27 l0 x7_1).f1.f3), .string ((rd_T27 l0 x7_1).f1.f4)] (fun k_ => (P0_ k_ ∨ w.heap.size ≤ k_) ∧ some k_ ≠ (.slice (some ad126) l0.length co11 : Value).ownBlock ∧ k_ ≠ gb122) (fun _ => False) rfl rfl ?aP (fun _ hk => hk.elim) ?aF ?aO ?aB ?aS ?aL ?_; (case aP => exact k27_mkM _ _ _ (⟨(rd_T27 l0 x7_1).f0, (⟨(rd_T27 l0 x7_1).f1.f0, (rd_T27 l0 x7_1).f1.f1, (rd_T27 l0 x7_1).f1.f2, (rd_T27 l0 x7_1).f1.f3, (rd_T27 l0 x7_1).f1.f4⟩ : S25)⟩ : S27)); (case aB => exact xB); (case aF => exact (fun k_ hk => ⟨(.inr (Nat.le_trans (by first | exact HK.out.1 | exact (show Kept w _ (fun k_ => P0_ k_) from by repeat (first | (with_reducible first | exact HK.out | apply Kept.alloc | apply Kept.drewN | apply Kept.drew | refine Kept.setCell ?_ (.inr GW122.out) _) | exact HK.out)).1) hk)), Kd.fresh' (Kd.R_lt (by (with_reducible repeat (first | apply Kd.R_alloc | apply Kd.R_drewN | apply Kd.R_drew)); exact HO_0.out)) k_ hk, Kd.freshB (g := gb122) (o := .cells #[.string a1_0, .int .i64 a1_1, .int .i64 a1_2, .int .i64 a1_3, .string a1_4, .string a1_5] 27 (0, 0)) xK k_ hk⟩)); (case aO => exact (by (with_reducible repeat (first | apply Kd.R_alloc | apply Kd.R_drewN | apply Kd.R_drew)); exact HO_5.out)); (case aS => exact (below_size xB)); (case aL => have := LMc10.out; omega); intro v129 w13 ho hb hg hat; rw [← Ny128.out] at ho; replace HO_0 := Aside0.mk (Kd.R_after (ok := (fun k_ => (P0_ k_ ∨ w.heap.size ≤ k_) ∧ k_ ≠ gb122)) (by (with_reducible repeat (first | apply Kd.R_alloc | apply Kd.R_drewN | apply Kd.R_drew)); exact Kd.R_mono HO_0.out (fun _ hk => ⟨⟨hk.1, hk.2.2⟩, hk.2.1⟩)) hg hat); replace BK122 := Aside0.mk (blk_grown (g := gb122) (o := .cells #[.string a1_0, .int .i64 a1_1, .int .i64 a1_2, .int .i64 a1_3, .string a1_4, .string a1_5] 27 (0, 0)) xK hg (Kd.R_away HO_5.out (fun _ hk => hk.2.2))); replace HK := Aside0.mk (Kept.of_grown (S := (fun k_ => P0_ k_)) hg (by repeat (first | (with_reducible first | exact HK.out | apply Kept.alloc | apply Kept.drewN | apply Kept.drew | refine Kept.setCell ?_ (.inr GW122.out) _) | exact HK.out)) (fun k_ e_ => (HO_5.out.1 k_ e_).1)); have HO130 := Aside0.mk (ho); replace HB := Aside0.mk (hb); clear HO_5; clear ho hb hg hat)); try go_wp2_with (first | ((with_reducible refine gate_builtin (b := .append) (xs := #[.tmp 39, .tmp 44]) rfl ?_); at_builtin; refine Kd.R_append k27 (w0 := w0) w0.heap.size rfl (.tmp 39) (.tmp 44) 22 27 (.agg #[(.string ⟨#[]⟩), (.int .i64 0), (.int .i64 0), (.int .i64 0), (.string ⟨#[]⟩), (.string ⟨#[]⟩)]) 72 rfl Tryz.underlying22 info27 rfl (by decide) (by omega) u5 x5_1 (⟨(rd_T27 l0 x7_1).f0, (⟨(rd_T27 l0 x7_1).f1.f0, (rd_T27 l0 x7_1).f1.f1, (rd_T27 l0 x7_1).f1.f2, (rd_T27 l0 x7_1).f1.f3, (rd_T27 l0 x7_1).f1.f4⟩ : S25)⟩ : S27) [.string ((rd_T27 l0 x7_1).f0), .int .i64 ((rd_T27 l0 x7_1).f1.f0), .int .i64 ((rd_T27 l0 x7_1).f1.f1), .int .i64 ((rd_T27 l0 x7_1).f1.f2), .string ((rd_T27 l0 x7_1).f1.f3), .string ((rd_T27 l0 x7_1).f1.f4)] (fun k_ => (P0_ k_ ∨ w.heap.size ≤ k_) ∧ some k_ ≠ (.slice (some ad126) l0.length co11 : Value).ownBlock ∧ k_ ≠ gb122) (fun _ => False) rfl rfl ?aP (fun _ hk => hk.elim) ?aF ?aO ?aB ?aS ?aL ?_; (case aP => exact k27_mkM _ _ _ (⟨(rd_T27 l0 x7_1).f0, (⟨(rd_T27 l0 x7_1).f1.f0, (rd_T27 l0 x7_1).f1.f1, (rd_T27 l0 x7_1).f1.f2, (rd_T27 l0 x7_1).f1.f3, (rd_T27 l0 x7_1).f1.f4⟩ : S25)⟩ : S27)); (case aB => exact xB); (case aF => exact (fun k_ hk => ⟨(.inr (Nat.le_trans (by first | exact HK.out.1 | exact (show Kept w _ (fun k_ => P0_ k_) from by repeat (first | (with_reducible first | exact HK.out | apply Kept.alloc | apply Kept.drewN | apply Kept.drew | refine Kept.setCell ?_ (.inr GW122.out) _) | exact HK.out)).1) hk)), Kd.fresh' (Kd.R_lt (by (with_reducible repeat (first | apply Kd.R_alloc | apply Kd.R_drewN | apply Kd.R_drew)); exact HO_0.out)) k_ hk, Kd.freshB (g := gb122) (o := .cells #[.string a1_0, .int .i64 a1_1, .int .i64 a1_2, .int .i64 a1_3, .string a1_4, .string a1_5] 27 (0, 0)) xK k_ hk⟩)); (case aO => exact (by (with_reducible repeat (first | apply Kd.R_alloc | apply Kd.R_drewN | apply Kd.R_drew)); exact HO_5.out)); (case aS => exact (below_size xB)); (case aL => have := LMc10.out; omega); intro v129 w13 ho hb hg hat; rw [← Ny128.out] at ho; replace HO_0 := Aside0.mk (Kd.R_after (ok := (fun k_ => (P0_ k_ ∨ w.heap.size ≤ k_) ∧ k_ ≠ gb122)) (by (with_reducible repeat (first | apply Kd.R_alloc | apply Kd.R_drewN | apply Kd.R_drew)); exact Kd.R_mono HO_0.out (fun _ hk => ⟨⟨hk.1, hk.2.2⟩, hk.2.1⟩)) hg hat); replace BK122 := Aside0.mk (blk_grown (g := gb122) (o := .cells #[.string a1_0, .int .i64 a1_1, .int .i64 a1_2, .int .i64 a1_3, .string a1_4, .string a1_5] 27 (0, 0)) xK hg (Kd.R_away HO_5.out (fun _ hk => hk.2.2))); replace HK := Aside0.mk (Kept.of_grown (S := (fun k_ => P0_ k_)) hg (by repeat (first | (with_reducible first | exact HK.out | apply Kept.alloc | apply Kept.drewN | apply Kept.drew | refine Kept.setCell ?_ (.inr GW122.out) _) | exact HK.out)) (fun k_ e_ => (HO_5.out.1 k_ e_).1)); have HO130 := Aside0.mk (ho); replace HB := Aside0.mk (hb); clear HO_5; clear ho hb hg hat)))
     go_roundg k1
     case measure => have := HK1.out; omega
     case rel => exact ⟨(y128), (true), (wrap64 (x7_1 + 1)), xR, xR, H', ⟨by have := HK1.out; omega⟩, ⟨by (with_reducible repeat (first | apply Kd.R_alloc | apply Kd.R_drewN | apply Kd.R_drew)); exact Kd.R_mono HO_0.out (fun _ hk => ⟨hk.1.1, ⟨hk.2, hk.1.2⟩⟩)⟩, ⟨by (with_reducible repeat (first | apply Kd.R_alloc | apply Kd.R_drewN | apply Kd.R_drew)); exact HO130.out⟩, ⟨by (with_reducible repeat (first | refine blk_drewN ?_ _ | refine blk_drew ?_ | refine blk_alloc ?_ _)); exact BK122.out⟩, ⟨by repeat (first | (with_reducible first | exact HK.out | apply Kept.alloc | apply Kept.drewN | apply Kept.drew | refine Kept.setCell ?_ (.inr GW122.out) _) | exact HK.out)⟩, ⟨xB⟩⟩
    replace c9 := Bool.eq_false_iff.mpr c9
    subst c9
    rw [if_neg (show ¬ (false = true) by decide)] at H
    by_cases c14 : (Op.bytesLess a1_0.toList (((rd_T27 l0 x7_1).f0).toList)) = true
    ·
     rw [if_pos c14] at H
     have c14b0 : (Op.bytesLess a1_0.toList (((rd_T27 l0 x7_1).f0).toList)) = true := c14
     clear c14
     replace H := xI H
     obtain ⟨c15, H⟩ := H
     have LMc15 := Aside0.mk c15
     clear c15
     obtain ⟨y132, hy132⟩ : ∃ y_ : List (S27), y_ = (x5_1 ++ [(⟨a1_0, (⟨a1_1, a1_2, a1_3, a1_4, a1_5⟩ : S25)⟩ : S27)]) := ⟨_, rfl⟩
     replace H : (if y132.length < 1954687338268 then (armadaref17_put.l0 k1 l0 (y132 ++ [(⟨(rd_T27 l0 x7_1).f0, (⟨(rd_T27 l0 x7_1).f1.f0, (rd_T27 l0 x7_1).f1.f1, (rd_T27 l0 x7_1).f1.f2, (rd_T27 l0 x7_1).f1.f3, (rd_T27 l0 x7_1).f1.f4⟩ : S25)⟩ : S27)]) true (wrap64 (x7_1 + 1)) a1_0 a1_1 a1_2 a1_3 a1_4 a1_5) else (none)) = some r := by first | (rw [hy132]; with_reducible exact H) | (have H2_ := (Option.bind_some _ _).symm.trans H; rw [hy132]; with_reducible exact H2_) | (have H2_ := (Option.bind_some _ _).symm.trans H; with_reducible exact H2_) | with_reducible exact H | (rw [hy132]; exact H) | exact H
     have Ny132 := Aside0.mk hy132
     clear hy132
     replace H := xI H
     obtain ⟨c16, H⟩ := H
     have LMc16 := Aside0.mk c16
     clear c16
     obtain ⟨y136, hy136⟩ : ∃ y_ : List (S27), y_ = (y132 ++ [(⟨(rd_T27 l0 x7_1).f0, (⟨(rd_T27 l0 x7_1).f1.f0, (rd_T27 l0 x7_1).f1.f1, (rd_T27 l0 x7_1).f1.f2, (rd_T27 l0 x7_1).f1.f3, (rd_T27 l0 x7_1).f1.f4⟩ : S25)⟩ : S27)]) := ⟨_, rfl⟩
     replace H : (armadaref17_put.l0 k1 l0 y136 true (wrap64 (x7_1 + 1)) a1_0 a1_1 a1_2 a1_3 a1_4 a1_5) = some r := by first | (rw [hy136]; with_reducible exact H) | (have H2_ := (Option.bind_some _ _).symm.trans H; rw [hy136]; with_reducible exact H2_) | (have H2_ := (Option.bind_some _ _).symm.trans H; with_reducible exact H2_) | with_reducible exact H | (rw [hy136]; exact H) | exact H
     have Ny136 := Aside0.mk hy136
     clear hy136
     have H' := Aside0.mk H
     clear H
     obtain ⟨Ao17, co17, eo17⟩ := Kd.R_slice HO_0.out
     subst eo17
     have p126 : 0 ≤ (x7_1 : Int) := xD
     have q126 : x7_1 < (l0.length : Int) := xD
     obtain ⟨ad126, e126, hx126_0, hx126_1, hx126_2, hx126_3, hx126_4, hx126_5⟩ := at_T27 (Kd.R_reads' HO_0.out).2.2 x7_1 p126 q126
     cases e126
     replace p126 := eq_true p126
     replace q126 := eq_true q126
     have hcz18_0 : wr.cell? ⟨gb122, 0, none⟩ = some (.string a1_0) := (blk_cell BK122.out 0).trans rfl
     have hcz18_1 : wr.cell? ⟨gb122, 1, none⟩ = some (.int .i64 a1_1) := (blk_cell BK122.out 1).trans rfl
     have hcz18_2 : wr.cell? ⟨gb122, 2, none⟩ = some (.int .i64 a1_2) := (blk_cell BK122.out 2).trans rfl
     have hcz18_3 : wr.cell? ⟨gb122, 3, none⟩ = some (.int .i64 a1_3) := (blk_cell BK122.out 3).trans rfl
     have hcz18_4 : wr.cell? ⟨gb122, 4, none⟩ = some (.string a1_4) := (blk_cell BK122.out 4).trans rfl
     have hcz18_5 : wr.cell? ⟨gb122, 5, none⟩ = some (.string a1_5) := (blk_cell BK122.out 5).trans rfl
     have hfz18_0 := blk_frozen BK122.out 0
     have hfz18_1 := blk_frozen BK122.out 1
     have hfz18_2 := blk_frozen BK122.out 2
     have hfz18_3 := blk_frozen BK122.out 3
     have hfz18_4 := blk_frozen BK122.out 4
     have hfz18_5 := blk_frozen BK122.out 5
     have p131 : 0 ≤ (x7_1 : Int) := xD
     have q131 : x7_1 < (l0.length : Int) := xD
     obtain ⟨ad131, e131, hx131_0, hx131_1, hx131_2, hx131_3, hx131_4, hx131_5⟩ := at_T27 (Kd.R_reads' HO_0.out).2.2 x7_1 p131 q131
     obtain rfl : ad126 = ad131 := (by injection e131)
     replace p131 := eq_true p131
     replace q131 := eq_true q131
     go_wp2_with (first | ((with_reducible refine gate_builtin (b := .append) (xs := #[.tmp 35, .tmp 37]) rfl ?_); at_builtin; refine Kd.R_append k27 (w0 := w0) w0.heap.size rfl (.tmp 35) (.tmp 37) 22 27 (.agg #[(.string ⟨#[]⟩), (.int .i64 0), (.int .i64 0), (.int .i64 0), (.string ⟨#[]⟩), (.string ⟨#[]⟩)]) 72 rfl Tryz.underlying22 info27 rfl (by decide) (by omega) u5 x5_1 (⟨a1_0, (⟨a1_1, a1_2, a1_3, a1_4, a1_5⟩ : S25)⟩ : S27) [.string a1_0, .int .i64 a1_1, .int .i64 a1_2, .int .i64 a1_3, .string a1_4, .string a1_5] (fun k_ => (P0_ k_ ∨ w.heap.size ≤ k_) ∧ some k_ ≠ (.slice (some ad126) l0.length co17 : Value).ownBlock ∧ k_ ≠ gb122) (fun _ => False) rfl rfl ?aP (fun _ hk => hk.elim) ?aF ?aO ?aB ?aS ?aL ?_; (case aP => exact k27_mkM _ _ _ (⟨a1_0, (⟨a1_1, a1_2, a1_3, a1_4, a1_5⟩ : S25)⟩ : S27)); (case aB => exact xB); (case aF => exact (fun k_ hk => ⟨(.inr (Nat.le_trans (by first | exact HK.out.1 | exact (show Kept w _ (fun k_ => P0_ k_) from by repeat (first | (with_reducible first | exact HK.out | apply Kept.alloc | apply Kept.drewN | apply Kept.drew | refine Kept.setCell ?_ (.inr GW122.out) _) | exact HK.out)).1) hk)), Kd.fresh' (Kd.R_lt (by (with_reducible repeat (first | apply Kd.R_alloc | apply Kd.R_drewN | apply Kd.R_drew)); exact HO_0.out)) k_ hk, Kd.freshB (g := gb122) (o := .cells #[.string a1_0, .int .i64 a1_1, .int .i64 a1_2, .int .i64 a1_3, .string a1_4, .string a1_5] 27 (0, 0)) xK k_ hk⟩)); (case aO => exact (by (with_reducible repeat (first | apply Kd.R_alloc | apply Kd.R_drewN | apply Kd.R_drew)); exact HO_5.out)); (case aS => exact (below_size xB)); (case aL => have := LMc15.out; omega); intro v133 w19 ho hb hg hat; rw [← Ny132.out] at ho; replace HO_0 := Aside0.mk (Kd.R_after (ok := (fun k_ => (P0_ k_ ∨ w.heap.size ≤ k_) ∧ k_ ≠ gb122)) (by (with_reducible repeat (first | apply Kd.R_alloc | apply Kd.R_drewN | apply Kd.R_drew)); exact Kd.R_mono HO_0.out (fun _ hk => ⟨⟨hk.1, hk.2.2⟩, hk.2.1⟩)) hg hat); replace BK122 := Aside0.mk (blk_grown (g := gb122) (o := .cells #[.string a1_0, .int .i64 a1_1, .int .i64 a1_2, .int .i64 a1_3, .string a1_4, .string a1_5] 27 (0, 0)) xK hg (Kd.R_away HO_5.out (fun _ hk => hk.2.2))); replace HK := Aside0.mk (Kept.of_grown (S := (fun k_ => P0_ k_)) hg (by repeat (first | (with_reducible first | exact HK.out | apply Kept.alloc | apply Kept.drewN | apply Kept.drew | refine Kept.setCell ?_ (.inr GW122.out) _) | exact HK.out)) (fun k_ e_ => (HO_5.out.1 k_ e_).1)); have HO134 := Aside0.mk (ho); replace HB := Aside0.mk (hb); clear HO_5; clear ho hb hg hat; have p135 : 0 ≤ (x7_1 : Int) := xD; have q135 : x7_1 < (l0.length : Int) := xD; obtain ⟨ad135, e135, hx135_0, hx135_1, hx135_2, hx135_3, hx135_4, hx135_5⟩ := at_T27 (Kd.R_reads' HO_0.out).2.2 x7_1 p135 q135; obtain rfl : ad126 = ad135 := (by injection e135); replace p135 := eq_true p135; replace q135 := eq_true q135) | ((with_reducible refine gate_builtin (b := .append) (xs := #[.tmp 39, .tmp 44]) rfl ?_); at_builtin; refine Kd.R_append k27 (w0 := w0) w0.heap.size rfl (.tmp 39) (.tmp 44) 22 27 (.agg #[(.string ⟨#[]⟩), (.int .i64 0), (.int .i64 0), (.int .i64 0), (.string ⟨#[]⟩), (.string ⟨#[]⟩)]) 72 rfl Tryz.underlying22 info27 rfl (by decide) (by omega) v133 y132 (⟨(rd_T27 l0 x7_1).f0, (⟨(rd_T27 l0 x7_1).f1.f0, (rd_T27 l0 x7_1).f1.f1, (rd_T27 l0 x7_1).f1.f2, (rd_T27 l0 x7_1).f1.f3, (rd_T27 l0 x7_1).f1.f4⟩ : S25)⟩ : S27) [.string ((rd_T27 l0 x7_1).f0), .int .i64 ((rd_T27 l0 x7_1).f1.f0), .int .i64 ((rd_T27 l0 x7_1).f1.f1), .int .i64 ((rd_T27 l0 x7_1).f1.f2), .string ((rd_T27 l0 x7_1).f1.f3), .string ((rd_T27 l0 x7_1).f1.f4)] (fun k_ => (P0_ k_ ∨ w.heap.size ≤ k_) ∧ some k_ ≠ (.slice (some ad126) l0.length co17 : Value).ownBlock ∧ k_ ≠ gb122) (fun _ => False) rfl rfl ?aP (fun _ hk => hk.elim) ?aF ?aO ?aB ?aS ?aL ?_; (case aP => exact k27_mkM _ _ _ (⟨(rd_T27 l0 x7_1).f0, (⟨(rd_T27 l0 x7_1).f1.f0, (rd_T27 l0 x7_1).f1.f1, (rd_T27 l0 x7_1).f1.f2, (rd_T27 l0 x7_1).f1.f3, (rd_T27 l0 x7_1).f1.f4⟩ : S25)⟩ : S27)); (case aB => exact xB); (case aF => exact (fun k_ hk => ⟨(.inr (Nat.le_trans (by first | exact HK.out.1 | exact (show Kept w _ (fun k_ => P0_ k_) from by repeat (first | (with_reducible first | exact HK.out | apply Kept.alloc | apply Kept.drewN | apply Kept.drew | refine Kept.setCell ?_ (.inr GW122.out) _) | exact HK.out)).1) hk)), Kd.fresh' (Kd.R_lt (by (with_reducible repeat (first | apply Kd.R_alloc | apply Kd.R_drewN | apply Kd.R_drew)); exact HO_0.out)) k_ hk, Kd.freshB (g := gb122) (o := .cells #[.string a1_0, .int .i64 a1_1, .int .i64 a1_2, .int .i64 a1_3, .string a1_4, .string a1_5] 27 (0, 0)) xK k_ hk⟩)); (case aO => exact (by (with_reducible repeat (first | apply Kd.R_alloc | apply Kd.R_drewN | apply Kd.R_drew)); exact HO134.out)); (case aS => exact (below_size xB)); (case aL => have := LMc16.out; omega); intro v137 w20 ho hb hg hat; rw [← Ny136.out] at ho; replace HO_0 := Aside0.mk (Kd.R_after (ok := (fun k_ => (P0_ k_ ∨ w.heap.size ≤ k_) ∧ k_ ≠ gb122)) (by (with_reducible repeat (first | apply Kd.R_alloc | apply Kd.R_drewN | apply Kd.R_drew)); exact HO_0.out) hg hat); replace BK122 := Aside0.mk (blk_grown (g := gb122) (o := .cells #[.string a1_0, .int .i64 a1_1, .int .i64 a1_2, .int .i64 a1_3, .string a1_4, .string a1_5] 27 (0, 0)) xK hg (Kd.R_away HO134.out (fun _ hk => hk.2.2))); replace HK := Aside0.mk (Kept.of_grown (S := (fun k_ => P0_ k_)) hg (by repeat (first | (with_reducible first | exact HK.out | apply Kept.alloc | apply Kept.drewN | apply Kept.drew | refine Kept.setCell ?_ (.inr GW122.out) _) | exact HK.out)) (fun k_ e_ => (HO134.out.1 k_ e_).1)); have HO138 := Aside0.mk (ho); replace HB := Aside0.mk (hb); clear HO134; clear ho hb hg hat))
     repeat (go_quiet (first | ((with_reducible refine gate_builtin (b := .append) (xs := #[.tmp 35, .tmp 37]) rfl ?_); at_builtin; refine Kd.R_append k27 (w0 := w0) w0.heap.size rfl (.tmp 35) (.tmp 37) 22 27 (.agg #[(.string ⟨#[]⟩), (.int .i64 0), (.int .i64 0), (.int .i64 0), (.string ⟨#[]⟩), (.string ⟨#[]⟩)]) 72 rfl Tryz.underlying22 info27 rfl (by decide) (by omega) u5 x5_1 (⟨a1_0, (⟨a1_1, a1_2, a1_3, a1_4, a1_5⟩ : S25)⟩ : S27) [.string a1_0, .int .i64 a1_1, .int .i64 a1_2, .int .i64 a1_3, .string a1_4, .string a1_5] (fun k_ => (P0_ k_ ∨ w.heap.size ≤ k_) ∧ some k_ ≠ (.slice (some ad126) l0.length co17 : Value).ownBlock ∧ k_ ≠ gb122) (fun _ => False) rfl rfl ?aP (fun _ hk => hk.elim) ?aF ?aO ?aB ?aS ?aL ?_; (case aP => exact k27_mkM _ _ _ (⟨a1_0, (⟨a1_1, a1_2, a1_3, a1_4, a1_5⟩ : S25)⟩ : S27)); (case aB => exact xB); (case aF => exact (fun k_ hk => ⟨(.inr (Nat.le_trans (by first | exact HK.out.1 | exact (show Kept w _ (fun k_ => P0_ k_) from by repeat (first | (with_reducible first | exact HK.out | apply Kept.alloc | apply Kept.drewN | apply Kept.drew | refine Kept.setCell ?_ (.inr GW122.out) _) | exact HK.out)).1) hk)), Kd.fresh' (Kd.R_lt (by (with_reducible repeat (first | apply Kd.R_alloc | apply Kd.R_drewN | apply Kd.R_drew)); exact HO_0.out)) k_ hk, Kd.freshB (g := gb122) (o := .cells #[.string a1_0, .int .i64 a1_1, .int .i64 a1_2, .int .i64 a1_3, .string a1_4, .string a1_5] 27 (0, 0)) xK k_ hk⟩)); (case aO => exact (by (with_reducible repeat (first | apply Kd.R_alloc | apply Kd.R_drewN | apply Kd.R_drew)); exact HO_5.out)); (case aS => exact (below_size xB)); (case aL => have := LMc15.out; omega); intro v133 w19 ho hb hg hat; rw [← Ny132.out] at ho; replace HO_0 := Aside0.mk (Kd.R_after (ok := (fun k_ => (P0_ k_ ∨ w.heap.size ≤ k_) ∧ k_ ≠ gb122)) (by (with_reducible repeat (first | apply Kd.R_alloc | apply Kd.R_drewN | apply Kd.R_drew)); exact Kd.R_mono HO_0.out (fun _ hk => ⟨⟨hk.1, hk.2.2⟩, hk.2.1⟩)) hg hat); replace BK122 := Aside0.mk (blk_grown (g := gb122) (o := .cells #[.string a1_0, .int .i64 a1_1, .int .i64 a1_2, .int .i64 a1_3, .string a1_4, .string a1_5] 27 (0, 0)) xK hg (Kd.R_away HO_5.out (fun _ hk => hk.2.2))); replace HK := Aside0.mk (Kept.of_grown (S := (fun k_ => P0_ k_)) hg (by repeat (first | (with_reducible first | exact HK.out | apply Kept.alloc | apply Kept.drewN | apply Kept.drew | refine Kept.setCell ?_ (.inr GW122.out) _) | exact HK.out)) (fun k_ e_ => (HO_5.out.1 k_ e_).1)); have HO134 := Aside0.mk (ho); replace HB := Aside0.mk (hb); clear HO_5; clear ho hb hg hat; have p135 : 0 ≤ (x7_1 : Int) := xD; have q135 : x7_1 < (l0.length : Int) := xD; obtain ⟨ad135, e135, hx135_0, hx135_1, hx135_2, hx135_3, hx135_4, hx135_5⟩ := at_T27 (Kd.R_reads' HO_0.out).2.2 x7_1 p135 q135; obtain rfl : ad126 = ad135 := (by injection e135); replace p135 := eq_true p135; replace q135 := eq_true q135) | ((with_reducible refine gate_builtin (b := .append) (xs := #[.tmp 39, .tmp 44]) rfl ?_); at_builtin; refine Kd.R_append k27 (w0 := w0) w0.heap.size rfl (.tmp 39) (.tmp 44) 22 27 (.agg #[(.string ⟨#[]⟩), (.int .i64 0), (.int .i64 0), (.int .i64 0), (.string ⟨#[]⟩), (.string ⟨#[]⟩)]) 72 rfl Tryz.underlying22 info27 rfl (by decide) (by omega) v133 y132 (⟨(rd_T27 l0 x7_1).f0, (⟨(rd_T27 l0 x7_1).f1.f0, (rd_T27 l0 x7_1).f1.f1, (rd_T27 l0 x7_1).f1.f2, (rd_T27 l0 x7_1).f1.f3, (rd_T27 l0 x7_1).f1.f4⟩ : S25)⟩ : S27) [.string ((rd_T27 l0 x7_1).f0), .int .i64 ((rd_T27 l0 x7_1).f1.f0), .int .i64 ((rd_T27 l0 x7_1).f1.f1), .int .i64 ((rd_T27 l0 x7_1).f1.f2), .string ((rd_T27 l0 x7_1).f1.f3), .string ((rd_T27 l0 x7_1).f1.f4)] (fun k_ => (P0_ k_ ∨ w.heap.size ≤ k_) ∧ some k_ ≠ (.slice (some ad126) l0.length co17 : Value).ownBlock ∧ k_ ≠ gb122) (fun _ => False) rfl rfl ?aP (fun _ hk => hk.elim) ?aF ?aO ?aB ?aS ?aL ?_; (case aP => exact k27_mkM _ _ _ (⟨(rd_T27 l0 x7_1).f0, (⟨(rd_T27 l0 x7_1).f1.f0, (rd_T27 l0 x7_1).f1.f1, (rd_T27 l0 x7_1).f1.f2, (rd_T27 l0 x7_1).f1.f3, (rd_T27 l0 x7_1).f1.f4⟩ : S25)⟩ : S27)); (case aB => exact xB); (case aF => exact (fun k_ hk => ⟨(.inr (Nat.le_trans (by first | exact HK.out.1 | exact (show Kept w _ (fun k_ => P0_ k_) from by repeat (first | (with_reducible first | exact HK.out | apply Kept.alloc | apply Kept.drewN | apply Kept.drew | refine Kept.setCell ?_ (.inr GW122.out) _) | exact HK.out)).1) hk)), Kd.fresh' (Kd.R_lt (by (with_reducible repeat (first | apply Kd.R_alloc | apply Kd.R_drewN | apply Kd.R_drew)); exact HO_0.out)) k_ hk, Kd.freshB (g := gb122) (o := .cells #[.string a1_0, .int .i64 a1_1, .int .i64 a1_2, .int .i64 a1_3, .string a1_4, .string a1_5] 27 (0, 0)) xK k_ hk⟩)); (case aO => exact (by (with_reducible repeat (first | apply Kd.R_alloc | apply Kd.R_drewN | apply Kd.R_drew)); exact HO134.out)); (case aS => exact (below_size xB)); (case aL => have := LMc16.out; omega); intro v137 w20 ho hb hg hat; rw [← Ny136.out] at ho; replace HO_0 := Aside0.mk (Kd.R_after (ok := (fun k_ => (P0_ k_ ∨ w.heap.size ≤ k_) ∧ k_ ≠ gb122)) (by (with_reducible repeat (first | apply Kd.R_alloc | apply Kd.R_drewN | apply Kd.R_drew)); exact HO_0.out) hg hat); replace BK122 := Aside0.mk (blk_grown (g := gb122) (o := .cells #[.string a1_0, .int .i64 a1_1, .int .i64 a1_2, .int .i64 a1_3, .string a1_4, .string a1_5] 27 (0, 0)) xK hg (Kd.R_away HO134.out (fun _ hk => hk.2.2))); replace HK := Aside0.mk (Kept.of_grown (S := (fun k_ => P0_ k_)) hg (by repeat (first | (with_reducible first | exact HK.out | apply Kept.alloc | apply Kept.drewN | apply Kept.drew | refine Kept.setCell ?_ (.inr GW122.out) _) | exact HK.out)) (fun k_ e_ => (HO134.out.1 k_ e_).1)); have HO138 := Aside0.mk (ho); replace HB := Aside0.mk (hb); clear HO134; clear ho hb hg hat)); try go_wp2_with (first | ((with_reducible refine gate_builtin (b := .append) (xs := #[.tmp 35, .tmp 37]) rfl ?_); at_builtin; refine Kd.R_append k27 (w0 := w0) w0.heap.size rfl (.tmp 35) (.tmp 37) 22 27 (.agg #[(.string ⟨#[]⟩), (.int .i64 0), (.int .i64 0), (.int .i64 0), (.string ⟨#[]⟩), (.string ⟨#[]⟩)]) 72 rfl Tryz.underlying22 info27 rfl (by decide) (by omega) u5 x5_1 (⟨a1_0, (⟨a1_1, a1_2, a1_3, a1_4, a1_5⟩ : S25)⟩ : S27) [.string a1_0, .int .i64 a1_1, .int .i64 a1_2, .int .i64 a1_3, .string a1_4, .string a1_5] (fun k_ => (P0_ k_ ∨ w.heap.size ≤ k_) ∧ some k_ ≠ (.slice (some ad126) l0.length co17 : Value).ownBlock ∧ k_ ≠ gb122) (fun _ => False) rfl rfl ?aP (fun _ hk => hk.elim) ?aF ?aO ?aB ?aS ?aL ?_; (case aP => exact k27_mkM _ _ _ (⟨a1_0, (⟨a1_1, a1_2, a1_3, a1_4, a1_5⟩ : S25)⟩ : S27)); (case aB => exact xB); (case aF => exact (fun k_ hk => ⟨(.inr (Nat.le_trans (by first | exact HK.out.1 | exact (show Kept w _ (fun k_ => P0_ k_) from by repeat (first | (with_reducible first | exact HK.out | apply Kept.alloc | apply Kept.drewN | apply Kept.drew | refine Kept.setCell ?_ (.inr GW122.out) _) | exact HK.out)).1) hk)), Kd.fresh' (Kd.R_lt (by (with_reducible repeat (first | apply Kd.R_alloc | apply Kd.R_drewN | apply Kd.R_drew)); exact HO_0.out)) k_ hk, Kd.freshB (g := gb122) (o := .cells #[.string a1_0, .int .i64 a1_1, .int .i64 a1_2, .int .i64 a1_3, .string a1_4, .string a1_5] 27 (0, 0)) xK k_ hk⟩)); (case aO => exact (by (with_reducible repeat (first | apply Kd.R_alloc | apply Kd.R_drewN | apply Kd.R_drew)); exact HO_5.out)); (case aS => exact (below_size xB)); (case aL => have := LMc15.out; omega); intro v133 w19 ho hb hg hat; rw [← Ny132.out] at ho; replace HO_0 := Aside0.mk (Kd.R_after (ok := (fun k_ => (P0_ k_ ∨ w.heap.size ≤ k_) ∧ k_ ≠ gb122)) (by (with_reducible repeat (first | apply Kd.R_alloc | apply Kd.R_drewN | apply Kd.R_drew)); exact Kd.R_mono HO_0.out (fun _ hk => ⟨⟨hk.1, hk.2.2⟩, hk.2.1⟩)) hg hat); replace BK122 := Aside0.mk (blk_grown (g := gb122) (o := .cells #[.string a1_0, .int .i64 a1_1, .int .i64 a1_2, .int .i64 a1_3, .string a1_4, .string a1_5] 27 (0, 0)) xK hg (Kd.R_away HO_5.out (fun _ hk => hk.2.2))); replace HK := Aside0.mk (Kept.of_grown (S := (fun k_ => P0_ k_)) hg (by repeat (first | (with_reducible first | exact HK.out | apply Kept.alloc | apply Kept.drewN | apply Kept.drew | refine Kept.setCell ?_ (.inr GW122.out) _) | exact HK.out)) (fun k_ e_ => (HO_5.out.1 k_ e_).1)); have HO134 := Aside0.mk (ho); replace HB := Aside0.mk (hb); clear HO_5; clear ho hb hg hat; have p135 : 0 ≤ (x7_1 : Int) := xD; have q135 : x7_1 < (l0.length : Int) := xD; obtain ⟨ad135, e135, hx135_0, hx135_1, hx135_2, hx135_3, hx135_4, hx135_5⟩ := at_T27 (Kd.R_reads' HO_0.out).2.2 x7_1 p135 q135; obtain rfl : ad126 = ad135 := (by injection e135); replace p135 := eq_true p135; replace q135 := eq_true q135) | ((with_reducible refine gate_builtin (b := .append) (xs := #[.tmp 39, .tmp 44]) rfl ?_); at_builtin; refine Kd.R_append k27 (w0 := w0) w0.heap.size rfl (.tmp 39) (.tmp 44) 22 27 (.agg #[(.string ⟨#[]⟩), (.int .i64 0), (.int .i64 0), (.int .i64 0), (.string ⟨#[]⟩), (.string ⟨#[]⟩)]) 72 rfl Tryz.underlying22 info27 rfl (by decide) (by omega) v133 y132 (⟨(rd_T27 l0 x7_1).f0, (⟨(rd_T27 l0 x7_1).f1.f0, (rd_T27 l0 x7_1).f1.f1, (rd_T27 l0 x7_1).f1.f2, (rd_T27 l0 x7_1).f1.f3, (rd_T27 l0 x7_1).f1.f4⟩ : S25)⟩ : S27) [.string ((rd_T27 l0 x7_1).f0), .int .i64 ((rd_T27 l0 x7_1).f1.f0), .int .i64 ((rd_T27 l0 x7_1).f1.f1), .int .i64 ((rd_T27 l0 x7_1).f1.f2), .string ((rd_T27 l0 x7_1).f1.f3), .string ((rd_T27 l0 x7_1).f1.f4)] (fun k_ => (P0_ k_ ∨ w.heap.size ≤ k_) ∧ some k_ ≠ (.slice (some ad126) l0.length co17 : Value).ownBlock ∧ k_ ≠ gb122) (fun _ => False) rfl rfl ?aP (fun _ hk => hk.elim) ?aF ?aO ?aB ?aS ?aL ?_; (case aP => exact k27_mkM _ _ _ (⟨(rd_T27 l0 x7_1).f0, (⟨(rd_T27 l0 x7_1).f1.f0, (rd_T27 l0 x7_1).f1.f1, (rd_T27 l0 x7_1).f1.f2, (rd_T27 l0 x7_1).f1.f3, (rd_T27 l0 x7_1).f1.f4⟩ : S25)⟩ : S27)); (case aB => exact xB); (case aF => exact (fun k_ hk => ⟨(.inr (Nat.le_trans (by first | exact HK.out.1 | exact (show Kept w _ (fun k_ => P0_ k_) from by repeat (first | (with_reducible first | exact HK.out | apply Kept.alloc | apply Kept.drewN | apply Kept.drew | refine Kept.setCell ?_ (.inr GW122.out) _) | exact HK.out)).1) hk)), Kd.fresh' (Kd.R_lt (by (with_reducible repeat (first | apply Kd.R_alloc | apply Kd.R_drewN | apply Kd.R_drew)); exact HO_0.out)) k_ hk, Kd.freshB (g := gb122) (o := .cells #[.string a1_0, .int .i64 a1_1, .int .i64 a1_2, .int .i64 a1_3, .string a1_4, .string a1_5] 27 (0, 0)) xK k_ hk⟩)); (case aO => exact (by (with_reducible repeat (first | apply Kd.R_alloc | apply Kd.R_drewN | apply Kd.R_drew)); exact HO134.out)); (case aS => exact (below_size xB)); (case aL => have := LMc16.out; omega); intro v137 w20 ho hb hg hat; rw [← Ny136.out] at ho; replace HO_0 := Aside0.mk (Kd.R_after (ok := (fun k_ => (P0_ k_ ∨ w.heap.size ≤ k_) ∧ k_ ≠ gb122)) (by (with_reducible repeat (first | apply Kd.R_alloc | apply Kd.R_drewN | apply Kd.R_drew)); exact HO_0.out) hg hat); replace BK122 := Aside0.mk (blk_grown (g := gb122) (o := .cells #[.string a1_0, .int .i64 a1_1, .int .i64 a1_2, .int .i64 a1_3, .string a1_4, .string a1_5] 27 (0, 0)) xK hg (Kd.R_away HO134.out (fun _ hk => hk.2.2))); replace HK := Aside0.mk (Kept.of_grown (S := (fun k_ => P0_ k_)) hg (by repeat (first | (with_reducible first | exact HK.out | apply Kept.alloc | apply Kept.drewN | apply Kept.drew | refine Kept.setCell ?_ (.inr GW122.out) _) | exact HK.out)) (fun k_ e_ => (HO134.out.1 k_ e_).1)); have HO138 := Aside0.mk (ho); replace HB := Aside0.mk (hb); clear HO134; clear ho hb hg hat)))
     go_roundg k1
     case measure => have := HK1.out; omega
     case rel => exact ⟨(y136), (true), (wrap64 (x7_1 + 1)), xR, xR, H', ⟨by have := HK1.out; omega⟩, ⟨by (with_reducible repeat (first | apply Kd.R_alloc | apply Kd.R_drewN | apply Kd.R_drew)); exact Kd.R_mono HO_0.out (fun _ hk => ⟨hk.1.1, ⟨hk.2, hk.1.2⟩⟩)⟩, ⟨by (with_reducible repeat (first | apply Kd.R_alloc | apply Kd.R_drewN | apply Kd.R_drew)); exact HO138.out⟩, ⟨by (with_reducible repeat (first | refine blk_drewN ?_ _ | refine blk_drew ?_ | refine blk_alloc ?_ _)); exact BK122.out⟩, ⟨by repeat (first | (with_reducible first | exact HK.out | apply Kept.alloc | apply Kept.drewN | apply Kept.drew | refine Kept.setCell ?_ (.inr GW122.out) _) | exact HK.out)⟩, ⟨xB⟩⟩
    rw [if_neg c14] at H
    have c14b0 : (Op.bytesLess a1_0.toList (((rd_T27 l0 x7_1).f0).toList)) = false := by simpa using c14
    clear c14
    replace H := xI H
    obtain ⟨c21, H⟩ := H
    have LMc21 := Aside0.mk c21
    clear c21
    obtain ⟨y140, hy140⟩ : ∃ y_ : List (S27), y_ = (x5_1 ++ [(⟨(rd_T27 l0 x7_1).f0, (⟨(rd_T27 l0 x7_1).f1.f0, (rd_T27 l0 x7_1).f1.f1, (rd_T27 l0 x7_1).f1.f2, (rd_T27 l0 x7_1).f1.f3, (rd_T27 l0 x7_1).f1.f4⟩ : S25)⟩ : S27)]) := ⟨_, rfl⟩
    replace H : (armadaref17_put.l0 k1 l0 y140 false (wrap64 (x7_1 + 1)) a1_0 a1_1 a1_2 a1_3 a1_4 a1_5) = some r := by first | (rw [hy140]; with_reducible exact H) | (have H2_ := (Option.bind_some _ _).symm.trans H; rw [hy140]; with_reducible exact H2_) | (have H2_ := (Option.bind_some _ _).symm.trans H; with_reducible exact H2_) | with_reducible exact H | (rw [hy140]; exact H) | exact H
    have Ny140 := Aside0.mk hy140
    clear hy140
    have H' := Aside0.mk H
    clear H
    obtain ⟨Ao22, co22, eo22⟩ := Kd.R_slice HO_0.out
    subst eo22
    have p126 : 0 ≤ (x7_1 : Int) := xD
    have q126 : x7_1 < (l0.length : Int) := xD
    obtain ⟨ad126, e126, hx126_0, hx126_1, hx126_2, hx126_3, hx126_4, hx126_5⟩ := at_T27 (Kd.R_reads' HO_0.out).2.2 x7_1 p126 q126
    cases e126
    replace p126 := eq_true p126
    replace q126 := eq_true q126
    have hcz23_0 : wr.cell? ⟨gb122, 0, none⟩ = some (.string a1_0) := (blk_cell BK122.out 0).trans rfl
    have hcz23_1 : wr.cell? ⟨gb122, 1, none⟩ = some (.int .i64 a1_1) := (blk_cell BK122.out 1).trans rfl
    have hcz23_2 : wr.cell? ⟨gb122, 2, none⟩ = some (.int .i64 a1_2) := (blk_cell BK122.out 2).trans rfl
    have hcz23_3 : wr.cell? ⟨gb122, 3, none⟩ = some (.int .i64 a1_3) := (blk_cell BK122.out 3).trans rfl
    have hcz23_4 : wr.cell? ⟨gb122, 4, none⟩ = some (.string a1_4) := (blk_cell BK122.out 4).trans rfl
    have hcz23_5 : wr.cell? ⟨gb122, 5, none⟩ = some (.string a1_5) := (blk_cell BK122.out 5).trans rfl
    have hfz23_0 := blk_frozen BK122.out 0
    have hfz23_1 := blk_frozen BK122.out 1
    have hfz23_2 := blk_frozen BK122.out 2
    have hfz23_3 := blk_frozen BK122.out 3
    have hfz23_4 := blk_frozen BK122.out 4
    have hfz23_5 := blk_frozen BK122.out 5
    have p131 : 0 ≤ (x7_1 : Int) := xD
    have q131 : x7_1 < (l0.length : Int) := xD
    obtain ⟨ad131, e131, hx131_0, hx131_1, hx131_2, hx131_3, hx131_4, hx131_5⟩ := at_T27 (Kd.R_reads' HO_0.out).2.2 x7_1 p131 q131
    obtain rfl : ad126 = ad131 := (by injection e131)
    replace p131 := eq_true p131
    replace q131 := eq_true q131
    have p139 : 0 ≤ (x7_1 : Int) := xD
    have q139 : x7_1 < (l0.length : Int) := xD
    obtain ⟨ad139, e139, hx139_0, hx139_1, hx139_2, hx139_3, hx139_4, hx139_5⟩ := at_T27 (Kd.R_reads' HO_0.out).2.2 x7_1 p139 q139
    obtain rfl : ad126 = ad139 := (by injection e139)
    replace p139 := eq_true p139
    replace q139 := eq_true q139
    go_wp2_with (first | ((with_reducible refine gate_builtin (b := .append) (xs := #[.tmp 39, .tmp 44]) rfl ?_); at_builtin; refine Kd.R_append k27 (w0 := w0) w0.heap.size rfl (.tmp 39) (.tmp 44) 22 27 (.agg #[(.string ⟨#[]⟩), (.int .i64 0), (.int .i64 0), (.int .i64 0), (.string ⟨#[]⟩), (.string ⟨#[]⟩)]) 72 rfl Tryz.underlying22 info27 rfl (by decide) (by omega) u5 x5_1 (⟨(rd_T27 l0 x7_1).f0, (⟨(rd_T27 l0 x7_1).f1.f0, (rd_T27 l0 x7_1).f1.f1, (rd_T27 l0 x7_1).f1.f2, (rd_T27 l0 x7_1).f1.f3, (rd_T27 l0 x7_1).f1.f4⟩ : S25)⟩ : S27) [.string ((rd_T27 l0 x7_1).f0), .int .i64 ((rd_T27 l0 x7_1).f1.f0), .int .i64 ((rd_T27 l0 x7_1).f1.f1), .int .i64 ((rd_T27 l0 x7_1).f1.f2), .string ((rd_T27 l0 x7_1).f1.f3), .string ((rd_T27 l0 x7_1).f1.f4)] (fun k_ => (P0_ k_ ∨ w.heap.size ≤ k_) ∧ some k_ ≠ (.slice (some ad126) l0.length co22 : Value).ownBlock ∧ k_ ≠ gb122) (fun _ => False) rfl rfl ?aP (fun _ hk => hk.elim) ?aF ?aO ?aB ?aS ?aL ?_; (case aP => exact k27_mkM _ _ _ (⟨(rd_T27 l0 x7_1).f0, (⟨(rd_T27 l0 x7_1).f1.f0, (rd_T27 l0 x7_1).f1.f1, (rd_T27 l0 x7_1).f1.f2, (rd_T27 l0 x7_1).f1.f3, (rd_T27 l0 x7_1).f1.f4⟩ : S25)⟩ : S27)); (case aB => exact xB); (case aF => exact (fun k_ hk => ⟨(.inr (Nat.le_trans (by first | exact HK.out.1 | exact (show Kept w _ (fun k_ => P0_ k_) from by repeat (first | (with_reducible first | exact HK.out | apply Kept.alloc | apply Kept.drewN | apply Kept.drew | refine Kept.setCell ?_ (.inr GW122.out) _) | exact HK.out)).1) hk)), Kd.fresh' (Kd.R_lt (by (with_reducible repeat (first | apply Kd.R_alloc | apply Kd.R_drewN | apply Kd.R_drew)); exact HO_0.out)) k_ hk, Kd.freshB (g := gb122) (o := .cells #[.string a1_0, .int .i64 a1_1, .int .i64 a1_2, .int .i64 a1_3, .string a1_4, .string a1_5] 27 (0, 0)) xK k_ hk⟩)); (case aO => exact (by (with_reducible repeat (first | apply Kd.R_alloc | apply Kd.R_drewN | apply Kd.R_drew)); exact HO_5.out)); (case aS => exact (below_size xB)); (case aL => have := LMc21.out; omega); intro v141 w24 ho hb hg hat; rw [← Ny140.out] at ho; replace HO_0 := Aside0.mk (Kd.R_after (ok := (fun k_ => (P0_ k_ ∨ w.heap.size ≤ k_) ∧ k_ ≠ gb122)) (by (with_reducible repeat (first | apply Kd.R_alloc | apply Kd.R_drewN | apply Kd.R_drew)); exact Kd.R_mono HO_0.out (fun _ hk => ⟨⟨hk.1, hk.2.2⟩, hk.2.1⟩)) hg hat); replace BK122 := Aside0.mk (blk_grown (g := gb122) (o := .cells #[.string a1_0, .int .i64 a1_1, .int .i64 a1_2, .int .i64 a1_3, .string a1_4, .string a1_5] 27 (0, 0)) xK hg (Kd.R_away HO_5.out (fun _ hk => hk.2.2))); replace HK := Aside0.mk (Kept.of_grown (S := (fun k_ => P0_ k_)) hg (by repeat (first | (with_reducible first | exact HK.out | apply Kept.alloc | apply Kept.drewN | apply Kept.drew | refine Kept.setCell ?_ (.inr GW122.out) _) | exact HK.out)) (fun k_ e_ => (HO_5.out.1 k_ e_).1)); have HO142 := Aside0.mk (ho); replace HB := Aside0.mk (hb); clear HO_5; clear ho hb hg hat))
    repeat (go_quiet (first | ((with_reducible refine gate_builtin (b := .append) (xs := #[.tmp 39, .tmp 44]) rfl ?_); at_builtin; refine Kd.R_append k27 (w0 := w0) w0.heap.size rfl (.tmp 39) (.tmp 44) 22 27 (.agg #[(.string ⟨#[]⟩), (.int .i64 0), (.int .i64 0), (.int .i64 0), (.string ⟨#[]⟩), (.string ⟨#[]⟩)]) 72 rfl Tryz.underlying22 info27 rfl (by decide) (by omega) u5 x5_1 (⟨(rd_T27 l0 x7_1).f0, (⟨(rd_T27 l0 x7_1).f1.f0, (rd_T27 l0 x7_1).f1.f1, (rd_T27 l0 x7_1).f1.f2, (rd_T27 l0 x7_1).f1.f3, (rd_T27 l0 x7_1).f1.f4⟩ : S25)⟩ : S27) [.string ((rd_T27 l0 x7_1).f0), .int .i64 ((rd_T27 l0 x7_1).f1.f0), .int .i64 ((rd_T27 l0 x7_1).f1.f1), .int .i64 ((rd_T27 l0 x7_1).f1.f2), .string ((rd_T27 l0 x7_1).f1.f3), .string ((rd_T27 l0 x7_1).f1.f4)] (fun k_ => (P0_ k_ ∨ w.heap.size ≤ k_) ∧ some k_ ≠ (.slice (some ad126) l0.length co22 : Value).ownBlock ∧ k_ ≠ gb122) (fun _ => False) rfl rfl ?aP (fun _ hk => hk.elim) ?aF ?aO ?aB ?aS ?aL ?_; (case aP => exact k27_mkM _ _ _ (⟨(rd_T27 l0 x7_1).f0, (⟨(rd_T27 l0 x7_1).f1.f0, (rd_T27 l0 x7_1).f1.f1, (rd_T27 l0 x7_1).f1.f2, (rd_T27 l0 x7_1).f1.f3, (rd_T27 l0 x7_1).f1.f4⟩ : S25)⟩ : S27)); (case aB => exact xB); (case aF => exact (fun k_ hk => ⟨(.inr (Nat.le_trans (by first | exact HK.out.1 | exact (show Kept w _ (fun k_ => P0_ k_) from by repeat (first | (with_reducible first | exact HK.out | apply Kept.alloc | apply Kept.drewN | apply Kept.drew | refine Kept.setCell ?_ (.inr GW122.out) _) | exact HK.out)).1) hk)), Kd.fresh' (Kd.R_lt (by (with_reducible repeat (first | apply Kd.R_alloc | apply Kd.R_drewN | apply Kd.R_drew)); exact HO_0.out)) k_ hk, Kd.freshB (g := gb122) (o := .cells #[.string a1_0, .int .i64 a1_1, .int .i64 a1_2, .int .i64 a1_3, .string a1_4, .string a1_5] 27 (0, 0)) xK k_ hk⟩)); (case aO => exact (by (with_reducible repeat (first | apply Kd.R_alloc | apply Kd.R_drewN | apply Kd.R_drew)); exact HO_5.out)); (case aS => exact (below_size xB)); (case aL => have := LMc21.out; omega); intro v141 w24 ho hb hg hat; rw [← Ny140.out] at ho; replace HO_0 := Aside0.mk (Kd.R_after (ok := (fun k_ => (P0_ k_ ∨ w.heap.size ≤ k_) ∧ k_ ≠ gb122)) (by (with_reducible repeat (first | apply Kd.R_alloc | apply Kd.R_drewN | apply Kd.R_drew)); exact Kd.R_mono HO_0.out (fun _ hk => ⟨⟨hk.1, hk.2.2⟩, hk.2.1⟩)) hg hat); replace BK122 := Aside0.mk (blk_grown (g := gb122) (o := .cells #[.string a1_0, .int .i64 a1_1, .int .i64 a1_2, .int .i64 a1_3, .string a1_4, .string a1_5] 27 (0, 0)) xK hg (Kd.R_away HO_5.out (fun _ hk => hk.2.2))); replace HK := Aside0.mk (Kept.of_grown (S := (fun k_ => P0_ k_)) hg (by repeat (first | (with_reducible first | exact HK.out | apply Kept.alloc | apply Kept.drewN | apply Kept.drew | refine Kept.setCell ?_ (.inr GW122.out) _) | exact HK.out)) (fun k_ e_ => (HO_5.out.1 k_ e_).1)); have HO142 := Aside0.mk (ho); replace HB := Aside0.mk (hb); clear HO_5; clear ho hb hg hat)); try go_wp2_with (first | ((with_reducible refine gate_builtin (b := .append) (xs := #[.tmp 39, .tmp 44]) rfl ?_); at_builtin; refine Kd.R_append k27 (w0 := w0) w0.heap.size rfl (.tmp 39) (.tmp 44) 22 27 (.agg #[(.string ⟨#[]⟩), (.int .i64 0), (.int .i64 0), (.int .i64 0), (.string ⟨#[]⟩), (.string ⟨#[]⟩)]) 72 rfl Tryz.underlying22 info27 rfl (by decide) (by omega) u5 x5_1 (⟨(rd_T27 l0 x7_1).f0, (⟨(rd_T27 l0 x7_1).f1.f0, (rd_T27 l0 x7_1).f1.f1, (rd_T27 l0 x7_1).f1.f2, (rd_T27 l0 x7_1).f1.f3, (rd_T27 l0 x7_1).f1.f4⟩ : S25)⟩ : S27) [.string ((rd_T27 l0 x7_1).f0), .int .i64 ((rd_T27 l0 x7_1).f1.f0), .int .i64 ((rd_T27 l0 x7_1).f1.f1), .int .i64 ((rd_T27 l0 x7_1).f1.f2), .string ((rd_T27 l0 x7_1).f1.f3), .string ((rd_T27 l0 x7_1).f1.f4)] (fun k_ => (P0_ k_ ∨ w.heap.size ≤ k_) ∧ some k_ ≠ (.slice (some ad126) l0.length co22 : Value).ownBlock ∧ k_ ≠ gb122) (fun _ => False) rfl rfl ?aP (fun _ hk => hk.elim) ?aF ?aO ?aB ?aS ?aL ?_; (case aP => exact k27_mkM _ _ _ (⟨(rd_T27 l0 x7_1).f0, (⟨(rd_T27 l0 x7_1).f1.f0, (rd_T27 l0 x7_1).f1.f1, (rd_T27 l0 x7_1).f1.f2, (rd_T27 l0 x7_1).f1.f3, (rd_T27 l0 x7_1).f1.f4⟩ : S25)⟩ : S27)); (case aB => exact xB); (case aF => exact (fun k_ hk => ⟨(.inr (Nat.le_trans (by first | exact HK.out.1 | exact (show Kept w _ (fun k_ => P0_ k_) from by repeat (first | (with_reducible first | exact HK.out | apply Kept.alloc | apply Kept.drewN | apply Kept.drew | refine Kept.setCell ?_ (.inr GW122.out) _) | exact HK.out)).1) hk)), Kd.fresh' (Kd.R_lt (by (with_reducible repeat (first | apply Kd.R_alloc | apply Kd.R_drewN | apply Kd.R_drew)); exact HO_0.out)) k_ hk, Kd.freshB (g := gb122) (o := .cells #[.string a1_0, .int .i64 a1_1, .int .i64 a1_2, .int .i64 a1_3, .string a1_4, .string a1_5] 27 (0, 0)) xK k_ hk⟩)); (case aO => exact (by (with_reducible repeat (first | apply Kd.R_alloc | apply Kd.R_drewN | apply Kd.R_drew)); exact HO_5.out)); (case aS => exact (below_size xB)); (case aL => have := LMc21.out; omega); intro v141 w24 ho hb hg hat; rw [← Ny140.out] at ho; replace HO_0 := Aside0.mk (Kd.R_after (ok := (fun k_ => (P0_ k_ ∨ w.heap.size ≤ k_) ∧ k_ ≠ gb122)) (by (with_reducible repeat (first | apply Kd.R_alloc | apply Kd.R_drewN | apply Kd.R_drew)); exact Kd.R_mono HO_0.out (fun _ hk => ⟨⟨hk.1, hk.2.2⟩, hk.2.1⟩)) hg hat); replace BK122 := Aside0.mk (blk_grown (g := gb122) (o := .cells #[.string a1_0, .int .i64 a1_1, .int .i64 a1_2, .int .i64 a1_3, .string a1_4, .string a1_5] 27 (0, 0)) xK hg (Kd.R_away HO_5.out (fun _ hk => hk.2.2))); replace HK := Aside0.mk (Kept.of_grown (S := (fun k_ => P0_ k_)) hg (by repeat (first | (with_reducible first | exact HK.out | apply Kept.alloc | apply Kept.drewN | apply Kept.drew | refine Kept.setCell ?_ (.inr GW122.out) _) | exact HK.out)) (fun k_ e_ => (HO_5.out.1 k_ e_).1)); have HO142 := Aside0.mk (ho); replace HB := Aside0.mk (hb); clear HO_5; clear ho hb hg hat)))
    go_roundg k1
    case measure => have := HK1.out; omega
    case rel => exact ⟨(y140), (false), (wrap64 (x7_1 + 1)), xR, xR, H', ⟨by have := HK1.out; omega⟩, ⟨by (with_reducible repeat (first | apply Kd.R_alloc | apply Kd.R_drewN | apply Kd.R_drew)); exact Kd.R_mono HO_0.out (fun _ hk => ⟨hk.1.1, ⟨hk.2, hk.1.2⟩⟩)⟩, ⟨by (with_reducible repeat (first | apply Kd.R_alloc | apply Kd.R_drewN | apply Kd.R_drew)); exact HO142.out⟩, ⟨by (with_reducible repeat (first | refine blk_drewN ?_ _ | refine blk_drew ?_ | refine blk_alloc ?_ _)); exact BK122.out⟩, ⟨by repeat (first | (with_reducible first | exact HK.out | apply Kept.alloc | apply Kept.drewN | apply Kept.drew | refine Kept.setCell ?_ (.inr GW122.out) _) | exact HK.out)⟩, ⟨xB⟩⟩
   rw [if_neg c4] at H
   have c4b0 := decide_eq_false c4
   clear c4
   by_cases c25 : x6_1 = true
   ·
    subst c25
    rw [if_pos rfl] at H
    obtain rfl := Option.some.inj H
    obtain ⟨Ao26, co26, eo26⟩ := Kd.R_slice HO_0.out
    subst eo26
    go_wp2
    repeat (go_quiet (fail); try go_wp2)
    go_ret
    exact ⟨_, by first | rfl | (simp [errW_none, errW_some] <;> rfl) | (simp [*, errW_none, errW_some] <;> rfl) | (simp [isEmpty_bne]; done), by (with_reducible repeat (first | apply Kd.R_alloc | apply Kd.R_drewN | apply Kd.R_drew)); exact Kd.R_mono HO_5.out (fun _ hk => hk.1), xB, by repeat (first | (with_reducible first | exact HK.out | apply Kept.alloc | apply Kept.drewN | apply Kept.drew | refine Kept.setCell ?_ (.inr GW122.out) _) | exact HK.out)⟩
   replace c25 := Bool.eq_false_iff.mpr c25
   subst c25
   rw [if_neg (show ¬ (false = true) by decide)] at H
   replace H := xI H
   obtain ⟨c27, H⟩ := H
   have LMc27 := Aside0.mk c27
   clear c27
   obtain ⟨y123, hy123⟩ : ∃ y_ : List (S27), y_ = (x5_1 ++ [(⟨a1_0, (⟨a1_1, a1_2, a1_3, a1_4, a1_5⟩ : S25)⟩ : S27)]) := ⟨_, rfl⟩
   replace H : (some y123) = some r := by first | (rw [hy123]; with_reducible exact H) | (have H2_ := (Option.bind_some _ _).symm.trans H; rw [hy123]; with_reducible exact H2_) | (have H2_ := (Option.bind_some _ _).symm.trans H; with_reducible exact H2_) | with_reducible exact H | (rw [hy123]; exact H) | exact H
   have Ny123 := Aside0.mk hy123
   clear hy123
   obtain rfl := Option.some.inj H
   obtain ⟨Ao28, co28, eo28⟩ := Kd.R_slice HO_0.out
   subst eo28
   have hcz29_0 : wr.cell? ⟨gb122, 0, none⟩ = some (.string a1_0) := (blk_cell BK122.out 0).trans rfl
   have hcz29_1 : wr.cell? ⟨gb122, 1, none⟩ = some (.int .i64 a1_1) := (blk_cell BK122.out 1).trans rfl
   have hcz29_2 : wr.cell? ⟨gb122, 2, none⟩ = some (.int .i64 a1_2) := (blk_cell BK122.out 2).trans rfl
   have hcz29_3 : wr.cell? ⟨gb122, 3, none⟩ = some (.int .i64 a1_3) := (blk_cell BK122.out 3).trans rfl
   have hcz29_4 : wr.cell? ⟨gb122, 4, none⟩ = some (.string a1_4) := (blk_cell BK122.out 4).trans rfl
   have hcz29_5 : wr.cell? ⟨gb122, 5, none⟩ = some (.string a1_5) := (blk_cell BK122.out 5).trans rfl
   have hfz29_0 := blk_frozen BK122.out 0
   have hfz29_1 := blk_frozen BK122.out 1
   have hfz29_2 := blk_frozen BK122.out 2
   have hfz29_3 := blk_frozen BK122.out 3
   have hfz29_4 := blk_frozen BK122.out 4
   have hfz29_5 := blk_frozen BK122.out 5
   go_wp2_with (first | ((with_reducible refine gate_builtin (b := .append) (xs := #[.tmp 48, .tmp 50]) rfl ?_); at_builtin; refine Kd.R_append k27 (w0 := w0) w0.heap.size rfl (.tmp 48) (.tmp 50) 22 27 (.agg #[(.string ⟨#[]⟩), (.int .i64 0), (.int .i64 0), (.int .i64 0), (.string ⟨#[]⟩), (.string ⟨#[]⟩)]) 72 rfl Tryz.underlying22 info27 rfl (by decide) (by omega) u5 x5_1 (⟨a1_0, (⟨a1_1, a1_2, a1_3, a1_4, a1_5⟩ : S25)⟩ : S27) [.string a1_0, .int .i64 a1_1, .int .i64 a1_2, .int .i64 a1_3, .string a1_4, .string a1_5] (fun k_ => (P0_ k_ ∨ w.heap.size ≤ k_) ∧ some k_ ≠ (.slice Ao28 l0.length co28 : Value).ownBlock ∧ k_ ≠ gb122) (fun _ => False) rfl rfl ?aP (fun _ hk => hk.elim) ?aF ?aO ?aB ?aS ?aL ?_; (case aP => exact k27_mkM _ _ _ (⟨a1_0, (⟨a1_1, a1_2, a1_3, a1_4, a1_5⟩ : S25)⟩ : S27)); (case aB => exact xB); (case aF => exact (fun k_ hk => ⟨(.inr (Nat.le_trans (by first | exact HK.out.1 | exact (show Kept w _ (fun k_ => P0_ k_) from by repeat (first | (with_reducible first | exact HK.out | apply Kept.alloc | apply Kept.drewN | apply Kept.drew | refine Kept.setCell ?_ (.inr GW122.out) _) | exact HK.out)).1) hk)), Kd.fresh' (Kd.R_lt (by (with_reducible repeat (first | apply Kd.R_alloc | apply Kd.R_drewN | apply Kd.R_drew)); exact HO_0.out)) k_ hk, Kd.freshB (g := gb122) (o := .cells #[.string a1_0, .int .i64 a1_1, .int .i64 a1_2, .int .i64 a1_3, .string a1_4, .string a1_5] 27 (0, 0)) xK k_ hk⟩)); (case aO => exact (by (with_reducible repeat (first | apply Kd.R_alloc | apply Kd.R_drewN | apply Kd.R_drew)); exact HO_5.out)); (case aS => exact (below_size xB)); (case aL => have := LMc27.out; omega); intro v124 w30 ho hb hg hat; rw [← Ny123.out] at ho; replace HO_0 := Aside0.mk (Kd.R_after (ok := (fun k_ => (P0_ k_ ∨ w.heap.size ≤ k_) ∧ k_ ≠ gb122)) (by (with_reducible repeat (first | apply Kd.R_alloc | apply Kd.R_drewN | apply Kd.R_drew)); exact Kd.R_mono HO_0.out (fun _ hk => ⟨⟨hk.1, hk.2.2⟩, hk.2.1⟩)) hg hat); replace BK122 := Aside0.mk (blk_grown (g := gb122) (o := .cells #[.string a1_0, .int .i64 a1_1, .int .i64 a1_2, .int .i64 a1_3, .string a1_4, .string a1_5] 27 (0, 0)) xK hg (Kd.R_away HO_5.out (fun _ hk => hk.2.2))); replace HK := Aside0.mk (Kept.of_grown (S := (fun k_ => P0_ k_)) hg (by repeat (first | (with_reducible first | exact HK.out | apply Kept.alloc | apply Kept.drewN | apply Kept.drew | refine Kept.setCell ?_ (.inr GW122.out) _) | exact HK.out)) (fun k_ e_ => (HO_5.out.1 k_ e_).1)); have HO125 := Aside0.mk (ho); replace HB := Aside0.mk (hb); clear HO_5; clear ho hb hg hat))
   repeat (go_quiet (first | ((with_reducible refine gate_builtin (b := .append) (xs := #[.tmp 48, .tmp 50]) rfl ?_); at_builtin; refine Kd.R_append k27 (w0 := w0) w0.heap.size rfl (.tmp 48) (.tmp 50) 22 27 (.agg #[(.string ⟨#[]⟩), (.int .i64 0), (.int .i64 0), (.int .i64 0), (.string ⟨#[]⟩), (.string ⟨#[]⟩)]) 72 rfl Tryz.underlying22 info27 rfl (by decide) (by omega) u5 x5_1 (⟨a1_0, (⟨a1_1, a1_2, a1_3, a1_4, a1_5⟩ : S25)⟩ : S27) [.string a1_0, .int .i64 a1_1, .int .i64 a1_2, .int .i64 a1_3, .string a1_4, .string a1_5] (fun k_ => (P0_ k_ ∨ w.heap.size ≤ k_) ∧ some k_ ≠ (.slice Ao28 l0.length co28 : Value).ownBlock ∧ k_ ≠ gb122) (fun _ => False) rfl rfl ?aP (fun _ hk => hk.elim) ?aF ?aO ?aB ?aS ?aL ?_; (case aP => exact k27_mkM _ _ _ (⟨a1_0, (⟨a1_1, a1_2, a1_3, a1_4, a1_5⟩ : S25)⟩ : S27)); (case aB => exact xB); (case aF => exact (fun k_ hk => ⟨(.inr (Nat.le_trans (by first | exact HK.out.1 | exact (show Kept w _ (fun k_ => P0_ k_) from by repeat (first | (with_reducible first | exact HK.out | apply Kept.alloc | apply Kept.drewN | apply Kept.drew | refine Kept.setCell ?_ (.inr GW122.out) _) | exact HK.out)).1) hk)), Kd.fresh' (Kd.R_lt (by (with_reducible repeat (first | apply Kd.R_alloc | apply Kd.R_drewN | apply Kd.R_drew)); exact HO_0.out)) k_ hk, Kd.freshB (g := gb122) (o := .cells #[.string a1_0, .int .i64 a1_1, .int .i64 a1_2, .int .i64 a1_3, .string a1_4, .string a1_5] 27 (0, 0)) xK k_ hk⟩)); (case aO => exact (by (with_reducible repeat (first | apply Kd.R_alloc | apply Kd.R_drewN | apply Kd.R_drew)); exact HO_5.out)); (case aS => exact (below_size xB)); (case aL => have := LMc27.out; omega); intro v124 w30 ho hb hg hat; rw [← Ny123.out] at ho; replace HO_0 := Aside0.mk (Kd.R_after (ok := (fun k_ => (P0_ k_ ∨ w.heap.size ≤ k_) ∧ k_ ≠ gb122)) (by (with_reducible repeat (first | apply Kd.R_alloc | apply Kd.R_drewN | apply Kd.R_drew)); exact Kd.R_mono HO_0.out (fun _ hk => ⟨⟨hk.1, hk.2.2⟩, hk.2.1⟩)) hg hat); replace BK122 := Aside0.mk (blk_grown (g := gb122) (o := .cells #[.string a1_0, .int .i64 a1_1, .int .i64 a1_2, .int .i64 a1_3, .string a1_4, .string a1_5] 27 (0, 0)) xK hg (Kd.R_away HO_5.out (fun _ hk => hk.2.2))); replace HK := Aside0.mk (Kept.of_grown (S := (fun k_ => P0_ k_)) hg (by repeat (first | (with_reducible first | exact HK.out | apply Kept.alloc | apply Kept.drewN | apply Kept.drew | refine Kept.setCell ?_ (.inr GW122.out) _) | exact HK.out)) (fun k_ e_ => (HO_5.out.1 k_ e_).1)); have HO125 := Aside0.mk (ho); replace HB := Aside0.mk (hb); clear HO_5; clear ho hb hg hat)); try go_wp2_with (first | ((with_reducible refine gate_builtin (b := .append) (xs := #[.tmp 48, .tmp 50]) rfl ?_); at_builtin; refine Kd.R_append k27 (w0 := w0) w0.heap.size rfl (.tmp 48) (.tmp 50) 22 27 (.agg #[(.string ⟨#[]⟩), (.int .i64 0), (.int .i64 0), (.int .i64 0), (.string ⟨#[]⟩), (.string ⟨#[]⟩)]) 72 rfl Tryz.underlying22 info27 rfl (by decide) (by omega) u5 x5_1 (⟨a1_0, (⟨a1_1, a1_2, a1_3, a1_4, a1_5⟩ : S25)⟩ : S27) [.string a1_0, .int .i64 a1_1, .int .i64 a1_2, .int .i64 a1_3, .string a1_4, .string a1_5] (fun k_ => (P0_ k_ ∨ w.heap.size ≤ k_) ∧ some k_ ≠ (.slice Ao28 l0.length co28 : Value).ownBlock ∧ k_ ≠ gb122) (fun _ => False) rfl rfl ?aP (fun _ hk => hk.elim) ?aF ?aO ?aB ?aS ?aL ?_; (case aP => exact k27_mkM _ _ _ (⟨a1_0, (⟨a1_1, a1_2, a1_3, a1_4, a1_5⟩ : S25)⟩ : S27)); (case aB => exact xB); (case aF => exact (fun k_ hk => ⟨(.inr (Nat.le_trans (by first | exact HK.out.1 | exact (show Kept w _ (fun k_ => P0_ k_) from by repeat (first | (with_reducible first | exact HK.out | apply Kept.alloc | apply Kept.drewN | apply Kept.drew | refine Kept.setCell ?_ (.inr GW122.out) _) | exact HK.out)).1) hk)), Kd.fresh' (Kd.R_lt (by (with_reducible repeat (first | apply Kd.R_alloc | apply Kd.R_drewN | apply Kd.R_drew)); exact HO_0.out)) k_ hk, Kd.freshB (g := gb122) (o := .cells #[.string a1_0, .int .i64 a1_1, .int .i64 a1_2, .int .i64 a1_3, .string a1_4, .string a1_5] 27 (0, 0)) xK k_ hk⟩)); (case aO => exact (by (with_reducible repeat (first | apply Kd.R_alloc | apply Kd.R_drewN | apply Kd.R_drew)); exact HO_5.out)); (case aS => exact (below_size xB)); (case aL => have := LMc27.out; omega); intro v124 w30 ho hb hg hat; rw [← Ny123.out] at ho; replace HO_0 := Aside0.mk (Kd.R_after (ok := (fun k_ => (P0_ k_ ∨ w.heap.size ≤ k_) ∧ k_ ≠ gb122)) (by (with_reducible repeat (first | apply Kd.R_alloc | apply Kd.R_drewN | apply Kd.R_drew)); exact Kd.R_mono HO_0.out (fun _ hk => ⟨⟨hk.1, hk.2.2⟩, hk.2.1⟩)) hg hat); replace BK122 := Aside0.mk (blk_grown (g := gb122) (o := .cells #[.string a1_0, .int .i64 a1_1, .int .i64 a1_2, .int .i64 a1_3, .string a1_4, .string a1_5] 27 (0, 0)) xK hg (Kd.R_away HO_5.out (fun _ hk => hk.2.2))); replace HK := Aside0.mk (Kept.of_grown (S := (fun k_ => P0_ k_)) hg (by repeat (first | (with_reducible first | exact HK.out | apply Kept.alloc | apply Kept.drewN | apply Kept.drew | refine Kept.setCell ?_ (.inr GW122.out) _) | exact HK.out)) (fun k_ e_ => (HO_5.out.1 k_ e_).1)); have HO125 := Aside0.mk (ho); replace HB := Aside0.mk (hb); clear HO_5; clear ho hb hg hat)))
   go_ret
   exact ⟨_, by first | rfl | (simp [errW_none, errW_some] <;> rfl) | (simp [*, errW_none, errW_some] <;> rfl) | (simp [isEmpty_bne]; done), by (with_reducible repeat (first | apply Kd.R_alloc | apply Kd.R_drewN | apply Kd.R_drew)); exact Kd.R_mono HO125.out (fun _ hk => hk.1), xB, by repeat (first | (with_reducible first | exact HK.out | apply Kept.alloc | apply Kept.drewN | apply Kept.drew | refine Kept.setCell ?_ (.inr GW122.out) _) | exact HK.out)⟩
end Go.Proofs.YtkidfclnakbgiaaGreatDoor.RT
end
