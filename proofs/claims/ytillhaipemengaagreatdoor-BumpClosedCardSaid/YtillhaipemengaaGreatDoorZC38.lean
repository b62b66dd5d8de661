/- The texts RSx6, RSx in one file, without what these claims do not use (put together by prune2.py). -/
import Derived.Test.YtillhaipemengaaGreatDoorZC34
import Derived.Test.YtillhaipemengaaGreatDoorZC35
import Derived.Test.YtillhaipemengaaGreatDoorZC37
import Derived.Test.YtillhaipemengaaGreatDoorZC36
section
namespace Go.Proofs.YtillhaipemengaaGreatDoor.RS
open Go.RowKit Go.Proofs.YtillhaipemengaaGreatDoor Go.Proofs.YtillhaipemengaaGreatDoor.K0 Go.Proofs.YtillhaipemengaaGreatDoor.RD Go.Proofs.YtillhaipemengaaGreatDoorW.PrintWords Go.Proofs.YtillhaipemengaaGreatDoorW.PrintLast Go.Proofs.YtillhaipemengaaGreatDoorW.PrintMore
attribute [local go_sem] max2_int min2_int max_two min_two max_three min_three max_four min_four
set_option linter.unusedVariables false
set_option linter.unusedSimpArgs false
attribute [local go_sem high] eqA34 eqA69
def armadalaw18_own.l0 : Nat → List (S61) → List (S72) → Int → Option ((List (S72)))
 | 0, _, _, _ => none
 | k + 1, x0, x3, x4 => if x4 < (x0.length : Int) then (if 0 ≤ x4 then (if x3.length < 5864062014805 then (armadalaw18_own.l0 k x0 (x3 ++ [(⟨(rd_T61 x0 x4).f0, (rd_T61 x0 x4).f1⟩ : S72)]) (wrap64 (x4 + 1))) else (none)) else (none)) else (some x3)
def armadalaw18_own.f (k : Nat) (l0 : List (S61)) : Option ((List (S72))) := armadalaw18_own.l0 k l0 ([] : List (S72)) 0
theorem armadalaw18_own.mono_l : ∀ k, (∀ y0 y1 y2, LeO (armadalaw18_own.l0 k y0 y1 y2) (armadalaw18_own.l0 (k + 1) y0 y1 y2))
 | 0 => fun _ _ _ r h => by simp [armadalaw18_own.l0] at h
 | k + 1 => by
  have ih0 := armadalaw18_own.mono_l k
  ·
   intro y0 y1 y2; unfold armadalaw18_own.l0; exact xM
theorem armadalaw18_own.mono : ∀ a0 k, LeO (armadalaw18_own.f k a0) (armadalaw18_own.f (k + 1) a0) := by
 intro a0 k; have ih0 := armadalaw18_own.mono_l k; unfold armadalaw18_own.f; exact xM
set_option maxHeartbeats 8000000 in
set_option maxRecDepth 100000 in
theorem armadalaw18_own.calls (k : Nat) (A0 : Option Addr) (c0 : Nat) (l0 : List (S61)) (r : List (S72)) (w : World) (hr0 : Kd.C k61 w A0 l0.length l0) (hc0 : l0.length ≤ c0) (h : armadalaw18_own.f k l0 = some r) :
  Calls Tryz.prog 16 #[.slice A0 l0.length c0] w fun e w' => ∃ v0_ : Value, e = .returned (v0_) ∧ Kd.R k72 72 w' w.heap.size (fun _ => True) v0_ r ∧ Below w.heap.size w w' := by
 have hu61 := Tryz.underlying61; have HR0 := Aside0.mk hr0; have HC0 := Aside0.mk hc0; clear hr0 hc0; have HB := Aside0.mk (Below.refl w.heap.size w); have H : (armadalaw18_own.l0 k l0 ([] : List (S72)) 0) = some r := h; clear h; have H' := Aside0.mk H; clear H; go_enter Tryz.func16, Tryz.ntmps16; go_wp2
 go_loopg [3, 4] k (fun kq v3 v4 w' => ∃ (x3_1 : List (S72)) (x4_1 : Int), v4 = .int .i64 x4_1 ∧ Aside0 (armadalaw18_own.l0 kq l0 x3_1 x4_1 = some r) ∧ Aside0 (kq ≤ k) ∧ Aside0 (Kd.R k72 72 w' w.heap.size (fun _ => True) v3 x3_1) ∧ Aside0 (Below w.heap.size w w'))
 case atStart => exact ⟨(([] : List (S72))), (0), xR, H', ⟨Nat.le_refl _⟩, ⟨by first | exact Kd.R_nil _ _ _ _ _ | exact Kd.N_nil _ _ _ _ _ | exact Kd.V_nil _ _ _ _ _ | exact Kd.Q_nil _ _ _ _ _ | exact Kd.S_nil _ _ _ _ _⟩, ⟨xB⟩⟩
 case round =>
  clear H'
  try clear c1
  obtain ⟨x3_1, x4_1, rfl, HA, HK1, HO_3, HB⟩ := hrel
  cases gk with
  | zero => exact absurd HA.out (by simp [armadalaw18_own.l0])
  | succ k1 =>
   have H := HA.out; clear HA; simp only [armadalaw18_own.l0] at H; replace H := xJ H; rcases H with ⟨c2, H⟩ | ⟨c2, H⟩
   ·
    replace c2 := decide_eq_true c2; replace H := xI H; obtain ⟨c3, H⟩ := H; have c3b0 := decide_eq_true c3; clear c3; replace H := xI H; obtain ⟨c4, H⟩ := H; have LMc4 := Aside0.mk c4; clear c4; obtain ⟨y130, hy130⟩ : ∃ y_ : List (S72), y_ = (x3_1 ++ [(⟨(rd_T61 l0 x4_1).f0, (rd_T61 l0 x4_1).f1⟩ : S72)]) := ⟨_, rfl⟩
    replace H : (armadalaw18_own.l0 k1 l0 y130 (wrap64 (x4_1 + 1))) = some r := by first | (rw [hy130]; with_reducible exact H) | (have H2_ := (Option.bind_some _ _).symm.trans H; rw [hy130]; with_reducible exact H2_) | (have H2_ := (Option.bind_some _ _).symm.trans H; with_reducible exact H2_) | with_reducible exact H | (rw [hy130]; exact H) | exact H
    have Ny130 := Aside0.mk hy130; clear hy130; have H' := Aside0.mk H; clear H; obtain ⟨p129, q129, ad129, e129, hx129_0, hx129_1⟩ := xT (at_T61 HR0.out x4_1)
    cases e129
    replace hx129_0 := xH HB hx129_0; replace hx129_1 := xH HB hx129_1; go_wp2_with (first | ((with_reducible refine gate_builtin (b := .append) (xs := #[.tmp 11, .tmp 16]) rfl ?_); at_builtin; refine Kd.R_append k72 (w0 := w) w.heap.size rfl (.tmp 11) (.tmp 16) 48 72 (.agg #[(.string ⟨#[]⟩), (.int .i64 0)]) 24 rfl Tryz.underlying48 info72 rfl (by decide) (by omega) u3 x3_1 (⟨(rd_T61 l0 x4_1).f0, (rd_T61 l0 x4_1).f1⟩ : S72) [.string ((rd_T61 l0 x4_1).f0), .int .i64 ((rd_T61 l0 x4_1).f1)] (fun _ => True) (fun _ => False) rfl rfl ?aP (fun _ hk => hk.elim) ?aF ?aO ?aB ?aS ?aL ?_; (case aP => exact k72_mkM _ _ _ (⟨(rd_T61 l0 x4_1).f0, (rd_T61 l0 x4_1).f1⟩ : S72)); (case aB => exact xB); (case aF => exact (fun _ _ => trivial)); (case aO => exact (by (with_reducible repeat (first | apply Kd.R_alloc | apply Kd.R_drewN | apply Kd.R_drew)); exact HO_3.out)); (case aS => exact (below_size xB)); (case aL => have := LMc4.out; omega); intro v131 w5 ho hb hg hat; rw [← Ny130.out] at ho; have HO132 := Aside0.mk (ho); replace HB := Aside0.mk (hb); clear HO_3; clear ho hb hg hat)); go_roundg k1
    case measure => exact xO1
    case rel => exact ⟨(y130), (wrap64 (x4_1 + 1)), xR, H', ⟨xO1⟩, ⟨xQ HO132⟩, ⟨xB⟩⟩
   replace c2 := decide_eq_false c2; obtain rfl := Option.some.inj H; go_wp2; go_ret; exact ⟨_, xW, by (with_reducible repeat (first | apply Kd.R_alloc | apply Kd.R_drewN | apply Kd.R_drew)); exact HO_3.out, xB⟩
def armadalaw18_small.f (k : Nat) (l0_0 : List (S63)) (l0_1 : List (S71)) (l0_2 : List Int) (l0_3 : List (S61)) : Option (Bool) := (armadaref16_Small.f k l0_0).bind fun t138 => (if t138 = true then ((armadaref15_Few.f k l0_1).bind fun t139 => (if t139 = true then (if (l0_2.length : Int) ≤ 30 then ((armadaref18_Few.f k l0_3).bind fun t140 => (some t140)) else (some false)) else (some false))) else (some false))
theorem armadalaw18_small.mono : ∀ a0 a1 a2 a3 k, LeO (armadalaw18_small.f k a0 a1 a2 a3) (armadalaw18_small.f (k + 1) a0 a1 a2 a3) := by
 intro a0 a1 a2 a3 k; unfold armadalaw18_small.f; have ih0 := @armadaref15_Few.mono; have ih1 := @armadaref16_Small.mono; have ih2 := @armadaref18_Few.mono; exact xM
set_option maxHeartbeats 8000000 in
set_option maxRecDepth 100000 in
theorem armadalaw18_small.calls (k : Nat) (A0_0 : Option Addr) (c0_0 : Nat) (l0_0 : List (S63)) (A0_1 : Option Addr) (c0_1 : Nat) (l0_1 : List (S71)) (A0_2 : Option Addr) (c0_2 : Nat) (l0_2 : List Int) (A0_3 : Option Addr) (c0_3 : Nat) (l0_3 : List (S61)) (r : Bool) (w : World) (hr0_0 : Kd.C k63 w A0_0 l0_0.length l0_0) (hc0_0 : l0_0.length ≤ c0_0) (hr0_1 : Kd.C k71 w A0_1 l0_1.length l0_1) (hc0_1 : l0_1.length ≤ c0_1) (hr0_2 : Kd.C (Kd.int .i64) w A0_2 l0_2.length l0_2) (hc0_2 : l0_2.length ≤ c0_2) (hr0_3 : Kd.C k61 w A0_3 l0_3.length l0_3) (hc0_3 : l0_3.length ≤ c0_3) (h : armadalaw18_small.f k l0_0 l0_1 l0_2 l0_3 = some r) :
  Calls Tryz.prog 14 #[.agg #[.slice A0_0 l0_0.length c0_0, .slice A0_1 l0_1.length c0_1, .slice A0_2 l0_2.length c0_2, .slice A0_3 l0_3.length c0_3]] w fun e w' => e = .returned (.bool r) ∧ Below w.heap.size w w' := by
 have hu42 := Tryz.underlying42; have HR0_0 := Aside0.mk hr0_0; have HC0_0 := Aside0.mk hc0_0; clear hr0_0 hc0_0; have HR0_1 := Aside0.mk hr0_1; have HC0_1 := Aside0.mk hc0_1; clear hr0_1 hc0_1; have HR0_2 := Aside0.mk hr0_2; have HC0_2 := Aside0.mk hc0_2; clear hr0_2 hc0_2; have HR0_3 := Aside0.mk hr0_3; have HC0_3 := Aside0.mk hc0_3; clear hr0_3 hc0_3; have HB := Aside0.mk (Below.refl w.heap.size w); have H : ((armadaref16_Small.f k l0_0).bind fun t138 => (if t138 = true then ((armadaref15_Few.f k l0_1).bind fun t139 => (if t139 = true then (if (l0_2.length : Int) ≤ 30 then ((armadaref18_Few.f k l0_3).bind fun t140 => (some t140)) else (some false)) else (some false))) else (some false))) = some r := h; clear h; replace H := xb H; obtain ⟨t138, A2, H⟩ := H
 by_cases c3 : t138 = true
 ·
  subst c3; rw [if_pos rfl] at H; replace H := xb H; obtain ⟨t139, A4, H⟩ := H
  by_cases c5 : t139 = true
  ·
   subst c5; rw [if_pos rfl] at H; replace H := xJ H; rcases H with ⟨c6, H⟩ | ⟨c6, H⟩
   ·
    have c6b0 := decide_eq_true c6; have c6b1 : decide (l0_2.length ≤ 30) = true := decide_eq_true (by omega); clear c6; replace H := xb H; obtain ⟨t140, A7, H⟩ := H; obtain rfl := Option.some.inj H; go_enter Tryz.func14, Tryz.ntmps14; go_wp2_with (first | ((with_reducible refine gate_dst (N := 1) rfl ?_); (try (refine gate_guard (by rfl) ?_; dsimp only)); refine box_event ?hg (N := 1) ?hd (cs := #[.slice A0_0 l0_0.length c0_0, .slice A0_1 l0_1.length c0_1, .slice A0_2 l0_2.length c0_2, .slice A0_3 l0_3.length c0_3]) (t := 42) ?hr ?_; (case hd => rfl); (case hg => rfl); (case hr => first | (go_simp; done) | (go_simp; rfl)); intro gb137 hg w8 hbox hb; have BK137 := Aside0.mk (hbox); have GW137 := Aside0.mk ((by rw [hg]; exact (below_size xB) : w.heap.size ≤ gb137)); have GE137 := Aside0.mk ((by rw [hg]; exact (below_size xB) : w.heap.size ≤ gb137)); replace HB := Aside0.mk (below_step xB hb); clear hb hbox hg; obtain ⟨hcz9_0, hcz9_1, hcz9_2, hcz9_3⟩ := xC4 BK137.out; obtain ⟨hfz9_0, hfz9_1, hfz9_2, hfz9_3⟩ := xF4 BK137.out) | ((with_reducible refine gate_callee (f := 37) rfl ?_); refine goesL_ (some 5) rfl rfl Tryz.func37 (by kernel_rfl) rfl #[.slice A0_0 l0_0.length c0_0] rfl xS ?_; (with_reducible refine (armadaref16_Small.calls k _ _ l0_0 true _ ?side1 ?side2 A2.out).mono ?_); (case side1 => repeat (first | exact (Kd.C_below HR0_0.out HB.out) | (with_reducible refine Kd.C_alloc ?_ _) | (with_reducible refine Kd.C_drewN ?_ _) | (with_reducible refine Kd.C_drew ?_))); (case side2 => exact HC0_0.out); rintro e w10 ⟨rfl, hb⟩; refine ⟨_, rfl, ?_⟩; replace BK137 := Aside0.mk (blk_below (g := gb137) (o := .cells #[.slice A0_0 l0_0.length c0_0, .slice A0_1 l0_1.length c0_1, .slice A0_2 l0_2.length c0_2, .slice A0_3 l0_3.length c0_3] 42 (0, 0)) xK hb); replace HB := Aside0.mk (below_step xB hb); (try clear hb); obtain ⟨hcz11_0, hcz11_1, hcz11_2, hcz11_3⟩ := xC4 BK137.out; obtain ⟨hfz11_0, hfz11_1, hfz11_2, hfz11_3⟩ := xF4 BK137.out) | (go_at_call 8; (with_reducible refine (armadaref15_Few.calls k _ _ l0_1 true _ ?side1 ?side2 A4.out).mono ?_); (case side1 => repeat (first | exact (Kd.C_below HR0_1.out HB.out) | (with_reducible refine Kd.C_alloc ?_ _) | (with_reducible refine Kd.C_drewN ?_ _) | (with_reducible refine Kd.C_drew ?_))); (case side2 => exact HC0_1.out); rintro e w' ⟨rfl, ⟨nd, rfl⟩⟩) | (go_at_call 38; (with_reducible refine (armadaref18_Few.calls k _ _ l0_3 t140 _ ?side1 ?side2 A7.out).mono ?_); (case side1 => repeat (first | exact (Kd.C_below HR0_3.out xB) | (with_reducible refine Kd.C_alloc ?_ _) | (with_reducible refine Kd.C_drewN ?_ _) | (with_reducible refine Kd.C_drew ?_))); (case side2 => exact HC0_3.out); rintro e w' ⟨rfl, ⟨nd, rfl⟩⟩)); go_ret; exact ⟨xW, xB⟩
   have c6b0 := decide_eq_false c6; have c6b1 : decide (l0_2.length ≤ 30) = false := decide_eq_false (by omega); clear c6; obtain rfl := Option.some.inj H; go_enter Tryz.func14, Tryz.ntmps14; go_wp2_with (first | ((with_reducible refine gate_dst (N := 1) rfl ?_); (try (refine gate_guard (by rfl) ?_; dsimp only)); refine box_event ?hg (N := 1) ?hd (cs := #[.slice A0_0 l0_0.length c0_0, .slice A0_1 l0_1.length c0_1, .slice A0_2 l0_2.length c0_2, .slice A0_3 l0_3.length c0_3]) (t := 42) ?hr ?_; (case hd => rfl); (case hg => rfl); (case hr => first | (go_simp; done) | (go_simp; rfl)); intro gb137 hg w12 hbox hb; have BK137 := Aside0.mk (hbox); have GW137 := Aside0.mk ((by rw [hg]; exact (below_size xB) : w.heap.size ≤ gb137)); have GE137 := Aside0.mk ((by rw [hg]; exact (below_size xB) : w.heap.size ≤ gb137)); replace HB := Aside0.mk (below_step xB hb); clear hb hbox hg; obtain ⟨hcz13_0, hcz13_1, hcz13_2, hcz13_3⟩ := xC4 BK137.out; obtain ⟨hfz13_0, hfz13_1, hfz13_2, hfz13_3⟩ := xF4 BK137.out) | ((with_reducible refine gate_callee (f := 37) rfl ?_); refine goesL_ (some 5) rfl rfl Tryz.func37 (by kernel_rfl) rfl #[.slice A0_0 l0_0.length c0_0] rfl xS ?_; (with_reducible refine (armadaref16_Small.calls k _ _ l0_0 true _ ?side1 ?side2 A2.out).mono ?_); (case side1 => repeat (first | exact (Kd.C_below HR0_0.out HB.out) | (with_reducible refine Kd.C_alloc ?_ _) | (with_reducible refine Kd.C_drewN ?_ _) | (with_reducible refine Kd.C_drew ?_))); (case side2 => exact HC0_0.out); rintro e w14 ⟨rfl, hb⟩; refine ⟨_, rfl, ?_⟩; replace BK137 := Aside0.mk (blk_below (g := gb137) (o := .cells #[.slice A0_0 l0_0.length c0_0, .slice A0_1 l0_1.length c0_1, .slice A0_2 l0_2.length c0_2, .slice A0_3 l0_3.length c0_3] 42 (0, 0)) xK hb); replace HB := Aside0.mk (below_step xB hb); (try clear hb); obtain ⟨hcz15_0, hcz15_1, hcz15_2, hcz15_3⟩ := xC4 BK137.out; obtain ⟨hfz15_0, hfz15_1, hfz15_2, hfz15_3⟩ := xF4 BK137.out) | (go_at_call 8; (with_reducible refine (armadaref15_Few.calls k _ _ l0_1 true _ ?side1 ?side2 A4.out).mono ?_); (case side1 => repeat (first | exact (Kd.C_below HR0_1.out HB.out) | (with_reducible refine Kd.C_alloc ?_ _) | (with_reducible refine Kd.C_drewN ?_ _) | (with_reducible refine Kd.C_drew ?_))); (case side2 => exact HC0_1.out); rintro e w' ⟨rfl, ⟨nd, rfl⟩⟩)); go_ret; exact ⟨xW, xB⟩
  replace c5 := Bool.eq_false_iff.mpr c5; subst c5; rw [if_neg (show ¬ (false = true) by decide)] at H; obtain rfl := Option.some.inj H; go_enter Tryz.func14, Tryz.ntmps14; go_wp2_with (first | ((with_reducible refine gate_dst (N := 1) rfl ?_); (try (refine gate_guard (by rfl) ?_; dsimp only)); refine box_event ?hg (N := 1) ?hd (cs := #[.slice A0_0 l0_0.length c0_0, .slice A0_1 l0_1.length c0_1, .slice A0_2 l0_2.length c0_2, .slice A0_3 l0_3.length c0_3]) (t := 42) ?hr ?_; (case hd => rfl); (case hg => rfl); (case hr => first | (go_simp; done) | (go_simp; rfl)); intro gb137 hg w16 hbox hb; have BK137 := Aside0.mk (hbox); have GW137 := Aside0.mk ((by rw [hg]; exact (below_size xB) : w.heap.size ≤ gb137)); have GE137 := Aside0.mk ((by rw [hg]; exact (below_size xB) : w.heap.size ≤ gb137)); replace HB := Aside0.mk (below_step xB hb); clear hb hbox hg; obtain ⟨hcz17_0, hcz17_1, hcz17_2, hcz17_3⟩ := xC4 BK137.out; obtain ⟨hfz17_0, hfz17_1, hfz17_2, hfz17_3⟩ := xF4 BK137.out) | ((with_reducible refine gate_callee (f := 37) rfl ?_); refine goesL_ (some 5) rfl rfl Tryz.func37 (by kernel_rfl) rfl #[.slice A0_0 l0_0.length c0_0] rfl xS ?_; (with_reducible refine (armadaref16_Small.calls k _ _ l0_0 true _ ?side1 ?side2 A2.out).mono ?_); (case side1 => repeat (first | exact (Kd.C_below HR0_0.out HB.out) | (with_reducible refine Kd.C_alloc ?_ _) | (with_reducible refine Kd.C_drewN ?_ _) | (with_reducible refine Kd.C_drew ?_))); (case side2 => exact HC0_0.out); rintro e w18 ⟨rfl, hb⟩; refine ⟨_, rfl, ?_⟩; replace BK137 := Aside0.mk (blk_below (g := gb137) (o := .cells #[.slice A0_0 l0_0.length c0_0, .slice A0_1 l0_1.length c0_1, .slice A0_2 l0_2.length c0_2, .slice A0_3 l0_3.length c0_3] 42 (0, 0)) xK hb); replace HB := Aside0.mk (below_step xB hb); (try clear hb); obtain ⟨hcz19_0, hcz19_1, hcz19_2, hcz19_3⟩ := xC4 BK137.out; obtain ⟨hfz19_0, hfz19_1, hfz19_2, hfz19_3⟩ := xF4 BK137.out) | (go_at_call 8; (with_reducible refine (armadaref15_Few.calls k _ _ l0_1 false _ ?side1 ?side2 A4.out).mono ?_); (case side1 => repeat (first | exact (Kd.C_below HR0_1.out HB.out) | (with_reducible refine Kd.C_alloc ?_ _) | (with_reducible refine Kd.C_drewN ?_ _) | (with_reducible refine Kd.C_drew ?_))); (case side2 => exact HC0_1.out); rintro e w' ⟨rfl, ⟨nd, rfl⟩⟩)); go_ret; exact ⟨xW, xB⟩
 replace c3 := Bool.eq_false_iff.mpr c3; subst c3; rw [if_neg (show ¬ (false = true) by decide)] at H; obtain rfl := Option.some.inj H; go_enter Tryz.func14, Tryz.ntmps14; go_wp2_with (first | ((with_reducible refine gate_dst (N := 1) rfl ?_); (try (refine gate_guard (by rfl) ?_; dsimp only)); refine box_event ?hg (N := 1) ?hd (cs := #[.slice A0_0 l0_0.length c0_0, .slice A0_1 l0_1.length c0_1, .slice A0_2 l0_2.length c0_2, .slice A0_3 l0_3.length c0_3]) (t := 42) ?hr ?_; (case hd => rfl); (case hg => rfl); (case hr => first | (go_simp; done) | (go_simp; rfl)); intro gb137 hg w20 hbox hb; have BK137 := Aside0.mk (hbox); have GW137 := Aside0.mk ((by rw [hg]; exact (below_size xB) : w.heap.size ≤ gb137)); have GE137 := Aside0.mk ((by rw [hg]; exact (below_size xB) : w.heap.size ≤ gb137)); replace HB := Aside0.mk (below_step xB hb); clear hb hbox hg; obtain ⟨hcz21_0, hcz21_1, hcz21_2, hcz21_3⟩ := xC4 BK137.out; obtain ⟨hfz21_0, hfz21_1, hfz21_2, hfz21_3⟩ := xF4 BK137.out) | ((with_reducible refine gate_callee (f := 37) rfl ?_); refine goesL_ (some 5) rfl rfl Tryz.func37 (by kernel_rfl) rfl #[.slice A0_0 l0_0.length c0_0] rfl xS ?_; (with_reducible refine (armadaref16_Small.calls k _ _ l0_0 false _ ?side1 ?side2 A2.out).mono ?_); (case side1 => repeat (first | exact (Kd.C_below HR0_0.out HB.out) | (with_reducible refine Kd.C_alloc ?_ _) | (with_reducible refine Kd.C_drewN ?_ _) | (with_reducible refine Kd.C_drew ?_))); (case side2 => exact HC0_0.out); rintro e w22 ⟨rfl, hb⟩; refine ⟨_, rfl, ?_⟩; replace BK137 := Aside0.mk (blk_below (g := gb137) (o := .cells #[.slice A0_0 l0_0.length c0_0, .slice A0_1 l0_1.length c0_1, .slice A0_2 l0_2.length c0_2, .slice A0_3 l0_3.length c0_3] 42 (0, 0)) xK hb); replace HB := Aside0.mk (below_step xB hb); (try clear hb))); go_ret; exact ⟨xW, xB⟩
def armadaref10_Reqs.l0 : Nat → List (S69) → List (S69) → Int → Option (Bool)
 | 0, _, _, _ => none
 | k + 1, x0, x1, x5 => if x5 < (x0.length : Int) then (if 0 ≤ x5 then (if x5 < (x1.length : Int) then (if (!((((rd_T69 x0 x5).f0).toList) == (((rd_T69 x1 x5).f0).toList)) || ((!(((rd_T69 x0 x5).f1.f0) == ((rd_T69 x1 x5).f1.f0)) || (!(((rd_T69 x0 x5).f1.f1) == ((rd_T69 x1 x5).f1.f1)) || (!(((rd_T69 x0 x5).f1.f2) == ((rd_T69 x1 x5).f1.f2)) || (!((((rd_T69 x0 x5).f1.f3).toList) == (((rd_T69 x1 x5).f1.f3).toList)) || (!((((rd_T69 x0 x5).f1.f4).toList) == (((rd_T69 x1 x5).f1.f4).toList))))))))) = true then (some false) else (armadaref10_Reqs.l0 k x0 x1 (wrap64 (x5 + 1)))) else (none)) else (none)) else (some true)
def armadaref10_Reqs.f (k : Nat) (l0 : List (S69)) (l1 : List (S69)) : Option (Bool) := if (l0.length : Int) = (l1.length : Int) then (armadaref10_Reqs.l0 k l0 l1 0) else (some false)
theorem armadaref10_Reqs.mono_l : ∀ k, (∀ y0 y1 y2, LeO (armadaref10_Reqs.l0 k y0 y1 y2) (armadaref10_Reqs.l0 (k + 1) y0 y1 y2))
 | 0 => fun _ _ _ r h => by simp [armadaref10_Reqs.l0] at h
 | k + 1 => by
  have ih0 := armadaref10_Reqs.mono_l k
  ·
   intro y0 y1 y2; unfold armadaref10_Reqs.l0; exact xM
theorem armadaref10_Reqs.mono : ∀ a0 a1 k, LeO (armadaref10_Reqs.f k a0 a1) (armadaref10_Reqs.f (k + 1) a0 a1) := by
 intro a0 a1 k; have ih0 := armadaref10_Reqs.mono_l k; unfold armadaref10_Reqs.f; exact xM
set_option maxHeartbeats 8000000 in
set_option maxRecDepth 100000 in
theorem armadaref10_Reqs.calls (k : Nat) (A0 : Option Addr) (c0 : Nat) (l0 : List (S69)) (A1 : Option Addr) (c1 : Nat) (l1 : List (S69)) (r : Bool) (w : World) (hr0 : Kd.C k69 w A0 l0.length l0) (hc0 : l0.length ≤ c0) (hr1 : Kd.C k69 w A1 l1.length l1) (hc1 : l1.length ≤ c1) (h : armadaref10_Reqs.f k l0 l1 = some r) :
  Calls Tryz.prog 20 #[.slice A0 l0.length c0, .slice A1 l1.length c1] w fun e w' => e = .returned (.bool r) ∧ Drawn0 w w' := by
 have hu69 := Tryz.underlying69; have HR0 := Aside0.mk hr0; have HC0 := Aside0.mk hc0; clear hr0 hc0; have HR1 := Aside0.mk hr1; have HC1 := Aside0.mk hc1; clear hr1 hc1; have H : (if (l0.length : Int) = (l1.length : Int) then (armadaref10_Reqs.l0 k l0 l1 0) else (some false)) = some r := h; clear h; replace H := xJ H; rcases H with ⟨c3, H⟩ | ⟨c3, H⟩
 ·
  have c3b0 := beq_iff_eq.mpr c3; have c3b1 := bne_eq_false_iff_eq.mpr c3
  have c3b2 : (l0.length == l1.length) = true := by first | simpa using c3 | (simp at c3 ⊢; omega)
  clear c3; have H' := Aside0.mk H; clear H; go_enter Tryz.func20, Tryz.ntmps20; go_wp2
  repeat (go_quiet (fail); try go_wp2)
  go_loopg [5] k (fun kq v5 w' => ∃ (x5_1 : Int), v5 = .int .i64 x5_1 ∧ Aside0 (armadaref10_Reqs.l0 kq l0 l1 x5_1 = some r) ∧ Aside0 (kq ≤ k) ∧ Drawn0 w w')
  case atStart => exact ⟨(0), xR, H', ⟨Nat.le_refl _⟩, by repeat (first | exact Drawn0.refl _ | apply Drawn0.step)⟩
  case round =>
   clear H'
   try clear c1
   try clear c2
   try clear p2
   try clear c3
   try clear c3b0
   try clear c3b1
   try clear c3b2
   obtain ⟨x5_1, rfl, HA, HK1, ⟨m1, rfl⟩⟩ := hrel
   cases gk with
   | zero => exact absurd HA.out (by simp [armadaref10_Reqs.l0])
   | succ k1 =>
    have H := HA.out; clear HA; simp only [armadaref10_Reqs.l0] at H; replace H := xJ H; rcases H with ⟨c4, H⟩ | ⟨c4, H⟩
    ·
     replace c4 := decide_eq_true c4; replace H := xI H; obtain ⟨c5, H⟩ := H; replace c5 := decide_eq_true c5; replace H := xI H; obtain ⟨c6, H⟩ := H; replace c6 := decide_eq_true c6; replace H := xJ H; rcases H with ⟨c7, H⟩ | ⟨c7, H⟩
     ·
      have c7b0 : (!((((rd_T69 l0 x5_1).f0).toList) == (((rd_T69 l1 x5_1).f0).toList)) || ((!(((rd_T69 l0 x5_1).f1.f0) == ((rd_T69 l1 x5_1).f1.f0)) || (!(((rd_T69 l0 x5_1).f1.f1) == ((rd_T69 l1 x5_1).f1.f1)) || (!(((rd_T69 l0 x5_1).f1.f2) == ((rd_T69 l1 x5_1).f1.f2)) || (!((((rd_T69 l0 x5_1).f1.f3).toList) == (((rd_T69 l1 x5_1).f1.f3).toList)) || (!((((rd_T69 l0 x5_1).f1.f4).toList) == (((rd_T69 l1 x5_1).f1.f4).toList))))))))) = true := c7; clear c7; obtain rfl := Option.some.inj H; obtain ⟨p141, q141, ad141, e141, hx141_0, hx141_1, hx141_2, hx141_3, hx141_4, hx141_5⟩ := xT (at_T69 HR0.out x5_1)
      cases e141
      obtain ⟨p142, q142, ad142, e142, hx142_0, hx142_1, hx142_2, hx142_3, hx142_4, hx142_5⟩ := xT (at_T69 HR1.out x5_1)
      cases e142
      go_wp2
      repeat (go_quiet (fail); try go_wp2)
      go_ret; exact ⟨xR, xG⟩
     have c7b0 : (!((((rd_T69 l0 x5_1).f0).toList) == (((rd_T69 l1 x5_1).f0).toList)) || ((!(((rd_T69 l0 x5_1).f1.f0) == ((rd_T69 l1 x5_1).f1.f0)) || (!(((rd_T69 l0 x5_1).f1.f1) == ((rd_T69 l1 x5_1).f1.f1)) || (!(((rd_T69 l0 x5_1).f1.f2) == ((rd_T69 l1 x5_1).f1.f2)) || (!((((rd_T69 l0 x5_1).f1.f3).toList) == (((rd_T69 l1 x5_1).f1.f3).toList)) || (!((((rd_T69 l0 x5_1).f1.f4).toList) == (((rd_T69 l1 x5_1).f1.f4).toList))))))))) = false := by simpa using c7
     clear c7; have H' := Aside0.mk H; clear H; obtain ⟨p141, q141, ad141, e141, hx141_0, hx141_1, hx141_2, hx141_3, hx141_4, hx141_5⟩ := xT (at_T69 HR0.out x5_1)
     cases e141
     obtain ⟨p142, q142, ad142, e142, hx142_0, hx142_1, hx142_2, hx142_3, hx142_4, hx142_5⟩ := xT (at_T69 HR1.out x5_1)
     cases e142
     go_wp2
     repeat (go_quiet (fail); try go_wp2)
     go_roundg k1
     case measure => exact xO1
     case rel => exact ⟨(wrap64 (x5_1 + 1)), xR, H', ⟨xO1⟩, by repeat (first | exact Drawn0.refl _ | apply Drawn0.step)⟩
    replace c4 := decide_eq_false c4; obtain rfl := Option.some.inj H; go_wp2
    repeat (go_quiet (fail); try go_wp2)
    go_ret; exact ⟨xR, xG⟩
 have c3b0 := beq_eq_false_iff_ne.mpr c3; have c3b1 := bne_iff_ne.mpr c3
 have c3b2 : (l0.length == l1.length) = false := by first | simpa using c3 | (simp at c3 ⊢; omega)
 obtain rfl := Option.some.inj H; go_enter Tryz.func20, Tryz.ntmps20; go_wp2
 repeat (go_quiet (fail); try go_wp2)
 go_ret; exact ⟨xR, xG⟩
end Go.Proofs.YtillhaipemengaaGreatDoor.RS
end

section
namespace Go.Proofs.YtillhaipemengaaGreatDoor.RS
open Go.RowKit Go.Proofs.YtillhaipemengaaGreatDoor Go.Proofs.YtillhaipemengaaGreatDoor.K0 Go.Proofs.YtillhaipemengaaGreatDoor.RD Go.Proofs.YtillhaipemengaaGreatDoorW.PrintWords Go.Proofs.YtillhaipemengaaGreatDoorW.PrintLast Go.Proofs.YtillhaipemengaaGreatDoorW.PrintMore
attribute [local go_sem] max2_int min2_int max_two min_two max_three min_three max_four min_four
set_option linter.unusedVariables false
set_option linter.unusedSimpArgs false
end Go.Proofs.YtillhaipemengaaGreatDoor.RS
end
