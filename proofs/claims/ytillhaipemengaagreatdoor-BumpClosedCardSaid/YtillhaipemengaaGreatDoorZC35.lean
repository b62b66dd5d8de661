/- The texts RSx3 in one file, without what these claims do not use (put together by prune2.py). -/
import Derived.Test.YtillhaipemengaaGreatDoorZC34
section
namespace Go.Proofs.YtillhaipemengaaGreatDoor.RS
open Go.RowKit Go.Proofs.YtillhaipemengaaGreatDoor Go.Proofs.YtillhaipemengaaGreatDoor.K0 Go.Proofs.YtillhaipemengaaGreatDoor.RD Go.Proofs.YtillhaipemengaaGreatDoorW.PrintWords Go.Proofs.YtillhaipemengaaGreatDoorW.PrintLast Go.Proofs.YtillhaipemengaaGreatDoorW.PrintMore
attribute [local go_sem] max2_int min2_int max_two min_two max_three min_three max_four min_four
set_option linter.unusedVariables false
set_option linter.unusedSimpArgs false
mutual
def armadaref16_Small.l0 : Nat → List (S63) → Int → Option (Bool)
 | 0, _, _ => none
 | k + 1, x0, x3 => if x3 < (x0.length : Int) then (if 0 ≤ x3 then (if (((rd_T63 x0 x3).f1).size : Int) > 200 then (armadaref16_Small.j1 k x0 x3 true) else (if (((rd_T63 x0 x3).f0).size : Int) > 200 then (armadaref16_Small.j1 k x0 x3 true) else (armadaref16_Small.j1 k x0 x3 (decide ((((rd_T63 x0 x3).f2).length : Int) > 30))))) else (none)) else (some (decide ((x0.length : Int) ≤ 20)))
def armadaref16_Small.j1 : Nat → List (S63) → Int → Bool → Option (Bool)
 | 0, _, _, _ => none
 | k + 1, x0, x3, x36 => if x36 = true then (some false) else (armadaref16_Small.l1 k x0 x3 0)
def armadaref16_Small.l1 : Nat → List (S63) → Int → Int → Option (Bool)
 | 0, _, _, _ => none
 | k + 1, x0, x3, x4 => if 0 ≤ x3 then (if x3 < (x0.length : Int) then (if x4 < (((rd_T63 x0 x3).f2).length : Int) then (if 0 ≤ x4 then (if (((rd_T69 ((rd_T63 x0 x3).f2) x4).f0).size : Int) > 200 then (some false) else (if (((rd_T69 ((rd_T63 x0 x3).f2) x4).f1.f3).size : Int) > 200 then (some false) else (if (((rd_T69 ((rd_T63 x0 x3).f2) x4).f1.f4).size : Int) > 200 then (some false) else (armadaref16_Small.l1 k x0 x3 (wrap64 (x4 + 1)))))) else (none)) else (armadaref16_Small.l0 k x0 (wrap64 (x3 + 1)))) else (none)) else (none)
end
def armadaref16_Small.f (k : Nat) (l0 : List (S63)) : Option (Bool) := armadaref16_Small.l0 k l0 0
theorem armadaref16_Small.mono_l : ∀ k, (∀ y0 y1, LeO (armadaref16_Small.l0 k y0 y1) (armadaref16_Small.l0 (k + 1) y0 y1)) ∧ (∀ y0 y1 y2, LeO (armadaref16_Small.j1 k y0 y1 y2) (armadaref16_Small.j1 (k + 1) y0 y1 y2)) ∧ (∀ y0 y1 y2, LeO (armadaref16_Small.l1 k y0 y1 y2) (armadaref16_Small.l1 (k + 1) y0 y1 y2))
 | 0 => ⟨fun _ _ r h => by simp [armadaref16_Small.l0] at h, fun _ _ _ r h => by simp [armadaref16_Small.j1] at h, fun _ _ _ r h => by simp [armadaref16_Small.l1] at h⟩
 | k + 1 => by
  obtain ⟨ih0, ih1, ih2⟩ := armadaref16_Small.mono_l k; refine ⟨?_, ?_, ?_⟩
  ·
   intro y0 y1; unfold armadaref16_Small.l0; exact xM
  ·
   intro y0 y1 y2; unfold armadaref16_Small.j1; exact xM
  ·
   intro y0 y1 y2; unfold armadaref16_Small.l1; exact xM
theorem armadaref16_Small.mono : ∀ a0 k, LeO (armadaref16_Small.f k a0) (armadaref16_Small.f (k + 1) a0) := by
 intro a0 k; obtain ⟨ih0, ih1, ih2⟩ := armadaref16_Small.mono_l k; unfold armadaref16_Small.f; exact xM
set_option maxHeartbeats 8000000 in
set_option maxRecDepth 100000 in
theorem armadaref16_Small.calls (k : Nat) (A0 : Option Addr) (c0 : Nat) (l0 : List (S63)) (r : Bool) (w : World) (hr0 : Kd.C k63 w A0 l0.length l0) (hc0 : l0.length ≤ c0) (h : armadaref16_Small.f k l0 = some r) :
  Calls Tryz.prog 37 #[.slice A0 l0.length c0] w fun e w' => e = .returned (.bool r) ∧ Below w.heap.size w w' := by
 have hu69 := Tryz.underlying69; have HR0 := Aside0.mk hr0; have HC0 := Aside0.mk hc0; clear hr0 hc0; have HB := Aside0.mk (Below.refl w.heap.size w); have H : (armadaref16_Small.l0 k l0 0) = some r := h; clear h; have H' := Aside0.mk H; clear H; go_enter Tryz.func37, Tryz.ntmps37; go_wp2
 go_loopg [3] k (fun kq v3 w' => ∃ (x3_1 : Int), v3 = .int .i64 x3_1 ∧ Aside0 (armadaref16_Small.l0 kq l0 x3_1 = some r) ∧ Aside0 (kq ≤ k) ∧ Aside0 (Below w.heap.size w w'))
 case atStart => exact ⟨(0), xR, H', ⟨Nat.le_refl _⟩, ⟨xB⟩⟩
 case round =>
  clear H'; obtain ⟨x3_1, rfl, HA, HK1, HB⟩ := hrel
  cases gk with
  | zero => exact absurd HA.out (by simp [armadaref16_Small.l0])
  | succ k1 =>
   have H := HA.out; clear HA; simp only [armadaref16_Small.l0] at H; replace H := xJ H; rcases H with ⟨c2, H⟩ | ⟨c2, H⟩
   ·
    have c2b0 := decide_eq_true c2; clear c2; have HC3 := Aside0.mk H; clear H; go_upto_region 4 with (fail)
    go_cut [36] (fun v36 wc => ∃ (kq : Nat) (x36_2 : Bool), v36 = .bool x36_2 ∧ Aside0 (armadaref16_Small.j1 kq l0 x3_1 x36_2 = some r) ∧ Aside0 (kq ≤ k1) ∧ Aside0 (Below w.heap.size w wc))
    case first =>
     have H := HC3.out; clear HC3; replace H := xI H; obtain ⟨c4, H⟩ := H; have c4b0 := decide_eq_true c4; clear c4
     (first | rw [c4b0] | (simp only [i64_w, i32_w]; rw [c4b0]) | skip)
     replace H := xJ H; rcases H with ⟨c5, H⟩ | ⟨c5, H⟩
     ·
      have c5b0 := decide_eq_true c5; have c5b1 : decide (200 < ((rd_T63 l0 x3_1).f1).size) = true := decide_eq_true (by omega); clear c5; have H' := Aside0.mk H; clear H; obtain ⟨p101, q101, ad101, A101_2, c101_2, e101, hx101_0, hx101_1, hx101_2, hl101_2, hi101_2⟩ := xT (at_T63 HR0.out x3_1)
      cases e101
      replace hx101_0 := xH HB hx101_0; replace hx101_1 := xH HB hx101_1; replace hx101_2 := xH HB hx101_2; have HR101_2 := Aside0.mk hi101_2; have HC101_2 := Aside0.mk hl101_2; clear hi101_2 hl101_2; go_wp2; go_meet
      case rel => exact ⟨_, (true), xR, H', ⟨by have := HK1.out; first | omega | exact Nat.le_refl _⟩, ⟨xB⟩⟩
     have c5b0 := decide_eq_false c5; have c5b1 : decide (200 < ((rd_T63 l0 x3_1).f1).size) = false := decide_eq_false (by omega); clear c5; replace H := xJ H; rcases H with ⟨c6, H⟩ | ⟨c6, H⟩
     ·
      have c6b0 := decide_eq_true c6; have c6b1 : decide (200 < ((rd_T63 l0 x3_1).f0).size) = true := decide_eq_true (by omega); clear c6; have H' := Aside0.mk H; clear H; obtain ⟨p101, q101, ad101, A101_2, c101_2, e101, hx101_0, hx101_1, hx101_2, hl101_2, hi101_2⟩ := xT (at_T63 HR0.out x3_1)
      cases e101
      replace hx101_0 := xH HB hx101_0; replace hx101_1 := xH HB hx101_1; replace hx101_2 := xH HB hx101_2; have HR101_2 := Aside0.mk hi101_2; have HC101_2 := Aside0.mk hl101_2; clear hi101_2 hl101_2; obtain ⟨p102, q102, ad102, A102_2, c102_2, e102, hx102_0, hx102_1, hx102_2, hl102_2, hi102_2⟩ := xT (at_T63 HR0.out x3_1); obtain rfl := xE e102; replace hx102_0 := xH HB hx102_0; replace hx102_1 := xH HB hx102_1; replace hx102_2 := xH HB hx102_2; have HR102_2 := Aside0.mk hi102_2; have HC102_2 := Aside0.mk hl102_2; clear hi102_2 hl102_2; have ea_ := Option.some.inj (hx101_2.symm.trans hx102_2)
      injection ea_ with ea_ en_ ec_
      subst ea_; subst ec_; clear en_; go_wp2; go_meet
      case rel => exact ⟨_, (true), xR, H', ⟨by have := HK1.out; first | omega | exact Nat.le_refl _⟩, ⟨xB⟩⟩
     have c6b0 := decide_eq_false c6; have c6b1 : decide (200 < ((rd_T63 l0 x3_1).f0).size) = false := decide_eq_false (by omega); clear c6; have H' := Aside0.mk H; clear H; obtain ⟨p101, q101, ad101, A101_2, c101_2, e101, hx101_0, hx101_1, hx101_2, hl101_2, hi101_2⟩ := xT (at_T63 HR0.out x3_1)
     cases e101
     replace hx101_0 := xH HB hx101_0; replace hx101_1 := xH HB hx101_1; replace hx101_2 := xH HB hx101_2; have HR101_2 := Aside0.mk hi101_2; have HC101_2 := Aside0.mk hl101_2; clear hi101_2 hl101_2; obtain ⟨p102, q102, ad102, A102_2, c102_2, e102, hx102_0, hx102_1, hx102_2, hl102_2, hi102_2⟩ := xT (at_T63 HR0.out x3_1); obtain rfl := xE e102; replace hx102_0 := xH HB hx102_0; replace hx102_1 := xH HB hx102_1; replace hx102_2 := xH HB hx102_2; have HR102_2 := Aside0.mk hi102_2; have HC102_2 := Aside0.mk hl102_2; clear hi102_2 hl102_2; have ea_ := Option.some.inj (hx101_2.symm.trans hx102_2)
     injection ea_ with ea_ en_ ec_
     subst ea_; subst ec_; clear en_; obtain ⟨p103, q103, ad103, A103_2, c103_2, e103, hx103_0, hx103_1, hx103_2, hl103_2, hi103_2⟩ := xT (at_T63 HR0.out x3_1); obtain rfl := xE e103; replace hx103_0 := xH HB hx103_0; replace hx103_1 := xH HB hx103_1; replace hx103_2 := xH HB hx103_2; have HR103_2 := Aside0.mk hi103_2; have HC103_2 := Aside0.mk hl103_2; clear hi103_2 hl103_2; have ea_ := Option.some.inj (hx101_2.symm.trans hx103_2)
     injection ea_ with ea_ en_ ec_
     subst ea_; subst ec_; clear en_; go_wp2; go_meet
     case rel => exact ⟨_, (decide ((((rd_T63 l0 x3_1).f2).length : Int) > 30)), xR, H', ⟨by have := HK1.out; first | omega | exact Nat.le_refl _⟩, ⟨xB⟩⟩
    case rest =>
     clear HC3
     try clear c1
     try clear p1
     try clear q1
     try clear hx1
     try clear c2
     try clear c2b0
     try clear p2
     try clear c3
     try clear c4
     try clear c4b0
     try clear c5
     try clear c5b0
     try clear c5b1
     try clear c6
     try clear c6b0
     try clear c6b1
     try clear hx101_0
     try clear hx101_1
     try clear hx101_2
     try clear hx102_0
     try clear hx102_1
     try clear hx102_2
     try clear hx103_0
     try clear hx103_1
     try clear hx103_2
     try clear p101
     try clear p102
     try clear p103
     try clear q101
     try clear q102
     try clear q103
     obtain ⟨kq, x36_2, rfl, HA, HJ2, HB⟩ := hcut
     cases kq with
     | zero => exact absurd HA.out (by simp [armadaref16_Small.j1])
     | succ kj2 =>
      have H := HA.out; clear HA; simp only [armadaref16_Small.j1] at H
      by_cases c7 : x36_2 = true
      ·
       subst c7; rw [if_pos rfl] at H; obtain rfl := Option.some.inj H; go_wp2; go_ret; exact ⟨xW, xB⟩
      replace c7 := Bool.eq_false_iff.mpr c7; subst c7; rw [if_neg (show ¬ (false = true) by decide)] at H; have H' := Aside0.mk H; clear H; go_wp2
      go_loopg [4] kj2 (fun kq v4 w' => ∃ (x4_3 : Int), v4 = .int .i64 x4_3 ∧ Aside0 (armadaref16_Small.l1 kq l0 x3_1 x4_3 = some r) ∧ Aside0 (kq ≤ kj2) ∧ Aside0 (Below w.heap.size w w'))
      case atStart => exact ⟨(0), xR, H', ⟨Nat.le_refl _⟩, ⟨xB⟩⟩
      case round =>
       clear H'
       try clear c1
       try clear p1
       try clear q1
       try clear hx1
       try clear c2
       try clear c2b0
       try clear p2
       try clear c3
       try clear c4
       try clear c4b0
       try clear c5
       try clear c5b0
       try clear c5b1
       try clear c6
       try clear c6b0
       try clear c6b1
       try clear c7
       try clear hx101_0
       try clear hx101_1
       try clear hx101_2
       try clear hx102_0
       try clear hx102_1
       try clear hx102_2
       try clear hx103_0
       try clear hx103_1
       try clear hx103_2
       try clear p1
       try clear p101
       try clear p102
       try clear p103
       try clear p2
       try clear q1
       try clear q101
       try clear q102
       try clear q103
       obtain ⟨x4_3, rfl, HA, HK3, HB⟩ := hrel
       cases gk with
       | zero => exact absurd HA.out (by simp [armadaref16_Small.l1])
       | succ k3 =>
        have H := HA.out; clear HA; simp only [armadaref16_Small.l1] at H; replace H := xI H; obtain ⟨c8, H⟩ := H; replace c8 := decide_eq_true c8; replace H := xI H; obtain ⟨c9, H⟩ := H; replace c9 := decide_eq_true c9; replace H := xJ H; rcases H with ⟨c10, H⟩ | ⟨c10, H⟩
        ·
         replace c10 := decide_eq_true c10; replace H := xI H; obtain ⟨c11, H⟩ := H; replace c11 := decide_eq_true c11; replace H := xJ H; rcases H with ⟨c12, H⟩ | ⟨c12, H⟩
         ·
          have c12b0 := decide_eq_true c12; have c12b1 : decide (200 < ((rd_T69 ((rd_T63 l0 x3_1).f2) x4_3).f0).size) = true := decide_eq_true (by omega); clear c12; obtain rfl := Option.some.inj H; obtain ⟨p104, q104, ad104, A104_2, c104_2, e104, hx104_0, hx104_1, hx104_2, hl104_2, hi104_2⟩ := xT (at_T63 HR0.out x3_1)
          cases e104
          replace hx104_0 := xH HB hx104_0; replace hx104_1 := xH HB hx104_1; replace hx104_2 := xH HB hx104_2; have HR104_2 := Aside0.mk hi104_2; have HC104_2 := Aside0.mk hl104_2; clear hi104_2 hl104_2; obtain ⟨p105, q105, ad105, A105_2, c105_2, e105, hx105_0, hx105_1, hx105_2, hl105_2, hi105_2⟩ := xT (at_T63 HR0.out x3_1); obtain rfl := xE e105; replace hx105_0 := xH HB hx105_0; replace hx105_1 := xH HB hx105_1; replace hx105_2 := xH HB hx105_2; have HR105_2 := Aside0.mk hi105_2; have HC105_2 := Aside0.mk hl105_2; clear hi105_2 hl105_2; have ea_ := Option.some.inj (hx104_2.symm.trans hx105_2)
          injection ea_ with ea_ en_ ec_
          subst ea_; subst ec_; clear en_; obtain ⟨p106, q106, ad106, e106, hx106_0, hx106_1, hx106_2, hx106_3, hx106_4, hx106_5⟩ := xT (at_T69 HR105_2.out x4_3)
          cases e106
          replace hx106_0 := xH HB hx106_0; replace hx106_1 := xH HB hx106_1; replace hx106_2 := xH HB hx106_2; replace hx106_3 := xH HB hx106_3; replace hx106_4 := xH HB hx106_4; replace hx106_5 := xH HB hx106_5; go_wp2_with (first | ((with_reducible refine gate_dst (N := 5) rfl ?_); (try (refine gate_guard (by rfl) ?_; dsimp only)); refine box_event ?hg (N := 5) ?hd (cs := #[.string (⟨#[]⟩ : ByteArray), .int .i64 0, .int .i64 0, .int .i64 0, .string (⟨#[]⟩ : ByteArray), .string (⟨#[]⟩ : ByteArray)]) (t := 69) ?hr ?_; (case hd => rfl); (case hg => rfl); (case hr => first | (go_simp; done) | (go_simp; rfl)); intro gb107 hg w13 hbox hb; have BK107 := Aside0.mk (hbox); have GW107 := Aside0.mk ((by rw [hg]; exact (below_size xB) : w.heap.size ≤ gb107)); have GE107 := Aside0.mk ((by rw [hg]; exact (below_size xB) : w.heap.size ≤ gb107)); replace HB := Aside0.mk (below_step xB hb); clear hb hbox hg; obtain ⟨hcz14_0, hcz14_1, hcz14_2, hcz14_3, hcz14_4, hcz14_5⟩ := xC6 BK107.out; obtain ⟨hfz14_0, hfz14_1, hfz14_2, hfz14_3, hfz14_4, hfz14_5⟩ := xF6 BK107.out)); go_ret; exact ⟨xW, xB⟩
         have c12b0 := decide_eq_false c12; have c12b1 : decide (200 < ((rd_T69 ((rd_T63 l0 x3_1).f2) x4_3).f0).size) = false := decide_eq_false (by omega); clear c12; replace H := xJ H; rcases H with ⟨c15, H⟩ | ⟨c15, H⟩
         ·
          have c15b0 := decide_eq_true c15; have c15b1 : decide (200 < ((rd_T69 ((rd_T63 l0 x3_1).f2) x4_3).f1.f3).size) = true := decide_eq_true (by omega); clear c15; obtain rfl := Option.some.inj H; obtain ⟨p104, q104, ad104, A104_2, c104_2, e104, hx104_0, hx104_1, hx104_2, hl104_2, hi104_2⟩ := xT (at_T63 HR0.out x3_1)
          cases e104
          replace hx104_0 := xH HB hx104_0; replace hx104_1 := xH HB hx104_1; replace hx104_2 := xH HB hx104_2; have HR104_2 := Aside0.mk hi104_2; have HC104_2 := Aside0.mk hl104_2; clear hi104_2 hl104_2; obtain ⟨p105, q105, ad105, A105_2, c105_2, e105, hx105_0, hx105_1, hx105_2, hl105_2, hi105_2⟩ := xT (at_T63 HR0.out x3_1); obtain rfl := xE e105; replace hx105_0 := xH HB hx105_0; replace hx105_1 := xH HB hx105_1; replace hx105_2 := xH HB hx105_2; have HR105_2 := Aside0.mk hi105_2; have HC105_2 := Aside0.mk hl105_2; clear hi105_2 hl105_2; have ea_ := Option.some.inj (hx104_2.symm.trans hx105_2)
          injection ea_ with ea_ en_ ec_
          subst ea_; subst ec_; clear en_; obtain ⟨p106, q106, ad106, e106, hx106_0, hx106_1, hx106_2, hx106_3, hx106_4, hx106_5⟩ := xT (at_T69 HR105_2.out x4_3)
          cases e106
          replace hx106_0 := xH HB hx106_0; replace hx106_1 := xH HB hx106_1; replace hx106_2 := xH HB hx106_2; replace hx106_3 := xH HB hx106_3; replace hx106_4 := xH HB hx106_4; replace hx106_5 := xH HB hx106_5; go_wp2_with (first | ((with_reducible refine gate_dst (N := 5) rfl ?_); (try (refine gate_guard (by rfl) ?_; dsimp only)); refine box_event ?hg (N := 5) ?hd (cs := #[.string (⟨#[]⟩ : ByteArray), .int .i64 0, .int .i64 0, .int .i64 0, .string (⟨#[]⟩ : ByteArray), .string (⟨#[]⟩ : ByteArray)]) (t := 69) ?hr ?_; (case hd => rfl); (case hg => rfl); (case hr => first | (go_simp; done) | (go_simp; rfl)); intro gb107 hg w16 hbox hb; have BK107 := Aside0.mk (hbox); have GW107 := Aside0.mk ((by rw [hg]; exact (below_size xB) : w.heap.size ≤ gb107)); have GE107 := Aside0.mk ((by rw [hg]; exact (below_size xB) : w.heap.size ≤ gb107)); replace HB := Aside0.mk (below_step xB hb); clear hb hbox hg; obtain ⟨hcz17_0, hcz17_1, hcz17_2, hcz17_3, hcz17_4, hcz17_5⟩ := xC6 BK107.out; obtain ⟨hfz17_0, hfz17_1, hfz17_2, hfz17_3, hfz17_4, hfz17_5⟩ := xF6 BK107.out)); go_ret; exact ⟨xW, xB⟩
         have c15b0 := decide_eq_false c15; have c15b1 : decide (200 < ((rd_T69 ((rd_T63 l0 x3_1).f2) x4_3).f1.f3).size) = false := decide_eq_false (by omega); clear c15; replace H := xJ H; rcases H with ⟨c18, H⟩ | ⟨c18, H⟩
         ·
          have c18b0 := decide_eq_true c18; have c18b1 : decide (200 < ((rd_T69 ((rd_T63 l0 x3_1).f2) x4_3).f1.f4).size) = true := decide_eq_true (by omega); clear c18; obtain rfl := Option.some.inj H; obtain ⟨p104, q104, ad104, A104_2, c104_2, e104, hx104_0, hx104_1, hx104_2, hl104_2, hi104_2⟩ := xT (at_T63 HR0.out x3_1)
          cases e104
          replace hx104_0 := xH HB hx104_0; replace hx104_1 := xH HB hx104_1; replace hx104_2 := xH HB hx104_2; have HR104_2 := Aside0.mk hi104_2; have HC104_2 := Aside0.mk hl104_2; clear hi104_2 hl104_2; obtain ⟨p105, q105, ad105, A105_2, c105_2, e105, hx105_0, hx105_1, hx105_2, hl105_2, hi105_2⟩ := xT (at_T63 HR0.out x3_1); obtain rfl := xE e105; replace hx105_0 := xH HB hx105_0; replace hx105_1 := xH HB hx105_1; replace hx105_2 := xH HB hx105_2; have HR105_2 := Aside0.mk hi105_2; have HC105_2 := Aside0.mk hl105_2; clear hi105_2 hl105_2; have ea_ := Option.some.inj (hx104_2.symm.trans hx105_2)
          injection ea_ with ea_ en_ ec_
          subst ea_; subst ec_; clear en_; obtain ⟨p106, q106, ad106, e106, hx106_0, hx106_1, hx106_2, hx106_3, hx106_4, hx106_5⟩ := xT (at_T69 HR105_2.out x4_3)
          cases e106
          replace hx106_0 := xH HB hx106_0; replace hx106_1 := xH HB hx106_1; replace hx106_2 := xH HB hx106_2; replace hx106_3 := xH HB hx106_3; replace hx106_4 := xH HB hx106_4; replace hx106_5 := xH HB hx106_5; go_wp2_with (first | ((with_reducible refine gate_dst (N := 5) rfl ?_); (try (refine gate_guard (by rfl) ?_; dsimp only)); refine box_event ?hg (N := 5) ?hd (cs := #[.string (⟨#[]⟩ : ByteArray), .int .i64 0, .int .i64 0, .int .i64 0, .string (⟨#[]⟩ : ByteArray), .string (⟨#[]⟩ : ByteArray)]) (t := 69) ?hr ?_; (case hd => rfl); (case hg => rfl); (case hr => first | (go_simp; done) | (go_simp; rfl)); intro gb107 hg w19 hbox hb; have BK107 := Aside0.mk (hbox); have GW107 := Aside0.mk ((by rw [hg]; exact (below_size xB) : w.heap.size ≤ gb107)); have GE107 := Aside0.mk ((by rw [hg]; exact (below_size xB) : w.heap.size ≤ gb107)); replace HB := Aside0.mk (below_step xB hb); clear hb hbox hg; obtain ⟨hcz20_0, hcz20_1, hcz20_2, hcz20_3, hcz20_4, hcz20_5⟩ := xC6 BK107.out; obtain ⟨hfz20_0, hfz20_1, hfz20_2, hfz20_3, hfz20_4, hfz20_5⟩ := xF6 BK107.out)); go_ret; exact ⟨xW, xB⟩
         have c18b0 := decide_eq_false c18; have c18b1 : decide (200 < ((rd_T69 ((rd_T63 l0 x3_1).f2) x4_3).f1.f4).size) = false := decide_eq_false (by omega); clear c18; have H' := Aside0.mk H; clear H; obtain ⟨p104, q104, ad104, A104_2, c104_2, e104, hx104_0, hx104_1, hx104_2, hl104_2, hi104_2⟩ := xT (at_T63 HR0.out x3_1)
         cases e104
         replace hx104_0 := xH HB hx104_0; replace hx104_1 := xH HB hx104_1; replace hx104_2 := xH HB hx104_2; have HR104_2 := Aside0.mk hi104_2; have HC104_2 := Aside0.mk hl104_2; clear hi104_2 hl104_2; obtain ⟨p105, q105, ad105, A105_2, c105_2, e105, hx105_0, hx105_1, hx105_2, hl105_2, hi105_2⟩ := xT (at_T63 HR0.out x3_1); obtain rfl := xE e105; replace hx105_0 := xH HB hx105_0; replace hx105_1 := xH HB hx105_1; replace hx105_2 := xH HB hx105_2; have HR105_2 := Aside0.mk hi105_2; have HC105_2 := Aside0.mk hl105_2; clear hi105_2 hl105_2; have ea_ := Option.some.inj (hx104_2.symm.trans hx105_2)
         injection ea_ with ea_ en_ ec_
         subst ea_; subst ec_; clear en_; obtain ⟨p106, q106, ad106, e106, hx106_0, hx106_1, hx106_2, hx106_3, hx106_4, hx106_5⟩ := xT (at_T69 HR105_2.out x4_3)
         cases e106
         replace hx106_0 := xH HB hx106_0; replace hx106_1 := xH HB hx106_1; replace hx106_2 := xH HB hx106_2; replace hx106_3 := xH HB hx106_3; replace hx106_4 := xH HB hx106_4; replace hx106_5 := xH HB hx106_5; go_wp2_with (first | ((with_reducible refine gate_dst (N := 5) rfl ?_); (try (refine gate_guard (by rfl) ?_; dsimp only)); refine box_event ?hg (N := 5) ?hd (cs := #[.string (⟨#[]⟩ : ByteArray), .int .i64 0, .int .i64 0, .int .i64 0, .string (⟨#[]⟩ : ByteArray), .string (⟨#[]⟩ : ByteArray)]) (t := 69) ?hr ?_; (case hd => rfl); (case hg => rfl); (case hr => first | (go_simp; done) | (go_simp; rfl)); intro gb107 hg w21 hbox hb; have BK107 := Aside0.mk (hbox); have GW107 := Aside0.mk ((by rw [hg]; exact (below_size xB) : w.heap.size ≤ gb107)); have GE107 := Aside0.mk ((by rw [hg]; exact (below_size xB) : w.heap.size ≤ gb107)); replace HB := Aside0.mk (below_step xB hb); clear hb hbox hg; obtain ⟨hcz22_0, hcz22_1, hcz22_2, hcz22_3, hcz22_4, hcz22_5⟩ := xC6 BK107.out; obtain ⟨hfz22_0, hfz22_1, hfz22_2, hfz22_3, hfz22_4, hfz22_5⟩ := xF6 BK107.out)); go_roundg k3
         case measure => have := HK1.out; have := HJ2.out; have := HK3.out; omega
         case rel => exact ⟨(wrap64 (x4_3 + 1)), xR, H', ⟨by have := HK1.out; have := HJ2.out; have := HK3.out; omega⟩, ⟨xB⟩⟩
        replace c10 := decide_eq_false c10; have H' := Aside0.mk H; clear H; obtain ⟨p104, q104, ad104, A104_2, c104_2, e104, hx104_0, hx104_1, hx104_2, hl104_2, hi104_2⟩ := xT (at_T63 HR0.out x3_1)
        cases e104
        replace hx104_0 := xH HB hx104_0; replace hx104_1 := xH HB hx104_1; replace hx104_2 := xH HB hx104_2; have HR104_2 := Aside0.mk hi104_2; have HC104_2 := Aside0.mk hl104_2; clear hi104_2 hl104_2; go_wp2; go_roundg k3
        case measure => have := HK1.out; have := HJ2.out; have := HK3.out; omega
        case rel => exact ⟨(wrap64 (x3_1 + 1)), xR, H', ⟨by have := HK1.out; have := HJ2.out; have := HK3.out; omega⟩, ⟨xB⟩⟩
   have c2b0 := decide_eq_false c2; clear c2; obtain rfl := Option.some.inj H; go_wp2; go_ret; exact ⟨xW, xB⟩
def armadaref16_In.l0 : Nat → List Int → Int → Int → Option (Bool)
 | 0, _, _, _ => none
 | k + 1, x0, x1, x5 => if x5 < (x0.length : Int) then (if 0 ≤ x5 then (if (rd x0 x5) = x1 then (some true) else (armadaref16_In.l0 k x0 x1 (wrap64 (x5 + 1)))) else (none)) else (some false)
def armadaref16_In.f (k : Nat) (l0 : List Int) (a1 : Int) : Option (Bool) := armadaref16_In.l0 k l0 a1 0
theorem armadaref16_In.mono_l : ∀ k, (∀ y0 y1 y2, LeO (armadaref16_In.l0 k y0 y1 y2) (armadaref16_In.l0 (k + 1) y0 y1 y2))
 | 0 => fun _ _ _ r h => by simp [armadaref16_In.l0] at h
 | k + 1 => by
  have ih0 := armadaref16_In.mono_l k
  ·
   intro y0 y1 y2; unfold armadaref16_In.l0; exact xM
theorem armadaref16_In.mono : ∀ a0 a1 k, LeO (armadaref16_In.f k a0 a1) (armadaref16_In.f (k + 1) a0 a1) := by
 intro a0 a1 k; have ih0 := armadaref16_In.mono_l k; unfold armadaref16_In.f; exact xM
set_option maxHeartbeats 8000000 in
set_option maxRecDepth 100000 in
theorem armadaref16_In.calls (k : Nat) (A0 : Option Addr) (c0 : Nat) (l0 : List Int) (a1 : Int) (r : Bool) (w : World) (hr0 : Kd.C (Kd.int .i64) w A0 l0.length l0) (hc0 : l0.length ≤ c0) (h : armadaref16_In.f k l0 a1 = some r) :
  Calls Tryz.prog 23 #[.slice A0 l0.length c0, .int .i64 a1] w fun e w' => e = .returned (.bool r) ∧ Drawn0 w w' := by
 have HR0 := Aside0.mk hr0; have HC0 := Aside0.mk hc0; clear hr0 hc0; have H : (armadaref16_In.l0 k l0 a1 0) = some r := h; clear h; have H' := Aside0.mk H; clear H; go_enter Tryz.func23, Tryz.ntmps23; go_wp2
 go_loopg [5] k (fun kq v5 w' => ∃ (x5_1 : Int), v5 = .int .i64 x5_1 ∧ Aside0 (armadaref16_In.l0 kq l0 a1 x5_1 = some r) ∧ Aside0 (kq ≤ k) ∧ Drawn0 w w')
 case atStart => exact ⟨(0), xR, H', ⟨Nat.le_refl _⟩, by repeat (first | exact Drawn0.refl _ | apply Drawn0.step)⟩
 case round =>
  clear H'
  try clear c2
  try clear p2
  obtain ⟨x5_1, rfl, HA, HK1, ⟨m1, rfl⟩⟩ := hrel
  cases gk with
  | zero => exact absurd HA.out (by simp [armadaref16_In.l0])
  | succ k1 =>
   have H := HA.out; clear HA; simp only [armadaref16_In.l0] at H; replace H := xJ H; rcases H with ⟨c3, H⟩ | ⟨c3, H⟩
   ·
    replace c3 := decide_eq_true c3; replace H := xI H; obtain ⟨c4, H⟩ := H; have c4b0 := decide_eq_true c4; clear c4; replace H := xJ H; rcases H with ⟨c5, H⟩ | ⟨c5, H⟩
    ·
     have c5b0 := beq_iff_eq.mpr c5; have c5b1 := bne_eq_false_iff_eq.mpr c5; clear c5; obtain rfl := Option.some.inj H; obtain ⟨p108, q108, ad108, e108, hx108_0⟩ := xT (Kd.at_int HR0.out x5_1)
     cases e108
     go_wp2; go_ret; exact ⟨xR, xG⟩
    have c5b0 := beq_eq_false_iff_ne.mpr c5; have c5b1 := bne_iff_ne.mpr c5; have H' := Aside0.mk H; clear H; obtain ⟨p108, q108, ad108, e108, hx108_0⟩ := xT (Kd.at_int HR0.out x5_1)
    cases e108
    go_wp2; go_roundg k1
    case measure => exact xO1
    case rel => exact ⟨(wrap64 (x5_1 + 1)), xR, H', ⟨xO1⟩, by repeat (first | exact Drawn0.refl _ | apply Drawn0.step)⟩
   replace c3 := decide_eq_false c3; obtain rfl := Option.some.inj H; go_wp2; go_ret; exact ⟨xR, xG⟩
end Go.Proofs.YtillhaipemengaaGreatDoor.RS
end
