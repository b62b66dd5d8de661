/- The texts RSx4 in one file, without what these claims do not use (put together by prune2.py). -/
import Derived.Test.YtillhaipemengaaGreatDoorZC34
section
namespace Go.Proofs.YtillhaipemengaaGreatDoor.RS
open Go.RowKit Go.Proofs.YtillhaipemengaaGreatDoor Go.Proofs.YtillhaipemengaaGreatDoor.K0 Go.Proofs.YtillhaipemengaaGreatDoor.RD Go.Proofs.YtillhaipemengaaGreatDoorW.PrintWords Go.Proofs.YtillhaipemengaaGreatDoorW.PrintLast Go.Proofs.YtillhaipemengaaGreatDoorW.PrintMore
attribute [local go_sem] max2_int min2_int max_two min_two max_three min_three max_four min_four
set_option linter.unusedVariables false
set_option linter.unusedSimpArgs false
mutual
def armadaref16_Check.l0 : Nat → List (S63) → Int → Option (Int)
 | 0, _, _ => none
 | k + 1, x0, x3 => if x3 < (x0.length : Int) then (if 0 ≤ x3 then ((armadaref08_Check.f k ((rd_T63 x0 x3).f1)).bind fun t110 => (if t110 = true then (armadaref16_Check.l0 k x0 (wrap64 (x3 + 1))) else (some 6))) else (none)) else (armadaref16_Check.l1 k x0 0)
def armadaref16_Check.l1 : Nat → List (S63) → Int → Option (Int)
 | 0, _, _ => none
 | k + 1, x0, x4 => if x4 < (x0.length : Int) then (armadaref16_Check.l2 k x0 x4 0) else (some 0)
def armadaref16_Check.l2 : Nat → List (S63) → Int → Int → Option (Int)
 | 0, _, _, _ => none
 | k + 1, x0, x4, x5 => if x5 < x4 then (if 0 ≤ x5 then (if x5 < (x0.length : Int) then (if 0 ≤ x4 then (if x4 < (x0.length : Int) then (if ((rd_T63 x0 x5).f1).toList = ((rd_T63 x0 x4).f1).toList then (some 11) else (armadaref16_Check.l2 k x0 x4 (wrap64 (x5 + 1)))) else (none)) else (none)) else (none)) else (none)) else (armadaref16_Check.l1 k x0 (wrap64 (x4 + 1)))
end
def armadaref16_Check.f (k : Nat) (l0 : List (S63)) : Option (Int) := if (l0.length : Int) > 12 then (some 1) else (armadaref16_Check.l0 k l0 0)
theorem armadaref16_Check.mono_l : ∀ k, (∀ y0 y1, LeO (armadaref16_Check.l0 k y0 y1) (armadaref16_Check.l0 (k + 1) y0 y1)) ∧ (∀ y0 y1, LeO (armadaref16_Check.l1 k y0 y1) (armadaref16_Check.l1 (k + 1) y0 y1)) ∧ (∀ y0 y1 y2, LeO (armadaref16_Check.l2 k y0 y1 y2) (armadaref16_Check.l2 (k + 1) y0 y1 y2))
 | 0 => ⟨fun _ _ r h => by simp [armadaref16_Check.l0] at h, fun _ _ r h => by simp [armadaref16_Check.l1] at h, fun _ _ _ r h => by simp [armadaref16_Check.l2] at h⟩
 | k + 1 => by
  obtain ⟨ih0, ih1, ih2⟩ := armadaref16_Check.mono_l k; refine ⟨?_, ?_, ?_⟩
  ·
   intro y0 y1; unfold armadaref16_Check.l0; have ih3 := @armadaref08_Check.mono; exact xM
  ·
   intro y0 y1; unfold armadaref16_Check.l1; have ih3 := @armadaref08_Check.mono; exact xM
  ·
   intro y0 y1 y2; unfold armadaref16_Check.l2; have ih3 := @armadaref08_Check.mono; exact xM
theorem armadaref16_Check.mono : ∀ a0 k, LeO (armadaref16_Check.f k a0) (armadaref16_Check.f (k + 1) a0) := by
 intro a0 k; obtain ⟨ih0, ih1, ih2⟩ := armadaref16_Check.mono_l k; unfold armadaref16_Check.f; have ih3 := @armadaref08_Check.mono; exact xM
set_option maxHeartbeats 8000000 in
set_option maxRecDepth 100000 in
theorem armadaref16_Check.calls (k : Nat) (A0 : Option Addr) (c0 : Nat) (l0 : List (S63)) (r : Int) (w : World) (hr0 : Kd.C k63 w A0 l0.length l0) (hc0 : l0.length ≤ c0) (h : armadaref16_Check.f k l0 = some r) :
  Calls Tryz.prog 51 #[.slice A0 l0.length c0] w fun e w' => e = .returned (.int .i64 r) ∧ Below w.heap.size w w' := by
 have HR0 := Aside0.mk hr0; have HC0 := Aside0.mk hc0; clear hr0 hc0; have HB := Aside0.mk (Below.refl w.heap.size w); have H : (if (l0.length : Int) > 12 then (some 1) else (armadaref16_Check.l0 k l0 0)) = some r := h; clear h; replace H := xJ H; rcases H with ⟨c2, H⟩ | ⟨c2, H⟩
 ·
  have c2b0 := decide_eq_true c2; have c2b1 : decide (12 < l0.length) = true := decide_eq_true (by omega); clear c2; obtain rfl := Option.some.inj H; go_enter Tryz.func51, Tryz.ntmps51; go_wp2
  repeat (go_quiet (fail); try go_wp2)
  go_ret; exact ⟨xW, xB⟩
 have c2b0 := decide_eq_false c2; have c2b1 : decide (12 < l0.length) = false := decide_eq_false (by omega); clear c2; have H' := Aside0.mk H; clear H; go_enter Tryz.func51, Tryz.ntmps51; go_wp2
 repeat (go_quiet (fail); try go_wp2)
 go_loopg [3] k (fun kq v3 w' => ∃ (x3_1 : Int), v3 = .int .i64 x3_1 ∧ Aside0 (armadaref16_Check.l0 kq l0 x3_1 = some r) ∧ Aside0 (kq ≤ k) ∧ Aside0 (Below w.heap.size w w'))
 case atStart => exact ⟨(0), xR, H', ⟨Nat.le_refl _⟩, ⟨xB⟩⟩
 case round =>
  clear H'
  try clear c2
  try clear c2b0
  try clear c2b1
  try clear p2
  obtain ⟨x3_1, rfl, HA, HK1, HB⟩ := hrel
  cases gk with
  | zero => exact absurd HA.out (by simp [armadaref16_Check.l0])
  | succ k1 =>
   have H := HA.out; clear HA; simp only [armadaref16_Check.l0] at H; replace H := xJ H; rcases H with ⟨c3, H⟩ | ⟨c3, H⟩
   ·
    have c3b0 := decide_eq_true c3; clear c3; replace H := xI H; obtain ⟨c4, H⟩ := H; have c4b0 := decide_eq_true c4; clear c4; replace H := xb H; obtain ⟨t110, A5, H⟩ := H
    by_cases c6 : t110 = true
    ·
     subst c6; rw [if_pos rfl] at H; have H' := Aside0.mk H; clear H; obtain ⟨p109, q109, ad109, A109_2, c109_2, e109, hx109_0, hx109_1, hx109_2, hl109_2, hi109_2⟩ := xT (at_T63 HR0.out x3_1)
     cases e109
     replace hx109_0 := xH HB hx109_0; replace hx109_1 := xH HB hx109_1; replace hx109_2 := xH HB hx109_2; have HR109_2 := Aside0.mk hi109_2; have HC109_2 := Aside0.mk hl109_2; clear hi109_2 hl109_2; go_wp2_with (first | (go_at_call 59; (with_reducible refine (armadaref08_Check.calls k1 ((rd_T63 l0 x3_1).f1) true _ A5.out).mono ?_); rintro e w7 ⟨rfl, hb⟩; replace HB := Aside0.mk (below_step xB hb); (try clear hb)))
     repeat (go_quiet (first | (go_at_call 59; (with_reducible refine (armadaref08_Check.calls k1 ((rd_T63 l0 x3_1).f1) true _ A5.out).mono ?_); rintro e w7 ⟨rfl, hb⟩; replace HB := Aside0.mk (below_step xB hb); (try clear hb))); try go_wp2_with (first | (go_at_call 59; (with_reducible refine (armadaref08_Check.calls k1 ((rd_T63 l0 x3_1).f1) true _ A5.out).mono ?_); rintro e w7 ⟨rfl, hb⟩; replace HB := Aside0.mk (below_step xB hb); (try clear hb))))
     go_roundg k1
     case measure => exact xO1
     case rel => exact ⟨(wrap64 (x3_1 + 1)), xR, H', ⟨xO1⟩, ⟨xB⟩⟩
    replace c6 := Bool.eq_false_iff.mpr c6; subst c6; rw [if_neg (show ¬ (false = true) by decide)] at H; obtain rfl := Option.some.inj H; obtain ⟨p109, q109, ad109, A109_2, c109_2, e109, hx109_0, hx109_1, hx109_2, hl109_2, hi109_2⟩ := xT (at_T63 HR0.out x3_1)
    cases e109
    replace hx109_0 := xH HB hx109_0; replace hx109_1 := xH HB hx109_1; replace hx109_2 := xH HB hx109_2; have HR109_2 := Aside0.mk hi109_2; have HC109_2 := Aside0.mk hl109_2; clear hi109_2 hl109_2; go_wp2_with (first | (go_at_call 59; (with_reducible refine (armadaref08_Check.calls k1 ((rd_T63 l0 x3_1).f1) false _ A5.out).mono ?_); rintro e w8 ⟨rfl, hb⟩; replace HB := Aside0.mk (below_step xB hb); (try clear hb)))
    repeat (go_quiet (first | (go_at_call 59; (with_reducible refine (armadaref08_Check.calls k1 ((rd_T63 l0 x3_1).f1) false _ A5.out).mono ?_); rintro e w8 ⟨rfl, hb⟩; replace HB := Aside0.mk (below_step xB hb); (try clear hb))); try go_wp2_with (first | (go_at_call 59; (with_reducible refine (armadaref08_Check.calls k1 ((rd_T63 l0 x3_1).f1) false _ A5.out).mono ?_); rintro e w8 ⟨rfl, hb⟩; replace HB := Aside0.mk (below_step xB hb); (try clear hb))))
    go_ret; exact ⟨xW, xB⟩
   have c3b0 := decide_eq_false c3; clear c3; have H' := Aside0.mk H; clear H; go_wp2
   repeat (go_quiet (fail); try go_wp2)
   go_loopg [4] k1 (fun kq v4 w' => ∃ (x4_2 : Int), v4 = .int .i64 x4_2 ∧ Aside0 (armadaref16_Check.l1 kq l0 x4_2 = some r) ∧ Aside0 (kq ≤ k1) ∧ Aside0 (Below w.heap.size w w'))
   case atStart => exact ⟨(0), xR, H', ⟨Nat.le_refl _⟩, ⟨xB⟩⟩
   case round =>
    clear H'
    try clear c1
    try clear p1
    try clear q1
    try clear hx1
    try clear c2
    try clear c2b0
    try clear c2b1
    try clear p2
    try clear c3
    try clear c3b0
    try clear c4
    try clear c4b0
    try clear c5
    try clear c6
    try clear p6
    try clear hx109_0
    try clear hx109_1
    try clear hx109_2
    try clear p109
    try clear p2
    try clear q109
    obtain ⟨x4_2, rfl, HA, HK2, HB⟩ := hrel
    cases gk with
    | zero => exact absurd HA.out (by simp [armadaref16_Check.l1])
    | succ k2 =>
     have H := HA.out; clear HA; simp only [armadaref16_Check.l1] at H; replace H := xJ H; rcases H with ⟨c9, H⟩ | ⟨c9, H⟩
     ·
      have c9b0 := decide_eq_true c9; clear c9; have H' := Aside0.mk H; clear H; go_wp2
      repeat (go_quiet (fail); try go_wp2)
      go_loopg [5] k2 (fun kq v5 w' => ∃ (x5_3 : Int), v5 = .int .i64 x5_3 ∧ Aside0 (armadaref16_Check.l2 kq l0 x4_2 x5_3 = some r) ∧ Aside0 (kq ≤ k2) ∧ Aside0 (Below w.heap.size w w'))
      case atStart => exact ⟨(0), xR, H', ⟨Nat.le_refl _⟩, ⟨xB⟩⟩
      case round =>
       clear H'
       try clear c1
       try clear p1
       try clear q1
       try clear hx1
       try clear c2
       try clear c2b0
       try clear c2b1
       try clear p2
       try clear c3
       try clear c3b0
       try clear c4
       try clear c4b0
       try clear c5
       try clear c6
       try clear p6
       try clear c9
       try clear c9b0
       try clear hx109_0
       try clear hx109_1
       try clear hx109_2
       try clear p1
       try clear p109
       try clear p2
       try clear p6
       try clear q1
       try clear q109
       obtain ⟨x5_3, rfl, HA, HK3, HB⟩ := hrel
       cases gk with
       | zero => exact absurd HA.out (by simp [armadaref16_Check.l2])
       | succ k3 =>
        have H := HA.out; clear HA; simp only [armadaref16_Check.l2] at H; replace H := xJ H; rcases H with ⟨c10, H⟩ | ⟨c10, H⟩
        ·
         replace c10 := decide_eq_true c10; replace H := xI H; obtain ⟨c11, H⟩ := H; replace c11 := decide_eq_true c11; replace H := xI H; obtain ⟨c12, H⟩ := H; replace c12 := decide_eq_true c12; replace H := xI H; obtain ⟨c13, H⟩ := H; replace c13 := decide_eq_true c13; replace H := xI H; obtain ⟨c14, H⟩ := H; replace c14 := decide_eq_true c14; replace H := xJ H; rcases H with ⟨c15, H⟩ | ⟨c15, H⟩
         ·
          have c15b0 := beq_iff_eq.mpr c15; have c15b1 := bne_eq_false_iff_eq.mpr c15; clear c15; obtain rfl := Option.some.inj H; obtain ⟨p111, q111, ad111, A111_2, c111_2, e111, hx111_0, hx111_1, hx111_2, hl111_2, hi111_2⟩ := xT (at_T63 HR0.out x5_3)
          cases e111
          replace hx111_0 := xH HB hx111_0; replace hx111_1 := xH HB hx111_1; replace hx111_2 := xH HB hx111_2; have HR111_2 := Aside0.mk hi111_2; have HC111_2 := Aside0.mk hl111_2; clear hi111_2 hl111_2; obtain ⟨p112, q112, ad112, A112_2, c112_2, e112, hx112_0, hx112_1, hx112_2, hl112_2, hi112_2⟩ := xT (at_T63 HR0.out x4_2); obtain rfl := xE e112; replace hx112_0 := xH HB hx112_0; replace hx112_1 := xH HB hx112_1; replace hx112_2 := xH HB hx112_2; have HR112_2 := Aside0.mk hi112_2; have HC112_2 := Aside0.mk hl112_2; clear hi112_2 hl112_2; go_wp2
          repeat (go_quiet (fail); try go_wp2)
          go_ret; exact ⟨xW, xB⟩
         have c15b0 := beq_eq_false_iff_ne.mpr c15; have c15b1 := bne_iff_ne.mpr c15; have H' := Aside0.mk H; clear H; obtain ⟨p111, q111, ad111, A111_2, c111_2, e111, hx111_0, hx111_1, hx111_2, hl111_2, hi111_2⟩ := xT (at_T63 HR0.out x5_3)
         cases e111
         replace hx111_0 := xH HB hx111_0; replace hx111_1 := xH HB hx111_1; replace hx111_2 := xH HB hx111_2; have HR111_2 := Aside0.mk hi111_2; have HC111_2 := Aside0.mk hl111_2; clear hi111_2 hl111_2; obtain ⟨p112, q112, ad112, A112_2, c112_2, e112, hx112_0, hx112_1, hx112_2, hl112_2, hi112_2⟩ := xT (at_T63 HR0.out x4_2); obtain rfl := xE e112; replace hx112_0 := xH HB hx112_0; replace hx112_1 := xH HB hx112_1; replace hx112_2 := xH HB hx112_2; have HR112_2 := Aside0.mk hi112_2; have HC112_2 := Aside0.mk hl112_2; clear hi112_2 hl112_2; go_wp2
         repeat (go_quiet (fail); try go_wp2)
         go_roundg k3
         case measure => exact xO3
         case rel => exact ⟨(wrap64 (x5_3 + 1)), xR, H', ⟨xO3⟩, ⟨xB⟩⟩
        replace c10 := decide_eq_false c10; have H' := Aside0.mk H; clear H; go_wp2
        repeat (go_quiet (fail); try go_wp2)
        go_roundg k3
        case measure => exact xO3
        case rel => exact ⟨(wrap64 (x4_2 + 1)), xR, H', ⟨xO3⟩, ⟨xB⟩⟩
     have c9b0 := decide_eq_false c9; clear c9; obtain rfl := Option.some.inj H; go_wp2
     repeat (go_quiet (fail); try go_wp2)
     go_ret; exact ⟨xW, xB⟩
def armadaref16_requires.l0 : Nat → ByteArray → Int → ByteArray → ByteArray → List (S69) → Option (Bool)
 | 0, _, _, _, _, _ => none
 | k + 1, x1, x5, x114000, x114001, x114002 => if x5 < (x114002.length : Int) then (if 0 ≤ x5 then (if ((rd_T69 x114002 x5).f0).toList = x1.toList then (some true) else (armadaref16_requires.l0 k x1 (wrap64 (x5 + 1)) x114000 x114001 x114002)) else (none)) else (some false)
def armadaref16_requires.f (k : Nat) (a0_0 : ByteArray) (a0_1 : ByteArray) (l0_2 : List (S69)) (a1 : ByteArray) : Option (Bool) := armadaref16_requires.l0 k a1 0 a0_0 a0_1 l0_2
theorem armadaref16_requires.mono_l : ∀ k, (∀ y0 y1 y2 y3 y4, LeO (armadaref16_requires.l0 k y0 y1 y2 y3 y4) (armadaref16_requires.l0 (k + 1) y0 y1 y2 y3 y4))
 | 0 => fun _ _ _ _ _ r h => by simp [armadaref16_requires.l0] at h
 | k + 1 => by
  have ih0 := armadaref16_requires.mono_l k
  ·
   intro y0 y1 y2 y3 y4; unfold armadaref16_requires.l0; exact xM
theorem armadaref16_requires.mono : ∀ a0 a1 a2 a3 k, LeO (armadaref16_requires.f k a0 a1 a2 a3) (armadaref16_requires.f (k + 1) a0 a1 a2 a3) := by
 intro a0 a1 a2 a3 k; have ih0 := armadaref16_requires.mono_l k; unfold armadaref16_requires.f; exact xM
set_option maxHeartbeats 8000000 in
set_option maxRecDepth 100000 in
theorem armadaref16_requires.calls (k : Nat) (a0_0 : ByteArray) (a0_1 : ByteArray) (A0_2 : Option Addr) (c0_2 : Nat) (l0_2 : List (S69)) (a1 : ByteArray) (r : Bool) (w : World) (hr0_2 : Kd.C k69 w A0_2 l0_2.length l0_2) (hc0_2 : l0_2.length ≤ c0_2) (h : armadaref16_requires.f k a0_0 a0_1 l0_2 a1 = some r) :
  Calls Tryz.prog 52 #[.agg #[.string a0_0, .string a0_1, .slice A0_2 l0_2.length c0_2], .string a1] w fun e w' => e = .returned (.bool r) ∧ Below w.heap.size w w' := by
 have hu63 := Tryz.underlying63; have HR0_2 := Aside0.mk hr0_2; have HC0_2 := Aside0.mk hc0_2; clear hr0_2 hc0_2; have HB := Aside0.mk (Below.refl w.heap.size w); have H : (armadaref16_requires.l0 k a1 0 a0_0 a0_1 l0_2) = some r := h; clear h; have H' := Aside0.mk H; clear H; go_enter Tryz.func52, Tryz.ntmps52; go_wp2_with (first | ((with_reducible refine gate_dst (N := 2) rfl ?_); refine box_event ?hg (N := 2) ?hd (cs := #[.string a0_0, .string a0_1, .slice A0_2 l0_2.length c0_2]) (t := 63) ?hr ?_; (case hd => rfl); (case hg => rfl); (case hr => first | (go_simp; done) | (go_simp; rfl)); intro gb113 hg w3 hbox hb; have BK113 := Aside0.mk (hbox); have GW113 := Aside0.mk ((by rw [hg]; exact (below_size xB) : w.heap.size ≤ gb113)); have GE113 := Aside0.mk ((by rw [hg]; exact (below_size xB) : w.heap.size ≤ gb113)); replace HB := Aside0.mk (below_step xB hb); clear hb hbox hg))
 go_loopg [5] k (fun kq v5 w' => ∃ (x5_1 : Int), v5 = .int .i64 x5_1 ∧ Aside0 (armadaref16_requires.l0 kq a1 x5_1 a0_0 a0_1 l0_2 = some r) ∧ Aside0 (kq ≤ k) ∧ Aside0 (w'.heap[gb113]? = some (.cells #[.string a0_0, .string a0_1, (.slice A0_2 l0_2.length c0_2)] 63 (0, 0))) ∧ Aside0 (Below w.heap.size w w'))
 case atStart => exact ⟨(0), xR, H', ⟨Nat.le_refl _⟩, ⟨by (with_reducible repeat (first | refine blk_drewN ?_ _ | refine blk_drew ?_ | refine blk_alloc ?_ _)); exact BK113.out⟩, ⟨xB⟩⟩
 case round =>
  clear H'
  try clear p2
  obtain ⟨x5_1, rfl, HA, HK1, BK113, HB⟩ := hrel
  cases gk with
  | zero => exact absurd HA.out (by simp [armadaref16_requires.l0])
  | succ k1 =>
   have H := HA.out; clear HA; simp only [armadaref16_requires.l0] at H; replace H := xJ H; rcases H with ⟨c4, H⟩ | ⟨c4, H⟩
   ·
    have c4b0 := decide_eq_true c4; clear c4; replace H := xI H; obtain ⟨c5, H⟩ := H; replace c5 := decide_eq_true c5; replace H := xJ H; rcases H with ⟨c6, H⟩ | ⟨c6, H⟩
    ·
     have c6b0 := beq_iff_eq.mpr c6; have c6b1 := bne_eq_false_iff_eq.mpr c6; clear c6; obtain rfl := Option.some.inj H; obtain ⟨hcz7_0, hcz7_1, hcz7_2⟩ := xC3 BK113.out; obtain ⟨hfz7_0, hfz7_1, hfz7_2⟩ := xF3 BK113.out; obtain ⟨p114, q114, ad114, e114, hx114_0, hx114_1, hx114_2, hx114_3, hx114_4, hx114_5⟩ := xT (at_T69 HR0_2.out x5_1)
     cases e114
     replace hx114_0 := xH HB hx114_0; replace hx114_1 := xH HB hx114_1; replace hx114_2 := xH HB hx114_2; replace hx114_3 := xH HB hx114_3; replace hx114_4 := xH HB hx114_4; replace hx114_5 := xH HB hx114_5; go_wp2; go_ret; exact ⟨xW, xB⟩
    have c6b0 := beq_eq_false_iff_ne.mpr c6; have c6b1 := bne_iff_ne.mpr c6; have H' := Aside0.mk H; clear H; obtain ⟨hcz8_0, hcz8_1, hcz8_2⟩ := xC3 BK113.out; obtain ⟨hfz8_0, hfz8_1, hfz8_2⟩ := xF3 BK113.out; obtain ⟨p114, q114, ad114, e114, hx114_0, hx114_1, hx114_2, hx114_3, hx114_4, hx114_5⟩ := xT (at_T69 HR0_2.out x5_1)
    cases e114
    replace hx114_0 := xH HB hx114_0; replace hx114_1 := xH HB hx114_1; replace hx114_2 := xH HB hx114_2; replace hx114_3 := xH HB hx114_3; replace hx114_4 := xH HB hx114_4; replace hx114_5 := xH HB hx114_5; go_wp2; go_roundg k1
    case measure => exact xO1
    case rel => exact ⟨(wrap64 (x5_1 + 1)), xR, H', ⟨xO1⟩, ⟨by (with_reducible repeat (first | refine blk_drewN ?_ _ | refine blk_drew ?_ | refine blk_alloc ?_ _)); exact BK113.out⟩, ⟨xB⟩⟩
   have c4b0 := decide_eq_false c4; clear c4; obtain rfl := Option.some.inj H; obtain ⟨hcz9_0, hcz9_1, hcz9_2⟩ := xC3 BK113.out; obtain ⟨hfz9_0, hfz9_1, hfz9_2⟩ := xF3 BK113.out; go_wp2; go_ret; exact ⟨xW, xB⟩
end Go.Proofs.YtillhaipemengaaGreatDoor.RS
end
