-- Written by a program of this place (myprint.py) out of the translation. Not trusted: Lean checks it.
import Derived.Test.YtpkhemnngjmcjaaGreatDoorR1x0
import Derived.Test.YtpkhemnngjmcjaaGreatDoorR1x2
import Derived.Test.YtpkhemnngjmcjaaGreatDoorR1x5
namespace Go.Proofs.YtpkhemnngjmcjaaGreatDoor.R1
open Go.RowKit Go.Proofs.YtpkhemnngjmcjaaGreatDoor Go.Proofs.YtpkhemnngjmcjaaGreatDoor.K0 Go.Proofs.YtpkhemnngjmcjaaGreatDoorW.PrintWords Go.Proofs.YtpkhemnngjmcjaaGreatDoorW.PrintLast Go.Proofs.YtpkhemnngjmcjaaGreatDoorW.PrintMore
attribute [local go_sem] max2_int min2_int max_two min_two max_three min_three max_four min_four   -- for this text's walks alone
set_option linter.unusedVariables false
set_option linter.unusedSimpArgs false

/-! ### armadaref07_identifiers: function 74 -/
mutual
def armadaref07_identifiers.l0 : Nat → Bool → List ByteArray → Int → Option (Bool)
 | 0, _, _, _ => none
 | k + 1, x1, x5, x6 => if x6 < (x5.length : Int) then (armadaref07_identifiers.l1 k x1 x5 x6 0) else (some true)
def armadaref07_identifiers.l1 : Nat → Bool → List ByteArray → Int → Int → Option (Bool)
 | 0, _, _, _, _ => none
 | k + 1, x1, x5, x6, x7 => if 0 ≤ x6 then (if x6 < (x5.length : Int) then (if x7 < ((rdOf ByteArray.empty x5 x6).size : Int) then (if 0 ≤ x7 then (if (bt (rdOf ByteArray.empty x5 x6) x7) ≥ 97 then (if ((bt (rdOf ByteArray.empty x5 x6) x7) ≤ 122) then (armadaref07_identifiers.l1 k x1 x5 x6 (wrap64 (x7 + 1))) else (if (bt (rdOf ByteArray.empty x5 x6) x7) ≥ 65 then (if ((bt (rdOf ByteArray.empty x5 x6) x7) ≤ 90) then (armadaref07_identifiers.l1 k x1 x5 x6 (wrap64 (x7 + 1))) else (if (bt (rdOf ByteArray.empty x5 x6) x7) ≥ 48 then (if ((bt (rdOf ByteArray.empty x5 x6) x7) ≤ 57) then (armadaref07_identifiers.l1 k x1 x5 x6 (wrap64 (x7 + 1))) else (if (bt (rdOf ByteArray.empty x5 x6) x7) = 45 then (armadaref07_identifiers.l1 k x1 x5 x6 (wrap64 (x7 + 1))) else (some false))) else (if (bt (rdOf ByteArray.empty x5 x6) x7) = 45 then (armadaref07_identifiers.l1 k x1 x5 x6 (wrap64 (x7 + 1))) else (some false)))) else (if (bt (rdOf ByteArray.empty x5 x6) x7) ≥ 48 then (if ((bt (rdOf ByteArray.empty x5 x6) x7) ≤ 57) then (armadaref07_identifiers.l1 k x1 x5 x6 (wrap64 (x7 + 1))) else (if (bt (rdOf ByteArray.empty x5 x6) x7) = 45 then (armadaref07_identifiers.l1 k x1 x5 x6 (wrap64 (x7 + 1))) else (some false))) else (if (bt (rdOf ByteArray.empty x5 x6) x7) = 45 then (armadaref07_identifiers.l1 k x1 x5 x6 (wrap64 (x7 + 1))) else (some false))))) else (if (bt (rdOf ByteArray.empty x5 x6) x7) ≥ 65 then (if ((bt (rdOf ByteArray.empty x5 x6) x7) ≤ 90) then (armadaref07_identifiers.l1 k x1 x5 x6 (wrap64 (x7 + 1))) else (if (bt (rdOf ByteArray.empty x5 x6) x7) ≥ 48 then (if ((bt (rdOf ByteArray.empty x5 x6) x7) ≤ 57) then (armadaref07_identifiers.l1 k x1 x5 x6 (wrap64 (x7 + 1))) else (if (bt (rdOf ByteArray.empty x5 x6) x7) = 45 then (armadaref07_identifiers.l1 k x1 x5 x6 (wrap64 (x7 + 1))) else (some false))) else (if (bt (rdOf ByteArray.empty x5 x6) x7) = 45 then (armadaref07_identifiers.l1 k x1 x5 x6 (wrap64 (x7 + 1))) else (some false)))) else (if (bt (rdOf ByteArray.empty x5 x6) x7) ≥ 48 then (if ((bt (rdOf ByteArray.empty x5 x6) x7) ≤ 57) then (armadaref07_identifiers.l1 k x1 x5 x6 (wrap64 (x7 + 1))) else (if (bt (rdOf ByteArray.empty x5 x6) x7) = 45 then (armadaref07_identifiers.l1 k x1 x5 x6 (wrap64 (x7 + 1))) else (some false))) else (if (bt (rdOf ByteArray.empty x5 x6) x7) = 45 then (armadaref07_identifiers.l1 k x1 x5 x6 (wrap64 (x7 + 1))) else (some false))))) else (none)) else (if (rdOf ByteArray.empty x5 x6).toList = ([] : List UInt8) then (some false) else (if x1 = true then (armadaref07_identifiers.l0 k x1 x5 (wrap64 (x6 + 1))) else ((armadaref07_digits.f k (rdOf ByteArray.empty x5 x6)).bind fun t139 => (if t139 = true then (if ((rdOf ByteArray.empty x5 x6).size : Int) > 1 then (if 0 < ((rdOf ByteArray.empty x5 x6).size : Int) then (if (bt (rdOf ByteArray.empty x5 x6) 0) = 48 then (some false) else (armadaref07_identifiers.l0 k x1 x5 (wrap64 (x6 + 1)))) else (none)) else (armadaref07_identifiers.l0 k x1 x5 (wrap64 (x6 + 1)))) else (armadaref07_identifiers.l0 k x1 x5 (wrap64 (x6 + 1)))))))) else (none)) else (none)
end
def armadaref07_identifiers.f (k : Nat) (a0 : ByteArray) (a1 : Bool) : Option (Bool) := (armadaref05_Split.f k a0 46).bind fun t132 => (armadaref07_identifiers.l0 k a1 t132 0)
theorem armadaref07_identifiers.mono_l : ∀ k, (∀ y0 y1 y2, LeO (armadaref07_identifiers.l0 k y0 y1 y2) (armadaref07_identifiers.l0 (k + 1) y0 y1 y2)) ∧ (∀ y0 y1 y2 y3, LeO (armadaref07_identifiers.l1 k y0 y1 y2 y3) (armadaref07_identifiers.l1 (k + 1) y0 y1 y2 y3))
 | 0 => ⟨fun _ _ _ r h => by simp [armadaref07_identifiers.l0] at h, fun _ _ _ _ r h => by simp [armadaref07_identifiers.l1] at h⟩
 | k + 1 => by
  obtain ⟨ih0, ih1⟩ := armadaref07_identifiers.mono_l k
  refine ⟨?_, ?_⟩
  ·
   intro y0 y1 y2
   unfold armadaref07_identifiers.l0
   repeat' first
   | (with_reducible exact ih0 _ _ _)
   | (with_reducible exact ih1 _ _ _ _)
   | (with_reducible exact armadaref05_Split.mono _ _ _)
   | (with_reducible exact armadaref07_digits.mono _ _)
   | (with_reducible exact LeO.refl _)
   | (with_reducible exact LeO.none _)
   | (with_reducible refine LeO.ite ?_ ?_)
   | (with_reducible refine LeO.bind ?_ (fun _ => ?_))
   | exact ih0 _ _ _
   | exact ih1 _ _ _ _
   | exact armadaref05_Split.mono _ _ _
   | exact armadaref07_digits.mono _ _
   | exact LeO.none _
   | refine LeO.ite ?_ ?_
   | refine LeO.bind ?_ (fun _ => ?_)
  ·
   intro y0 y1 y2 y3
   unfold armadaref07_identifiers.l1
   repeat' first
   | (with_reducible exact ih0 _ _ _)
   | (with_reducible exact ih1 _ _ _ _)
   | (with_reducible exact armadaref05_Split.mono _ _ _)
   | (with_reducible exact armadaref07_digits.mono _ _)
   | (with_reducible exact LeO.refl _)
   | (with_reducible exact LeO.none _)
   | (with_reducible refine LeO.ite ?_ ?_)
   | (with_reducible refine LeO.bind ?_ (fun _ => ?_))
   | exact ih0 _ _ _
   | exact ih1 _ _ _ _
   | exact armadaref05_Split.mono _ _ _
   | exact armadaref07_digits.mono _ _
   | exact LeO.none _
   | refine LeO.ite ?_ ?_
   | refine LeO.bind ?_ (fun _ => ?_)
theorem armadaref07_identifiers.mono : ∀ a0 a1 k, LeO (armadaref07_identifiers.f k a0 a1) (armadaref07_identifiers.f (k + 1) a0 a1) := by
 intro a0 a1 k
 obtain ⟨ih0, ih1⟩ := armadaref07_identifiers.mono_l k
 unfold armadaref07_identifiers.f
 repeat' first
   | (with_reducible exact ih0 _ _ _)
   | (with_reducible exact ih1 _ _ _ _)
   | (with_reducible exact armadaref05_Split.mono _ _ _)
   | (with_reducible exact armadaref07_digits.mono _ _)
   | (with_reducible exact LeO.refl _)
   | (with_reducible exact LeO.none _)
   | (with_reducible refine LeO.ite ?_ ?_)
   | (with_reducible refine LeO.bind ?_ (fun _ => ?_))
   | exact ih0 _ _ _
   | exact ih1 _ _ _ _
   | exact armadaref05_Split.mono _ _ _
   | exact armadaref07_digits.mono _ _
   | exact LeO.none _
   | refine LeO.ite ?_ ?_
   | refine LeO.bind ?_ (fun _ => ?_)
set_option maxHeartbeats 8000000 in
set_option maxRecDepth 100000 in
theorem armadaref07_identifiers.calls (k : Nat) (a0 : ByteArray) (a1 : Bool) (r : Bool) (w : World) (h : armadaref07_identifiers.f k a0 a1 = some r) :
  Calls Tryz.prog 74 #[.string a0, .bool a1] w fun e w' => e = .returned (.bool r) ∧ Below w.heap.size w w' := by
 have HB := Aside0.mk (Below.refl w.heap.size w)
 have H : ((armadaref05_Split.f k a0 46).bind fun t132 => (armadaref07_identifiers.l0 k a1 t132 0)) = some r := h
 clear h
 replace H := Option.bind_eq_some_iff.mp H
 obtain ⟨t132, A30, H⟩ := H
 replace H : (armadaref07_identifiers.l0 k a1 t132 0) = some r := H
 have A3 := Aside0.mk A30
 clear A30
 have H' := Aside0.mk H
 clear H
 go_enter Tryz.func74, Tryz.ntmps74
 go_wp2_with (first | ((with_reducible refine gate_callee (f := 34) rfl ?_); refine goesL_ (some 10) rfl rfl Tryz.func34 (by kernel_rfl) rfl #[.string a0, .int .u8 46] rfl (by (try simp only [List.map_toArray, List.map_cons, List.map_nil]); first | done | rfl | (simp only [List.length_drop, List.length_take]; rfl)) ?_; (with_reducible refine (armadaref05_Split.calls k a0 46 t132 _ A3.out).mono ?_); rintro e w4 ⟨v133, rfl, ho0, hb⟩; refine ⟨_, rfl, ?_⟩; have n0_ := Aside0.mk (Kd.R_lower ho0 (below_size (by repeat (first | (with_reducible first | exact HB.out | apply below_alloc | apply pw_below_drewN | apply below_drew1) | exact HB.out)))); have n1_ := Aside0.mk (below_step (by repeat (first | (with_reducible first | exact HB.out | apply below_alloc | apply pw_below_drewN | apply below_drew1) | exact HB.out)) hb); clear HB; have HO134 := n0_; have HB := n1_; clear n0_ n1_; (try clear hb); (try clear hb2); (try clear hk); (try clear hi); (try clear ho0)))
 go_loopg [6] k (fun kq v6 w' => ∃ (x6_1 : Int), v6 = .int .i64 x6_1 ∧ Aside0 (armadaref07_identifiers.l0 kq a1 t132 x6_1 = some r) ∧ Aside0 (kq ≤ k) ∧ Aside0 (Kd.R Kd.string 9 w' w.heap.size (fun _ => True) v133 t132) ∧ Aside0 (Below w.heap.size w w'))
 case atStart => exact ⟨(0), (by first | rfl | (simp; done) | (simp [*]; done) | (simp [isEmpty_bne]; done)), H', ⟨Nat.le_refl _⟩, ⟨by (with_reducible repeat (first | apply Kd.R_alloc | apply Kd.R_drewN | apply Kd.R_drew)); exact HO134.out⟩, ⟨by repeat (first | (with_reducible first | exact HB.out | apply below_alloc | apply pw_below_drewN | apply below_drew1) | exact HB.out)⟩⟩
 case round =>
  clear H'
  try clear p2
  try clear c3
  obtain ⟨x6_1, rfl, HA, HK1, HO_5, HB⟩ := hrel
  cases gk with
  | zero => exact absurd HA.out (by simp [armadaref07_identifiers.l0])
  | succ k1 =>
   have H := HA.out
   clear HA
   simp only [armadaref07_identifiers.l0] at H
   by_cases c5 : x6_1 < (t132.length : Int)
   ·
    rw [if_pos c5] at H
    have c5b0 : decide (x6_1 < (t132.length : Int)) = true := decide_eq_true c5
    clear c5
    have H' := Aside0.mk H
    clear H
    obtain ⟨Ao6, co6, eo6⟩ := Kd.R_slice HO_5.out
    subst eo6
    go_wp2
    go_loopg [7] k1 (fun kq v7 w' => ∃ (x7_2 : Int), v7 = .int .i64 x7_2 ∧ Aside0 (armadaref07_identifiers.l1 kq a1 t132 x6_1 x7_2 = some r) ∧ Aside0 (kq ≤ k1) ∧ Aside0 (Kd.R Kd.string 9 w' w.heap.size (fun _ => True) (.slice Ao6 t132.length co6) t132) ∧ Aside0 (Below w.heap.size w w'))
    case atStart => exact ⟨(0), (by first | rfl | (simp; done) | (simp [*]; done) | (simp [isEmpty_bne]; done)), H', ⟨Nat.le_refl _⟩, ⟨by (with_reducible repeat (first | apply Kd.R_alloc | apply Kd.R_drewN | apply Kd.R_drew)); exact HO_5.out⟩, ⟨by repeat (first | (with_reducible first | exact HB.out | apply below_alloc | apply pw_below_drewN | apply below_drew1) | exact HB.out)⟩⟩
    case round =>
     clear H'
     try clear p2
     try clear c3
     try clear c5
     try clear c5b0
     try clear p2
     obtain ⟨x7_2, rfl, HA, HK2, HO_5, HB⟩ := hrel
     cases gk with
     | zero => exact absurd HA.out (by simp [armadaref07_identifiers.l1])
     | succ k2 =>
      have H := HA.out
      clear HA
      simp only [armadaref07_identifiers.l1] at H
      by_cases c7 : 0 ≤ x6_1
      ·
       rw [if_pos c7] at H
       have c7b0 : decide (0 ≤ x6_1) = true := decide_eq_true c7
       clear c7
       by_cases c8 : x6_1 < (t132.length : Int)
       ·
        rw [if_pos c8] at H
        have c8b0 : decide (x6_1 < (t132.length : Int)) = true := decide_eq_true c8
        clear c8
        by_cases c9 : x7_2 < ((rdOf ByteArray.empty t132 x6_1).size : Int)
        ·
         rw [if_pos c9] at H
         have c9b0 : decide (x7_2 < ((rdOf ByteArray.empty t132 x6_1).size : Int)) = true := decide_eq_true c9
         clear c9
         by_cases c10 : 0 ≤ x7_2
         ·
          rw [if_pos c10] at H
          have c10b0 : decide (0 ≤ x7_2) = true := decide_eq_true c10
          clear c10
          by_cases c12 : (bt (rdOf ByteArray.empty t132 x6_1) x7_2) ≥ 97
          ·
           rw [if_pos c12] at H
           have c12b0 : decide (97 ≤ (bt (rdOf ByteArray.empty t132 x6_1) x7_2)) = true := decide_eq_true c12
           clear c12
           by_cases c13 : ((bt (rdOf ByteArray.empty t132 x6_1) x7_2) ≤ 122)
           ·
            rw [if_pos c13] at H
            have c13b0 : decide ((bt (rdOf ByteArray.empty t132 x6_1) x7_2) ≤ 122) = true := decide_eq_true c13
            clear c13
            have H' := Aside0.mk H
            clear H
            have p135 : 0 ≤ (x6_1 : Int) := of_decide_eq_true (by first | (with_reducible assumption) | assumption)
            have q135 : x6_1 < (t132.length : Int) := of_decide_eq_true (by first | (with_reducible assumption) | assumption)
            obtain ⟨ad135, e135, hx135_0⟩ := Kd.at_string (Kd.R_reads' HO_5.out).2.2 x6_1 p135 q135
            cases e135
            replace p135 := eq_true p135
            replace q135 := eq_true q135
            have p136 : 0 ≤ (x6_1 : Int) := of_decide_eq_true (by first | (with_reducible assumption) | assumption)
            have q136 : x6_1 < (t132.length : Int) := of_decide_eq_true (by first | (with_reducible assumption) | assumption)
            obtain ⟨ad136, e136, hx136_0⟩ := Kd.at_string (Kd.R_reads' HO_5.out).2.2 x6_1 p136 q136
            obtain rfl : ad135 = ad136 := (by injection e136)
            replace p136 := eq_true p136
            replace q136 := eq_true q136
            have p11 : 0 ≤ (x7_2 : Int) := of_decide_eq_true (by first | (with_reducible assumption) | assumption)
            have q11 : x7_2 < ((rdOf ByteArray.empty t132 x6_1).size : Int) := of_decide_eq_true (by first | (with_reducible assumption) | assumption)
            have hx11 := bt_at (rdOf ByteArray.empty t132 x6_1) x7_2
            replace p11 := eq_true p11
            replace q11 := eq_true q11
            go_wp2
            go_roundg k2
            case measure => have := HK1.out; have := HK2.out; omega
            case rel => exact ⟨(wrap64 (x7_2 + 1)), (by first | rfl | (simp; done) | (simp [*]; done) | (simp [isEmpty_bne]; done)), H', ⟨by have := HK1.out; have := HK2.out; omega⟩, ⟨by (with_reducible repeat (first | apply Kd.R_alloc | apply Kd.R_drewN | apply Kd.R_drew)); exact HO_5.out⟩, ⟨by repeat (first | (with_reducible first | exact HB.out | apply below_alloc | apply pw_below_drewN | apply below_drew1) | exact HB.out)⟩⟩
           ·
            rw [if_neg c13] at H
            have c13b0 : decide ((bt (rdOf ByteArray.empty t132 x6_1) x7_2) ≤ 122) = false := decide_eq_false c13
            clear c13
            by_cases c14 : (bt (rdOf ByteArray.empty t132 x6_1) x7_2) ≥ 65
            ·
             rw [if_pos c14] at H
             have c14b0 : decide (65 ≤ (bt (rdOf ByteArray.empty t132 x6_1) x7_2)) = true := decide_eq_true c14
             clear c14
             by_cases c15 : ((bt (rdOf ByteArray.empty t132 x6_1) x7_2) ≤ 90)
             ·
              rw [if_pos c15] at H
              have c15b0 : decide ((bt (rdOf ByteArray.empty t132 x6_1) x7_2) ≤ 90) = true := decide_eq_true c15
              clear c15
              have H' := Aside0.mk H
              clear H
              have p135 : 0 ≤ (x6_1 : Int) := of_decide_eq_true (by first | (with_reducible assumption) | assumption)
              have q135 : x6_1 < (t132.length : Int) := of_decide_eq_true (by first | (with_reducible assumption) | assumption)
              obtain ⟨ad135, e135, hx135_0⟩ := Kd.at_string (Kd.R_reads' HO_5.out).2.2 x6_1 p135 q135
              cases e135
              replace p135 := eq_true p135
              replace q135 := eq_true q135
              have p136 : 0 ≤ (x6_1 : Int) := of_decide_eq_true (by first | (with_reducible assumption) | assumption)
              have q136 : x6_1 < (t132.length : Int) := of_decide_eq_true (by first | (with_reducible assumption) | assumption)
              obtain ⟨ad136, e136, hx136_0⟩ := Kd.at_string (Kd.R_reads' HO_5.out).2.2 x6_1 p136 q136
              obtain rfl : ad135 = ad136 := (by injection e136)
              replace p136 := eq_true p136
              replace q136 := eq_true q136
              have p11 : 0 ≤ (x7_2 : Int) := of_decide_eq_true (by first | (with_reducible assumption) | assumption)
              have q11 : x7_2 < ((rdOf ByteArray.empty t132 x6_1).size : Int) := of_decide_eq_true (by first | (with_reducible assumption) | assumption)
              have hx11 := bt_at (rdOf ByteArray.empty t132 x6_1) x7_2
              replace p11 := eq_true p11
              replace q11 := eq_true q11
              go_wp2
              go_roundg k2
              case measure => have := HK1.out; have := HK2.out; omega
              case rel => exact ⟨(wrap64 (x7_2 + 1)), (by first | rfl | (simp; done) | (simp [*]; done) | (simp [isEmpty_bne]; done)), H', ⟨by have := HK1.out; have := HK2.out; omega⟩, ⟨by (with_reducible repeat (first | apply Kd.R_alloc | apply Kd.R_drewN | apply Kd.R_drew)); exact HO_5.out⟩, ⟨by repeat (first | (with_reducible first | exact HB.out | apply below_alloc | apply pw_below_drewN | apply below_drew1) | exact HB.out)⟩⟩
             ·
              rw [if_neg c15] at H
              have c15b0 : decide ((bt (rdOf ByteArray.empty t132 x6_1) x7_2) ≤ 90) = false := decide_eq_false c15
              clear c15
              by_cases c16 : (bt (rdOf ByteArray.empty t132 x6_1) x7_2) ≥ 48
              ·
               rw [if_pos c16] at H
               have c16b0 : decide (48 ≤ (bt (rdOf ByteArray.empty t132 x6_1) x7_2)) = true := decide_eq_true c16
               clear c16
               by_cases c17 : ((bt (rdOf ByteArray.empty t132 x6_1) x7_2) ≤ 57)
               ·
                rw [if_pos c17] at H
                have c17b0 : decide ((bt (rdOf ByteArray.empty t132 x6_1) x7_2) ≤ 57) = true := decide_eq_true c17
                clear c17
                have H' := Aside0.mk H
                clear H
                have p135 : 0 ≤ (x6_1 : Int) := of_decide_eq_true (by first | (with_reducible assumption) | assumption)
                have q135 : x6_1 < (t132.length : Int) := of_decide_eq_true (by first | (with_reducible assumption) | assumption)
                obtain ⟨ad135, e135, hx135_0⟩ := Kd.at_string (Kd.R_reads' HO_5.out).2.2 x6_1 p135 q135
                cases e135
                replace p135 := eq_true p135
                replace q135 := eq_true q135
                have p136 : 0 ≤ (x6_1 : Int) := of_decide_eq_true (by first | (with_reducible assumption) | assumption)
                have q136 : x6_1 < (t132.length : Int) := of_decide_eq_true (by first | (with_reducible assumption) | assumption)
                obtain ⟨ad136, e136, hx136_0⟩ := Kd.at_string (Kd.R_reads' HO_5.out).2.2 x6_1 p136 q136
                obtain rfl : ad135 = ad136 := (by injection e136)
                replace p136 := eq_true p136
                replace q136 := eq_true q136
                have p11 : 0 ≤ (x7_2 : Int) := of_decide_eq_true (by first | (with_reducible assumption) | assumption)
                have q11 : x7_2 < ((rdOf ByteArray.empty t132 x6_1).size : Int) := of_decide_eq_true (by first | (with_reducible assumption) | assumption)
                have hx11 := bt_at (rdOf ByteArray.empty t132 x6_1) x7_2
                replace p11 := eq_true p11
                replace q11 := eq_true q11
                go_wp2
                go_roundg k2
                case measure => have := HK1.out; have := HK2.out; omega
                case rel => exact ⟨(wrap64 (x7_2 + 1)), (by first | rfl | (simp; done) | (simp [*]; done) | (simp [isEmpty_bne]; done)), H', ⟨by have := HK1.out; have := HK2.out; omega⟩, ⟨by (with_reducible repeat (first | apply Kd.R_alloc | apply Kd.R_drewN | apply Kd.R_drew)); exact HO_5.out⟩, ⟨by repeat (first | (with_reducible first | exact HB.out | apply below_alloc | apply pw_below_drewN | apply below_drew1) | exact HB.out)⟩⟩
               ·
                rw [if_neg c17] at H
                have c17b0 : decide ((bt (rdOf ByteArray.empty t132 x6_1) x7_2) ≤ 57) = false := decide_eq_false c17
                clear c17
                by_cases c18 : (bt (rdOf ByteArray.empty t132 x6_1) x7_2) = 45
                ·
                 rw [if_pos c18] at H
                 have c18b0 : ((bt (rdOf ByteArray.empty t132 x6_1) x7_2) == 45) = true := beq_iff_eq.mpr c18
                 have c18b1 : ((bt (rdOf ByteArray.empty t132 x6_1) x7_2) != 45) = false := bne_eq_false_iff_eq.mpr c18
                 clear c18
                 have H' := Aside0.mk H
                 clear H
                 have p135 : 0 ≤ (x6_1 : Int) := of_decide_eq_true (by first | (with_reducible assumption) | assumption)
                 have q135 : x6_1 < (t132.length : Int) := of_decide_eq_true (by first | (with_reducible assumption) | assumption)
                 obtain ⟨ad135, e135, hx135_0⟩ := Kd.at_string (Kd.R_reads' HO_5.out).2.2 x6_1 p135 q135
                 cases e135
                 replace p135 := eq_true p135
                 replace q135 := eq_true q135
                 have p136 : 0 ≤ (x6_1 : Int) := of_decide_eq_true (by first | (with_reducible assumption) | assumption)
                 have q136 : x6_1 < (t132.length : Int) := of_decide_eq_true (by first | (with_reducible assumption) | assumption)
                 obtain ⟨ad136, e136, hx136_0⟩ := Kd.at_string (Kd.R_reads' HO_5.out).2.2 x6_1 p136 q136
                 obtain rfl : ad135 = ad136 := (by injection e136)
                 replace p136 := eq_true p136
                 replace q136 := eq_true q136
                 have p11 : 0 ≤ (x7_2 : Int) := of_decide_eq_true (by first | (with_reducible assumption) | assumption)
                 have q11 : x7_2 < ((rdOf ByteArray.empty t132 x6_1).size : Int) := of_decide_eq_true (by first | (with_reducible assumption) | assumption)
                 have hx11 := bt_at (rdOf ByteArray.empty t132 x6_1) x7_2
                 replace p11 := eq_true p11
                 replace q11 := eq_true q11
                 go_wp2
                 go_roundg k2
                 case measure => have := HK1.out; have := HK2.out; omega
                 case rel => exact ⟨(wrap64 (x7_2 + 1)), (by first | rfl | (simp; done) | (simp [*]; done) | (simp [isEmpty_bne]; done)), H', ⟨by have := HK1.out; have := HK2.out; omega⟩, ⟨by (with_reducible repeat (first | apply Kd.R_alloc | apply Kd.R_drewN | apply Kd.R_drew)); exact HO_5.out⟩, ⟨by repeat (first | (with_reducible first | exact HB.out | apply below_alloc | apply pw_below_drewN | apply below_drew1) | exact HB.out)⟩⟩
                ·
                 rw [if_neg c18] at H
                 have c18b0 : ((bt (rdOf ByteArray.empty t132 x6_1) x7_2) == 45) = false := beq_eq_false_iff_ne.mpr c18
                 have c18b1 : ((bt (rdOf ByteArray.empty t132 x6_1) x7_2) != 45) = true := bne_iff_ne.mpr c18
                 obtain rfl := Option.some.inj H
                 have p135 : 0 ≤ (x6_1 : Int) := of_decide_eq_true (by first | (with_reducible assumption) | assumption)
                 have q135 : x6_1 < (t132.length : Int) := of_decide_eq_true (by first | (with_reducible assumption) | assumption)
                 obtain ⟨ad135, e135, hx135_0⟩ := Kd.at_string (Kd.R_reads' HO_5.out).2.2 x6_1 p135 q135
                 cases e135
                 replace p135 := eq_true p135
                 replace q135 := eq_true q135
                 have p136 : 0 ≤ (x6_1 : Int) := of_decide_eq_true (by first | (with_reducible assumption) | assumption)
                 have q136 : x6_1 < (t132.length : Int) := of_decide_eq_true (by first | (with_reducible assumption) | assumption)
                 obtain ⟨ad136, e136, hx136_0⟩ := Kd.at_string (Kd.R_reads' HO_5.out).2.2 x6_1 p136 q136
                 obtain rfl : ad135 = ad136 := (by injection e136)
                 replace p136 := eq_true p136
                 replace q136 := eq_true q136
                 have p11 : 0 ≤ (x7_2 : Int) := of_decide_eq_true (by first | (with_reducible assumption) | assumption)
                 have q11 : x7_2 < ((rdOf ByteArray.empty t132 x6_1).size : Int) := of_decide_eq_true (by first | (with_reducible assumption) | assumption)
                 have hx11 := bt_at (rdOf ByteArray.empty t132 x6_1) x7_2
                 replace p11 := eq_true p11
                 replace q11 := eq_true q11
                 go_wp2
                 go_ret
                 exact ⟨by first | rfl | (simp [errW_none, errW_some] <;> rfl) | (simp [*, errW_none, errW_some] <;> rfl) | (simp [isEmpty_bne]; done), by repeat (first | (with_reducible first | exact HB.out | apply below_alloc | apply pw_below_drewN | apply below_drew1) | exact HB.out)⟩
              ·
               rw [if_neg c16] at H
               have c16b0 : decide (48 ≤ (bt (rdOf ByteArray.empty t132 x6_1) x7_2)) = false := decide_eq_false c16
               clear c16
               by_cases c19 : (bt (rdOf ByteArray.empty t132 x6_1) x7_2) = 45
               ·
                rw [if_pos c19] at H
                have c19b0 : ((bt (rdOf ByteArray.empty t132 x6_1) x7_2) == 45) = true := beq_iff_eq.mpr c19
                have c19b1 : ((bt (rdOf ByteArray.empty t132 x6_1) x7_2) != 45) = false := bne_eq_false_iff_eq.mpr c19
                clear c19
                have H' := Aside0.mk H
                clear H
                have p135 : 0 ≤ (x6_1 : Int) := of_decide_eq_true (by first | (with_reducible assumption) | assumption)
                have q135 : x6_1 < (t132.length : Int) := of_decide_eq_true (by first | (with_reducible assumption) | assumption)
                obtain ⟨ad135, e135, hx135_0⟩ := Kd.at_string (Kd.R_reads' HO_5.out).2.2 x6_1 p135 q135
                cases e135
                replace p135 := eq_true p135
                replace q135 := eq_true q135
                have p136 : 0 ≤ (x6_1 : Int) := of_decide_eq_true (by first | (with_reducible assumption) | assumption)
                have q136 : x6_1 < (t132.length : Int) := of_decide_eq_true (by first | (with_reducible assumption) | assumption)
                obtain ⟨ad136, e136, hx136_0⟩ := Kd.at_string (Kd.R_reads' HO_5.out).2.2 x6_1 p136 q136
                obtain rfl : ad135 = ad136 := (by injection e136)
                replace p136 := eq_true p136
                replace q136 := eq_true q136
                have p11 : 0 ≤ (x7_2 : Int) := of_decide_eq_true (by first | (with_reducible assumption) | assumption)
                have q11 : x7_2 < ((rdOf ByteArray.empty t132 x6_1).size : Int) := of_decide_eq_true (by first | (with_reducible assumption) | assumption)
                have hx11 := bt_at (rdOf ByteArray.empty t132 x6_1) x7_2
                replace p11 := eq_true p11
                replace q11 := eq_true q11
                go_wp2
                go_roundg k2
                case measure => have := HK1.out; have := HK2.out; omega
                case rel => exact ⟨(wrap64 (x7_2 + 1)), (by first | rfl | (simp; done) | (simp [*]; done) | (simp [isEmpty_bne]; done)), H', ⟨by have := HK1.out; have := HK2.out; omega⟩, ⟨by (with_reducible repeat (first | apply Kd.R_alloc | apply Kd.R_drewN | apply Kd.R_drew)); exact HO_5.out⟩, ⟨by repeat (first | (with_reducible first | exact HB.out | apply below_alloc | apply pw_below_drewN | apply below_drew1) | exact HB.out)⟩⟩
               ·
                rw [if_neg c19] at H
                have c19b0 : ((bt (rdOf ByteArray.empty t132 x6_1) x7_2) == 45) = false := beq_eq_false_iff_ne.mpr c19
                have c19b1 : ((bt (rdOf ByteArray.empty t132 x6_1) x7_2) != 45) = true := bne_iff_ne.mpr c19
                obtain rfl := Option.some.inj H
                have p135 : 0 ≤ (x6_1 : Int) := of_decide_eq_true (by first | (with_reducible assumption) | assumption)
                have q135 : x6_1 < (t132.length : Int) := of_decide_eq_true (by first | (with_reducible assumption) | assumption)
                obtain ⟨ad135, e135, hx135_0⟩ := Kd.at_string (Kd.R_reads' HO_5.out).2.2 x6_1 p135 q135
                cases e135
                replace p135 := eq_true p135
                replace q135 := eq_true q135
                have p136 : 0 ≤ (x6_1 : Int) := of_decide_eq_true (by first | (with_reducible assumption) | assumption)
                have q136 : x6_1 < (t132.length : Int) := of_decide_eq_true (by first | (with_reducible assumption) | assumption)
                obtain ⟨ad136, e136, hx136_0⟩ := Kd.at_string (Kd.R_reads' HO_5.out).2.2 x6_1 p136 q136
                obtain rfl : ad135 = ad136 := (by injection e136)
                replace p136 := eq_true p136
                replace q136 := eq_true q136
                have p11 : 0 ≤ (x7_2 : Int) := of_decide_eq_true (by first | (with_reducible assumption) | assumption)
                have q11 : x7_2 < ((rdOf ByteArray.empty t132 x6_1).size : Int) := of_decide_eq_true (by first | (with_reducible assumption) | assumption)
                have hx11 := bt_at (rdOf ByteArray.empty t132 x6_1) x7_2
                replace p11 := eq_true p11
                replace q11 := eq_true q11
                go_wp2
                go_ret
                exact ⟨by first | rfl | (simp [errW_none, errW_some] <;> rfl) | (simp [*, errW_none, errW_some] <;> rfl) | (simp [isEmpty_bne]; done), by repeat (first | (with_reducible first | exact HB.out | apply below_alloc | apply pw_below_drewN | apply below_drew1) | exact HB.out)⟩
            ·
             rw [if_neg c14] at H
             have c14b0 : decide (65 ≤ (bt (rdOf ByteArray.empty t132 x6_1) x7_2)) = false := decide_eq_false c14
             clear c14
             by_cases c20 : (bt (rdOf ByteArray.empty t132 x6_1) x7_2) ≥ 48
             ·
              rw [if_pos c20] at H
              have c20b0 : decide (48 ≤ (bt (rdOf ByteArray.empty t132 x6_1) x7_2)) = true := decide_eq_true c20
              clear c20
              by_cases c21 : ((bt (rdOf ByteArray.empty t132 x6_1) x7_2) ≤ 57)
              ·
               rw [if_pos c21] at H
               have c21b0 : decide ((bt (rdOf ByteArray.empty t132 x6_1) x7_2) ≤ 57) = true := decide_eq_true c21
               clear c21
               have H' := Aside0.mk H
               clear H
               have p135 : 0 ≤ (x6_1 : Int) := of_decide_eq_true (by first | (with_reducible assumption) | assumption)
               have q135 : x6_1 < (t132.length : Int) := of_decide_eq_true (by first | (with_reducible assumption) | assumption)
               obtain ⟨ad135, e135, hx135_0⟩ := Kd.at_string (Kd.R_reads' HO_5.out).2.2 x6_1 p135 q135
               cases e135
               replace p135 := eq_true p135
               replace q135 := eq_true q135
               have p136 : 0 ≤ (x6_1 : Int) := of_decide_eq_true (by first | (with_reducible assumption) | assumption)
               have q136 : x6_1 < (t132.length : Int) := of_decide_eq_true (by first | (with_reducible assumption) | assumption)
               obtain ⟨ad136, e136, hx136_0⟩ := Kd.at_string (Kd.R_reads' HO_5.out).2.2 x6_1 p136 q136
               obtain rfl : ad135 = ad136 := (by injection e136)
               replace p136 := eq_true p136
               replace q136 := eq_true q136
               have p11 : 0 ≤ (x7_2 : Int) := of_decide_eq_true (by first | (with_reducible assumption) | assumption)
               have q11 : x7_2 < ((rdOf ByteArray.empty t132 x6_1).size : Int) := of_decide_eq_true (by first | (with_reducible assumption) | assumption)
               have hx11 := bt_at (rdOf ByteArray.empty t132 x6_1) x7_2
               replace p11 := eq_true p11
               replace q11 := eq_true q11
               go_wp2
               go_roundg k2
               case measure => have := HK1.out; have := HK2.out; omega
               case rel => exact ⟨(wrap64 (x7_2 + 1)), (by first | rfl | (simp; done) | (simp [*]; done) | (simp [isEmpty_bne]; done)), H', ⟨by have := HK1.out; have := HK2.out; omega⟩, ⟨by (with_reducible repeat (first | apply Kd.R_alloc | apply Kd.R_drewN | apply Kd.R_drew)); exact HO_5.out⟩, ⟨by repeat (first | (with_reducible first | exact HB.out | apply below_alloc | apply pw_below_drewN | apply below_drew1) | exact HB.out)⟩⟩
              ·
               rw [if_neg c21] at H
               have c21b0 : decide ((bt (rdOf ByteArray.empty t132 x6_1) x7_2) ≤ 57) = false := decide_eq_false c21
               clear c21
               by_cases c22 : (bt (rdOf ByteArray.empty t132 x6_1) x7_2) = 45
               ·
                rw [if_pos c22] at H
                have c22b0 : ((bt (rdOf ByteArray.empty t132 x6_1) x7_2) == 45) = true := beq_iff_eq.mpr c22
                have c22b1 : ((bt (rdOf ByteArray.empty t132 x6_1) x7_2) != 45) = false := bne_eq_false_iff_eq.mpr c22
                clear c22
                have H' := Aside0.mk H
                clear H
                have p135 : 0 ≤ (x6_1 : Int) := of_decide_eq_true (by first | (with_reducible assumption) | assumption)
                have q135 : x6_1 < (t132.length : Int) := of_decide_eq_true (by first | (with_reducible assumption) | assumption)
                obtain ⟨ad135, e135, hx135_0⟩ := Kd.at_string (Kd.R_reads' HO_5.out).2.2 x6_1 p135 q135
                cases e135
                replace p135 := eq_true p135
                replace q135 := eq_true q135
                have p136 : 0 ≤ (x6_1 : Int) := of_decide_eq_true (by first | (with_reducible assumption) | assumption)
                have q136 : x6_1 < (t132.length : Int) := of_decide_eq_true (by first | (with_reducible assumption) | assumption)
                obtain ⟨ad136, e136, hx136_0⟩ := Kd.at_string (Kd.R_reads' HO_5.out).2.2 x6_1 p136 q136
                obtain rfl : ad135 = ad136 := (by injection e136)
                replace p136 := eq_true p136
                replace q136 := eq_true q136
                have p11 : 0 ≤ (x7_2 : Int) := of_decide_eq_true (by first | (with_reducible assumption) | assumption)
                have q11 : x7_2 < ((rdOf ByteArray.empty t132 x6_1).size : Int) := of_decide_eq_true (by first | (with_reducible assumption) | assumption)
                have hx11 := bt_at (rdOf ByteArray.empty t132 x6_1) x7_2
                replace p11 := eq_true p11
                replace q11 := eq_true q11
                go_wp2
                go_roundg k2
                case measure => have := HK1.out; have := HK2.out; omega
                case rel => exact ⟨(wrap64 (x7_2 + 1)), (by first | rfl | (simp; done) | (simp [*]; done) | (simp [isEmpty_bne]; done)), H', ⟨by have := HK1.out; have := HK2.out; omega⟩, ⟨by (with_reducible repeat (first | apply Kd.R_alloc | apply Kd.R_drewN | apply Kd.R_drew)); exact HO_5.out⟩, ⟨by repeat (first | (with_reducible first | exact HB.out | apply below_alloc | apply pw_below_drewN | apply below_drew1) | exact HB.out)⟩⟩
               ·
                rw [if_neg c22] at H
                have c22b0 : ((bt (rdOf ByteArray.empty t132 x6_1) x7_2) == 45) = false := beq_eq_false_iff_ne.mpr c22
                have c22b1 : ((bt (rdOf ByteArray.empty t132 x6_1) x7_2) != 45) = true := bne_iff_ne.mpr c22
                obtain rfl := Option.some.inj H
                have p135 : 0 ≤ (x6_1 : Int) := of_decide_eq_true (by first | (with_reducible assumption) | assumption)
                have q135 : x6_1 < (t132.length : Int) := of_decide_eq_true (by first | (with_reducible assumption) | assumption)
                obtain ⟨ad135, e135, hx135_0⟩ := Kd.at_string (Kd.R_reads' HO_5.out).2.2 x6_1 p135 q135
                cases e135
                replace p135 := eq_true p135
                replace q135 := eq_true q135
                have p136 : 0 ≤ (x6_1 : Int) := of_decide_eq_true (by first | (with_reducible assumption) | assumption)
                have q136 : x6_1 < (t132.length : Int) := of_decide_eq_true (by first | (with_reducible assumption) | assumption)
                obtain ⟨ad136, e136, hx136_0⟩ := Kd.at_string (Kd.R_reads' HO_5.out).2.2 x6_1 p136 q136
                obtain rfl : ad135 = ad136 := (by injection e136)
                replace p136 := eq_true p136
                replace q136 := eq_true q136
                have p11 : 0 ≤ (x7_2 : Int) := of_decide_eq_true (by first | (with_reducible assumption) | assumption)
                have q11 : x7_2 < ((rdOf ByteArray.empty t132 x6_1).size : Int) := of_decide_eq_true (by first | (with_reducible assumption) | assumption)
                have hx11 := bt_at (rdOf ByteArray.empty t132 x6_1) x7_2
                replace p11 := eq_true p11
                replace q11 := eq_true q11
                go_wp2
                go_ret
                exact ⟨by first | rfl | (simp [errW_none, errW_some] <;> rfl) | (simp [*, errW_none, errW_some] <;> rfl) | (simp [isEmpty_bne]; done), by repeat (first | (with_reducible first | exact HB.out | apply below_alloc | apply pw_below_drewN | apply below_drew1) | exact HB.out)⟩
             ·
              rw [if_neg c20] at H
              have c20b0 : decide (48 ≤ (bt (rdOf ByteArray.empty t132 x6_1) x7_2)) = false := decide_eq_false c20
              clear c20
              by_cases c23 : (bt (rdOf ByteArray.empty t132 x6_1) x7_2) = 45
              ·
               rw [if_pos c23] at H
               have c23b0 : ((bt (rdOf ByteArray.empty t132 x6_1) x7_2) == 45) = true := beq_iff_eq.mpr c23
               have c23b1 : ((bt (rdOf ByteArray.empty t132 x6_1) x7_2) != 45) = false := bne_eq_false_iff_eq.mpr c23
               clear c23
               have H' := Aside0.mk H
               clear H
               have p135 : 0 ≤ (x6_1 : Int) := of_decide_eq_true (by first | (with_reducible assumption) | assumption)
               have q135 : x6_1 < (t132.length : Int) := of_decide_eq_true (by first | (with_reducible assumption) | assumption)
               obtain ⟨ad135, e135, hx135_0⟩ := Kd.at_string (Kd.R_reads' HO_5.out).2.2 x6_1 p135 q135
               cases e135
               replace p135 := eq_true p135
               replace q135 := eq_true q135
               have p136 : 0 ≤ (x6_1 : Int) := of_decide_eq_true (by first | (with_reducible assumption) | assumption)
               have q136 : x6_1 < (t132.length : Int) := of_decide_eq_true (by first | (with_reducible assumption) | assumption)
               obtain ⟨ad136, e136, hx136_0⟩ := Kd.at_string (Kd.R_reads' HO_5.out).2.2 x6_1 p136 q136
               obtain rfl : ad135 = ad136 := (by injection e136)
               replace p136 := eq_true p136
               replace q136 := eq_true q136
               have p11 : 0 ≤ (x7_2 : Int) := of_decide_eq_true (by first | (with_reducible assumption) | assumption)
               have q11 : x7_2 < ((rdOf ByteArray.empty t132 x6_1).size : Int) := of_decide_eq_true (by first | (with_reducible assumption) | assumption)
               have hx11 := bt_at (rdOf ByteArray.empty t132 x6_1) x7_2
               replace p11 := eq_true p11
               replace q11 := eq_true q11
               go_wp2
               go_roundg k2
               case measure => have := HK1.out; have := HK2.out; omega
               case rel => exact ⟨(wrap64 (x7_2 + 1)), (by first | rfl | (simp; done) | (simp [*]; done) | (simp [isEmpty_bne]; done)), H', ⟨by have := HK1.out; have := HK2.out; omega⟩, ⟨by (with_reducible repeat (first | apply Kd.R_alloc | apply Kd.R_drewN | apply Kd.R_drew)); exact HO_5.out⟩, ⟨by repeat (first | (with_reducible first | exact HB.out | apply below_alloc | apply pw_below_drewN | apply below_drew1) | exact HB.out)⟩⟩
              ·
               rw [if_neg c23] at H
               have c23b0 : ((bt (rdOf ByteArray.empty t132 x6_1) x7_2) == 45) = false := beq_eq_false_iff_ne.mpr c23
               have c23b1 : ((bt (rdOf ByteArray.empty t132 x6_1) x7_2) != 45) = true := bne_iff_ne.mpr c23
               obtain rfl := Option.some.inj H
               have p135 : 0 ≤ (x6_1 : Int) := of_decide_eq_true (by first | (with_reducible assumption) | assumption)
               have q135 : x6_1 < (t132.length : Int) := of_decide_eq_true (by first | (with_reducible assumption) | assumption)
               obtain ⟨ad135, e135, hx135_0⟩ := Kd.at_string (Kd.R_reads' HO_5.out).2.2 x6_1 p135 q135
               cases e135
               replace p135 := eq_true p135
               replace q135 := eq_true q135
               have p136 : 0 ≤ (x6_1 : Int) := of_decide_eq_true (by first | (with_reducible assumption) | assumption)
               have q136 : x6_1 < (t132.length : Int) := of_decide_eq_true (by first | (with_reducible assumption) | assumption)
               obtain ⟨ad136, e136, hx136_0⟩ := Kd.at_string (Kd.R_reads' HO_5.out).2.2 x6_1 p136 q136
               obtain rfl : ad135 = ad136 := (by injection e136)
               replace p136 := eq_true p136
               replace q136 := eq_true q136
               have p11 : 0 ≤ (x7_2 : Int) := of_decide_eq_true (by first | (with_reducible assumption) | assumption)
               have q11 : x7_2 < ((rdOf ByteArray.empty t132 x6_1).size : Int) := of_decide_eq_true (by first | (with_reducible assumption) | assumption)
               have hx11 := bt_at (rdOf ByteArray.empty t132 x6_1) x7_2
               replace p11 := eq_true p11
               replace q11 := eq_true q11
               go_wp2
               go_ret
               exact ⟨by first | rfl | (simp [errW_none, errW_some] <;> rfl) | (simp [*, errW_none, errW_some] <;> rfl) | (simp [isEmpty_bne]; done), by repeat (first | (with_reducible first | exact HB.out | apply below_alloc | apply pw_below_drewN | apply below_drew1) | exact HB.out)⟩
          ·
           rw [if_neg c12] at H
           have c12b0 : decide (97 ≤ (bt (rdOf ByteArray.empty t132 x6_1) x7_2)) = false := decide_eq_false c12
           clear c12
           by_cases c24 : (bt (rdOf ByteArray.empty t132 x6_1) x7_2) ≥ 65
           ·
            rw [if_pos c24] at H
            have c24b0 : decide (65 ≤ (bt (rdOf ByteArray.empty t132 x6_1) x7_2)) = true := decide_eq_true c24
            clear c24
            by_cases c25 : ((bt (rdOf ByteArray.empty t132 x6_1) x7_2) ≤ 90)
            ·
             rw [if_pos c25] at H
             have c25b0 : decide ((bt (rdOf ByteArray.empty t132 x6_1) x7_2) ≤ 90) = true := decide_eq_true c25
             clear c25
             have H' := Aside0.mk H
             clear H
             have p135 : 0 ≤ (x6_1 : Int) := of_decide_eq_true (by first | (with_reducible assumption) | assumption)
             have q135 : x6_1 < (t132.length : Int) := of_decide_eq_true (by first | (with_reducible assumption) | assumption)
             obtain ⟨ad135, e135, hx135_0⟩ := Kd.at_string (Kd.R_reads' HO_5.out).2.2 x6_1 p135 q135
             cases e135
             replace p135 := eq_true p135
             replace q135 := eq_true q135
             have p136 : 0 ≤ (x6_1 : Int) := of_decide_eq_true (by first | (with_reducible assumption) | assumption)
             have q136 : x6_1 < (t132.length : Int) := of_decide_eq_true (by first | (with_reducible assumption) | assumption)
             obtain ⟨ad136, e136, hx136_0⟩ := Kd.at_string (Kd.R_reads' HO_5.out).2.2 x6_1 p136 q136
             obtain rfl : ad135 = ad136 := (by injection e136)
             replace p136 := eq_true p136
             replace q136 := eq_true q136
             have p11 : 0 ≤ (x7_2 : Int) := of_decide_eq_true (by first | (with_reducible assumption) | assumption)
             have q11 : x7_2 < ((rdOf ByteArray.empty t132 x6_1).size : Int) := of_decide_eq_true (by first | (with_reducible assumption) | assumption)
             have hx11 := bt_at (rdOf ByteArray.empty t132 x6_1) x7_2
             replace p11 := eq_true p11
             replace q11 := eq_true q11
             go_wp2
             go_roundg k2
             case measure => have := HK1.out; have := HK2.out; omega
             case rel => exact ⟨(wrap64 (x7_2 + 1)), (by first | rfl | (simp; done) | (simp [*]; done) | (simp [isEmpty_bne]; done)), H', ⟨by have := HK1.out; have := HK2.out; omega⟩, ⟨by (with_reducible repeat (first | apply Kd.R_alloc | apply Kd.R_drewN | apply Kd.R_drew)); exact HO_5.out⟩, ⟨by repeat (first | (with_reducible first | exact HB.out | apply below_alloc | apply pw_below_drewN | apply below_drew1) | exact HB.out)⟩⟩
            ·
             rw [if_neg c25] at H
             have c25b0 : decide ((bt (rdOf ByteArray.empty t132 x6_1) x7_2) ≤ 90) = false := decide_eq_false c25
             clear c25
             by_cases c26 : (bt (rdOf ByteArray.empty t132 x6_1) x7_2) ≥ 48
             ·
              rw [if_pos c26] at H
              have c26b0 : decide (48 ≤ (bt (rdOf ByteArray.empty t132 x6_1) x7_2)) = true := decide_eq_true c26
              clear c26
              by_cases c27 : ((bt (rdOf ByteArray.empty t132 x6_1) x7_2) ≤ 57)
              ·
               rw [if_pos c27] at H
               have c27b0 : decide ((bt (rdOf ByteArray.empty t132 x6_1) x7_2) ≤ 57) = true := decide_eq_true c27
               clear c27
               have H' := Aside0.mk H
               clear H
               have p135 : 0 ≤ (x6_1 : Int) := of_decide_eq_true (by first | (with_reducible assumption) | assumption)
               have q135 : x6_1 < (t132.length : Int) := of_decide_eq_true (by first | (with_reducible assumption) | assumption)
               obtain ⟨ad135, e135, hx135_0⟩ := Kd.at_string (Kd.R_reads' HO_5.out).2.2 x6_1 p135 q135
               cases e135
               replace p135 := eq_true p135
               replace q135 := eq_true q135
               have p136 : 0 ≤ (x6_1 : Int) := of_decide_eq_true (by first | (with_reducible assumption) | assumption)
               have q136 : x6_1 < (t132.length : Int) := of_decide_eq_true (by first | (with_reducible assumption) | assumption)
               obtain ⟨ad136, e136, hx136_0⟩ := Kd.at_string (Kd.R_reads' HO_5.out).2.2 x6_1 p136 q136
               obtain rfl : ad135 = ad136 := (by injection e136)
               replace p136 := eq_true p136
               replace q136 := eq_true q136
               have p11 : 0 ≤ (x7_2 : Int) := of_decide_eq_true (by first | (with_reducible assumption) | assumption)
               have q11 : x7_2 < ((rdOf ByteArray.empty t132 x6_1).size : Int) := of_decide_eq_true (by first | (with_reducible assumption) | assumption)
               have hx11 := bt_at (rdOf ByteArray.empty t132 x6_1) x7_2
               replace p11 := eq_true p11
               replace q11 := eq_true q11
               go_wp2
               go_roundg k2
               case measure => have := HK1.out; have := HK2.out; omega
               case rel => exact ⟨(wrap64 (x7_2 + 1)), (by first | rfl | (simp; done) | (simp [*]; done) | (simp [isEmpty_bne]; done)), H', ⟨by have := HK1.out; have := HK2.out; omega⟩, ⟨by (with_reducible repeat (first | apply Kd.R_alloc | apply Kd.R_drewN | apply Kd.R_drew)); exact HO_5.out⟩, ⟨by repeat (first | (with_reducible first | exact HB.out | apply below_alloc | apply pw_below_drewN | apply below_drew1) | exact HB.out)⟩⟩
              ·
               rw [if_neg c27] at H
               have c27b0 : decide ((bt (rdOf ByteArray.empty t132 x6_1) x7_2) ≤ 57) = false := decide_eq_false c27
               clear c27
               by_cases c28 : (bt (rdOf ByteArray.empty t132 x6_1) x7_2) = 45
               ·
                rw [if_pos c28] at H
                have c28b0 : ((bt (rdOf ByteArray.empty t132 x6_1) x7_2) == 45) = true := beq_iff_eq.mpr c28
                have c28b1 : ((bt (rdOf ByteArray.empty t132 x6_1) x7_2) != 45) = false := bne_eq_false_iff_eq.mpr c28
                clear c28
                have H' := Aside0.mk H
                clear H
                have p135 : 0 ≤ (x6_1 : Int) := of_decide_eq_true (by first | (with_reducible assumption) | assumption)
                have q135 : x6_1 < (t132.length : Int) := of_decide_eq_true (by first | (with_reducible assumption) | assumption)
                obtain ⟨ad135, e135, hx135_0⟩ := Kd.at_string (Kd.R_reads' HO_5.out).2.2 x6_1 p135 q135
                cases e135
                replace p135 := eq_true p135
                replace q135 := eq_true q135
                have p136 : 0 ≤ (x6_1 : Int) := of_decide_eq_true (by first | (with_reducible assumption) | assumption)
                have q136 : x6_1 < (t132.length : Int) := of_decide_eq_true (by first | (with_reducible assumption) | assumption)
                obtain ⟨ad136, e136, hx136_0⟩ := Kd.at_string (Kd.R_reads' HO_5.out).2.2 x6_1 p136 q136
                obtain rfl : ad135 = ad136 := (by injection e136)
                replace p136 := eq_true p136
                replace q136 := eq_true q136
                have p11 : 0 ≤ (x7_2 : Int) := of_decide_eq_true (by first | (with_reducible assumption) | assumption)
                have q11 : x7_2 < ((rdOf ByteArray.empty t132 x6_1).size : Int) := of_decide_eq_true (by first | (with_reducible assumption) | assumption)
                have hx11 := bt_at (rdOf ByteArray.empty t132 x6_1) x7_2
                replace p11 := eq_true p11
                replace q11 := eq_true q11
                go_wp2
                go_roundg k2
                case measure => have := HK1.out; have := HK2.out; omega
                case rel => exact ⟨(wrap64 (x7_2 + 1)), (by first | rfl | (simp; done) | (simp [*]; done) | (simp [isEmpty_bne]; done)), H', ⟨by have := HK1.out; have := HK2.out; omega⟩, ⟨by (with_reducible repeat (first | apply Kd.R_alloc | apply Kd.R_drewN | apply Kd.R_drew)); exact HO_5.out⟩, ⟨by repeat (first | (with_reducible first | exact HB.out | apply below_alloc | apply pw_below_drewN | apply below_drew1) | exact HB.out)⟩⟩
               ·
                rw [if_neg c28] at H
                have c28b0 : ((bt (rdOf ByteArray.empty t132 x6_1) x7_2) == 45) = false := beq_eq_false_iff_ne.mpr c28
                have c28b1 : ((bt (rdOf ByteArray.empty t132 x6_1) x7_2) != 45) = true := bne_iff_ne.mpr c28
                obtain rfl := Option.some.inj H
                have p135 : 0 ≤ (x6_1 : Int) := of_decide_eq_true (by first | (with_reducible assumption) | assumption)
                have q135 : x6_1 < (t132.length : Int) := of_decide_eq_true (by first | (with_reducible assumption) | assumption)
                obtain ⟨ad135, e135, hx135_0⟩ := Kd.at_string (Kd.R_reads' HO_5.out).2.2 x6_1 p135 q135
                cases e135
                replace p135 := eq_true p135
                replace q135 := eq_true q135
                have p136 : 0 ≤ (x6_1 : Int) := of_decide_eq_true (by first | (with_reducible assumption) | assumption)
                have q136 : x6_1 < (t132.length : Int) := of_decide_eq_true (by first | (with_reducible assumption) | assumption)
                obtain ⟨ad136, e136, hx136_0⟩ := Kd.at_string (Kd.R_reads' HO_5.out).2.2 x6_1 p136 q136
                obtain rfl : ad135 = ad136 := (by injection e136)
                replace p136 := eq_true p136
                replace q136 := eq_true q136
                have p11 : 0 ≤ (x7_2 : Int) := of_decide_eq_true (by first | (with_reducible assumption) | assumption)
                have q11 : x7_2 < ((rdOf ByteArray.empty t132 x6_1).size : Int) := of_decide_eq_true (by first | (with_reducible assumption) | assumption)
                have hx11 := bt_at (rdOf ByteArray.empty t132 x6_1) x7_2
                replace p11 := eq_true p11
                replace q11 := eq_true q11
                go_wp2
                go_ret
                exact ⟨by first | rfl | (simp [errW_none, errW_some] <;> rfl) | (simp [*, errW_none, errW_some] <;> rfl) | (simp [isEmpty_bne]; done), by repeat (first | (with_reducible first | exact HB.out | apply below_alloc | apply pw_below_drewN | apply below_drew1) | exact HB.out)⟩
             ·
              rw [if_neg c26] at H
              have c26b0 : decide (48 ≤ (bt (rdOf ByteArray.empty t132 x6_1) x7_2)) = false := decide_eq_false c26
              clear c26
              by_cases c29 : (bt (rdOf ByteArray.empty t132 x6_1) x7_2) = 45
              ·
               rw [if_pos c29] at H
               have c29b0 : ((bt (rdOf ByteArray.empty t132 x6_1) x7_2) == 45) = true := beq_iff_eq.mpr c29
               have c29b1 : ((bt (rdOf ByteArray.empty t132 x6_1) x7_2) != 45) = false := bne_eq_false_iff_eq.mpr c29
               clear c29
               have H' := Aside0.mk H
               clear H
               have p135 : 0 ≤ (x6_1 : Int) := of_decide_eq_true (by first | (with_reducible assumption) | assumption)
               have q135 : x6_1 < (t132.length : Int) := of_decide_eq_true (by first | (with_reducible assumption) | assumption)
               obtain ⟨ad135, e135, hx135_0⟩ := Kd.at_string (Kd.R_reads' HO_5.out).2.2 x6_1 p135 q135
               cases e135
               replace p135 := eq_true p135
               replace q135 := eq_true q135
               have p136 : 0 ≤ (x6_1 : Int) := of_decide_eq_true (by first | (with_reducible assumption) | assumption)
               have q136 : x6_1 < (t132.length : Int) := of_decide_eq_true (by first | (with_reducible assumption) | assumption)
               obtain ⟨ad136, e136, hx136_0⟩ := Kd.at_string (Kd.R_reads' HO_5.out).2.2 x6_1 p136 q136
               obtain rfl : ad135 = ad136 := (by injection e136)
               replace p136 := eq_true p136
               replace q136 := eq_true q136
               have p11 : 0 ≤ (x7_2 : Int) := of_decide_eq_true (by first | (with_reducible assumption) | assumption)
               have q11 : x7_2 < ((rdOf ByteArray.empty t132 x6_1).size : Int) := of_decide_eq_true (by first | (with_reducible assumption) | assumption)
               have hx11 := bt_at (rdOf ByteArray.empty t132 x6_1) x7_2
               replace p11 := eq_true p11
               replace q11 := eq_true q11
               go_wp2
               go_roundg k2
               case measure => have := HK1.out; have := HK2.out; omega
               case rel => exact ⟨(wrap64 (x7_2 + 1)), (by first | rfl | (simp; done) | (simp [*]; done) | (simp [isEmpty_bne]; done)), H', ⟨by have := HK1.out; have := HK2.out; omega⟩, ⟨by (with_reducible repeat (first | apply Kd.R_alloc | apply Kd.R_drewN | apply Kd.R_drew)); exact HO_5.out⟩, ⟨by repeat (first | (with_reducible first | exact HB.out | apply below_alloc | apply pw_below_drewN | apply below_drew1) | exact HB.out)⟩⟩
              ·
               rw [if_neg c29] at H
               have c29b0 : ((bt (rdOf ByteArray.empty t132 x6_1) x7_2) == 45) = false := beq_eq_false_iff_ne.mpr c29
               have c29b1 : ((bt (rdOf ByteArray.empty t132 x6_1) x7_2) != 45) = true := bne_iff_ne.mpr c29
               obtain rfl := Option.some.inj H
               have p135 : 0 ≤ (x6_1 : Int) := of_decide_eq_true (by first | (with_reducible assumption) | assumption)
               have q135 : x6_1 < (t132.length : Int) := of_decide_eq_true (by first | (with_reducible assumption) | assumption)
               obtain ⟨ad135, e135, hx135_0⟩ := Kd.at_string (Kd.R_reads' HO_5.out).2.2 x6_1 p135 q135
               cases e135
               replace p135 := eq_true p135
               replace q135 := eq_true q135
               have p136 : 0 ≤ (x6_1 : Int) := of_decide_eq_true (by first | (with_reducible assumption) | assumption)
               have q136 : x6_1 < (t132.length : Int) := of_decide_eq_true (by first | (with_reducible assumption) | assumption)
               obtain ⟨ad136, e136, hx136_0⟩ := Kd.at_string (Kd.R_reads' HO_5.out).2.2 x6_1 p136 q136
               obtain rfl : ad135 = ad136 := (by injection e136)
               replace p136 := eq_true p136
               replace q136 := eq_true q136
               have p11 : 0 ≤ (x7_2 : Int) := of_decide_eq_true (by first | (with_reducible assumption) | assumption)
               have q11 : x7_2 < ((rdOf ByteArray.empty t132 x6_1).size : Int) := of_decide_eq_true (by first | (with_reducible assumption) | assumption)
               have hx11 := bt_at (rdOf ByteArray.empty t132 x6_1) x7_2
               replace p11 := eq_true p11
               replace q11 := eq_true q11
               go_wp2
               go_ret
               exact ⟨by first | rfl | (simp [errW_none, errW_some] <;> rfl) | (simp [*, errW_none, errW_some] <;> rfl) | (simp [isEmpty_bne]; done), by repeat (first | (with_reducible first | exact HB.out | apply below_alloc | apply pw_below_drewN | apply below_drew1) | exact HB.out)⟩
           ·
            rw [if_neg c24] at H
            have c24b0 : decide (65 ≤ (bt (rdOf ByteArray.empty t132 x6_1) x7_2)) = false := decide_eq_false c24
            clear c24
            by_cases c30 : (bt (rdOf ByteArray.empty t132 x6_1) x7_2) ≥ 48
            ·
             rw [if_pos c30] at H
             have c30b0 : decide (48 ≤ (bt (rdOf ByteArray.empty t132 x6_1) x7_2)) = true := decide_eq_true c30
             clear c30
             by_cases c31 : ((bt (rdOf ByteArray.empty t132 x6_1) x7_2) ≤ 57)
             ·
              rw [if_pos c31] at H
              have c31b0 : decide ((bt (rdOf ByteArray.empty t132 x6_1) x7_2) ≤ 57) = true := decide_eq_true c31
              clear c31
              have H' := Aside0.mk H
              clear H
              have p135 : 0 ≤ (x6_1 : Int) := of_decide_eq_true (by first | (with_reducible assumption) | assumption)
              have q135 : x6_1 < (t132.length : Int) := of_decide_eq_true (by first | (with_reducible assumption) | assumption)
              obtain ⟨ad135, e135, hx135_0⟩ := Kd.at_string (Kd.R_reads' HO_5.out).2.2 x6_1 p135 q135
              cases e135
              replace p135 := eq_true p135
              replace q135 := eq_true q135
              have p136 : 0 ≤ (x6_1 : Int) := of_decide_eq_true (by first | (with_reducible assumption) | assumption)
              have q136 : x6_1 < (t132.length : Int) := of_decide_eq_true (by first | (with_reducible assumption) | assumption)
              obtain ⟨ad136, e136, hx136_0⟩ := Kd.at_string (Kd.R_reads' HO_5.out).2.2 x6_1 p136 q136
              obtain rfl : ad135 = ad136 := (by injection e136)
              replace p136 := eq_true p136
              replace q136 := eq_true q136
              have p11 : 0 ≤ (x7_2 : Int) := of_decide_eq_true (by first | (with_reducible assumption) | assumption)
              have q11 : x7_2 < ((rdOf ByteArray.empty t132 x6_1).size : Int) := of_decide_eq_true (by first | (with_reducible assumption) | assumption)
              have hx11 := bt_at (rdOf ByteArray.empty t132 x6_1) x7_2
              replace p11 := eq_true p11
              replace q11 := eq_true q11
              go_wp2
              go_roundg k2
              case measure => have := HK1.out; have := HK2.out; omega
              case rel => exact ⟨(wrap64 (x7_2 + 1)), (by first | rfl | (simp; done) | (simp [*]; done) | (simp [isEmpty_bne]; done)), H', ⟨by have := HK1.out; have := HK2.out; omega⟩, ⟨by (with_reducible repeat (first | apply Kd.R_alloc | apply Kd.R_drewN | apply Kd.R_drew)); exact HO_5.out⟩, ⟨by repeat (first | (with_reducible first | exact HB.out | apply below_alloc | apply pw_below_drewN | apply below_drew1) | exact HB.out)⟩⟩
             ·
              rw [if_neg c31] at H
              have c31b0 : decide ((bt (rdOf ByteArray.empty t132 x6_1) x7_2) ≤ 57) = false := decide_eq_false c31
              clear c31
              by_cases c32 : (bt (rdOf ByteArray.empty t132 x6_1) x7_2) = 45
              ·
               rw [if_pos c32] at H
               have c32b0 : ((bt (rdOf ByteArray.empty t132 x6_1) x7_2) == 45) = true := beq_iff_eq.mpr c32
               have c32b1 : ((bt (rdOf ByteArray.empty t132 x6_1) x7_2) != 45) = false := bne_eq_false_iff_eq.mpr c32
               clear c32
               have H' := Aside0.mk H
               clear H
               have p135 : 0 ≤ (x6_1 : Int) := of_decide_eq_true (by first | (with_reducible assumption) | assumption)
               have q135 : x6_1 < (t132.length : Int) := of_decide_eq_true (by first | (with_reducible assumption) | assumption)
               obtain ⟨ad135, e135, hx135_0⟩ := Kd.at_string (Kd.R_reads' HO_5.out).2.2 x6_1 p135 q135
               cases e135
               replace p135 := eq_true p135
               replace q135 := eq_true q135
               have p136 : 0 ≤ (x6_1 : Int) := of_decide_eq_true (by first | (with_reducible assumption) | assumption)
               have q136 : x6_1 < (t132.length : Int) := of_decide_eq_true (by first | (with_reducible assumption) | assumption)
               obtain ⟨ad136, e136, hx136_0⟩ := Kd.at_string (Kd.R_reads' HO_5.out).2.2 x6_1 p136 q136
               obtain rfl : ad135 = ad136 := (by injection e136)
               replace p136 := eq_true p136
               replace q136 := eq_true q136
               have p11 : 0 ≤ (x7_2 : Int) := of_decide_eq_true (by first | (with_reducible assumption) | assumption)
               have q11 : x7_2 < ((rdOf ByteArray.empty t132 x6_1).size : Int) := of_decide_eq_true (by first | (with_reducible assumption) | assumption)
               have hx11 := bt_at (rdOf ByteArray.empty t132 x6_1) x7_2
               replace p11 := eq_true p11
               replace q11 := eq_true q11
               go_wp2
               go_roundg k2
               case measure => have := HK1.out; have := HK2.out; omega
               case rel => exact ⟨(wrap64 (x7_2 + 1)), (by first | rfl | (simp; done) | (simp [*]; done) | (simp [isEmpty_bne]; done)), H', ⟨by have := HK1.out; have := HK2.out; omega⟩, ⟨by (with_reducible repeat (first | apply Kd.R_alloc | apply Kd.R_drewN | apply Kd.R_drew)); exact HO_5.out⟩, ⟨by repeat (first | (with_reducible first | exact HB.out | apply below_alloc | apply pw_below_drewN | apply below_drew1) | exact HB.out)⟩⟩
              ·
               rw [if_neg c32] at H
               have c32b0 : ((bt (rdOf ByteArray.empty t132 x6_1) x7_2) == 45) = false := beq_eq_false_iff_ne.mpr c32
               have c32b1 : ((bt (rdOf ByteArray.empty t132 x6_1) x7_2) != 45) = true := bne_iff_ne.mpr c32
               obtain rfl := Option.some.inj H
               have p135 : 0 ≤ (x6_1 : Int) := of_decide_eq_true (by first | (with_reducible assumption) | assumption)
               have q135 : x6_1 < (t132.length : Int) := of_decide_eq_true (by first | (with_reducible assumption) | assumption)
               obtain ⟨ad135, e135, hx135_0⟩ := Kd.at_string (Kd.R_reads' HO_5.out).2.2 x6_1 p135 q135
               cases e135
               replace p135 := eq_true p135
               replace q135 := eq_true q135
               have p136 : 0 ≤ (x6_1 : Int) := of_decide_eq_true (by first | (with_reducible assumption) | assumption)
               have q136 : x6_1 < (t132.length : Int) := of_decide_eq_true (by first | (with_reducible assumption) | assumption)
               obtain ⟨ad136, e136, hx136_0⟩ := Kd.at_string (Kd.R_reads' HO_5.out).2.2 x6_1 p136 q136
               obtain rfl : ad135 = ad136 := (by injection e136)
               replace p136 := eq_true p136
               replace q136 := eq_true q136
               have p11 : 0 ≤ (x7_2 : Int) := of_decide_eq_true (by first | (with_reducible assumption) | assumption)
               have q11 : x7_2 < ((rdOf ByteArray.empty t132 x6_1).size : Int) := of_decide_eq_true (by first | (with_reducible assumption) | assumption)
               have hx11 := bt_at (rdOf ByteArray.empty t132 x6_1) x7_2
               replace p11 := eq_true p11
               replace q11 := eq_true q11
               go_wp2
               go_ret
               exact ⟨by first | rfl | (simp [errW_none, errW_some] <;> rfl) | (simp [*, errW_none, errW_some] <;> rfl) | (simp [isEmpty_bne]; done), by repeat (first | (with_reducible first | exact HB.out | apply below_alloc | apply pw_below_drewN | apply below_drew1) | exact HB.out)⟩
            ·
             rw [if_neg c30] at H
             have c30b0 : decide (48 ≤ (bt (rdOf ByteArray.empty t132 x6_1) x7_2)) = false := decide_eq_false c30
             clear c30
             by_cases c33 : (bt (rdOf ByteArray.empty t132 x6_1) x7_2) = 45
             ·
              rw [if_pos c33] at H
              have c33b0 : ((bt (rdOf ByteArray.empty t132 x6_1) x7_2) == 45) = true := beq_iff_eq.mpr c33
              have c33b1 : ((bt (rdOf ByteArray.empty t132 x6_1) x7_2) != 45) = false := bne_eq_false_iff_eq.mpr c33
              clear c33
              have H' := Aside0.mk H
              clear H
              have p135 : 0 ≤ (x6_1 : Int) := of_decide_eq_true (by first | (with_reducible assumption) | assumption)
              have q135 : x6_1 < (t132.length : Int) := of_decide_eq_true (by first | (with_reducible assumption) | assumption)
              obtain ⟨ad135, e135, hx135_0⟩ := Kd.at_string (Kd.R_reads' HO_5.out).2.2 x6_1 p135 q135
              cases e135
              replace p135 := eq_true p135
              replace q135 := eq_true q135
              have p136 : 0 ≤ (x6_1 : Int) := of_decide_eq_true (by first | (with_reducible assumption) | assumption)
              have q136 : x6_1 < (t132.length : Int) := of_decide_eq_true (by first | (with_reducible assumption) | assumption)
              obtain ⟨ad136, e136, hx136_0⟩ := Kd.at_string (Kd.R_reads' HO_5.out).2.2 x6_1 p136 q136
              obtain rfl : ad135 = ad136 := (by injection e136)
              replace p136 := eq_true p136
              replace q136 := eq_true q136
              have p11 : 0 ≤ (x7_2 : Int) := of_decide_eq_true (by first | (with_reducible assumption) | assumption)
              have q11 : x7_2 < ((rdOf ByteArray.empty t132 x6_1).size : Int) := of_decide_eq_true (by first | (with_reducible assumption) | assumption)
              have hx11 := bt_at (rdOf ByteArray.empty t132 x6_1) x7_2
              replace p11 := eq_true p11
              replace q11 := eq_true q11
              go_wp2
              go_roundg k2
              case measure => have := HK1.out; have := HK2.out; omega
              case rel => exact ⟨(wrap64 (x7_2 + 1)), (by first | rfl | (simp; done) | (simp [*]; done) | (simp [isEmpty_bne]; done)), H', ⟨by have := HK1.out; have := HK2.out; omega⟩, ⟨by (with_reducible repeat (first | apply Kd.R_alloc | apply Kd.R_drewN | apply Kd.R_drew)); exact HO_5.out⟩, ⟨by repeat (first | (with_reducible first | exact HB.out | apply below_alloc | apply pw_below_drewN | apply below_drew1) | exact HB.out)⟩⟩
             ·
              rw [if_neg c33] at H
              have c33b0 : ((bt (rdOf ByteArray.empty t132 x6_1) x7_2) == 45) = false := beq_eq_false_iff_ne.mpr c33
              have c33b1 : ((bt (rdOf ByteArray.empty t132 x6_1) x7_2) != 45) = true := bne_iff_ne.mpr c33
              obtain rfl := Option.some.inj H
              have p135 : 0 ≤ (x6_1 : Int) := of_decide_eq_true (by first | (with_reducible assumption) | assumption)
              have q135 : x6_1 < (t132.length : Int) := of_decide_eq_true (by first | (with_reducible assumption) | assumption)
              obtain ⟨ad135, e135, hx135_0⟩ := Kd.at_string (Kd.R_reads' HO_5.out).2.2 x6_1 p135 q135
              cases e135
              replace p135 := eq_true p135
              replace q135 := eq_true q135
              have p136 : 0 ≤ (x6_1 : Int) := of_decide_eq_true (by first | (with_reducible assumption) | assumption)
              have q136 : x6_1 < (t132.length : Int) := of_decide_eq_true (by first | (with_reducible assumption) | assumption)
              obtain ⟨ad136, e136, hx136_0⟩ := Kd.at_string (Kd.R_reads' HO_5.out).2.2 x6_1 p136 q136
              obtain rfl : ad135 = ad136 := (by injection e136)
              replace p136 := eq_true p136
              replace q136 := eq_true q136
              have p11 : 0 ≤ (x7_2 : Int) := of_decide_eq_true (by first | (with_reducible assumption) | assumption)
              have q11 : x7_2 < ((rdOf ByteArray.empty t132 x6_1).size : Int) := of_decide_eq_true (by first | (with_reducible assumption) | assumption)
              have hx11 := bt_at (rdOf ByteArray.empty t132 x6_1) x7_2
              replace p11 := eq_true p11
              replace q11 := eq_true q11
              go_wp2
              go_ret
              exact ⟨by first | rfl | (simp [errW_none, errW_some] <;> rfl) | (simp [*, errW_none, errW_some] <;> rfl) | (simp [isEmpty_bne]; done), by repeat (first | (with_reducible first | exact HB.out | apply below_alloc | apply pw_below_drewN | apply below_drew1) | exact HB.out)⟩
         ·
          rw [if_neg c10] at H
          exact absurd H (by simp)
        ·
         rw [if_neg c9] at H
         have c9b0 : decide (x7_2 < ((rdOf ByteArray.empty t132 x6_1).size : Int)) = false := decide_eq_false c9
         clear c9
         by_cases c34 : (rdOf ByteArray.empty t132 x6_1).toList = ([] : List UInt8)
         ·
          rw [if_pos c34] at H
          have c34b0 : ((rdOf ByteArray.empty t132 x6_1).toList == ([] : List UInt8)) = true := beq_iff_eq.mpr c34
          have c34b1 : ((rdOf ByteArray.empty t132 x6_1).toList != ([] : List UInt8)) = false := bne_eq_false_iff_eq.mpr c34
          clear c34
          obtain rfl := Option.some.inj H
          have p135 : 0 ≤ (x6_1 : Int) := of_decide_eq_true (by first | (with_reducible assumption) | assumption)
          have q135 : x6_1 < (t132.length : Int) := of_decide_eq_true (by first | (with_reducible assumption) | assumption)
          obtain ⟨ad135, e135, hx135_0⟩ := Kd.at_string (Kd.R_reads' HO_5.out).2.2 x6_1 p135 q135
          cases e135
          replace p135 := eq_true p135
          replace q135 := eq_true q135
          have p137 : 0 ≤ (x6_1 : Int) := of_decide_eq_true (by first | (with_reducible assumption) | assumption)
          have q137 : x6_1 < (t132.length : Int) := of_decide_eq_true (by first | (with_reducible assumption) | assumption)
          obtain ⟨ad137, e137, hx137_0⟩ := Kd.at_string (Kd.R_reads' HO_5.out).2.2 x6_1 p137 q137
          obtain rfl : ad135 = ad137 := (by injection e137)
          replace p137 := eq_true p137
          replace q137 := eq_true q137
          go_wp2
          go_ret
          exact ⟨by first | rfl | (simp [errW_none, errW_some] <;> rfl) | (simp [*, errW_none, errW_some] <;> rfl) | (simp [isEmpty_bne]; done), by repeat (first | (with_reducible first | exact HB.out | apply below_alloc | apply pw_below_drewN | apply below_drew1) | exact HB.out)⟩
         ·
          rw [if_neg c34] at H
          have c34b0 : ((rdOf ByteArray.empty t132 x6_1).toList == ([] : List UInt8)) = false := beq_eq_false_iff_ne.mpr c34
          have c34b1 : ((rdOf ByteArray.empty t132 x6_1).toList != ([] : List UInt8)) = true := bne_iff_ne.mpr c34
          by_cases c35 : a1 = true
          ·
           subst c35
           have H1 : (armadaref07_identifiers.l0 k2 true t132 (wrap64 (x6_1 + 1))) = some r := by rw [if_pos rfl] at H; exact H
           clear H
           have H := H1
           clear H1
           have H' := Aside0.mk H
           clear H
           have p135 : 0 ≤ (x6_1 : Int) := of_decide_eq_true (by first | (with_reducible assumption) | assumption)
           have q135 : x6_1 < (t132.length : Int) := of_decide_eq_true (by first | (with_reducible assumption) | assumption)
           obtain ⟨ad135, e135, hx135_0⟩ := Kd.at_string (Kd.R_reads' HO_5.out).2.2 x6_1 p135 q135
           cases e135
           replace p135 := eq_true p135
           replace q135 := eq_true q135
           have p137 : 0 ≤ (x6_1 : Int) := of_decide_eq_true (by first | (with_reducible assumption) | assumption)
           have q137 : x6_1 < (t132.length : Int) := of_decide_eq_true (by first | (with_reducible assumption) | assumption)
           obtain ⟨ad137, e137, hx137_0⟩ := Kd.at_string (Kd.R_reads' HO_5.out).2.2 x6_1 p137 q137
           obtain rfl : ad135 = ad137 := (by injection e137)
           replace p137 := eq_true p137
           replace q137 := eq_true q137
           go_wp2
           go_roundg k2
           case measure => have := HK1.out; have := HK2.out; omega
           case rel => exact ⟨(wrap64 (x6_1 + 1)), (by first | rfl | (simp; done) | (simp [*]; done) | (simp [isEmpty_bne]; done)), H', ⟨by have := HK1.out; have := HK2.out; omega⟩, ⟨by (with_reducible repeat (first | apply Kd.R_alloc | apply Kd.R_drewN | apply Kd.R_drew)); exact HO_5.out⟩, ⟨by repeat (first | (with_reducible first | exact HB.out | apply below_alloc | apply pw_below_drewN | apply below_drew1) | exact HB.out)⟩⟩
          ·
           replace c35 := Bool.eq_false_iff.mpr c35
           subst c35
           have H1 : ((armadaref07_digits.f k2 (rdOf ByteArray.empty t132 x6_1)).bind fun t139 => (if t139 = true then (if ((rdOf ByteArray.empty t132 x6_1).size : Int) > 1 then (if 0 < ((rdOf ByteArray.empty t132 x6_1).size : Int) then (if (bt (rdOf ByteArray.empty t132 x6_1) 0) = 48 then (some false) else (armadaref07_identifiers.l0 k2 false t132 (wrap64 (x6_1 + 1)))) else (none)) else (armadaref07_identifiers.l0 k2 false t132 (wrap64 (x6_1 + 1)))) else (armadaref07_identifiers.l0 k2 false t132 (wrap64 (x6_1 + 1))))) = some r := by rw [if_neg (show ¬ (false = true) by decide)] at H; exact H
           clear H
           have H := H1
           clear H1
           replace H := Option.bind_eq_some_iff.mp H
           obtain ⟨t139, A360, H⟩ := H
           replace H : (if t139 = true then (if ((rdOf ByteArray.empty t132 x6_1).size : Int) > 1 then (if 0 < ((rdOf ByteArray.empty t132 x6_1).size : Int) then (if (bt (rdOf ByteArray.empty t132 x6_1) 0) = 48 then (some false) else (armadaref07_identifiers.l0 k2 false t132 (wrap64 (x6_1 + 1)))) else (none)) else (armadaref07_identifiers.l0 k2 false t132 (wrap64 (x6_1 + 1)))) else (armadaref07_identifiers.l0 k2 false t132 (wrap64 (x6_1 + 1)))) = some r := H
           have A36 := Aside0.mk A360
           clear A360
           by_cases c37 : t139 = true
           ·
            subst c37
            have H1 : (if ((rdOf ByteArray.empty t132 x6_1).size : Int) > 1 then (if 0 < ((rdOf ByteArray.empty t132 x6_1).size : Int) then (if (bt (rdOf ByteArray.empty t132 x6_1) 0) = 48 then (some false) else (armadaref07_identifiers.l0 k2 false t132 (wrap64 (x6_1 + 1)))) else (none)) else (armadaref07_identifiers.l0 k2 false t132 (wrap64 (x6_1 + 1)))) = some r := by rw [if_pos rfl] at H; exact H
            clear H
            have H := H1
            clear H1
            by_cases c38 : ((rdOf ByteArray.empty t132 x6_1).size : Int) > 1
            ·
             rw [if_pos c38] at H
             have c38b0 : decide (1 < ((rdOf ByteArray.empty t132 x6_1).size : Int)) = true := decide_eq_true c38
             have c38b1 : decide (1 < (rdOf ByteArray.empty t132 x6_1).size) = true := decide_eq_true (by omega)
             clear c38
             by_cases c39 : 0 < ((rdOf ByteArray.empty t132 x6_1).size : Int)
             ·
              rw [if_pos c39] at H
              have c39b0 : decide (0 < ((rdOf ByteArray.empty t132 x6_1).size : Int)) = true := decide_eq_true c39
              have c39b1 : decide (0 < (rdOf ByteArray.empty t132 x6_1).size) = true := decide_eq_true (by omega)
              clear c39
              by_cases c41 : (bt (rdOf ByteArray.empty t132 x6_1) 0) = 48
              ·
               rw [if_pos c41] at H
               have c41b0 : ((bt (rdOf ByteArray.empty t132 x6_1) 0) == 48) = true := beq_iff_eq.mpr c41
               have c41b1 : ((bt (rdOf ByteArray.empty t132 x6_1) 0) != 48) = false := bne_eq_false_iff_eq.mpr c41
               clear c41
               obtain rfl := Option.some.inj H
               have p135 : 0 ≤ (x6_1 : Int) := of_decide_eq_true (by first | (with_reducible assumption) | assumption)
               have q135 : x6_1 < (t132.length : Int) := of_decide_eq_true (by first | (with_reducible assumption) | assumption)
               obtain ⟨ad135, e135, hx135_0⟩ := Kd.at_string (Kd.R_reads' HO_5.out).2.2 x6_1 p135 q135
               cases e135
               replace p135 := eq_true p135
               replace q135 := eq_true q135
               have p137 : 0 ≤ (x6_1 : Int) := of_decide_eq_true (by first | (with_reducible assumption) | assumption)
               have q137 : x6_1 < (t132.length : Int) := of_decide_eq_true (by first | (with_reducible assumption) | assumption)
               obtain ⟨ad137, e137, hx137_0⟩ := Kd.at_string (Kd.R_reads' HO_5.out).2.2 x6_1 p137 q137
               obtain rfl : ad135 = ad137 := (by injection e137)
               replace p137 := eq_true p137
               replace q137 := eq_true q137
               have p138 : 0 ≤ (x6_1 : Int) := of_decide_eq_true (by first | (with_reducible assumption) | assumption)
               have q138 : x6_1 < (t132.length : Int) := of_decide_eq_true (by first | (with_reducible assumption) | assumption)
               obtain ⟨ad138, e138, hx138_0⟩ := Kd.at_string (Kd.R_reads' HO_5.out).2.2 x6_1 p138 q138
               obtain rfl : ad135 = ad138 := (by injection e138)
               replace p138 := eq_true p138
               replace q138 := eq_true q138
               go_wp2_with (first | (go_at_call 101; (with_reducible refine (armadaref07_digits.calls k2 (rdOf ByteArray.empty t132 x6_1) true _ A36.out).mono ?_); rintro e w' ⟨rfl, ⟨nd, rfl⟩⟩; have p140 : 0 ≤ (x6_1 : Int) := of_decide_eq_true (by first | (with_reducible assumption) | assumption); have q140 : x6_1 < (t132.length : Int) := of_decide_eq_true (by first | (with_reducible assumption) | assumption); obtain ⟨ad140, e140, hx140_0⟩ := Kd.at_string (Kd.R_reads' HO_5.out).2.2 x6_1 p140 q140; obtain rfl : ad135 = ad140 := (by injection e140); replace p140 := eq_true p140; replace q140 := eq_true q140; have p141 : 0 ≤ (x6_1 : Int) := of_decide_eq_true (by first | (with_reducible assumption) | assumption); have q141 : x6_1 < (t132.length : Int) := of_decide_eq_true (by first | (with_reducible assumption) | assumption); obtain ⟨ad141, e141, hx141_0⟩ := Kd.at_string (Kd.R_reads' HO_5.out).2.2 x6_1 p141 q141; obtain rfl : ad135 = ad141 := (by injection e141); replace p141 := eq_true p141; replace q141 := eq_true q141; have p40 : 0 ≤ (0 : Int) := (by omega); have q40 : 0 < (rdOf ByteArray.empty t132 x6_1).size := (by have : (0 : Int) < ((rdOf ByteArray.empty t132 x6_1).size : Int) := of_decide_eq_true (by first | (with_reducible assumption) | assumption); omega); have hx40 : ∀ h : 0 < (rdOf ByteArray.empty t132 x6_1).size, (((rdOf ByteArray.empty t132 x6_1)[0]'h).toNat : Int) = bt (rdOf ByteArray.empty t132 x6_1) 0 := bt_at (rdOf ByteArray.empty t132 x6_1) 0; clear p40; have qi40 : (0 < ((rdOf ByteArray.empty t132 x6_1).size : Int)) = True := eq_true (of_decide_eq_true (by first | (with_reducible assumption) | assumption)); replace q40 := eq_true q40))
               go_ret
               exact ⟨by first | rfl | (simp [errW_none, errW_some] <;> rfl) | (simp [*, errW_none, errW_some] <;> rfl) | (simp [isEmpty_bne]; done), by repeat (first | (with_reducible first | exact HB.out | apply below_alloc | apply pw_below_drewN | apply below_drew1) | exact HB.out)⟩
              ·
               rw [if_neg c41] at H
               have c41b0 : ((bt (rdOf ByteArray.empty t132 x6_1) 0) == 48) = false := beq_eq_false_iff_ne.mpr c41
               have c41b1 : ((bt (rdOf ByteArray.empty t132 x6_1) 0) != 48) = true := bne_iff_ne.mpr c41
               have H' := Aside0.mk H
               clear H
               have p135 : 0 ≤ (x6_1 : Int) := of_decide_eq_true (by first | (with_reducible assumption) | assumption)
               have q135 : x6_1 < (t132.length : Int) := of_decide_eq_true (by first | (with_reducible assumption) | assumption)
               obtain ⟨ad135, e135, hx135_0⟩ := Kd.at_string (Kd.R_reads' HO_5.out).2.2 x6_1 p135 q135
               cases e135
               replace p135 := eq_true p135
               replace q135 := eq_true q135
               have p137 : 0 ≤ (x6_1 : Int) := of_decide_eq_true (by first | (with_reducible assumption) | assumption)
               have q137 : x6_1 < (t132.length : Int) := of_decide_eq_true (by first | (with_reducible assumption) | assumption)
               obtain ⟨ad137, e137, hx137_0⟩ := Kd.at_string (Kd.R_reads' HO_5.out).2.2 x6_1 p137 q137
               obtain rfl : ad135 = ad137 := (by injection e137)
               replace p137 := eq_true p137
               replace q137 := eq_true q137
               have p138 : 0 ≤ (x6_1 : Int) := of_decide_eq_true (by first | (with_reducible assumption) | assumption)
               have q138 : x6_1 < (t132.length : Int) := of_decide_eq_true (by first | (with_reducible assumption) | assumption)
               obtain ⟨ad138, e138, hx138_0⟩ := Kd.at_string (Kd.R_reads' HO_5.out).2.2 x6_1 p138 q138
               obtain rfl : ad135 = ad138 := (by injection e138)
               replace p138 := eq_true p138
               replace q138 := eq_true q138
               go_wp2_with (first | (go_at_call 101; (with_reducible refine (armadaref07_digits.calls k2 (rdOf ByteArray.empty t132 x6_1) true _ A36.out).mono ?_); rintro e w' ⟨rfl, ⟨nd, rfl⟩⟩; have p140 : 0 ≤ (x6_1 : Int) := of_decide_eq_true (by first | (with_reducible assumption) | assumption); have q140 : x6_1 < (t132.length : Int) := of_decide_eq_true (by first | (with_reducible assumption) | assumption); obtain ⟨ad140, e140, hx140_0⟩ := Kd.at_string (Kd.R_reads' HO_5.out).2.2 x6_1 p140 q140; obtain rfl : ad135 = ad140 := (by injection e140); replace p140 := eq_true p140; replace q140 := eq_true q140; have p141 : 0 ≤ (x6_1 : Int) := of_decide_eq_true (by first | (with_reducible assumption) | assumption); have q141 : x6_1 < (t132.length : Int) := of_decide_eq_true (by first | (with_reducible assumption) | assumption); obtain ⟨ad141, e141, hx141_0⟩ := Kd.at_string (Kd.R_reads' HO_5.out).2.2 x6_1 p141 q141; obtain rfl : ad135 = ad141 := (by injection e141); replace p141 := eq_true p141; replace q141 := eq_true q141; have p40 : 0 ≤ (0 : Int) := (by omega); have q40 : 0 < (rdOf ByteArray.empty t132 x6_1).size := (by have : (0 : Int) < ((rdOf ByteArray.empty t132 x6_1).size : Int) := of_decide_eq_true (by first | (with_reducible assumption) | assumption); omega); have hx40 : ∀ h : 0 < (rdOf ByteArray.empty t132 x6_1).size, (((rdOf ByteArray.empty t132 x6_1)[0]'h).toNat : Int) = bt (rdOf ByteArray.empty t132 x6_1) 0 := bt_at (rdOf ByteArray.empty t132 x6_1) 0; clear p40; have qi40 : (0 < ((rdOf ByteArray.empty t132 x6_1).size : Int)) = True := eq_true (of_decide_eq_true (by first | (with_reducible assumption) | assumption)); replace q40 := eq_true q40))
               go_roundg k2
               case measure => have := HK1.out; have := HK2.out; omega
               case rel => exact ⟨(wrap64 (x6_1 + 1)), (by first | rfl | (simp; done) | (simp [*]; done) | (simp [isEmpty_bne]; done)), H', ⟨by have := HK1.out; have := HK2.out; omega⟩, ⟨by (with_reducible repeat (first | apply Kd.R_alloc | apply Kd.R_drewN | apply Kd.R_drew)); exact HO_5.out⟩, ⟨by repeat (first | (with_reducible first | exact HB.out | apply below_alloc | apply pw_below_drewN | apply below_drew1) | exact HB.out)⟩⟩
             ·
              rw [if_neg c39] at H
              exact absurd H (by simp)
            ·
             rw [if_neg c38] at H
             have c38b0 : decide (1 < ((rdOf ByteArray.empty t132 x6_1).size : Int)) = false := decide_eq_false c38
             have c38b1 : decide (1 < (rdOf ByteArray.empty t132 x6_1).size) = false := decide_eq_false (by omega)
             clear c38
             have H' := Aside0.mk H
             clear H
             have p135 : 0 ≤ (x6_1 : Int) := of_decide_eq_true (by first | (with_reducible assumption) | assumption)
             have q135 : x6_1 < (t132.length : Int) := of_decide_eq_true (by first | (with_reducible assumption) | assumption)
             obtain ⟨ad135, e135, hx135_0⟩ := Kd.at_string (Kd.R_reads' HO_5.out).2.2 x6_1 p135 q135
             cases e135
             replace p135 := eq_true p135
             replace q135 := eq_true q135
             have p137 : 0 ≤ (x6_1 : Int) := of_decide_eq_true (by first | (with_reducible assumption) | assumption)
             have q137 : x6_1 < (t132.length : Int) := of_decide_eq_true (by first | (with_reducible assumption) | assumption)
             obtain ⟨ad137, e137, hx137_0⟩ := Kd.at_string (Kd.R_reads' HO_5.out).2.2 x6_1 p137 q137
             obtain rfl : ad135 = ad137 := (by injection e137)
             replace p137 := eq_true p137
             replace q137 := eq_true q137
             have p138 : 0 ≤ (x6_1 : Int) := of_decide_eq_true (by first | (with_reducible assumption) | assumption)
             have q138 : x6_1 < (t132.length : Int) := of_decide_eq_true (by first | (with_reducible assumption) | assumption)
             obtain ⟨ad138, e138, hx138_0⟩ := Kd.at_string (Kd.R_reads' HO_5.out).2.2 x6_1 p138 q138
             obtain rfl : ad135 = ad138 := (by injection e138)
             replace p138 := eq_true p138
             replace q138 := eq_true q138
             go_wp2_with (first | (go_at_call 101; (with_reducible refine (armadaref07_digits.calls k2 (rdOf ByteArray.empty t132 x6_1) true _ A36.out).mono ?_); rintro e w' ⟨rfl, ⟨nd, rfl⟩⟩; have p140 : 0 ≤ (x6_1 : Int) := of_decide_eq_true (by first | (with_reducible assumption) | assumption); have q140 : x6_1 < (t132.length : Int) := of_decide_eq_true (by first | (with_reducible assumption) | assumption); obtain ⟨ad140, e140, hx140_0⟩ := Kd.at_string (Kd.R_reads' HO_5.out).2.2 x6_1 p140 q140; obtain rfl : ad135 = ad140 := (by injection e140); replace p140 := eq_true p140; replace q140 := eq_true q140))
             go_roundg k2
             case measure => have := HK1.out; have := HK2.out; omega
             case rel => exact ⟨(wrap64 (x6_1 + 1)), (by first | rfl | (simp; done) | (simp [*]; done) | (simp [isEmpty_bne]; done)), H', ⟨by have := HK1.out; have := HK2.out; omega⟩, ⟨by (with_reducible repeat (first | apply Kd.R_alloc | apply Kd.R_drewN | apply Kd.R_drew)); exact HO_5.out⟩, ⟨by repeat (first | (with_reducible first | exact HB.out | apply below_alloc | apply pw_below_drewN | apply below_drew1) | exact HB.out)⟩⟩
           ·
            replace c37 := Bool.eq_false_iff.mpr c37
            subst c37
            have H1 : (armadaref07_identifiers.l0 k2 false t132 (wrap64 (x6_1 + 1))) = some r := by rw [if_neg (show ¬ (false = true) by decide)] at H; exact H
            clear H
            have H := H1
            clear H1
            have H' := Aside0.mk H
            clear H
            have p135 : 0 ≤ (x6_1 : Int) := of_decide_eq_true (by first | (with_reducible assumption) | assumption)
            have q135 : x6_1 < (t132.length : Int) := of_decide_eq_true (by first | (with_reducible assumption) | assumption)
            obtain ⟨ad135, e135, hx135_0⟩ := Kd.at_string (Kd.R_reads' HO_5.out).2.2 x6_1 p135 q135
            cases e135
            replace p135 := eq_true p135
            replace q135 := eq_true q135
            have p137 : 0 ≤ (x6_1 : Int) := of_decide_eq_true (by first | (with_reducible assumption) | assumption)
            have q137 : x6_1 < (t132.length : Int) := of_decide_eq_true (by first | (with_reducible assumption) | assumption)
            obtain ⟨ad137, e137, hx137_0⟩ := Kd.at_string (Kd.R_reads' HO_5.out).2.2 x6_1 p137 q137
            obtain rfl : ad135 = ad137 := (by injection e137)
            replace p137 := eq_true p137
            replace q137 := eq_true q137
            have p138 : 0 ≤ (x6_1 : Int) := of_decide_eq_true (by first | (with_reducible assumption) | assumption)
            have q138 : x6_1 < (t132.length : Int) := of_decide_eq_true (by first | (with_reducible assumption) | assumption)
            obtain ⟨ad138, e138, hx138_0⟩ := Kd.at_string (Kd.R_reads' HO_5.out).2.2 x6_1 p138 q138
            obtain rfl : ad135 = ad138 := (by injection e138)
            replace p138 := eq_true p138
            replace q138 := eq_true q138
            go_wp2_with (first | (go_at_call 101; (with_reducible refine (armadaref07_digits.calls k2 (rdOf ByteArray.empty t132 x6_1) false _ A36.out).mono ?_); rintro e w' ⟨rfl, ⟨nd, rfl⟩⟩))
            go_roundg k2
            case measure => have := HK1.out; have := HK2.out; omega
            case rel => exact ⟨(wrap64 (x6_1 + 1)), (by first | rfl | (simp; done) | (simp [*]; done) | (simp [isEmpty_bne]; done)), H', ⟨by have := HK1.out; have := HK2.out; omega⟩, ⟨by (with_reducible repeat (first | apply Kd.R_alloc | apply Kd.R_drewN | apply Kd.R_drew)); exact HO_5.out⟩, ⟨by repeat (first | (with_reducible first | exact HB.out | apply below_alloc | apply pw_below_drewN | apply below_drew1) | exact HB.out)⟩⟩
       ·
        rw [if_neg c8] at H
        exact absurd H (by simp)
      ·
       rw [if_neg c7] at H
       exact absurd H (by simp)
   ·
    rw [if_neg c5] at H
    have c5b0 : decide (x6_1 < (t132.length : Int)) = false := decide_eq_false c5
    clear c5
    obtain rfl := Option.some.inj H
    obtain ⟨Ao42, co42, eo42⟩ := Kd.R_slice HO_5.out
    subst eo42
    go_wp2
    go_ret
    exact ⟨by first | rfl | (simp [errW_none, errW_some] <;> rfl) | (simp [*, errW_none, errW_some] <;> rfl) | (simp [isEmpty_bne]; done), by repeat (first | (with_reducible first | exact HB.out | apply below_alloc | apply pw_below_drewN | apply below_drew1) | exact HB.out)⟩

end Go.Proofs.YtpkhemnngjmcjaaGreatDoor.R1
