/- The texts RDx2 in one file, without what these claims do not use (put together by prune2.py). -/
import Derived.Test.YtkidfclnakbgiaaGreatDoorZT28
import Derived.Test.YtkidfclnakbgiaaGreatDoorZT29
section
namespace Go.Proofs.YtkidfclnakbgiaaGreatDoor.RD
open Go.RowKit Go.Proofs.YtkidfclnakbgiaaGreatDoor Go.Proofs.YtkidfclnakbgiaaGreatDoor.K0 Go.Proofs.YtkidfclnakbgiaaGreatDoorW.PrintWords Go.Proofs.YtkidfclnakbgiaaGreatDoorW.PrintLast Go.Proofs.YtkidfclnakbgiaaGreatDoorW.PrintMore
attribute [local go_sem] max2_int min2_int max_two min_two max_three min_three max_four min_four
set_option linter.unusedVariables false
set_option linter.unusedSimpArgs false
mutual
def armadaref07_identifiers.l0 : Nat → Bool → List ByteArray → Int → Option (Bool)
 | 0, _, _, _ => none
 | k + 1, x1, x5, x6 => if x6 < (x5.length : Int) then (armadaref07_identifiers.l1 k x1 x5 x6 0) else (some true)
def armadaref07_identifiers.l1 : Nat → Bool → List ByteArray → Int → Int → Option (Bool)
 | 0, _, _, _, _ => none
 | k + 1, x1, x5, x6, x7 => if 0 ≤ x6 then (if x6 < (x5.length : Int) then (if x7 < ((rdOf ByteArray.empty x5 x6).size : Int) then (if 0 ≤ x7 then (if (bt (rdOf ByteArray.empty x5 x6) x7) ≥ 97 then (if ((bt (rdOf ByteArray.empty x5 x6) x7) ≤ 122) then (armadaref07_identifiers.l1 k x1 x5 x6 (wrap64 (x7 + 1))) else (if (bt (rdOf ByteArray.empty x5 x6) x7) ≥ 65 then (if ((bt (rdOf ByteArray.empty x5 x6) x7) ≤ 90) then (armadaref07_identifiers.l1 k x1 x5 x6 (wrap64 (x7 + 1))) else (if (bt (rdOf ByteArray.empty x5 x6) x7) ≥ 48 then (if ((bt (rdOf ByteArray.empty x5 x6) x7) ≤ 57) then (armadaref07_identifiers.l1 k x1 x5 x6 (wrap64 (x7 + 1))) else (if (bt (rdOf ByteArray.empty x5 x6) x7) = 45 then (armadaref07_identifiers.l1 k x1 x5 x6 (wrap64 (x7 + 1))) else (some false))) else (if (bt (rdOf ByteArray.empty x5 x6) x7) = 45 then (armadaref07_identifiers.l1 k x1 x5 x6 (wrap64 (x7 + 1))) else (some false)))) else (if (bt (rdOf ByteArray.empty x5 x6) x7) ≥ 48 then (if ((bt (rdOf ByteArray.empty x5 x6) x7) ≤ 57) then (armadaref07_identifiers.l1 k x1 x5 x6 (wrap64 (x7 + 1))) else (if (bt (rdOf ByteArray.empty x5 x6) x7) = 45 then (armadaref07_identifiers.l1 k x1 x5 x6 (wrap64 (x7 + 1))) else (some false))) else (if (bt (rdOf ByteArray.empty x5 x6) x7) = 45 then (armadaref07_identifiers.l1 k x1 x5 x6 (wrap64 (x7 + 1))) else (some false))))) else (if (bt (rdOf ByteArray.empty x5 x6) x7) ≥ 65 then (if ((bt (rdOf ByteArray.empty x5 x6) x7) ≤ 90) then (armadaref07_identifiers.l1 k x1 x5 x6 (wrap64 (x7 + 1))) else (if (bt (rdOf ByteArray.empty x5 x6) x7) ≥ 48 then (if ((bt (rdOf ByteArray.empty x5 x6) x7) ≤ 57) then (armadaref07_identifiers.l1 k x1 x5 x6 (wrap64 (x7 + 1))) else (if (bt (rdOf ByteArray.empty x5 x6) x7) = 45 then (armadaref07_identifiers.l1 k x1 x5 x6 (wrap64 (x7 + 1))) else (some false))) else (if (bt (rdOf ByteArray.empty x5 x6) x7) = 45 then (armadaref07_identifiers.l1 k x1 x5 x6 (wrap64 (x7 + 1))) else (some false)))) else (if (bt (rdOf ByteArray.empty x5 x6) x7) ≥ 48 then (if ((bt (rdOf ByteArray.empty x5 x6) x7) ≤ 57) then (armadaref07_identifiers.l1 k x1 x5 x6 (wrap64 (x7 + 1))) else (if (bt (rdOf ByteArray.empty x5 x6) x7) = 45 then (armadaref07_identifiers.l1 k x1 x5 x6 (wrap64 (x7 + 1))) else (some false))) else (if (bt (rdOf ByteArray.empty x5 x6) x7) = 45 then (armadaref07_identifiers.l1 k x1 x5 x6 (wrap64 (x7 + 1))) else (some false))))) else (none)) else (if (rdOf ByteArray.empty x5 x6).toList = ([] : List UInt8) then (some false) else (if x1 = true then (armadaref07_identifiers.l0 k x1 x5 (wrap64 (x6 + 1))) else ((armadaref07_digits.f k (rdOf ByteArray.empty x5 x6)).bind fun t114 => (if t114 = true then (if ((rdOf ByteArray.empty x5 x6).size : Int) > 1 then (if 0 < ((rdOf ByteArray.empty x5 x6).size : Int) then (if (bt (rdOf ByteArray.empty x5 x6) 0) = 48 then (some false) else (armadaref07_identifiers.l0 k x1 x5 (wrap64 (x6 + 1)))) else (none)) else (armadaref07_identifiers.l0 k x1 x5 (wrap64 (x6 + 1)))) else (armadaref07_identifiers.l0 k x1 x5 (wrap64 (x6 + 1)))))))) else (none)) else (none)
end
def armadaref07_identifiers.f (k : Nat) (a0 : ByteArray) (a1 : Bool) : Option (Bool) := (armadaref05_Split.f k a0 46).bind fun t107 => (armadaref07_identifiers.l0 k a1 t107 0)
theorem armadaref07_identifiers.mono_l : ∀ k, (∀ y0 y1 y2, LeO (armadaref07_identifiers.l0 k y0 y1 y2) (armadaref07_identifiers.l0 (k + 1) y0 y1 y2)) ∧ (∀ y0 y1 y2 y3, LeO (armadaref07_identifiers.l1 k y0 y1 y2 y3) (armadaref07_identifiers.l1 (k + 1) y0 y1 y2 y3))
 | 0 => ⟨fun _ _ _ r h => by simp [armadaref07_identifiers.l0] at h, fun _ _ _ _ r h => by simp [armadaref07_identifiers.l1] at h⟩
 | k + 1 => by
  obtain ⟨ih0, ih1⟩ := armadaref07_identifiers.mono_l k
  refine ⟨?_, ?_⟩
  ·
   intro y0 y1 y2
   unfold armadaref07_identifiers.l0
   repeat' first
   | (with_reducible exact ih0 _ _ _)
   | (with_reducible exact ih1 _ _ _ _)
   | (with_reducible exact armadaref05_Split.mono _ _ _)
   | (with_reducible exact armadaref07_digits.mono _ _)
   | (with_reducible exact LeO.refl _)
   | (with_reducible exact LeO.none _)
   | (with_reducible refine LeO.ite ?_ ?_)
   | (with_reducible refine LeO.bind ?_ (fun _ => ?_))
   | exact ih0 _ _ _
   | exact ih1 _ _ _ _
   | exact armadaref05_Split.mono _ _ _
   | exact armadaref07_digits.mono _ _
   | exact LeO.none _
   | refine LeO.ite ?_ ?_
   | refine LeO.bind ?_ (fun _ => ?_)
  ·
   intro y0 y1 y2 y3
   unfold armadaref07_identifiers.l1
   repeat' first
   | (with_reducible exact ih0 _ _ _)
   | (with_reducible exact ih1 _ _ _ _)
   | (with_reducible exact armadaref05_Split.mono _ _ _)
   | (with_reducible exact armadaref07_digits.mono _ _)
   | (with_reducible exact LeO.refl _)
   | (with_reducible exact LeO.none _)
   | (with_reducible refine LeO.ite ?_ ?_)
   | (with_reducible refine LeO.bind ?_ (fun _ => ?_))
   | exact ih0 _ _ _
   | exact ih1 _ _ _ _
   | exact armadaref05_Split.mono _ _ _
   | exact armadaref07_digits.mono _ _
   | exact LeO.none _
   | refine LeO.ite ?_ ?_
   | refine LeO.bind ?_ (fun _ => ?_)
theorem armadaref07_identifiers.mono : ∀ a0 a1 k, LeO (armadaref07_identifiers.f k a0 a1) (armadaref07_identifiers.f (k + 1) a0 a1) := by
 intro a0 a1 k
 obtain ⟨ih0, ih1⟩ := armadaref07_identifiers.mono_l k
 unfold armadaref07_identifiers.f
 repeat' first
   | (with_reducible exact ih0 _ _ _)
   | (with_reducible exact ih1 _ _ _ _)
   | (with_reducible exact armadaref05_Split.mono _ _ _)
   | (with_reducible exact armadaref07_digits.mono _ _)
   | (with_reducible exact LeO.refl _)
   | (with_reducible exact LeO.none _)
   | (with_reducible refine LeO.ite ?_ ?_)
   | (with_reducible refine LeO.bind ?_ (fun _ => ?_))
   | exact ih0 _ _ _
   | exact ih1 _ _ _ _
   | exact armadaref05_Split.mono _ _ _
   | exact armadaref07_digits.mono _ _
   | exact LeO.none _
   | refine LeO.ite ?_ ?_
   | refine LeO.bind ?_ (fun _ => ?_)
set_option maxHeartbeats 8000000 in
set_option maxRecDepth 100000 in
theorem armadaref07_identifiers.calls (k : Nat) (a0 : ByteArray) (a1 : Bool) (r : Bool) (w : World) (h : armadaref07_identifiers.f k a0 a1 = some r) :
  Calls Tryz.prog 69 #[.string a0, .bool a1] w fun e w' => e = .returned (.bool r) ∧ Below w.heap.size w w' := by
 have HB := Aside0.mk (Below.refl w.heap.size w)
 have H : ((armadaref05_Split.f k a0 46).bind fun t107 => (armadaref07_identifiers.l0 k a1 t107 0)) = some r := h
 clear h
 replace H := xb H
 obtain ⟨t107, A3, H⟩ := H
 have H' := Aside0.mk H
 clear H
 go_enter Tryz.func69, Tryz.ntmps69
 go_wp2_with (first | ((with_reducible refine gate_callee (f := 71) rfl ?_); refine goesL_ (some 10) rfl rfl Tryz.func71 (by kernel_rfl) rfl #[.string a0, .int .u8 46] rfl xS ?_; (with_reducible refine (armadaref05_Split.calls k a0 46 t107 _ A3.out).mono ?_); rintro e w4 ⟨v108, rfl, ho0, hb⟩; refine ⟨_, rfl, ?_⟩; have HO109 := Aside0.mk (Kd.R_lower ho0 (below_size xB)); replace HB := Aside0.mk (below_step xB hb); (try clear hb); (try clear hb2); (try clear hk); (try clear hi); (try clear ho0)))
 go_loopg [6] k (fun kq v6 w' => ∃ (x6_1 : Int), v6 = .int .i64 x6_1 ∧ Aside0 (armadaref07_identifiers.l0 kq a1 t107 x6_1 = some r) ∧ Aside0 (kq ≤ k) ∧ Aside0 (Kd.R Kd.string 9 w' w.heap.size (fun _ => True) v108 t107) ∧ Aside0 (Below w.heap.size w w'))
 case atStart => exact ⟨(0), xR, H', ⟨Nat.le_refl _⟩, ⟨by (with_reducible repeat (first | apply Kd.R_alloc | apply Kd.R_drewN | apply Kd.R_drew)); exact HO109.out⟩, ⟨xB⟩⟩
 case round =>
  clear H'
  try clear p2
  obtain ⟨x6_1, rfl, HA, HK1, HO_5, HB⟩ := hrel
  cases gk with
  | zero => exact absurd HA.out (by simp [armadaref07_identifiers.l0])
  | succ k1 =>
   have H := HA.out
   clear HA
   simp only [armadaref07_identifiers.l0] at H
   by_cases c5 : x6_1 < (t107.length : Int)
   ·
    rw [if_pos c5] at H
    have c5b0 := decide_eq_true c5
    clear c5
    have H' := Aside0.mk H
    clear H
    obtain ⟨Ao6, co6, eo6⟩ := Kd.R_slice HO_5.out
    subst eo6
    go_wp2
    go_loopg [7] k1 (fun kq v7 w' => ∃ (x7_2 : Int), v7 = .int .i64 x7_2 ∧ Aside0 (armadaref07_identifiers.l1 kq a1 t107 x6_1 x7_2 = some r) ∧ Aside0 (kq ≤ k1) ∧ Aside0 (Kd.R Kd.string 9 w' w.heap.size (fun _ => True) (.slice Ao6 t107.length co6) t107) ∧ Aside0 (Below w.heap.size w w'))
    case atStart => exact ⟨(0), xR, H', ⟨Nat.le_refl _⟩, ⟨by (with_reducible repeat (first | apply Kd.R_alloc | apply Kd.R_drewN | apply Kd.R_drew)); exact HO_5.out⟩, ⟨xB⟩⟩
    case round =>
     clear H'
     try clear p2
     try clear c5
     try clear c5b0
     try clear c6
     try clear p2
     obtain ⟨x7_2, rfl, HA, HK2, HO_5, HB⟩ := hrel
     cases gk with
     | zero => exact absurd HA.out (by simp [armadaref07_identifiers.l1])
     | succ k2 =>
      have H := HA.out
      clear HA
      simp only [armadaref07_identifiers.l1] at H
      replace H := xI H
      obtain ⟨c7, H⟩ := H
      have c7b0 := decide_eq_true c7
      clear c7
      replace H := xI H
      obtain ⟨c8, H⟩ := H
      have c8b0 := decide_eq_true c8
      clear c8
      by_cases c9 : x7_2 < ((rdOf ByteArray.empty t107 x6_1).size : Int)
      ·
       rw [if_pos c9] at H
       have c9b0 := decide_eq_true c9
       clear c9
       replace H := xI H
       obtain ⟨c10, H⟩ := H
       have c10b0 := decide_eq_true c10
       clear c10
       by_cases c12 : (bt (rdOf ByteArray.empty t107 x6_1) x7_2) ≥ 97
       ·
        rw [if_pos c12] at H
        have c12b0 := decide_eq_true c12
        clear c12
        by_cases c13 : ((bt (rdOf ByteArray.empty t107 x6_1) x7_2) ≤ 122)
        ·
         rw [if_pos c13] at H
         have c13b0 := decide_eq_true c13
         clear c13
         have H' := Aside0.mk H
         clear H
         have p110 : 0 ≤ (x6_1 : Int) := xD
         have q110 : x6_1 < (t107.length : Int) := xD
         obtain ⟨ad110, e110, hx110_0⟩ := Kd.at_string (Kd.R_reads' HO_5.out).2.2 x6_1 p110 q110
         cases e110
         replace p110 := eq_true p110
         replace q110 := eq_true q110
         have p111 : 0 ≤ (x6_1 : Int) := xD
         have q111 : x6_1 < (t107.length : Int) := xD
         obtain ⟨ad111, e111, hx111_0⟩ := Kd.at_string (Kd.R_reads' HO_5.out).2.2 x6_1 p111 q111
         obtain rfl : ad110 = ad111 := (by injection e111)
         replace p111 := eq_true p111
         replace q111 := eq_true q111
         have p11 : 0 ≤ (x7_2 : Int) := xD
         have q11 : x7_2 < ((rdOf ByteArray.empty t107 x6_1).size : Int) := xD
         have hx11 := bt_at (rdOf ByteArray.empty t107 x6_1) x7_2
         replace p11 := eq_true p11
         replace q11 := eq_true q11
         go_wp2
         go_roundg k2
         case measure => have := HK1.out; have := HK2.out; omega
         case rel => exact ⟨(wrap64 (x7_2 + 1)), xR, H', ⟨by have := HK1.out; have := HK2.out; omega⟩, ⟨by (with_reducible repeat (first | apply Kd.R_alloc | apply Kd.R_drewN | apply Kd.R_drew)); exact HO_5.out⟩, ⟨xB⟩⟩
        rw [if_neg c13] at H
        have c13b0 := decide_eq_false c13
        clear c13
        by_cases c14 : (bt (rdOf ByteArray.empty t107 x6_1) x7_2) ≥ 65
        ·
         rw [if_pos c14] at H
         have c14b0 := decide_eq_true c14
         clear c14
         by_cases c15 : ((bt (rdOf ByteArray.empty t107 x6_1) x7_2) ≤ 90)
         ·
          rw [if_pos c15] at H
          have c15b0 := decide_eq_true c15
          clear c15
          have H' := Aside0.mk H
          clear H
          have p110 : 0 ≤ (x6_1 : Int) := xD
          have q110 : x6_1 < (t107.length : Int) := xD
          obtain ⟨ad110, e110, hx110_0⟩ := Kd.at_string (Kd.R_reads' HO_5.out).2.2 x6_1 p110 q110
          cases e110
          replace p110 := eq_true p110
          replace q110 := eq_true q110
          have p111 : 0 ≤ (x6_1 : Int) := xD
          have q111 : x6_1 < (t107.length : Int) := xD
          obtain ⟨ad111, e111, hx111_0⟩ := Kd.at_string (Kd.R_reads' HO_5.out).2.2 x6_1 p111 q111
          obtain rfl : ad110 = ad111 := (by injection e111)
          replace p111 := eq_true p111
          replace q111 := eq_true q111
          have p11 : 0 ≤ (x7_2 : Int) := xD
          have q11 : x7_2 < ((rdOf ByteArray.empty t107 x6_1).size : Int) := xD
          have hx11 := bt_at (rdOf ByteArray.empty t107 x6_1) x7_2
          replace p11 := eq_true p11
          replace q11 := eq_true q11
          go_wp2
          go_roundg k2
          case measure => have := HK1.out; have := HK2.out; omega
          case rel => exact ⟨(wrap64 (x7_2 + 1)), xR, H', ⟨by have := HK1.out; have := HK2.out; omega⟩, ⟨by (with_reducible repeat (first | apply Kd.R_alloc | apply Kd.R_drewN | apply Kd.R_drew)); exact HO_5.out⟩, ⟨xB⟩⟩
         rw [if_neg c15] at H
         have c15b0 := decide_eq_false c15
         clear c15
         by_cases c16 : (bt (rdOf ByteArray.empty t107 x6_1) x7_2) ≥ 48
         ·
          rw [if_pos c16] at H
          have c16b0 := decide_eq_true c16
          clear c16
          by_cases c17 : ((bt (rdOf ByteArray.empty t107 x6_1) x7_2) ≤ 57)
          ·
           rw [if_pos c17] at H
           have c17b0 := decide_eq_true c17
           clear c17
           have H' := Aside0.mk H
           clear H
           have p110 : 0 ≤ (x6_1 : Int) := xD
           have q110 : x6_1 < (t107.length : Int) := xD
           obtain ⟨ad110, e110, hx110_0⟩ := Kd.at_string (Kd.R_reads' HO_5.out).2.2 x6_1 p110 q110
           cases e110
           replace p110 := eq_true p110
           replace q110 := eq_true q110
           have p111 : 0 ≤ (x6_1 : Int) := xD
           have q111 : x6_1 < (t107.length : Int) := xD
           obtain ⟨ad111, e111, hx111_0⟩ := Kd.at_string (Kd.R_reads' HO_5.out).2.2 x6_1 p111 q111
           obtain rfl : ad110 = ad111 := (by injection e111)
           replace p111 := eq_true p111
           replace q111 := eq_true q111
           have p11 : 0 ≤ (x7_2 : Int) := xD
           have q11 : x7_2 < ((rdOf ByteArray.empty t107 x6_1).size : Int) := xD
           have hx11 := bt_at (rdOf ByteArray.empty t107 x6_1) x7_2
           replace p11 := eq_true p11
           replace q11 := eq_true q11
           go_wp2
           go_roundg k2
           case measure => have := HK1.out; have := HK2.out; omega
           case rel => exact ⟨(wrap64 (x7_2 + 1)), xR, H', ⟨by have := HK1.out; have := HK2.out; omega⟩, ⟨by (with_reducible repeat (first | apply Kd.R_alloc | apply Kd.R_drewN | apply Kd.R_drew)); exact HO_5.out⟩, ⟨xB⟩⟩
          rw [if_neg c17] at H
          have c17b0 := decide_eq_false c17
          clear c17
          by_cases c18 : (bt (rdOf ByteArray.empty t107 x6_1) x7_2) = 45
          ·
           rw [if_pos c18] at H
           have c18b0 := beq_iff_eq.mpr c18
           have c18b1 := bne_eq_false_iff_eq.mpr c18
           clear c18
           have H' := Aside0.mk H
           clear H
           have p110 : 0 ≤ (x6_1 : Int) := xD
           have q110 : x6_1 < (t107.length : Int) := xD
           obtain ⟨ad110, e110, hx110_0⟩ := Kd.at_string (Kd.R_reads' HO_5.out).2.2 x6_1 p110 q110
           cases e110
           replace p110 := eq_true p110
           replace q110 := eq_true q110
           have p111 : 0 ≤ (x6_1 : Int) := xD
           have q111 : x6_1 < (t107.length : Int) := xD
           obtain ⟨ad111, e111, hx111_0⟩ := Kd.at_string (Kd.R_reads' HO_5.out).2.2 x6_1 p111 q111
           obtain rfl : ad110 = ad111 := (by injection e111)
           replace p111 := eq_true p111
           replace q111 := eq_true q111
           have p11 : 0 ≤ (x7_2 : Int) := xD
           have q11 : x7_2 < ((rdOf ByteArray.empty t107 x6_1).size : Int) := xD
           have hx11 := bt_at (rdOf ByteArray.empty t107 x6_1) x7_2
           replace p11 := eq_true p11
           replace q11 := eq_true q11
           go_wp2
           go_roundg k2
           case measure => have := HK1.out; have := HK2.out; omega
           case rel => exact ⟨(wrap64 (x7_2 + 1)), xR, H', ⟨by have := HK1.out; have := HK2.out; omega⟩, ⟨by (with_reducible repeat (first | apply Kd.R_alloc | apply Kd.R_drewN | apply Kd.R_drew)); exact HO_5.out⟩, ⟨xB⟩⟩
          rw [if_neg c18] at H
          have c18b0 := beq_eq_false_iff_ne.mpr c18
          have c18b1 := bne_iff_ne.mpr c18
          obtain rfl := Option.some.inj H
          have p110 : 0 ≤ (x6_1 : Int) := xD
          have q110 : x6_1 < (t107.length : Int) := xD
          obtain ⟨ad110, e110, hx110_0⟩ := Kd.at_string (Kd.R_reads' HO_5.out).2.2 x6_1 p110 q110
          cases e110
          replace p110 := eq_true p110
          replace q110 := eq_true q110
          have p111 : 0 ≤ (x6_1 : Int) := xD
          have q111 : x6_1 < (t107.length : Int) := xD
          obtain ⟨ad111, e111, hx111_0⟩ := Kd.at_string (Kd.R_reads' HO_5.out).2.2 x6_1 p111 q111
          obtain rfl : ad110 = ad111 := (by injection e111)
          replace p111 := eq_true p111
          replace q111 := eq_true q111
          have p11 : 0 ≤ (x7_2 : Int) := xD
          have q11 : x7_2 < ((rdOf ByteArray.empty t107 x6_1).size : Int) := xD
          have hx11 := bt_at (rdOf ByteArray.empty t107 x6_1) x7_2
          replace p11 := eq_true p11
          replace q11 := eq_true q11
          go_wp2
          go_ret
          exact ⟨by first | rfl | (simp [errW_none, errW_some] <;> rfl) | (simp [*, errW_none, errW_some] <;> rfl) | (simp [isEmpty_bne]; done), xB⟩
         rw [if_neg c16] at H
         have c16b0 := decide_eq_false c16
         clear c16
         by_cases c19 : (bt (rdOf ByteArray.empty t107 x6_1) x7_2) = 45
         ·
          rw [if_pos c19] at H
          have c19b0 := beq_iff_eq.mpr c19
          have c19b1 := bne_eq_false_iff_eq.mpr c19
          clear c19
          have H' := Aside0.mk H
          clear H
          have p110 : 0 ≤ (x6_1 : Int) := xD
          have q110 : x6_1 < (t107.length : Int) := xD
          obtain ⟨ad110, e110, hx110_0⟩ := Kd.at_string (Kd.R_reads' HO_5.out).2.2 x6_1 p110 q110
          cases e110
          replace p110 := eq_true p110
          replace q110 := eq_true q110
          have p111 : 0 ≤ (x6_1 : Int) := xD
          have q111 : x6_1 < (t107.length : Int) := xD
          obtain ⟨ad111, e111, hx111_0⟩ := Kd.at_string (Kd.R_reads' HO_5.out).2.2 x6_1 p111 q111
          obtain rfl : ad110 = ad111 := (by injection e111)
          replace p111 := eq_true p111
          replace q111 := eq_true q111
          have p11 : 0 ≤ (x7_2 : Int) := xD
          have q11 : x7_2 < ((rdOf ByteArray.empty t107 x6_1).size : Int) := xD
          have hx11 := bt_at (rdOf ByteArray.empty t107 x6_1) x7_2
          replace p11 := eq_true p11
          replace q11 := eq_true q11
          go_wp2
          go_roundg k2
          case measure => have := HK1.out; have := HK2.out; omega
          case rel => exact ⟨(wrap64 (x7_2 + 1)), xR, H', ⟨by have := HK1.out; have := HK2.out; omega⟩, ⟨by (with_reducible repeat (first | apply Kd.R_alloc | apply Kd.R_drewN | apply Kd.R_drew)); exact HO_5.out⟩, ⟨xB⟩⟩
         rw [if_neg c19] at H
         have c19b0 := beq_eq_false_iff_ne.mpr c19
         have c19b1 := bne_iff_ne.mpr c19
         obtain rfl := Option.some.inj H
         have p110 : 0 ≤ (x6_1 : Int) := xD
         have q110 : x6_1 < (t107.length : Int) := xD
         obtain ⟨ad110, e110, hx110_0⟩ := Kd.at_string (Kd.R_reads' HO_5.out).2.2 x6_1 p110 q110
         cases e110
         replace p110 := eq_true p110
         replace q110 := eq_true q110
         have p111 : 0 ≤ (x6_1 : Int) := xD
         have q111 : x6_1 < (t107.length : Int) := xD
         obtain ⟨ad111, e111, hx111_0⟩ := Kd.at_string (Kd.R_reads' HO_5.out).2.2 x6_1 p111 q111
         obtain rfl : ad110 = ad111 := (by injection e111)
         replace p111 := eq_true p111
         replace q111 := eq_true q111
         have p11 : 0 ≤ (x7_2 : Int) := xD
         have q11 : x7_2 < ((rdOf ByteArray.empty t107 x6_1).size : Int) := xD
         have hx11 := bt_at (rdOf ByteArray.empty t107 x6_1) x7_2
         replace p11 := eq_true p11
         replace q11 := eq_true q11
         go_wp2
         go_ret
         exact ⟨by first | rfl | (simp [errW_none, errW_some] <;> rfl) | (simp [*, errW_none, errW_some] <;> rfl) | (simp [isEmpty_bne]; done), xB⟩
        rw [if_neg c14] at H
        have c14b0 := decide_eq_false c14
        clear c14
        by_cases c20 : (bt (rdOf ByteArray.empty t107 x6_1) x7_2) ≥ 48
        ·
         rw [if_pos c20] at H
         have c20b0 := decide_eq_true c20
         clear c20
         by_cases c21 : ((bt (rdOf ByteArray.empty t107 x6_1) x7_2) ≤ 57)
         ·
          rw [if_pos c21] at H
          have c21b0 := decide_eq_true c21
          clear c21
          have H' := Aside0.mk H
          clear H
          have p110 : 0 ≤ (x6_1 : Int) := xD
          have q110 : x6_1 < (t107.length : Int) := xD
          obtain ⟨ad110, e110, hx110_0⟩ := Kd.at_string (Kd.R_reads' HO_5.out).2.2 x6_1 p110 q110
          cases e110
          replace p110 := eq_true p110
          replace q110 := eq_true q110
          have p111 : 0 ≤ (x6_1 : Int) := xD
          have q111 : x6_1 < (t107.length : Int) := xD
          obtain ⟨ad111, e111, hx111_0⟩ := Kd.at_string (Kd.R_reads' HO_5.out).2.2 x6_1 p111 q111
          obtain rfl : ad110 = ad111 := (by injection e111)
          replace p111 := eq_true p111
          replace q111 := eq_true q111
          have p11 : 0 ≤ (x7_2 : Int) := xD
          have q11 : x7_2 < ((rdOf ByteArray.empty t107 x6_1).size : Int) := xD
          have hx11 := bt_at (rdOf ByteArray.empty t107 x6_1) x7_2
          replace p11 := eq_true p11
          replace q11 := eq_true q11
          go_wp2
          go_roundg k2
          case measure => have := HK1.out; have := HK2.out; omega
          case rel => exact ⟨(wrap64 (x7_2 + 1)), xR, H', ⟨by have := HK1.out; have := HK2.out; omega⟩, ⟨by (with_reducible repeat (first | apply Kd.R_alloc | apply Kd.R_drewN | apply Kd.R_drew)); exact HO_5.out⟩, ⟨xB⟩⟩
         rw [if_neg c21] at H
         have c21b0 := decide_eq_false c21
         clear c21
         by_cases c22 : (bt (rdOf ByteArray.empty t107 x6_1) x7_2) = 45
         ·
          rw [if_pos c22] at H
          have c22b0 := beq_iff_eq.mpr c22
          have c22b1 := bne_eq_false_iff_eq.mpr c22
          clear c22
          have H' := Aside0.mk H
          clear H
          have p110 : 0 ≤ (x6_1 : Int) := xD
          have q110 : x6_1 < (t107.length : Int) := xD
          obtain ⟨ad110, e110, hx110_0⟩ := Kd.at_string (Kd.R_reads' HO_5.out).2.2 x6_1 p110 q110
          cases e110
          replace p110 := eq_true p110
          replace q110 := eq_true q110
          have p111 : 0 ≤ (x6_1 : Int) := xD
          have q111 : x6_1 < (t107.length : Int) := xD
          obtain ⟨ad111, e111, hx111_0⟩ := Kd.at_string (Kd.R_reads' HO_5.out).2.2 x6_1 p111 q111
          obtain rfl : ad110 = ad111 := (by injection e111)
          replace p111 := eq_true p111
          replace q111 := eq_true q111
          have p11 : 0 ≤ (x7_2 : Int) := xD
          have q11 : x7_2 < ((rdOf ByteArray.empty t107 x6_1).size : Int) := xD
          have hx11 := bt_at (rdOf ByteArray.empty t107 x6_1) x7_2
          replace p11 := eq_true p11
          replace q11 := eq_true q11
          go_wp2
          go_roundg k2
          case measure => have := HK1.out; have := HK2.out; omega
          case rel => exact ⟨(wrap64 (x7_2 + 1)), xR, H', ⟨by have := HK1.out; have := HK2.out; omega⟩, ⟨by (with_reducible repeat (first | apply Kd.R_alloc | apply Kd.R_drewN | apply Kd.R_drew)); exact HO_5.out⟩, ⟨xB⟩⟩
         rw [if_neg c22] at H
         have c22b0 := beq_eq_false_iff_ne.mpr c22
         have c22b1 := bne_iff_ne.mpr c22
         obtain rfl := Option.some.inj H
         have p110 : 0 ≤ (x6_1 : Int) := xD
         have q110 : x6_1 < (t107.length : Int) := xD
         obtain ⟨ad110, e110, hx110_0⟩ := Kd.at_string (Kd.R_reads' HO_5.out).2.2 x6_1 p110 q110
         cases e110
         replace p110 := eq_true p110
         replace q110 := eq_true q110
         have p111 : 0 ≤ (x6_1 : Int) := xD
         have q111 : x6_1 < (t107.length : Int) := xD
         obtain ⟨ad111, e111, hx111_0⟩ := Kd.at_string (Kd.R_reads' HO_5.out).2.2 x6_1 p111 q111
         obtain rfl : ad110 = ad111 := (by injection e111)
         replace p111 := eq_true p111
         replace q111 := eq_true q111
         have p11 : 0 ≤ (x7_2 : Int) := xD
         have q11 : x7_2 < ((rdOf ByteArray.empty t107 x6_1).size : Int) := xD
         have hx11 := bt_at (rdOf ByteArray.empty t107 x6_1) x7_2
         replace p11 := eq_true p11
         replace q11 := eq_true q11
         go_wp2
         go_ret
         exact ⟨by first | rfl | (simp [errW_none, errW_some] <;> rfl) | (simp [*, errW_none, errW_some] <;> rfl) | (simp [isEmpty_bne]; done), xB⟩
        rw [if_neg c20] at H
        have c20b0 := decide_eq_false c20
        clear c20
        by_cases c23 : (bt (rdOf ByteArray.empty t107 x6_1) x7_2) = 45
        ·
         rw [if_pos c23] at H
         have c23b0 := beq_iff_eq.mpr c23
         have c23b1 := bne_eq_false_iff_eq.mpr c23
         clear c23
         have H' := Aside0.mk H
         clear H
         have p110 : 0 ≤ (x6_1 : Int) := xD
         have q110 : x6_1 < (t107.length : Int) := xD
         obtain ⟨ad110, e110, hx110_0⟩ := Kd.at_string (Kd.R_reads' HO_5.out).2.2 x6_1 p110 q110
         cases e110
         replace p110 := eq_true p110
         replace q110 := eq_true q110
         have p111 : 0 ≤ (x6_1 : Int) := xD
         have q111 : x6_1 < (t107.length : Int) := xD
         obtain ⟨ad111, e111, hx111_0⟩ := Kd.at_string (Kd.R_reads' HO_5.out).2.2 x6_1 p111 q111
         obtain rfl : ad110 = ad111 := (by injection e111)
         replace p111 := eq_true p111
         replace q111 := eq_true q111
         have p11 : 0 ≤ (x7_2 : Int) := xD
         have q11 : x7_2 < ((rdOf ByteArray.empty t107 x6_1).size : Int) := xD
         have hx11 := bt_at (rdOf ByteArray.empty t107 x6_1) x7_2
         replace p11 := eq_true p11
         replace q11 := eq_true q11
         go_wp2
         go_roundg k2
         case measure => have := HK1.out; have := HK2.out; omega
         case rel => exact ⟨(wrap64 (x7_2 + 1)), xR, H', ⟨by have := HK1.out; have := HK2.out; omega⟩, ⟨by (with_reducible repeat (first | apply Kd.R_alloc | apply Kd.R_drewN | apply Kd.R_drew)); exact HO_5.out⟩, ⟨xB⟩⟩
        rw [if_neg c23] at H
        have c23b0 := beq_eq_false_iff_ne.mpr c23
        have c23b1 := bne_iff_ne.mpr c23
        obtain rfl := Option.some.inj H
        have p110 : 0 ≤ (x6_1 : Int) := xD
        have q110 : x6_1 < (t107.length : Int) := xD
        obtain ⟨ad110, e110, hx110_0⟩ := Kd.at_string (Kd.R_reads' HO_5.out).2.2 x6_1 p110 q110
        cases e110
        replace p110 := eq_true p110
        replace q110 := eq_true q110
        have p111 : 0 ≤ (x6_1 : Int) := xD
        have q111 : x6_1 < (t107.length : Int) := xD
        obtain ⟨ad111, e111, hx111_0⟩ := Kd.at_string (Kd.R_reads' HO_5.out).2.2 x6_1 p111 q111
        obtain rfl : ad110 = ad111 := (by injection e111)
        replace p111 := eq_true p111
        replace q111 := eq_true q111
        have p11 : 0 ≤ (x7_2 : Int) := xD
        have q11 : x7_2 < ((rdOf ByteArray.empty t107 x6_1).size : Int) := xD
        have hx11 := bt_at (rdOf ByteArray.empty t107 x6_1) x7_2
        replace p11 := eq_true p11
        replace q11 := eq_true q11
        go_wp2
        go_ret
        exact ⟨by first | rfl | (simp [errW_none, errW_some] <;> rfl) | (simp [*, errW_none, errW_some] <;> rfl) | (simp [isEmpty_bne]; done), xB⟩
       rw [if_neg c12] at H
       have c12b0 := decide_eq_false c12
       clear c12
       by_cases c24 : (bt (rdOf ByteArray.empty t107 x6_1) x7_2) ≥ 65
       ·
        rw [if_pos c24] at H
        have c24b0 := decide_eq_true c24
        clear c24
        by_cases c25 : ((bt (rdOf ByteArray.empty t107 x6_1) x7_2) ≤ 90)
        ·
         rw [if_pos c25] at H
         have c25b0 := decide_eq_true c25
         clear c25
         have H' := Aside0.mk H
         clear H
         have p110 : 0 ≤ (x6_1 : Int) := xD
         have q110 : x6_1 < (t107.length : Int) := xD
         obtain ⟨ad110, e110, hx110_0⟩ := Kd.at_string (Kd.R_reads' HO_5.out).2.2 x6_1 p110 q110
         cases e110
         replace p110 := eq_true p110
         replace q110 := eq_true q110
         have p111 : 0 ≤ (x6_1 : Int) := xD
         have q111 : x6_1 < (t107.length : Int) := xD
         obtain ⟨ad111, e111, hx111_0⟩ := Kd.at_string (Kd.R_reads' HO_5.out).2.2 x6_1 p111 q111
         obtain rfl : ad110 = ad111 := (by injection e111)
         replace p111 := eq_true p111
         replace q111 := eq_true q111
         have p11 : 0 ≤ (x7_2 : Int) := xD
         have q11 : x7_2 < ((rdOf ByteArray.empty t107 x6_1).size : Int) := xD
         have hx11 := bt_at (rdOf ByteArray.empty t107 x6_1) x7_2
         replace p11 := eq_true p11
         replace q11 := eq_true q11
         go_wp2
         go_roundg k2
         case measure => have := HK1.out; have := HK2.out; omega
         case rel => exact ⟨(wrap64 (x7_2 + 1)), xR, H', ⟨by have := HK1.out; have := HK2.out; omega⟩, ⟨by (with_reducible repeat (first | apply Kd.R_alloc | apply Kd.R_drewN | apply Kd.R_drew)); exact HO_5.out⟩, ⟨xB⟩⟩
        rw [if_neg c25] at H
        have c25b0 := decide_eq_false c25
        clear c25
        by_cases c26 : (bt (rdOf ByteArray.empty t107 x6_1) x7_2) ≥ 48
        ·
         rw [if_pos c26] at H
         have c26b0 := decide_eq_true c26
         clear c26
         by_cases c27 : ((bt (rdOf ByteArray.empty t107 x6_1) x7_2) ≤ 57)
         ·
          rw [if_pos c27] at H
          have c27b0 := decide_eq_true c27
          clear c27
          have H' := Aside0.mk H
          clear H
          have p110 : 0 ≤ (x6_1 : Int) := xD
          have q110 : x6_1 < (t107.length : Int) := xD
          obtain ⟨ad110, e110, hx110_0⟩ := Kd.at_string (Kd.R_reads' HO_5.out).2.2 x6_1 p110 q110
          cases e110
          replace p110 := eq_true p110
          replace q110 := eq_true q110
          have p111 : 0 ≤ (x6_1 : Int) := xD
          have q111 : x6_1 < (t107.length : Int) := xD
          obtain ⟨ad111, e111, hx111_0⟩ := Kd.at_string (Kd.R_reads' HO_5.out).2.2 x6_1 p111 q111
          obtain rfl : ad110 = ad111 := (by injection e111)
          replace p111 := eq_true p111
          replace q111 := eq_true q111
          have p11 : 0 ≤ (x7_2 : Int) := xD
          have q11 : x7_2 < ((rdOf ByteArray.empty t107 x6_1).size : Int) := xD
          have hx11 := bt_at (rdOf ByteArray.empty t107 x6_1) x7_2
          replace p11 := eq_true p11
          replace q11 := eq_true q11
          go_wp2
          go_roundg k2
          case measure => have := HK1.out; have := HK2.out; omega
          case rel => exact ⟨(wrap64 (x7_2 + 1)), xR, H', ⟨by have := HK1.out; have := HK2.out; omega⟩, ⟨by (with_reducible repeat (first | apply Kd.R_alloc | apply Kd.R_drewN | apply Kd.R_drew)); exact HO_5.out⟩, ⟨xB⟩⟩
         rw [if_neg c27] at H
         have c27b0 := decide_eq_false c27
         clear c27
         by_cases c28 : (bt (rdOf ByteArray.empty t107 x6_1) x7_2) = 45
         ·
          rw [if_pos c28] at H
          have c28b0 := beq_iff_eq.mpr c28
          have c28b1 := bne_eq_false_iff_eq.mpr c28
          clear c28
          have H' := Aside0.mk H
          clear H
          have p110 : 0 ≤ (x6_1 : Int) := xD
          have q110 : x6_1 < (t107.length : Int) := xD
          obtain ⟨ad110, e110, hx110_0⟩ := Kd.at_string (Kd.R_reads' HO_5.out).2.2 x6_1 p110 q110
          cases e110
          replace p110 := eq_true p110
          replace q110 := eq_true q110
          have p111 : 0 ≤ (x6_1 : Int) := xD
          have q111 : x6_1 < (t107.length : Int) := xD
          obtain ⟨ad111, e111, hx111_0⟩ := Kd.at_string (Kd.R_reads' HO_5.out).2.2 x6_1 p111 q111
          obtain rfl : ad110 = ad111 := (by injection e111)
          replace p111 := eq_true p111
          replace q111 := eq_true q111
          have p11 : 0 ≤ (x7_2 : Int) := xD
          have q11 : x7_2 < ((rdOf ByteArray.empty t107 x6_1).size : Int) := xD
          have hx11 := bt_at (rdOf ByteArray.empty t107 x6_1) x7_2
          replace p11 := eq_true p11
          replace q11 := eq_true q11
          go_wp2
          go_roundg k2
          case measure => have := HK1.out; have := HK2.out; omega
          case rel => exact ⟨(wrap64 (x7_2 + 1)), xR, H', ⟨by have := HK1.out; have := HK2.out; omega⟩, ⟨by (with_reducible repeat (first | apply Kd.R_alloc | apply Kd.R_drewN | apply Kd.R_drew)); exact HO_5.out⟩, ⟨xB⟩⟩
         rw [if_neg c28] at H
         have c28b0 := beq_eq_false_iff_ne.mpr c28
         have c28b1 := bne_iff_ne.mpr c28
         obtain rfl := Option.some.inj H
         have p110 : 0 ≤ (x6_1 : Int) := xD
         have q110 : x6_1 < (t107.length : Int) := xD
         obtain ⟨ad110, e110, hx110_0⟩ := Kd.at_string (Kd.R_reads' HO_5.out).2.2 x6_1 p110 q110
         cases e110
         replace p110 := eq_true p110
         replace q110 := eq_true q110
         have p111 : 0 ≤ (x6_1 : Int) := xD
         have q111 : x6_1 < (t107.length : Int) := xD
         obtain ⟨ad111, e111, hx111_0⟩ := Kd.at_string (Kd.R_reads' HO_5.out).2.2 x6_1 p111 q111
         obtain rfl : ad110 = ad111 := (by injection e111)
         replace p111 := eq_true p111
         replace q111 := eq_true q111
         have p11 : 0 ≤ (x7_2 : Int) := xD
         have q11 : x7_2 < ((rdOf ByteArray.empty t107 x6_1).size : Int) := xD
         have hx11 := bt_at (rdOf ByteArray.empty t107 x6_1) x7_2
         replace p11 := eq_true p11
         replace q11 := eq_true q11
         go_wp2
         go_ret
         exact ⟨by first | rfl | (simp [errW_none, errW_some] <;> rfl) | (simp [*, errW_none, errW_some] <;> rfl) | (simp [isEmpty_bne]; done), xB⟩
        rw [if_neg c26] at H
        have c26b0 := decide_eq_false c26
        clear c26
        by_cases c29 : (bt (rdOf ByteArray.empty t107 x6_1) x7_2) = 45
        ·
         rw [if_pos c29] at H
         have c29b0 := beq_iff_eq.mpr c29
         have c29b1 := bne_eq_false_iff_eq.mpr c29
         clear c29
         have H' := Aside0.mk H
         clear H
         have p110 : 0 ≤ (x6_1 : Int) := xD
         have q110 : x6_1 < (t107.length : Int) := xD
         obtain ⟨ad110, e110, hx110_0⟩ := Kd.at_string (Kd.R_reads' HO_5.out).2.2 x6_1 p110 q110
         cases e110
         replace p110 := eq_true p110
         replace q110 := eq_true q110
         have p111 : 0 ≤ (x6_1 : Int) := xD
         have q111 : x6_1 < (t107.length : Int) := xD
         obtain ⟨ad111, e111, hx111_0⟩ := Kd.at_string (Kd.R_reads' HO_5.out).2.2 x6_1 p111 q111
         obtain rfl : ad110 = ad111 := (by injection e111)
         replace p111 := eq_true p111
         replace q111 := eq_true q111
         have p11 : 0 ≤ (x7_2 : Int) := xD
         have q11 : x7_2 < ((rdOf ByteArray.empty t107 x6_1).size : Int) := xD
         have hx11 := bt_at (rdOf ByteArray.empty t107 x6_1) x7_2
         replace p11 := eq_true p11
         replace q11 := eq_true q11
         go_wp2
         go_roundg k2
         case measure => have := HK1.out; have := HK2.out; omega
         case rel => exact ⟨(wrap64 (x7_2 + 1)), xR, H', ⟨by have := HK1.out; have := HK2.out; omega⟩, ⟨by (with_reducible repeat (first | apply Kd.R_alloc | apply Kd.R_drewN | apply Kd.R_drew)); exact HO_5.out⟩, ⟨xB⟩⟩
        rw [if_neg c29] at H
        have c29b0 := beq_eq_false_iff_ne.mpr c29
        have c29b1 := bne_iff_ne.mpr c29
        obtain rfl := Option.some.inj H
        have p110 : 0 ≤ (x6_1 : Int) := xD
        have q110 : x6_1 < (t107.length : Int) := xD
        obtain ⟨ad110, e110, hx110_0⟩ := Kd.at_string (Kd.R_reads' HO_5.out).2.2 x6_1 p110 q110
        cases e110
        replace p110 := eq_true p110
        replace q110 := eq_true q110
        have p111 : 0 ≤ (x6_1 : Int) := xD
        have q111 : x6_1 < (t107.length : Int) := xD
        obtain ⟨ad111, e111, hx111_0⟩ := Kd.at_string (Kd.R_reads' HO_5.out).2.2 x6_1 p111 q111
        obtain rfl : ad110 = ad111 := (by injection e111)
        replace p111 := eq_true p111
        replace q111 := eq_true q111
        have p11 : 0 ≤ (x7_2 : Int) := xD
        have q11 : x7_2 < ((rdOf ByteArray.empty t107 x6_1).size : Int) := xD
        have hx11 := bt_at (rdOf ByteArray.empty t107 x6_1) x7_2
        replace p11 := eq_true p11
        replace q11 := eq_true q11
        go_wp2
        go_ret
        exact ⟨by first | rfl | (simp [errW_none, errW_some] <;> rfl) | (simp [*, errW_none, errW_some] <;> rfl) | (simp [isEmpty_bne]; done), xB⟩
       rw [if_neg c24] at H
       have c24b0 := decide_eq_false c24
       clear c24
       by_cases c30 : (bt (rdOf ByteArray.empty t107 x6_1) x7_2) ≥ 48
       ·
        rw [if_pos c30] at H
        have c30b0 := decide_eq_true c30
        clear c30
        by_cases c31 : ((bt (rdOf ByteArray.empty t107 x6_1) x7_2) ≤ 57)
        ·
         rw [if_pos c31] at H
         have c31b0 := decide_eq_true c31
         clear c31
         have H' := Aside0.mk H
         clear H
         have p110 : 0 ≤ (x6_1 : Int) := xD
         have q110 : x6_1 < (t107.length : Int) := xD
         obtain ⟨ad110, e110, hx110_0⟩ := Kd.at_string (Kd.R_reads' HO_5.out).2.2 x6_1 p110 q110
         cases e110
         replace p110 := eq_true p110
         replace q110 := eq_true q110
         have p111 : 0 ≤ (x6_1 : Int) := xD
         have q111 : x6_1 < (t107.length : Int) := xD
         obtain ⟨ad111, e111, hx111_0⟩ := Kd.at_string (Kd.R_reads' HO_5.out).2.2 x6_1 p111 q111
         obtain rfl : ad110 = ad111 := (by injection e111)
         replace p111 := eq_true p111
         replace q111 := eq_true q111
         have p11 : 0 ≤ (x7_2 : Int) := xD
         have q11 : x7_2 < ((rdOf ByteArray.empty t107 x6_1).size : Int) := xD
         have hx11 := bt_at (rdOf ByteArray.empty t107 x6_1) x7_2
         replace p11 := eq_true p11
         replace q11 := eq_true q11
         go_wp2
         go_roundg k2
         case measure => have := HK1.out; have := HK2.out; omega
         case rel => exact ⟨(wrap64 (x7_2 + 1)), xR, H', ⟨by have := HK1.out; have := HK2.out; omega⟩, ⟨by (with_reducible repeat (first | apply Kd.R_alloc | apply Kd.R_drewN | apply Kd.R_drew)); exact HO_5.out⟩, ⟨xB⟩⟩
        rw [if_neg c31] at H
        have c31b0 := decide_eq_false c31
        clear c31
        by_cases c32 : (bt (rdOf ByteArray.empty t107 x6_1) x7_2) = 45
        ·
         rw [if_pos c32] at H
         have c32b0 := beq_iff_eq.mpr c32
         have c32b1 := bne_eq_false_iff_eq.mpr c32
         clear c32
         have H' := Aside0.mk H
         clear H
         have p110 : 0 ≤ (x6_1 : Int) := xD
         have q110 : x6_1 < (t107.length : Int) := xD
         obtain ⟨ad110, e110, hx110_0⟩ := Kd.at_string (Kd.R_reads' HO_5.out).2.2 x6_1 p110 q110
         cases e110
         replace p110 := eq_true p110
         replace q110 := eq_true q110
         have p111 : 0 ≤ (x6_1 : Int) := xD
         have q111 : x6_1 < (t107.length : Int) := xD
         obtain ⟨ad111, e111, hx111_0⟩ := Kd.at_string (Kd.R_reads' HO_5.out).2.2 x6_1 p111 q111
         obtain rfl : ad110 = ad111 := (by injection e111)
         replace p111 := eq_true p111
         replace q111 := eq_true q111
         have p11 : 0 ≤ (x7_2 : Int) := xD
         have q11 : x7_2 < ((rdOf ByteArray.empty t107 x6_1).size : Int) := xD
         have hx11 := bt_at (rdOf ByteArray.empty t107 x6_1) x7_2
         replace p11 := eq_true p11
         replace q11 := eq_true q11
         go_wp2
         go_roundg k2
         case measure => have := HK1.out; have := HK2.out; omega
         case rel => exact ⟨(wrap64 (x7_2 + 1)), xR, H', ⟨by have := HK1.out; have := HK2.out; omega⟩, ⟨by (with_reducible repeat (first | apply Kd.R_alloc | apply Kd.R_drewN | apply Kd.R_drew)); exact HO_5.out⟩, ⟨xB⟩⟩
        rw [if_neg c32] at H
        have c32b0 := beq_eq_false_iff_ne.mpr c32
        have c32b1 := bne_iff_ne.mpr c32
        obtain rfl := Option.some.inj H
        have p110 : 0 ≤ (x6_1 : Int) := xD
        have q110 : x6_1 < (t107.length : Int) := xD
        obtain ⟨ad110, e110, hx110_0⟩ := Kd.at_string (Kd.R_reads' HO_5.out).2.2 x6_1 p110 q110
        cases e110
        replace p110 := eq_true p110
        replace q110 := eq_true q110
        have p111 : 0 ≤ (x6_1 : Int) := xD
        have q111 : x6_1 < (t107.length : Int) := xD
        obtain ⟨ad111, e111, hx111_0⟩ := Kd.at_string (Kd.R_reads' HO_5.out).2.2 x6_1 p111 q111
        obtain rfl : ad110 = ad111 := (by injection e111)
        replace p111 := eq_true p111
        replace q111 := eq_true q111
        have p11 : 0 ≤ (x7_2 : Int) := xD
        have q11 : x7_2 < ((rdOf ByteArray.empty t107 x6_1).size : Int) := xD
        have hx11 := bt_at (rdOf ByteArray.empty t107 x6_1) x7_2
        replace p11 := eq_true p11
        replace q11 := eq_true q11
        go_wp2
        go_ret
        exact ⟨by first | rfl | (simp [errW_none, errW_some] <;> rfl) | (simp [*, errW_none, errW_some] <;> rfl) | (simp [isEmpty_bne]; done), xB⟩
       rw [if_neg c30] at H
       have c30b0 := decide_eq_false c30
       clear c30
       by_cases c33 : (bt (rdOf ByteArray.empty t107 x6_1) x7_2) = 45
       ·
        rw [if_pos c33] at H
        have c33b0 := beq_iff_eq.mpr c33
        have c33b1 := bne_eq_false_iff_eq.mpr c33
        clear c33
        have H' := Aside0.mk H
        clear H
        have p110 : 0 ≤ (x6_1 : Int) := xD
        have q110 : x6_1 < (t107.length : Int) := xD
        obtain ⟨ad110, e110, hx110_0⟩ := Kd.at_string (Kd.R_reads' HO_5.out).2.2 x6_1 p110 q110
        cases e110
        replace p110 := eq_true p110
        replace q110 := eq_true q110
        have p111 : 0 ≤ (x6_1 : Int) := xD
        have q111 : x6_1 < (t107.length : Int) := xD
        obtain ⟨ad111, e111, hx111_0⟩ := Kd.at_string (Kd.R_reads' HO_5.out).2.2 x6_1 p111 q111
        obtain rfl : ad110 = ad111 := (by injection e111)
        replace p111 := eq_true p111
        replace q111 := eq_true q111
        have p11 : 0 ≤ (x7_2 : Int) := xD
        have q11 : x7_2 < ((rdOf ByteArray.empty t107 x6_1).size : Int) := xD
        have hx11 := bt_at (rdOf ByteArray.empty t107 x6_1) x7_2
        replace p11 := eq_true p11
        replace q11 := eq_true q11
        go_wp2
        go_roundg k2
        case measure => have := HK1.out; have := HK2.out; omega
        case rel => exact ⟨(wrap64 (x7_2 + 1)), xR, H', ⟨by have := HK1.out; have := HK2.out; omega⟩, ⟨by (with_reducible repeat (first | apply Kd.R_alloc | apply Kd.R_drewN | apply Kd.R_drew)); exact HO_5.out⟩, ⟨xB⟩⟩
       rw [if_neg c33] at H
       have c33b0 := beq_eq_false_iff_ne.mpr c33
       have c33b1 := bne_iff_ne.mpr c33
       obtain rfl := Option.some.inj H
       have p110 : 0 ≤ (x6_1 : Int) := xD
       have q110 : x6_1 < (t107.length : Int) := xD
       obtain ⟨ad110, e110, hx110_0⟩ := Kd.at_string (Kd.R_reads' HO_5.out).2.2 x6_1 p110 q110
       cases e110
       replace p110 := eq_true p110
       replace q110 := eq_true q110
       have p111 : 0 ≤ (x6_1 : Int) := xD
       have q111 : x6_1 < (t107.length : Int) := xD
       obtain ⟨ad111, e111, hx111_0⟩ := Kd.at_string (Kd.R_reads' HO_5.out).2.2 x6_1 p111 q111
       obtain rfl : ad110 = ad111 := (by injection e111)
       replace p111 := eq_true p111
       replace q111 := eq_true q111
       have p11 : 0 ≤ (x7_2 : Int) := xD
       have q11 : x7_2 < ((rdOf ByteArray.empty t107 x6_1).size : Int) := xD
       have hx11 := bt_at (rdOf ByteArray.empty t107 x6_1) x7_2
       replace p11 := eq_true p11
       replace q11 := eq_true q11
       go_wp2
       go_ret
       exact ⟨by first | rfl | (simp [errW_none, errW_some] <;> rfl) | (simp [*, errW_none, errW_some] <;> rfl) | (simp [isEmpty_bne]; done), xB⟩
      rw [if_neg c9] at H
      have c9b0 := decide_eq_false c9
      clear c9
      by_cases c34 : (rdOf ByteArray.empty t107 x6_1).toList = ([] : List UInt8)
      ·
       rw [if_pos c34] at H
       have c34b0 := beq_iff_eq.mpr c34
       have c34b1 := bne_eq_false_iff_eq.mpr c34
       clear c34
       obtain rfl := Option.some.inj H
       have p110 : 0 ≤ (x6_1 : Int) := xD
       have q110 : x6_1 < (t107.length : Int) := xD
       obtain ⟨ad110, e110, hx110_0⟩ := Kd.at_string (Kd.R_reads' HO_5.out).2.2 x6_1 p110 q110
       cases e110
       replace p110 := eq_true p110
       replace q110 := eq_true q110
       have p112 : 0 ≤ (x6_1 : Int) := xD
       have q112 : x6_1 < (t107.length : Int) := xD
       obtain ⟨ad112, e112, hx112_0⟩ := Kd.at_string (Kd.R_reads' HO_5.out).2.2 x6_1 p112 q112
       obtain rfl : ad110 = ad112 := (by injection e112)
       replace p112 := eq_true p112
       replace q112 := eq_true q112
       go_wp2
       go_ret
       exact ⟨by first | rfl | (simp [errW_none, errW_some] <;> rfl) | (simp [*, errW_none, errW_some] <;> rfl) | (simp [isEmpty_bne]; done), xB⟩
      rw [if_neg c34] at H
      have c34b0 := beq_eq_false_iff_ne.mpr c34
      have c34b1 := bne_iff_ne.mpr c34
      by_cases c35 : a1 = true
      ·
       subst c35
       rw [if_pos rfl] at H
       have H' := Aside0.mk H
       clear H
       have p110 : 0 ≤ (x6_1 : Int) := xD
       have q110 : x6_1 < (t107.length : Int) := xD
       obtain ⟨ad110, e110, hx110_0⟩ := Kd.at_string (Kd.R_reads' HO_5.out).2.2 x6_1 p110 q110
       cases e110
       replace p110 := eq_true p110
       replace q110 := eq_true q110
       have p112 : 0 ≤ (x6_1 : Int) := xD
       have q112 : x6_1 < (t107.length : Int) := xD
       obtain ⟨ad112, e112, hx112_0⟩ := Kd.at_string (Kd.R_reads' HO_5.out).2.2 x6_1 p112 q112
       obtain rfl : ad110 = ad112 := (by injection e112)
       replace p112 := eq_true p112
       replace q112 := eq_true q112
       go_wp2
       go_roundg k2
       case measure => have := HK1.out; have := HK2.out; omega
       case rel => exact ⟨(wrap64 (x6_1 + 1)), xR, H', ⟨by have := HK1.out; have := HK2.out; omega⟩, ⟨by (with_reducible repeat (first | apply Kd.R_alloc | apply Kd.R_drewN | apply Kd.R_drew)); exact HO_5.out⟩, ⟨xB⟩⟩
      replace c35 := Bool.eq_false_iff.mpr c35
      subst c35
      rw [if_neg (show ¬ (false = true) by decide)] at H
      replace H := xb H
      obtain ⟨t114, A36, H⟩ := H
      by_cases c37 : t114 = true
      ·
       subst c37
       rw [if_pos rfl] at H
       by_cases c38 : ((rdOf ByteArray.empty t107 x6_1).size : Int) > 1
       ·
        rw [if_pos c38] at H
        have c38b0 := decide_eq_true c38
        have c38b1 : decide (1 < (rdOf ByteArray.empty t107 x6_1).size) = true := decide_eq_true (by omega)
        clear c38
        replace H := xI H
        obtain ⟨c39, H⟩ := H
        have c39b0 := decide_eq_true c39
        have c39b1 : decide (0 < (rdOf ByteArray.empty t107 x6_1).size) = true := decide_eq_true (by omega)
        clear c39
        by_cases c41 : (bt (rdOf ByteArray.empty t107 x6_1) 0) = 48
        ·
         rw [if_pos c41] at H
         have c41b0 := beq_iff_eq.mpr c41
         have c41b1 := bne_eq_false_iff_eq.mpr c41
         clear c41
         obtain rfl := Option.some.inj H
         have p110 : 0 ≤ (x6_1 : Int) := xD
         have q110 : x6_1 < (t107.length : Int) := xD
         obtain ⟨ad110, e110, hx110_0⟩ := Kd.at_string (Kd.R_reads' HO_5.out).2.2 x6_1 p110 q110
         cases e110
         replace p110 := eq_true p110
         replace q110 := eq_true q110
         have p112 : 0 ≤ (x6_1 : Int) := xD
         have q112 : x6_1 < (t107.length : Int) := xD
         obtain ⟨ad112, e112, hx112_0⟩ := Kd.at_string (Kd.R_reads' HO_5.out).2.2 x6_1 p112 q112
         obtain rfl : ad110 = ad112 := (by injection e112)
         replace p112 := eq_true p112
         replace q112 := eq_true q112
         have p113 : 0 ≤ (x6_1 : Int) := xD
         have q113 : x6_1 < (t107.length : Int) := xD
         obtain ⟨ad113, e113, hx113_0⟩ := Kd.at_string (Kd.R_reads' HO_5.out).2.2 x6_1 p113 q113
         obtain rfl : ad110 = ad113 := (by injection e113)
         replace p113 := eq_true p113
         replace q113 := eq_true q113
         go_wp2_with (first | (go_at_call 98; (with_reducible refine (armadaref07_digits.calls k2 (rdOf ByteArray.empty t107 x6_1) true _ A36.out).mono ?_); rintro e w' ⟨rfl, ⟨nd, rfl⟩⟩; have p115 : 0 ≤ (x6_1 : Int) := xD; have q115 : x6_1 < (t107.length : Int) := xD; obtain ⟨ad115, e115, hx115_0⟩ := Kd.at_string (Kd.R_reads' HO_5.out).2.2 x6_1 p115 q115; obtain rfl : ad110 = ad115 := (by injection e115); replace p115 := eq_true p115; replace q115 := eq_true q115; have p116 : 0 ≤ (x6_1 : Int) := xD; have q116 : x6_1 < (t107.length : Int) := xD; obtain ⟨ad116, e116, hx116_0⟩ := Kd.at_string (Kd.R_reads' HO_5.out).2.2 x6_1 p116 q116; obtain rfl : ad110 = ad116 := (by injection e116); replace p116 := eq_true p116; replace q116 := eq_true q116; have p40 : 0 ≤ (0 : Int) := (by omega); have q40 : 0 < (rdOf ByteArray.empty t107 x6_1).size := (by have : (0 : Int) < ((rdOf ByteArray.empty t107 x6_1).size : Int) := xD; omega); have hx40 : ∀ h : 0 < (rdOf ByteArray.empty t107 x6_1).size, (((rdOf ByteArray.empty t107 x6_1)[0]'h).toNat : Int) = bt (rdOf ByteArray.empty t107 x6_1) 0 := bt_at (rdOf ByteArray.empty t107 x6_1) 0; clear p40; have qi40 : (0 < ((rdOf ByteArray.empty t107 x6_1).size : Int)) = True := eq_true (xD); replace q40 := eq_true q40))
         go_ret
         exact ⟨by first | rfl | (simp [errW_none, errW_some] <;> rfl) | (simp [*, errW_none, errW_some] <;> rfl) | (simp [isEmpty_bne]; done), xB⟩
        rw [if_neg c41] at H
        have c41b0 := beq_eq_false_iff_ne.mpr c41
        have c41b1 := bne_iff_ne.mpr c41
        have H' := Aside0.mk H
        clear H
        have p110 : 0 ≤ (x6_1 : Int) := xD
        have q110 : x6_1 < (t107.length : Int) := xD
        obtain ⟨ad110, e110, hx110_0⟩ := Kd.at_string (Kd.R_reads' HO_5.out).2.2 x6_1 p110 q110
        cases e110
        replace p110 := eq_true p110
        replace q110 := eq_true q110
        have p112 : 0 ≤ (x6_1 : Int) := xD
        have q112 : x6_1 < (t107.length : Int) := xD
        obtain ⟨ad112, e112, hx112_0⟩ := Kd.at_string (Kd.R_reads' HO_5.out).2.2 x6_1 p112 q112
        obtain rfl : ad110 = ad112 := (by injection e112)
        replace p112 := eq_true p112
        replace q112 := eq_true q112
        have p113 : 0 ≤ (x6_1 : Int) := xD
        have q113 : x6_1 < (t107.length : Int) := xD
        obtain ⟨ad113, e113, hx113_0⟩ := Kd.at_string (Kd.R_reads' HO_5.out).2.2 x6_1 p113 q113
        obtain rfl : ad110 = ad113 := (by injection e113)
        replace p113 := eq_true p113
        replace q113 := eq_true q113
        go_wp2_with (first | (go_at_call 98; (with_reducible refine (armadaref07_digits.calls k2 (rdOf ByteArray.empty t107 x6_1) true _ A36.out).mono ?_); rintro e w' ⟨rfl, ⟨nd, rfl⟩⟩; have p115 : 0 ≤ (x6_1 : Int) := xD; have q115 : x6_1 < (t107.length : Int) := xD; obtain ⟨ad115, e115, hx115_0⟩ := Kd.at_string (Kd.R_reads' HO_5.out).2.2 x6_1 p115 q115; obtain rfl : ad110 = ad115 := (by injection e115); replace p115 := eq_true p115; replace q115 := eq_true q115; have p116 : 0 ≤ (x6_1 : Int) := xD; have q116 : x6_1 < (t107.length : Int) := xD; obtain ⟨ad116, e116, hx116_0⟩ := Kd.at_string (Kd.R_reads' HO_5.out).2.2 x6_1 p116 q116; obtain rfl : ad110 = ad116 := (by injection e116); replace p116 := eq_true p116; replace q116 := eq_true q116; have p40 : 0 ≤ (0 : Int) := (by omega); have q40 : 0 < (rdOf ByteArray.empty t107 x6_1).size := (by have : (0 : Int) < ((rdOf ByteArray.empty t107 x6_1).size : Int) := xD; omega); have hx40 : ∀ h : 0 < (rdOf ByteArray.empty t107 x6_1).size, (((rdOf ByteArray.empty t107 x6_1)[0]'h).toNat : Int) = bt (rdOf ByteArray.empty t107 x6_1) 0 := bt_at (rdOf ByteArray.empty t107 x6_1) 0; clear p40; have qi40 : (0 < ((rdOf ByteArray.empty t107 x6_1).size : Int)) = True := eq_true (xD); replace q40 := eq_true q40))
        go_roundg k2
        case measure => have := HK1.out; have := HK2.out; omega
        case rel => exact ⟨(wrap64 (x6_1 + 1)), xR, H', ⟨by have := HK1.out; have := HK2.out; omega⟩, ⟨by (with_reducible repeat (first | apply Kd.R_alloc | apply Kd.R_drewN | apply Kd.R_drew)); exact HO_5.out⟩, ⟨xB⟩⟩
       rw [if_neg c38] at H
       have c38b0 := decide_eq_false c38
       have c38b1 : decide (1 < (rdOf ByteArray.empty t107 x6_1).size) = false := decide_eq_false (by omega)
       clear c38
       have H' := Aside0.mk H
       clear H
       have p110 : 0 ≤ (x6_1 : Int) := xD
       have q110 : x6_1 < (t107.length : Int) := xD
       obtain ⟨ad110, e110, hx110_0⟩ := Kd.at_string (Kd.R_reads' HO_5.out).2.2 x6_1 p110 q110
       cases e110
       replace p110 := eq_true p110
       replace q110 := eq_true q110
       have p112 : 0 ≤ (x6_1 : Int) := xD
       have q112 : x6_1 < (t107.length : Int) := xD
       obtain ⟨ad112, e112, hx112_0⟩ := Kd.at_string (Kd.R_reads' HO_5.out).2.2 x6_1 p112 q112
       obtain rfl : ad110 = ad112 := (by injection e112)
       replace p112 := eq_true p112
       replace q112 := eq_true q112
       have p113 : 0 ≤ (x6_1 : Int) := xD
       have q113 : x6_1 < (t107.length : Int) := xD
       obtain ⟨ad113, e113, hx113_0⟩ := Kd.at_string (Kd.R_reads' HO_5.out).2.2 x6_1 p113 q113
       obtain rfl : ad110 = ad113 := (by injection e113)
       replace p113 := eq_true p113
       replace q113 := eq_true q113
       go_wp2_with (first | (go_at_call 98; (with_reducible refine (armadaref07_digits.calls k2 (rdOf ByteArray.empty t107 x6_1) true _ A36.out).mono ?_); rintro e w' ⟨rfl, ⟨nd, rfl⟩⟩; have p115 : 0 ≤ (x6_1 : Int) := xD; have q115 : x6_1 < (t107.length : Int) := xD; obtain ⟨ad115, e115, hx115_0⟩ := Kd.at_string (Kd.R_reads' HO_5.out).2.2 x6_1 p115 q115; obtain rfl : ad110 = ad115 := (by injection e115); replace p115 := eq_true p115; replace q115 := eq_true q115))
       go_roundg k2
       case measure => have := HK1.out; have := HK2.out; omega
       case rel => exact ⟨(wrap64 (x6_1 + 1)), xR, H', ⟨by have := HK1.out; have := HK2.out; omega⟩, ⟨by (with_reducible repeat (first | apply Kd.R_alloc | apply Kd.R_drewN | apply Kd.R_drew)); exact HO_5.out⟩, ⟨xB⟩⟩
      replace c37 := Bool.eq_false_iff.mpr c37
      subst c37
      rw [if_neg (show ¬ (false = true) by decide)] at H
      have H' := Aside0.mk H
      clear H
      have p110 : 0 ≤ (x6_1 : Int) := xD
      have q110 : x6_1 < (t107.length : Int) := xD
      obtain ⟨ad110, e110, hx110_0⟩ := Kd.at_string (Kd.R_reads' HO_5.out).2.2 x6_1 p110 q110
      cases e110
      replace p110 := eq_true p110
      replace q110 := eq_true q110
      have p112 : 0 ≤ (x6_1 : Int) := xD
      have q112 : x6_1 < (t107.length : Int) := xD
      obtain ⟨ad112, e112, hx112_0⟩ := Kd.at_string (Kd.R_reads' HO_5.out).2.2 x6_1 p112 q112
      obtain rfl : ad110 = ad112 := (by injection e112)
      replace p112 := eq_true p112
      replace q112 := eq_true q112
      have p113 : 0 ≤ (x6_1 : Int) := xD
      have q113 : x6_1 < (t107.length : Int) := xD
      obtain ⟨ad113, e113, hx113_0⟩ := Kd.at_string (Kd.R_reads' HO_5.out).2.2 x6_1 p113 q113
      obtain rfl : ad110 = ad113 := (by injection e113)
      replace p113 := eq_true p113
      replace q113 := eq_true q113
      go_wp2_with (first | (go_at_call 98; (with_reducible refine (armadaref07_digits.calls k2 (rdOf ByteArray.empty t107 x6_1) false _ A36.out).mono ?_); rintro e w' ⟨rfl, ⟨nd, rfl⟩⟩))
      go_roundg k2
      case measure => have := HK1.out; have := HK2.out; omega
      case rel => exact ⟨(wrap64 (x6_1 + 1)), xR, H', ⟨by have := HK1.out; have := HK2.out; omega⟩, ⟨by (with_reducible repeat (first | apply Kd.R_alloc | apply Kd.R_drewN | apply Kd.R_drew)); exact HO_5.out⟩, ⟨xB⟩⟩
   rw [if_neg c5] at H
   have c5b0 := decide_eq_false c5
   clear c5
   obtain rfl := Option.some.inj H
   obtain ⟨Ao42, co42, eo42⟩ := Kd.R_slice HO_5.out
   subst eo42
   go_wp2
   go_ret
   exact ⟨by first | rfl | (simp [errW_none, errW_some] <;> rfl) | (simp [*, errW_none, errW_some] <;> rfl) | (simp [isEmpty_bne]; done), xB⟩
end Go.Proofs.YtkidfclnakbgiaaGreatDoor.RD
end
