/- The texts RDx2 in one file, without what these claims do not use (put together by prune2.py). -/
import Derived.Test.YtjdhdjmdmnedfaaGreatDoorZP22
section
namespace Go.Proofs.YtjdhdjmdmnedfaaGreatDoor.RD
open Go.RowKit Go.Proofs.YtjdhdjmdmnedfaaGreatDoor Go.Proofs.YtjdhdjmdmnedfaaGreatDoor.K0 Go.Proofs.YtjdhdjmdmnedfaaGreatDoorW.PrintWords Go.Proofs.YtjdhdjmdmnedfaaGreatDoorW.PrintLast Go.Proofs.YtjdhdjmdmnedfaaGreatDoorW.PrintMore
attribute [local go_sem] max2_int min2_int max_two min_two max_three min_three max_four min_four
set_option linter.unusedVariables false
set_option linter.unusedSimpArgs false
mutual
def armadaref07_identifiers.l0 : Nat → Bool → List ByteArray → Int → Option (Bool)
 | 0, _, _, _ => none
 | k + 1, x1, x5, x6 => if x6 < (x5.length : Int) then (armadaref07_identifiers.l1 k x1 x5 x6 0) else (some true)
def armadaref07_identifiers.l1 : Nat → Bool → List ByteArray → Int → Int → Option (Bool)
 | 0, _, _, _, _ => none
 | k + 1, x1, x5, x6, x7 => if 0 ≤ x6 then (if x6 < (x5.length : Int) then (if x7 < ((rdOf ByteArray.empty x5 x6).size : Int) then (if 0 ≤ x7 then (if (bt (rdOf ByteArray.empty x5 x6) x7) ≥ 97 then (if ((bt (rdOf ByteArray.empty x5 x6) x7) ≤ 122) then (armadaref07_identifiers.l1 k x1 x5 x6 (wrap64 (x7 + 1))) else (if (bt (rdOf ByteArray.empty x5 x6) x7) ≥ 65 then (if ((bt (rdOf ByteArray.empty x5 x6) x7) ≤ 90) then (armadaref07_identifiers.l1 k x1 x5 x6 (wrap64 (x7 + 1))) else (if (bt (rdOf ByteArray.empty x5 x6) x7) ≥ 48 then (if ((bt (rdOf ByteArray.empty x5 x6) x7) ≤ 57) then (armadaref07_identifiers.l1 k x1 x5 x6 (wrap64 (x7 + 1))) else (if (bt (rdOf ByteArray.empty x5 x6) x7) = 45 then (armadaref07_identifiers.l1 k x1 x5 x6 (wrap64 (x7 + 1))) else (some false))) else (if (bt (rdOf ByteArray.empty x5 x6) x7) = 45 then (armadaref07_identifiers.l1 k x1 x5 x6 (wrap64 (x7 + 1))) else (some false)))) else (if (bt (rdOf ByteArray.empty x5 x6) x7) ≥ 48 then (if ((bt (rdOf ByteArray.empty x5 x6) x7) ≤ 57) then (armadaref07_identifiers.l1 k x1 x5 x6 (wrap64 (x7 + 1))) else (if (bt (rdOf ByteArray.empty x5 x6) x7) = 45 then (armadaref07_identifiers.l1 k x1 x5 x6 (wrap64 (x7 + 1))) else (some false))) else (if (bt (rdOf ByteArray.empty x5 x6) x7) = 45 then (armadaref07_identifiers.l1 k x1 x5 x6 (wrap64 (x7 + 1))) else (some false))))) else (if (bt (rdOf ByteArray.empty x5 x6) x7) ≥ 65 then (if ((bt (rdOf ByteArray.empty x5 x6) x7) ≤ 90) then (armadaref07_identifiers.l1 k x1 x5 x6 (wrap64 (x7 + 1))) else (if (bt (rdOf ByteArray.empty x5 x6) x7) ≥ 48 then (if ((bt (rdOf ByteArray.empty x5 x6) x7) ≤ 57) then (armadaref07_identifiers.l1 k x1 x5 x6 (wrap64 (x7 + 1))) else (if (bt (rdOf ByteArray.empty x5 x6) x7) = 45 then (armadaref07_identifiers.l1 k x1 x5 x6 (wrap64 (x7 + 1))) else (some false))) else (if (bt (rdOf ByteArray.empty x5 x6) x7) = 45 then (armadaref07_identifiers.l1 k x1 x5 x6 (wrap64 (x7 + 1))) else (some false)))) else (if (bt (rdOf ByteArray.empty x5 x6) x7) ≥ 48 then (if ((bt (rdOf ByteArray.empty x5 x6) x7) ≤ 57) then (armadaref07_identifiers.l1 k x1 x5 x6 (wrap64 (x7 + 1))) else (if (bt (rdOf ByteArray.empty x5 x6) x7) = 45 then (armadaref07_identifiers.l1 k x1 x5 x6 (wrap64 (x7 + 1))) else (some false))) else (if (bt (rdOf ByteArray.empty x5 x6) x7) = 45 then (armadaref07_identifiers.l1 k x1 x5 x6 (wrap64 (x7 + 1))) else (some false))))) else (none)) else (if (rdOf ByteArray.empty x5 x6).toList = ([] : List UInt8) then (some false) else (if x1 = true then (armadaref07_identifiers.l0 k x1 x5 (wrap64 (x6 + 1))) else ((armadaref07_digits.f k (rdOf ByteArray.empty x5 x6)).bind fun t114 => (if t114 = true then (if ((rdOf ByteArray.empty x5 x6).size : Int) > 1 then (if 0 < ((rdOf ByteArray.empty x5 x6).size : Int) then (if (bt (rdOf ByteArray.empty x5 x6) 0) = 48 then (some false) else (armadaref07_identifiers.l0 k x1 x5 (wrap64 (x6 + 1)))) else (none)) else (armadaref07_identifiers.l0 k x1 x5 (wrap64 (x6 + 1)))) else (armadaref07_identifiers.l0 k x1 x5 (wrap64 (x6 + 1)))))))) else (none)) else (none)
end
def armadaref07_identifiers.f (k : Nat) (a0 : ByteArray) (a1 : Bool) : Option (Bool) := (armadaref05_Split.f k a0 46).bind fun t107 => (armadaref07_identifiers.l0 k a1 t107 0)
set_option maxHeartbeats 8000000 in
set_option maxRecDepth 100000 in
theorem armadaref07_identifiers.calls (k : Nat) (a0 : ByteArray) (a1 : Bool) (r : Bool) (w : World) (h : armadaref07_identifiers.f k a0 a1 = some r) :
  Calls Tryz.prog 73 #[.string a0, .bool a1] w fun e w' => e = .returned (.bool r) ∧ Below w.heap.size w w' := by
 have HB := Aside0.mk (Below.refl w.heap.size w); have H : ((armadaref05_Split.f k a0 46).bind fun t107 => (armadaref07_identifiers.l0 k a1 t107 0)) = some r := h; clear h; replace H := xb H; obtain ⟨t107, A3, H⟩ := H; have H' := Aside0.mk H; clear H; go_enter Tryz.func73, Tryz.ntmps73; go_wp2_with (first | ((with_reducible refine gate_callee (f := 20) rfl ?_); refine goesL_ (some 10) rfl rfl Tryz.func20 (by kernel_rfl) rfl #[.string a0, .int .u8 46] rfl xS ?_; (with_reducible refine (armadaref05_Split.calls k a0 46 t107 _ A3.out).mono ?_); rintro e w4 ⟨v108, rfl, ho0, hb⟩; refine ⟨_, rfl, ?_⟩; have HO109 := Aside0.mk (Kd.R_lower ho0 (below_size xB)); replace HB := Aside0.mk (below_step xB hb); (try clear hb); (try clear ho0)))
 go_loopg [6] k (fun kq v6 w' => ∃ (x6_1 : Int), v6 = .int .i64 x6_1 ∧ Aside0 (armadaref07_identifiers.l0 kq a1 t107 x6_1 = some r) ∧ Aside0 (kq ≤ k) ∧ Aside0 (Kd.R Kd.string 9 w' w.heap.size (fun _ => True) v108 t107) ∧ Aside0 (Below w.heap.size w w'))
 case atStart => exact ⟨(0), xR, H', ⟨Nat.le_refl _⟩, ⟨xQ HO109⟩, ⟨xB⟩⟩
 case round =>
  clear H'
  try clear c2
  try clear p2
  obtain ⟨x6_1, rfl, HA, HK1, HO_5, HB⟩ := hrel
  cases gk with
  | zero => exact absurd HA.out (by simp [armadaref07_identifiers.l0])
  | succ k1 =>
   have H := HA.out; clear HA; simp only [armadaref07_identifiers.l0] at H; replace H := xJ H; rcases H with ⟨c5, H⟩ | ⟨c5, H⟩
   ·
    have c5b0 := decide_eq_true c5; clear c5; have H' := Aside0.mk H; clear H; obtain ⟨Ao6, co6, eo6⟩ := Kd.R_slice HO_5.out; subst eo6; go_wp2
    go_loopg [7] k1 (fun kq v7 w' => ∃ (x7_2 : Int), v7 = .int .i64 x7_2 ∧ Aside0 (armadaref07_identifiers.l1 kq a1 t107 x6_1 x7_2 = some r) ∧ Aside0 (kq ≤ k1) ∧ Aside0 (Kd.R Kd.string 9 w' w.heap.size (fun _ => True) (.slice Ao6 t107.length co6) t107) ∧ Aside0 (Below w.heap.size w w'))
    case atStart => exact ⟨(0), xR, H', ⟨Nat.le_refl _⟩, ⟨xQ HO_5⟩, ⟨xB⟩⟩
    case round =>
     clear H'
     try clear c2
     try clear p2
     try clear c5
     try clear c5b0
     try clear p2
     obtain ⟨x7_2, rfl, HA, HK2, HO_5, HB⟩ := hrel
     cases gk with
     | zero => exact absurd HA.out (by simp [armadaref07_identifiers.l1])
     | succ k2 =>
      have H := HA.out; clear HA; simp only [armadaref07_identifiers.l1] at H; replace H := xI H; obtain ⟨c7, H⟩ := H; replace c7 := decide_eq_true c7; replace H := xI H; obtain ⟨c8, H⟩ := H; replace c8 := decide_eq_true c8; replace H := xJ H; rcases H with ⟨c9, H⟩ | ⟨c9, H⟩
      ·
       replace c9 := decide_eq_true c9; replace H := xI H; obtain ⟨c10, H⟩ := H; replace c10 := decide_eq_true c10; replace H := xJ H; rcases H with ⟨c12, H⟩ | ⟨c12, H⟩
       ·
        replace c12 := decide_eq_true c12; replace H := xJ H; rcases H with ⟨c13, H⟩ | ⟨c13, H⟩
        ·
         replace c13 := decide_eq_true c13; have H' := Aside0.mk H; clear H; obtain ⟨p110, q110, ad110, e110, hx110_0⟩ := xT (Kd.at_string (Kd.R_reads' HO_5.out).2.2 x6_1)
         cases e110
         obtain ⟨p111, q111, ad111, e111, hx111_0⟩ := xT (Kd.at_string (Kd.R_reads' HO_5.out).2.2 x6_1); obtain rfl := xE e111; obtain ⟨p11, q11, hx11⟩ := xV (rdOf ByteArray.empty t107 x6_1) x7_2; go_wp2; go_roundg k2
         case measure => exact xO2
         case rel => exact ⟨(wrap64 (x7_2 + 1)), xR, H', ⟨xO2⟩, ⟨xQ HO_5⟩, ⟨xB⟩⟩
        replace c13 := decide_eq_false c13; replace H := xJ H; rcases H with ⟨c14, H⟩ | ⟨c14, H⟩
        ·
         replace c14 := decide_eq_true c14; replace H := xJ H; rcases H with ⟨c15, H⟩ | ⟨c15, H⟩
         ·
          replace c15 := decide_eq_true c15; have H' := Aside0.mk H; clear H; obtain ⟨p110, q110, ad110, e110, hx110_0⟩ := xT (Kd.at_string (Kd.R_reads' HO_5.out).2.2 x6_1)
          cases e110
          obtain ⟨p111, q111, ad111, e111, hx111_0⟩ := xT (Kd.at_string (Kd.R_reads' HO_5.out).2.2 x6_1); obtain rfl := xE e111; obtain ⟨p11, q11, hx11⟩ := xV (rdOf ByteArray.empty t107 x6_1) x7_2; go_wp2; go_roundg k2
          case measure => exact xO2
          case rel => exact ⟨(wrap64 (x7_2 + 1)), xR, H', ⟨xO2⟩, ⟨xQ HO_5⟩, ⟨xB⟩⟩
         replace c15 := decide_eq_false c15; replace H := xJ H; rcases H with ⟨c16, H⟩ | ⟨c16, H⟩
         ·
          replace c16 := decide_eq_true c16; replace H := xJ H; rcases H with ⟨c17, H⟩ | ⟨c17, H⟩
          ·
           replace c17 := decide_eq_true c17; have H' := Aside0.mk H; clear H; obtain ⟨p110, q110, ad110, e110, hx110_0⟩ := xT (Kd.at_string (Kd.R_reads' HO_5.out).2.2 x6_1)
           cases e110
           obtain ⟨p111, q111, ad111, e111, hx111_0⟩ := xT (Kd.at_string (Kd.R_reads' HO_5.out).2.2 x6_1); obtain rfl := xE e111; obtain ⟨p11, q11, hx11⟩ := xV (rdOf ByteArray.empty t107 x6_1) x7_2; go_wp2; go_roundg k2
           case measure => exact xO2
           case rel => exact ⟨(wrap64 (x7_2 + 1)), xR, H', ⟨xO2⟩, ⟨xQ HO_5⟩, ⟨xB⟩⟩
          replace c17 := decide_eq_false c17; replace H := xJ H; rcases H with ⟨c18, H⟩ | ⟨c18, H⟩
          ·
           have c18b0 := beq_iff_eq.mpr c18; have c18b1 := bne_eq_false_iff_eq.mpr c18; clear c18; have H' := Aside0.mk H; clear H; obtain ⟨p110, q110, ad110, e110, hx110_0⟩ := xT (Kd.at_string (Kd.R_reads' HO_5.out).2.2 x6_1)
           cases e110
           obtain ⟨p111, q111, ad111, e111, hx111_0⟩ := xT (Kd.at_string (Kd.R_reads' HO_5.out).2.2 x6_1); obtain rfl := xE e111; obtain ⟨p11, q11, hx11⟩ := xV (rdOf ByteArray.empty t107 x6_1) x7_2; go_wp2; go_roundg k2
           case measure => exact xO2
           case rel => exact ⟨(wrap64 (x7_2 + 1)), xR, H', ⟨xO2⟩, ⟨xQ HO_5⟩, ⟨xB⟩⟩
          have c18b0 := beq_eq_false_iff_ne.mpr c18; have c18b1 := bne_iff_ne.mpr c18; obtain rfl := Option.some.inj H; obtain ⟨p110, q110, ad110, e110, hx110_0⟩ := xT (Kd.at_string (Kd.R_reads' HO_5.out).2.2 x6_1)
          cases e110
          obtain ⟨p111, q111, ad111, e111, hx111_0⟩ := xT (Kd.at_string (Kd.R_reads' HO_5.out).2.2 x6_1); obtain rfl := xE e111; obtain ⟨p11, q11, hx11⟩ := xV (rdOf ByteArray.empty t107 x6_1) x7_2; go_wp2; go_ret; exact ⟨xW, xB⟩
         replace c16 := decide_eq_false c16; replace H := xJ H; rcases H with ⟨c19, H⟩ | ⟨c19, H⟩
         ·
          have c19b0 := beq_iff_eq.mpr c19; have c19b1 := bne_eq_false_iff_eq.mpr c19; clear c19; have H' := Aside0.mk H; clear H; obtain ⟨p110, q110, ad110, e110, hx110_0⟩ := xT (Kd.at_string (Kd.R_reads' HO_5.out).2.2 x6_1)
          cases e110
          obtain ⟨p111, q111, ad111, e111, hx111_0⟩ := xT (Kd.at_string (Kd.R_reads' HO_5.out).2.2 x6_1); obtain rfl := xE e111; obtain ⟨p11, q11, hx11⟩ := xV (rdOf ByteArray.empty t107 x6_1) x7_2; go_wp2; go_roundg k2
          case measure => exact xO2
          case rel => exact ⟨(wrap64 (x7_2 + 1)), xR, H', ⟨xO2⟩, ⟨xQ HO_5⟩, ⟨xB⟩⟩
         have c19b0 := beq_eq_false_iff_ne.mpr c19; have c19b1 := bne_iff_ne.mpr c19; obtain rfl := Option.some.inj H; obtain ⟨p110, q110, ad110, e110, hx110_0⟩ := xT (Kd.at_string (Kd.R_reads' HO_5.out).2.2 x6_1)
         cases e110
         obtain ⟨p111, q111, ad111, e111, hx111_0⟩ := xT (Kd.at_string (Kd.R_reads' HO_5.out).2.2 x6_1); obtain rfl := xE e111; obtain ⟨p11, q11, hx11⟩ := xV (rdOf ByteArray.empty t107 x6_1) x7_2; go_wp2; go_ret; exact ⟨xW, xB⟩
        replace c14 := decide_eq_false c14; replace H := xJ H; rcases H with ⟨c20, H⟩ | ⟨c20, H⟩
        ·
         replace c20 := decide_eq_true c20; replace H := xJ H; rcases H with ⟨c21, H⟩ | ⟨c21, H⟩
         ·
          replace c21 := decide_eq_true c21; have H' := Aside0.mk H; clear H; obtain ⟨p110, q110, ad110, e110, hx110_0⟩ := xT (Kd.at_string (Kd.R_reads' HO_5.out).2.2 x6_1)
          cases e110
          obtain ⟨p111, q111, ad111, e111, hx111_0⟩ := xT (Kd.at_string (Kd.R_reads' HO_5.out).2.2 x6_1); obtain rfl := xE e111; obtain ⟨p11, q11, hx11⟩ := xV (rdOf ByteArray.empty t107 x6_1) x7_2; go_wp2; go_roundg k2
          case measure => exact xO2
          case rel => exact ⟨(wrap64 (x7_2 + 1)), xR, H', ⟨xO2⟩, ⟨xQ HO_5⟩, ⟨xB⟩⟩
         replace c21 := decide_eq_false c21; replace H := xJ H; rcases H with ⟨c22, H⟩ | ⟨c22, H⟩
         ·
          have c22b0 := beq_iff_eq.mpr c22; have c22b1 := bne_eq_false_iff_eq.mpr c22; clear c22; have H' := Aside0.mk H; clear H; obtain ⟨p110, q110, ad110, e110, hx110_0⟩ := xT (Kd.at_string (Kd.R_reads' HO_5.out).2.2 x6_1)
          cases e110
          obtain ⟨p111, q111, ad111, e111, hx111_0⟩ := xT (Kd.at_string (Kd.R_reads' HO_5.out).2.2 x6_1); obtain rfl := xE e111; obtain ⟨p11, q11, hx11⟩ := xV (rdOf ByteArray.empty t107 x6_1) x7_2; go_wp2; go_roundg k2
          case measure => exact xO2
          case rel => exact ⟨(wrap64 (x7_2 + 1)), xR, H', ⟨xO2⟩, ⟨xQ HO_5⟩, ⟨xB⟩⟩
         have c22b0 := beq_eq_false_iff_ne.mpr c22; have c22b1 := bne_iff_ne.mpr c22; obtain rfl := Option.some.inj H; obtain ⟨p110, q110, ad110, e110, hx110_0⟩ := xT (Kd.at_string (Kd.R_reads' HO_5.out).2.2 x6_1)
         cases e110
         obtain ⟨p111, q111, ad111, e111, hx111_0⟩ := xT (Kd.at_string (Kd.R_reads' HO_5.out).2.2 x6_1); obtain rfl := xE e111; obtain ⟨p11, q11, hx11⟩ := xV (rdOf ByteArray.empty t107 x6_1) x7_2; go_wp2; go_ret; exact ⟨xW, xB⟩
        replace c20 := decide_eq_false c20; replace H := xJ H; rcases H with ⟨c23, H⟩ | ⟨c23, H⟩
        ·
         have c23b0 := beq_iff_eq.mpr c23; have c23b1 := bne_eq_false_iff_eq.mpr c23; clear c23; have H' := Aside0.mk H; clear H; obtain ⟨p110, q110, ad110, e110, hx110_0⟩ := xT (Kd.at_string (Kd.R_reads' HO_5.out).2.2 x6_1)
         cases e110
         obtain ⟨p111, q111, ad111, e111, hx111_0⟩ := xT (Kd.at_string (Kd.R_reads' HO_5.out).2.2 x6_1); obtain rfl := xE e111; obtain ⟨p11, q11, hx11⟩ := xV (rdOf ByteArray.empty t107 x6_1) x7_2; go_wp2; go_roundg k2
         case measure => exact xO2
         case rel => exact ⟨(wrap64 (x7_2 + 1)), xR, H', ⟨xO2⟩, ⟨xQ HO_5⟩, ⟨xB⟩⟩
        have c23b0 := beq_eq_false_iff_ne.mpr c23; have c23b1 := bne_iff_ne.mpr c23; obtain rfl := Option.some.inj H; obtain ⟨p110, q110, ad110, e110, hx110_0⟩ := xT (Kd.at_string (Kd.R_reads' HO_5.out).2.2 x6_1)
        cases e110
        obtain ⟨p111, q111, ad111, e111, hx111_0⟩ := xT (Kd.at_string (Kd.R_reads' HO_5.out).2.2 x6_1); obtain rfl := xE e111; obtain ⟨p11, q11, hx11⟩ := xV (rdOf ByteArray.empty t107 x6_1) x7_2; go_wp2; go_ret; exact ⟨xW, xB⟩
       replace c12 := decide_eq_false c12; replace H := xJ H; rcases H with ⟨c24, H⟩ | ⟨c24, H⟩
       ·
        replace c24 := decide_eq_true c24; replace H := xJ H; rcases H with ⟨c25, H⟩ | ⟨c25, H⟩
        ·
         replace c25 := decide_eq_true c25; have H' := Aside0.mk H; clear H; obtain ⟨p110, q110, ad110, e110, hx110_0⟩ := xT (Kd.at_string (Kd.R_reads' HO_5.out).2.2 x6_1)
         cases e110
         obtain ⟨p111, q111, ad111, e111, hx111_0⟩ := xT (Kd.at_string (Kd.R_reads' HO_5.out).2.2 x6_1); obtain rfl := xE e111; obtain ⟨p11, q11, hx11⟩ := xV (rdOf ByteArray.empty t107 x6_1) x7_2; go_wp2; go_roundg k2
         case measure => exact xO2
         case rel => exact ⟨(wrap64 (x7_2 + 1)), xR, H', ⟨xO2⟩, ⟨xQ HO_5⟩, ⟨xB⟩⟩
        replace c25 := decide_eq_false c25; replace H := xJ H; rcases H with ⟨c26, H⟩ | ⟨c26, H⟩
        ·
         replace c26 := decide_eq_true c26; replace H := xJ H; rcases H with ⟨c27, H⟩ | ⟨c27, H⟩
         ·
          replace c27 := decide_eq_true c27; have H' := Aside0.mk H; clear H; obtain ⟨p110, q110, ad110, e110, hx110_0⟩ := xT (Kd.at_string (Kd.R_reads' HO_5.out).2.2 x6_1)
          cases e110
          obtain ⟨p111, q111, ad111, e111, hx111_0⟩ := xT (Kd.at_string (Kd.R_reads' HO_5.out).2.2 x6_1); obtain rfl := xE e111; obtain ⟨p11, q11, hx11⟩ := xV (rdOf ByteArray.empty t107 x6_1) x7_2; go_wp2; go_roundg k2
          case measure => exact xO2
          case rel => exact ⟨(wrap64 (x7_2 + 1)), xR, H', ⟨xO2⟩, ⟨xQ HO_5⟩, ⟨xB⟩⟩
         replace c27 := decide_eq_false c27; replace H := xJ H; rcases H with ⟨c28, H⟩ | ⟨c28, H⟩
         ·
          have c28b0 := beq_iff_eq.mpr c28; have c28b1 := bne_eq_false_iff_eq.mpr c28; clear c28; have H' := Aside0.mk H; clear H; obtain ⟨p110, q110, ad110, e110, hx110_0⟩ := xT (Kd.at_string (Kd.R_reads' HO_5.out).2.2 x6_1)
          cases e110
          obtain ⟨p111, q111, ad111, e111, hx111_0⟩ := xT (Kd.at_string (Kd.R_reads' HO_5.out).2.2 x6_1); obtain rfl := xE e111; obtain ⟨p11, q11, hx11⟩ := xV (rdOf ByteArray.empty t107 x6_1) x7_2; go_wp2; go_roundg k2
          case measure => exact xO2
          case rel => exact ⟨(wrap64 (x7_2 + 1)), xR, H', ⟨xO2⟩, ⟨xQ HO_5⟩, ⟨xB⟩⟩
         have c28b0 := beq_eq_false_iff_ne.mpr c28; have c28b1 := bne_iff_ne.mpr c28; obtain rfl := Option.some.inj H; obtain ⟨p110, q110, ad110, e110, hx110_0⟩ := xT (Kd.at_string (Kd.R_reads' HO_5.out).2.2 x6_1)
         cases e110
         obtain ⟨p111, q111, ad111, e111, hx111_0⟩ := xT (Kd.at_string (Kd.R_reads' HO_5.out).2.2 x6_1); obtain rfl := xE e111; obtain ⟨p11, q11, hx11⟩ := xV (rdOf ByteArray.empty t107 x6_1) x7_2; go_wp2; go_ret; exact ⟨xW, xB⟩
        replace c26 := decide_eq_false c26; replace H := xJ H; rcases H with ⟨c29, H⟩ | ⟨c29, H⟩
        ·
         have c29b0 := beq_iff_eq.mpr c29; have c29b1 := bne_eq_false_iff_eq.mpr c29; clear c29; have H' := Aside0.mk H; clear H; obtain ⟨p110, q110, ad110, e110, hx110_0⟩ := xT (Kd.at_string (Kd.R_reads' HO_5.out).2.2 x6_1)
         cases e110
         obtain ⟨p111, q111, ad111, e111, hx111_0⟩ := xT (Kd.at_string (Kd.R_reads' HO_5.out).2.2 x6_1); obtain rfl := xE e111; obtain ⟨p11, q11, hx11⟩ := xV (rdOf ByteArray.empty t107 x6_1) x7_2; go_wp2; go_roundg k2
         case measure => exact xO2
         case rel => exact ⟨(wrap64 (x7_2 + 1)), xR, H', ⟨xO2⟩, ⟨xQ HO_5⟩, ⟨xB⟩⟩
        have c29b0 := beq_eq_false_iff_ne.mpr c29; have c29b1 := bne_iff_ne.mpr c29; obtain rfl := Option.some.inj H; obtain ⟨p110, q110, ad110, e110, hx110_0⟩ := xT (Kd.at_string (Kd.R_reads' HO_5.out).2.2 x6_1)
        cases e110
        obtain ⟨p111, q111, ad111, e111, hx111_0⟩ := xT (Kd.at_string (Kd.R_reads' HO_5.out).2.2 x6_1); obtain rfl := xE e111; obtain ⟨p11, q11, hx11⟩ := xV (rdOf ByteArray.empty t107 x6_1) x7_2; go_wp2; go_ret; exact ⟨xW, xB⟩
       replace c24 := decide_eq_false c24; replace H := xJ H; rcases H with ⟨c30, H⟩ | ⟨c30, H⟩
       ·
        replace c30 := decide_eq_true c30; replace H := xJ H; rcases H with ⟨c31, H⟩ | ⟨c31, H⟩
        ·
         replace c31 := decide_eq_true c31; have H' := Aside0.mk H; clear H; obtain ⟨p110, q110, ad110, e110, hx110_0⟩ := xT (Kd.at_string (Kd.R_reads' HO_5.out).2.2 x6_1)
         cases e110
         obtain ⟨p111, q111, ad111, e111, hx111_0⟩ := xT (Kd.at_string (Kd.R_reads' HO_5.out).2.2 x6_1); obtain rfl := xE e111; obtain ⟨p11, q11, hx11⟩ := xV (rdOf ByteArray.empty t107 x6_1) x7_2; go_wp2; go_roundg k2
         case measure => exact xO2
         case rel => exact ⟨(wrap64 (x7_2 + 1)), xR, H', ⟨xO2⟩, ⟨xQ HO_5⟩, ⟨xB⟩⟩
        replace c31 := decide_eq_false c31; replace H := xJ H; rcases H with ⟨c32, H⟩ | ⟨c32, H⟩
        ·
         have c32b0 := beq_iff_eq.mpr c32; have c32b1 := bne_eq_false_iff_eq.mpr c32; clear c32; have H' := Aside0.mk H; clear H; obtain ⟨p110, q110, ad110, e110, hx110_0⟩ := xT (Kd.at_string (Kd.R_reads' HO_5.out).2.2 x6_1)
         cases e110
         obtain ⟨p111, q111, ad111, e111, hx111_0⟩ := xT (Kd.at_string (Kd.R_reads' HO_5.out).2.2 x6_1); obtain rfl := xE e111; obtain ⟨p11, q11, hx11⟩ := xV (rdOf ByteArray.empty t107 x6_1) x7_2; go_wp2; go_roundg k2
         case measure => exact xO2
         case rel => exact ⟨(wrap64 (x7_2 + 1)), xR, H', ⟨xO2⟩, ⟨xQ HO_5⟩, ⟨xB⟩⟩
        have c32b0 := beq_eq_false_iff_ne.mpr c32; have c32b1 := bne_iff_ne.mpr c32; obtain rfl := Option.some.inj H; obtain ⟨p110, q110, ad110, e110, hx110_0⟩ := xT (Kd.at_string (Kd.R_reads' HO_5.out).2.2 x6_1)
        cases e110
        obtain ⟨p111, q111, ad111, e111, hx111_0⟩ := xT (Kd.at_string (Kd.R_reads' HO_5.out).2.2 x6_1); obtain rfl := xE e111; obtain ⟨p11, q11, hx11⟩ := xV (rdOf ByteArray.empty t107 x6_1) x7_2; go_wp2; go_ret; exact ⟨xW, xB⟩
       replace c30 := decide_eq_false c30; replace H := xJ H; rcases H with ⟨c33, H⟩ | ⟨c33, H⟩
       ·
        have c33b0 := beq_iff_eq.mpr c33; have c33b1 := bne_eq_false_iff_eq.mpr c33; clear c33; have H' := Aside0.mk H; clear H; obtain ⟨p110, q110, ad110, e110, hx110_0⟩ := xT (Kd.at_string (Kd.R_reads' HO_5.out).2.2 x6_1)
        cases e110
        obtain ⟨p111, q111, ad111, e111, hx111_0⟩ := xT (Kd.at_string (Kd.R_reads' HO_5.out).2.2 x6_1); obtain rfl := xE e111; obtain ⟨p11, q11, hx11⟩ := xV (rdOf ByteArray.empty t107 x6_1) x7_2; go_wp2; go_roundg k2
        case measure => exact xO2
        case rel => exact ⟨(wrap64 (x7_2 + 1)), xR, H', ⟨xO2⟩, ⟨xQ HO_5⟩, ⟨xB⟩⟩
       have c33b0 := beq_eq_false_iff_ne.mpr c33; have c33b1 := bne_iff_ne.mpr c33; obtain rfl := Option.some.inj H; obtain ⟨p110, q110, ad110, e110, hx110_0⟩ := xT (Kd.at_string (Kd.R_reads' HO_5.out).2.2 x6_1)
       cases e110
       obtain ⟨p111, q111, ad111, e111, hx111_0⟩ := xT (Kd.at_string (Kd.R_reads' HO_5.out).2.2 x6_1); obtain rfl := xE e111; obtain ⟨p11, q11, hx11⟩ := xV (rdOf ByteArray.empty t107 x6_1) x7_2; go_wp2; go_ret; exact ⟨xW, xB⟩
      replace c9 := decide_eq_false c9; replace H := xJ H; rcases H with ⟨c34, H⟩ | ⟨c34, H⟩
      ·
       have c34b0 := beq_iff_eq.mpr c34; have c34b1 := bne_eq_false_iff_eq.mpr c34; clear c34; obtain rfl := Option.some.inj H; obtain ⟨p110, q110, ad110, e110, hx110_0⟩ := xT (Kd.at_string (Kd.R_reads' HO_5.out).2.2 x6_1)
       cases e110
       obtain ⟨p112, q112, ad112, e112, hx112_0⟩ := xT (Kd.at_string (Kd.R_reads' HO_5.out).2.2 x6_1); obtain rfl := xE e112; go_wp2; go_ret; exact ⟨xW, xB⟩
      have c34b0 := beq_eq_false_iff_ne.mpr c34; have c34b1 := bne_iff_ne.mpr c34
      by_cases c35 : a1 = true
      ·
       subst c35; rw [if_pos rfl] at H; have H' := Aside0.mk H; clear H; obtain ⟨p110, q110, ad110, e110, hx110_0⟩ := xT (Kd.at_string (Kd.R_reads' HO_5.out).2.2 x6_1)
       cases e110
       obtain ⟨p112, q112, ad112, e112, hx112_0⟩ := xT (Kd.at_string (Kd.R_reads' HO_5.out).2.2 x6_1); obtain rfl := xE e112; go_wp2; go_roundg k2
       case measure => exact xO2
       case rel => exact ⟨(wrap64 (x6_1 + 1)), xR, H', ⟨xO2⟩, ⟨xQ HO_5⟩, ⟨xB⟩⟩
      replace c35 := Bool.eq_false_iff.mpr c35; subst c35; rw [if_neg (show ¬ (false = true) by decide)] at H; replace H := xb H; obtain ⟨t114, A36, H⟩ := H
      by_cases c37 : t114 = true
      ·
       subst c37; rw [if_pos rfl] at H; replace H := xJ H; rcases H with ⟨c38, H⟩ | ⟨c38, H⟩
       ·
        have c38b0 := decide_eq_true c38; have c38b1 : decide (1 < (rdOf ByteArray.empty t107 x6_1).size) = true := decide_eq_true (by omega); clear c38; replace H := xI H; obtain ⟨c39, H⟩ := H; have c39b0 := decide_eq_true c39; have c39b1 : decide (0 < (rdOf ByteArray.empty t107 x6_1).size) = true := decide_eq_true (by omega); clear c39; replace H := xJ H; rcases H with ⟨c41, H⟩ | ⟨c41, H⟩
        ·
         have c41b0 := beq_iff_eq.mpr c41; have c41b1 := bne_eq_false_iff_eq.mpr c41; clear c41; obtain rfl := Option.some.inj H; obtain ⟨p110, q110, ad110, e110, hx110_0⟩ := xT (Kd.at_string (Kd.R_reads' HO_5.out).2.2 x6_1)
         cases e110
         obtain ⟨p112, q112, ad112, e112, hx112_0⟩ := xT (Kd.at_string (Kd.R_reads' HO_5.out).2.2 x6_1); obtain rfl := xE e112; obtain ⟨p113, q113, ad113, e113, hx113_0⟩ := xT (Kd.at_string (Kd.R_reads' HO_5.out).2.2 x6_1); obtain rfl := xE e113; go_wp2_with (first | (go_at_call 67; (with_reducible refine (armadaref07_digits.calls k2 (rdOf ByteArray.empty t107 x6_1) true _ A36.out).mono ?_); rintro e w' ⟨rfl, ⟨nd, rfl⟩⟩; obtain ⟨p115, q115, ad115, e115, hx115_0⟩ := xT (Kd.at_string (Kd.R_reads' HO_5.out).2.2 x6_1); obtain rfl := xE e115; obtain ⟨p116, q116, ad116, e116, hx116_0⟩ := xT (Kd.at_string (Kd.R_reads' HO_5.out).2.2 x6_1); obtain rfl := xE e116; have p40 : 0 ≤ (0 : Int) := (by omega); have q40 : 0 < (rdOf ByteArray.empty t107 x6_1).size := (by have : (0 : Int) < ((rdOf ByteArray.empty t107 x6_1).size : Int) := xD; omega); have hx40 : ∀ h : 0 < (rdOf ByteArray.empty t107 x6_1).size, (((rdOf ByteArray.empty t107 x6_1)[0]'h).toNat : Int) = bt (rdOf ByteArray.empty t107 x6_1) 0 := bt_at (rdOf ByteArray.empty t107 x6_1) 0; clear p40; have qi40 : (0 < ((rdOf ByteArray.empty t107 x6_1).size : Int)) = True := eq_true (xD); replace q40 := eq_true q40)); go_ret; exact ⟨xW, xB⟩
        have c41b0 := beq_eq_false_iff_ne.mpr c41; have c41b1 := bne_iff_ne.mpr c41; have H' := Aside0.mk H; clear H; obtain ⟨p110, q110, ad110, e110, hx110_0⟩ := xT (Kd.at_string (Kd.R_reads' HO_5.out).2.2 x6_1)
        cases e110
        obtain ⟨p112, q112, ad112, e112, hx112_0⟩ := xT (Kd.at_string (Kd.R_reads' HO_5.out).2.2 x6_1); obtain rfl := xE e112; obtain ⟨p113, q113, ad113, e113, hx113_0⟩ := xT (Kd.at_string (Kd.R_reads' HO_5.out).2.2 x6_1); obtain rfl := xE e113; go_wp2_with (first | (go_at_call 67; (with_reducible refine (armadaref07_digits.calls k2 (rdOf ByteArray.empty t107 x6_1) true _ A36.out).mono ?_); rintro e w' ⟨rfl, ⟨nd, rfl⟩⟩; obtain ⟨p115, q115, ad115, e115, hx115_0⟩ := xT (Kd.at_string (Kd.R_reads' HO_5.out).2.2 x6_1); obtain rfl := xE e115; obtain ⟨p116, q116, ad116, e116, hx116_0⟩ := xT (Kd.at_string (Kd.R_reads' HO_5.out).2.2 x6_1); obtain rfl := xE e116; have p40 : 0 ≤ (0 : Int) := (by omega); have q40 : 0 < (rdOf ByteArray.empty t107 x6_1).size := (by have : (0 : Int) < ((rdOf ByteArray.empty t107 x6_1).size : Int) := xD; omega); have hx40 : ∀ h : 0 < (rdOf ByteArray.empty t107 x6_1).size, (((rdOf ByteArray.empty t107 x6_1)[0]'h).toNat : Int) = bt (rdOf ByteArray.empty t107 x6_1) 0 := bt_at (rdOf ByteArray.empty t107 x6_1) 0; clear p40; have qi40 : (0 < ((rdOf ByteArray.empty t107 x6_1).size : Int)) = True := eq_true (xD); replace q40 := eq_true q40)); go_roundg k2
        case measure => exact xO2
        case rel => exact ⟨(wrap64 (x6_1 + 1)), xR, H', ⟨xO2⟩, ⟨xQ HO_5⟩, ⟨xB⟩⟩
       have c38b0 := decide_eq_false c38; have c38b1 : decide (1 < (rdOf ByteArray.empty t107 x6_1).size) = false := decide_eq_false (by omega); clear c38; have H' := Aside0.mk H; clear H; obtain ⟨p110, q110, ad110, e110, hx110_0⟩ := xT (Kd.at_string (Kd.R_reads' HO_5.out).2.2 x6_1)
       cases e110
       obtain ⟨p112, q112, ad112, e112, hx112_0⟩ := xT (Kd.at_string (Kd.R_reads' HO_5.out).2.2 x6_1); obtain rfl := xE e112; obtain ⟨p113, q113, ad113, e113, hx113_0⟩ := xT (Kd.at_string (Kd.R_reads' HO_5.out).2.2 x6_1); obtain rfl := xE e113; go_wp2_with (first | (go_at_call 67; (with_reducible refine (armadaref07_digits.calls k2 (rdOf ByteArray.empty t107 x6_1) true _ A36.out).mono ?_); rintro e w' ⟨rfl, ⟨nd, rfl⟩⟩; obtain ⟨p115, q115, ad115, e115, hx115_0⟩ := xT (Kd.at_string (Kd.R_reads' HO_5.out).2.2 x6_1); obtain rfl := xE e115)); go_roundg k2
       case measure => exact xO2
       case rel => exact ⟨(wrap64 (x6_1 + 1)), xR, H', ⟨xO2⟩, ⟨xQ HO_5⟩, ⟨xB⟩⟩
      replace c37 := Bool.eq_false_iff.mpr c37; subst c37; rw [if_neg (show ¬ (false = true) by decide)] at H; have H' := Aside0.mk H; clear H; obtain ⟨p110, q110, ad110, e110, hx110_0⟩ := xT (Kd.at_string (Kd.R_reads' HO_5.out).2.2 x6_1)
      cases e110
      obtain ⟨p112, q112, ad112, e112, hx112_0⟩ := xT (Kd.at_string (Kd.R_reads' HO_5.out).2.2 x6_1); obtain rfl := xE e112; obtain ⟨p113, q113, ad113, e113, hx113_0⟩ := xT (Kd.at_string (Kd.R_reads' HO_5.out).2.2 x6_1); obtain rfl := xE e113; go_wp2_with (first | (go_at_call 67; (with_reducible refine (armadaref07_digits.calls k2 (rdOf ByteArray.empty t107 x6_1) false _ A36.out).mono ?_); rintro e w' ⟨rfl, ⟨nd, rfl⟩⟩)); go_roundg k2
      case measure => exact xO2
      case rel => exact ⟨(wrap64 (x6_1 + 1)), xR, H', ⟨xO2⟩, ⟨xQ HO_5⟩, ⟨xB⟩⟩
   have c5b0 := decide_eq_false c5; clear c5; obtain rfl := Option.some.inj H; obtain ⟨Ao42, co42, eo42⟩ := Kd.R_slice HO_5.out; subst eo42; go_wp2; go_ret; exact ⟨xW, xB⟩
end Go.Proofs.YtjdhdjmdmnedfaaGreatDoor.RD
end
