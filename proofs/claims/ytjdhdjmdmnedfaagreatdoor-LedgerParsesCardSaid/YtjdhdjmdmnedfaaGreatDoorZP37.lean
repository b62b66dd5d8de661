/- The texts RPx1, RPx, LPp in one file, without what these claims do not use (put together by prune2.py). -/
import Derived.Test.YtjdhdjmdmnedfaaGreatDoorZP36
import Derived.Test.YtjdhdjmdmnedfaaGreatDoorZP31
section
namespace Go.Proofs.YtjdhdjmdmnedfaaGreatDoor.RP
open Go.RowKit Go.Proofs.YtjdhdjmdmnedfaaGreatDoor Go.Proofs.YtjdhdjmdmnedfaaGreatDoor.K0 Go.Proofs.YtjdhdjmdmnedfaaGreatDoor.RD Go.Proofs.YtjdhdjmdmnedfaaGreatDoor.RA Go.Proofs.YtjdhdjmdmnedfaaGreatDoorW.PrintWords Go.Proofs.YtjdhdjmdmnedfaaGreatDoorW.PrintLast Go.Proofs.YtjdhdjmdmnedfaaGreatDoorW.PrintMore
attribute [local go_sem] max2_int min2_int max_two min_two max_three min_three max_four min_four
set_option linter.unusedVariables false
set_option linter.unusedSimpArgs false
def armadaref09_Split.f (k : Nat) (a0 : ByteArray) : Option (List ByteArray) := (armadaref05_Split.f k a0 10).bind fun t101 => (if 0 ≤ (wrap64 ((t101.length : Int) - 1)) then (if (wrap64 ((t101.length : Int) - 1)) < (t101.length : Int) then (if (rdOf ByteArray.empty t101 (wrap64 ((t101.length : Int) - 1))).toList = ([] : List UInt8) then (if (wrap64 ((t101.length : Int) - 1)) ≤ (t101.length : Int) then (some (t101.take ((wrap64 ((t101.length : Int) - 1)) : Int).toNat)) else (none)) else (some t101)) else (none)) else (none))
set_option maxHeartbeats 8000000 in
set_option maxRecDepth 100000 in
theorem armadaref09_Split.calls (k : Nat) (a0 : ByteArray) (r : List ByteArray) (w : World) (h : armadaref09_Split.f k a0 = some r) :
  Calls Tryz.prog 19 #[.string a0] w fun e w' => ∃ v0_ : Value, e = .returned (v0_) ∧ Kd.R Kd.string 9 w' w.heap.size (fun _ => True) v0_ r ∧ Below w.heap.size w w' := by
 have HB := Aside0.mk (Below.refl w.heap.size w); have H : ((armadaref05_Split.f k a0 10).bind fun t101 => (if 0 ≤ (wrap64 ((t101.length : Int) - 1)) then (if (wrap64 ((t101.length : Int) - 1)) < (t101.length : Int) then (if (rdOf ByteArray.empty t101 (wrap64 ((t101.length : Int) - 1))).toList = ([] : List UInt8) then (if (wrap64 ((t101.length : Int) - 1)) ≤ (t101.length : Int) then (some (t101.take ((wrap64 ((t101.length : Int) - 1)) : Int).toNat)) else (none)) else (some t101)) else (none)) else (none))) = some r := h; clear h; replace H := xb H; obtain ⟨t101, A2, H⟩ := H; obtain ⟨ji3, hji3⟩ : ∃ j_ : Int, (wrap64 ((t101.length : Int) - 1)) = j_ := ⟨_, rfl⟩
 replace H : (if 0 ≤ (ji3) then (if (ji3) < (t101.length : Int) then (if (rdOf ByteArray.empty t101 (ji3)).toList = ([] : List UInt8) then (if (ji3) ≤ (t101.length : Int) then (some (t101.take ((ji3) : Int).toNat)) else (none)) else (some t101)) else (none)) else (none)) = some r := by first | (rw [hji3] at H; exact H) | (simp only [hji3] at H ⊢; exact H)
 (try rw [hji3] at A2)
 have hji3w : (IntKind.i64.wrap ((t101.length : Int) - 1)) = ji3 := (i64_w _).trans hji3; replace H := xI H; obtain ⟨c4, H⟩ := H; replace c4 := decide_eq_true c4; replace H := xI H; obtain ⟨c5, H⟩ := H; replace c5 := decide_eq_true c5; replace H := xJ H; rcases H with ⟨c6, H⟩ | ⟨c6, H⟩
 ·
  have c6b0 := beq_iff_eq.mpr c6; have c6b1 := bne_eq_false_iff_eq.mpr c6; clear c6; replace H := xI H; obtain ⟨c7, H⟩ := H; have c7b0 := eq_true c7; have c7b1 := decide_eq_true c7; clear c7; obtain ⟨y105, hy105⟩ : ∃ y_ : List ByteArray, y_ = (t101.take ((ji3) : Int).toNat) := ⟨_, rfl⟩
  replace H : (some y105) = some r := by first | (rw [hy105]; with_reducible exact H) | (have H2_ := (Option.bind_some _ _).symm.trans H; rw [hy105]; with_reducible exact H2_) | (have H2_ := (Option.bind_some _ _).symm.trans H; with_reducible exact H2_) | with_reducible exact H | (rw [hy105]; exact H) | exact H
  have Ny105 := Aside0.mk hy105; clear hy105; obtain rfl := Option.some.inj H; go_enter Tryz.func19, Tryz.ntmps19; go_wp2_with (first | ((with_reducible refine gate_callee (f := 20) rfl ?_); refine goesL_ (some 5) rfl rfl Tryz.func20 (by kernel_rfl) rfl #[.string a0, .int .u8 10] rfl xS ?_; (with_reducible refine (armadaref05_Split.calls k a0 10 t101 _ A2.out).mono ?_); rintro e w8 ⟨v102, rfl, ho0, hb⟩; refine ⟨_, rfl, ?_⟩; have HO103 := Aside0.mk (Kd.R_lower ho0 (below_size xB)); replace HB := Aside0.mk (below_step xB hb); (try clear hb); (try clear ho0); obtain ⟨Ao9, co9, eo9⟩ := Kd.R_slice HO103.out; subst eo9; obtain ⟨p104, q104, ad104, e104, hx104_0⟩ := xT (Kd.at_string (Kd.R_reads' HO103.out).2.2 (ji3)); cases e104; have q10 : ((ji3) : Int) ≤ ((t101.length : Int) : Int) := xD; obtain ⟨i010, hi010, _, hsz10, _⟩ := info_parts info9; have hcut10 := cut_to (P := Tryz.prog) 41 9 .i64 Tryz.underlying41 hi010 (some ad104) t101.length co9 (ji3) (xD) q10 (Kd.R_reads' HO103.out).2.1; have hr10 := Kd.R_take (m := ((ji3) : Int).toNat) HO103.out (by omega); have hy10 : y105.length = ((ji3) : Int).toNat := (by rw [Ny105.out, List.length_take]; omega); rw [← Ny105.out] at hr10; rw [← hy10] at hr10 hcut10; clear hy10 hi010 hsz10 HO103; have HO107 := Aside0.mk hr10; clear hr10; replace q10 := eq_true q10)); go_ret; exact ⟨_, by first | rfl | (simp [errW_none, errW_some] <;> rfl) | (simp only [← hji3]; first | rfl | (simp [errW_none, errW_some] <;> rfl)) | (simp [*, errW_none, errW_some] <;> rfl), by (with_reducible repeat (first | apply Kd.R_alloc | apply Kd.R_drewN | apply Kd.R_drew)); exact HO107.out, xB⟩
 have c6b0 := beq_eq_false_iff_ne.mpr c6; have c6b1 := bne_iff_ne.mpr c6; obtain rfl := Option.some.inj H; go_enter Tryz.func19, Tryz.ntmps19; go_wp2_with (first | ((with_reducible refine gate_callee (f := 20) rfl ?_); refine goesL_ (some 5) rfl rfl Tryz.func20 (by kernel_rfl) rfl #[.string a0, .int .u8 10] rfl xS ?_; (with_reducible refine (armadaref05_Split.calls k a0 10 t101 _ A2.out).mono ?_); rintro e w11 ⟨v102, rfl, ho0, hb⟩; refine ⟨_, rfl, ?_⟩; have HO103 := Aside0.mk (Kd.R_lower ho0 (below_size xB)); replace HB := Aside0.mk (below_step xB hb); (try clear hb); (try clear ho0); obtain ⟨Ao12, co12, eo12⟩ := Kd.R_slice HO103.out; subst eo12; obtain ⟨p104, q104, ad104, e104, hx104_0⟩ := xT (Kd.at_string (Kd.R_reads' HO103.out).2.2 (ji3)); cases e104)); go_ret; exact ⟨_, by first | rfl | (simp [errW_none, errW_some] <;> rfl) | (simp only [← hji3]; first | rfl | (simp [errW_none, errW_some] <;> rfl)) | (simp [*, errW_none, errW_some] <;> rfl), by (with_reducible repeat (first | apply Kd.R_alloc | apply Kd.R_drewN | apply Kd.R_drew)); exact HO103.out, xB⟩
def armadaref07_find.l0 : Nat → ByteArray → Int → Int → Option (Int)
 | 0, _, _, _ => none
 | k + 1, x0, x1, x5 => if x5 < (x0.size : Int) then (if 0 ≤ x5 then (if (bt x0 x5) = x1 then (some x5) else (armadaref07_find.l0 k x0 x1 (wrap64 (x5 + 1)))) else (none)) else (some (-1))
def armadaref07_find.f (k : Nat) (a0 : ByteArray) (a1 : Int) : Option (Int) := armadaref07_find.l0 k a0 a1 0
set_option maxHeartbeats 8000000 in
set_option maxRecDepth 100000 in
theorem armadaref07_find.calls (k : Nat) (a0 : ByteArray) (a1 : Int) (r : Int) (w : World) (h : armadaref07_find.f k a0 a1 = some r) :
  Calls Tryz.prog 37 #[.string a0, .int .u8 a1] w fun e w' => e = .returned (.int .i64 r) ∧ Drawn0 w w' := by
 have H : (armadaref07_find.l0 k a0 a1 0) = some r := h; clear h; have H' := Aside0.mk H; clear H; go_enter Tryz.func37, Tryz.ntmps37; go_wp2
 go_loopg [5] k (fun kq v5 w' => ∃ (x5_1 : Int), v5 = .int .i64 x5_1 ∧ Aside0 (armadaref07_find.l0 kq a0 a1 x5_1 = some r) ∧ Aside0 (kq ≤ k) ∧ Drawn0 w w')
 case atStart => exact ⟨(0), xR, H', ⟨Nat.le_refl _⟩, by repeat (first | exact Drawn0.refl _ | apply Drawn0.step)⟩
 case round =>
  clear H'
  try clear p2
  obtain ⟨x5_1, rfl, HA, HK1, ⟨m1, rfl⟩⟩ := hrel
  cases gk with
  | zero => exact absurd HA.out (by simp [armadaref07_find.l0])
  | succ k1 =>
   have H := HA.out; clear HA; simp only [armadaref07_find.l0] at H; replace H := xJ H; rcases H with ⟨c3, H⟩ | ⟨c3, H⟩
   ·
    replace c3 := decide_eq_true c3; replace H := xI H; obtain ⟨c4, H⟩ := H; replace c4 := decide_eq_true c4; replace H := xJ H; rcases H with ⟨c6, H⟩ | ⟨c6, H⟩
    ·
     have c6b0 := beq_iff_eq.mpr c6; have c6b1 := bne_eq_false_iff_eq.mpr c6; clear c6; obtain rfl := Option.some.inj H; obtain ⟨p5, q5, hx5⟩ := xV a0 x5_1; go_wp2; go_ret; exact ⟨xR, xG⟩
    have c6b0 := beq_eq_false_iff_ne.mpr c6; have c6b1 := bne_iff_ne.mpr c6; have H' := Aside0.mk H; clear H; obtain ⟨p5, q5, hx5⟩ := xV a0 x5_1; go_wp2; go_roundg k1
    case measure => exact xO1
    case rel => exact ⟨(wrap64 (x5_1 + 1)), xR, H', ⟨xO1⟩, by repeat (first | exact Drawn0.refl _ | apply Drawn0.step)⟩
   replace c3 := decide_eq_false c3; obtain rfl := Option.some.inj H; go_wp2; go_ret; exact ⟨xR, xG⟩
mutual
def armadaref07_read.j0 : Nat → ByteArray → Int → Bool → Option (Int)
 | 0, _, _, _ => none
 | k + 1, x0, x3, x12 => if x12 = true then (some (-1)) else (armadaref07_read.l0 k x0 x3 0)
def armadaref07_read.l0 : Nat → ByteArray → Int → Int → Option (Int)
 | 0, _, _, _ => none
 | k + 1, x0, x3, x4 => if x4 < (x0.size : Int) then (if 0 ≤ x4 then (armadaref07_read.l0 k x0 (wrap64 ((wrap64 ((wrap64 (10 * x3)) + (wrap64 (bt x0 x4)))) - 48)) (wrap64 (x4 + 1))) else (none)) else (some x3)
end
def armadaref07_read.f (k : Nat) (a0 : ByteArray) : Option (Int) := (armadaref07_digits.f k a0).bind fun t108 => (if t108 = true then (armadaref07_read.j0 k a0 0 (decide ((a0.size : Int) > 9))) else (armadaref07_read.j0 k a0 0 true))
set_option maxHeartbeats 8000000 in
set_option maxRecDepth 100000 in
theorem armadaref07_read.calls (k : Nat) (a0 : ByteArray) (r : Int) (w : World) (h : armadaref07_read.f k a0 = some r) :
  Calls Tryz.prog 38 #[.string a0] w fun e w' => e = .returned (.int .i64 r) ∧ Drawn0 w w' := by
 have H : ((armadaref07_digits.f k a0).bind fun t108 => (if t108 = true then (armadaref07_read.j0 k a0 0 (decide ((a0.size : Int) > 9))) else (armadaref07_read.j0 k a0 0 true))) = some r := h; clear h; have HC2 := Aside0.mk H; clear H; go_enter Tryz.func38, Tryz.ntmps38; go_upto_region 2 with (fail)
 go_cut [12] (fun v12 wc => ∃ (kq : Nat) (x12_1 : Bool), v12 = .bool x12_1 ∧ Aside0 (armadaref07_read.j0 kq a0 0 x12_1 = some r) ∧ Aside0 (kq ≤ k) ∧ Drawn0 w wc)
 case first =>
  have H := HC2.out; clear HC2; replace H := xb H; obtain ⟨t108, A3, H⟩ := H
  by_cases c4 : t108 = true
  ·
   subst c4; rw [if_pos rfl] at H; have H' := Aside0.mk H; clear H; go_wp2_with (first | ((with_reducible refine gate_callee (f := 67) rfl ?_); refine goesL_ (some 6) rfl rfl Tryz.func67 (by kernel_rfl) rfl #[.string a0] rfl xS ?_; (with_reducible refine (armadaref07_digits.calls k a0 true _ A3.out).mono ?_); rintro e w' ⟨rfl, ⟨nd, rfl⟩⟩; refine ⟨_, rfl, ?_⟩)); go_meet
   case rel => exact ⟨_, (decide ((a0.size : Int) > 9)), xR, H', ⟨by first | omega | exact Nat.le_refl _⟩, by repeat (first | exact Drawn0.refl _ | apply Drawn0.step)⟩
  replace c4 := Bool.eq_false_iff.mpr c4; subst c4; rw [if_neg (show ¬ (false = true) by decide)] at H; have H' := Aside0.mk H; clear H; go_wp2_with (first | ((with_reducible refine gate_callee (f := 67) rfl ?_); refine goesL_ (some 6) rfl rfl Tryz.func67 (by kernel_rfl) rfl #[.string a0] rfl xS ?_; (with_reducible refine (armadaref07_digits.calls k a0 false _ A3.out).mono ?_); rintro e w' ⟨rfl, ⟨nd, rfl⟩⟩; refine ⟨_, rfl, ?_⟩)); go_meet
  case rel => exact ⟨_, (true), xR, H', ⟨by first | omega | exact Nat.le_refl _⟩, by repeat (first | exact Drawn0.refl _ | apply Drawn0.step)⟩
 case rest =>
  clear HC2
  try clear p2
  try clear c3
  try clear c4
  obtain ⟨kq, x12_1, rfl, HA, HJ1, ⟨mc1, rfl⟩⟩ := hcut
  cases kq with
  | zero => exact absurd HA.out (by simp [armadaref07_read.j0])
  | succ kj1 =>
   have H := HA.out; clear HA; simp only [armadaref07_read.j0] at H
   by_cases c5 : x12_1 = true
   ·
    subst c5; rw [if_pos rfl] at H; obtain rfl := Option.some.inj H; go_wp2; go_ret; exact ⟨xR, xG⟩
   replace c5 := Bool.eq_false_iff.mpr c5; subst c5; rw [if_neg (show ¬ (false = true) by decide)] at H; have H' := Aside0.mk H; clear H; go_wp2
   go_loopg [3, 4] kj1 (fun kq v3 v4 w' => ∃ (x3_2 : Int) (x4_2 : Int), v3 = .int .i64 x3_2 ∧ v4 = .int .i64 x4_2 ∧ Aside0 (armadaref07_read.l0 kq a0 x3_2 x4_2 = some r) ∧ Aside0 (kq ≤ kj1) ∧ Drawn0 w w')
   case atStart => exact ⟨(0), (0), xR, xR, H', ⟨Nat.le_refl _⟩, by repeat (first | exact Drawn0.refl _ | apply Drawn0.step)⟩
   case round =>
    clear H'
    try clear c1
    try clear p2
    try clear c3
    try clear c4
    try clear c5
    try clear p2
    obtain ⟨x3_2, x4_2, rfl, rfl, HA, HK2, ⟨m2, rfl⟩⟩ := hrel
    cases gk with
    | zero => exact absurd HA.out (by simp [armadaref07_read.l0])
    | succ k2 =>
     have H := HA.out; clear HA; simp only [armadaref07_read.l0] at H; replace H := xJ H; rcases H with ⟨c6, H⟩ | ⟨c6, H⟩
     ·
      replace c6 := decide_eq_true c6; replace H := xI H; obtain ⟨c7, H⟩ := H; replace c7 := decide_eq_true c7; have H' := Aside0.mk H; clear H; obtain ⟨p8, q8, hx8⟩ := xV a0 x4_2; go_wp2; go_roundg k2
      case measure => have := HJ1.out; have := HK2.out; omega
      case rel => exact ⟨(wrap64 ((wrap64 ((wrap64 (10 * x3_2)) + (wrap64 (bt a0 x4_2)))) - 48)), (wrap64 (x4_2 + 1)), xR, xR, H', ⟨by have := HJ1.out; have := HK2.out; omega⟩, by repeat (first | exact Drawn0.refl _ | apply Drawn0.step)⟩
     replace c6 := decide_eq_false c6; obtain rfl := Option.some.inj H; go_wp2; go_ret; exact ⟨xR, xG⟩
end Go.Proofs.YtjdhdjmdmnedfaaGreatDoor.RP
end

section
namespace Go.Proofs.YtjdhdjmdmnedfaaGreatDoor.RP
open Go.RowKit Go.Proofs.YtjdhdjmdmnedfaaGreatDoor Go.Proofs.YtjdhdjmdmnedfaaGreatDoor.K0 Go.Proofs.YtjdhdjmdmnedfaaGreatDoor.RD Go.Proofs.YtjdhdjmdmnedfaaGreatDoor.RA Go.Proofs.YtjdhdjmdmnedfaaGreatDoorW.PrintWords Go.Proofs.YtjdhdjmdmnedfaaGreatDoorW.PrintLast Go.Proofs.YtjdhdjmdmnedfaaGreatDoorW.PrintMore
attribute [local go_sem] max2_int min2_int max_two min_two max_three min_three max_four min_four
set_option linter.unusedVariables false
set_option linter.unusedSimpArgs false
end Go.Proofs.YtjdhdjmdmnedfaaGreatDoor.RP
end

section
namespace Go.Proofs.YtjdhdjmdmnedfaaGreatDoor
open Go Go.RowKit Go.Proofs Go.Proofs.YtjdhdjmdmnedfaaGreatDoorW.PrintWords Go.Proofs.YtjdhdjmdmnedfaaGreatDoor.K0 Go.Proofs.YtjdhdjmdmnedfaaGreatDoor.RD Go.Proofs.YtjdhdjmdmnedfaaGreatDoor.RA Go.Proofs.YtjdhdjmdmnedfaaGreatDoor.RP
set_option linter.unusedVariables false
set_option linter.unusedSimpArgs false
def idxC (c : UInt8) : List UInt8 → Nat
  | [] => 0
  | b :: t => if b = c then 0 else idxC c t + 1
theorem idxC_cons (c b : UInt8) (t : List UInt8) : idxC c (b :: t) = if b = c then 0 else idxC c t + 1 := rfl
theorem cutC_idx (c : UInt8) : ∀ l : List UInt8, cutC c l = (l.take (idxC c l), l.drop (idxC c l + 1))
  | [] => rfl
  | b :: t => by
    unfold cutC idxC
    by_cases h : b = c
    · rw [if_pos h, if_pos h]; rfl
    · rw [if_neg h, if_neg h, cutC_idx c t]; rfl
theorem idxC_lt {c : UInt8} : ∀ {l : List UInt8}, c ∈ l → idxC c l < l.length
  | [], h => by cases h
  | b :: t, h => by
    unfold idxC
    by_cases hb : b = c
    · rw [if_pos hb]; simp
    · rw [if_neg hb, List.length_cons]
      have := idxC_lt ((List.mem_cons.1 h).resolve_left (fun e => hb e.symm))
      omega
theorem find_l0 (s : ByteArray) (c : UInt8) (hs : s.size ≤ 4294967290) : ∀ (d n k : Nat), s.size - n = d → n ≤ s.size → d < k → armadaref07_find.l0 k s (c.toNat : Int) (n : Int) = some (if c ∈ s.data.toList.drop n then ((n + idxC c (s.data.toList.drop n) : Nat) : Int) else -1) := by
  intro d
  induction d with
  | zero =>
    intro n k hd hn hk
    obtain ⟨k, rfl⟩ : ∃ m, k = m + 1 := ⟨k - 1, by omega⟩
    simp only [armadaref07_find.l0]
    rw [if_neg (by omega), scan_end (by omega), if_neg (by simp)]
  | succ d ih =>
    intro n k hd hn hk
    obtain ⟨k, rfl⟩ : ∃ m, k = m + 1 := ⟨k - 1, by omega⟩
    obtain ⟨b, hb, hd2⟩ := scan (s := s) (n := n) (by omega)
    simp only [armadaref07_find.l0]
    rw [if_pos (by omega), if_pos (by omega), hb, hd2]
    by_cases h : b = c
    · subst h
      rw [if_pos rfl, if_pos List.mem_cons_self]
      unfold idxC
      rw [if_pos rfl]; rfl
    · rw [if_neg (fun e => h (UInt8.toNat_inj.1 (by omega))), wrap_succ (by omega), ih (n + 1) k (by omega) (by omega) (by omega)]
      by_cases hm : c ∈ s.data.toList.drop (n + 1)
      · rw [if_pos hm, if_pos (List.mem_cons_of_mem _ hm)]
        rw [idxC_cons, if_neg h]
        congr 2
        omega
      · rw [if_neg hm, if_neg (fun e => (List.mem_cons.1 e).elim (fun e => h e.symm) hm)]
theorem find_f (s : ByteArray) (c : UInt8) (hs : s.size ≤ 4294967290) (k : Nat) (hk : s.size < k) : armadaref07_find.f k s (c.toNat : Int) = some (if c ∈ s.data.toList then ((idxC c s.data.toList : Nat) : Int) else -1) := by
  have := find_l0 s c hs s.size 0 k rfl (Nat.zero_le _) hk
  rw [List.drop_zero, Nat.zero_add] at this
  exact this
theorem rread_l0 (s : ByteArray) (hs : s.size ≤ 4294967290) : ∀ (d n x k : Nat), s.size - n = d → n ≤ s.size → (s.data.toList.drop n).all isDig = true → valFrom x (s.data.toList.drop n) < 10000000000 → d < k →
    armadaref07_read.l0 k s (x : Int) (n : Int) = some ((valFrom x (s.data.toList.drop n) : Nat) : Int) := by
  intro d
  induction d with
  | zero =>
    intro n x k hd hn hall hv hk
    obtain ⟨k, rfl⟩ : ∃ m, k = m + 1 := ⟨k - 1, by omega⟩
    simp only [armadaref07_read.l0]
    rw [if_neg (by omega), scan_end (by omega)]; rfl
  | succ d ih =>
    intro n x k hd hn hall hv hk
    obtain ⟨k, rfl⟩ : ∃ m, k = m + 1 := ⟨k - 1, by omega⟩
    obtain ⟨b, hb, hd2⟩ := scan (s := s) (n := n) (by omega)
    rw [hd2] at hall hv ⊢
    rw [List.all_cons, Bool.and_eq_true] at hall
    have hbd : 48 ≤ b.toNat ∧ b.toNat ≤ 57 := by
      have h1 := hall.1; unfold isDig digN at h1; simpa using h1
    have hvv : valFrom x (b :: s.data.toList.drop (n + 1)) = valFrom (x * 10 + (b.toNat - 48)) (s.data.toList.drop (n + 1)) := rfl
    rw [hvv] at hv ⊢
    have hle : x * 10 + (b.toNat - 48) < 10000000000 := by
      have hge := valFrom_ge (s.data.toList.drop (n + 1)) (x * 10 + (b.toNat - 48))
      have hp : 1 ≤ 10 ^ (s.data.toList.drop (n + 1)).length := Nat.pow_pos (by decide)
      exact Nat.lt_of_le_of_lt (Nat.le_trans (Nat.le_mul_of_pos_right _ hp) hge) hv
    have hh := fun h1 h2 => ih (n + 1) (x * 10 + (b.toNat - 48)) k h1 h2 hall.2 hv
    clear ih hvv hall
    generalize valFrom (x * 10 + (b.toNat - 48)) (s.data.toList.drop (n + 1)) = V at hv hh ⊢
    simp only [armadaref07_read.l0]
    rw [if_pos (by omega), if_pos (by omega), hb, wrap_succ (by omega)]
    rw [wrap_id (z := 10 * (x : Int)) (by omega) (by omega), wrap_id (z := (b.toNat : Int)) (by omega) (by omega),
      wrap_id (z := 10 * (x : Int) + (b.toNat : Int)) (by omega) (by omega), wrap_id (z := 10 * (x : Int) + (b.toNat : Int) - 48) (by omega) (by omega),
      show 10 * (x : Int) + (b.toNat : Int) - 48 = ((x * 10 + (b.toNat - 48) : Nat) : Int) by omega]
    exact hh (by omega) (by omega) (by omega)
theorem rread_f (s : ByteArray) (hs : s.size ≤ 4294967290) (k : Nat) (hk : s.size + 2 < k) : armadaref07_read.f k s = some (if digitsOk s.data.toList = true ∧ s.size ≤ 9 then ((val s.data.toList : Nat) : Int) else -1) := by
  obtain ⟨k, rfl⟩ : ∃ m, k = m + 1 := ⟨k - 1, by omega⟩
  unfold armadaref07_read.f
  rw [ref_digits_f s hs _ (by omega)]
  simp only [Option.bind_some]
  cases hd : digitsOk s.data.toList with
  | false => rw [if_neg (by simp), if_neg (by simp)]; simp [armadaref07_read.j0]
  | true =>
    rw [if_pos rfl]
    simp only [armadaref07_read.j0]
    by_cases h9 : s.size ≤ 9
    · rw [decide_eq_false (by omega), if_neg (by simp), if_pos (by exact ⟨by trivial, h9⟩)]
      unfold digitsOk at hd
      rw [Bool.and_eq_true] at hd
      have hlt := val_lt _ hd.1
      have hpow : 10 ^ s.data.toList.length ≤ 10 ^ 9 := Nat.pow_le_pow_right (by omega) (by rw [← Lib.size_eq]; exact h9)
      have := rread_l0 s hs s.size 0 0 k rfl (Nat.zero_le _) (by rw [List.drop_zero]; exact hd.1) (by rw [List.drop_zero]; unfold val at hlt; omega) (by omega)
      rw [List.drop_zero] at this
      exact this
    · rw [decide_eq_true (by omega), if_pos rfl, if_neg (fun h => h9 h.2)]
theorem rsplit_f (s : ByteArray) (hs : s.size ≤ 4294967280) (k : Nat) (hk : s.size + 1 < k) : armadaref09_Split.f k s = some ((linesOf s.data.toList).map ba) := by
  unfold armadaref09_Split.f
  rw [show (10 : Int) = ((10 : UInt8).toNat : Int) from rfl, ref_split 10 s (by omega) k hk]
  simp only [Option.bind_some]
  have hne := splitBy_ne 10 s
  have hle := splitBy_length 10 s
  have hpos : 0 < (splitBy 10 s).length := List.length_pos_iff.2 hne
  have hw : wrap64 (((splitBy 10 s).length : Int) - 1) = (((splitBy 10 s).length - 1 : Nat) : Int) := by
    rw [wrap_id (z := ((splitBy 10 s).length : Int) - 1) (by omega) (by omega)]; omega
  rw [hw, if_pos (by omega), if_pos (by omega)]
  obtain ⟨x, h1, h2, h3⟩ := rd_at (l := splitBy 10 s) (n := (splitBy 10 s).length - 1) (by omega)
  rw [h1, Int.toNat_natCast]
  have hx : (splitC 10 s.data.toList).getLast? = some x.data.toList := by
    have : (splitBy 10 s).getLast? = some x := by rw [List.getLast?_eq_getElem?]; exact h3
    have h4 := congrArg (Option.map (fun y : ByteArray => y.data.toList)) this
    rw [← List.getLast?_map, split_data] at h4
    exact h4
  unfold linesOf
  by_cases hz : x.toList = []
  · rw [if_pos hz, if_pos (by omega), if_pos (by rw [hx, (toList_nil x).1 hz])]
    congr 1
    rw [← List.dropLast_eq_take]
    show (List.map ba _).dropLast = _
    rw [List.map_dropLast]
  · rw [if_neg hz, if_neg (by rw [hx]; intro e; exact hz ((toList_nil x).2 (Option.some.inj e)))]
    rfl
/-- What the document's parse of a version hands back. -/
def verR (o : Option (Int × Int × Int × List UInt8 × List UInt8)) : Int × Int × Int × ByteArray × ByteArray × Bool := match o with
  | some (a, b, c, p, q) => (a, b, c, ba p, ba q, true)
  | none => (0, 0, 0, ⟨#[]⟩, ⟨#[]⟩, false)
/-- What the document reads as a number. -/
def numD (e : List UInt8) : Int := if digitsOk e = true ∧ e.length ≤ 9 then ((val e : Nat) : Int) else -1
theorem numD_dec {n : Nat} (h : n ≤ 999999999) : numD (Lib.decDigits n) = (n : Int) := by
  have hl := dec_len 8 n (by omega)
  obtain ⟨h1, h2⟩ := dec_all 8 n (by omega)
  have hd : digitsOk (Lib.decDigits n) = true := by
    unfold digitsOk
    rw [h1]
    have := dec_ne n
    cases hh : Lib.decDigits n with
    | nil => exact absurd hh this
    | cons _ _ => rfl
  unfold numD
  rw [if_pos ⟨hd, by omega⟩, h2]
theorem pv_len {s : List UInt8} (h : (splitC 46 (cutC 45 (cutC 43 (s.drop 1)).1).1).length ≠ 3) : parseV s = none := by
  unfold parseV
  split
  · split
    · rename_i e; rw [e] at h; exact absurd rfl h
    · rfl
  · rfl
theorem pv_is {s : List UInt8} (hs : s ≠ []) {e0 e1 e2 : List UInt8} (hl : splitC 46 (cutC 45 (cutC 43 (s.drop 1)).1).1 = [e0, e1, e2]) :
    parseV s = if (textV (numD e0) (numD e1) (numD e2) (ba (cutC 45 (cutC 43 (s.drop 1)).1).2) (ba (cutC 43 (s.drop 1)).2)).data.toList = s then some (numD e0, numD e1, numD e2, (cutC 45 (cutC 43 (s.drop 1)).1).2, (cutC 43 (s.drop 1)).2) else none := by
  split
  · rename_i h
    exact (parseV_text hs h).2
  · rename_i h
    cases hp : parseV s with
    | none => rfl
    | some r =>
      obtain ⟨a, b, c, u, v⟩ := r
      obtain ⟨hv, hb⟩ := parseV_some hp
      have vi := verIs hv
      have a0 := vi.a0
      have a9 := vi.a9
      have b0 := vi.b0
      have b9 := vi.b9
      have c0 := vi.c0
      have c9 := vi.c9
      obtain ⟨c1, c2, c3⟩ := cut_bytes hv
      rw [ba_data, ba_data] at c1
      rw [ba_data] at c2
      rw [← hb] at c1
      refine absurd ?_ h
      rw [c1] at hl ⊢
      simp only at hl ⊢
      rw [c2] at hl ⊢
      simp only at hl ⊢
      rw [c3] at hl
      simp only [List.cons.injEq, and_true] at hl
      obtain ⟨rfl, rfl, rfl⟩ := hl
      rw [numD_dec (by omega), numD_dec (by omega), numD_dec (by omega), Int.toNat_of_nonneg a0, Int.toNat_of_nonneg b0, Int.toNat_of_nonneg c0, textV_ok hv, hb]
      rfl
theorem pv_head {s : List UInt8} (h : s.head? ≠ some 118) : parseV s = none := by
  unfold parseV
  rw [if_neg h]
theorem pv_long {s : List UInt8} (h : 100 < s.length) : parseV s = none := by
  cases hp : parseV s with
  | none => rfl
  | some r =>
    obtain ⟨a, b, c, u, v⟩ := r
    obtain ⟨hv, hb⟩ := parseV_some hp
    have := bytesV_len hv
    rw [ba_data, ba_data, ← hb] at this
    omega
end Go.Proofs.YtjdhdjmdmnedfaaGreatDoor
end
