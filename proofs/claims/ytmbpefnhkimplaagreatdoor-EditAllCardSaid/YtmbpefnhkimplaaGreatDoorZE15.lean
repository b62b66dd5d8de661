/- The texts MnTake, MnOne, R3x0 in one file, without what these claims do not use (put together by prune2.py). -/
import Derived.Test.YtmbpefnhkimplaaGreatDoorZE14
import Derived.Test.YtmbpefnhkimplaaGreatDoorZE5
import Derived.Test.YtmbpefnhkimplaaGreatDoorZE7
import Derived.Test.YtmbpefnhkimplaaGreatDoorZE9
import Derived.Test.YtmbpefnhkimplaaGreatDoorZE11
section
namespace Go.Proofs.YtmbpefnhkimplaaGreatDoor
open Go Go.RowKit Go.Sort Go.Maps Go.Proofs Go.Proofs.YtmbpefnhkimplaaGreatDoorW.PrintWords Go.Proofs.YtmbpefnhkimplaaGreatDoorW.PrintLast Go.Proofs.YtmbpefnhkimplaaGreatDoor.K0
set_option linter.unusedVariables false
set_option linter.unusedSimpArgs false
theorem cutW_len (s : ByteArray) (ws : List Wd) (fr : Int) (i : Nat) : (cutW s ws fr i).length ≤ ws.length + 1 := by
  unfold cutW; split <;> simp
set_option maxRecDepth 100000 in
set_option maxHeartbeats 2000000 in
theorem take_rem (w0 : World) (B : Nat) (va : Value) (ws : List Wd) (note s : ByteArray) (fr : Int) (i : Nat) (w : World) (hI : LxIs w0 B va ws note s fr w) (hi : i < s.size) (hr : remW s i fr = true) :
    Calls Tryz.prog 125 #[.pointer (some ⟨B, 0, none⟩), .int .i64 i] w fun e w' => e = .returned (.bool false) ∧ ∃ va', LxIs w0 B va' ws (s.extract i s.size) s fr w' := by
  have HM := Aside0.mk hI
  clear hI
  obtain ⟨x0, x1, x2, x3⟩ := HM.out.cells
  unfold remW at hr
  rw [Bool.and_eq_true] at hr
  have h0 : fr < 0 := of_decide_eq_true hr.1
  have hp := hr.2
  clear hr
  have hz2 : (i : Int) ≤ (s.size : Int) := by omega
  have hpx := fun W => Tryz.strings_HasPrefix (s.extract i s.size) ⟨#[47, 47]⟩ W
  rw [hp] at hpx
  have HPX := Aside0.mk hpx
  clear hpx hp
  go_enter Tryz.func125, Tryz.ntmps125
  go_wp2_with (first | (go_at_call 160; with_reducible refine (HPX.out _).mono ?_; rintro e w' ⟨rfl, rfl⟩) | ((with_reducible refine gate_ (.store 9 (.tmp 28) (.tmp 25)) rfl ?_); refine store_ev 9 (.tmp 28) (.tmp 25) rfl rfl rfl 1 [.string (s.extract i s.size)] HM.out.blk rfl rfl rfl (by kernel_rfl) (show 1 + 1 ≤ 4 by decide) (by simp [Value.oneCell']) rfl ?_; intro w6 hn hg; have HZ := Aside0.mk (HM.out.put (note' := s.extract i s.size) (s' := s) (fr' := fr) hn hg); clear hn hg))
  go_ret
  exact ⟨rfl, _, HZ.out⟩
set_option maxRecDepth 100000 in
set_option maxHeartbeats 4000000 in
theorem take_sign (w0 : World) (B : Nat) (va : Value) (ws : List Wd) (note s : ByteArray) (fr : Int) (i : Nat) (w : World) (hI : LxIs w0 B va ws note s fr w) (hi : i < s.size) (hs : s.size ≤ 400000) (hfi : fr ≤ i) (hb : ws.length ≤ 900000) (hr : remW s i fr = false) (hc : sgnC (bt s i) = true) :
    Calls Tryz.prog 125 #[.pointer (some ⟨B, 0, none⟩), .int .i64 i] w fun e w' => e = .returned (.bool true) ∧ ∃ va', LxIs w0 B va' (cutW s ws fr i ++ [(⟨s.extract i (i + 1), (i : Int)⟩ : Wd)]) note s (-1) w' := by
  have HM := Aside0.mk hI
  clear hI
  obtain ⟨x0, x1, x2, x3⟩ := HM.out.cells
  have hz2 : (i : Int) ≤ (s.size : Int) := by omega
  have hz3 : (i : Int) < (s.size : Int) := by omega
  have hfx : ∀ k : Int, (((s[i].toNat : Nat) : Int) == k) = (bt s i == k) := fun k => by simp [bt, hi]
  have hz4 : IntKind.i64.wrap ((i : Int) + 1) = (i : Int) + 1 := by rw [IntKind.wrap_i64]; omega
  have hz5 : (i : Int) + 1 ≤ (s.size : Int) := by omega
  have hz6 : (i : Int) ≤ (i : Int) + 1 := by omega
  have hz7 : ((i : Int) + 1).toNat = i + 1 := by omega
  have hpx := fun W => Tryz.strings_HasPrefix (s.extract i s.size) ⟨#[47, 47]⟩ W
  have HF1 : Aside0 (0 ≤ fr → fr ≤ (i : Int) ∧ i ≤ s.size) := ⟨fun _ => ⟨hfi, by omega⟩⟩
  have HF2 : Aside0 (0 ≤ (-1 : Int) → (-1 : Int) ≤ (i : Int) ∧ i ≤ s.size) := ⟨fun h => absurd h (by decide)⟩
  have HB1 : Aside0 (ws.length ≤ 1000000) := ⟨by omega⟩
  obtain ⟨wl, hwc⟩ : ∃ wl, wl = cutW s ws fr i := ⟨_, rfl⟩
  have HWC := Aside0.mk hwc
  have HBC : Aside0 (wl.length ≤ 999999) := ⟨by rw [hwc]; have := cutW_len s ws fr i; omega⟩
  have HB2 : Aside0 ((wl ++ [(⟨s.extract i (i + 1), (i : Int)⟩ : Wd)]).length ≤ 1000000) := ⟨by have := HBC.out; simp; omega⟩
  clear hwc hfi hb
  unfold sgnC at hc
  simp only [Bool.or_eq_true, beq_iff_eq] at hc
  unfold remW at hr
  generalize hpb : Lib.hasPrefix (s.extract i s.size).data.toList [47, 47] = hpv at hr
  have HPX : Aside0 (∀ W, Calls Tryz.prog 160 #[.string (s.extract i s.size), .string ⟨#[47, 47]⟩] W fun e w' => e = .returned (.bool hpv) ∧ w' = W) := ⟨fun W => hpb ▸ hpx W⟩
  clear hpb hpx
  go_enter Tryz.func125, Tryz.ntmps125
  go_upto_region 1 with fail
  go_cut [18] (fun v18 W9 => v18 = .bool false ∧ w = W9)
  case first =>
    by_cases h0 : fr < 0
    · have hpv0 : hpv = false := by simpa [h0] using hr
      subst hpv0
      go_wp2_with (go_at_call 160; with_reducible refine (HPX.out _).mono ?_; rintro e w' ⟨rfl, rfl⟩)
      go_meet
      case rel => exact ⟨rfl, rfl⟩
    · go_wp2
      go_meet
      case rel => exact ⟨rfl, rfl⟩
  case rest =>
  obtain ⟨rfl, rfl⟩ := hcut
  clear hr
  go_upto_block 1 with fail
  go_cut [] (fun W9 => w = W9)
  case first =>
    rcases hc with (((hc | hc) | hc) | hc) | hc
    all_goals
      have q40 := hfx 40; have q41 := hfx 41; have q91 := hfx 91; have q93 := hfx 93; have q44 := hfx 44; have q32 := hfx 32; have q9 := hfx 9; simp only [hc, Int.reduceBEq] at q40 q41 q91 q93 q44 q32 q9; clear hfx hc
      go_wp2
      go_meet
      case rel => exact rfl
  case rest =>
  obtain rfl := hcut
  go_wp2_with (go_at_call 126; with_reducible refine (cut_calls w0 B va ws note s fr i _ HM.out HF1.out HB1.out).mono ?_; rintro e W1 ⟨rfl, vb1, hb⟩; rw [← HWC.out] at hb; obtain ⟨A2, c2, rfl⟩ := Kd.R_slice hb.own; have HC1 := Aside0.mk hb; clear hb)
  clear x0 x1 x2 x3
  refine sX (ds := [21]) (S := fun w' => w'.cell? ⟨B, 0, none⟩ = some (.slice A2 wl.length c2) ∧ w'.cell? ⟨B, 1, none⟩ = some (.string note) ∧ w'.cell? ⟨B, 2, none⟩ = some (.string s) ∧ w'.cell? ⟨B, 3, none⟩ = some (.int .i64 (-1))) lxt.tab13 lxt.bits13 (LxIs.cells (HC1.out.step (below_drew1 (Below.refl _ _)))) (fun HT_ HW_ hHeld => ?_)
  have HM4 := Aside0.mk (HC1.out.step (below_drew1 (Below.refl _ _)))
  generalize W1.drew = w4 at HM4 hHeld ⊢
  refine pX HT_ 0 1 47 ?_
  refine pX HT_ 1 3 48 ?_
  refine pX HT_ 2 7 49 ?_
  refine pX HT_ 3 15 50 ?_
  refine pX HT_ 4 31 51 ?_
  refine pX HT_ 6 95 53 ?_
  refine pX HT_ 7 223 54 ?_
  refine pX HT_ 8 479 55 ?_
  refine pX HT_ 10 1503 57 ?_
  refine pX HT_ 11 3551 58 ?_
  refine pX HT_ 12 7647 59 ?_
  refine pX HT_ 14 24031 61 ?_
  refine tX HT_ HW_ hHeld 5 24063 52 ?_
  refine tX HT_ HW_ hHeld 9 24575 56 ?_
  refine pX HT_ 13 32767 60 ?_
  refine pX HT_ 15 65535 62 ?_
  refine oX HT_ 16 131071 (some 63) (fun K hK => ?_)
  refine value_ (by kernel_rfl) rfl (by go_simp; exact ⟨rfl, rfl⟩) ?_
  refine hK.out _ _ (LxIs.cells (HM4.out.step (below_alloc (Below.refl _ _) _))) (fun hHeld => ?_)
  clear hK K
  refine norm_ nX ?_
  refine oX HT_ 17 262143 (some 64) (fun K hK => ?_)
  have hWl := blk_lt HM4.out.blk
  refine Kd.R_append_step k159 (w0 := w4) (B + 1) (by kernel_rfl) (.tmp 52) (.tmp 63) 140 159 _ 24 rfl Tryz.underlying140 info159 rfl (by decide) (by decide) (.slice A2 wl.length c2) wl (⟨s.extract i (i + 1), (i : Int)⟩ : Wd) _ (fun k => B < k) (fun _ => False) rfl rfl (k159_mkM _ _ _ (⟨s.extract i (i + 1), (i : Int)⟩ : Wd)) (fun _ h => h.elim) (fun k hk => by omega) HM4.out.own (Below.refl _ _) (by omega) (by have := HBC.out; omega) ?_
  intro v1 w5 ho hb hg hat
  obtain ⟨A3, c3, rfl⟩ := Kd.R_slice ho
  have hwb : some B ≠ (Value.slice A2 wl.length c2).ownBlock := fun e => by have := HM4.out.own.1 B e.symm; omega
  have HW5 := Aside0.mk (blk_grown HM4.out.blk hg hwb)
  have HB5 := Aside0.mk (HM4.out.below.grown hg HM4.out.below.size (fun k hk => by have := HM4.out.own.1 k hk; have := HM4.out.ge; omega))
  have HO5 := Aside0.mk ho
  have HGE := Aside0.mk HM4.out.ge
  clear ho hb hg hat hwb
  show K (Act.put _ (some 64) (.slice A3 _ c3)) w5
  refine hK.out _ _ ⟨(blk_cell HW5.out 0).trans rfl, (blk_cell HW5.out 1).trans rfl, (blk_cell HW5.out 2).trans rfl, (blk_cell HW5.out 3).trans rfl⟩ (fun hHeld => ?_)
  clear hK K
  refine norm_ nX ?_
  refine pX HT_ 18 524287 65 ?_
  refine pX HT_ 19 1048575 66 ?_
  refine pX HT_ 20 2097151 67 ?_
  have hf := blk_frozen HW5.out 0
  have hcc := (blk_cell HW5.out 0).trans rfl
  refine lX HT_ 21 4194303 none (fun K hK => ?_)
  refine skip_ (w1 := w5.setCell ⟨B, 0, none⟩ (.slice A3 (wl ++ [(⟨s.extract i (i + 1), (i : Int)⟩ : Wd)]).length c3)) (by kernel_rfl) rfl (by go_simp) ?_
  refine hK.out _ _ ?_
  clear hK K
  refine eX HT_ ?_
  clear HT_ HW_ hHeld
  have HM6 := Aside0.mk (show LxIs w0 B (.slice A3 (wl ++ [(⟨s.extract i (i + 1), (i : Int)⟩ : Wd)]).length c3) (wl ++ [(⟨s.extract i (i + 1), (i : Int)⟩ : Wd)]) note s (-1) (w5.setCell ⟨B, 0, none⟩ (.slice A3 (wl ++ [(⟨s.extract i (i + 1), (i : Int)⟩ : Wd)]).length c3)) from ⟨HB5.out.setCell (p := ⟨B, 0, none⟩) HGE.out _, HGE.out, blk_set HW5.out 0 _, Kd.R_far HO5.out (fun k hk => (Nat.ne_of_gt hk : k ≠ B)) _⟩)
  generalize w5.setCell ⟨B, 0, none⟩ (.slice A3 (wl ++ [(⟨s.extract i (i + 1), (i : Int)⟩ : Wd)]).length c3) = w6 at HM6 ⊢
  clear hf hcc HW5 HB5 HO5 HM4
  go_wp2_with (go_at_call 126; with_reducible refine (cut_calls w0 B _ (wl ++ [(⟨s.extract i (i + 1), (i : Int)⟩ : Wd)]) note s (-1) i _ HM6.out HF2.out HB2.out).mono ?_; rintro e W2 ⟨rfl, vb2, hb⟩; have HC2 := Aside0.mk hb; clear hb)
  go_ret
  exact ⟨rfl, _, by rw [← HWC.out]; exact HC2.out⟩
set_option maxRecDepth 100000 in
set_option maxHeartbeats 4000000 in
theorem take_blank (w0 : World) (B : Nat) (va : Value) (ws : List Wd) (note s : ByteArray) (fr : Int) (i : Nat) (w : World) (hI : LxIs w0 B va ws note s fr w) (hi : i < s.size) (hs : s.size ≤ 400000) (hfi : fr ≤ i) (hb : ws.length ≤ 900000) (hr : remW s i fr = false) (hc : blkC (bt s i) = true) :
    Calls Tryz.prog 125 #[.pointer (some ⟨B, 0, none⟩), .int .i64 i] w fun e w' => e = .returned (.bool true) ∧ ∃ va', LxIs w0 B va' (cutW s ws fr i) note s (-1) w' := by
  have HM := Aside0.mk hI
  clear hI
  obtain ⟨x0, x1, x2, x3⟩ := HM.out.cells
  have hz2 : (i : Int) ≤ (s.size : Int) := by omega
  have hz3 : (i : Int) < (s.size : Int) := by omega
  have hfx : ∀ k : Int, (((s[i].toNat : Nat) : Int) == k) = (bt s i == k) := fun k => by simp [bt, hi]
  have hpx := fun W => Tryz.strings_HasPrefix (s.extract i s.size) ⟨#[47, 47]⟩ W
  have HF1 : Aside0 (0 ≤ fr → fr ≤ (i : Int) ∧ i ≤ s.size) := ⟨fun _ => ⟨hfi, by omega⟩⟩
  have HB1 : Aside0 (ws.length ≤ 1000000) := ⟨by omega⟩
  clear hfi hb
  unfold remW at hr
  generalize hpb : Lib.hasPrefix (s.extract i s.size).data.toList [47, 47] = hpv at hr
  have HPX : Aside0 (∀ W, Calls Tryz.prog 160 #[.string (s.extract i s.size), .string ⟨#[47, 47]⟩] W fun e w' => e = .returned (.bool hpv) ∧ w' = W) := ⟨fun W => hpb ▸ hpx W⟩
  clear hpb hpx
  unfold blkC at hc
  simp only [Bool.or_eq_true, beq_iff_eq] at hc
  go_enter Tryz.func125, Tryz.ntmps125
  go_upto_region 1 with fail
  go_cut [18] (fun v18 W9 => v18 = .bool false ∧ w = W9)
  case first =>
    by_cases h0 : fr < 0
    · have hpv0 : hpv = false := by simpa [h0] using hr
      subst hpv0
      go_wp2_with (go_at_call 160; with_reducible refine (HPX.out _).mono ?_; rintro e w' ⟨rfl, rfl⟩)
      go_meet
      case rel => exact ⟨rfl, rfl⟩
    · go_wp2
      go_meet
      case rel => exact ⟨rfl, rfl⟩
  case rest =>
  obtain ⟨rfl, rfl⟩ := hcut
  clear hr
  go_upto_block 2 with fail
  go_cut [] (fun W9 => w = W9)
  case first =>
    rcases hc with hc | hc
    all_goals
      have q40 := hfx 40; have q41 := hfx 41; have q91 := hfx 91; have q93 := hfx 93; have q44 := hfx 44; have q32 := hfx 32; have q9 := hfx 9; simp only [hc, Int.reduceBEq] at q40 q41 q91 q93 q44 q32 q9; clear hfx hc
      go_wp2
      go_meet
      case rel => exact rfl
  case rest =>
  obtain rfl := hcut
  go_wp2_with (go_at_call 126; with_reducible refine (cut_calls w0 B va ws note s fr i _ HM.out HF1.out HB1.out).mono ?_; rintro e W1 ⟨rfl, vb1, hb⟩; have HC1 := Aside0.mk hb; clear hb)
  go_ret
  exact ⟨rfl, _, HC1.out⟩
set_option maxRecDepth 100000 in
set_option maxHeartbeats 4000000 in
theorem take_other (w0 : World) (B : Nat) (va : Value) (ws : List Wd) (note s : ByteArray) (fr : Int) (i : Nat) (w : World) (hI : LxIs w0 B va ws note s fr w) (hi : i < s.size) (hs : s.size ≤ 400000) (hfi : fr ≤ i) (hb : ws.length ≤ 900000) (hr : remW s i fr = false) (h1 : sgnC (bt s i) = false) (h2 : blkC (bt s i) = false) :
    Calls Tryz.prog 125 #[.pointer (some ⟨B, 0, none⟩), .int .i64 i] w fun e w' => e = .returned (.bool true) ∧ ∃ va', LxIs w0 B va' ws note s (if fr < 0 then (i : Int) else fr) w' := by
  have HM := Aside0.mk hI
  clear hI
  obtain ⟨x0, x1, x2, x3⟩ := HM.out.cells
  have hz2 : (i : Int) ≤ (s.size : Int) := by omega
  have hz3 : (i : Int) < (s.size : Int) := by omega
  have hfx : ∀ k : Int, (((s[i].toNat : Nat) : Int) == k) = (bt s i == k) := fun k => by simp [bt, hi]
  have hpx := fun W => Tryz.strings_HasPrefix (s.extract i s.size) ⟨#[47, 47]⟩ W
  have HF1 : Aside0 (0 ≤ fr → fr ≤ (i : Int) ∧ i ≤ s.size) := ⟨fun _ => ⟨hfi, by omega⟩⟩
  have HB1 : Aside0 (ws.length ≤ 1000000) := ⟨by omega⟩
  clear hfi hb
  unfold remW at hr
  generalize hpb : Lib.hasPrefix (s.extract i s.size).data.toList [47, 47] = hpv at hr
  have HPX : Aside0 (∀ W, Calls Tryz.prog 160 #[.string (s.extract i s.size), .string ⟨#[47, 47]⟩] W fun e w' => e = .returned (.bool hpv) ∧ w' = W) := ⟨fun W => hpb ▸ hpx W⟩
  clear hpb hpx
  unfold sgnC at h1
  unfold blkC at h2
  simp only [Bool.or_eq_false_iff] at h1 h2
  obtain ⟨⟨⟨⟨n1, n2⟩, n3⟩, n4⟩, n5⟩ := h1
  obtain ⟨n6, n7⟩ := h2
  rw [← hfx] at n1 n2 n3 n4 n5 n6 n7
  clear hfx
  go_enter Tryz.func125, Tryz.ntmps125
  go_upto_region 1 with fail
  go_cut [18] (fun v18 W9 => v18 = .bool false ∧ w = W9)
  case first =>
    by_cases h0 : fr < 0
    · have hpv0 : hpv = false := by simpa [h0] using hr
      subst hpv0
      go_wp2_with (go_at_call 160; with_reducible refine (HPX.out _).mono ?_; rintro e w' ⟨rfl, rfl⟩)
      go_meet
      case rel => exact ⟨rfl, rfl⟩
    · go_wp2
      go_meet
      case rel => exact ⟨rfl, rfl⟩
  case rest =>
  obtain ⟨rfl, rfl⟩ := hcut
  clear hr
  by_cases h0 : fr < 0
  · go_wp2_with ((with_reducible refine gate_ (.store 3 (.tmp 79) (.tmp 77)) rfl ?_); refine store_ev 3 (.tmp 79) (.tmp 77) rfl rfl rfl 3 [.int .i64 i] HM.out.blk rfl rfl rfl (by kernel_rfl) (show 3 + 1 ≤ 4 by decide) (by simp [Value.oneCell']) rfl ?_; intro w6 hn hg; have HZ := Aside0.mk (HM.out.put (note' := note) (s' := s) (fr' := i) hn hg); clear hn hg)
    go_ret
    exact ⟨rfl, _, HZ.out⟩
  · go_wp2
    go_ret
    exact ⟨rfl, _, HM.out⟩
end Go.Proofs.YtmbpefnhkimplaaGreatDoor
end

section
namespace Go.Proofs.YtmbpefnhkimplaaGreatDoor
open Go Go.RowKit Go.Sort Go.Maps Go.Proofs Go.Proofs.YtmbpefnhkimplaaGreatDoorW.PrintWords Go.Proofs.YtmbpefnhkimplaaGreatDoorW.PrintLast Go.Proofs.YtmbpefnhkimplaaGreatDoor.K0
set_option linter.unusedVariables false
set_option linter.unusedSimpArgs false
set_option maxHeartbeats 1000000 in
theorem odd_calls (c : Int) (w : World) : Calls Tryz.prog 124 #[.int .u8 c] w fun e w' => e = .returned (.bool (oddC c)) ∧ w' = w := by
  by_cases h1 : c < 32 <;> by_cases h2 : (c != 9) = true <;> by_cases h3 : c > 126
  all_goals
    have HE : Aside0 (oddC c = ((decide (c < 32) && c != 9) || decide (c > 126))) := ⟨rfl⟩
    go_enter Tryz.func124, Tryz.ntmps124
    go_wp2
    go_ret
    refine ⟨?_, rfl⟩
    rw [HE.out]
    simp_all
/-- What One tells. -/
def OneIs (N : Nat) (s : ByteArray) (e : Ending) (w : World) : Prop :=
  match oneW s with
  | none => e = .returned (.tuple #[.agg #[.slice none 0 0, .string ⟨#[]⟩], .int .i64 9])
  | some (ws, note) => ∃ va, e = .returned (.tuple #[.agg #[va, .string note], .int .i64 0]) ∧ Kd.R k159 159 w N (fun k => N ≤ k) va ws
theorem lexW_step (s : ByteArray) (k : Nat) (x : List Wd × Int) (hk : k < s.size) : lexW s (s.size - k) k x = if remW s k x.2 then (x.1, s.extract k s.size) else lexW s (s.size - (k + 1)) (k + 1) (takeW s k x) := by
  have e : s.size - k = (s.size - (k + 1)) + 1 := by omega
  rw [e]; rfl
theorem oneW_none {s : ByteArray} {k : Nat} (hk : k < s.size) (h : oddC (bt s k) = true) : oneW s = none := by
  unfold oneW
  rw [if_pos]
  exact List.any_eq_true.2 ⟨k, List.mem_range.2 hk, h⟩
theorem oneW_some {s : ByteArray} (h : ∀ k, k < s.size → oddC (bt s k) = false) : oneW s = some (lexW s s.size 0 ([], -1)) := by
  unfold oneW
  rw [if_neg]
  intro hc
  obtain ⟨k, hk, ho⟩ := List.any_eq_true.1 hc
  rw [h k (List.mem_range.1 hk)] at ho
  exact Bool.noConfusion ho
theorem takeW_len (s : ByteArray) (i : Nat) (x : List Wd × Int) : (takeW s i x).1.length ≤ x.1.length + 2 := by
  unfold takeW
  have := cutW_len s x.1 x.2 i
  split
  · simp; omega
  · split <;> simp <;> omega
theorem takeW_fr (s : ByteArray) (i : Nat) (x : List Wd × Int) (h : x.2 ≤ i) : (takeW s i x).2 ≤ i := by
  unfold takeW
  split
  · show (-1 : Int) ≤ _; omega
  · split
    · show (-1 : Int) ≤ _; omega
    · show (if x.2 < 0 then (i : Int) else x.2) ≤ _; split <;> omega
/-- A byte is taken. -/
theorem take_step (w0 : World) (B : Nat) (va : Value) (x : List Wd × Int) (note s : ByteArray) (i : Nat) (w : World) (hI : LxIs w0 B va x.1 note s x.2 w) (hi : i < s.size) (hs : s.size ≤ 400000) (hfi : x.2 ≤ i) (hb : x.1.length ≤ 900000) (hr : remW s i x.2 = false) :
    Calls Tryz.prog 125 #[.pointer (some ⟨B, 0, none⟩), .int .i64 i] w fun e w' => e = .returned (.bool true) ∧ ∃ va', LxIs w0 B va' (takeW s i x).1 note s (takeW s i x).2 w' := by
  unfold takeW
  cases h1 : sgnC (bt s i) with
  | true => exact take_sign w0 B va x.1 note s x.2 i w hI hi hs hfi hb hr h1
  | false =>
    cases h2 : blkC (bt s i) with
    | true => exact take_blank w0 B va x.1 note s x.2 i w hI hi hs hfi hb hr h2
    | false => exact take_other w0 B va x.1 note s x.2 i w hI hi hs hfi hb hr h1 h2
abbrev lnc (va : Value) (note : ByteArray) : Array Value := #[va, .string note]
abbrev lz : Array Value := lnc (.slice none 0 0) ⟨#[]⟩
theorem one_end {w W Wb : World} {va : Value} {ws : List Wd} {note s : ByteArray} {fr : Int} (h : LxIs (w.alloc (.cells lz 142)) (w.heap.size + 1) va ws note s fr W) (hg : W.grownBy Wb (some w.heap.size)) : Below w.heap.size w Wb ∧ Kd.R k159 159 Wb w.heap.size (fun k => w.heap.size ≤ k) va ws := by
  have h0 : Below w.heap.size w W := below_step (below_alloc (Below.refl _ _) _) h.below
  have h1 := h.below.size
  have e1 : (w.alloc (.cells lz 142)).heap.size = w.heap.size + 1 := by simp
  refine ⟨h0.grown hg h0.size (fun k hk => by cases hk; exact Nat.le_refl _), ?_⟩
  exact Kd.R_lower (Kd.R_mono (Kd.R_grown h.own hg (fun k hk e => by cases e; omega)) (fun k hk => by omega)) (by omega)
set_option maxRecDepth 100000 in
set_option maxHeartbeats 4000000 in
theorem one_calls (s : ByteArray) (hs : s.size ≤ 400000) (w : World) : Calls Tryz.prog 98 #[.string s] w fun e w' => Below w.heap.size w w' ∧ OneIs w.heap.size s e w' := by
  obtain ⟨n, hn⟩ : ∃ n, n = s.size := ⟨_, rfl⟩
  have hbig : n ≤ 400000 := by omega
  have HN := Aside0.mk hn
  have HOC : Aside0 (∀ (W : World) (c : Int), Calls Tryz.prog 124 #[.int .u8 c] W fun e w' => e = .returned (.bool (oddC c)) ∧ w' = W) := ⟨fun W c => odd_calls c W⟩
  have hsz : (s.size : Int) = (n : Int) := by omega
  clear hn
  go_enter Tryz.func98, Tryz.ntmps98
  go_wp2
  go_loopg [4, 9] n (fun gg _ s9 wr => ∃ kk : Nat, kk ≤ n ∧ n - kk ≤ gg ∧ s9 = .int .i64 kk ∧ Aside0 (∀ k, k < kk → oddC (bt s k) = false) ∧ wr = w.alloc (.cells lz 142))
  case atStart => exact ⟨0, Nat.zero_le _, by omega, rfl, ⟨fun k hk => absurd hk (Nat.not_lt_zero k)⟩, rfl⟩
  case round =>
    obtain ⟨kk, hkk, hg, rfl, HA, rfl⟩ := hrel
    by_cases hlt : kk < n
    · have hltz : (kk : Int) < (n : Int) := by omega
      have hks : kk < s.size := by have := HN.out; omega
      have hfx : bt s kk = ((s[kk].toNat : Nat) : Int) := by simp [bt, hks]
      cases ho : oddC (bt s kk) with
      | true =>
        have HO := Aside0.mk (oneW_none hks ho)
        rw [hfx] at ho
        have HOC2 : Aside0 (∀ W : World, Calls Tryz.prog 124 #[.int .u8 ((s[kk].toNat : Nat) : Int)] W fun e w' => e = .returned (.bool true) ∧ w' = W) := ⟨fun W => ho ▸ HOC.out W _⟩
        clear ho hfx
        go_wp2_with (first | (go_at_call 124; with_reducible refine (HOC2.out _).mono ?_; rintro e w' ⟨rfl, rfl⟩) | ((with_reducible refine gate_ (.store 142 (.tmp 2) (.tmp 16)) rfl ?_); refine store_ev 142 (.tmp 2) (.tmp 16) rfl rfl rfl 0 [.slice none 0 0, .string ⟨#[]⟩] (heap_alloc_new w _) rfl rfl rfl (by kernel_rfl) (show 0 + 2 ≤ 2 by decide) (by simp [Value.oneCell']) rfl ?_; intro Wb hn hg; have HR := Aside0.mk hn; have HG := Aside0.mk hg; clear hn hg))
        refine bodyPost_ret (results_ct rfl _ _ w.heap.size 142 (lnc (.slice none 0 0) ⟨#[]⟩) (0, 0) _ rfl HR.out Tryz.underlying142 rfl (by kernel_rfl)) rfl ?_
        refine ⟨(below_alloc (Below.refl _ _) _).grown HG.out (below_alloc (Below.refl _ _) _).size (fun k hk => by cases hk; exact Nat.le_refl _), ?_⟩
        unfold OneIs
        rw [HO.out]
        rfl
      | false =>
        have HA2 : Aside0 (∀ k, k < kk + 1 → oddC (bt s k) = false) := ⟨fun k hk => (Nat.lt_or_ge k kk).elim (HA.out k) (fun h => (show k = kk by omega) ▸ ho)⟩
        rw [hfx] at ho
        have HOC2 : Aside0 (∀ W : World, Calls Tryz.prog 124 #[.int .u8 ((s[kk].toNat : Nat) : Int)] W fun e w' => e = .returned (.bool false) ∧ w' = W) := ⟨fun W => ho ▸ HOC.out W _⟩
        clear ho hfx
        go_wp2_with (first | (go_at_call 124; with_reducible refine (HOC2.out _).mono ?_; rintro e w' ⟨rfl, rfl⟩) | fail)
        go_roundg (n - (kk + 1))
        case measure => omega
        case rel => exact ⟨kk + 1, by omega, by omega, by go_num, HA2, rfl⟩
    · have hltz : ¬ (kk : Int) < (n : Int) := by omega
      obtain rfl : kk = n := by omega
      have HO := Aside0.mk (oneW_some (fun k hk => HA.out k (by have := HN.out; omega)))
      go_wp2
      have HX0 : Aside0 (LxIs (w.alloc (.cells lz 142)) (w.heap.size + 1) (.slice none 0 0) [] ⟨#[]⟩ s (-1) ((w.alloc (.cells lz 142)).alloc (.cells (lxv (.slice none 0 0) ⟨#[]⟩ s (-1)) 193))) := ⟨⟨below_alloc (Below.refl _ _) _, by simp, by have h := heap_alloc_new (w.alloc (.cells lz 142)) (.cells (lxv (.slice none 0 0) ⟨#[]⟩ s (-1)) 193); rwa [show (w.alloc (.cells lz 142)).heap.size = w.heap.size + 1 by simp] at h, Kd.R_nil _ _ _ _ _⟩⟩
      go_loopg [6, 23] kk (fun gg _ s23 wr => ∃ (k2 : Nat) (va : Value) (x : List Wd × Int), k2 ≤ kk ∧ kk - k2 ≤ gg ∧ s23 = .int .i64 k2 ∧ Aside0 (lexW s s.size 0 ([], -1) = lexW s (s.size - k2) k2 x) ∧ Aside0 (x.1.length ≤ 2 * k2) ∧ Aside0 (x.2 ≤ (k2 : Int)) ∧ Aside0 (LxIs (w.alloc (.cells lz 142)) (w.heap.size + 1) va x.1 ⟨#[]⟩ s x.2 wr))
      case atStart => exact ⟨0, _, ([], -1), Nat.zero_le _, by omega, rfl, ⟨rfl⟩, ⟨Nat.zero_le _⟩, ⟨by decide⟩, HX0⟩
      case round =>
        obtain ⟨k2, va, x, hk2, hg, rfl, HLW, HXL, HXF, HX⟩ := hrel
        by_cases hlt : k2 < kk
        · have hltz : (k2 : Int) < (kk : Int) := by omega
          have hks : k2 < s.size := by have := HN.out; omega
          have hst := lexW_step s k2 x hks
          have hl9 : x.1.length ≤ 900000 := by have := HXL.out; omega
          cases hr : remW s k2 x.2 with
          | true =>
            rw [hr] at hst
            have HE : Aside0 (lexW s s.size 0 ([], -1) = (x.1, s.extract k2 s.size)) := ⟨HLW.out.trans hst⟩
            have HTK : Aside0 (∀ W, LxIs (w.alloc (.cells lz 142)) (w.heap.size + 1) va x.1 ⟨#[]⟩ s x.2 W → Calls Tryz.prog 125 #[.pointer (some ⟨w.heap.size + 1, 0, none⟩), .int .i64 k2] W fun e w' => e = .returned (.bool false) ∧ ∃ va', LxIs (w.alloc (.cells lz 142)) (w.heap.size + 1) va' x.1 (s.extract k2 s.size) s x.2 w') := ⟨fun W h => take_rem _ _ va x.1 ⟨#[]⟩ s x.2 k2 W h hks hr⟩
            clear hst hl9 hr
            go_wp2_with (first | (go_at_call 125; with_reducible refine (HTK.out _ HX.out).mono ?_; rintro e W2 ⟨rfl, va2, hx2⟩; have HX2 := Aside0.mk hx2; clear hx2) | ((with_reducible refine gate_ (.load 142 (.tmp 32)) rfl ?_); refine load_mid_ev (i := 0) (seg := [va2, .string (s.extract k2 s.size)]) rfl rfl rfl (HX2.out).blk rfl Tryz.underlying142 rfl (by kernel_rfl) ?_) | ((with_reducible refine gate_ (.store 142 (.tmp 2) (.tmp 33)) rfl ?_); refine store_ev 142 (.tmp 2) (.tmp 33) rfl rfl rfl 0 [va2, .string (s.extract k2 s.size)] (blk_below (heap_alloc_new w _) HX2.out.below) rfl rfl rfl (by kernel_rfl) (show 0 + 2 ≤ 2 by decide) (by obtain ⟨A9, c9, h9⟩ := Kd.R_slice HX2.out.own; rw [h9]; simp [Value.oneCell']) rfl ?_; intro Wb hn hg; have HR := Aside0.mk hn; have HG := Aside0.mk hg; clear hn hg))
            refine bodyPost_ret (results_ct rfl _ _ w.heap.size 142 (lnc va2 (s.extract k2 s.size)) (0, 0) _ rfl HR.out Tryz.underlying142 rfl (by kernel_rfl)) rfl ?_
            obtain ⟨q1, q2⟩ := one_end HX2.out HG.out
            refine ⟨q1, ?_⟩
            unfold OneIs
            rw [HO.out, HE.out]
            exact ⟨va2, rfl, q2⟩
          | false =>
            rw [hr] at hst
            have HE : Aside0 (lexW s s.size 0 ([], -1) = lexW s (s.size - (k2 + 1)) (k2 + 1) (takeW s k2 x)) := ⟨HLW.out.trans hst⟩
            have HTK : Aside0 (∀ W, LxIs (w.alloc (.cells lz 142)) (w.heap.size + 1) va x.1 ⟨#[]⟩ s x.2 W → Calls Tryz.prog 125 #[.pointer (some ⟨w.heap.size + 1, 0, none⟩), .int .i64 k2] W fun e w' => e = .returned (.bool true) ∧ ∃ va', LxIs (w.alloc (.cells lz 142)) (w.heap.size + 1) va' (takeW s k2 x).1 ⟨#[]⟩ s (takeW s k2 x).2 w') := ⟨fun W h => take_step _ _ va x ⟨#[]⟩ s k2 W h hks hs HXF.out hl9 hr⟩
            have HL2 : Aside0 ((takeW s k2 x).1.length ≤ 2 * (k2 + 1)) := ⟨by have := takeW_len s k2 x; have := HXL.out; omega⟩
            have HF2 : Aside0 ((takeW s k2 x).2 ≤ ((k2 + 1 : Nat) : Int)) := ⟨by have := takeW_fr s k2 x HXF.out; omega⟩
            clear hst hl9 hr
            go_wp2_with (go_at_call 125; with_reducible refine (HTK.out _ HX.out).mono ?_; rintro e W2 ⟨rfl, va2, hx2⟩; have HX2 := Aside0.mk hx2; clear hx2)
            go_roundg (kk - (k2 + 1))
            case measure => omega
            case rel => exact ⟨k2 + 1, va2, takeW s k2 x, by omega, by omega, by go_num, HE, HL2, HF2, HX2⟩
        · have hltz : ¬ (k2 : Int) < (kk : Int) := by omega
          obtain rfl : k2 = kk := by omega
          have HE : Aside0 (lexW s s.size 0 ([], -1) = (cutW s x.1 x.2 k2, ⟨#[]⟩)) := ⟨HLW.out.trans (by rw [show s.size - k2 = 0 by have := HN.out; omega]; rfl)⟩
          have HCT : Aside0 (∀ W, LxIs (w.alloc (.cells lz 142)) (w.heap.size + 1) va x.1 ⟨#[]⟩ s x.2 W → Calls Tryz.prog 126 #[.pointer (some ⟨w.heap.size + 1, 0, none⟩), .int .i64 k2] W fun e w' => e = .returned (.tuple #[]) ∧ ∃ va', LxIs (w.alloc (.cells lz 142)) (w.heap.size + 1) va' (cutW s x.1 x.2 k2) ⟨#[]⟩ s (-1) w') := ⟨fun W h => cut_calls _ _ va x.1 ⟨#[]⟩ s x.2 k2 W h (fun _ => ⟨HXF.out, by have := HN.out; omega⟩) (by have := HXL.out; omega)⟩
          go_wp2_with (first | (go_at_call 126; with_reducible refine (HCT.out _ HX.out).mono ?_; rintro e W2 ⟨rfl, va2, hx2⟩; have HX2 := Aside0.mk hx2; clear hx2) | ((with_reducible refine gate_ (.load 142 (.tmp 41)) rfl ?_); refine load_mid_ev (i := 0) (seg := [va2, .string ⟨#[]⟩]) rfl rfl rfl (HX2.out).blk rfl Tryz.underlying142 rfl (by kernel_rfl) ?_) | ((with_reducible refine gate_ (.store 142 (.tmp 2) (.tmp 42)) rfl ?_); refine store_ev 142 (.tmp 2) (.tmp 42) rfl rfl rfl 0 [va2, .string ⟨#[]⟩] (blk_below (heap_alloc_new w _) HX2.out.below) rfl rfl rfl (by kernel_rfl) (show 0 + 2 ≤ 2 by decide) (by obtain ⟨A9, c9, h9⟩ := Kd.R_slice HX2.out.own; rw [h9]; simp [Value.oneCell']) rfl ?_; intro Wb hn hg; have HR := Aside0.mk hn; have HG := Aside0.mk hg; clear hn hg))
          refine bodyPost_ret (results_ct rfl _ _ w.heap.size 142 (lnc va2 ⟨#[]⟩) (0, 0) _ rfl HR.out Tryz.underlying142 rfl (by kernel_rfl)) rfl ?_
          obtain ⟨q1, q2⟩ := one_end HX2.out HG.out
          refine ⟨q1, ?_⟩
          unfold OneIs
          rw [HO.out, HE.out]
          exact ⟨va2, rfl, q2⟩
end Go.Proofs.YtmbpefnhkimplaaGreatDoor
end

section
namespace Go.Proofs.YtmbpefnhkimplaaGreatDoor.R3
open Go.RowKit Go.Proofs.YtmbpefnhkimplaaGreatDoor Go.Proofs.YtmbpefnhkimplaaGreatDoor.K0 Go.Proofs.YtmbpefnhkimplaaGreatDoor.R1 Go.Proofs.YtmbpefnhkimplaaGreatDoorW.PrintWords Go.Proofs.YtmbpefnhkimplaaGreatDoorW.PrintLast Go.Proofs.YtmbpefnhkimplaaGreatDoorW.PrintMore
attribute [local go_sem] max2_int min2_int max_two min_two max_three min_three max_four min_four
set_option linter.unusedVariables false
set_option linter.unusedSimpArgs false
end Go.Proofs.YtmbpefnhkimplaaGreatDoor.R3
end
