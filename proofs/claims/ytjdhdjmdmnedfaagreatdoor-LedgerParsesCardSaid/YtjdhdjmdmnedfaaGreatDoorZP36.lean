/- The texts REx1, REx, LRx, RPx0 in one file, without what these claims do not use (put together by prune2.py). -/
import Derived.Test.YtjdhdjmdmnedfaaGreatDoorZP3
import Derived.Test.YtjdhdjmdmnedfaaGreatDoorZP35
import Derived.Test.YtjdhdjmdmnedfaaGreatDoorZP32
import Derived.Test.YtjdhdjmdmnedfaaGreatDoorZP33
import Derived.Test.YtjdhdjmdmnedfaaGreatDoorZP16
import Derived.Test.YtjdhdjmdmnedfaaGreatDoorZP4
import Derived.Test.YtjdhdjmdmnedfaaGreatDoorZP30
section
namespace Go.Proofs.YtjdhdjmdmnedfaaGreatDoor.RE
open Go.RowKit Go.Proofs.YtjdhdjmdmnedfaaGreatDoor Go.Proofs.YtjdhdjmdmnedfaaGreatDoor.K0 Go.Proofs.YtjdhdjmdmnedfaaGreatDoor.RD Go.Proofs.YtjdhdjmdmnedfaaGreatDoorW.PrintWords Go.Proofs.YtjdhdjmdmnedfaaGreatDoorW.PrintLast Go.Proofs.YtjdhdjmdmnedfaaGreatDoorW.PrintMore
attribute [local go_sem] max2_int min2_int max_two min_two max_three min_three max_four min_four
set_option linter.unusedVariables false
set_option linter.unusedSimpArgs false
def armadaref07_Number.f : Nat → Int → Option (ByteArray)
 | 0, _ => none
 | k + 1, a0 => (some (([(wrap64 (48 + (Int.tmod a0 10))) % 256] : List Int) : List Int)).bind fun y101 => (if a0 ≥ 10 then ((armadaref07_Number.f k (wrap64 (Int.tdiv a0 10))).bind fun t104 => (if t104.size + (strOfNums y101).size ≤ 9223372036854775807 then (some (t104 ++ (strOfNums y101))) else (none))) else (some (strOfNums y101)))
set_option maxHeartbeats 8000000 in
set_option maxRecDepth 100000 in
theorem armadaref07_Number.calls (k : Nat) : ∀ (a0 : Int) (r : ByteArray) (w : World) (h : armadaref07_Number.f k a0 = some r),
  Calls Tryz.prog 45 #[.int .i64 a0] w fun e w' => e = .returned (.string r) ∧ Below w.heap.size w w' := by
 induction k using Nat.strongRecOn with
 | _ k ih =>
 intro a0 r w h
 cases k with
 | zero => exact absurd h (by simp [armadaref07_Number.f])
 | succ k =>
 simp only [armadaref07_Number.f] at h; have HB := Aside0.mk (Below.refl w.heap.size w); have H : ((some (([(wrap64 (48 + (Int.tmod a0 10))) % 256] : List Int) : List Int)).bind fun y101 => (if a0 ≥ 10 then ((armadaref07_Number.f k (wrap64 (Int.tdiv a0 10))).bind fun t104 => (if t104.size + (strOfNums y101).size ≤ 9223372036854775807 then (some (t104 ++ (strOfNums y101))) else (none))) else (some (strOfNums y101)))) = some r := h; clear h; obtain ⟨y101, hy101⟩ : ∃ y_ : List Int, y_ = (([(wrap64 (48 + (Int.tmod a0 10))) % 256] : List Int)) := ⟨_, rfl⟩
 replace H : (if a0 ≥ 10 then ((armadaref07_Number.f k (wrap64 (Int.tdiv a0 10))).bind fun t104 => (if t104.size + (strOfNums y101).size ≤ 9223372036854775807 then (some (t104 ++ (strOfNums y101))) else (none))) else (some (strOfNums y101))) = some r := by first | (rw [hy101]; with_reducible exact H) | (have H2_ := (Option.bind_some _ _).symm.trans H; rw [hy101]; with_reducible exact H2_) | (have H2_ := (Option.bind_some _ _).symm.trans H; with_reducible exact H2_) | with_reducible exact H | (rw [hy101]; exact H) | exact H
 have Ny101 := Aside0.mk hy101; clear hy101; replace H := xJ H; rcases H with ⟨c2, H⟩ | ⟨c2, H⟩
 ·
  replace c2 := decide_eq_true c2; replace H := xb H; obtain ⟨t104, A3, H⟩ := H; replace H := xI H; obtain ⟨c4, H⟩ := H; have c4b0 := eq_true c4; have c4b1 := decide_eq_true c4
  try have c4b2 : (9223372036854775807 < t104.size + (strOfNums y101).size) = False := eq_false (Nat.not_lt.2 c4)
  obtain rfl := Option.some.inj H; go_enter Tryz.func45, Tryz.ntmps45; go_wp2_with (first | ((with_reducible refine gate_dst (N := 8) rfl ?_); refine Kd.R_lit (Kd.int .u8) _ 5 ?hg (N := 8) ?hd (xs := ([(wrap64 (48 + (Int.tmod a0 10))) % 256] : List Int)) (inner := [.int .u8 ((wrap64 (48 + (Int.tmod a0 10))) % 256)]) (ok := fun _ => True) (okp := fun _ => True) ?hr ?hp (fun _ hk => hk) trivial (Below.refl _ _) (Nat.le_refl _) (by simp) ?_; (case hd => rfl); (case hg => rfl); (case hr => first | (go_simp; done) | (go_simp; rfl)); (case hp => exact (Reps.one (show Kd.M (Kd.int .u8) _ _ _ ((wrap64 (48 + (Int.tmod a0 10))) % 256) [.int .u8 ((wrap64 (48 + (Int.tmod a0 10))) % 256)] from rfl) (Reps.none _ _))); intro v102 w5 ho6 hb hg_ hnew_; clear hg_ hnew_; (first | rw [← Ny101.out] at ho6 | (simp only [Int.reduceToNat] at ho6; rw [← Ny101.out] at ho6)); have HO103 := Aside0.mk (Kd.R_lower ho6 (below_size xB)); replace HB := Aside0.mk (below_step xB hb); clear hb ho6; have hcv7 := own_string (P := Tryz.prog) Tryz.underlying64 Tryz.underlying5 Tryz.underlying9 (Kd.own_of_R HO103.out)) | ((with_reducible refine gate_callee (f := 45) rfl ?_); refine goesL_ (some 14) rfl rfl Tryz.func45 (by kernel_rfl) rfl #[.int .i64 (wrap64 (Int.tdiv a0 10))] rfl xS ?_; (with_reducible refine (ih k (by omega) (wrap64 (Int.tdiv a0 10)) t104 _ A3.out).mono ?_); rintro e w8 ⟨rfl, hb⟩; refine ⟨_, rfl, ?_⟩; replace HO103 := Aside0.mk (Kd.R_below (by (with_reducible repeat (first | apply Kd.R_alloc | apply Kd.R_drewN | apply Kd.R_drew)); exact HO103.out) hb); replace HB := Aside0.mk (below_step xB hb); (try clear hb); (try clear hk))); go_ret; exact ⟨xW, xB⟩
 replace c2 := decide_eq_false c2; obtain rfl := Option.some.inj H; go_enter Tryz.func45, Tryz.ntmps45; go_wp2_with (first | ((with_reducible refine gate_dst (N := 8) rfl ?_); refine Kd.R_lit (Kd.int .u8) _ 5 ?hg (N := 8) ?hd (xs := ([(wrap64 (48 + (Int.tmod a0 10))) % 256] : List Int)) (inner := [.int .u8 ((wrap64 (48 + (Int.tmod a0 10))) % 256)]) (ok := fun _ => True) (okp := fun _ => True) ?hr ?hp (fun _ hk => hk) trivial (Below.refl _ _) (Nat.le_refl _) (by simp) ?_; (case hd => rfl); (case hg => rfl); (case hr => first | (go_simp; done) | (go_simp; rfl)); (case hp => exact (Reps.one (show Kd.M (Kd.int .u8) _ _ _ ((wrap64 (48 + (Int.tmod a0 10))) % 256) [.int .u8 ((wrap64 (48 + (Int.tmod a0 10))) % 256)] from rfl) (Reps.none _ _))); intro v102 w9 ho10 hb hg_ hnew_; clear hg_ hnew_; (first | rw [← Ny101.out] at ho10 | (simp only [Int.reduceToNat] at ho10; rw [← Ny101.out] at ho10)); have HO103 := Aside0.mk (Kd.R_lower ho10 (below_size xB)); replace HB := Aside0.mk (below_step xB hb); clear hb ho10; have hcv11 := own_string (P := Tryz.prog) Tryz.underlying64 Tryz.underlying5 Tryz.underlying9 (Kd.own_of_R HO103.out))); go_ret; exact ⟨xW, xB⟩
end Go.Proofs.YtjdhdjmdmnedfaaGreatDoor.RE
end

section
namespace Go.Proofs.YtjdhdjmdmnedfaaGreatDoor.RE
open Go.RowKit Go.Proofs.YtjdhdjmdmnedfaaGreatDoor Go.Proofs.YtjdhdjmdmnedfaaGreatDoor.K0 Go.Proofs.YtjdhdjmdmnedfaaGreatDoor.RD Go.Proofs.YtjdhdjmdmnedfaaGreatDoorW.PrintWords Go.Proofs.YtjdhdjmdmnedfaaGreatDoorW.PrintLast Go.Proofs.YtjdhdjmdmnedfaaGreatDoorW.PrintMore
attribute [local go_sem] max2_int min2_int max_two min_two max_three min_three max_four min_four
set_option linter.unusedVariables false
set_option linter.unusedSimpArgs false
end Go.Proofs.YtjdhdjmdmnedfaaGreatDoor.RE
end

section
namespace Go.Proofs.YtjdhdjmdmnedfaaGreatDoor
open Go Go.RowKit Go.Proofs Go.Proofs.YtjdhdjmdmnedfaaGreatDoorW.PrintWords Go.Proofs.YtjdhdjmdmnedfaaGreatDoorW.PrintLast Go.Proofs.YtjdhdjmdmnedfaaGreatDoor.K0 Go.Proofs.YtjdhdjmdmnedfaaGreatDoor.RD Go.Proofs.YtjdhdjmdmnedfaaGreatDoor.RE
set_option linter.unusedVariables false
set_option linter.unusedSimpArgs false
theorem digit_text (m : Nat) (h : m < 10) : UInt8.ofNat ((wrap64 (48 + (m : Int))) % 256).toNat = UInt8.ofNat (48 + m) := by
  rw [wrap_id (z := 48 + (m : Int)) (by omega) (by omega)]
  congr 1
  omega
theorem decnum_f : ∀ (d : Nat) (m k : Nat), d ≤ 9 → m < 10 ^ (d + 1) → d < k → armadaref07_Number.f k (m : Int) = some (ba (Lib.decDigits m))
  | d, m, 0, _, _, hk => by omega
  | d, m, k + 1, hd, hm, hk => by
    have hm64 : m < 10 ^ 10 := Nat.lt_of_lt_of_le hm (Nat.pow_le_pow_right (by decide) (by omega))
    simp only [armadaref07_Number.f, Option.bind_some]
    have e1 : Int.tmod (m : Int) 10 = ((m % 10 : Nat) : Int) := by
      rw [show (10 : Int) = ((10 : Nat) : Int) from rfl, ← Int.ofNat_tmod]
    have e2 : Int.tdiv (m : Int) 10 = ((m / 10 : Nat) : Int) := by
      rw [show (10 : Int) = ((10 : Nat) : Int) from rfl, ← Int.ofNat_tdiv]
    have e3 : strOfNums [(wrap64 (48 + ((m % 10 : Nat) : Int))) % 256] = ba [UInt8.ofNat (48 + m % 10)] := by
      apply by_data
      rw [strOfNums_data, ba_data, List.map_cons, List.map_nil, digit_text _ (Nat.mod_lt _ (by decide))]
    rw [e1, e2, e3]
    by_cases h : m < 10
    · rw [if_neg (by omega), dec_unfold, if_pos h, Nat.mod_eq_of_lt h]
    · rw [if_pos (by omega)]
      match d, hm with
      | 0, hm => omega
      | d + 1, hm =>
        have hq : m / 10 < 10 ^ (d + 1) := by rw [Nat.div_lt_iff_lt_mul (by decide)]; rw [Nat.pow_succ] at hm; exact hm
        rw [wrap_id (z := ((m / 10 : Nat) : Int)) (by omega) (by omega), decnum_f d (m / 10) k (by omega) hq (by omega)]
        have hl := dec_len d (m / 10) hq
        simp only [Option.bind_some]
        rw [if_pos (by rw [ba_size, ba_size]; simp; omega), show Lib.decDigits m = Lib.decDigits (m / 10) ++ [UInt8.ofNat (48 + m % 10)] by rw [dec_unfold m, if_neg h]]
        rw [show ba (Lib.decDigits (m / 10)) ++ ba [UInt8.ofNat (48 + m % 10)] = ba (Lib.decDigits (m / 10) ++ [UInt8.ofNat (48 + m % 10)]) from by_data (by rw [ByteArray.data_append, Array.toList_append]; rfl)]
def rtx.T3 : Bool × List (List Nat × List Nat) := (true, [([], []), ([0], [0]), ([1], [1]), ([2], [2]), ([3], [3]), ([], []), ([5], [5]), ([6, 2], [6]), ([4, 7], [4, 7]), ([8], [8]), ([], []), ([10], [10]), ([11, 7], [11]), ([9, 12], [9, 12]), ([13, 12, 0, 1, 2, 3, 4, 5, 6, 7, 8, 9, 10, 11, 12, 13], [13])])
def rtx.B3 : List Nat := [0, 1, 3, 7, 15, 0, 32, 103, 255, 511, 0, 1024, 3303, 8191, 16383]
theorem rtx.tab3 : rtab .any (opsOf Tryz.f24 3) = rtx.T3 := by kernel_rfl
theorem rtx.bits3 : waitsOk rtx.T3.2 rtx.B3 = true := by kernel_rfl
theorem rnum_calls (z : Int) (h0 : 0 ≤ z) (h9 : z ≤ 999999999) (w : World) : Calls Tryz.prog 45 #[.int .i64 z] w fun e w' => e = .returned (.string (ba (Lib.decDigits z.toNat))) ∧ Below w.heap.size w w' := by
  have h := decnum_f 9 z.toNat 10 (by decide) (by omega) (by decide)
  rw [show ((z.toNat : Nat) : Int) = z by omega] at h
  exact armadaref07_Number.calls 10 z _ w h
theorem nil_facts {p : ByteArray} (h : p.data.toList = []) : p = ⟨#[]⟩ := by_data (by rw [h])
theorem not_nil_facts {p : ByteArray} (h : ¬ p.data.toList = []) : (p.toList != ([] : List UInt8)) = true ∧ p.toList.isEmpty = false ∧ ¬ p.toList = ([] : List UInt8) := by
  rw [← ByteArray.toList_eq] at h
  refine ⟨by simpa using h, by simpa using h, h⟩
theorem cat_ok {n : Nat} (h : n ≤ 1000000) : (n ≤ 9223372036854775807) = True ∧ decide (n ≤ 9223372036854775807) = true ∧ (9223372036854775807 < n) = False :=
  ⟨eq_true (by omega), decide_eq_true (by omega), eq_false (by omega)⟩
/-- The version in its box. -/
structure RxIs (w : World) (v : Array Value) (W : World) : Prop where
  base : Below w.heap.size w W
  t : W.heap[w.heap.size]? = some (.cells v 30 (0, 0))
theorem RxIs.step {w W W' : World} {v : Array Value} (h : RxIs w v W) (hb : Below W.heap.size W W') : RxIs w v W' := ⟨below_step h.base hb, blk_below h.t hb⟩
abbrev vec (a b c : Int) (p q : ByteArray) : Array Value := #[.int .i64 a, .int .i64 b, .int .i64 c, .string p, .string q]
theorem RxIs.cells {w W : World} {a b c : Int} {p q : ByteArray} (h : RxIs w (vec a b c p q) W) : W.cell? ⟨w.heap.size, 0, none⟩ = some (.int .i64 a) ∧ W.cell? ⟨w.heap.size, 1, none⟩ = some (.int .i64 b) ∧ W.cell? ⟨w.heap.size, 2, none⟩ = some (.int .i64 c) ∧ W.cell? ⟨w.heap.size, 3, none⟩ = some (.string p) ∧ W.cell? ⟨w.heap.size, 4, none⟩ = some (.string q) :=
  ⟨(blk_cell h.t 0).trans rfl, (blk_cell h.t 1).trans rfl, (blk_cell h.t 2).trans rfl, (blk_cell h.t 3).trans rfl, (blk_cell h.t 4).trans rfl⟩
set_option maxRecDepth 100000 in
set_option maxHeartbeats 2000000 in
theorem rtext_calls (a b c : Int) (p q : ByteArray) (w : World) : Calls Tryz.prog 24 #[.agg (vec a b c p q)] w fun e w' => e = .returned (.string (textV a b c p q)) ∧ Below w.heap.size w w' := by
  have HS := Aside0.mk (show RxIs w (vec a b c p q) (w.alloc (.cells (vec a b c p q) 30)) from ⟨below_alloc (Below.refl _ _) _, heap_alloc_new w _⟩)
  have hck : ∀ W : World, Calls Tryz.prog 42 #[.agg (vec a b c p q)] W fun e w' => e = .returned (.bool (verOk a b c p q)) ∧ Below W.heap.size W w' := fun W => by
    obtain ⟨K, hK⟩ := ref_ver_Check_f a b c p q
    exact armadaref07_Check.calls K _ _ _ _ _ _ W (hK K (Nat.le_refl _))
  obtain ⟨z, hz⟩ : ∃ z, textV a b c p q = z := ⟨_, rfl⟩
  rw [hz]
  cases hv : verOk a b c p q with
  | false =>
    obtain rfl : z = ⟨#[]⟩ := by rw [← hz]; unfold textV; rw [hv]; rfl
    rw [hv] at hck
    clear hz hv
    go_enter Tryz.func24, Tryz.ntmps24
    go_upto_region 1 with fail
    generalize w.alloc (.cells (vec a b c p q) 30) = W1 at HS ⊢
    obtain ⟨g0, g1, g2, g3, g4⟩ := HS.out.cells
    go_wp2_with (go_at_call 42; with_reducible refine (hck _).mono ?_; rintro e W2 ⟨rfl, hb⟩; have HS2 := Aside0.mk (HS.out.step hb); clear hb)
    go_ret
    exact ⟨rfl, HS2.out.base⟩
  | true =>
    have hI := verIs hv
    have hz2 := textV_ok hv
    rw [hz] at hz2
    have HN0 := Aside0.mk (fun W => rnum_calls a hI.a0 hI.a9 W)
    have HN1 := Aside0.mk (fun W => rnum_calls b hI.b0 hI.b9 W)
    have HN2 := Aside0.mk (fun W => rnum_calls c hI.c0 hI.c9 W)
    have l0 := dec_len 8 a.toNat (by have := hI.a9; omega)
    have l1 := dec_len 8 b.toNat (by have := hI.b9; omega)
    have l2 := dec_len 8 c.toNat (by have := hI.c9; omega)
    have lp : p.size ≤ 30 := hI.hp
    have lq : q.size ≤ 30 := hI.hq
    rw [← ba_size (Lib.decDigits a.toNat)] at l0
    rw [← ba_size (Lib.decDigits b.toNat)] at l1
    rw [← ba_size (Lib.decDigits c.toNat)] at l2
    rw [hv] at hck
    obtain ⟨n0, e0⟩ : ∃ n, ba (Lib.decDigits a.toNat) = n := ⟨_, rfl⟩
    obtain ⟨n1, e1⟩ : ∃ n, ba (Lib.decDigits b.toNat) = n := ⟨_, rfl⟩
    obtain ⟨n2, e2⟩ : ∃ n, ba (Lib.decDigits c.toNat) = n := ⟨_, rfl⟩
    have hz3 : z.data.toList = 118 :: ((n0.data.toList ++ 46 :: (n1.data.toList ++ 46 :: n2.data.toList) ++ tailV 45 p.data.toList) ++ tailV 43 q.data.toList) := by
      rw [hz2, ← e0, ← e1, ← e2]; rfl
    rw [e0] at HN0 l0
    rw [e1] at HN1 l1
    rw [e2] at HN2 l2
    have HZ := Aside0.mk hz3
    clear hz hz2 hz3 hI hv e0 e1 e2
    go_enter Tryz.func24, Tryz.ntmps24
    go_upto_region 1 with fail
    generalize w.alloc (.cells (vec a b c p q) 30) = W1 at HS ⊢
    obtain ⟨g0, g1, g2, g3, g4⟩ := HS.out.cells
    go_upto_region 3 with (go_at_call 42; with_reducible refine (hck _).mono ?_; rintro e W2 ⟨rfl, hb⟩; have HS2 := Aside0.mk (HS.out.step hb); clear hb)
    clear HS g0 g1 g2 g3 g4 hck
    refine sX (ds := []) (S := fun w' => w'.cell? ⟨w.heap.size, 0, none⟩ = some (.int .i64 a) ∧ w'.cell? ⟨w.heap.size, 1, none⟩ = some (.int .i64 b) ∧ w'.cell? ⟨w.heap.size, 2, none⟩ = some (.int .i64 c)) rtx.tab3 rtx.bits3 ⟨(blk_cell (blk_drew HS2.out.t) 0).trans rfl, (blk_cell (blk_drew HS2.out.t) 1).trans rfl, (blk_cell (blk_drew HS2.out.t) 2).trans rfl⟩ (fun HT_ HW_ hHeld => ?_)
    have HO2 := Aside0.mk (HS2.out.step (below_drew1 (Below.refl _ _)))
    generalize W2.drew = w2 at HO2 hHeld ⊢
    clear HS2
    refine pX HT_ 0 1 7 ?_
    refine pX HT_ 5 33 12 ?_
    refine pX HT_ 10 1057 17 ?_
    refine tX HT_ HW_ hHeld 1 1059 8 ?_
    refine tX HT_ HW_ hHeld 6 1123 13 ?_
    refine tX HT_ HW_ hHeld 11 3171 18 ?_
    refine gX HT_ 2 3175 9 Tryz.func45 (HN0.out w2) ?_
    rintro e w3 ⟨rfl, hb⟩
    have HO3 := Aside0.mk (HO2.out.step hb)
    obtain ⟨q0, q1, q2, _, _⟩ := HO3.out.cells
    clear HO2 hHeld hb
    refine ⟨_, rfl, _, nX, ⟨q0, q1, q2⟩, fun hHeld => ?_⟩
    clear q0 q1 q2
    obtain ⟨f1a, f1b, f1c⟩ := cat_ok (n := 1 + n0.size) (by omega)
    refine pX HT_ 3 3183 10 ?_
    clear f1a f1b f1c
    have s1 : ((⟨#[118]⟩ : ByteArray) ++ n0).size ≤ 10 := by rw [ByteArray.size_append]; (try simp only [show (⟨#[46]⟩ : ByteArray).size = 1 from rfl, show (⟨#[118]⟩ : ByteArray).size = 1 from rfl]); omega
    obtain ⟨x1, E1⟩ : ∃ y, (⟨#[118]⟩ : ByteArray) ++ n0 = y := ⟨_, rfl⟩
    rw [E1] at s1 ⊢
    have HE1 := Aside0.mk E1
    clear E1
    obtain ⟨f2a, f2b, f2c⟩ := cat_ok (n := x1.size + 1) (by omega)
    refine pX HT_ 4 3199 11 ?_
    clear f2a f2b f2c
    have s2 : (x1 ++ (⟨#[46]⟩ : ByteArray)).size ≤ 11 := by rw [ByteArray.size_append]; (try simp only [show (⟨#[46]⟩ : ByteArray).size = 1 from rfl, show (⟨#[118]⟩ : ByteArray).size = 1 from rfl]); omega
    obtain ⟨x2, E2⟩ : ∃ y, x1 ++ (⟨#[46]⟩ : ByteArray) = y := ⟨_, rfl⟩
    rw [E2] at s2 ⊢
    have HE2 := Aside0.mk E2
    clear E2
    refine gX HT_ 7 3327 14 Tryz.func45 (HN1.out w3) ?_
    rintro e w4 ⟨rfl, hb⟩
    have HO4 := Aside0.mk (HO3.out.step hb)
    obtain ⟨q0, q1, q2, _, _⟩ := HO4.out.cells
    clear HO3 hHeld hb
    refine ⟨_, rfl, _, nX, ⟨q0, q1, q2⟩, fun hHeld => ?_⟩
    clear q0 q1 q2
    obtain ⟨f3a, f3b, f3c⟩ := cat_ok (n := x2.size + n1.size) (by omega)
    refine pX HT_ 8 3583 15 ?_
    clear f3a f3b f3c
    have s3 : (x2 ++ n1).size ≤ 20 := by rw [ByteArray.size_append]; (try simp only [show (⟨#[46]⟩ : ByteArray).size = 1 from rfl, show (⟨#[118]⟩ : ByteArray).size = 1 from rfl]); omega
    obtain ⟨x3, E3⟩ : ∃ y, x2 ++ n1 = y := ⟨_, rfl⟩
    rw [E3] at s3 ⊢
    have HE3 := Aside0.mk E3
    clear E3
    obtain ⟨f4a, f4b, f4c⟩ := cat_ok (n := x3.size + 1) (by omega)
    refine pX HT_ 9 4095 16 ?_
    clear f4a f4b f4c
    have s4 : (x3 ++ (⟨#[46]⟩ : ByteArray)).size ≤ 21 := by rw [ByteArray.size_append]; (try simp only [show (⟨#[46]⟩ : ByteArray).size = 1 from rfl, show (⟨#[118]⟩ : ByteArray).size = 1 from rfl]); omega
    obtain ⟨x4, E4⟩ : ∃ y, x3 ++ (⟨#[46]⟩ : ByteArray) = y := ⟨_, rfl⟩
    rw [E4] at s4 ⊢
    have HE4 := Aside0.mk E4
    clear E4
    refine gX HT_ 12 8191 19 Tryz.func45 (HN2.out w4) ?_
    rintro e w5 ⟨rfl, hb⟩
    have HO5 := Aside0.mk (HO4.out.step hb)
    obtain ⟨q0, q1, q2, _, _⟩ := HO5.out.cells
    clear HO4 hHeld hb
    refine ⟨_, rfl, _, nX, ⟨q0, q1, q2⟩, fun hHeld => ?_⟩
    clear q0 q1 q2
    obtain ⟨f5a, f5b, f5c⟩ := cat_ok (n := x4.size + n2.size) (by omega)
    refine pX HT_ 13 16383 20 ?_
    clear f5a f5b f5c
    have s5 : (x4 ++ n2).size ≤ 30 := by rw [ByteArray.size_append]; (try simp only [show (⟨#[46]⟩ : ByteArray).size = 1 from rfl, show (⟨#[118]⟩ : ByteArray).size = 1 from rfl]); omega
    obtain ⟨x5, E5⟩ : ∃ y, x4 ++ n2 = y := ⟨_, rfl⟩
    rw [E5] at s5 ⊢
    have HE5 := Aside0.mk E5
    clear E5
    refine pX HT_ 14 32767 3 ?_
    refine eX HT_ ?_
    clear HT_ HW_ hHeld HN0 HN1 HN2
    have HX : Aside0 (x5.data.toList = 118 :: (n0.data.toList ++ 46 :: (n1.data.toList ++ 46 :: n2.data.toList))) := ⟨by
      rw [← HE5.out, ← HE4.out, ← HE3.out, ← HE2.out, ← HE1.out]
      simp only [ByteArray.data_append, Array.toList_append, List.append_assoc]
      rfl⟩
    clear HE1 HE2 HE3 HE4 HE5 s1 s2 s3 s4 l0 l1 l2
    obtain ⟨q0, q1, q2, q3, q4⟩ := HO5.out.cells
    obtain ⟨f1a, f1b, f1c⟩ := cat_ok (n := x5.size + 1) (by omega)
    have i1 : (x5 ++ (⟨#[45]⟩ : ByteArray)).size = x5.size + 1 := by rw [ByteArray.size_append]; rfl
    have i2 : ((x5 ++ (⟨#[45]⟩ : ByteArray)) ++ p).size = x5.size + 1 + p.size := by rw [ByteArray.size_append, i1]
    have i3 : (((x5 ++ (⟨#[45]⟩ : ByteArray)) ++ p) ++ (⟨#[43]⟩ : ByteArray)).size = x5.size + 1 + p.size + 1 := by rw [ByteArray.size_append, i2]; rfl
    have i4 : (x5 ++ (⟨#[43]⟩ : ByteArray)).size = x5.size + 1 := by rw [ByteArray.size_append]; rfl
    obtain ⟨f2a, f2b, f2c⟩ := cat_ok (n := (x5 ++ (⟨#[45]⟩ : ByteArray)).size + p.size) (by rw [i1]; omega)
    obtain ⟨f3a, f3b, f3c⟩ := cat_ok (n := ((x5 ++ (⟨#[45]⟩ : ByteArray)) ++ p).size + 1) (by rw [i2]; omega)
    obtain ⟨f4a, f4b, f4c⟩ := cat_ok (n := (((x5 ++ (⟨#[45]⟩ : ByteArray)) ++ p) ++ (⟨#[43]⟩ : ByteArray)).size + q.size) (by rw [i3]; omega)
    obtain ⟨f5a, f5b, f5c⟩ := cat_ok (n := (x5 ++ (⟨#[43]⟩ : ByteArray)).size + q.size) (by rw [i4]; omega)
    obtain ⟨f6a, f6b, f6c⟩ := cat_ok (n := x5.size + 1 + p.size) (by omega)
    obtain ⟨f7a, f7b, f7c⟩ := cat_ok (n := x5.size + 1 + p.size + 1) (by omega)
    obtain ⟨f8a, f8b, f8c⟩ := cat_ok (n := x5.size + 1 + p.size + 1 + q.size) (by omega)
    obtain ⟨f9a, f9b, f9c⟩ := cat_ok (n := x5.size + 1 + q.size) (by omega)
    clear i1 i2 i3 i4 s5 lp lq
    by_cases hp : p.data.toList = []
    · have HP := Aside0.mk hp
      clear hp
      by_cases hq : q.data.toList = []
      · have HQ := Aside0.mk hq
        clear hq
        have HR : Aside0 (z = x5) := ⟨by_data (by rw [HZ.out]; (try simp only [ByteArray.data_append, Array.toList_append]); rw [HX.out]; unfold tailV; rw [if_pos HP.out, if_pos HQ.out]; simp)⟩
        obtain rfl := nil_facts HP.out
        obtain rfl := nil_facts HQ.out
        go_wp2
        go_ret
        exact ⟨by rw [HR.out]; rfl, HO5.out.base⟩
      · have HQ := Aside0.mk hq
        clear hq
        have HR : Aside0 (z = ((x5 ++ (⟨#[43]⟩ : ByteArray)) ++ q)) := ⟨by_data (by rw [HZ.out]; (try simp only [ByteArray.data_append, Array.toList_append]); rw [HX.out]; unfold tailV; rw [if_pos HP.out, if_neg HQ.out]; simp)⟩
        obtain rfl := nil_facts HP.out
        obtain ⟨r1, r2, r3⟩ := not_nil_facts HQ.out
        go_wp2
        go_ret
        exact ⟨by rw [HR.out]; rfl, HO5.out.base⟩
    · have HP := Aside0.mk hp
      clear hp
      by_cases hq : q.data.toList = []
      · have HQ := Aside0.mk hq
        clear hq
        have HR : Aside0 (z = ((x5 ++ (⟨#[45]⟩ : ByteArray)) ++ p)) := ⟨by_data (by rw [HZ.out]; (try simp only [ByteArray.data_append, Array.toList_append]); rw [HX.out]; unfold tailV; rw [if_neg HP.out, if_pos HQ.out]; simp)⟩
        obtain ⟨p1, p2, p3⟩ := not_nil_facts HP.out
        obtain rfl := nil_facts HQ.out
        go_wp2
        go_ret
        exact ⟨by rw [HR.out]; rfl, HO5.out.base⟩
      · have HQ := Aside0.mk hq
        clear hq
        have HR : Aside0 (z = ((((x5 ++ (⟨#[45]⟩ : ByteArray)) ++ p) ++ (⟨#[43]⟩ : ByteArray)) ++ q)) := ⟨by_data (by rw [HZ.out]; (try simp only [ByteArray.data_append, Array.toList_append]); rw [HX.out]; unfold tailV; rw [if_neg HP.out, if_neg HQ.out]; simp)⟩
        obtain ⟨p1, p2, p3⟩ := not_nil_facts HP.out
        obtain ⟨r1, r2, r3⟩ := not_nil_facts HQ.out
        go_wp2
        go_ret
        exact ⟨by rw [HR.out]; rfl, HO5.out.base⟩
end Go.Proofs.YtjdhdjmdmnedfaaGreatDoor
end

section
namespace Go.Proofs.YtjdhdjmdmnedfaaGreatDoor.RP
open Go.RowKit Go.Proofs.YtjdhdjmdmnedfaaGreatDoor Go.Proofs.YtjdhdjmdmnedfaaGreatDoor.K0 Go.Proofs.YtjdhdjmdmnedfaaGreatDoor.RD Go.Proofs.YtjdhdjmdmnedfaaGreatDoor.RA Go.Proofs.YtjdhdjmdmnedfaaGreatDoorW.PrintWords Go.Proofs.YtjdhdjmdmnedfaaGreatDoorW.PrintLast Go.Proofs.YtjdhdjmdmnedfaaGreatDoorW.PrintMore
attribute [local go_sem] max2_int min2_int max_two min_two max_three min_three max_four min_four
set_option linter.unusedVariables false
set_option linter.unusedSimpArgs false
end Go.Proofs.YtjdhdjmdmnedfaaGreatDoor.RP
end
