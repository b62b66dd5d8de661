/- The texts LRx, LSame in one file, without what these claims do not use (put together by prune2.py). -/
import Derived.Test.YtjdhdjmdmnedfaaGreatDoorZL38
import Derived.Test.YtjdhdjmdmnedfaaGreatDoorZL33
import Derived.Test.YtjdhdjmdmnedfaaGreatDoorZL34
import Derived.Test.YtjdhdjmdmnedfaaGreatDoorZL17
import Derived.Test.YtjdhdjmdmnedfaaGreatDoorZL32
import Derived.Test.YtjdhdjmdmnedfaaGreatDoorZL23
section
namespace Go.Proofs.YtjdhdjmdmnedfaaGreatDoor
open Go Go.RowKit Go.Proofs Go.Proofs.YtjdhdjmdmnedfaaGreatDoorW.PrintWords Go.Proofs.YtjdhdjmdmnedfaaGreatDoorW.PrintLast Go.Proofs.YtjdhdjmdmnedfaaGreatDoor.K0 Go.Proofs.YtjdhdjmdmnedfaaGreatDoor.RD Go.Proofs.YtjdhdjmdmnedfaaGreatDoor.RE
set_option linter.unusedVariables false
set_option linter.unusedSimpArgs false
theorem digit_text (m : Nat) (h : m < 10) : UInt8.ofNat ((wrap64 (48 + (m : Int))) % 256).toNat = UInt8.ofNat (48 + m) := by
  rw [wrap_id (z := 48 + (m : Int)) (by omega) (by omega)]
  congr 1
  omega
theorem decnum_f : ∀ (d : Nat) (m k : Nat), d ≤ 9 → m < 10 ^ (d + 1) → d < k → armadaref07_Number.f k (m : Int) = some (ba (Lib.decDigits m))
  | d, m, 0, _, _, hk => by omega
  | d, m, k + 1, hd, hm, hk => by
    have hm64 : m < 10 ^ 10 := Nat.lt_of_lt_of_le hm (Nat.pow_le_pow_right (by decide) (by omega))
    simp only [armadaref07_Number.f, Option.bind_some]
    have e1 : Int.tmod (m : Int) 10 = ((m % 10 : Nat) : Int) := by
      rw [show (10 : Int) = ((10 : Nat) : Int) from rfl, ← Int.ofNat_tmod]
    have e2 : Int.tdiv (m : Int) 10 = ((m / 10 : Nat) : Int) := by
      rw [show (10 : Int) = ((10 : Nat) : Int) from rfl, ← Int.ofNat_tdiv]
    have e3 : strOfNums [(wrap64 (48 + ((m % 10 : Nat) : Int))) % 256] = ba [UInt8.ofNat (48 + m % 10)] := by
      apply by_data
      rw [strOfNums_data, ba_data, List.map_cons, List.map_nil, digit_text _ (Nat.mod_lt _ (by decide))]
    rw [e1, e2, e3]
    by_cases h : m < 10
    · rw [if_neg (by omega), dec_unfold, if_pos h, Nat.mod_eq_of_lt h]
    · rw [if_pos (by omega)]
      match d, hm with
      | 0, hm => omega
      | d + 1, hm =>
        have hq : m / 10 < 10 ^ (d + 1) := by rw [Nat.div_lt_iff_lt_mul (by decide)]; rw [Nat.pow_succ] at hm; exact hm
        rw [wrap_id (z := ((m / 10 : Nat) : Int)) (by omega) (by omega), decnum_f d (m / 10) k (by omega) hq (by omega)]
        have hl := dec_len d (m / 10) hq
        simp only [Option.bind_some]
        rw [if_pos (by rw [ba_size, ba_size]; simp; omega), show Lib.decDigits m = Lib.decDigits (m / 10) ++ [UInt8.ofNat (48 + m % 10)] by rw [dec_unfold m, if_neg h]]
        rw [show ba (Lib.decDigits (m / 10)) ++ ba [UInt8.ofNat (48 + m % 10)] = ba (Lib.decDigits (m / 10) ++ [UInt8.ofNat (48 + m % 10)]) from by_data (by rw [ByteArray.data_append, Array.toList_append]; rfl)]
def rtx.T3 : Bool × List (List Nat × List Nat) := (true, [([], []), ([0], [0]), ([1], [1]), ([2], [2]), ([3], [3]), ([], []), ([5], [5]), ([6, 2], [6]), ([4, 7], [4, 7]), ([8], [8]), ([], []), ([10], [10]), ([11, 7], [11]), ([9, 12], [9, 12]), ([13, 12, 0, 1, 2, 3, 4, 5, 6, 7, 8, 9, 10, 11, 12, 13], [13])])
def rtx.B3 : List Nat := [0, 1, 3, 7, 15, 0, 32, 103, 255, 511, 0, 1024, 3303, 8191, 16383]
theorem rtx.tab3 : rtab .any (opsOf Tryz.f24 3) = rtx.T3 := by kernel_rfl
theorem rtx.bits3 : waitsOk rtx.T3.2 rtx.B3 = true := by kernel_rfl
theorem rnum_calls (z : Int) (h0 : 0 ≤ z) (h9 : z ≤ 999999999) (w : World) : Calls Tryz.prog 45 #[.int .i64 z] w fun e w' => e = .returned (.string (ba (Lib.decDigits z.toNat))) ∧ Below w.heap.size w w' := by
  have h := decnum_f 9 z.toNat 10 (by decide) (by omega) (by decide)
  rw [show ((z.toNat : Nat) : Int) = z by omega] at h
  exact armadaref07_Number.calls 10 z _ w h
theorem nil_facts {p : ByteArray} (h : p.data.toList = []) : p = ⟨#[]⟩ := by_data (by rw [h])
theorem not_nil_facts {p : ByteArray} (h : ¬ p.data.toList = []) : (p.toList != ([] : List UInt8)) = true ∧ p.toList.isEmpty = false ∧ ¬ p.toList = ([] : List UInt8) := by
  rw [← ByteArray.toList_eq] at h
  refine ⟨by simpa using h, by simpa using h, h⟩
theorem cat_ok {n : Nat} (h : n ≤ 1000000) : (n ≤ 9223372036854775807) = True ∧ decide (n ≤ 9223372036854775807) = true ∧ (9223372036854775807 < n) = False :=
  ⟨eq_true (by omega), decide_eq_true (by omega), eq_false (by omega)⟩
/-- The version in its box. -/
structure RxIs (w : World) (v : Array Value) (W : World) : Prop where
  base : Below w.heap.size w W
  t : W.heap[w.heap.size]? = some (.cells v 30 (0, 0))
theorem RxIs.step {w W W' : World} {v : Array Value} (h : RxIs w v W) (hb : Below W.heap.size W W') : RxIs w v W' := ⟨below_step h.base hb, blk_below h.t hb⟩
abbrev vec (a b c : Int) (p q : ByteArray) : Array Value := #[.int .i64 a, .int .i64 b, .int .i64 c, .string p, .string q]
theorem RxIs.cells {w W : World} {a b c : Int} {p q : ByteArray} (h : RxIs w (vec a b c p q) W) : W.cell? ⟨w.heap.size, 0, none⟩ = some (.int .i64 a) ∧ W.cell? ⟨w.heap.size, 1, none⟩ = some (.int .i64 b) ∧ W.cell? ⟨w.heap.size, 2, none⟩ = some (.int .i64 c) ∧ W.cell? ⟨w.heap.size, 3, none⟩ = some (.string p) ∧ W.cell? ⟨w.heap.size, 4, none⟩ = some (.string q) :=
  ⟨(blk_cell h.t 0).trans rfl, (blk_cell h.t 1).trans rfl, (blk_cell h.t 2).trans rfl, (blk_cell h.t 3).trans rfl, (blk_cell h.t 4).trans rfl⟩
set_option maxRecDepth 100000 in
set_option maxHeartbeats 2000000 in
theorem rtext_calls (a b c : Int) (p q : ByteArray) (w : World) : Calls Tryz.prog 24 #[.agg (vec a b c p q)] w fun e w' => e = .returned (.string (textV a b c p q)) ∧ Below w.heap.size w w' := by
  have HS := Aside0.mk (show RxIs w (vec a b c p q) (w.alloc (.cells (vec a b c p q) 30)) from ⟨below_alloc (Below.refl _ _) _, heap_alloc_new w _⟩)
  have hck : ∀ W : World, Calls Tryz.prog 42 #[.agg (vec a b c p q)] W fun e w' => e = .returned (.bool (verOk a b c p q)) ∧ Below W.heap.size W w' := fun W => by
    obtain ⟨K, hK⟩ := ref_ver_Check_f a b c p q
    exact armadaref07_Check.calls K _ _ _ _ _ _ W (hK K (Nat.le_refl _))
  obtain ⟨z, hz⟩ : ∃ z, textV a b c p q = z := ⟨_, rfl⟩
  rw [hz]
  cases hv : verOk a b c p q with
  | false =>
    obtain rfl : z = ⟨#[]⟩ := by rw [← hz]; unfold textV; rw [hv]; rfl
    rw [hv] at hck
    clear hz hv
    go_enter Tryz.func24, Tryz.ntmps24
    go_upto_region 1 with fail
    generalize w.alloc (.cells (vec a b c p q) 30) = W1 at HS ⊢
    obtain ⟨g0, g1, g2, g3, g4⟩ := HS.out.cells
    go_wp2_with (go_at_call 42; with_reducible refine (hck _).mono ?_; rintro e W2 ⟨rfl, hb⟩; have HS2 := Aside0.mk (HS.out.step hb); clear hb)
    go_ret
    exact ⟨rfl, HS2.out.base⟩
  | true =>
    have hI := verIs hv
    have hz2 := textV_ok hv
    rw [hz] at hz2
    have HN0 := Aside0.mk (fun W => rnum_calls a hI.a0 hI.a9 W)
    have HN1 := Aside0.mk (fun W => rnum_calls b hI.b0 hI.b9 W)
    have HN2 := Aside0.mk (fun W => rnum_calls c hI.c0 hI.c9 W)
    have l0 := dec_len 8 a.toNat (by have := hI.a9; omega)
    have l1 := dec_len 8 b.toNat (by have := hI.b9; omega)
    have l2 := dec_len 8 c.toNat (by have := hI.c9; omega)
    have lp : p.size ≤ 30 := hI.hp
    have lq : q.size ≤ 30 := hI.hq
    rw [← ba_size (Lib.decDigits a.toNat)] at l0
    rw [← ba_size (Lib.decDigits b.toNat)] at l1
    rw [← ba_size (Lib.decDigits c.toNat)] at l2
    rw [hv] at hck
    obtain ⟨n0, e0⟩ : ∃ n, ba (Lib.decDigits a.toNat) = n := ⟨_, rfl⟩
    obtain ⟨n1, e1⟩ : ∃ n, ba (Lib.decDigits b.toNat) = n := ⟨_, rfl⟩
    obtain ⟨n2, e2⟩ : ∃ n, ba (Lib.decDigits c.toNat) = n := ⟨_, rfl⟩
    have hz3 : z.data.toList = 118 :: ((n0.data.toList ++ 46 :: (n1.data.toList ++ 46 :: n2.data.toList) ++ tailV 45 p.data.toList) ++ tailV 43 q.data.toList) := by
      rw [hz2, ← e0, ← e1, ← e2]; rfl
    rw [e0] at HN0 l0
    rw [e1] at HN1 l1
    rw [e2] at HN2 l2
    have HZ := Aside0.mk hz3
    clear hz hz2 hz3 hI hv e0 e1 e2
    go_enter Tryz.func24, Tryz.ntmps24
    go_upto_region 1 with fail
    generalize w.alloc (.cells (vec a b c p q) 30) = W1 at HS ⊢
    obtain ⟨g0, g1, g2, g3, g4⟩ := HS.out.cells
    go_upto_region 3 with (go_at_call 42; with_reducible refine (hck _).mono ?_; rintro e W2 ⟨rfl, hb⟩; have HS2 := Aside0.mk (HS.out.step hb); clear hb)
    clear HS g0 g1 g2 g3 g4 hck
    refine sX (ds := []) (S := fun w' => w'.cell? ⟨w.heap.size, 0, none⟩ = some (.int .i64 a) ∧ w'.cell? ⟨w.heap.size, 1, none⟩ = some (.int .i64 b) ∧ w'.cell? ⟨w.heap.size, 2, none⟩ = some (.int .i64 c)) rtx.tab3 rtx.bits3 ⟨(blk_cell (blk_drew HS2.out.t) 0).trans rfl, (blk_cell (blk_drew HS2.out.t) 1).trans rfl, (blk_cell (blk_drew HS2.out.t) 2).trans rfl⟩ (fun HT_ HW_ hHeld => ?_)
    have HO2 := Aside0.mk (HS2.out.step (below_drew1 (Below.refl _ _)))
    generalize W2.drew = w2 at HO2 hHeld ⊢
    clear HS2
    refine pX HT_ 0 1 7 ?_
    refine pX HT_ 5 33 12 ?_
    refine pX HT_ 10 1057 17 ?_
    refine tX HT_ HW_ hHeld 1 1059 8 ?_
    refine tX HT_ HW_ hHeld 6 1123 13 ?_
    refine tX HT_ HW_ hHeld 11 3171 18 ?_
    refine gX HT_ 2 3175 9 Tryz.func45 (HN0.out w2) ?_
    rintro e w3 ⟨rfl, hb⟩
    have HO3 := Aside0.mk (HO2.out.step hb)
    obtain ⟨q0, q1, q2, _, _⟩ := HO3.out.cells
    clear HO2 hHeld hb
    refine ⟨_, rfl, _, nX, ⟨q0, q1, q2⟩, fun hHeld => ?_⟩
    clear q0 q1 q2
    obtain ⟨f1a, f1b, f1c⟩ := cat_ok (n := 1 + n0.size) (by omega)
    refine pX HT_ 3 3183 10 ?_
    clear f1a f1b f1c
    have s1 : ((⟨#[118]⟩ : ByteArray) ++ n0).size ≤ 10 := by rw [ByteArray.size_append]; (try simp only [show (⟨#[46]⟩ : ByteArray).size = 1 from rfl, show (⟨#[118]⟩ : ByteArray).size = 1 from rfl]); omega
    obtain ⟨x1, E1⟩ : ∃ y, (⟨#[118]⟩ : ByteArray) ++ n0 = y := ⟨_, rfl⟩
    rw [E1] at s1 ⊢
    have HE1 := Aside0.mk E1
    clear E1
    obtain ⟨f2a, f2b, f2c⟩ := cat_ok (n := x1.size + 1) (by omega)
    refine pX HT_ 4 3199 11 ?_
    clear f2a f2b f2c
    have s2 : (x1 ++ (⟨#[46]⟩ : ByteArray)).size ≤ 11 := by rw [ByteArray.size_append]; (try simp only [show (⟨#[46]⟩ : ByteArray).size = 1 from rfl, show (⟨#[118]⟩ : ByteArray).size = 1 from rfl]); omega
    obtain ⟨x2, E2⟩ : ∃ y, x1 ++ (⟨#[46]⟩ : ByteArray) = y := ⟨_, rfl⟩
    rw [E2] at s2 ⊢
    have HE2 := Aside0.mk E2
    clear E2
    refine gX HT_ 7 3327 14 Tryz.func45 (HN1.out w3) ?_
    rintro e w4 ⟨rfl, hb⟩
    have HO4 := Aside0.mk (HO3.out.step hb)
    obtain ⟨q0, q1, q2, _, _⟩ := HO4.out.cells
    clear HO3 hHeld hb
    refine ⟨_, rfl, _, nX, ⟨q0, q1, q2⟩, fun hHeld => ?_⟩
    clear q0 q1 q2
    obtain ⟨f3a, f3b, f3c⟩ := cat_ok (n := x2.size + n1.size) (by omega)
    refine pX HT_ 8 3583 15 ?_
    clear f3a f3b f3c
    have s3 : (x2 ++ n1).size ≤ 20 := by rw [ByteArray.size_append]; (try simp only [show (⟨#[46]⟩ : ByteArray).size = 1 from rfl, show (⟨#[118]⟩ : ByteArray).size = 1 from rfl]); omega
    obtain ⟨x3, E3⟩ : ∃ y, x2 ++ n1 = y := ⟨_, rfl⟩
    rw [E3] at s3 ⊢
    have HE3 := Aside0.mk E3
    clear E3
    obtain ⟨f4a, f4b, f4c⟩ := cat_ok (n := x3.size + 1) (by omega)
    refine pX HT_ 9 4095 16 ?_
    clear f4a f4b f4c
    have s4 : (x3 ++ (⟨#[46]⟩ : ByteArray)).size ≤ 21 := by rw [ByteArray.size_append]; (try simp only [show (⟨#[46]⟩ : ByteArray).size = 1 from rfl, show (⟨#[118]⟩ : ByteArray).size = 1 from rfl]); omega
    obtain ⟨x4, E4⟩ : ∃ y, x3 ++ (⟨#[46]⟩ : ByteArray) = y := ⟨_, rfl⟩
    rw [E4] at s4 ⊢
    have HE4 := Aside0.mk E4
    clear E4
    refine gX HT_ 12 8191 19 Tryz.func45 (HN2.out w4) ?_
    rintro e w5 ⟨rfl, hb⟩
    have HO5 := Aside0.mk (HO4.out.step hb)
    obtain ⟨q0, q1, q2, _, _⟩ := HO5.out.cells
    clear HO4 hHeld hb
    refine ⟨_, rfl, _, nX, ⟨q0, q1, q2⟩, fun hHeld => ?_⟩
    clear q0 q1 q2
    obtain ⟨f5a, f5b, f5c⟩ := cat_ok (n := x4.size + n2.size) (by omega)
    refine pX HT_ 13 16383 20 ?_
    clear f5a f5b f5c
    have s5 : (x4 ++ n2).size ≤ 30 := by rw [ByteArray.size_append]; (try simp only [show (⟨#[46]⟩ : ByteArray).size = 1 from rfl, show (⟨#[118]⟩ : ByteArray).size = 1 from rfl]); omega
    obtain ⟨x5, E5⟩ : ∃ y, x4 ++ n2 = y := ⟨_, rfl⟩
    rw [E5] at s5 ⊢
    have HE5 := Aside0.mk E5
    clear E5
    refine pX HT_ 14 32767 3 ?_
    refine eX HT_ ?_
    clear HT_ HW_ hHeld HN0 HN1 HN2
    have HX : Aside0 (x5.data.toList = 118 :: (n0.data.toList ++ 46 :: (n1.data.toList ++ 46 :: n2.data.toList))) := ⟨by
      rw [← HE5.out, ← HE4.out, ← HE3.out, ← HE2.out, ← HE1.out]
      simp only [ByteArray.data_append, Array.toList_append, List.append_assoc]
      rfl⟩
    clear HE1 HE2 HE3 HE4 HE5 s1 s2 s3 s4 l0 l1 l2
    obtain ⟨q0, q1, q2, q3, q4⟩ := HO5.out.cells
    obtain ⟨f1a, f1b, f1c⟩ := cat_ok (n := x5.size + 1) (by omega)
    have i1 : (x5 ++ (⟨#[45]⟩ : ByteArray)).size = x5.size + 1 := by rw [ByteArray.size_append]; rfl
    have i2 : ((x5 ++ (⟨#[45]⟩ : ByteArray)) ++ p).size = x5.size + 1 + p.size := by rw [ByteArray.size_append, i1]
    have i3 : (((x5 ++ (⟨#[45]⟩ : ByteArray)) ++ p) ++ (⟨#[43]⟩ : ByteArray)).size = x5.size + 1 + p.size + 1 := by rw [ByteArray.size_append, i2]; rfl
    have i4 : (x5 ++ (⟨#[43]⟩ : ByteArray)).size = x5.size + 1 := by rw [ByteArray.size_append]; rfl
    obtain ⟨f2a, f2b, f2c⟩ := cat_ok (n := (x5 ++ (⟨#[45]⟩ : ByteArray)).size + p.size) (by rw [i1]; omega)
    obtain ⟨f3a, f3b, f3c⟩ := cat_ok (n := ((x5 ++ (⟨#[45]⟩ : ByteArray)) ++ p).size + 1) (by rw [i2]; omega)
    obtain ⟨f4a, f4b, f4c⟩ := cat_ok (n := (((x5 ++ (⟨#[45]⟩ : ByteArray)) ++ p) ++ (⟨#[43]⟩ : ByteArray)).size + q.size) (by rw [i3]; omega)
    obtain ⟨f5a, f5b, f5c⟩ := cat_ok (n := (x5 ++ (⟨#[43]⟩ : ByteArray)).size + q.size) (by rw [i4]; omega)
    obtain ⟨f6a, f6b, f6c⟩ := cat_ok (n := x5.size + 1 + p.size) (by omega)
    obtain ⟨f7a, f7b, f7c⟩ := cat_ok (n := x5.size + 1 + p.size + 1) (by omega)
    obtain ⟨f8a, f8b, f8c⟩ := cat_ok (n := x5.size + 1 + p.size + 1 + q.size) (by omega)
    obtain ⟨f9a, f9b, f9c⟩ := cat_ok (n := x5.size + 1 + q.size) (by omega)
    clear i1 i2 i3 i4 s5 lp lq
    by_cases hp : p.data.toList = []
    · have HP := Aside0.mk hp
      clear hp
      by_cases hq : q.data.toList = []
      · have HQ := Aside0.mk hq
        clear hq
        have HR : Aside0 (z = x5) := ⟨by_data (by rw [HZ.out]; (try simp only [ByteArray.data_append, Array.toList_append]); rw [HX.out]; unfold tailV; rw [if_pos HP.out, if_pos HQ.out]; simp)⟩
        obtain rfl := nil_facts HP.out
        obtain rfl := nil_facts HQ.out
        go_wp2
        go_ret
        exact ⟨by rw [HR.out]; rfl, HO5.out.base⟩
      · have HQ := Aside0.mk hq
        clear hq
        have HR : Aside0 (z = ((x5 ++ (⟨#[43]⟩ : ByteArray)) ++ q)) := ⟨by_data (by rw [HZ.out]; (try simp only [ByteArray.data_append, Array.toList_append]); rw [HX.out]; unfold tailV; rw [if_pos HP.out, if_neg HQ.out]; simp)⟩
        obtain rfl := nil_facts HP.out
        obtain ⟨r1, r2, r3⟩ := not_nil_facts HQ.out
        go_wp2
        go_ret
        exact ⟨by rw [HR.out]; rfl, HO5.out.base⟩
    · have HP := Aside0.mk hp
      clear hp
      by_cases hq : q.data.toList = []
      · have HQ := Aside0.mk hq
        clear hq
        have HR : Aside0 (z = ((x5 ++ (⟨#[45]⟩ : ByteArray)) ++ p)) := ⟨by_data (by rw [HZ.out]; (try simp only [ByteArray.data_append, Array.toList_append]); rw [HX.out]; unfold tailV; rw [if_neg HP.out, if_pos HQ.out]; simp)⟩
        obtain ⟨p1, p2, p3⟩ := not_nil_facts HP.out
        obtain rfl := nil_facts HQ.out
        go_wp2
        go_ret
        exact ⟨by rw [HR.out]; rfl, HO5.out.base⟩
      · have HQ := Aside0.mk hq
        clear hq
        have HR : Aside0 (z = ((((x5 ++ (⟨#[45]⟩ : ByteArray)) ++ p) ++ (⟨#[43]⟩ : ByteArray)) ++ q)) := ⟨by_data (by rw [HZ.out]; (try simp only [ByteArray.data_append, Array.toList_append]); rw [HX.out]; unfold tailV; rw [if_neg HP.out, if_neg HQ.out]; simp)⟩
        obtain ⟨p1, p2, p3⟩ := not_nil_facts HP.out
        obtain ⟨r1, r2, r3⟩ := not_nil_facts HQ.out
        go_wp2
        go_ret
        exact ⟨by rw [HR.out]; rfl, HO5.out.base⟩
end Go.Proofs.YtjdhdjmdmnedfaaGreatDoor
end

section
namespace Go.Proofs.YtjdhdjmdmnedfaaGreatDoor
open Go Go.RowKit Go.Proofs Go.Proofs.YtjdhdjmdmnedfaaGreatDoorW.PrintWords Go.Proofs.YtjdhdjmdmnedfaaGreatDoor.K0 Go.Proofs.YtjdhdjmdmnedfaaGreatDoor.R1 Go.Proofs.YtjdhdjmdmnedfaaGreatDoor.R2 Go.Proofs.YtjdhdjmdmnedfaaGreatDoor.R3 Go.Proofs.YtjdhdjmdmnedfaaGreatDoor.R4 Go.Proofs.YtjdhdjmdmnedfaaGreatDoor.R5 Go.Proofs.YtjdhdjmdmnedfaaGreatDoor.RS
set_option linter.unusedVariables false
set_option linter.unusedSimpArgs false
theorem same_l0 (l : List Tg) (hl : l.length ≤ 4294967280) : ∀ (d n k : Nat), l.length - n = d → n ≤ l.length → d < k → armadaref15_Same.l0 k l l (n : Int) = some true := by
  intro d
  induction d with
  | zero =>
    intro n k hd hn hk
    obtain ⟨k, rfl⟩ : ∃ m, k = m + 1 := ⟨k - 1, by omega⟩
    simp only [armadaref15_Same.l0]
    rw [if_neg (by omega)]
  | succ d ih =>
    intro n k hd hn hk
    obtain ⟨k, rfl⟩ : ∃ m, k = m + 1 := ⟨k - 1, by omega⟩
    simp only [armadaref15_Same.l0]
    rw [if_pos (by omega), if_pos (by omega), if_pos (by omega), wrap_succ (by omega), ih (n + 1) k (by omega) (by omega) (by omega)]
    simp
theorem same_self (l : List Tg) (hl : l.length ≤ 4294967280) (k : Nat) (hk : l.length < k) : armadaref15_Same.f k l l = some true := by
  unfold armadaref15_Same.f
  rw [if_pos rfl]
  exact same_l0 l hl _ 0 k rfl (by omega) (by omega)
/-- Is a tag of little? -/
def littleT (t : Tg) : Bool := decide (t.f0.size ≤ 200) && (decide (t.f2.size ≤ 200) && (decide (t.f1.f3.size ≤ 200) && decide (t.f1.f4.size ≤ 200)))
theorem wrap_s {n : Nat} (h : n < 9223372036854775807) : wrap64 ((n : Int) + 1) = ((n + 1 : Nat) : Int) := by unfold wrap64; omega
theorem few_l0 (l : List Tg) (hl : l.length ≤ 9223372036854775807) : ∀ (d n k : Nat), l.length - n = d → n ≤ l.length → d < k → armadaref15_Few.l0 k l (n : Int) = some ((l.drop n).all littleT && decide (l.length ≤ 60)) := by
  intro d
  induction d with
  | zero =>
    intro n k hd hn hk
    obtain ⟨k, rfl⟩ : ∃ m, k = m + 1 := ⟨k - 1, by omega⟩
    simp only [armadaref15_Few.l0]
    rw [if_neg (by omega), List.drop_eq_nil_of_le (by omega)]
    simp
    omega
  | succ d ih =>
    intro n k hd hn hk
    obtain ⟨k, rfl⟩ : ∃ m, k = m + 1 := ⟨k - 1, by omega⟩
    obtain ⟨x, h1, h2, h3⟩ := rdT_at (l := l) (n := n) (by omega)
    simp only [armadaref15_Few.l0]
    rw [if_pos (by omega), if_pos (by omega), h1, wrap_s (by omega), ih (n + 1) k (by omega) (by omega) (by omega), h2, List.all_cons]
    unfold littleT
    by_cases a1 : x.f0.size ≤ 200
    · rw [if_neg (by omega), decide_eq_true a1]
      by_cases a2 : x.f2.size ≤ 200
      · rw [if_neg (by omega), decide_eq_true a2]
        by_cases a3 : x.f1.f3.size ≤ 200
        · rw [if_neg (by omega), decide_eq_true a3]
          by_cases a4 : x.f1.f4.size ≤ 200
          · rw [if_neg (by omega), decide_eq_true a4]; simp
          · rw [if_pos (by omega), decide_eq_false a4]; simp
        · rw [if_pos (by omega), decide_eq_false a3]; simp
      · rw [if_pos (by omega), decide_eq_false a2]; simp
    · rw [if_pos (by omega), decide_eq_false a1]; simp
def fewT (l : List Tg) : Bool := l.all littleT && decide (l.length ≤ 60)
theorem few_f (l : List Tg) (hl : l.length ≤ 9223372036854775807) (k : Nat) (hk : l.length < k) : armadaref15_Few.f k l = some (fewT l) := by
  have := few_l0 l hl _ 0 k rfl (by omega) (by omega)
  rw [List.drop_zero] at this
  exact this
theorem few_len {l : List Tg} (h : fewT l = true) : l.length ≤ 60 ∧ ∀ t ∈ l, t.f2.size ≤ 200 := by
  unfold fewT at h
  rw [Bool.and_eq_true, decide_eq_true_eq] at h
  refine ⟨h.2, fun t ht => ?_⟩
  have := List.all_eq_true.1 h.1 t ht
  unfold littleT at this
  simp only [Bool.and_eq_true, decide_eq_true_eq] at this
  exact this.2.1
theorem text_small {l : List Tg} (hw : ∀ t ∈ l, ∃ m, wrongT m t = 0) (hh : ∀ t ∈ l, t.f2.size ≤ 200) : (textB l).length ≤ l.length * 400 := by
  unfold textB
  induction l with
  | nil => simp
  | cons t l ih =>
    have ih2 := ih (fun x hx => hw x (List.mem_cons_of_mem _ hx)) (fun x hx => hh x (List.mem_cons_of_mem _ hx))
    obtain ⟨m, hm⟩ := hw t List.mem_cons_self
    obtain ⟨h1, h2, _⟩ := wrongT_ok.1 hm
    have hv : verOk t.f1.f0 t.f1.f1 t.f1.f2 t.f1.f3 t.f1.f4 = true := h2
    have l1 := check_size h1
    have l2 := bytesV_len hv
    have l3 := hh t List.mem_cons_self
    rw [Lib.size_eq] at l1 l3
    rw [List.flatMap_cons]
    have : (lineT t).length ≤ 399 := by
      unfold lineT
      simp only [List.length_append, List.length_cons]
      omega
    simp only [List.length_append, List.length_cons, List.length_nil] at ih2 ⊢
    omega
/-- The text of tags, or the first error. -/
def txtT (l : List Tg) : ByteArray × Int := if firstWrong [] l = 0 then (ba (textB l), 0) else (⟨#[]⟩, firstWrong [] l)
theorem text_gen (l : List Tg) (h88 : l.length * 88 ≤ 140737488355328) (hh : ∀ t ∈ l, t.f2.size ≤ 140737488355328) (hl : firstWrong [] l = 0 → (textB l).length ≤ 140737488355328) : ledger_Text.f l = some (txtT l) := by
  unfold ledger_Text.f txtT
  rw [if_pos h88, if_pos (List.all_eq_true.2 fun t ht => decide_eq_true (hh t ht))]
  by_cases hf : firstWrong [] l = 0
  · rw [if_pos hf, if_pos hf, if_pos (hl hf)]
  · rw [if_neg hf, if_neg hf]
theorem text_few {l : List Tg} (h : fewT l = true) : ledger_Text.f l = some (txtT l) := by
  obtain ⟨h1, h2⟩ := few_len h
  refine text_gen l (by omega) (fun t ht => by have := h2 t ht; omega) fun hf => ?_
  have := text_small (fun t ht => firstWrong_mem hf ht) h2
  omega
end Go.Proofs.YtjdhdjmdmnedfaaGreatDoor
end
