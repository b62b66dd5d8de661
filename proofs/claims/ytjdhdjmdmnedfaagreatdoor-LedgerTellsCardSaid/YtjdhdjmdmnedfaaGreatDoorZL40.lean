/- The texts LRt, LOpens in one file, without what these claims do not use (put together by prune2.py). -/
import Derived.Test.YtjdhdjmdmnedfaaGreatDoorZL37
import Derived.Test.YtjdhdjmdmnedfaaGreatDoorZL39
import Derived.Test.YtjdhdjmdmnedfaaGreatDoorZL32
import Derived.Test.YtjdhdjmdmnedfaaGreatDoorZL4
import Derived.Deep.Slices
import Derived.ChangeArms
import Derived.WideShapes
import Derived.ChangeMaps
section
namespace Go.Proofs.YtjdhdjmdmnedfaaGreatDoor
open Go Go.RowKit Go.Proofs Go.Proofs.YtjdhdjmdmnedfaaGreatDoorW.PrintWords Go.Proofs.YtjdhdjmdmnedfaaGreatDoorW.PrintLast Go.Proofs.YtjdhdjmdmnedfaaGreatDoor.K0 Go.Proofs.YtjdhdjmdmnedfaaGreatDoor.RD
set_option linter.unusedVariables false
set_option linter.unusedSimpArgs false
def rtt.T5 : Bool × List (List Nat × List Nat) := (true, [([], []), ([], []), ([0, 1], [0, 1]), ([], []), ([], []), ([3, 4], [3, 4]), ([5], [5]), ([2, 6], [2, 6]), ([7, 7, 0, 1, 2, 3, 4, 5, 6, 7], [7])])
def rtt.B5 : List Nat := [0, 0, 3, 0, 0, 24, 56, 127, 255]
theorem rtt.tab5 : rtab .any (opsOf Tryz.f11 5) = rtt.T5 := by kernel_rfl
theorem rtt.bits5 : waitsOk rtt.T5.2 rtt.B5 = true := by kernel_rfl
def rtt.T8 : Bool × List (List Nat × List Nat) := (true, [([], []), ([], []), ([], []), ([1, 2], [1, 2]), ([3], [3]), ([4], [4]), ([0, 5], [0, 5]), ([6], [6]), ([], []), ([], []), ([8, 9], [8, 9]), ([10], [10]), ([11], [11]), ([12], [12]), ([7, 13], [7, 13]), ([14], [14]), ([], []), ([], []), ([16, 17], [16, 17]), ([18], [18]), ([19], [19]), ([15, 20], [15, 20]), ([21], [21]), ([22, 13, 0, 1, 2, 3, 4, 5, 6, 7, 8, 9, 10, 11, 12, 13, 14, 15, 16, 17, 18, 19, 20, 21, 22], [0, 22])])
def rtt.B8 : List Nat := [0, 0, 0, 6, 14, 30, 63, 127, 0, 0, 768, 1792, 3840, 7936, 16383, 32767, 0, 0, 196608, 458752, 983040, 2097151, 4194303, 8388607]
theorem rtt.tab8 : rtab .any (opsOf Tryz.f11 8) = rtt.T8 := by kernel_rfl
theorem rtt.bits8 : waitsOk rtt.T8.2 rtt.B8 = true := by kernel_rfl
theorem fw_small {xs : List Tg} (h : firstWrong [] xs = 0) (hh : ∀ t ∈ xs, t.f2.size ≤ 200) (hl : xs.length ≤ 60) : (textB xs).length ≤ 24000 := by
  have := text_small (fun t ht => firstWrong_mem h ht) hh
  omega
set_option maxRecDepth 100000 in
set_option maxHeartbeats 4000000 in
theorem rtextl_calls (A : Option Addr) (c : Nat) (xs : List Tg) (w : World) (hr : Kd.C k32 w A xs.length xs) (hc : xs.length ≤ c) (hs : ∀ t ∈ xs, t.f2.size ≤ 200) (hl : xs.length ≤ 60) :
    Calls Tryz.prog 11 #[.slice A xs.length c] w fun e w' => e = .returned (.tuple #[.string (if firstWrong [] xs = 0 then ba (textB xs) else ⟨#[]⟩), .int .i64 (firstWrong [] xs)]) ∧ Below w.heap.size w w' := by
  have hbig := hr.2.1
  obtain ⟨n, hn⟩ : ∃ n, n = xs.length := ⟨_, rfl⟩
  rw [← hn] at hr hbig hc hl ⊢
  obtain ⟨E, hE⟩ : ∃ E, E = firstWrong [] xs := ⟨_, rfl⟩
  rw [← hE]
  obtain ⟨R, hR⟩ : ∃ R, R = (if E = 0 then ba (textB xs) else (⟨#[]⟩ : ByteArray)) := ⟨_, rfl⟩
  rw [← hR]
  have HRR := Aside0.mk hR
  have HN := Aside0.mk hn
  have HE := Aside0.mk hE
  have HR := Aside0.mk hr
  have HS := Aside0.mk hs
  have HL := Aside0.mk hl
  clear hn hE hr hs hl hR
  go_enter Tryz.func11, Tryz.ntmps11
  go_wp2
  go_loopg [4, 5, 6] n (fun gg v4 v5 _ wr => ∃ (kk : Nat) (s : ByteArray), kk ≤ n ∧ n - kk ≤ gg ∧ v5 = .int .i64 kk ∧ v4 = .string s ∧ Aside0 (s = ba (textB (xs.take kk))) ∧ Aside0 (firstWrong [] (xs.take kk) = 0) ∧ Aside0 (Below w.heap.size w wr))
  case atStart => exact ⟨0, ⟨#[]⟩, Nat.zero_le _, by omega, rfl, rfl, ⟨rfl⟩, ⟨rfl⟩, ⟨Below.refl _ _⟩⟩
  case round =>
    obtain ⟨kk, s, hkk, hg, rfl, rfl, HTX, HF, HB⟩ := hrel
    by_cases hlt : kk < n
    · have hltz : (kk : Int) < (n : Int) := by omega
      obtain ⟨t, ht⟩ : ∃ t, xs[kk]? = some t := ⟨_, List.getElem?_eq_getElem (by have := HN.out; omega)⟩
      have hte : rd_T32 xs (kk : Int) = t := by
        unfold rd_T32
        rw [Int.toNat_natCast, List.getD_eq_getElem?_getD, ht]; rfl
      obtain ⟨ad, hA, _⟩ := at_T32 (Kd.C_below HR.out HB.out) (kk : Int) (by omega) (by omega)
      subst hA
      have HGX : Aside0 (∀ W, Below w.heap.size w W → W.cell? (ad.add (kk * 7)) = some (.string t.f0) ∧ W.cell? ⟨(ad.add (kk * 7)).block, (ad.add (kk * 7)).off + 1, none⟩ = some (.int .i64 t.f1.f0) ∧ W.cell? ⟨(ad.add (kk * 7)).block, (ad.add (kk * 7)).off + 2, none⟩ = some (.int .i64 t.f1.f1) ∧ W.cell? ⟨(ad.add (kk * 7)).block, (ad.add (kk * 7)).off + 3, none⟩ = some (.int .i64 t.f1.f2) ∧ W.cell? ⟨(ad.add (kk * 7)).block, (ad.add (kk * 7)).off + 4, none⟩ = some (.string t.f1.f3) ∧ W.cell? ⟨(ad.add (kk * 7)).block, (ad.add (kk * 7)).off + 5, none⟩ = some (.string t.f1.f4) ∧ W.cell? ⟨(ad.add (kk * 7)).block, (ad.add (kk * 7)).off + 6, none⟩ = some (.string t.f2)) := ⟨fun W hb => by
        obtain ⟨ad2, hA2, h0, h1, h2, h3, h4, h5, h6⟩ := at_T32 (Kd.C_below HR.out hb) (kk : Int) (by omega) (by omega)
        obtain rfl := Option.some.inj hA2
        rw [hte, Int.toNat_natCast] at h0 h1 h2 h3 h4 h5 h6
        exact ⟨h0, h1, h2, h3, h4, h5, h6⟩⟩
      have htk : xs.take (kk + 1) = xs.take kk ++ [t] := by rw [List.take_add_one, ht]; rfl
      have hfw : firstWrong [] (xs.take (kk + 1)) = wrongT (xs.take kk) t := by rw [htk, firstWrong_app HF.out]; rfl
      have htm := List.mem_of_getElem? ht
      have hwr : ∀ W, Below w.heap.size w W → Calls Tryz.prog 23 #[.slice (some ad) kk c, .agg (tgc t)] W fun e w' => e = .returned (.int .i64 (wrongT (xs.take kk) t)) ∧ Below W.heap.size W w' := by
        intro W hb
        have hl : (xs.take kk).length = kk := by rw [List.length_take]; have := HN.out; omega
        have := rwrong_calls (some ad) c (xs.take kk) t W (hl.symm ▸ C_take (Kd.C_below HR.out hb) kk hkk) (Nat.le_trans (HS.out t htm) (by decide))
        rwa [hl] at this
      have hE2 : wrongT (xs.take kk) t ≠ 0 → E = wrongT (xs.take kk) t := by
        intro hne
        have e : xs = xs.take (kk + 1) ++ xs.drop (kk + 1) := (List.take_append_drop _ _).symm
        exact HE.out.trans ((congrArg (firstWrong []) e).trans ((fw_bad (by rw [hfw]; exact hne)).trans hfw))
      have HWR := Aside0.mk hwr
      have HFW := Aside0.mk hfw
      have HE2 := Aside0.mk hE2
      have HTK := Aside0.mk htk
      have HTM := Aside0.mk htm
      have hkc : (kk : Int) ≤ (c : Int) := by omega
      clear ht hte hwr hfw hE2 htk htm
      obtain ⟨z, hz⟩ : ∃ z, wrongT (xs.take kk) t = z := ⟨_, rfl⟩
      rw [hz] at HWR HFW HE2
      have HZ := Aside0.mk hz
      clear hz
      go_wp2
      have hG0 := HGX.out wr.drew (HB.out.trans (below_drew1 (Below.refl _ _) |>.mono HB.out.size))
      refine sX (ds := []) (S := fun w' => w'.cell? (ad.add (kk * 7)) = some (.string t.f0) ∧ w'.cell? ⟨(ad.add (kk * 7)).block, (ad.add (kk * 7)).off + 1, none⟩ = some (.int .i64 t.f1.f0) ∧ w'.cell? ⟨(ad.add (kk * 7)).block, (ad.add (kk * 7)).off + 2, none⟩ = some (.int .i64 t.f1.f1) ∧ w'.cell? ⟨(ad.add (kk * 7)).block, (ad.add (kk * 7)).off + 3, none⟩ = some (.int .i64 t.f1.f2) ∧ w'.cell? ⟨(ad.add (kk * 7)).block, (ad.add (kk * 7)).off + 4, none⟩ = some (.string t.f1.f3) ∧ w'.cell? ⟨(ad.add (kk * 7)).block, (ad.add (kk * 7)).off + 5, none⟩ = some (.string t.f1.f4) ∧ w'.cell? ⟨(ad.add (kk * 7)).block, (ad.add (kk * 7)).off + 6, none⟩ = some (.string t.f2)) rtt.tab5 rtt.bits5 hG0 (fun HT_ HW_ hHeld => ?_)
      have HB1 := Aside0.mk (below_drew1 HB.out)
      clear hG0
      generalize wr.drew = W1 at HB1 hHeld ⊢
      refine pX HT_ 0 1 13 ?_
      refine pX HT_ 1 3 14 ?_
      refine pX HT_ 2 7 15 ?_
      refine pX HT_ 3 15 16 ?_
      refine pX HT_ 4 31 17 ?_
      refine pX HT_ 5 63 18 ?_
      refine tX HT_ HW_ hHeld 6 127 19 ?_
      refine gX HT_ 7 255 20 Tryz.func23 (HWR.out _ HB1.out) ?_
      rintro e W2 ⟨rfl, hb⟩
      have HB2 := Aside0.mk (below_step HB1.out hb)
      clear hb hHeld
      refine ⟨_, rfl, _, nX, HGX.out W2 HB2.out, fun hHeld => ?_⟩
      refine pX HT_ 8 511 6 ?_
      refine eX HT_ ?_
      clear HT_ HW_ hHeld
      by_cases hz : z = 0
      · have HZ0 := Aside0.mk hz
        have hzb : (z != 0) = false := by rw [hz]; rfl
        have HW0 := Aside0.mk (HZ.out.trans hz)
        have hL : (textB (xs.take (kk + 1))).length ≤ 24000 := fw_small (HFW.out.trans hz) (fun t ht => HS.out t (List.mem_of_mem_take ht)) (by rw [List.length_take]; have := HL.out; omega)
        have hB : textB (xs.take (kk + 1)) = textB (xs.take kk) ++ (lineT t ++ [10]) := by rw [HTK.out]; unfold textB; rw [List.flatMap_append]; (try simp)
        have hv := (wrongT_ok.1 HW0.out).2.1
        have htx := textV_ok (show verOk t.f1.f0 t.f1.f1 t.f1.f2 t.f1.f3 t.f1.f4 = true from hv)
        obtain ⟨tv, htv⟩ : ∃ tv, textV t.f1.f0 t.f1.f1 t.f1.f2 t.f1.f3 t.f1.f4 = tv := ⟨_, rfl⟩
        have HTV := Aside0.mk (fun W => rtext_calls t.f1.f0 t.f1.f1 t.f1.f2 t.f1.f3 t.f1.f4 W)
        rw [htv] at HTV htx
        have hs0 : s.data.toList = textB (xs.take kk) := by rw [HTX.out]; exact ba_data _
        have hN : textB (xs.take (kk + 1)) = s.data.toList ++ (t.f0.data.toList ++ 32 :: (tv.data.toList ++ 32 :: t.f2.data.toList) ++ [10]) := by rw [hB, hs0, htx]; rfl
        have hsz : s.size + (t.f0.size + (tv.size + t.f2.size)) ≤ 24000 := by
          rw [hN] at hL
          simp only [List.length_append, List.length_cons, List.length_nil, ← Lib.size_eq] at hL
          omega
        have HNX := Aside0.mk hN
        clear hz hL hB hv htx htv hs0 hN
        go_wp2
        refine sX (ds := []) (S := fun w' => w'.cell? (ad.add (kk * 7)) = some (.string t.f0) ∧ w'.cell? ⟨(ad.add (kk * 7)).block, (ad.add (kk * 7)).off + 1, none⟩ = some (.int .i64 t.f1.f0) ∧ w'.cell? ⟨(ad.add (kk * 7)).block, (ad.add (kk * 7)).off + 2, none⟩ = some (.int .i64 t.f1.f1) ∧ w'.cell? ⟨(ad.add (kk * 7)).block, (ad.add (kk * 7)).off + 3, none⟩ = some (.int .i64 t.f1.f2) ∧ w'.cell? ⟨(ad.add (kk * 7)).block, (ad.add (kk * 7)).off + 4, none⟩ = some (.string t.f1.f3) ∧ w'.cell? ⟨(ad.add (kk * 7)).block, (ad.add (kk * 7)).off + 5, none⟩ = some (.string t.f1.f4) ∧ w'.cell? ⟨(ad.add (kk * 7)).block, (ad.add (kk * 7)).off + 6, none⟩ = some (.string t.f2)) rtt.tab8 rtt.bits8 (HGX.out _ (below_drew1 HB2.out)) (fun HT_ HW_ hHeld => ?_)
        have HB3 := Aside0.mk (below_drew1 HB2.out)
        clear HB1 HB2
        generalize W2.drew = W3 at HB3 hHeld ⊢
        refine pX HT_ 0 1 24 ?_
        refine pX HT_ 1 3 25 ?_
        refine pX HT_ 2 7 26 ?_
        refine pX HT_ 3 15 27 ?_
        refine pX HT_ 4 31 28 ?_
        refine pX HT_ 8 287 32 ?_
        refine pX HT_ 9 799 33 ?_
        refine pX HT_ 10 1823 34 ?_
        refine pX HT_ 11 3871 35 ?_
        refine pX HT_ 16 69407 40 ?_
        refine pX HT_ 17 200479 41 ?_
        refine pX HT_ 18 462623 42 ?_
        refine pX HT_ 19 986911 43 ?_
        refine tX HT_ HW_ hHeld 5 986943 29 ?_
        obtain ⟨f1a, f1b, f1c⟩ := cat_ok (n := s.size + t.f0.size) (by omega)
        refine pX HT_ 6 987007 30 ?_
        clear f1a f1b f1c
        have s1 : (s ++ t.f0).size ≤ 25000 := by rw [ByteArray.size_append]; (try simp only [show (⟨#[32]⟩ : ByteArray).size = 1 from rfl, show (⟨#[10]⟩ : ByteArray).size = 1 from rfl]); omega
        obtain ⟨x1, E1⟩ : ∃ y, s ++ t.f0 = y := ⟨_, rfl⟩
        rw [E1] at s1 ⊢
        have HE1 := Aside0.mk E1
        clear E1
        obtain ⟨f2a, f2b, f2c⟩ := cat_ok (n := x1.size + 1) (by omega)
        refine pX HT_ 7 987135 31 ?_
        clear f2a f2b f2c
        have s2 : (x1 ++ (⟨#[32]⟩ : ByteArray)).size ≤ 50000 := by rw [ByteArray.size_append]; (try simp only [show (⟨#[32]⟩ : ByteArray).size = 1 from rfl, show (⟨#[10]⟩ : ByteArray).size = 1 from rfl]); omega
        obtain ⟨x2, E2⟩ : ∃ y, x1 ++ (⟨#[32]⟩ : ByteArray) = y := ⟨_, rfl⟩
        rw [E2] at s2 ⊢
        have HE2 := Aside0.mk E2
        clear E2
        refine tX HT_ HW_ hHeld 12 991231 36 ?_
        refine tX HT_ HW_ hHeld 20 2039807 44 ?_
        refine gX HT_ 13 2047999 37 Tryz.func24 (HTV.out W3) ?_
        rintro e W4 ⟨rfl, hb⟩
        have HB4 := Aside0.mk (below_step HB3.out hb)
        clear hb hHeld
        refine ⟨_, rfl, _, nX, HGX.out W4 HB4.out, fun hHeld => ?_⟩
        obtain ⟨f3a, f3b, f3c⟩ := cat_ok (n := x2.size + tv.size) (by omega)
        refine pX HT_ 14 2064383 38 ?_
        clear f3a f3b f3c
        have s3 : (x2 ++ tv).size ≤ 75000 := by rw [ByteArray.size_append]; (try simp only [show (⟨#[32]⟩ : ByteArray).size = 1 from rfl, show (⟨#[10]⟩ : ByteArray).size = 1 from rfl]); omega
        obtain ⟨x3, E3⟩ : ∃ y, x2 ++ tv = y := ⟨_, rfl⟩
        rw [E3] at s3 ⊢
        have HE3 := Aside0.mk E3
        clear E3
        obtain ⟨f4a, f4b, f4c⟩ := cat_ok (n := x3.size + 1) (by omega)
        refine pX HT_ 15 2097151 39 ?_
        clear f4a f4b f4c
        have s4 : (x3 ++ (⟨#[32]⟩ : ByteArray)).size ≤ 100000 := by rw [ByteArray.size_append]; (try simp only [show (⟨#[32]⟩ : ByteArray).size = 1 from rfl, show (⟨#[10]⟩ : ByteArray).size = 1 from rfl]); omega
        obtain ⟨x4, E4⟩ : ∃ y, x3 ++ (⟨#[32]⟩ : ByteArray) = y := ⟨_, rfl⟩
        rw [E4] at s4 ⊢
        have HE4 := Aside0.mk E4
        clear E4
        obtain ⟨f5a, f5b, f5c⟩ := cat_ok (n := x4.size + t.f2.size) (by omega)
        refine pX HT_ 21 4194303 45 ?_
        clear f5a f5b f5c
        have s5 : (x4 ++ t.f2).size ≤ 125000 := by rw [ByteArray.size_append]; (try simp only [show (⟨#[32]⟩ : ByteArray).size = 1 from rfl, show (⟨#[10]⟩ : ByteArray).size = 1 from rfl]); omega
        obtain ⟨x5, E5⟩ : ∃ y, x4 ++ t.f2 = y := ⟨_, rfl⟩
        rw [E5] at s5 ⊢
        have HE5 := Aside0.mk E5
        clear E5
        obtain ⟨f6a, f6b, f6c⟩ := cat_ok (n := x5.size + 1) (by omega)
        refine pX HT_ 22 8388607 46 ?_
        clear f6a f6b f6c
        have s6 : (x5 ++ (⟨#[10]⟩ : ByteArray)).size ≤ 150000 := by rw [ByteArray.size_append]; (try simp only [show (⟨#[32]⟩ : ByteArray).size = 1 from rfl, show (⟨#[10]⟩ : ByteArray).size = 1 from rfl]); omega
        obtain ⟨x6, E6⟩ : ∃ y, x5 ++ (⟨#[10]⟩ : ByteArray) = y := ⟨_, rfl⟩
        rw [E6] at s6 ⊢
        have HE6 := Aside0.mk E6
        clear E6
        refine pX HT_ 23 16777215 4 ?_
        refine eX HT_ ?_
        clear HT_ HW_ hHeld s1 s2 s3 s4 s5 s6 hsz
        have HNX2 : Aside0 (x6 = ba (textB (xs.take (kk + 1)))) := ⟨by_data (by
          rw [HNX.out, ba_data, ← HE6.out, ← HE5.out, ← HE4.out, ← HE3.out, ← HE2.out, ← HE1.out]
          simp only [ByteArray.data_append, Array.toList_append, List.append_assoc, List.cons_append, List.nil_append]
          (try rfl))⟩
        clear HE1 HE2 HE3 HE4 HE5 HE6
        go_wp2
        go_roundg (n - (kk + 1))
        case measure => omega
        case rel => exact ⟨kk + 1, x6, by omega, by omega, by go_num, rfl, HNX2, ⟨HFW.out.trans HZ0.out⟩, HB4⟩
      · have hzb : (z != 0) = true := bne_iff_ne.mpr hz
        have HEZ := Aside0.mk (HE2.out hz)
        have HNZ := Aside0.mk hz
        clear hz
        go_wp2
        go_ret2
        have hR0 : R = ⟨#[]⟩ := HRR.out.trans (if_neg (by rw [HEZ.out]; exact HNZ.out))
        exact ⟨by rw [hR0, HEZ.out]; rfl, HB2.out⟩
    · have hltz : ¬ (kk : Int) < (n : Int) := by omega
      have : kk = n := by omega
      subst this
      have hE0 : E = 0 := by
        have h1 := HF.out
        rw [HN.out, List.take_length] at h1
        exact HE.out.trans h1
      have HE0 := Aside0.mk hE0
      have HT0 : Aside0 (s = ba (textB xs)) := ⟨by have h1 := HTX.out; rwa [HN.out, List.take_length] at h1⟩
      clear hE0
      go_wp2
      go_ret2
      have hR0 : R = s := (HRR.out.trans (if_pos HE0.out)).trans HT0.out.symm
      exact ⟨by rw [hR0, HE0.out]; rfl, HB.out⟩
def armadaref15_Text.f (l : List Tg) : Option (ByteArray × Int) := if l.length ≤ 60 ∧ ∀ t ∈ l, t.f2.size ≤ 200 then some (txtT l) else none
theorem armadaref15_Text.calls (A0 : Option Addr) (c0 : Nat) (l0 : List Tg) (r1 : ByteArray) (r2 : Int) (w : World) (hr0 : Kd.C k32 w A0 l0.length l0) (hc0 : l0.length ≤ c0) (h : armadaref15_Text.f l0 = some (r1, r2)) :
    Calls Tryz.prog 11 #[.slice A0 l0.length c0] w fun e w' => e = .returned (.tuple #[.string r1, .int .i64 r2]) ∧ Below w.heap.size w w' := by
  unfold armadaref15_Text.f at h
  split at h
  · rename_i hb
    have h2 := Option.some.inj h
    have := rtextl_calls A0 c0 l0 w hr0 hc0 hb.2 hb.1
    unfold txtT at h2
    by_cases h0 : firstWrong [] l0 = 0
    · rw [if_pos h0] at h2 this
      obtain ⟨rfl, rfl⟩ := Prod.mk.inj h2
      rw [h0] at this
      exact this
    · rw [if_neg h0] at h2 this
      obtain ⟨rfl, rfl⟩ := Prod.mk.inj h2
      exact this
  · cases h
end Go.Proofs.YtjdhdjmdmnedfaaGreatDoor
end

section
namespace Go.Proofs.YtjdhdjmdmnedfaaGreatDoor
open Go Go.RowKit Go.Deep Go.WideShapes Go.Proofs.YtjdhdjmdmnedfaaGreatDoorW.PrintWords Go.Proofs.YtjdhdjmdmnedfaaGreatDoor.K0
set_option linter.unusedVariables false
section
variable {H : Type} (enc : TypeId × Value → H) (P : Program) (w : World) (base : Nat) (spare : Nat → Bool) (held : Bool)
/-- Whatever reads as a datum of a type reads by a kind. -/
def Opens {α : Type} (t : TypeId) (d : Kd α) : Prop := ∀ (fuel : Nat) (cs : List Value) (x : DataW H × List MemPlace), DataW.trod enc P w base spare held fuel t cs = some x → ∃ a : α, d.K w a cs
variable {enc P w base spare held}
theorem opens_int {t : TypeId} {k : IntKind} (ht : P.underlying t = some (.int k)) : Opens enc P w base spare held t (Kd.int k) := by
  intro fuel cs x h
  obtain ⟨z, e, _⟩ := DataW.trod_int ht h
  exact ⟨z, e⟩
theorem opens_str {t : TypeId} (ht : P.underlying t = some .string) : Opens enc P w base spare held t Kd.string := by
  intro fuel cs x h
  obtain ⟨z, e, _⟩ := DataW.trod_string ht h
  exact ⟨z, e⟩
theorem opens_iso {α β : Type} {t : TypeId} {d : Kd α} (f : β → α) (g : α → β) (hg : ∀ a, f (g a) = a) (h : Opens enc P w base spare held t d) : Opens enc P w base spare held t (Kd.iso d f) := by
  intro fuel cs x hx
  obtain ⟨a, ha⟩ := h fuel cs x hx
  exact ⟨g a, by show d.K w (f (g a)) cs; rw [hg]; exact ha⟩
theorem opens_slice {α : Type} [Inhabited α] {t e : TypeId} {d : Kd α} (ht : P.underlying t = some (.slice e)) (hc : P.cellsOf e = d.sz) (he : Opens enc P w base spare held e d) : Opens enc P w base spare held t (Kd.slice e d) := by
  intro fuel cs x h
  rcases open_slice ht h with ⟨rfl, _⟩ | ⟨a, len, cap, m, n, D, Pl, rfl, _, hl, hm, hmm, _, hx⟩
  · exact ⟨[], none, 0, rfl, Nat.le_refl _, Kd.C_nil _ _⟩
  · have hle : len ≤ m := by rw [hmm]; split <;> omega
    obtain ⟨f, hf⟩ := choose_lt (α := α) (n := len) (p := fun i y => ∃ c : List Value, c.length = d.sz ∧ d.K w y c ∧ ∀ (j : Nat) (u : Value), c[j]? = some u → w.cell? (a.add (i * d.sz + j)) = some u) (fun i hi => by
      obtain ⟨cs', h1, h2⟩ := hx i (by omega)
      obtain ⟨y, hy⟩ := he n cs' _ h2
      obtain ⟨_, hlen, hcell⟩ := World.cells?_some h1
      rw [hc] at hlen hcell
      refine ⟨y, cs', hlen, hy, fun j u hu => ?_⟩
      have hj := (List.getElem?_eq_some_iff.1 hu).1
      have := hcell j (by omega)
      rw [Deep.add_add] at this
      rw [this, hu])
    refine ⟨(List.range len).map f, some a, cap, by simp, by simpa using hl, ?_⟩
    rw [List.length_map, List.length_range]
    refine ⟨by simp, by have : maxLen = 9223372036854775807 := rfl
                        omega, fun _ => ⟨a, rfl, fun j p hp => ?_⟩⟩
    have hj : j < len := by have := (List.getElem?_eq_some_iff.1 hp).1; simpa using this
    rw [List.getElem?_map, List.getElem?_range hj] at hp
    obtain rfl : f j = p := by simpa using hp
    exact hf j hj
/-- Fields from a place on, one behind the other. -/
theorem opens_pair {α β : Type} {d0 : Kd α} {d1 : Kd β} {cs : List Value} (hl : cs.length = d0.sz + d1.sz) (h0 : ∃ a, d0.K w a (cs.take d0.sz)) (h1 : ∃ b, d1.K w b (cs.drop d0.sz)) : ∃ x, (Kd.pair d0 d1).K w x cs := by
  obtain ⟨a, ha⟩ := h0
  obtain ⟨b, hb⟩ := h1
  exact ⟨(a, b), cs.take d0.sz, cs.drop d0.sz, (List.take_append_drop _ _).symm, ha, hb⟩
theorem opens_three {α β γ : Type} {t : TypeId} {f0 f1 f2 : Field} {d0 : Kd α} {d1 : Kd β} {d2 : Kd γ} (ht : P.underlying t = some (.struct #[f0, f1, f2])) (hC : P.cellsOf t = d0.sz + (d1.sz + d2.sz))
    (ho : f0.offset = 0 ∧ f1.offset = d0.sz ∧ f2.offset = d0.sz + d1.sz) (hk : P.cellsOf f0.type = d0.sz ∧ P.cellsOf f1.type = d1.sz ∧ P.cellsOf f2.type = d2.sz)
    (h0 : Opens enc P w base spare held f0.type d0) (h1 : Opens enc P w base spare held f1.type d1) (h2 : Opens enc P w base spare held f2.type d2) : Opens enc P w base spare held t (Kd.pair d0 (Kd.pair d1 d2)) := by
  intro fuel cs x h
  obtain ⟨xs, n, _, _, hl, hxl, hg⟩ := DataW.trod_struct ht h
  have hs : xs.length = 3 := hxl
  have e0 := hg 0 f0 rfl
  have e1 := hg 1 f1 rfl
  have e2 := hg 2 f2 rfl
  rw [List.getElem?_eq_getElem (by omega)] at e0 e1 e2
  rw [hC] at hl
  rw [ho.1, hk.1, List.drop_zero] at e0
  rw [ho.2.1, hk.2.1] at e1
  rw [ho.2.2, hk.2.2, ← List.drop_drop, List.take_of_length_le (by rw [List.length_drop, List.length_drop]; omega)] at e2
  exact opens_pair hl (h0 _ _ _ e0) (opens_pair (by rw [List.length_drop]; omega) (h1 _ _ _ e1) (h2 _ _ _ e2))
theorem opens_five {α β γ δ ε : Type} {t : TypeId} {f0 f1 f2 f3 f4 : Field} {d0 : Kd α} {d1 : Kd β} {d2 : Kd γ} {d3 : Kd δ} {d4 : Kd ε} (ht : P.underlying t = some (.struct #[f0, f1, f2, f3, f4])) (hC : P.cellsOf t = d0.sz + (d1.sz + (d2.sz + (d3.sz + d4.sz))))
    (ho : f0.offset = 0 ∧ f1.offset = d0.sz ∧ f2.offset = d0.sz + d1.sz ∧ f3.offset = d0.sz + d1.sz + d2.sz ∧ f4.offset = d0.sz + d1.sz + d2.sz + d3.sz)
    (hk : P.cellsOf f0.type = d0.sz ∧ P.cellsOf f1.type = d1.sz ∧ P.cellsOf f2.type = d2.sz ∧ P.cellsOf f3.type = d3.sz ∧ P.cellsOf f4.type = d4.sz)
    (h0 : Opens enc P w base spare held f0.type d0) (h1 : Opens enc P w base spare held f1.type d1) (h2 : Opens enc P w base spare held f2.type d2) (h3 : Opens enc P w base spare held f3.type d3) (h4 : Opens enc P w base spare held f4.type d4) :
    Opens enc P w base spare held t (Kd.pair d0 (Kd.pair d1 (Kd.pair d2 (Kd.pair d3 d4)))) := by
  intro fuel cs x h
  obtain ⟨xs, n, _, _, hl, hxl, hg⟩ := DataW.trod_struct ht h
  have hs : xs.length = 5 := hxl
  have e0 := hg 0 f0 rfl
  have e1 := hg 1 f1 rfl
  have e2 := hg 2 f2 rfl
  have e3 := hg 3 f3 rfl
  have e4 := hg 4 f4 rfl
  rw [List.getElem?_eq_getElem (by omega)] at e0 e1 e2 e3 e4
  rw [hC] at hl
  rw [ho.1, hk.1, List.drop_zero] at e0
  rw [ho.2.1, hk.2.1] at e1
  rw [ho.2.2.1, hk.2.2.1, ← List.drop_drop] at e2
  rw [ho.2.2.2.1, hk.2.2.2.1, ← List.drop_drop, ← List.drop_drop] at e3
  rw [ho.2.2.2.2, hk.2.2.2.2, ← List.drop_drop, ← List.drop_drop, ← List.drop_drop, List.take_of_length_le (by simp only [List.length_drop]; omega)] at e4
  exact opens_pair hl (h0 _ _ _ e0) (opens_pair (by show _ = d1.sz + (d2.sz + (d3.sz + d4.sz)); simp only [List.length_drop]; omega) (h1 _ _ _ e1) (opens_pair (by show _ = d2.sz + (d3.sz + d4.sz); simp only [List.length_drop]; omega) (h2 _ _ _ e2) (opens_pair (by show _ = d3.sz + d4.sz; simp only [List.length_drop]; omega) (h3 _ _ _ e3) (h4 _ _ _ e4))))
/-- A slice that was handed in. -/
theorem arg_slice {α : Type} [Inhabited α] {t e : TypeId} {d : Kd α} {r : Reach} {b0 : Nat} {v : Value} {x : DataW H} {p : List MemPlace} (ht : P.underlying t = some (.slice e)) (hc : P.cellsOf e = d.sz) (he : Opens enc P w base spare held e d)
    (hv : Value.okWide P w r b0 t v) (h : DataW.Trod enc P w base spare held t v x p) : ∃ (A : Option Addr) (c : Nat) (xs : List α), v = .slice A xs.length c ∧ xs.length ≤ c ∧ Kd.C d w A xs.length xs := by
  obtain ⟨a, len, cap, rfl⟩ := okWide_slice ht hv
  obtain ⟨fuel, hf⟩ := h
  obtain ⟨xs, A, c, e, h1, h2⟩ := opens_slice ht hc he fuel _ _ hf
  have e2 : Value.slice a len cap = .slice A xs.length c := (List.cons.inj e).1
  exact ⟨A, c, xs, e2, h1, h2⟩
end
section
variable {H : Type} {enc : TypeId × Value → H} {w : World} {base : Nat} {spare : Nat → Bool} {held : Bool}
set_option maxRecDepth 100000 in
theorem opens_ver : Opens enc Tryz.prog w base spare held 30 k30 :=
  opens_iso _ (fun a => ⟨a.1, a.2.1, a.2.2.1, a.2.2.2.1, a.2.2.2.2⟩) (fun _ => rfl) (opens_five (d0 := Kd.int .i64) (d1 := Kd.int .i64) (d2 := Kd.int .i64) (d3 := Kd.string) (d4 := Kd.string) Tryz.underlying30 (by kernel_rfl) ⟨rfl, rfl, rfl, rfl, rfl⟩ ⟨by kernel_rfl, by kernel_rfl, by kernel_rfl, by kernel_rfl, by kernel_rfl⟩
    (opens_int Tryz.underlying3) (opens_int Tryz.underlying3) (opens_int Tryz.underlying3) (opens_str Tryz.underlying9) (opens_str Tryz.underlying9))
set_option maxRecDepth 100000 in
theorem opens_tag : Opens enc Tryz.prog w base spare held 32 k32 :=
  opens_iso _ (fun a => ⟨a.1, a.2.1, a.2.2⟩) (fun _ => rfl) (opens_three (d0 := Kd.string) (d1 := k30) (d2 := Kd.string) Tryz.underlying32 (by kernel_rfl) ⟨rfl, rfl, rfl⟩ ⟨by kernel_rfl, by kernel_rfl, by kernel_rfl⟩
    (opens_str Tryz.underlying9) opens_ver (opens_str Tryz.underlying9))
instance : Inhabited S32 := ⟨z32⟩
set_option maxRecDepth 100000 in
/-- Tags that were handed in. -/
theorem arg_tags {r : Reach} {b0 : Nat} {v : Value} {x : DataW H} {p : List MemPlace} (hv : Value.okWide Tryz.prog w r b0 23 v) (h : DataW.Trod enc Tryz.prog w base spare held 23 v x p) :
    ∃ (A : Option Addr) (c : Nat) (xs : List S32), v = .slice A xs.length c ∧ xs.length ≤ c ∧ Kd.C k32 w A xs.length xs := arg_slice Tryz.underlying23 (by kernel_rfl) opens_tag hv h
set_option maxRecDepth 100000 in
/-- A tag that was handed in. -/
theorem arg_tag {r : Reach} {b0 : Nat} {v : Value} {x : DataW H} {p : List MemPlace} (hv : Value.okWide Tryz.prog w r b0 32 v) (h : DataW.Trod enc Tryz.prog w base spare held 32 v x p) :
    ∃ (a0 : ByteArray) (a1 a2 a3 : Int) (a4 a5 a6 : ByteArray), v = .agg #[.string a0, .int .i64 a1, .int .i64 a2, .int .i64 a3, .string a4, .string a5, .string a6] := by
  obtain ⟨cs, rfl, hsz⟩ := okWide_struct Tryz.underlying32 hv
  obtain ⟨fuel, hf⟩ := h
  obtain ⟨t, ht⟩ := opens_tag fuel _ _ hf
  have e := k32_open ht
  refine ⟨t.f0, t.f1.f0, t.f1.f1, t.f1.f2, t.f1.f3, t.f1.f4, t.f2, ?_⟩
  have e2 : cs.toList = _ := e
  rw [← Array.toArray_toList (xs := cs), e2]
end
end Go.Proofs.YtjdhdjmdmnedfaaGreatDoor
end
