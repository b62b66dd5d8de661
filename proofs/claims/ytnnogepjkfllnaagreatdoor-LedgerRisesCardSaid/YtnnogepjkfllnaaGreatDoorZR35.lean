/- The texts LText in one file, without what this claim does not use (put together by prune.py). -/
import Derived.Test.YtnnogepjkfllnaaGreatDoorZR34
import Derived.Test.YtnnogepjkfllnaaGreatDoorZR20
section
namespace Go.Proofs.YtnnogepjkfllnaaGreatDoor
open Go Go.RowKit Go.Proofs Go.Proofs.YtnnogepjkfllnaaGreatDoorW.PrintWords Go.Proofs.YtnnogepjkfllnaaGreatDoorW.PrintLast Go.Proofs.YtnnogepjkfllnaaGreatDoorW.PrintMore Go.Proofs.YtnnogepjkfllnaaGreatDoor.K0 Go.Proofs.YtnnogepjkfllnaaGreatDoor.R1 Go.Proofs.YtnnogepjkfllnaaGreatDoor.R2 Go.Proofs.YtnnogepjkfllnaaGreatDoor.R3 Go.Proofs.YtnnogepjkfllnaaGreatDoor.R4 Go.Proofs.YtnnogepjkfllnaaGreatDoor.R5
set_option linter.unusedVariables false
set_option linter.unusedSimpArgs false
/-- A tag as it is held to be told as a line. -/
def encTel (t : Tg) : Value := .iface 55 (.agg (tcells t).toArray)
def kTel : Kd Tg := Kd.scalar encTel (fun _ => rfl)
theorem tel_at {w : World} {A : Option Addr} {n : Nat} {xs : List Tg} (h : Kd.C kTel w A n xs) {k : Nat} {t : Tg} (hk : xs[k]? = some t) (hn : k < n) : ∃ ad, A = some ad ∧ w.cell? (ad.add k) = some (encTel t) := by
  obtain ⟨ad, hA, hc⟩ := ReadsOf.at_ (Kd.reads_of_C (enc := encTel) (d := t) (h1 := fun _ => rfl) h) (k : Int) (by omega) (by omega)
  refine ⟨ad, hA, ?_⟩
  have e : rdOf t xs (k : Int) = t := by
    unfold rdOf
    rw [Int.toNat_natCast, List.getD_eq_getElem?_getD, hk]; rfl
  rw [e, Int.toNat_natCast] at hc
  exact hc
theorem line_f (t : Tg) (hv : tver t = true) (h0 : t.f0.size ≤ 140737488355328) (h2 : t.f2.size ≤ 140737488355328) : ledger_tag_line.f 102 t.f0 t.f1.f0 t.f1.f1 t.f1.f2 t.f1.f3 t.f1.f4 t.f2 = some (ba (lineT t ++ [10])) := by
  have hv' : verOk t.f1.f0 t.f1.f1 t.f1.f2 t.f1.f3 t.f1.f4 = true := hv
  have hl := bytesV_len hv'
  obtain ⟨P, hP⟩ : ∃ P, t.f0 = ba P := ⟨t.f0.data.toList, rfl⟩
  obtain ⟨H, hH⟩ : ∃ H, t.f2 = ba H := ⟨t.f2.data.toList, rfl⟩
  unfold ledger_tag_line.f lineT
  rw [text_f _ _ _ _ _ 102 (by decide)]
  unfold textV
  rw [if_pos hv']
  rw [hP, ba_size] at h0
  rw [hH, ba_size] at h2
  simp only [Option.bind_some, hP, hH, ba_one, ba_add, ba_size, ba_data, List.length_append, List.length_cons, List.length_nil]
  generalize bytesV t.f1.f0.toNat t.f1.f1.toNat t.f1.f2.toNat t.f1.f3.data.toList t.f1.f4.data.toList = B at hl ⊢
  rw [if_pos (by omega), if_pos (by omega), if_pos (by omega), if_pos (by omega), if_pos (by omega)]
  simp
theorem line_calls (t : Tg) (hv : tver t = true) (h0 : t.f0.size ≤ 140737488355328) (h2 : t.f2.size ≤ 140737488355328) (w : World) (hG : GW w) :
    Calls Tryz.prog 184 #[.agg #[.string t.f0, .int .i64 t.f1.f0, .int .i64 t.f1.f1, .int .i64 t.f1.f2, .string t.f1.f3, .string t.f1.f4, .string t.f2]] w fun e w' => e = .returned (.string (ba (lineT t ++ [10]))) ∧ Below w.heap.size w w' :=
  ledger_tag_line.calls 102 _ _ _ _ _ _ _ _ w hG (line_f t hv h0 h2)
theorem textB_take {xs : List Tg} {k : Nat} {t : Tg} (h : xs[k]? = some t) : textB (xs.take (k + 1)) = textB (xs.take k) ++ (lineT t ++ [10]) := by
  unfold textB
  rw [List.take_add_one, h, List.flatMap_append]
  simp
theorem textB_le (xs : List Tg) (k : Nat) : (textB (xs.take k)).length ≤ (textB xs).length := by
  have e : textB xs = textB (xs.take k) ++ textB (xs.drop k) := by
    unfold textB
    rw [← List.flatMap_append, List.take_append_drop]
  rw [e, List.length_append]; omega
set_option maxRecDepth 100000 in
set_option maxHeartbeats 2000000 in
theorem lines_calls (A : Option Addr) (c : Nat) (xs : List Tg) (w : World) (hG : GW w) (hr : Kd.C kTel w A xs.length xs) (hok : ∀ t ∈ xs, tver t = true ∧ t.f0.size ≤ 140737488355328 ∧ t.f2.size ≤ 140737488355328) (hlen : (textB xs).length ≤ 140737488355328) :
    Calls Tryz.prog 29 #[.slice A xs.length c] w fun e w' => e = .returned (.string (ba (textB xs))) ∧ Below w.heap.size w w' := by
  have hbig := hr.2.1
  obtain ⟨n, hn⟩ : ∃ n, n = xs.length := ⟨_, rfl⟩
  rw [← hn] at hr hbig ⊢
  obtain ⟨L, hL⟩ : ∃ L, L = textB xs := ⟨_, rfl⟩
  rw [← hL] at hlen ⊢
  have HN := Aside0.mk hn
  have HL := Aside0.mk hL
  have HR := Aside0.mk hr
  have HG := Aside0.mk hG
  have HOK := Aside0.mk hok
  have HLE := Aside0.mk hlen
  clear hn hL hr hG hok hlen
  go_enter Tryz.func29, Tryz.ntmps29
  go_wp2
  go_loopg [5, 8] n (fun gg _ v8 wr => ∃ kk : Nat, kk ≤ n ∧ n - kk ≤ gg ∧ v8 = .int .i64 kk ∧ Aside0 (IsB w.heap.size w.heap.size (Lib.byteCells (textB (xs.take kk))) wr) ∧ Aside0 (Below w.heap.size w wr))
  case atStart => exact ⟨0, Nat.zero_le _, by omega, rfl, ⟨isB_new w⟩, ⟨below_alloc (Below.refl _ _) _⟩⟩
  case round =>
    obtain ⟨kk, hkk, hg, rfl, HI, HB⟩ := hrel
    by_cases hlt : kk < n
    · have hltz : (kk : Int) < (n : Int) := by omega
      obtain ⟨t, ht⟩ : ∃ t, xs[kk]? = some t := ⟨_, List.getElem?_eq_getElem (by have := HN.out; omega)⟩
      obtain ⟨ad, hA, h0⟩ := tel_at (Kd.C_below HR.out HB.out) ht hlt
      subst hA
      unfold encTel at h0
      obtain ⟨hv, hs0, hs2⟩ := HOK.out t (List.mem_of_getElem? ht)
      have hline := fun W hG => line_calls t hv hs0 hs2 W hG
      have htk := textB_take ht
      have hle := textB_le xs (kk + 1)
      rw [htk, ← HL.out, List.length_append] at hle
      have hwr := fun W (h : IsB w.heap.size w.heap.size (Lib.byteCells (textB (xs.take kk))) W) (h2 : w.heap.size ≤ W.heap.size) => bld_write w.heap.size w.heap.size _ (ba (lineT t ++ [10])) W h (by rw [ba_size, Lib.byteCells_length]; have := HLE.out; omega) h2
      rw [strCells_bytes, ba_data, ← htk] at hwr
      have m1 : ∀ d w, Sem.run Tryz.prog (method (d + 4) 55 (.agg (tcells t).toArray) "armada/ledger.line") w = .ok (184, .agg (tcells t).toArray) w := fun _ _ => by kernel_rfl
      have e1 : ∀ args w, (callFunc 184 args).run Tryz.prog w = .ok (.enter 184 args) w := enters_of Tryz.func184 (by kernel_rfl) rfl
      have HLI := Aside0.mk hline
      have HWR := Aside0.mk hwr
      have HG1 := Aside0.mk (HG.out.below HB.out)
      clear ht hv hs0 hs2 hline htk hle hwr
      go_wp2_with (first
        | (go_at_fn 184; (with_reducible refine (HLI.out _ HG1.out).mono ?_); rintro e w2 ⟨rfl, hb2⟩; have HI2 := Aside0.mk (HI.out.below hb2); have HB2 := Aside0.mk (below_step HB.out hb2); clear hb2)
        | (go_at_call 50; (with_reducible refine (HWR.out _ HI2.out HB2.out.size).mono ?_); rintro e w3 ⟨rfl, hi3, hb3⟩; have HI3 := Aside0.mk hi3; have HB3 := Aside0.mk (HB2.out.trans hb3); clear hi3 hb3))
      go_roundg (n - (kk + 1))
      case measure => omega
      case rel => exact ⟨kk + 1, by omega, by omega, by go_num, HI3, HB3⟩
    · have hltz : ¬ (kk : Int) < (n : Int) := by omega
      obtain rfl : kk = n := by omega
      have htk : xs.take kk = xs := List.take_of_length_le (by have := HN.out; omega)
      rw [htk, ← HL.out] at HI
      have hstr := fun W (h : IsB w.heap.size w.heap.size (Lib.byteCells L) W) (h2 : w.heap.size ≤ W.heap.size) => bld_string w.heap.size w.heap.size L W h h2
      clear htk
      go_wp2_with (go_at_call 51; (with_reducible refine (hstr _ HI.out HB.out.size).mono ?_); rintro e w2 ⟨rfl, hb2⟩)
      go_ret
      exact ⟨rfl, HB.out.trans hb2⟩
def ltext.T5 : Bool × List (List Nat × List Nat) := (true, [([], []), ([], []), ([0, 1], [0, 1]), ([], []), ([2, 3], [2, 3]), ([4, 4, 0, 1, 2, 3, 4], [4])])
def ltext.B5 : List Nat := [0, 0, 3, 0, 15, 31]
theorem ltext.tab5 : rtab .any (opsOf Tryz.f14 5) = ltext.T5 := by kernel_rfl
theorem ltext.bits5 : waitsOk ltext.T5.2 ltext.B5 = true := by kernel_rfl
theorem fw_bad : ∀ {a b acc : List Tg}, firstWrong acc a ≠ 0 → firstWrong acc (a ++ b) = firstWrong acc a
  | [], b, acc, h => absurd rfl h
  | x :: a, b, acc, h => by
    show (if wrongT acc x = 0 then firstWrong (acc ++ [x]) (a ++ b) else wrongT acc x) = (if wrongT acc x = 0 then firstWrong (acc ++ [x]) a else wrongT acc x)
    have h' : (if wrongT acc x = 0 then firstWrong (acc ++ [x]) a else wrongT acc x) ≠ 0 := h
    by_cases hx : wrongT acc x = 0
    · rw [if_pos hx] at h'
      rw [if_pos hx, if_pos hx, fw_bad h']
    · rw [if_neg hx, if_neg hx]
theorem C_take {α : Type} {d : Kd α} {w : World} {A : Option Addr} {xs : List α} {n : Nat} (h : Kd.C d w A n xs) (k : Nat) (hk : k ≤ n) : Kd.C d w A k (xs.take k) := by
  refine ⟨by rw [List.length_take]; have := h.1; omega, by have := h.2.1; omega, fun hp => ?_⟩
  obtain ⟨ad, e, hc⟩ := h.2.2 (by omega)
  refine ⟨ad, e, fun j p hj => hc j p ?_⟩
  rw [List.getElem?_take] at hj
  split at hj
  · exact hj
  · cases hj
structure TextMem (w W : World) (A : Option Addr) (g : Nat) (v : Value) (t : Tg) (xs ys : List Tg) : Prop where
  base : Below w.heap.size w W
  blk : W.heap[g]? = some (.cells (tcells t).toArray 32 (0, 0))
  row : Kd.R kTel 77 W w.heap.size (fun _ => True) v ys
theorem TextMem.cells {w W : World} {A : Option Addr} {g : Nat} {v : Value} {t : Tg} {xs ys : List Tg} (h : TextMem w W A g v t xs ys) :
    W.cell? ⟨g, 0, none⟩ = some (.string t.f0) ∧ W.cell? ⟨g, 1, none⟩ = some (.int .i64 t.f1.f0) ∧ W.cell? ⟨g, 2, none⟩ = some (.int .i64 t.f1.f1) ∧ W.cell? ⟨g, 3, none⟩ = some (.int .i64 t.f1.f2) ∧ W.cell? ⟨g, 4, none⟩ = some (.string t.f1.f3) ∧ W.cell? ⟨g, 5, none⟩ = some (.string t.f1.f4) ∧ W.cell? ⟨g, 6, none⟩ = some (.string t.f2) :=
  ⟨cell_of_heap h.blk 0, cell_of_heap h.blk 1, cell_of_heap h.blk 2, cell_of_heap h.blk 3, cell_of_heap h.blk 4, cell_of_heap h.blk 5, cell_of_heap h.blk 6⟩
theorem TextMem.below {w W W' : World} {A : Option Addr} {g : Nat} {v : Value} {t : Tg} {xs ys : List Tg} (h : TextMem w W A g v t xs ys) (hb : Below W.heap.size W W') : TextMem w W' A g v t xs ys :=
  ⟨below_step h.base hb, lm_step hb h.blk, Kd.R_below h.row hb⟩
set_option maxRecDepth 100000 in
set_option maxHeartbeats 4000000 in
theorem ltext_calls (A : Option Addr) (c : Nat) (xs : List Tg) (w : World) (hG : GW w) (hr : Kd.C k32 w A xs.length xs) (hc : xs.length ≤ c) (hs : ∀ t ∈ xs, t.f2.size ≤ 140737488355328) (hl88 : xs.length * 88 ≤ 140737488355328) (hlen : firstWrong [] xs = 0 → (textB xs).length ≤ 140737488355328) :
    Calls Tryz.prog 14 #[.slice A xs.length c] w fun e w' => e = .returned (.tuple #[.string (if firstWrong [] xs = 0 then ba (textB xs) else ⟨#[]⟩), .int .i64 (firstWrong [] xs)]) ∧ Below w.heap.size w w' := by
  have hbig := hr.2.1
  obtain ⟨n, hn⟩ : ∃ n, n = xs.length := ⟨_, rfl⟩
  rw [← hn] at hr hbig hc hl88 ⊢
  obtain ⟨E, hE⟩ : ∃ E, E = firstWrong [] xs := ⟨_, rfl⟩
  rw [← hE] at hlen ⊢
  have HN := Aside0.mk hn
  have HE := Aside0.mk hE
  have HR := Aside0.mk hr
  have HG := Aside0.mk hG
  have HS := Aside0.mk hs
  have HLE := Aside0.mk hlen
  have H88 := Aside0.mk hl88
  clear hn hE hr hG hs hlen hl88
  have hconc : Tryz.prog.concrete 55 = true := by kernel_rfl
  go_enter Tryz.func14, Tryz.ntmps14
  go_wp2
  go_loopg [4, 5, 7, 10] n (fun gg v4 _ _ v10 wr => ∃ kk : Nat, kk ≤ n ∧ n - kk ≤ gg ∧ v10 = .int .i64 kk ∧ Aside0 (Kd.R kTel 77 wr w.heap.size (fun _ => True) v4 (xs.take kk)) ∧ Aside0 (firstWrong [] (xs.take kk) = 0) ∧ Aside0 (Below w.heap.size w wr))
  case atStart => exact ⟨0, Nat.zero_le _, by omega, rfl, ⟨Kd.R_nil _ _ _ _ _⟩, ⟨rfl⟩, ⟨Below.refl _ _⟩⟩
  case round =>
    obtain ⟨kk, hkk, hg, rfl, HO, HF, HB⟩ := hrel
    by_cases hlt : kk < n
    · have hltz : (kk : Int) < (n : Int) := by omega
      obtain ⟨t, ht⟩ : ∃ t, xs[kk]? = some t := ⟨_, List.getElem?_eq_getElem (by have := HN.out; omega)⟩
      have hte : rd_T32 xs (kk : Int) = t := by
        unfold rd_T32
        rw [Int.toNat_natCast, List.getD_eq_getElem?_getD, ht]; rfl
      obtain ⟨ad, hA, h0, h1, h2, h3, h4, h5, h6⟩ := at_T32 (Kd.C_below HR.out HB.out) (kk : Int) (by omega) (by omega)
      subst hA
      rw [hte, Int.toNat_natCast] at h0 h1 h2 h3 h4 h5 h6
      have htk : xs.take (kk + 1) = xs.take kk ++ [t] := by rw [List.take_add_one, ht]; rfl
      have hfw : firstWrong [] (xs.take (kk + 1)) = wrongT (xs.take kk) t := by rw [htk, firstWrong_app HF.out]; rfl
      have hwr : ∀ W, Below w.heap.size w W → Calls Tryz.prog 25 #[.slice (some ad) kk c, .agg #[.string t.f0, .int .i64 t.f1.f0, .int .i64 t.f1.f1, .int .i64 t.f1.f2, .string t.f1.f3, .string t.f1.f4, .string t.f2]] W fun e w' => e = .returned (.int .i64 (wrongT (xs.take kk) t)) ∧ Below W.heap.size W w' := by
        intro W hb
        have hl : (xs.take kk).length = kk := by rw [List.length_take]; have := HN.out; omega
        have := wrong_calls (some ad) c (xs.take kk) t W (HG.out.below hb) (hl.symm ▸ C_take (Kd.C_below HR.out hb) kk hkk) (HS.out t (List.mem_of_getElem? ht))
        rwa [hl] at this
      have hE2 : wrongT (xs.take kk) t ≠ 0 → E = wrongT (xs.take kk) t := by
        intro hne
        have e : xs = xs.take (kk + 1) ++ xs.drop (kk + 1) := (List.take_append_drop _ _).symm
        exact HE.out.trans ((congrArg (firstWrong []) e).trans ((fw_bad (by rw [hfw]; exact hne)).trans hfw))
      have HWR := Aside0.mk hwr
      have HFW := Aside0.mk hfw
      have HE2 := Aside0.mk hE2
      have HTK := Aside0.mk htk
      have hkc : (kk : Int) ≤ (c : Int) := by omega
      clear ht hte hwr hfw hE2 htk
      obtain ⟨z, hz⟩ : ∃ z, wrongT (xs.take kk) t = z := ⟨_, rfl⟩
      rw [hz] at HWR HFW HE2
      clear hz
      go_wp2
      have hTM : TextMem w (wr.alloc (.cells #[.string t.f0, .int .i64 t.f1.f0, .int .i64 t.f1.f1, .int .i64 t.f1.f2, .string t.f1.f3, .string t.f1.f4, .string t.f2] 32)) (some ad) wr.heap.size u4 t xs (xs.take kk) := ⟨below_alloc HB.out _, heap_alloc_new _ _, Kd.R_alloc HO.out _⟩
      generalize (wr.alloc (.cells #[.string t.f0, .int .i64 t.f1.f0, .int .i64 t.f1.f1, .int .i64 t.f1.f2, .string t.f1.f3, .string t.f1.f4, .string t.f2] 32)) = W at hTM ⊢
      generalize wr.heap.size = g at hTM ⊢
      have HTM := Aside0.mk hTM
      clear hTM h0 h1 h2 h3 h4 h5 h6
      refine start_ (n := 6) (S := (fun w' => w'.cell? ⟨g, 0, none⟩ = some (.string t.f0) ∧ w'.cell? ⟨g, 1, none⟩ = some (.int .i64 t.f1.f0) ∧ w'.cell? ⟨g, 2, none⟩ = some (.int .i64 t.f1.f1) ∧ w'.cell? ⟨g, 3, none⟩ = some (.int .i64 t.f1.f2) ∧ w'.cell? ⟨g, 4, none⟩ = some (.string t.f1.f3) ∧ w'.cell? ⟨g, 5, none⟩ = some (.string t.f1.f4) ∧ w'.cell? ⟨g, 6, none⟩ = some (.string t.f2))) (ds := []) #[false, false, false, false, false, false] (by kernel_rfl) rfl rfl HTM.out.cells (fun hHeld => ?_); refine with_tabW ltext.tab5 ltext.bits5 (fun HT_ HW_ => ?_)
      have HTM1 := Aside0.mk (HTM.out.below (below_drew1 (Below.refl _ _)))
      generalize W.drew = W1 at HTM1 hHeld ⊢
      refine pure_ (i := 0) (N := some 15) (v := ?_) (a' := ?_) #[true, false, false, false, false, false] rfl rfl (any_of HT_.out (by kernel_rfl)) (fun _ _ _ h => h) (Or.inl ⟨by rfl, ?_⟩) ?_ ?_
      rotate_left
      ·
       intro w'
       go_simp
       with_reducible rfl
      rotate_left
      ·
       simp only [Act.put, List.setIfInBounds_toArray, List.set_cons_zero, List.set_cons_succ, i64_w, i32_w]
       rfl
      refine pure_ (i := 1) (N := some 16) (v := ?_) (a' := ?_) #[true, true, false, false, false, false] rfl rfl (any_of HT_.out (by kernel_rfl)) (fun _ _ _ h => h) (Or.inl ⟨by rfl, ?_⟩) ?_ ?_
      rotate_left
      ·
       intro w'
       go_simp
       with_reducible rfl
      rotate_left
      ·
       simp only [Act.put, List.setIfInBounds_toArray, List.set_cons_zero, List.set_cons_succ, i64_w, i32_w]
       rfl
      refine pure_ (i := 2) (N := some 17) (v := ?_) (a' := ?_) #[true, true, true, false, false, false] rfl rfl (any_of HT_.out (by kernel_rfl)) (fun _ _ _ h => h) (Or.inl ⟨by rfl, ?_⟩) ?_ ?_
      rotate_left
      ·
       intro w'
       go_simp
       with_reducible rfl
      rotate_left
      ·
       simp only [Act.put, List.setIfInBounds_toArray, List.set_cons_zero, List.set_cons_succ, i64_w, i32_w]
       rfl
      refine take_ (i := 3) (N := some 18) (v := ?_) (a' := ?_) #[true, true, true, true, false, false] rfl rfl (take_ofW HT_.out HW_.out (by kernel_rfl)) (fun _ _ _ h => h) (Or.inl ⟨by rfl, ?_⟩) hHeld ?_ ?_
      rotate_left
      ·
       rintro w' ⟨s0, s1, s2, s3, s4, s5, s6⟩
       go_simp
       with_reducible rfl
      rotate_left
      ·
       simp only [Act.put, List.setIfInBounds_toArray, List.set_cons_zero, List.set_cons_succ, i64_w, i32_w]
       rfl
      refine one_ (i := 4) (N := some 19) #[true, true, true, true, true, false] rfl rfl (one_of HT_.out (by kernel_rfl)) (by decide) (fun K hK => ?_)
      refine goes_ Tryz.func25 (by kernel_rfl) rfl #[.slice (some ad) kk c, .agg #[.string t.f0, .int .i64 t.f1.f0, .int .i64 t.f1.f1, .int .i64 t.f1.f2, .string t.f1.f3, .string t.f1.f4, .string t.f2]] (by rfl) rfl rfl (by (try simp only [List.map_toArray, List.map_cons, List.map_nil]); first | done | rfl) ?_
      with_reducible refine (HWR.out _ HTM1.out.base).mono ?_
      rintro e W2 ⟨rfl, hb⟩
      refine ⟨_, rfl, ?_⟩
      have HTM2 := Aside0.mk (HTM1.out.below hb)
      clear hb
      refine hK.out _ _ HTM2.out.cells (fun hHeld => ?_)
      clear hK K
      refine norm_ (a' := ?_) ?_ ?_
      rotate_left
      ·
       show Act.put _ (some 19) _ = _
       simp only [Act.put, List.setIfInBounds_toArray, List.set_cons_zero, List.set_cons_succ, i64_w, i32_w]
       rfl
      refine pure_ (i := 5) (N := some 7) (v := ?_) (a' := ?_) #[true, true, true, true, true, true] rfl rfl (any_of HT_.out (by kernel_rfl)) (fun _ _ _ h => h) (Or.inl ⟨by rfl, ?_⟩) ?_ ?_
      rotate_left
      ·
       intro w'
       go_simp
       with_reducible rfl
      rotate_left
      ·
       simp only [Act.put, List.setIfInBounds_toArray, List.set_cons_zero, List.set_cons_succ, i64_w, i32_w]
       rfl
      refine done_ (done_of HT_.out (by kernel_rfl)) ?_
      by_cases hz : z = 0
      · subst hz
        have hinf : (Tryz.prog.info? 77).map (fun i => (i.zero, i.size, i.bytes)) = some (some .nilIface, 1, 16) := by kernel_rfl
        obtain ⟨c0, c1, c2, c3, c4, c5, c6⟩ := HTM2.out.cells
        have hl16 : ((xs.take kk).length + 1) * 16 ≤ 140737488355328 := by rw [List.length_take]; have := H88.out; have := HN.out; omega
        have H16 := Aside0.mk hl16
        have HINF := Aside0.mk hinf
        clear hl16 hinf
        go_wp2_with (first
          | ((with_reducible refine gate_builtin (b := .append) (xs := #[.tmp 23, .tmp 27]) rfl ?_); at_builtin; refine Kd.R_append kTel (w0 := w) w.heap.size rfl (.tmp 23) (.tmp 27) 53 77 .nilIface 16 rfl Tryz.underlying53 HINF.out rfl (by decide) (by decide) u4 (xs.take kk) t [encTel t] (fun _ => True) (fun _ => False) rfl rfl ?aP (fun _ hk => hk.elim) ?aF ?aO ?aB ?aS ?aL ?_; (case aP => exact rfl); (case aB => exact HTM2.out.base); (case aF => exact (fun _ _ => trivial)); (case aO => exact HTM2.out.row); (case aS => exact below_size HTM2.out.base); (case aL => exact H16.out); intro v103 w9 ho hb hg hat; have HO3 := Aside0.mk ho; have HB3 := Aside0.mk hb; clear ho hb hg hat))
        go_roundg (n - (kk + 1))
        case measure => omega
        case rel => exact ⟨kk + 1, by omega, by omega, by go_num, ⟨by rw [HTK.out]; exact HO3.out⟩, HFW, HB3⟩
      · have hE2 := HE2.out hz
        subst hE2
        go_wp2
        go_ret2
        refine ⟨?_, HTM2.out.base⟩
        first | rfl | (rw [if_neg hz]; rfl)
    · have hltz : ¬ (kk : Int) < (n : Int) := by omega
      obtain rfl : kk = n := by omega
      have htk : xs.take kk = xs := List.take_of_length_le (by have := HN.out; omega)
      rw [htk] at HO HF
      have hE0 : E = 0 := HE.out.trans HF.out
      subst hE0
      have hok : ∀ t ∈ xs, tver t = true ∧ t.f0.size ≤ 140737488355328 ∧ t.f2.size ≤ 140737488355328 := fun t ht => by
        obtain ⟨m, hm⟩ := firstWrong_mem HF.out ht
        obtain ⟨h1, h2, _⟩ := wrongT_ok.1 hm
        exact ⟨h2, by have := check_size h1; omega, HS.out t ht⟩
      obtain ⟨Av, cv, hv, hcv, hCv⟩ := Kd.R_reads HO.out
      subst hv
      have hln := lines_calls Av cv xs wr (HG.out.below HB.out) hCv hok (HLE.out rfl)
      rw [← HN.out] at hln ⊢
      have HLN := Aside0.mk hln
      clear hok hcv hCv hln htk
      go_wp2_with (go_at_call 29; (with_reducible refine (HLN.out).mono ?_); rintro e w2 ⟨rfl, hb2⟩)
      go_ret2
      refine ⟨?_, below_step HB.out hb2⟩
      first | rfl | (rw [if_pos rfl]; rfl)
def ledger_Text.f (l : List Tg) : Option (ByteArray × Int) :=
  if l.length * 88 ≤ 140737488355328 then (if (l.all fun t => decide (t.f2.size ≤ 140737488355328)) = true then (if firstWrong [] l = 0 then (if (textB l).length ≤ 140737488355328 then some (ba (textB l), 0) else none) else some (⟨#[]⟩, firstWrong [] l)) else none) else none
theorem ledger_Text.calls (A0 : Option Addr) (c0 : Nat) (l0 : List Tg) (r1 : ByteArray) (r2 : Int) (w : World) (hr0 : Kd.C k32 w A0 l0.length l0) (hc0 : l0.length ≤ c0) (hG : GW w) (h : ledger_Text.f l0 = some (r1, r2)) :
    Calls Tryz.prog 14 #[.slice A0 l0.length c0] w fun e w' => e = .returned (.tuple #[.string r1, .int .i64 r2]) ∧ Below w.heap.size w w' := by
  unfold ledger_Text.f at h
  split at h
  · rename_i h88
    split at h
    · rename_i hs
      have hs' : ∀ t ∈ l0, t.f2.size ≤ 140737488355328 := fun t ht => of_decide_eq_true (List.all_eq_true.1 hs t ht)
      split at h
      · rename_i hf
        split at h
        · rename_i hl
          have hc := ltext_calls A0 c0 l0 w hG hr0 hc0 hs' h88 (fun _ => hl)
          rw [if_pos hf, hf] at hc
          obtain ⟨rfl, rfl⟩ := Prod.mk.inj (Option.some.inj h)
          exact hc
        · cases h
      · rename_i hf
        have hc := ltext_calls A0 c0 l0 w hG hr0 hc0 hs' h88 (fun h => absurd h hf)
        rw [if_neg hf] at hc
        obtain ⟨rfl, rfl⟩ := Prod.mk.inj (Option.some.inj h)
        exact hc
    · cases h
  · cases h
end Go.Proofs.YtnnogepjkfllnaaGreatDoor
end
