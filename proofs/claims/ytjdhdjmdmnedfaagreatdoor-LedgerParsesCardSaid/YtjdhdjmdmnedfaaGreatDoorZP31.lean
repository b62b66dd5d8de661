/- The texts LText, LPl in one file, without what these claims do not use (put together by prune2.py). -/
import Derived.Test.YtjdhdjmdmnedfaaGreatDoorZP22
import Derived.Test.YtjdhdjmdmnedfaaGreatDoorZP12
section
namespace Go.Proofs.YtjdhdjmdmnedfaaGreatDoor
open Go Go.RowKit Go.Proofs Go.Proofs.YtjdhdjmdmnedfaaGreatDoorW.PrintWords Go.Proofs.YtjdhdjmdmnedfaaGreatDoorW.PrintLast Go.Proofs.YtjdhdjmdmnedfaaGreatDoorW.PrintMore Go.Proofs.YtjdhdjmdmnedfaaGreatDoor.K0 Go.Proofs.YtjdhdjmdmnedfaaGreatDoor.R1 Go.Proofs.YtjdhdjmdmnedfaaGreatDoor.R2 Go.Proofs.YtjdhdjmdmnedfaaGreatDoor.R3 Go.Proofs.YtjdhdjmdmnedfaaGreatDoor.R4 Go.Proofs.YtjdhdjmdmnedfaaGreatDoor.R5
set_option linter.unusedVariables false
set_option linter.unusedSimpArgs false
/-- A tag as it is held to be told as a line. -/
def encTel (t : Tg) : Value := .iface 50 (.agg (tcells t).toArray)
def kTel : Kd Tg := Kd.scalar encTel (fun _ => rfl)
theorem tel_at {w : World} {A : Option Addr} {n : Nat} {xs : List Tg} (h : Kd.C kTel w A n xs) {k : Nat} {t : Tg} (hk : xs[k]? = some t) (hn : k < n) : ∃ ad, A = some ad ∧ w.cell? (ad.add k) = some (encTel t) := by
  obtain ⟨ad, hA, hc⟩ := ReadsOf.at_ (Kd.reads_of_C (enc := encTel) (d := t) (h1 := fun _ => rfl) h) (k : Int) (by omega) (by omega)
  refine ⟨ad, hA, ?_⟩
  have e : rdOf t xs (k : Int) = t := by
    unfold rdOf
    rw [Int.toNat_natCast, List.getD_eq_getElem?_getD, hk]; rfl
  rw [e, Int.toNat_natCast] at hc
  exact hc
theorem line_f (t : Tg) (hv : tver t = true) (h0 : t.f0.size ≤ 140737488355328) (h2 : t.f2.size ≤ 140737488355328) : ledger_tag_line.f 102 t.f0 t.f1.f0 t.f1.f1 t.f1.f2 t.f1.f3 t.f1.f4 t.f2 = some (ba (lineT t ++ [10])) := by
  have hv' : verOk t.f1.f0 t.f1.f1 t.f1.f2 t.f1.f3 t.f1.f4 = true := hv
  have hl := bytesV_len hv'
  obtain ⟨P, hP⟩ : ∃ P, t.f0 = ba P := ⟨t.f0.data.toList, rfl⟩
  obtain ⟨H, hH⟩ : ∃ H, t.f2 = ba H := ⟨t.f2.data.toList, rfl⟩
  unfold ledger_tag_line.f lineT
  rw [text_f _ _ _ _ _ 102 (by decide)]
  unfold textV
  rw [if_pos hv']
  rw [hP, ba_size] at h0
  rw [hH, ba_size] at h2
  simp only [Option.bind_some, hP, hH, ba_one, ba_add, ba_size, ba_data, List.length_append, List.length_cons, List.length_nil]
  generalize bytesV t.f1.f0.toNat t.f1.f1.toNat t.f1.f2.toNat t.f1.f3.data.toList t.f1.f4.data.toList = B at hl ⊢
  rw [if_pos (by omega), if_pos (by omega), if_pos (by omega), if_pos (by omega), if_pos (by omega)]
  simp
theorem line_calls (t : Tg) (hv : tver t = true) (h0 : t.f0.size ≤ 140737488355328) (h2 : t.f2.size ≤ 140737488355328) (w : World) (hG : GW w) :
    Calls Tryz.prog 180 #[.agg #[.string t.f0, .int .i64 t.f1.f0, .int .i64 t.f1.f1, .int .i64 t.f1.f2, .string t.f1.f3, .string t.f1.f4, .string t.f2]] w fun e w' => e = .returned (.string (ba (lineT t ++ [10]))) ∧ Below w.heap.size w w' :=
  ledger_tag_line.calls 102 _ _ _ _ _ _ _ _ w hG (line_f t hv h0 h2)
theorem textB_take {xs : List Tg} {k : Nat} {t : Tg} (h : xs[k]? = some t) : textB (xs.take (k + 1)) = textB (xs.take k) ++ (lineT t ++ [10]) := by
  unfold textB
  rw [List.take_add_one, h, List.flatMap_append]
  simp
theorem textB_le (xs : List Tg) (k : Nat) : (textB (xs.take k)).length ≤ (textB xs).length := by
  have e : textB xs = textB (xs.take k) ++ textB (xs.drop k) := by
    unfold textB
    rw [← List.flatMap_append, List.take_append_drop]
  rw [e, List.length_append]; omega
set_option maxRecDepth 100000 in
set_option maxHeartbeats 2000000 in
theorem lines_calls (A : Option Addr) (c : Nat) (xs : List Tg) (w : World) (hG : GW w) (hr : Kd.C kTel w A xs.length xs) (hok : ∀ t ∈ xs, tver t = true ∧ t.f0.size ≤ 140737488355328 ∧ t.f2.size ≤ 140737488355328) (hlen : (textB xs).length ≤ 140737488355328) :
    Calls Tryz.prog 22 #[.slice A xs.length c] w fun e w' => e = .returned (.string (ba (textB xs))) ∧ Below w.heap.size w w' := by
  have hbig := hr.2.1
  obtain ⟨n, hn⟩ : ∃ n, n = xs.length := ⟨_, rfl⟩
  rw [← hn] at hr hbig ⊢
  obtain ⟨L, hL⟩ : ∃ L, L = textB xs := ⟨_, rfl⟩
  rw [← hL] at hlen ⊢
  have HN := Aside0.mk hn
  have HL := Aside0.mk hL
  have HR := Aside0.mk hr
  have HG := Aside0.mk hG
  have HOK := Aside0.mk hok
  have HLE := Aside0.mk hlen
  clear hn hL hr hG hok hlen
  go_enter Tryz.func22, Tryz.ntmps22
  go_wp2
  go_loopg [5, 8] n (fun gg _ v8 wr => ∃ kk : Nat, kk ≤ n ∧ n - kk ≤ gg ∧ v8 = .int .i64 kk ∧ Aside0 (IsB w.heap.size w.heap.size (Lib.byteCells (textB (xs.take kk))) wr) ∧ Aside0 (Below w.heap.size w wr))
  case atStart => exact ⟨0, Nat.zero_le _, by omega, rfl, ⟨isB_new w⟩, ⟨below_alloc (Below.refl _ _) _⟩⟩
  case round =>
    obtain ⟨kk, hkk, hg, rfl, HI, HB⟩ := hrel
    by_cases hlt : kk < n
    · have hltz : (kk : Int) < (n : Int) := by omega
      obtain ⟨t, ht⟩ : ∃ t, xs[kk]? = some t := ⟨_, List.getElem?_eq_getElem (by have := HN.out; omega)⟩
      obtain ⟨ad, hA, h0⟩ := tel_at (Kd.C_below HR.out HB.out) ht hlt
      subst hA
      unfold encTel at h0
      obtain ⟨hv, hs0, hs2⟩ := HOK.out t (List.mem_of_getElem? ht)
      have hline := fun W hG => line_calls t hv hs0 hs2 W hG
      have htk := textB_take ht
      have hle := textB_le xs (kk + 1)
      rw [htk, ← HL.out, List.length_append] at hle
      have hwr := fun W (h : IsB w.heap.size w.heap.size (Lib.byteCells (textB (xs.take kk))) W) (h2 : w.heap.size ≤ W.heap.size) => bld_write w.heap.size w.heap.size _ (ba (lineT t ++ [10])) W h (by rw [ba_size, Lib.byteCells_length]; have := HLE.out; omega) h2
      rw [strCells_bytes, ba_data, ← htk] at hwr
      have m1 : ∀ d w, Sem.run Tryz.prog (method (d + 4) 50 (.agg (tcells t).toArray) "armada/ledger.line") w = .ok (180, .agg (tcells t).toArray) w := fun _ _ => by kernel_rfl
      have e1 : ∀ args w, (callFunc 180 args).run Tryz.prog w = .ok (.enter 180 args) w := enters_of Tryz.func180 (by kernel_rfl) rfl
      have HLI := Aside0.mk hline
      have HWR := Aside0.mk hwr
      have HG1 := Aside0.mk (HG.out.below HB.out)
      clear ht hv hs0 hs2 hline htk hle hwr
      go_wp2_with (first
        | (go_at_fn 180; (with_reducible refine (HLI.out _ HG1.out).mono ?_); rintro e w2 ⟨rfl, hb2⟩; have HI2 := Aside0.mk (HI.out.below hb2); have HB2 := Aside0.mk (below_step HB.out hb2); clear hb2)
        | (go_at_call 39; (with_reducible refine (HWR.out _ HI2.out HB2.out.size).mono ?_); rintro e w3 ⟨rfl, hi3, hb3⟩; have HI3 := Aside0.mk hi3; have HB3 := Aside0.mk (HB2.out.trans hb3); clear hi3 hb3))
      go_roundg (n - (kk + 1))
      case measure => omega
      case rel => exact ⟨kk + 1, by omega, by omega, by go_num, HI3, HB3⟩
    · have hltz : ¬ (kk : Int) < (n : Int) := by omega
      obtain rfl : kk = n := by omega
      have htk : xs.take kk = xs := List.take_of_length_le (by have := HN.out; omega)
      rw [htk, ← HL.out] at HI
      have hstr := fun W (h : IsB w.heap.size w.heap.size (Lib.byteCells L) W) (h2 : w.heap.size ≤ W.heap.size) => bld_string w.heap.size w.heap.size L W h h2
      clear htk
      go_wp2_with (go_at_call 40; (with_reducible refine (hstr _ HI.out HB.out.size).mono ?_); rintro e w2 ⟨rfl, hb2⟩)
      go_ret
      exact ⟨rfl, HB.out.trans hb2⟩
def ltext.T5 : Bool × List (List Nat × List Nat) := (true, [([], []), ([], []), ([0, 1], [0, 1]), ([], []), ([2, 3], [2, 3]), ([4, 4, 0, 1, 2, 3, 4], [4])])
def ltext.B5 : List Nat := [0, 0, 3, 0, 15, 31]
theorem ltext.tab5 : rtab .any (opsOf Tryz.f10 5) = ltext.T5 := by kernel_rfl
theorem ltext.bits5 : waitsOk ltext.T5.2 ltext.B5 = true := by kernel_rfl
theorem fw_bad : ∀ {a b acc : List Tg}, firstWrong acc a ≠ 0 → firstWrong acc (a ++ b) = firstWrong acc a
  | [], b, acc, h => absurd rfl h
  | x :: a, b, acc, h => by
    show (if wrongT acc x = 0 then firstWrong (acc ++ [x]) (a ++ b) else wrongT acc x) = (if wrongT acc x = 0 then firstWrong (acc ++ [x]) a else wrongT acc x)
    have h' : (if wrongT acc x = 0 then firstWrong (acc ++ [x]) a else wrongT acc x) ≠ 0 := h
    by_cases hx : wrongT acc x = 0
    · rw [if_pos hx] at h'
      rw [if_pos hx, if_pos hx, fw_bad h']
    · rw [if_neg hx, if_neg hx]
theorem C_take {α : Type} {d : Kd α} {w : World} {A : Option Addr} {xs : List α} {n : Nat} (h : Kd.C d w A n xs) (k : Nat) (hk : k ≤ n) : Kd.C d w A k (xs.take k) := by
  refine ⟨by rw [List.length_take]; have := h.1; omega, by have := h.2.1; omega, fun hp => ?_⟩
  obtain ⟨ad, e, hc⟩ := h.2.2 (by omega)
  refine ⟨ad, e, fun j p hj => hc j p ?_⟩
  rw [List.getElem?_take] at hj
  split at hj
  · exact hj
  · cases hj
structure TextMem (w W : World) (A : Option Addr) (g : Nat) (v : Value) (t : Tg) (xs ys : List Tg) : Prop where
  base : Below w.heap.size w W
  blk : W.heap[g]? = some (.cells (tcells t).toArray 32 (0, 0))
  row : Kd.R kTel 68 W w.heap.size (fun _ => True) v ys
theorem TextMem.cells {w W : World} {A : Option Addr} {g : Nat} {v : Value} {t : Tg} {xs ys : List Tg} (h : TextMem w W A g v t xs ys) :
    W.cell? ⟨g, 0, none⟩ = some (.string t.f0) ∧ W.cell? ⟨g, 1, none⟩ = some (.int .i64 t.f1.f0) ∧ W.cell? ⟨g, 2, none⟩ = some (.int .i64 t.f1.f1) ∧ W.cell? ⟨g, 3, none⟩ = some (.int .i64 t.f1.f2) ∧ W.cell? ⟨g, 4, none⟩ = some (.string t.f1.f3) ∧ W.cell? ⟨g, 5, none⟩ = some (.string t.f1.f4) ∧ W.cell? ⟨g, 6, none⟩ = some (.string t.f2) :=
  ⟨cell_of_heap h.blk 0, cell_of_heap h.blk 1, cell_of_heap h.blk 2, cell_of_heap h.blk 3, cell_of_heap h.blk 4, cell_of_heap h.blk 5, cell_of_heap h.blk 6⟩
theorem TextMem.below {w W W' : World} {A : Option Addr} {g : Nat} {v : Value} {t : Tg} {xs ys : List Tg} (h : TextMem w W A g v t xs ys) (hb : Below W.heap.size W W') : TextMem w W' A g v t xs ys :=
  ⟨below_step h.base hb, lm_step hb h.blk, Kd.R_below h.row hb⟩
set_option maxRecDepth 100000 in
set_option maxHeartbeats 4000000 in
theorem ltext_calls (A : Option Addr) (c : Nat) (xs : List Tg) (w : World) (hG : GW w) (hr : Kd.C k32 w A xs.length xs) (hc : xs.length ≤ c) (hs : ∀ t ∈ xs, t.f2.size ≤ 140737488355328) (hl88 : xs.length * 88 ≤ 140737488355328) (hlen : firstWrong [] xs = 0 → (textB xs).length ≤ 140737488355328) :
    Calls Tryz.prog 10 #[.slice A xs.length c] w fun e w' => e = .returned (.tuple #[.string (if firstWrong [] xs = 0 then ba (textB xs) else ⟨#[]⟩), .int .i64 (firstWrong [] xs)]) ∧ Below w.heap.size w w' := by
  have hbig := hr.2.1
  obtain ⟨n, hn⟩ : ∃ n, n = xs.length := ⟨_, rfl⟩
  rw [← hn] at hr hbig hc hl88 ⊢
  obtain ⟨E, hE⟩ : ∃ E, E = firstWrong [] xs := ⟨_, rfl⟩
  rw [← hE] at hlen ⊢
  have HN := Aside0.mk hn
  have HE := Aside0.mk hE
  have HR := Aside0.mk hr
  have HG := Aside0.mk hG
  have HS := Aside0.mk hs
  have HLE := Aside0.mk hlen
  have H88 := Aside0.mk hl88
  clear hn hE hr hG hs hlen hl88
  have hconc : Tryz.prog.concrete 50 = true := by kernel_rfl
  go_enter Tryz.func10, Tryz.ntmps10
  go_wp2
  go_loopg [4, 5, 7, 10] n (fun gg v4 _ _ v10 wr => ∃ kk : Nat, kk ≤ n ∧ n - kk ≤ gg ∧ v10 = .int .i64 kk ∧ Aside0 (Kd.R kTel 68 wr w.heap.size (fun _ => True) v4 (xs.take kk)) ∧ Aside0 (firstWrong [] (xs.take kk) = 0) ∧ Aside0 (Below w.heap.size w wr))
  case atStart => exact ⟨0, Nat.zero_le _, by omega, rfl, ⟨Kd.R_nil _ _ _ _ _⟩, ⟨rfl⟩, ⟨Below.refl _ _⟩⟩
  case round =>
    obtain ⟨kk, hkk, hg, rfl, HO, HF, HB⟩ := hrel
    by_cases hlt : kk < n
    · have hltz : (kk : Int) < (n : Int) := by omega
      obtain ⟨t, ht⟩ : ∃ t, xs[kk]? = some t := ⟨_, List.getElem?_eq_getElem (by have := HN.out; omega)⟩
      have hte : rd_T32 xs (kk : Int) = t := by
        unfold rd_T32
        rw [Int.toNat_natCast, List.getD_eq_getElem?_getD, ht]; rfl
      obtain ⟨ad, hA, h0, h1, h2, h3, h4, h5, h6⟩ := at_T32 (Kd.C_below HR.out HB.out) (kk : Int) (by omega) (by omega)
      subst hA
      rw [hte, Int.toNat_natCast] at h0 h1 h2 h3 h4 h5 h6
      have htk : xs.take (kk + 1) = xs.take kk ++ [t] := by rw [List.take_add_one, ht]; rfl
      have hfw : firstWrong [] (xs.take (kk + 1)) = wrongT (xs.take kk) t := by rw [htk, firstWrong_app HF.out]; rfl
      have hwr : ∀ W, Below w.heap.size w W → Calls Tryz.prog 18 #[.slice (some ad) kk c, .agg #[.string t.f0, .int .i64 t.f1.f0, .int .i64 t.f1.f1, .int .i64 t.f1.f2, .string t.f1.f3, .string t.f1.f4, .string t.f2]] W fun e w' => e = .returned (.int .i64 (wrongT (xs.take kk) t)) ∧ Below W.heap.size W w' := by
        intro W hb
        have hl : (xs.take kk).length = kk := by rw [List.length_take]; have := HN.out; omega
        have := wrong_calls (some ad) c (xs.take kk) t W (HG.out.below hb) (hl.symm ▸ C_take (Kd.C_below HR.out hb) kk hkk) (HS.out t (List.mem_of_getElem? ht))
        rwa [hl] at this
      have hE2 : wrongT (xs.take kk) t ≠ 0 → E = wrongT (xs.take kk) t := by
        intro hne
        have e : xs = xs.take (kk + 1) ++ xs.drop (kk + 1) := (List.take_append_drop _ _).symm
        exact HE.out.trans ((congrArg (firstWrong []) e).trans ((fw_bad (by rw [hfw]; exact hne)).trans hfw))
      have HWR := Aside0.mk hwr
      have HFW := Aside0.mk hfw
      have HE2 := Aside0.mk hE2
      have HTK := Aside0.mk htk
      have hkc : (kk : Int) ≤ (c : Int) := by omega
      clear ht hte hwr hfw hE2 htk
      obtain ⟨z, hz⟩ : ∃ z, wrongT (xs.take kk) t = z := ⟨_, rfl⟩
      rw [hz] at HWR HFW HE2
      clear hz
      go_wp2
      have hTM : TextMem w (wr.alloc (.cells #[.string t.f0, .int .i64 t.f1.f0, .int .i64 t.f1.f1, .int .i64 t.f1.f2, .string t.f1.f3, .string t.f1.f4, .string t.f2] 32)) (some ad) wr.heap.size u4 t xs (xs.take kk) := ⟨below_alloc HB.out _, heap_alloc_new _ _, Kd.R_alloc HO.out _⟩
      generalize (wr.alloc (.cells #[.string t.f0, .int .i64 t.f1.f0, .int .i64 t.f1.f1, .int .i64 t.f1.f2, .string t.f1.f3, .string t.f1.f4, .string t.f2] 32)) = W at hTM ⊢
      generalize wr.heap.size = g at hTM ⊢
      have HTM := Aside0.mk hTM
      clear hTM h0 h1 h2 h3 h4 h5 h6
      refine start_ (n := 6) (S := (fun w' => w'.cell? ⟨g, 0, none⟩ = some (.string t.f0) ∧ w'.cell? ⟨g, 1, none⟩ = some (.int .i64 t.f1.f0) ∧ w'.cell? ⟨g, 2, none⟩ = some (.int .i64 t.f1.f1) ∧ w'.cell? ⟨g, 3, none⟩ = some (.int .i64 t.f1.f2) ∧ w'.cell? ⟨g, 4, none⟩ = some (.string t.f1.f3) ∧ w'.cell? ⟨g, 5, none⟩ = some (.string t.f1.f4) ∧ w'.cell? ⟨g, 6, none⟩ = some (.string t.f2))) (ds := []) #[false, false, false, false, false, false] (by kernel_rfl) rfl rfl HTM.out.cells (fun hHeld => ?_); refine with_tabW ltext.tab5 ltext.bits5 (fun HT_ HW_ => ?_)
      have HTM1 := Aside0.mk (HTM.out.below (below_drew1 (Below.refl _ _)))
      generalize W.drew = W1 at HTM1 hHeld ⊢
      refine pure_ (i := 0) (N := some 15) (v := ?_) (a' := ?_) #[true, false, false, false, false, false] rfl rfl (any_of HT_.out (by kernel_rfl)) (fun _ _ _ h => h) (Or.inl ⟨by rfl, ?_⟩) ?_ ?_
      rotate_left
      ·
       intro w'
       go_simp
       with_reducible rfl
      rotate_left
      ·
       simp only [Act.put, List.setIfInBounds_toArray, List.set_cons_zero, List.set_cons_succ, i64_w, i32_w]
       rfl
      refine pure_ (i := 1) (N := some 16) (v := ?_) (a' := ?_) #[true, true, false, false, false, false] rfl rfl (any_of HT_.out (by kernel_rfl)) (fun _ _ _ h => h) (Or.inl ⟨by rfl, ?_⟩) ?_ ?_
      rotate_left
      ·
       intro w'
       go_simp
       with_reducible rfl
      rotate_left
      ·
       simp only [Act.put, List.setIfInBounds_toArray, List.set_cons_zero, List.set_cons_succ, i64_w, i32_w]
       rfl
      refine pure_ (i := 2) (N := some 17) (v := ?_) (a' := ?_) #[true, true, true, false, false, false] rfl rfl (any_of HT_.out (by kernel_rfl)) (fun _ _ _ h => h) (Or.inl ⟨by rfl, ?_⟩) ?_ ?_
      rotate_left
      ·
       intro w'
       go_simp
       with_reducible rfl
      rotate_left
      ·
       simp only [Act.put, List.setIfInBounds_toArray, List.set_cons_zero, List.set_cons_succ, i64_w, i32_w]
       rfl
      refine take_ (i := 3) (N := some 18) (v := ?_) (a' := ?_) #[true, true, true, true, false, false] rfl rfl (take_ofW HT_.out HW_.out (by kernel_rfl)) (fun _ _ _ h => h) (Or.inl ⟨by rfl, ?_⟩) hHeld ?_ ?_
      rotate_left
      ·
       rintro w' ⟨s0, s1, s2, s3, s4, s5, s6⟩
       go_simp
       with_reducible rfl
      rotate_left
      ·
       simp only [Act.put, List.setIfInBounds_toArray, List.set_cons_zero, List.set_cons_succ, i64_w, i32_w]
       rfl
      refine one_ (i := 4) (N := some 19) #[true, true, true, true, true, false] rfl rfl (one_of HT_.out (by kernel_rfl)) (by decide) (fun K hK => ?_)
      refine goes_ Tryz.func18 (by kernel_rfl) rfl #[.slice (some ad) kk c, .agg #[.string t.f0, .int .i64 t.f1.f0, .int .i64 t.f1.f1, .int .i64 t.f1.f2, .string t.f1.f3, .string t.f1.f4, .string t.f2]] (by rfl) rfl rfl (by (try simp only [List.map_toArray, List.map_cons, List.map_nil]); first | done | rfl) ?_
      with_reducible refine (HWR.out _ HTM1.out.base).mono ?_
      rintro e W2 ⟨rfl, hb⟩
      refine ⟨_, rfl, ?_⟩
      have HTM2 := Aside0.mk (HTM1.out.below hb)
      clear hb
      refine hK.out _ _ HTM2.out.cells (fun hHeld => ?_)
      clear hK K
      refine norm_ (a' := ?_) ?_ ?_
      rotate_left
      ·
       show Act.put _ (some 19) _ = _
       simp only [Act.put, List.setIfInBounds_toArray, List.set_cons_zero, List.set_cons_succ, i64_w, i32_w]
       rfl
      refine pure_ (i := 5) (N := some 7) (v := ?_) (a' := ?_) #[true, true, true, true, true, true] rfl rfl (any_of HT_.out (by kernel_rfl)) (fun _ _ _ h => h) (Or.inl ⟨by rfl, ?_⟩) ?_ ?_
      rotate_left
      ·
       intro w'
       go_simp
       with_reducible rfl
      rotate_left
      ·
       simp only [Act.put, List.setIfInBounds_toArray, List.set_cons_zero, List.set_cons_succ, i64_w, i32_w]
       rfl
      refine done_ (done_of HT_.out (by kernel_rfl)) ?_
      by_cases hz : z = 0
      · subst hz
        have hinf : (Tryz.prog.info? 68).map (fun i => (i.zero, i.size, i.bytes)) = some (some .nilIface, 1, 16) := by kernel_rfl
        obtain ⟨c0, c1, c2, c3, c4, c5, c6⟩ := HTM2.out.cells
        have hl16 : ((xs.take kk).length + 1) * 16 ≤ 140737488355328 := by rw [List.length_take]; have := H88.out; have := HN.out; omega
        have H16 := Aside0.mk hl16
        have HINF := Aside0.mk hinf
        clear hl16 hinf
        go_wp2_with (first
          | ((with_reducible refine gate_builtin (b := .append) (xs := #[.tmp 23, .tmp 27]) rfl ?_); at_builtin; refine Kd.R_append kTel (w0 := w) w.heap.size rfl (.tmp 23) (.tmp 27) 48 68 .nilIface 16 rfl Tryz.underlying48 HINF.out rfl (by decide) (by decide) u4 (xs.take kk) t [encTel t] (fun _ => True) (fun _ => False) rfl rfl ?aP (fun _ hk => hk.elim) ?aF ?aO ?aB ?aS ?aL ?_; (case aP => exact rfl); (case aB => exact HTM2.out.base); (case aF => exact (fun _ _ => trivial)); (case aO => exact HTM2.out.row); (case aS => exact below_size HTM2.out.base); (case aL => exact H16.out); intro v103 w9 ho hb hg hat; have HO3 := Aside0.mk ho; have HB3 := Aside0.mk hb; clear ho hb hg hat))
        go_roundg (n - (kk + 1))
        case measure => omega
        case rel => exact ⟨kk + 1, by omega, by omega, by go_num, ⟨by rw [HTK.out]; exact HO3.out⟩, HFW, HB3⟩
      · have hE2 := HE2.out hz
        subst hE2
        go_wp2
        go_ret2
        refine ⟨?_, HTM2.out.base⟩
        first | rfl | (rw [if_neg hz]; rfl)
    · have hltz : ¬ (kk : Int) < (n : Int) := by omega
      obtain rfl : kk = n := by omega
      have htk : xs.take kk = xs := List.take_of_length_le (by have := HN.out; omega)
      rw [htk] at HO HF
      have hE0 : E = 0 := HE.out.trans HF.out
      subst hE0
      have hok : ∀ t ∈ xs, tver t = true ∧ t.f0.size ≤ 140737488355328 ∧ t.f2.size ≤ 140737488355328 := fun t ht => by
        obtain ⟨m, hm⟩ := firstWrong_mem HF.out ht
        obtain ⟨h1, h2, _⟩ := wrongT_ok.1 hm
        exact ⟨h2, by have := check_size h1; omega, HS.out t ht⟩
      obtain ⟨Av, cv, hv, hcv, hCv⟩ := Kd.R_reads HO.out
      subst hv
      have hln := lines_calls Av cv xs wr (HG.out.below HB.out) hCv hok (HLE.out rfl)
      rw [← HN.out] at hln ⊢
      have HLN := Aside0.mk hln
      clear hok hcv hCv hln htk
      go_wp2_with (go_at_call 22; (with_reducible refine (HLN.out).mono ?_); rintro e w2 ⟨rfl, hb2⟩)
      go_ret2
      refine ⟨?_, below_step HB.out hb2⟩
      first | rfl | (rw [if_pos rfl]; rfl)
def ledger_Text.f (l : List Tg) : Option (ByteArray × Int) :=
  if l.length * 88 ≤ 140737488355328 then (if (l.all fun t => decide (t.f2.size ≤ 140737488355328)) = true then (if firstWrong [] l = 0 then (if (textB l).length ≤ 140737488355328 then some (ba (textB l), 0) else none) else some (⟨#[]⟩, firstWrong [] l)) else none) else none
theorem ledger_Text.calls (A0 : Option Addr) (c0 : Nat) (l0 : List Tg) (r1 : ByteArray) (r2 : Int) (w : World) (hr0 : Kd.C k32 w A0 l0.length l0) (hc0 : l0.length ≤ c0) (hG : GW w) (h : ledger_Text.f l0 = some (r1, r2)) :
    Calls Tryz.prog 10 #[.slice A0 l0.length c0] w fun e w' => e = .returned (.tuple #[.string r1, .int .i64 r2]) ∧ Below w.heap.size w w' := by
  unfold ledger_Text.f at h
  split at h
  · rename_i h88
    split at h
    · rename_i hs
      have hs' : ∀ t ∈ l0, t.f2.size ≤ 140737488355328 := fun t ht => of_decide_eq_true (List.all_eq_true.1 hs t ht)
      split at h
      · rename_i hf
        split at h
        · rename_i hl
          have hc := ltext_calls A0 c0 l0 w hG hr0 hc0 hs' h88 (fun _ => hl)
          rw [if_pos hf, hf] at hc
          obtain ⟨rfl, rfl⟩ := Prod.mk.inj (Option.some.inj h)
          exact hc
        · cases h
      · rename_i hf
        have hc := ltext_calls A0 c0 l0 w hG hr0 hc0 hs' h88 (fun h => absurd h hf)
        rw [if_neg hf] at hc
        obtain ⟨rfl, rfl⟩ := Prod.mk.inj (Option.some.inj h)
        exact hc
    · cases h
  · cases h
end Go.Proofs.YtjdhdjmdmnedfaaGreatDoor
end

section
namespace Go.Proofs.YtjdhdjmdmnedfaaGreatDoor
open Go Go.RowKit Go.Proofs Go.Proofs.YtjdhdjmdmnedfaaGreatDoorW.PrintWords Go.Proofs.YtjdhdjmdmnedfaaGreatDoor.K0 Go.Proofs.YtjdhdjmdmnedfaaGreatDoor.R1 Go.Proofs.YtjdhdjmdmnedfaaGreatDoor.R2 Go.Proofs.YtjdhdjmdmnedfaaGreatDoor.R3 Go.Proofs.YtjdhdjmdmnedfaaGreatDoor.R4 Go.Proofs.YtjdhdjmdmnedfaaGreatDoor.R5
set_option linter.unusedVariables false
set_option linter.unusedSimpArgs false
theorem toList_nil (s : ByteArray) : s.toList = [] ↔ s.data.toList = [] := by rw [ByteArray.toList_eq]
theorem toList_eq_iff (a b : ByteArray) : a.toList = b.toList ↔ a = b := ⟨fun h => by_data (by rw [← ByteArray.toList_eq, ← ByteArray.toList_eq]; exact h), fun h => by rw [h]⟩
theorem trim_nl (l : List UInt8) : Lib.trimSuffix (l ++ [10]) [10] = l := by
  unfold Lib.trimSuffix Lib.hasSuffix
  rw [if_pos (by simp [List.isSuffixOf])]
  simp
theorem trim_nl_no {l : List UInt8} (h : ¬ ∃ a, l = a ++ [10]) : Lib.trimSuffix l [10] = l := by
  unfold Lib.trimSuffix Lib.hasSuffix
  rw [if_neg]
  intro hs
  obtain ⟨a, ha⟩ := List.isSuffixOf_iff_suffix.1 hs
  exact h ⟨a, ha.symm⟩
theorem lex_f (s : ByteArray) (hs : s.size ≤ 4294967280) : lex_Split.f s = some ((linesOf s.data.toList).map ba) := by
  unfold lex_Split.f
  by_cases h : s.data.toList = []
  · rw [if_pos ((toList_nil s).2 h), h, lines_nil]; rfl
  · rw [if_neg (fun e => h ((toList_nil s).1 e))]
    unfold strings_TrimSuffix.f strings_Split.f
    rw [if_pos (by omega)]
    simp only [Option.bind_some]
    have h10 : (⟨#[10]⟩ : ByteArray).size = 1 := rfl
    by_cases h2 : ∃ a, s.data.toList = a ++ [10]
    · obtain ⟨a, ha⟩ := h2
      have hsz : a.length + 1 = s.size := by rw [Lib.size_eq, ha, List.length_append]; rfl
      rw [ha, trim_nl, lines_snoc, if_pos (by show a.toArray.size < _; simp; omega), if_pos h10]
      rfl
    · rw [trim_nl_no h2, lines_other h h2, if_pos (by show s.data.toList.toArray.size < _; rw [List.size_toArray, ← Lib.size_eq]; omega), if_pos h10]
      rfl
def tz : Tg := ⟨⟨#[]⟩, ⟨0, 0, 0, ⟨#[]⟩, ⟨#[]⟩⟩, ⟨#[]⟩⟩
def flatT (b : Option Tg) : ByteArray × Int × Int × Int × ByteArray × ByteArray × ByteArray × Bool := ((b.getD tz).f0, (b.getD tz).f1.f0, (b.getD tz).f1.f1, (b.getD tz).f1.f2, (b.getD tz).f1.f3, (b.getD tz).f1.f4, (b.getD tz).f2, b.isSome)
theorem rd_three (x y z : ByteArray) : rdOf ByteArray.empty [x, y, z] 0 = x ∧ rdOf ByteArray.empty [x, y, z] 1 = y ∧ rdOf ByteArray.empty [x, y, z] 2 = z := ⟨rfl, rfl, rfl⟩
theorem read_f (x : ByteArray) (hs : x.size ≤ 4294967280) : (∃ t, readT x.data.toList = some t ∧ ledger_read.f x = some (flatT (some t))) ∨ (readT x.data.toList = none ∧ ∃ a b c d e f g, ledger_read.f x = some (a, b, c, d, e, f, g, false)) := by
  have hsp : strings_Split.f x ⟨#[32]⟩ = some ((splitC 32 x.data.toList).map ba) := by
    unfold strings_Split.f
    rw [if_pos (by omega), if_pos (show (⟨#[32]⟩ : ByteArray).size = 1 from rfl)]; rfl
  unfold ledger_read.f readT
  rw [hsp]
  simp only [Option.bind_some, List.length_map]
  by_cases h3 : (splitC 32 x.data.toList).length = 3
  · obtain ⟨p, v, h, hl⟩ := three h3
    have hv : v.length ≤ x.size := by
      have := (splitC_parts (c := 32) (l := x.data.toList) (p := v) (by rw [hl]; simp)).2
      rw [Lib.size_eq]; exact this
    rw [if_pos (by omega), if_pos (by omega), hl]
    simp only [List.map_cons, List.map_nil]
    obtain ⟨r0, r1, r2⟩ := rd_three (ba p) (ba v) (ba h)
    rw [r0, r1, r2]
    by_cases hp : p = []
    · subst hp
      rw [if_pos ((toList_nil _).2 rfl)]
      exact .inr ⟨by simp, _, _, _, _, _, _, _, rfl⟩
    · rw [if_neg (fun e => hp ((toList_nil _).1 e)), if_pos (show (2 : Int) < (([p, v, h].length : Nat) : Int) by simp)]
      by_cases hh : h = []
      · subst hh
        rw [if_pos ((toList_nil _).2 rfl)]
        refine .inr ⟨?_, _, _, _, _, _, _, _, rfl⟩
        simp [hp]
      · rw [if_neg (fun e => hh ((toList_nil _).1 e)), if_pos (show (1 : Int) < (([p, v, h].length : Nat) : Int) by simp)]
        have hpf : ver_Parse.f (ba v) = some (parsed v) := by
          unfold ver_Parse.f
          rw [if_pos (by rw [ba_size]; omega)]; rfl
        rw [hpf]
        simp only [Option.bind_some]
        rw [if_neg hp, if_neg hh]
        unfold parsed
        cases hv : parseV v with
        | none => exact .inr ⟨rfl, _, _, _, _, _, _, _, rfl⟩
        | some r => exact .inl ⟨_, rfl, rfl⟩
  · rw [if_neg (by omega)]
    refine .inr ⟨?_, _, _, _, _, _, _, _, rfl⟩
    split
    · rename_i e; rw [e] at h3; exact absurd rfl h3
    · rfl
theorem parse_l0 (ls : List ByteArray) (B : Nat) (hB : B ≤ 4294967280) (hl : ls.length ≤ 4294967280) (hx : ∀ x ∈ ls, x.size ≤ B) : ∀ (d n k : Nat) (acc : List Tg), ls.length - n = d → n ≤ ls.length → acc.length = n → d < k →
    ledger_Parse.l0 k acc ls (ls.length : Int) (n : Int) = some (parseFrom acc ((ls.drop n).map fun x => x.data.toList)) := by
  intro d
  induction d with
  | zero =>
    intro n k acc hd hn ha hk
    obtain ⟨k, rfl⟩ : ∃ m, k = m + 1 := ⟨k - 1, by omega⟩
    simp only [ledger_Parse.l0]
    rw [if_neg (by omega), List.drop_eq_nil_of_le (by omega)]; rfl
  | succ d ih =>
    intro n k acc hd hn ha hk
    obtain ⟨k, rfl⟩ : ∃ m, k = m + 1 := ⟨k - 1, by omega⟩
    obtain ⟨x, h1, h2, h3⟩ := rd_at (l := ls) (n := n) (by omega)
    have hm : x ∈ ls := List.mem_of_getElem? h3
    have hxs := hx x hm
    simp only [ledger_Parse.l0]
    rw [if_pos (by omega), if_pos (by omega), if_pos (by omega), h1, h2, List.map_cons]
    rcases read_f x (by omega) with ⟨t, ht, hf⟩ | ⟨ht, a, b, c, dd, e, f, g, hf⟩
    · rw [hf]
      have hh : t.f2.size ≤ 140737488355328 := by
        have hxl := readT_some ht
        have : t.f2.data.toList.length ≤ x.data.toList.length := by
          rw [hxl]; unfold lineT; simp only [List.length_append, List.length_cons]; omega
        rw [← Lib.size_eq, ← Lib.size_eq] at this
        omega
      have hw : ledger_wrong.f acc t.f0 t.f1.f0 t.f1.f1 t.f1.f2 t.f1.f3 t.f1.f4 t.f2 = some (wrongT acc t) := by
        unfold ledger_wrong.f
        rw [if_pos hh, tag_eta]
      simp only [Option.bind_some, flatT, Option.getD_some, Option.isSome_some, if_true, hw]
      unfold parseFrom
      rw [ht]
      simp only
      by_cases hz : wrongT acc t = 0
      · rw [if_pos hz, if_pos hz, if_pos (by omega), wrap_succ (by omega), tag_eta, ih (n + 1) k (acc ++ [t]) (by omega) (by omega) (by rw [List.length_append]; simp; omega) (by omega)]
      · rw [if_neg hz, if_neg hz, ha]
    · rw [hf]
      simp only [Option.bind_some]
      unfold parseFrom
      rw [ht, if_neg (by simp), ha]
theorem map_ba (l : List (List UInt8)) : (l.map ba).map (fun x => x.data.toList) = l := by
  rw [List.map_map]; exact List.map_id _
theorem linesOf_len (l : List UInt8) : (linesOf l).length ≤ l.length + 1 ∧ ∀ x ∈ linesOf l, x.length ≤ l.length := by
  have h1 := splitC_length 10 l
  have h2 := List.count_le_length (a := (10 : UInt8)) (l := l)
  unfold linesOf
  split
  · refine ⟨by rw [List.length_dropLast]; omega, fun x hx => (splitC_parts (List.dropLast_subset _ hx)).2⟩
  · exact ⟨by omega, fun x hx => (splitC_parts hx).2⟩
theorem parse_f (s : ByteArray) (hs : s.size ≤ 4294967270) (k : Nat) (hk : s.size + 1 < k) : ledger_Parse.f k s = some (parseT s.data.toList) := by
  have hl := linesOf_len s.data.toList
  rw [← Lib.size_eq] at hl
  unfold ledger_Parse.f parseT
  rw [lex_f s (by omega)]
  simp only [Option.bind_some]
  have := parse_l0 ((linesOf s.data.toList).map ba) s.size (by omega) (by rw [List.length_map]; omega) (fun x hx => by
    obtain ⟨y, hy, rfl⟩ := List.mem_map.1 hx
    rw [ba_size]
    exact hl.2 y hy) _ 0 k [] rfl (by omega) rfl (by rw [List.length_map]; omega)
  rw [List.drop_zero, map_ba] at this
  exact this
/-- A tag behind all, or why not. -/
def addT (l : List Tg) (t : Tg) : List Tg × Int := if wrongT l t = 0 then (l ++ [t], 0) else ([], wrongT l t)
theorem add_f (l : List Tg) (t : Tg) (hl : l.length ≤ 4294967280) (hh : t.f2.size ≤ 140737488355328) : ledger_Add.f l t.f0 t.f1.f0 t.f1.f1 t.f1.f2 t.f1.f3 t.f1.f4 t.f2 = some (addT l t) := by
  have hw : ledger_wrong.f l t.f0 t.f1.f0 t.f1.f1 t.f1.f2 t.f1.f3 t.f1.f4 t.f2 = some (wrongT l t) := by
    unfold ledger_wrong.f
    rw [if_pos hh, tag_eta]
  unfold ledger_Add.f addT slices_Clone.f
  rw [hw, if_pos (show l.length * 88 ≤ 140737488355328 by omega)]
  simp only [Option.bind_some, tag_eta]
  by_cases hz : wrongT l t = 0
  · rw [if_pos hz, if_pos hz, if_pos (by simp; omega)]
  · rw [if_neg hz, if_neg hz]
theorem rdT_at {l : List Tg} {n : Nat} (h : n < l.length) : ∃ x, rd_T32 l (n : Int) = x ∧ l.drop n = x :: l.drop (n + 1) ∧ l[n]? = some x := by
  refine ⟨l[n], ?_, List.drop_eq_getElem_cons h, List.getElem?_eq_getElem h⟩
  unfold rd_T32
  rw [Int.toNat_natCast, List.getD_eq_getElem?_getD, List.getElem?_eq_getElem h]; rfl
theorem latest_l0 (l : List Tg) (p : ByteArray) (hl : l.length ≤ 4294967280) : ∀ (d n k : Nat) (b : Option Tg), l.length - n = d → n ≤ l.length → d + 102 < k →
    ledger_Latest.l0 k p b.isSome l (l.length : Int) (n : Int) (b.getD tz).f0 (b.getD tz).f1.f0 (b.getD tz).f1.f1 (b.getD tz).f1.f2 (b.getD tz).f1.f3 (b.getD tz).f1.f4 (b.getD tz).f2 = some (flatT (latFrom p b (l.drop n))) := by
  intro d
  induction d with
  | zero =>
    intro n k b hd hn hk
    obtain ⟨k, rfl⟩ : ∃ m, k = m + 1 := ⟨k - 1, by omega⟩
    simp only [ledger_Latest.l0]
    rw [if_neg (by omega), List.drop_eq_nil_of_le (by omega)]; rfl
  | succ d ih =>
    intro n k b hd hn hk
    obtain ⟨k, rfl⟩ : ∃ m, k = m + 1 := ⟨k - 1, by omega⟩
    obtain ⟨x, h1, h2, h3⟩ := rdT_at (l := l) (n := n) (by omega)
    have ihx := ih (n + 1) k (some x) (by omega) (by omega) (by omega)
    have ihb := ih (n + 1) k b (by omega) (by omega) (by omega)
    simp only [ledger_Latest.l0]
    rw [if_pos (by omega), if_pos (by omega), if_pos (by omega), h1, wrap_succ (by omega), h2]
    unfold latFrom
    by_cases hp : x.f0 = p
    · rw [if_pos ((toList_eq_iff _ _).2 hp), if_pos hp]
      cases b with
      | none =>
        rw [if_neg (by simp)]
        exact ihx
      | some y =>
        rw [if_pos (by rfl), compare_f _ _ _ _ _ _ _ _ _ _ k (by omega)]
        simp only [Option.bind_some, Option.getD_some]
        show (if tcmp x y > 0 then _ else _) = _
        by_cases hc : 0 < tcmp x y
        · rw [if_pos hc, if_pos hc]
          exact ihx
        · rw [if_neg hc, if_neg hc]
          exact ihb
    · rw [if_neg (fun e => hp ((toList_eq_iff _ _).1 e)), if_neg hp]
      exact ihb
theorem latest_f (l : List Tg) (p : ByteArray) (hl : l.length ≤ 4294967280) (k : Nat) (hk : l.length + 102 < k) : ledger_Latest.f k l p = some (flatT (latT l p)) := by
  have := latest_l0 l p hl _ 0 k none rfl (by omega) (by omega)
  rw [List.drop_zero] at this
  exact this
end Go.Proofs.YtjdhdjmdmnedfaaGreatDoor
end
