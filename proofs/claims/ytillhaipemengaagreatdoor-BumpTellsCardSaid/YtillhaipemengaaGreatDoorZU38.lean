/- The texts BpRN, BpTx, BpOpens in one file, without what these claims do not use (put together by prune2.py). -/
import Derived.Test.YtillhaipemengaaGreatDoorZU36
import Derived.Test.YtillhaipemengaaGreatDoorZU37
import Derived.Test.YtillhaipemengaaGreatDoorZU34
import Derived.Deep.Slices
import Derived.ChangeArms
import Derived.WideShapes
import Derived.ChangeMaps
section
namespace Go.Proofs.YtillhaipemengaaGreatDoor
open Go Go.RowKit Go.Proofs Go.Proofs.YtillhaipemengaaGreatDoorW.PrintWords Go.Proofs.YtillhaipemengaaGreatDoorW.PrintLast Go.Proofs.YtillhaipemengaaGreatDoor.K0 Go.Proofs.YtillhaipemengaaGreatDoor.RD Go.Proofs.YtillhaipemengaaGreatDoor.RT
set_option linter.unusedVariables false
set_option linter.unusedSimpArgs false
theorem rfirst_f (p : ByteArray) (k : Nat) (hk : 400 < k) : armadaref18_First.f k p = some ((firstOf p).1.f0, (firstOf p).1.f1, (firstOf p).1.f2, (firstOf p).1.f3, (firstOf p).1.f4, (firstOf p).2) := by
  unfold armadaref18_First.f firstOf
  rw [ref_Major_f p k hk]
  simp only [Option.bind_some]
  split
  · split <;> rfl
  · rfl
theorem rfirst_calls (p : ByteArray) (w : World) : Calls Tryz.prog 11 #[.string p] w fun e w' => e = .returned (.tuple #[.agg (vrc (firstOf p).1), .bool (firstOf p).2]) ∧ Below w.heap.size w w' :=
  armadaref18_First.calls 401 p _ _ _ _ _ _ w (rfirst_f p 401 (by decide))
theorem rfits_calls (p : ByteArray) (v : Vr) (w : World) : Calls Tryz.prog 25 #[.string p, .agg (vrc v)] w fun e w' => e = .returned (.bool (vfits p v)) ∧ Below w.heap.size w w' := by
  obtain ⟨K, hK⟩ := ref_Fits_f p v.f0 v.f1 v.f2 v.f3 v.f4
  exact armadaref08_Fits.calls K p _ _ _ _ _ _ w (hK K (Nat.le_refl _))
/-- Next's own block. -/
structure RnIs (w W : World) : Prop where
  base : Below w.heap.size w W
  q : W.heap[w.heap.size]? = some (.cells (rlc zr) 34 (0, 0))
theorem RnIs.step {w W W' : World} (h : RnIs w W) (hb : Below W.heap.size W W') : RnIs w W' := ⟨below_step h.base hb, blk_below h.q hb⟩
set_option maxRecDepth 100000 in
set_option maxHeartbeats 1000000 in
theorem rnext_calls (p : ByteArray) (A1 : Option Addr) (c1 : Nat) (l : List Tg) (n : Int) (w : World) (hr : Kd.C k71 w A1 l.length l) (hc : l.length ≤ c1) (hl : l.length ≤ 4294967280) :
    Calls Tryz.prog 13 #[.string p, .slice A1 l.length c1, .int .i64 n] w fun e w' => e = .returned (.tuple #[.agg (rlc (bNext p l n).1), .int .i64 (bNext p l n).2]) ∧ Below w.heap.size w w' := by
  have HFI := Aside0.mk (fun (W : World) (hb : Below w.heap.size w W) => rfirst_calls p W)
  have HLA := Aside0.mk (fun (W : World) (hb : Below w.heap.size w W) => rlat_calls A1 c1 l p W (Kd.C_below hr hb) hc hl)
  obtain ⟨bo, hbo⟩ : ∃ bo, bNext p l n = bo := ⟨_, rfl⟩
  rw [hbo]
  unfold bNext at hbo
  generalize latT l p = lt at hbo HLA
  generalize firstOf p = f1 at hbo HFI
  obtain ⟨v1, b1⟩ := f1
  simp only at hbo HFI
  have HBO := Aside0.mk hbo.symm
  generalize l.length = nl at *
  clear hbo hr hc hl
  have HB1 := Aside0.mk (show RnIs w (w.alloc (.cells #[.int .i64 0, .bool false, .int .i64 0, .int .i64 0, .int .i64 0, .string ⟨#[]⟩, .string ⟨#[]⟩, .int .i64 0, .int .i64 0, .int .i64 0, .string ⟨#[]⟩, .string ⟨#[]⟩, .int .i64 0] 34)) from ⟨below_alloc (Below.refl _ _) _, heap_alloc_new w _⟩)
  go_enter Tryz.func13, Tryz.ntmps13
  go_upto_region 1 with fail
  generalize w.alloc (.cells #[.int .i64 0, .bool false, .int .i64 0, .int .i64 0, .int .i64 0, .string ⟨#[]⟩, .string ⟨#[]⟩, .int .i64 0, .int .i64 0, .int .i64 0, .string ⟨#[]⟩, .string ⟨#[]⟩, .int .i64 0] 34) = W1 at HB1 ⊢
  cases hb1 : b1 with
  | false =>
    obtain rfl : bo = (zr, 6) := HBO.out.trans (by rw [hb1]; rfl)
    go_wp2_with (first
      | (go_at_call 11; refine (HFI.out _ HB1.out.base).mono ?_; rintro e W2 ⟨rfl, hb⟩; have HB2 := Aside0.mk (HB1.out.step hb); have HB3 := Aside0.mk (HB2.out.step (below_alloc (Below.refl _ W2) (.cells (vrc v1) 26))); have HV3 := Aside0.mk (heap_alloc_new W2 (.cells (vrc v1) 26)); clear hb)
      | ((with_reducible refine gate_ (.store 34 (.tmp 6) (.tmp 21)) rfl ?_); refine store_ev 34 (.tmp 6) (.tmp 21) rfl rfl rfl 0 (rlc zr).toList ((HB2.out.step (below_alloc (Below.refl _ W2) (.cells (vrc v1) 26))).q) rfl rfl rfl (by kernel_rfl) (show 0 + 13 ≤ 13 by decide) (rlc_one _) rfl ?_; intro Wb hb hgb; have HR := Aside0.mk hb; have HBB := Aside0.mk (Below.grown ((HB2.out.step (below_alloc (Below.refl _ W2) (.cells (vrc v1) 26))).base) hgb (Below.size ((HB2.out.step (below_alloc (Below.refl _ W2) (.cells (vrc v1) 26))).base)) (fun k hk => by cases hk; omega)); clear hb hgb)
      )
    refine bodyPost_ret (results_ct rfl _ _ w.heap.size 34 (rlc zr) (0, 0) _ rfl HR.out Tryz.underlying34 rfl (by kernel_rfl)) rfl ?_
    exact ⟨rfl, HBB.out⟩
  | true =>
    cases hlv : lvlOk n with
    | false =>
      obtain rfl : bo = (zr, 1) := HBO.out.trans (by rw [hb1, hlv]; rfl)
      by_cases hn1 : n < 1
      · go_wp2_with (first
          | (go_at_call 11; refine (HFI.out _ HB1.out.base).mono ?_; rintro e W2 ⟨rfl, hb⟩; have HB2 := Aside0.mk (HB1.out.step hb); have HB3 := Aside0.mk (HB2.out.step (below_alloc (Below.refl _ W2) (.cells (vrc v1) 26))); have HV3 := Aside0.mk (heap_alloc_new W2 (.cells (vrc v1) 26)); clear hb)
          | ((with_reducible refine gate_ (.store 34 (.tmp 6) (.tmp 28)) rfl ?_); refine store_ev 34 (.tmp 6) (.tmp 28) rfl rfl rfl 0 (rlc zr).toList (HB3.out.q) rfl rfl rfl (by kernel_rfl) (show 0 + 13 ≤ 13 by decide) (rlc_one _) rfl ?_; intro Wb hb hgb; have HR := Aside0.mk hb; have HBB := Aside0.mk (Below.grown (HB3.out.base) hgb (Below.size (HB3.out.base)) (fun k hk => by cases hk; omega)); clear hb hgb)
          )
        refine bodyPost_ret (results_ct rfl _ _ w.heap.size 34 (rlc zr) (0, 0) _ rfl HR.out Tryz.underlying34 rfl (by kernel_rfl)) rfl ?_
        exact ⟨rfl, HBB.out⟩
      · have hn3 : n > 3 := by
          unfold lvlOk at hlv
          by_cases h : n ≤ 3
          · rw [decide_eq_true (show 1 ≤ n by omega), decide_eq_true h] at hlv; cases hlv
          · omega
        go_wp2_with (first
          | (go_at_call 11; refine (HFI.out _ HB1.out.base).mono ?_; rintro e W2 ⟨rfl, hb⟩; have HB2 := Aside0.mk (HB1.out.step hb); have HB3 := Aside0.mk (HB2.out.step (below_alloc (Below.refl _ W2) (.cells (vrc v1) 26))); have HV3 := Aside0.mk (heap_alloc_new W2 (.cells (vrc v1) 26)); clear hb)
          | ((with_reducible refine gate_ (.store 34 (.tmp 6) (.tmp 28)) rfl ?_); refine store_ev 34 (.tmp 6) (.tmp 28) rfl rfl rfl 0 (rlc zr).toList (HB3.out.q) rfl rfl rfl (by kernel_rfl) (show 0 + 13 ≤ 13 by decide) (rlc_one _) rfl ?_; intro Wb hb hgb; have HR := Aside0.mk hb; have HBB := Aside0.mk (Below.grown (HB3.out.base) hgb (Below.size (HB3.out.base)) (fun k hk => by cases hk; omega)); clear hb hgb)
          )
        refine bodyPost_ret (results_ct rfl _ _ w.heap.size 34 (rlc zr) (0, 0) _ rfl HR.out Tryz.underlying34 rfl (by kernel_rfl)) rfl ?_
        exact ⟨rfl, HBB.out⟩
    | true =>
      have hn1 : ¬ n < 1 := by unfold lvlOk at hlv; simp only [Bool.and_eq_true, decide_eq_true_eq] at hlv; omega
      have hn3 : ¬ n > 3 := by unfold lvlOk at hlv; simp only [Bool.and_eq_true, decide_eq_true_eq] at hlv; omega
      cases hlt : lt with
      | none =>
        subst hlt
        obtain rfl : bo = (⟨0, false, zv, v1, n⟩, 0) := HBO.out.trans (by rw [hb1, hlv]; rfl)
        simp only [Option.getD_none, Option.isSome_none] at HLA
        go_wp2_with (first
          | (go_at_call 11; refine (HFI.out _ HB1.out.base).mono ?_; rintro e W2 ⟨rfl, hb⟩; have HB2 := Aside0.mk (HB1.out.step hb); have HB3 := Aside0.mk (HB2.out.step (below_alloc (Below.refl _ W2) (.cells (vrc v1) 26))); have HV3 := Aside0.mk (heap_alloc_new W2 (.cells (vrc v1) 26)); clear hb)
          | (go_at_call 34; refine (HLA.out _ HB3.out.base).mono ?_; rintro e W4 ⟨rfl, hb⟩; have HB4 := Aside0.mk (HB3.out.step hb); have HV4 := Aside0.mk (blk_below HV3.out hb); clear hb)
          | ((with_reducible refine gate_ (.load 26 (.tmp 8)) rfl ?_); refine load_ev (p := .tmp 8) rfl rfl rfl (blk_alloc HV4.out _) Tryz.underlying26 rfl (by kernel_rfl) ?_)
          | ((with_reducible refine gate_ (.store 34 (.tmp 6) (.tmp 39)) rfl ?_); refine store_ev 34 (.tmp 6) (.tmp 39) rfl rfl rfl 0 (rlc ⟨0, false, zv, v1, n⟩).toList ((HB4.out.step (below_alloc (Below.refl _ W4) (.cells (tgc tz) 71))).q) rfl rfl rfl (by kernel_rfl) (show 0 + 13 ≤ 13 by decide) (rlc_one _) rfl ?_; intro Wb hb hgb; have HR := Aside0.mk hb; have HBB := Aside0.mk (Below.grown ((HB4.out.step (below_alloc (Below.refl _ W4) (.cells (tgc tz) 71))).base) hgb (Below.size ((HB4.out.step (below_alloc (Below.refl _ W4) (.cells (tgc tz) 71))).base)) (fun k hk => by cases hk; omega)); clear hb hgb)
          )
        refine bodyPost_ret (results_ct rfl _ _ w.heap.size 34 (rlc ⟨0, false, zv, v1, n⟩) (0, 0) _ rfl HR.out Tryz.underlying34 rfl (by kernel_rfl)) rfl ?_
        exact ⟨rfl, HBB.out⟩
      | some t =>
        subst hlt
        simp only [Option.getD_some, Option.isSome_some] at HLA
        have HCK := Aside0.mk (fun W => rcheck_calls t.f1 W)
        cases hvk : vok t.f1 with
        | false =>
          rw [hvk] at HCK
          obtain rfl : bo = (zr, 7) := HBO.out.trans (by rw [hb1, hlv]; simp only [if_true, hvk, Bool.false_eq_true, if_false])
          go_wp2_with (first
            | (go_at_call 11; refine (HFI.out _ HB1.out.base).mono ?_; rintro e W2 ⟨rfl, hb⟩; have HB2 := Aside0.mk (HB1.out.step hb); have HB3 := Aside0.mk (HB2.out.step (below_alloc (Below.refl _ W2) (.cells (vrc v1) 26))); have HV3 := Aside0.mk (heap_alloc_new W2 (.cells (vrc v1) 26)); clear hb)
            | (go_at_call 34; refine (HLA.out _ HB3.out.base).mono ?_; rintro e W4 ⟨rfl, hb⟩; have HB4 := Aside0.mk (HB3.out.step hb); have HV4 := Aside0.mk (blk_below HV3.out hb); clear hb)
            | ((with_reducible refine gate_ (.load 26 (.tmp 40)) rfl ?_); refine load_mid_ev (p := .tmp 40) (i := 1) rfl rfl rfl (heap_alloc_new W4 _) (seg := (vrc t.f1).toList) rfl Tryz.underlying26 rfl (by kernel_rfl) ?_)
            | (go_at_call 35; refine (HCK.out _).mono ?_; rintro e W6 ⟨rfl, hb⟩; have HB6 := Aside0.mk ((HB4.out.step (below_alloc (Below.refl _ W4) (.cells (tgc t) 71))).step hb); have HT6 := Aside0.mk (blk_below (heap_alloc_new W4 (.cells (tgc t) 71)) hb); clear hb)
            | ((with_reducible refine gate_ (.store 34 (.tmp 6) (.tmp 44)) rfl ?_); refine store_ev 34 (.tmp 6) (.tmp 44) rfl rfl rfl 0 (rlc zr).toList (HB6.out.q) rfl rfl rfl (by kernel_rfl) (show 0 + 13 ≤ 13 by decide) (rlc_one _) rfl ?_; intro Wb hb hgb; have HR := Aside0.mk hb; have HBB := Aside0.mk (Below.grown (HB6.out.base) hgb (Below.size (HB6.out.base)) (fun k hk => by cases hk; omega)); clear hb hgb)
            )
          refine bodyPost_ret (results_ct rfl _ _ w.heap.size 34 (rlc zr) (0, 0) _ rfl HR.out Tryz.underlying34 rfl (by kernel_rfl)) rfl ?_
          exact ⟨rfl, HBB.out⟩
        | true =>
          rw [hvk] at HCK
          have HBM := Aside0.mk (fun W => rbump_calls t.f1 n hvk hlv W)
          obtain ⟨ub, hub⟩ : ∃ ub, bumpOf t.f1 n = ub := ⟨_, rfl⟩
          rw [hub] at HBM
          obtain ⟨u, eb⟩ := ub
          simp only at HBM
          by_cases he : eb = 0
          · subst he
            have HFT := Aside0.mk (fun (W : World) (hb : Below w.heap.size w W) => rfits_calls p u W)
            cases hft : vfits p u with
            | false =>
              rw [hft] at HFT
              obtain rfl : bo = (zr, 8) := HBO.out.trans (by rw [hb1, hlv]; simp only [if_true, hvk, hub, hft, Bool.false_eq_true, if_false])
              go_wp2_with (first
                | (go_at_call 11; refine (HFI.out _ HB1.out.base).mono ?_; rintro e W2 ⟨rfl, hb⟩; have HB2 := Aside0.mk (HB1.out.step hb); have HB3 := Aside0.mk (HB2.out.step (below_alloc (Below.refl _ W2) (.cells (vrc v1) 26))); have HV3 := Aside0.mk (heap_alloc_new W2 (.cells (vrc v1) 26)); clear hb)
                | (go_at_call 34; refine (HLA.out _ HB3.out.base).mono ?_; rintro e W4 ⟨rfl, hb⟩; have HB4 := Aside0.mk (HB3.out.step hb); have HV4 := Aside0.mk (blk_below HV3.out hb); clear hb)
                | ((with_reducible refine gate_ (.load 26 (.tmp 40)) rfl ?_); refine load_mid_ev (p := .tmp 40) (i := 1) rfl rfl rfl (heap_alloc_new W4 _) (seg := (vrc t.f1).toList) rfl Tryz.underlying26 rfl (by kernel_rfl) ?_)
                | (go_at_call 35; refine (HCK.out _).mono ?_; rintro e W6 ⟨rfl, hb⟩; have HB6 := Aside0.mk ((HB4.out.step (below_alloc (Below.refl _ W4) (.cells (tgc t) 71))).step hb); have HT6 := Aside0.mk (blk_below (heap_alloc_new W4 (.cells (tgc t) 71)) hb); clear hb)
                | ((with_reducible refine gate_ (.load 26 (.tmp 46)) rfl ?_); refine load_mid_ev (p := .tmp 46) (i := 1) rfl rfl rfl (HT6.out) (seg := (vrc t.f1).toList) rfl Tryz.underlying26 rfl (by kernel_rfl) ?_)
                | (go_at_call 36; refine (HBM.out _).mono ?_; rintro e W7 ⟨rfl, hb⟩; have HB7 := Aside0.mk (HB6.out.step hb); have HT7 := Aside0.mk (blk_below HT6.out hb); clear hb)
                | ((with_reducible refine gate_ (.load 26 (.tmp 12)) rfl ?_); refine load_ev (p := .tmp 12) rfl rfl rfl (heap_alloc_new W7 _) Tryz.underlying26 rfl (by kernel_rfl) ?_)
                | (go_at_call 25; refine (HFT.out _ (HB7.out.step (below_alloc (Below.refl _ W7) (.cells (vrc u) 26))).base).mono ?_; rintro e W8 ⟨rfl, hb⟩; have HB8 := Aside0.mk ((HB7.out.step (below_alloc (Below.refl _ W7) (.cells (vrc u) 26))).step hb); have HT8 := Aside0.mk (blk_below (blk_alloc HT7.out (.cells (vrc u) 26)) hb); have HU8 := Aside0.mk (blk_below (heap_alloc_new W7 (.cells (vrc u) 26)) hb); clear hb)
                | ((with_reducible refine gate_ (.store 34 (.tmp 6) (.tmp 60)) rfl ?_); refine store_ev 34 (.tmp 6) (.tmp 60) rfl rfl rfl 0 (rlc zr).toList (HB8.out.q) rfl rfl rfl (by kernel_rfl) (show 0 + 13 ≤ 13 by decide) (rlc_one _) rfl ?_; intro Wb hb hgb; have HR := Aside0.mk hb; have HBB := Aside0.mk (Below.grown (HB8.out.base) hgb (Below.size (HB8.out.base)) (fun k hk => by cases hk; omega)); clear hb hgb)
                )
              refine bodyPost_ret (results_ct rfl _ _ w.heap.size 34 (rlc zr) (0, 0) _ rfl HR.out Tryz.underlying34 rfl (by kernel_rfl)) rfl ?_
              exact ⟨rfl, HBB.out⟩
            | true =>
              rw [hft] at HFT
              obtain rfl : bo = (⟨0, true, t.f1, u, n⟩, 0) := HBO.out.trans (by rw [hb1, hlv]; simp only [if_true, hvk, hub, hft, Bool.false_eq_true, if_false])
              go_wp2_with (first
                | (go_at_call 11; refine (HFI.out _ HB1.out.base).mono ?_; rintro e W2 ⟨rfl, hb⟩; have HB2 := Aside0.mk (HB1.out.step hb); have HB3 := Aside0.mk (HB2.out.step (below_alloc (Below.refl _ W2) (.cells (vrc v1) 26))); have HV3 := Aside0.mk (heap_alloc_new W2 (.cells (vrc v1) 26)); clear hb)
                | (go_at_call 34; refine (HLA.out _ HB3.out.base).mono ?_; rintro e W4 ⟨rfl, hb⟩; have HB4 := Aside0.mk (HB3.out.step hb); have HV4 := Aside0.mk (blk_below HV3.out hb); clear hb)
                | ((with_reducible refine gate_ (.load 26 (.tmp 40)) rfl ?_); refine load_mid_ev (p := .tmp 40) (i := 1) rfl rfl rfl (heap_alloc_new W4 _) (seg := (vrc t.f1).toList) rfl Tryz.underlying26 rfl (by kernel_rfl) ?_)
                | (go_at_call 35; refine (HCK.out _).mono ?_; rintro e W6 ⟨rfl, hb⟩; have HB6 := Aside0.mk ((HB4.out.step (below_alloc (Below.refl _ W4) (.cells (tgc t) 71))).step hb); have HT6 := Aside0.mk (blk_below (heap_alloc_new W4 (.cells (tgc t) 71)) hb); clear hb)
                | ((with_reducible refine gate_ (.load 26 (.tmp 46)) rfl ?_); refine load_mid_ev (p := .tmp 46) (i := 1) rfl rfl rfl (HT6.out) (seg := (vrc t.f1).toList) rfl Tryz.underlying26 rfl (by kernel_rfl) ?_)
                | (go_at_call 36; refine (HBM.out _).mono ?_; rintro e W7 ⟨rfl, hb⟩; have HB7 := Aside0.mk (HB6.out.step hb); have HT7 := Aside0.mk (blk_below HT6.out hb); clear hb)
                | ((with_reducible refine gate_dst (N := 57) rfl ?_); refine load_ev (p := .tmp 12) rfl rfl rfl (heap_alloc_new W7 _) Tryz.underlying26 rfl (by kernel_rfl) ?_)
                | (go_at_call 25; refine (HFT.out _ (HB7.out.step (below_alloc (Below.refl _ W7) (.cells (vrc u) 26))).base).mono ?_; rintro e W8 ⟨rfl, hb⟩; have HB8 := Aside0.mk ((HB7.out.step (below_alloc (Below.refl _ W7) (.cells (vrc u) 26))).step hb); have HT8 := Aside0.mk (blk_below (blk_alloc HT7.out (.cells (vrc u) 26)) hb); have HU8 := Aside0.mk (blk_below (heap_alloc_new W7 (.cells (vrc u) 26)) hb); clear hb)
                | ((with_reducible refine gate_ (.load 26 (.tmp 61)) rfl ?_); refine load_mid_ev (p := .tmp 61) (i := 1) rfl rfl rfl (HT8.out) (seg := (vrc t.f1).toList) rfl Tryz.underlying26 rfl (by kernel_rfl) ?_)
                | ((with_reducible refine gate_dst (N := 63) rfl ?_); refine load_ev (p := .tmp 12) rfl rfl rfl HU8.out Tryz.underlying26 rfl (by kernel_rfl) ?_)
                | ((with_reducible refine gate_ (.store 34 (.tmp 6) (.tmp 65)) rfl ?_); refine store_ev 34 (.tmp 6) (.tmp 65) rfl rfl rfl 0 (rlc ⟨0, true, t.f1, u, n⟩).toList (HB8.out.q) rfl rfl rfl (by kernel_rfl) (show 0 + 13 ≤ 13 by decide) (rlc_one _) rfl ?_; intro Wb hb hgb; have HR := Aside0.mk hb; have HBB := Aside0.mk (Below.grown (HB8.out.base) hgb (Below.size (HB8.out.base)) (fun k hk => by cases hk; omega)); clear hb hgb)
                )
              refine bodyPost_ret (results_ct rfl _ _ w.heap.size 34 (rlc ⟨0, true, t.f1, u, n⟩) (0, 0) _ rfl HR.out Tryz.underlying34 rfl (by kernel_rfl)) rfl ?_
              exact ⟨rfl, HBB.out⟩
          · have heb : (eb == 0) = false := beq_eq_false_iff_ne.mpr he
            have heb2 : (eb != 0) = true := bne_iff_ne.mpr he
            obtain rfl : bo = (zr, eb) := HBO.out.trans (by rw [hb1, hlv]; simp only [if_true, hvk, hub, he, if_false])
            clear he
            go_wp2_with (first
              | (go_at_call 11; refine (HFI.out _ HB1.out.base).mono ?_; rintro e W2 ⟨rfl, hb⟩; have HB2 := Aside0.mk (HB1.out.step hb); have HB3 := Aside0.mk (HB2.out.step (below_alloc (Below.refl _ W2) (.cells (vrc v1) 26))); have HV3 := Aside0.mk (heap_alloc_new W2 (.cells (vrc v1) 26)); clear hb)
              | (go_at_call 34; refine (HLA.out _ HB3.out.base).mono ?_; rintro e W4 ⟨rfl, hb⟩; have HB4 := Aside0.mk (HB3.out.step hb); have HV4 := Aside0.mk (blk_below HV3.out hb); clear hb)
              | ((with_reducible refine gate_ (.load 26 (.tmp 40)) rfl ?_); refine load_mid_ev (p := .tmp 40) (i := 1) rfl rfl rfl (heap_alloc_new W4 _) (seg := (vrc t.f1).toList) rfl Tryz.underlying26 rfl (by kernel_rfl) ?_)
              | (go_at_call 35; refine (HCK.out _).mono ?_; rintro e W6 ⟨rfl, hb⟩; have HB6 := Aside0.mk ((HB4.out.step (below_alloc (Below.refl _ W4) (.cells (tgc t) 71))).step hb); have HT6 := Aside0.mk (blk_below (heap_alloc_new W4 (.cells (tgc t) 71)) hb); clear hb)
              | ((with_reducible refine gate_ (.load 26 (.tmp 46)) rfl ?_); refine load_mid_ev (p := .tmp 46) (i := 1) rfl rfl rfl (HT6.out) (seg := (vrc t.f1).toList) rfl Tryz.underlying26 rfl (by kernel_rfl) ?_)
              | (go_at_call 36; refine (HBM.out _).mono ?_; rintro e W7 ⟨rfl, hb⟩; have HB7 := Aside0.mk (HB6.out.step hb); have HT7 := Aside0.mk (blk_below HT6.out hb); clear hb)
              | ((with_reducible refine gate_ (.store 34 (.tmp 6) (.tmp 54)) rfl ?_); refine store_ev 34 (.tmp 6) (.tmp 54) rfl rfl rfl 0 (rlc zr).toList ((HB7.out.step (below_alloc (Below.refl _ W7) (.cells (vrc u) 26))).q) rfl rfl rfl (by kernel_rfl) (show 0 + 13 ≤ 13 by decide) (rlc_one _) rfl ?_; intro Wb hb hgb; have HR := Aside0.mk hb; have HBB := Aside0.mk (Below.grown ((HB7.out.step (below_alloc (Below.refl _ W7) (.cells (vrc u) 26))).base) hgb (Below.size ((HB7.out.step (below_alloc (Below.refl _ W7) (.cells (vrc u) 26))).base)) (fun k hk => by cases hk; omega)); clear hb hgb)
              )
            refine bodyPost_ret (results_ct rfl _ _ w.heap.size 34 (rlc zr) (0, 0) _ rfl HR.out Tryz.underlying34 rfl (by kernel_rfl)) rfl ?_
            exact ⟨rfl, HBB.out⟩
end Go.Proofs.YtillhaipemengaaGreatDoor
end

section
namespace Go.Proofs.YtillhaipemengaaGreatDoor
open Go Go.RowKit Go.Proofs Go.Proofs.YtillhaipemengaaGreatDoorW.PrintWords Go.Proofs.YtillhaipemengaaGreatDoor.K0
set_option linter.unusedVariables false
abbrev FlR := Int × Bool × Int × Int × Int × ByteArray × ByteArray × Int × Int × Int × ByteArray × ByteArray × Int × Int
def flatR (x : Rl × Int) : FlR := (x.1.f0, x.1.f1, x.1.f2.f0, x.1.f2.f1, x.1.f2.f2, x.1.f2.f3, x.1.f2.f4, x.1.f3.f0, x.1.f3.f1, x.1.f3.f2, x.1.f3.f3, x.1.f3.f4, x.1.f4, x.2)
theorem flatR_cells {x : Rl × Int} {r1 : Int} {r2 : Bool} {r3 r4 r5 : Int} {r6 r7 : ByteArray} {r8 r9 r10 : Int} {r11 r12 : ByteArray} {r13 r14 : Int} (h : flatR x = (r1, r2, r3, r4, r5, r6, r7, r8, r9, r10, r11, r12, r13, r14)) : rlc x.1 = #[.int .i64 r1, .bool r2, .int .i64 r3, .int .i64 r4, .int .i64 r5, .string r6, .string r7, .int .i64 r8, .int .i64 r9, .int .i64 r10, .string r11, .string r12, .int .i64 r13] ∧ x.2 = r14 := by
  simp only [flatR, Prod.mk.injEq] at h
  obtain ⟨rfl, rfl, rfl, rfl, rfl, rfl, rfl, rfl, rfl, rfl, rfl, rfl, rfl, rfl⟩ := h
  exact ⟨rfl, rfl⟩
def bump_Next.f (p : ByteArray) (l : List Tg) (n : Int) : Option FlR := if l.length ≤ 4294967280 then some (flatR (bNext p l n)) else none
theorem bump_Next.calls (a0 : ByteArray) (A1 : Option Addr) (c1 : Nat) (l1 : List Tg) (a2 : Int) (r1 : Int) (r2 : Bool) (r3 : Int) (r4 : Int) (r5 : Int) (r6 : ByteArray) (r7 : ByteArray) (r8 : Int) (r9 : Int) (r10 : Int) (r11 : ByteArray) (r12 : ByteArray) (r13 : Int) (r14 : Int) (w : World) (hr1 : Kd.C k71 w A1 l1.length l1) (hc1 : l1.length ≤ c1) (hG : GW w) (h : bump_Next.f a0 l1 a2 = some (r1, r2, r3, r4, r5, r6, r7, r8, r9, r10, r11, r12, r13, r14)) :
    Calls Tryz.prog 12 #[.string a0, .slice A1 l1.length c1, .int .i64 a2] w fun e w' => e = .returned (.tuple #[.agg #[.int .i64 r1, .bool r2, .int .i64 r3, .int .i64 r4, .int .i64 r5, .string r6, .string r7, .int .i64 r8, .int .i64 r9, .int .i64 r10, .string r11, .string r12, .int .i64 r13], .int .i64 r14]) ∧ Below w.heap.size w w' := by
  unfold bump_Next.f at h
  split at h
  · rename_i hb
    obtain ⟨e1, e2⟩ := flatR_cells (Option.some.inj h)
    rw [← e1, ← e2]
    exact bnext_calls a0 A1 c1 l1 a2 w hG hr1 hc1 hb
  · cases h
def armadaref18_Next.f (p : ByteArray) (l : List Tg) (n : Int) : Option FlR := bump_Next.f p l n
theorem armadaref18_Next.calls (a0 : ByteArray) (A1 : Option Addr) (c1 : Nat) (l1 : List Tg) (a2 : Int) (r1 : Int) (r2 : Bool) (r3 : Int) (r4 : Int) (r5 : Int) (r6 : ByteArray) (r7 : ByteArray) (r8 : Int) (r9 : Int) (r10 : Int) (r11 : ByteArray) (r12 : ByteArray) (r13 : Int) (r14 : Int) (w : World) (hr1 : Kd.C k71 w A1 l1.length l1) (hc1 : l1.length ≤ c1) (h : armadaref18_Next.f a0 l1 a2 = some (r1, r2, r3, r4, r5, r6, r7, r8, r9, r10, r11, r12, r13, r14)) :
    Calls Tryz.prog 13 #[.string a0, .slice A1 l1.length c1, .int .i64 a2] w fun e w' => e = .returned (.tuple #[.agg #[.int .i64 r1, .bool r2, .int .i64 r3, .int .i64 r4, .int .i64 r5, .string r6, .string r7, .int .i64 r8, .int .i64 r9, .int .i64 r10, .string r11, .string r12, .int .i64 r13], .int .i64 r14]) ∧ Below w.heap.size w w' := by
  unfold armadaref18_Next.f bump_Next.f at h
  split at h
  · rename_i hb
    obtain ⟨e1, e2⟩ := flatR_cells (Option.some.inj h)
    rw [← e1, ← e2]
    exact rnext_calls a0 A1 c1 l1 a2 w hr1 hc1 hb
  · cases h
end Go.Proofs.YtillhaipemengaaGreatDoor
end

section
namespace Go.Proofs.YtillhaipemengaaGreatDoor
open Go Go.RowKit Go.Deep Go.WideShapes Go.Proofs.YtillhaipemengaaGreatDoorW.PrintWords Go.Proofs.YtillhaipemengaaGreatDoor.K0
set_option linter.unusedVariables false
section
variable {H : Type} (enc : TypeId × Value → H) (P : Program) (w : World) (base : Nat) (spare : Nat → Bool) (held : Bool)
/-- Whatever reads as a datum of a type reads by a kind. -/
def Opens {α : Type} (t : TypeId) (d : Kd α) : Prop := ∀ (fuel : Nat) (cs : List Value) (x : DataW H × List MemPlace), DataW.trod enc P w base spare held fuel t cs = some x → ∃ a : α, d.K w a cs
variable {enc P w base spare held}
theorem opens_int {t : TypeId} {k : IntKind} (ht : P.underlying t = some (.int k)) : Opens enc P w base spare held t (Kd.int k) := by
  intro fuel cs x h
  obtain ⟨z, e, _⟩ := DataW.trod_int ht h
  exact ⟨z, e⟩
theorem opens_str {t : TypeId} (ht : P.underlying t = some .string) : Opens enc P w base spare held t Kd.string := by
  intro fuel cs x h
  obtain ⟨z, e, _⟩ := DataW.trod_string ht h
  exact ⟨z, e⟩
theorem opens_iso {α β : Type} {t : TypeId} {d : Kd α} (f : β → α) (g : α → β) (hg : ∀ a, f (g a) = a) (h : Opens enc P w base spare held t d) : Opens enc P w base spare held t (Kd.iso d f) := by
  intro fuel cs x hx
  obtain ⟨a, ha⟩ := h fuel cs x hx
  exact ⟨g a, by show d.K w (f (g a)) cs; rw [hg]; exact ha⟩
theorem opens_slice {α : Type} [Inhabited α] {t e : TypeId} {d : Kd α} (ht : P.underlying t = some (.slice e)) (hc : P.cellsOf e = d.sz) (he : Opens enc P w base spare held e d) : Opens enc P w base spare held t (Kd.slice e d) := by
  intro fuel cs x h
  rcases open_slice ht h with ⟨rfl, _⟩ | ⟨a, len, cap, m, n, D, Pl, rfl, _, hl, hm, hmm, _, hx⟩
  · exact ⟨[], none, 0, rfl, Nat.le_refl _, Kd.C_nil _ _⟩
  · have hle : len ≤ m := by rw [hmm]; split <;> omega
    obtain ⟨f, hf⟩ := choose_lt (α := α) (n := len) (p := fun i y => ∃ c : List Value, c.length = d.sz ∧ d.K w y c ∧ ∀ (j : Nat) (u : Value), c[j]? = some u → w.cell? (a.add (i * d.sz + j)) = some u) (fun i hi => by
      obtain ⟨cs', h1, h2⟩ := hx i (by omega)
      obtain ⟨y, hy⟩ := he n cs' _ h2
      obtain ⟨_, hlen, hcell⟩ := World.cells?_some h1
      rw [hc] at hlen hcell
      refine ⟨y, cs', hlen, hy, fun j u hu => ?_⟩
      have hj := (List.getElem?_eq_some_iff.1 hu).1
      have := hcell j (by omega)
      rw [Deep.add_add] at this
      rw [this, hu])
    refine ⟨(List.range len).map f, some a, cap, by simp, by simpa using hl, ?_⟩
    rw [List.length_map, List.length_range]
    refine ⟨by simp, by have : maxLen = 9223372036854775807 := rfl
                        omega, fun _ => ⟨a, rfl, fun j p hp => ?_⟩⟩
    have hj : j < len := by have := (List.getElem?_eq_some_iff.1 hp).1; simpa using this
    rw [List.getElem?_map, List.getElem?_range hj] at hp
    obtain rfl : f j = p := by simpa using hp
    exact hf j hj
/-- Fields from a place on, one behind the other. -/
theorem opens_pair {α β : Type} {d0 : Kd α} {d1 : Kd β} {cs : List Value} (hl : cs.length = d0.sz + d1.sz) (h0 : ∃ a, d0.K w a (cs.take d0.sz)) (h1 : ∃ b, d1.K w b (cs.drop d0.sz)) : ∃ x, (Kd.pair d0 d1).K w x cs := by
  obtain ⟨a, ha⟩ := h0
  obtain ⟨b, hb⟩ := h1
  exact ⟨(a, b), cs.take d0.sz, cs.drop d0.sz, (List.take_append_drop _ _).symm, ha, hb⟩
theorem opens_three {α β γ : Type} {t : TypeId} {f0 f1 f2 : Field} {d0 : Kd α} {d1 : Kd β} {d2 : Kd γ} (ht : P.underlying t = some (.struct #[f0, f1, f2])) (hC : P.cellsOf t = d0.sz + (d1.sz + d2.sz))
    (ho : f0.offset = 0 ∧ f1.offset = d0.sz ∧ f2.offset = d0.sz + d1.sz) (hk : P.cellsOf f0.type = d0.sz ∧ P.cellsOf f1.type = d1.sz ∧ P.cellsOf f2.type = d2.sz)
    (h0 : Opens enc P w base spare held f0.type d0) (h1 : Opens enc P w base spare held f1.type d1) (h2 : Opens enc P w base spare held f2.type d2) : Opens enc P w base spare held t (Kd.pair d0 (Kd.pair d1 d2)) := by
  intro fuel cs x h
  obtain ⟨xs, n, _, _, hl, hxl, hg⟩ := DataW.trod_struct ht h
  have hs : xs.length = 3 := hxl
  have e0 := hg 0 f0 rfl
  have e1 := hg 1 f1 rfl
  have e2 := hg 2 f2 rfl
  rw [List.getElem?_eq_getElem (by omega)] at e0 e1 e2
  rw [hC] at hl
  rw [ho.1, hk.1, List.drop_zero] at e0
  rw [ho.2.1, hk.2.1] at e1
  rw [ho.2.2, hk.2.2, ← List.drop_drop, List.take_of_length_le (by rw [List.length_drop, List.length_drop]; omega)] at e2
  exact opens_pair hl (h0 _ _ _ e0) (opens_pair (by rw [List.length_drop]; omega) (h1 _ _ _ e1) (h2 _ _ _ e2))
theorem opens_five {α β γ δ ε : Type} {t : TypeId} {f0 f1 f2 f3 f4 : Field} {d0 : Kd α} {d1 : Kd β} {d2 : Kd γ} {d3 : Kd δ} {d4 : Kd ε} (ht : P.underlying t = some (.struct #[f0, f1, f2, f3, f4])) (hC : P.cellsOf t = d0.sz + (d1.sz + (d2.sz + (d3.sz + d4.sz))))
    (ho : f0.offset = 0 ∧ f1.offset = d0.sz ∧ f2.offset = d0.sz + d1.sz ∧ f3.offset = d0.sz + d1.sz + d2.sz ∧ f4.offset = d0.sz + d1.sz + d2.sz + d3.sz)
    (hk : P.cellsOf f0.type = d0.sz ∧ P.cellsOf f1.type = d1.sz ∧ P.cellsOf f2.type = d2.sz ∧ P.cellsOf f3.type = d3.sz ∧ P.cellsOf f4.type = d4.sz)
    (h0 : Opens enc P w base spare held f0.type d0) (h1 : Opens enc P w base spare held f1.type d1) (h2 : Opens enc P w base spare held f2.type d2) (h3 : Opens enc P w base spare held f3.type d3) (h4 : Opens enc P w base spare held f4.type d4) :
    Opens enc P w base spare held t (Kd.pair d0 (Kd.pair d1 (Kd.pair d2 (Kd.pair d3 d4)))) := by
  intro fuel cs x h
  obtain ⟨xs, n, _, _, hl, hxl, hg⟩ := DataW.trod_struct ht h
  have hs : xs.length = 5 := hxl
  have e0 := hg 0 f0 rfl
  have e1 := hg 1 f1 rfl
  have e2 := hg 2 f2 rfl
  have e3 := hg 3 f3 rfl
  have e4 := hg 4 f4 rfl
  rw [List.getElem?_eq_getElem (by omega)] at e0 e1 e2 e3 e4
  rw [hC] at hl
  rw [ho.1, hk.1, List.drop_zero] at e0
  rw [ho.2.1, hk.2.1] at e1
  rw [ho.2.2.1, hk.2.2.1, ← List.drop_drop] at e2
  rw [ho.2.2.2.1, hk.2.2.2.1, ← List.drop_drop, ← List.drop_drop] at e3
  rw [ho.2.2.2.2, hk.2.2.2.2, ← List.drop_drop, ← List.drop_drop, ← List.drop_drop, List.take_of_length_le (by simp only [List.length_drop]; omega)] at e4
  exact opens_pair hl (h0 _ _ _ e0) (opens_pair (by show _ = d1.sz + (d2.sz + (d3.sz + d4.sz)); simp only [List.length_drop]; omega) (h1 _ _ _ e1) (opens_pair (by show _ = d2.sz + (d3.sz + d4.sz); simp only [List.length_drop]; omega) (h2 _ _ _ e2) (opens_pair (by show _ = d3.sz + d4.sz; simp only [List.length_drop]; omega) (h3 _ _ _ e3) (h4 _ _ _ e4))))
/-- A slice that was handed in. -/
theorem arg_slice {α : Type} [Inhabited α] {t e : TypeId} {d : Kd α} {r : Go.Reach} {b0 : Nat} {v : Value} {x : DataW H} {p : List MemPlace} (ht : P.underlying t = some (.slice e)) (hc : P.cellsOf e = d.sz) (he : Opens enc P w base spare held e d)
    (hv : Value.okWide P w r b0 t v) (h : DataW.Trod enc P w base spare held t v x p) : ∃ (A : Option Addr) (c : Nat) (xs : List α), v = .slice A xs.length c ∧ xs.length ≤ c ∧ Kd.C d w A xs.length xs := by
  obtain ⟨a, len, cap, rfl⟩ := okWide_slice ht hv
  obtain ⟨fuel, hf⟩ := h
  obtain ⟨xs, A, c, e, h1, h2⟩ := opens_slice ht hc he fuel _ _ hf
  have e2 : Value.slice a len cap = .slice A xs.length c := (List.cons.inj e).1
  exact ⟨A, c, xs, e2, h1, h2⟩
end
section
variable {H : Type} {enc : TypeId × Value → H} {w : World} {base : Nat} {spare : Nat → Bool} {held : Bool}
set_option maxRecDepth 100000 in
theorem opens_ver : Opens enc Tryz.prog w base spare held 26 k26 :=
  opens_iso _ (fun a => ⟨a.1, a.2.1, a.2.2.1, a.2.2.2.1, a.2.2.2.2⟩) (fun _ => rfl) (opens_five (d0 := Kd.int .i64) (d1 := Kd.int .i64) (d2 := Kd.int .i64) (d3 := Kd.string) (d4 := Kd.string) Tryz.underlying26 (by kernel_rfl) ⟨rfl, rfl, rfl, rfl, rfl⟩ ⟨by kernel_rfl, by kernel_rfl, by kernel_rfl, by kernel_rfl, by kernel_rfl⟩
    (opens_int Tryz.underlying3) (opens_int Tryz.underlying3) (opens_int Tryz.underlying3) (opens_str Tryz.underlying9) (opens_str Tryz.underlying9))
instance : Inhabited S69 := ⟨z69⟩
instance : Inhabited S71 := ⟨z71⟩
instance : Inhabited S63 := ⟨z63⟩
instance : Inhabited S61 := ⟨z61⟩
set_option maxRecDepth 100000 in
theorem opens_tag : Opens enc Tryz.prog w base spare held 71 k71 :=
  opens_iso _ (fun a => ⟨a.1, a.2.1, a.2.2⟩) (fun _ => rfl) (opens_three (d0 := Kd.string) (d1 := k26) (d2 := Kd.string) Tryz.underlying71 (by kernel_rfl) ⟨rfl, rfl, rfl⟩ ⟨by kernel_rfl, by kernel_rfl, by kernel_rfl⟩
    (opens_str Tryz.underlying9) opens_ver (opens_str Tryz.underlying9))
set_option maxRecDepth 100000 in
/-- Tags that were handed in. -/
theorem arg_tags {r : Go.Reach} {b0 : Nat} {v : Value} {x : DataW H} {p : List MemPlace} (hv : Value.okWide Tryz.prog w r b0 22 v) (h : DataW.Trod enc Tryz.prog w base spare held 22 v x p) :
    ∃ (A : Option Addr) (c : Nat) (xs : List S71), v = .slice A xs.length c ∧ xs.length ≤ c ∧ Kd.C k71 w A xs.length xs := arg_slice Tryz.underlying22 (by kernel_rfl) opens_tag hv h
end
end Go.Proofs.YtillhaipemengaaGreatDoor
end
