/- The texts RBx, BpNext in one file, without what these claims do not use (put together by prune2.py). -/
import Derived.Test.YtillhaipemengaaGreatDoorZB32
import Derived.Test.YtillhaipemengaaGreatDoorZB33
import Derived.Test.YtillhaipemengaaGreatDoorZB26
import Derived.Test.YtillhaipemengaaGreatDoorZB31
section
namespace Go.Proofs.YtillhaipemengaaGreatDoor.RB
open Go.RowKit Go.Proofs.YtillhaipemengaaGreatDoor Go.Proofs.YtillhaipemengaaGreatDoor.K0 Go.Proofs.YtillhaipemengaaGreatDoor.R1 Go.Proofs.YtillhaipemengaaGreatDoor.R2 Go.Proofs.YtillhaipemengaaGreatDoor.R3 Go.Proofs.YtillhaipemengaaGreatDoor.R4 Go.Proofs.YtillhaipemengaaGreatDoorW.PrintWords Go.Proofs.YtillhaipemengaaGreatDoorW.PrintLast Go.Proofs.YtillhaipemengaaGreatDoorW.PrintMore
attribute [local go_sem] max2_int min2_int max_two min_two max_three min_three max_four min_four
set_option linter.unusedVariables false
set_option linter.unusedSimpArgs false
end Go.Proofs.YtillhaipemengaaGreatDoor.RB
end

section
namespace Go.Proofs.YtillhaipemengaaGreatDoor
open Go Go.RowKit Go.Proofs Go.Proofs.YtillhaipemengaaGreatDoorW.PrintWords Go.Proofs.YtillhaipemengaaGreatDoor.K0 Go.Proofs.YtillhaipemengaaGreatDoor.R1 Go.Proofs.YtillhaipemengaaGreatDoor.R2 Go.Proofs.YtillhaipemengaaGreatDoor.R3 Go.Proofs.YtillhaipemengaaGreatDoor.R4 Go.Proofs.YtillhaipemengaaGreatDoor.RB
set_option linter.unusedVariables false
set_option linter.unusedSimpArgs false
theorem toList_eq_iff (a b : ByteArray) : a.toList = b.toList ↔ a = b := ⟨fun h => by_data (by rw [← ByteArray.toList_eq, ← ByteArray.toList_eq]; exact h), fun h => by rw [h]⟩
theorem first_f (p : ByteArray) (k : Nat) (hk : 100 < k) : bump_First.f k p = some ((firstOf p).1.f0, (firstOf p).1.f1, (firstOf p).1.f2, (firstOf p).1.f3, (firstOf p).1.f4, (firstOf p).2) := by
  unfold bump_First.f firstOf
  rw [mpath_Major_f p k hk]
  simp only [Option.bind_some]
  by_cases h : (majorsOf p).2.2 = true
  · rw [if_pos h, if_pos h]
    by_cases h2 : (majorsOf p).2.1 = 0
    · rw [if_pos h2, if_pos h2]; rfl
    · rw [if_neg h2, if_neg h2]; rfl
  · rw [if_neg h, if_neg h]; rfl
def tz : Tg := ⟨⟨#[]⟩, zv, ⟨#[]⟩⟩
def flatT (b : Option Tg) : ByteArray × Int × Int × Int × ByteArray × ByteArray × ByteArray × Bool := ((b.getD tz).f0, (b.getD tz).f1.f0, (b.getD tz).f1.f1, (b.getD tz).f1.f2, (b.getD tz).f1.f3, (b.getD tz).f1.f4, (b.getD tz).f2, b.isSome)
theorem rdT_at {l : List Tg} {n : Nat} (h : n < l.length) : ∃ x, rd_T71 l (n : Int) = x ∧ l.drop n = x :: l.drop (n + 1) ∧ l[n]? = some x := by
  refine ⟨l[n], ?_, List.drop_eq_getElem_cons h, List.getElem?_eq_getElem h⟩
  unfold rd_T71
  rw [Int.toNat_natCast, List.getD_eq_getElem?_getD, List.getElem?_eq_getElem h]; rfl
theorem latest_l0 (l : List Tg) (p : ByteArray) (hl : l.length ≤ 4294967280) : ∀ (d n k : Nat) (b : Option Tg), l.length - n = d → n ≤ l.length → d + 102 < k →
    ledger_Latest.l0 k p b.isSome l (l.length : Int) (n : Int) (b.getD tz).f0 (b.getD tz).f1.f0 (b.getD tz).f1.f1 (b.getD tz).f1.f2 (b.getD tz).f1.f3 (b.getD tz).f1.f4 (b.getD tz).f2 = some (flatT (latFrom p b (l.drop n))) := by
  intro d
  induction d with
  | zero =>
    intro n k b hd hn hk
    obtain ⟨k, rfl⟩ : ∃ m, k = m + 1 := ⟨k - 1, by omega⟩
    simp only [ledger_Latest.l0]
    rw [if_neg (by omega), List.drop_eq_nil_of_le (by omega)]; rfl
  | succ d ih =>
    intro n k b hd hn hk
    obtain ⟨k, rfl⟩ : ∃ m, k = m + 1 := ⟨k - 1, by omega⟩
    obtain ⟨x, h1, h2, h3⟩ := rdT_at (l := l) (n := n) (by omega)
    have ihx := ih (n + 1) k (some x) (by omega) (by omega) (by omega)
    have ihb := ih (n + 1) k b (by omega) (by omega) (by omega)
    simp only [ledger_Latest.l0]
    rw [if_pos (by omega), if_pos (by omega), if_pos (by omega), h1, wrap_succ (by omega), h2]
    unfold latFrom
    by_cases hp : x.f0 = p
    · rw [if_pos ((toList_eq_iff _ _).2 hp), if_pos hp]
      cases b with
      | none =>
        rw [if_neg (by simp)]
        exact ihx
      | some y =>
        rw [if_pos (by rfl), compare_f _ _ _ _ _ _ _ _ _ _ k (by omega)]
        simp only [Option.bind_some, Option.getD_some]
        show (if vcmp x.f1 y.f1 > 0 then _ else _) = _
        by_cases hc : 0 < vcmp x.f1 y.f1
        · rw [if_pos hc, if_pos hc]
          exact ihx
        · rw [if_neg hc, if_neg hc]
          exact ihb
    · rw [if_neg (fun e => hp ((toList_eq_iff _ _).1 e)), if_neg hp]
      exact ihb
theorem latest_f (l : List Tg) (p : ByteArray) (hl : l.length ≤ 4294967280) (k : Nat) (hk : l.length + 102 < k) : ledger_Latest.f k l p = some (flatT (latT l p)) := by
  have := latest_l0 l p hl _ 0 k none rfl (by omega) (by omega)
  rw [List.drop_zero] at this
  exact this
abbrev tgc (t : Tg) : Array Value := #[.string t.f0, .int .i64 t.f1.f0, .int .i64 t.f1.f1, .int .i64 t.f1.f2, .string t.f1.f3, .string t.f1.f4, .string t.f2]
theorem first_calls (p : ByteArray) (w : World) (hG : GW w) : Calls Tryz.prog 10 #[.string p] w fun e w' => e = .returned (.tuple #[.agg (vrc (firstOf p).1), .bool (firstOf p).2]) ∧ Below w.heap.size w w' :=
  bump_First.calls 101 p _ _ _ _ _ _ w hG (first_f p 101 (by decide))
theorem latest_calls (A1 : Option Addr) (c1 : Nat) (l : List Tg) (p : ByteArray) (w : World) (hG : GW w) (hr : Kd.C k71 w A1 l.length l) (hc : l.length ≤ c1) (hl : l.length ≤ 4294967280) :
    Calls Tryz.prog 30 #[.slice A1 l.length c1, .string p] w fun e w' => e = .returned (.tuple #[.agg (tgc ((latT l p).getD tz)), .bool (latT l p).isSome]) ∧ Below w.heap.size w w' :=
  ledger_Latest.calls (l.length + 103) A1 c1 l p _ _ _ _ _ _ _ _ w hr hc hG (latest_f l p hl _ (by omega))
/-- Next's own block. -/
structure NtIs (w W : World) : Prop where
  base : Below w.heap.size w W
  q : W.heap[w.heap.size]? = some (.cells (rlc zr) 30 (0, 0))
theorem NtIs.step {w W W' : World} (h : NtIs w W) (hb : Below W.heap.size W W') : NtIs w W' := ⟨below_step h.base hb, blk_below h.q hb⟩
set_option maxRecDepth 100000 in
set_option maxHeartbeats 1000000 in
theorem bnext_calls (p : ByteArray) (A1 : Option Addr) (c1 : Nat) (l : List Tg) (n : Int) (w : World) (hG : GW w) (hr : Kd.C k71 w A1 l.length l) (hc : l.length ≤ c1) (hl : l.length ≤ 4294967280) :
    Calls Tryz.prog 12 #[.string p, .slice A1 l.length c1, .int .i64 n] w fun e w' => e = .returned (.tuple #[.agg (rlc (bNext p l n).1), .int .i64 (bNext p l n).2]) ∧ Below w.heap.size w w' := by
  have HFI := Aside0.mk (fun (W : World) (hb : Below w.heap.size w W) => first_calls p W (hG.below hb))
  have HLA := Aside0.mk (fun (W : World) (hb : Below w.heap.size w W) => latest_calls A1 c1 l p W (hG.below hb) (Kd.C_below hr hb) hc hl)
  have HG := Aside0.mk hG
  obtain ⟨bo, hbo⟩ : ∃ bo, bNext p l n = bo := ⟨_, rfl⟩
  rw [hbo]
  unfold bNext at hbo
  generalize latT l p = lt at hbo HLA
  generalize firstOf p = f1 at hbo HFI
  obtain ⟨v1, b1⟩ := f1
  simp only at hbo HFI
  have HBO := Aside0.mk hbo.symm
  generalize l.length = nl at *
  clear hbo hr hc hl hG
  have HB1 := Aside0.mk (show NtIs w (w.alloc (.cells #[.int .i64 0, .bool false, .int .i64 0, .int .i64 0, .int .i64 0, .string ⟨#[]⟩, .string ⟨#[]⟩, .int .i64 0, .int .i64 0, .int .i64 0, .string ⟨#[]⟩, .string ⟨#[]⟩, .int .i64 0] 30)) from ⟨below_alloc (Below.refl _ _) _, heap_alloc_new w _⟩)
  go_enter Tryz.func12, Tryz.ntmps12
  go_upto_region 1 with fail
  generalize w.alloc (.cells #[.int .i64 0, .bool false, .int .i64 0, .int .i64 0, .int .i64 0, .string ⟨#[]⟩, .string ⟨#[]⟩, .int .i64 0, .int .i64 0, .int .i64 0, .string ⟨#[]⟩, .string ⟨#[]⟩, .int .i64 0] 30) = W1 at HB1 ⊢
  cases hb1 : b1 with
  | false =>
    obtain rfl : bo = (zr, 6) := HBO.out.trans (by rw [hb1]; rfl)
    go_wp2_with (first
      | (go_at_call 10; refine (HFI.out _ HB1.out.base).mono ?_; rintro e W2 ⟨rfl, hb⟩; have HB2 := Aside0.mk (HB1.out.step hb); clear hb)
      | ((with_reducible refine gate_ (.store 30 (.tmp 6) (.tmp 22)) rfl ?_); refine store_ev 30 (.tmp 6) (.tmp 22) rfl rfl rfl 0 (rlc zr).toList ((HB2.out.step (below_alloc (Below.refl _ W2) (.cells (vrc v1) 26))).q) rfl rfl rfl (by kernel_rfl) (show 0 + 13 ≤ 13 by decide) (rlc_one _) rfl ?_; intro Wb hb hgb; have HR := Aside0.mk hb; have HBB := Aside0.mk (Below.grown ((HB2.out.step (below_alloc (Below.refl _ W2) (.cells (vrc v1) 26))).base) hgb (Below.size ((HB2.out.step (below_alloc (Below.refl _ W2) (.cells (vrc v1) 26))).base)) (fun k hk => by cases hk; omega)); clear hb hgb)
      )
    refine bodyPost_ret (results_ct rfl _ _ w.heap.size 30 (rlc zr) (0, 0) _ rfl HR.out Tryz.underlying30 rfl (by kernel_rfl)) rfl ?_
    exact ⟨rfl, HBB.out⟩
  | true =>
    cases hlv : lvlOk n with
    | false =>
      obtain rfl : bo = (zr, 1) := HBO.out.trans (by rw [hb1, hlv]; rfl)
      go_wp2_with (first
        | (go_at_call 10; refine (HFI.out _ HB1.out.base).mono ?_; rintro e W2 ⟨rfl, hb⟩; have HB2 := Aside0.mk (HB1.out.step hb); clear hb)
        | (go_at_call 29; refine (levels_calls n _).mono ?_; rintro e W3 ⟨rfl, hb⟩; have HB3 := Aside0.mk ((HB2.out.step (below_alloc (Below.refl _ W2) (.cells (vrc v1) 26))).step hb); have HV3 := Aside0.mk (blk_below (heap_alloc_new W2 (.cells (vrc v1) 26)) hb); clear hb)
        | ((with_reducible refine gate_ (.store 30 (.tmp 6) (.tmp 27)) rfl ?_); refine store_ev 30 (.tmp 6) (.tmp 27) rfl rfl rfl 0 (rlc zr).toList (HB3.out.q) rfl rfl rfl (by kernel_rfl) (show 0 + 13 ≤ 13 by decide) (rlc_one _) rfl ?_; intro Wb hb hgb; have HR := Aside0.mk hb; have HBB := Aside0.mk (Below.grown (HB3.out.base) hgb (Below.size (HB3.out.base)) (fun k hk => by cases hk; omega)); clear hb hgb)
        )
      refine bodyPost_ret (results_ct rfl _ _ w.heap.size 30 (rlc zr) (0, 0) _ rfl HR.out Tryz.underlying30 rfl (by kernel_rfl)) rfl ?_
      exact ⟨rfl, HBB.out⟩
    | true =>
      cases hlt : lt with
      | none =>
        subst hlt
        obtain rfl : bo = (⟨0, false, zv, v1, n⟩, 0) := HBO.out.trans (by rw [hb1, hlv]; rfl)
        simp only [Option.getD_none, Option.isSome_none] at HLA
        go_wp2_with (first
          | (go_at_call 10; refine (HFI.out _ HB1.out.base).mono ?_; rintro e W2 ⟨rfl, hb⟩; have HB2 := Aside0.mk (HB1.out.step hb); clear hb)
          | (go_at_call 29; refine (levels_calls n _).mono ?_; rintro e W3 ⟨rfl, hb⟩; have HB3 := Aside0.mk ((HB2.out.step (below_alloc (Below.refl _ W2) (.cells (vrc v1) 26))).step hb); have HV3 := Aside0.mk (blk_below (heap_alloc_new W2 (.cells (vrc v1) 26)) hb); clear hb)
          | (go_at_call 30; refine (HLA.out _ HB3.out.base).mono ?_; rintro e W4 ⟨rfl, hb⟩; have HB4 := Aside0.mk (HB3.out.step hb); have HV4 := Aside0.mk (blk_below HV3.out hb); clear hb)
          | ((with_reducible refine gate_ (.load 26 (.tmp 8)) rfl ?_); refine load_ev (p := .tmp 8) rfl rfl rfl (blk_alloc HV4.out _) Tryz.underlying26 rfl (by kernel_rfl) ?_)
          | ((with_reducible refine gate_ (.store 30 (.tmp 6) (.tmp 39)) rfl ?_); refine store_ev 30 (.tmp 6) (.tmp 39) rfl rfl rfl 0 (rlc ⟨0, false, zv, v1, n⟩).toList ((HB4.out.step (below_alloc (Below.refl _ W4) (.cells (tgc tz) 71))).q) rfl rfl rfl (by kernel_rfl) (show 0 + 13 ≤ 13 by decide) (rlc_one _) rfl ?_; intro Wb hb hgb; have HR := Aside0.mk hb; have HBB := Aside0.mk (Below.grown ((HB4.out.step (below_alloc (Below.refl _ W4) (.cells (tgc tz) 71))).base) hgb (Below.size ((HB4.out.step (below_alloc (Below.refl _ W4) (.cells (tgc tz) 71))).base)) (fun k hk => by cases hk; omega)); clear hb hgb)
          )
        refine bodyPost_ret (results_ct rfl _ _ w.heap.size 30 (rlc ⟨0, false, zv, v1, n⟩) (0, 0) _ rfl HR.out Tryz.underlying30 rfl (by kernel_rfl)) rfl ?_
        exact ⟨rfl, HBB.out⟩
      | some t =>
        subst hlt
        simp only [Option.getD_some, Option.isSome_some] at HLA
        have HCK := Aside0.mk (fun W => vcheck_calls t.f1.f0 t.f1.f1 t.f1.f2 t.f1.f3 t.f1.f4 W)
        rw [show verOk t.f1.f0 t.f1.f1 t.f1.f2 t.f1.f3 t.f1.f4 = vok t.f1 from rfl] at HCK
        cases hvk : vok t.f1 with
        | false =>
          rw [hvk] at HCK
          obtain rfl : bo = (zr, 7) := HBO.out.trans (by rw [hb1, hlv]; simp only [if_true, hvk, Bool.false_eq_true, if_false])
          go_wp2_with (first
            | (go_at_call 10; refine (HFI.out _ HB1.out.base).mono ?_; rintro e W2 ⟨rfl, hb⟩; have HB2 := Aside0.mk (HB1.out.step hb); clear hb)
            | (go_at_call 29; refine (levels_calls n _).mono ?_; rintro e W3 ⟨rfl, hb⟩; have HB3 := Aside0.mk ((HB2.out.step (below_alloc (Below.refl _ W2) (.cells (vrc v1) 26))).step hb); have HV3 := Aside0.mk (blk_below (heap_alloc_new W2 (.cells (vrc v1) 26)) hb); clear hb)
            | (go_at_call 30; refine (HLA.out _ HB3.out.base).mono ?_; rintro e W4 ⟨rfl, hb⟩; have HB4 := Aside0.mk (HB3.out.step hb); have HV4 := Aside0.mk (blk_below HV3.out hb); clear hb)
            | ((with_reducible refine gate_ (.load 26 (.tmp 41)) rfl ?_); refine load_mid_ev (p := .tmp 41) (i := 1) rfl rfl rfl (heap_alloc_new W4 _) (seg := (vrc t.f1).toList) rfl Tryz.underlying26 rfl (by kernel_rfl) ?_)
            | (go_at_call 31; refine (HCK.out _).mono ?_; rintro e W6 ⟨rfl, hb⟩; have HB6 := Aside0.mk ((HB4.out.step (below_alloc (Below.refl _ W4) (.cells (tgc t) 71))).step hb); have HT6 := Aside0.mk (blk_below (heap_alloc_new W4 (.cells (tgc t) 71)) hb); clear hb)
            | ((with_reducible refine gate_ (.store 30 (.tmp 6) (.tmp 45)) rfl ?_); refine store_ev 30 (.tmp 6) (.tmp 45) rfl rfl rfl 0 (rlc zr).toList (HB6.out.q) rfl rfl rfl (by kernel_rfl) (show 0 + 13 ≤ 13 by decide) (rlc_one _) rfl ?_; intro Wb hb hgb; have HR := Aside0.mk hb; have HBB := Aside0.mk (Below.grown (HB6.out.base) hgb (Below.size (HB6.out.base)) (fun k hk => by cases hk; omega)); clear hb hgb)
            )
          refine bodyPost_ret (results_ct rfl _ _ w.heap.size 30 (rlc zr) (0, 0) _ rfl HR.out Tryz.underlying30 rfl (by kernel_rfl)) rfl ?_
          exact ⟨rfl, HBB.out⟩
        | true =>
          rw [hvk] at HCK
          have HBM := Aside0.mk (fun W => bump_calls t.f1 n W)
          obtain ⟨ub, hub⟩ : ∃ ub, bumpOf t.f1 n = ub := ⟨_, rfl⟩
          rw [hub] at HBM
          obtain ⟨u, eb⟩ := ub
          simp only at HBM
          by_cases he : eb = 0
          · subst he
            have HFT := Aside0.mk (fun (W : World) (hb : Below w.heap.size w W) => mfits_calls p u.f0 u.f1 u.f2 u.f3 u.f4 W (HG.out.below hb))
            rw [show fitsOk p u.f0 u.f1 u.f2 u.f3 u.f4 = vfits p u from rfl] at HFT
            cases hft : vfits p u with
            | false =>
              rw [hft] at HFT
              obtain rfl : bo = (zr, 8) := HBO.out.trans (by rw [hb1, hlv]; simp only [if_true, hvk, hub, hft, Bool.false_eq_true, if_false])
              go_wp2_with (first
                | (go_at_call 10; refine (HFI.out _ HB1.out.base).mono ?_; rintro e W2 ⟨rfl, hb⟩; have HB2 := Aside0.mk (HB1.out.step hb); clear hb)
                | (go_at_call 29; refine (levels_calls n _).mono ?_; rintro e W3 ⟨rfl, hb⟩; have HB3 := Aside0.mk ((HB2.out.step (below_alloc (Below.refl _ W2) (.cells (vrc v1) 26))).step hb); have HV3 := Aside0.mk (blk_below (heap_alloc_new W2 (.cells (vrc v1) 26)) hb); clear hb)
                | (go_at_call 30; refine (HLA.out _ HB3.out.base).mono ?_; rintro e W4 ⟨rfl, hb⟩; have HB4 := Aside0.mk (HB3.out.step hb); have HV4 := Aside0.mk (blk_below HV3.out hb); clear hb)
                | ((with_reducible refine gate_ (.load 26 (.tmp 41)) rfl ?_); refine load_mid_ev (p := .tmp 41) (i := 1) rfl rfl rfl (heap_alloc_new W4 _) (seg := (vrc t.f1).toList) rfl Tryz.underlying26 rfl (by kernel_rfl) ?_)
                | (go_at_call 31; refine (HCK.out _).mono ?_; rintro e W6 ⟨rfl, hb⟩; have HB6 := Aside0.mk ((HB4.out.step (below_alloc (Below.refl _ W4) (.cells (tgc t) 71))).step hb); have HT6 := Aside0.mk (blk_below (heap_alloc_new W4 (.cells (tgc t) 71)) hb); clear hb)
                | ((with_reducible refine gate_ (.load 26 (.tmp 47)) rfl ?_); refine load_mid_ev (p := .tmp 47) (i := 1) rfl rfl rfl (HT6.out) (seg := (vrc t.f1).toList) rfl Tryz.underlying26 rfl (by kernel_rfl) ?_)
                | (go_at_call 32; refine (HBM.out _).mono ?_; rintro e W7 ⟨rfl, hb⟩; have HB7 := Aside0.mk (HB6.out.step hb); have HT7 := Aside0.mk (blk_below HT6.out hb); clear hb)
                | ((with_reducible refine gate_ (.load 26 (.tmp 12)) rfl ?_); refine load_ev (p := .tmp 12) rfl rfl rfl (heap_alloc_new W7 _) Tryz.underlying26 rfl (by kernel_rfl) ?_)
                | (go_at_call 33; refine (HFT.out _ (HB7.out.step (below_alloc (Below.refl _ W7) (.cells (vrc u) 26))).base).mono ?_; rintro e W8 ⟨rfl, hb⟩; have HB8 := Aside0.mk ((HB7.out.step (below_alloc (Below.refl _ W7) (.cells (vrc u) 26))).step hb); have HT8 := Aside0.mk (blk_below (blk_alloc HT7.out (.cells (vrc u) 26)) hb); have HU8 := Aside0.mk (blk_below (heap_alloc_new W7 (.cells (vrc u) 26)) hb); clear hb)
                | ((with_reducible refine gate_ (.store 30 (.tmp 6) (.tmp 63)) rfl ?_); refine store_ev 30 (.tmp 6) (.tmp 63) rfl rfl rfl 0 (rlc zr).toList (HB8.out.q) rfl rfl rfl (by kernel_rfl) (show 0 + 13 ≤ 13 by decide) (rlc_one _) rfl ?_; intro Wb hb hgb; have HR := Aside0.mk hb; have HBB := Aside0.mk (Below.grown (HB8.out.base) hgb (Below.size (HB8.out.base)) (fun k hk => by cases hk; omega)); clear hb hgb)
                )
              refine bodyPost_ret (results_ct rfl _ _ w.heap.size 30 (rlc zr) (0, 0) _ rfl HR.out Tryz.underlying30 rfl (by kernel_rfl)) rfl ?_
              exact ⟨rfl, HBB.out⟩
            | true =>
              rw [hft] at HFT
              obtain rfl : bo = (⟨0, true, t.f1, u, n⟩, 0) := HBO.out.trans (by rw [hb1, hlv]; simp only [if_true, hvk, hub, hft, Bool.false_eq_true, if_false])
              go_wp2_with (first
                | (go_at_call 10; refine (HFI.out _ HB1.out.base).mono ?_; rintro e W2 ⟨rfl, hb⟩; have HB2 := Aside0.mk (HB1.out.step hb); clear hb)
                | (go_at_call 29; refine (levels_calls n _).mono ?_; rintro e W3 ⟨rfl, hb⟩; have HB3 := Aside0.mk ((HB2.out.step (below_alloc (Below.refl _ W2) (.cells (vrc v1) 26))).step hb); have HV3 := Aside0.mk (blk_below (heap_alloc_new W2 (.cells (vrc v1) 26)) hb); clear hb)
                | (go_at_call 30; refine (HLA.out _ HB3.out.base).mono ?_; rintro e W4 ⟨rfl, hb⟩; have HB4 := Aside0.mk (HB3.out.step hb); have HV4 := Aside0.mk (blk_below HV3.out hb); clear hb)
                | ((with_reducible refine gate_ (.load 26 (.tmp 41)) rfl ?_); refine load_mid_ev (p := .tmp 41) (i := 1) rfl rfl rfl (heap_alloc_new W4 _) (seg := (vrc t.f1).toList) rfl Tryz.underlying26 rfl (by kernel_rfl) ?_)
                | (go_at_call 31; refine (HCK.out _).mono ?_; rintro e W6 ⟨rfl, hb⟩; have HB6 := Aside0.mk ((HB4.out.step (below_alloc (Below.refl _ W4) (.cells (tgc t) 71))).step hb); have HT6 := Aside0.mk (blk_below (heap_alloc_new W4 (.cells (tgc t) 71)) hb); clear hb)
                | ((with_reducible refine gate_ (.load 26 (.tmp 47)) rfl ?_); refine load_mid_ev (p := .tmp 47) (i := 1) rfl rfl rfl (HT6.out) (seg := (vrc t.f1).toList) rfl Tryz.underlying26 rfl (by kernel_rfl) ?_)
                | (go_at_call 32; refine (HBM.out _).mono ?_; rintro e W7 ⟨rfl, hb⟩; have HB7 := Aside0.mk (HB6.out.step hb); have HT7 := Aside0.mk (blk_below HT6.out hb); clear hb)
                | ((with_reducible refine gate_dst (N := 60) rfl ?_); refine load_ev (p := .tmp 12) rfl rfl rfl (heap_alloc_new W7 _) Tryz.underlying26 rfl (by kernel_rfl) ?_)
                | (go_at_call 33; refine (HFT.out _ (HB7.out.step (below_alloc (Below.refl _ W7) (.cells (vrc u) 26))).base).mono ?_; rintro e W8 ⟨rfl, hb⟩; have HB8 := Aside0.mk ((HB7.out.step (below_alloc (Below.refl _ W7) (.cells (vrc u) 26))).step hb); have HT8 := Aside0.mk (blk_below (blk_alloc HT7.out (.cells (vrc u) 26)) hb); have HU8 := Aside0.mk (blk_below (heap_alloc_new W7 (.cells (vrc u) 26)) hb); clear hb)
                | ((with_reducible refine gate_ (.load 26 (.tmp 64)) rfl ?_); refine load_mid_ev (p := .tmp 64) (i := 1) rfl rfl rfl (HT8.out) (seg := (vrc t.f1).toList) rfl Tryz.underlying26 rfl (by kernel_rfl) ?_)
                | ((with_reducible refine gate_dst (N := 66) rfl ?_); refine load_ev (p := .tmp 12) rfl rfl rfl HU8.out Tryz.underlying26 rfl (by kernel_rfl) ?_)
                | ((with_reducible refine gate_ (.store 30 (.tmp 6) (.tmp 68)) rfl ?_); refine store_ev 30 (.tmp 6) (.tmp 68) rfl rfl rfl 0 (rlc ⟨0, true, t.f1, u, n⟩).toList (HB8.out.q) rfl rfl rfl (by kernel_rfl) (show 0 + 13 ≤ 13 by decide) (rlc_one _) rfl ?_; intro Wb hb hgb; have HR := Aside0.mk hb; have HBB := Aside0.mk (Below.grown (HB8.out.base) hgb (Below.size (HB8.out.base)) (fun k hk => by cases hk; omega)); clear hb hgb)
                )
              refine bodyPost_ret (results_ct rfl _ _ w.heap.size 30 (rlc ⟨0, true, t.f1, u, n⟩) (0, 0) _ rfl HR.out Tryz.underlying30 rfl (by kernel_rfl)) rfl ?_
              exact ⟨rfl, HBB.out⟩
          · have heb : (eb == 0) = false := beq_eq_false_iff_ne.mpr he
            have heb2 : (eb != 0) = true := bne_iff_ne.mpr he
            obtain rfl : bo = (zr, eb) := HBO.out.trans (by rw [hb1, hlv]; simp only [if_true, hvk, hub, he, if_false])
            clear he
            go_wp2_with (first
              | (go_at_call 10; refine (HFI.out _ HB1.out.base).mono ?_; rintro e W2 ⟨rfl, hb⟩; have HB2 := Aside0.mk (HB1.out.step hb); clear hb)
              | (go_at_call 29; refine (levels_calls n _).mono ?_; rintro e W3 ⟨rfl, hb⟩; have HB3 := Aside0.mk ((HB2.out.step (below_alloc (Below.refl _ W2) (.cells (vrc v1) 26))).step hb); have HV3 := Aside0.mk (blk_below (heap_alloc_new W2 (.cells (vrc v1) 26)) hb); clear hb)
              | (go_at_call 30; refine (HLA.out _ HB3.out.base).mono ?_; rintro e W4 ⟨rfl, hb⟩; have HB4 := Aside0.mk (HB3.out.step hb); have HV4 := Aside0.mk (blk_below HV3.out hb); clear hb)
              | ((with_reducible refine gate_ (.load 26 (.tmp 41)) rfl ?_); refine load_mid_ev (p := .tmp 41) (i := 1) rfl rfl rfl (heap_alloc_new W4 _) (seg := (vrc t.f1).toList) rfl Tryz.underlying26 rfl (by kernel_rfl) ?_)
              | (go_at_call 31; refine (HCK.out _).mono ?_; rintro e W6 ⟨rfl, hb⟩; have HB6 := Aside0.mk ((HB4.out.step (below_alloc (Below.refl _ W4) (.cells (tgc t) 71))).step hb); have HT6 := Aside0.mk (blk_below (heap_alloc_new W4 (.cells (tgc t) 71)) hb); clear hb)
              | ((with_reducible refine gate_ (.load 26 (.tmp 47)) rfl ?_); refine load_mid_ev (p := .tmp 47) (i := 1) rfl rfl rfl (HT6.out) (seg := (vrc t.f1).toList) rfl Tryz.underlying26 rfl (by kernel_rfl) ?_)
              | (go_at_call 32; refine (HBM.out _).mono ?_; rintro e W7 ⟨rfl, hb⟩; have HB7 := Aside0.mk (HB6.out.step hb); have HT7 := Aside0.mk (blk_below HT6.out hb); clear hb)
              | ((with_reducible refine gate_ (.store 30 (.tmp 6) (.tmp 56)) rfl ?_); refine store_ev 30 (.tmp 6) (.tmp 56) rfl rfl rfl 0 (rlc zr).toList ((HB7.out.step (below_alloc (Below.refl _ W7) (.cells (vrc u) 26))).q) rfl rfl rfl (by kernel_rfl) (show 0 + 13 ≤ 13 by decide) (rlc_one _) rfl ?_; intro Wb hb hgb; have HR := Aside0.mk hb; have HBB := Aside0.mk (Below.grown ((HB7.out.step (below_alloc (Below.refl _ W7) (.cells (vrc u) 26))).base) hgb (Below.size ((HB7.out.step (below_alloc (Below.refl _ W7) (.cells (vrc u) 26))).base)) (fun k hk => by cases hk; omega)); clear hb hgb)
              )
            refine bodyPost_ret (results_ct rfl _ _ w.heap.size 30 (rlc zr) (0, 0) _ rfl HR.out Tryz.underlying30 rfl (by kernel_rfl)) rfl ?_
            exact ⟨rfl, HBB.out⟩
end Go.Proofs.YtillhaipemengaaGreatDoor
end
