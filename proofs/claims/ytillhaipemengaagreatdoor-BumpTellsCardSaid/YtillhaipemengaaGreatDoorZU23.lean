/- The texts RBx, BpNext, BpSeq in one file, without what these claims do not use (put together by prune2.py). -/
import Derived.Test.YtillhaipemengaaGreatDoorZU21
import Derived.Test.YtillhaipemengaaGreatDoorZU22
import Derived.Test.YtillhaipemengaaGreatDoorZU18
import Derived.Test.YtillhaipemengaaGreatDoorZU14
import Derived.Test.YtillhaipemengaaGreatDoorZU8
import Derived.Sort.LoopGhostIn
section
namespace Go.Proofs.YtillhaipemengaaGreatDoor.RB
open Go.RowKit Go.Proofs.YtillhaipemengaaGreatDoor Go.Proofs.YtillhaipemengaaGreatDoor.K0 Go.Proofs.YtillhaipemengaaGreatDoor.R1 Go.Proofs.YtillhaipemengaaGreatDoor.R2 Go.Proofs.YtillhaipemengaaGreatDoor.R3 Go.Proofs.YtillhaipemengaaGreatDoor.R4 Go.Proofs.YtillhaipemengaaGreatDoorW.PrintWords Go.Proofs.YtillhaipemengaaGreatDoorW.PrintLast Go.Proofs.YtillhaipemengaaGreatDoorW.PrintMore
attribute [local go_sem] max2_int min2_int max_two min_two max_three min_three max_four min_four
set_option linter.unusedVariables false
set_option linter.unusedSimpArgs false
end Go.Proofs.YtillhaipemengaaGreatDoor.RB
end

section
namespace Go.Proofs.YtillhaipemengaaGreatDoor
open Go Go.RowKit Go.Proofs Go.Proofs.YtillhaipemengaaGreatDoorW.PrintWords Go.Proofs.YtillhaipemengaaGreatDoor.K0 Go.Proofs.YtillhaipemengaaGreatDoor.R1 Go.Proofs.YtillhaipemengaaGreatDoor.R2 Go.Proofs.YtillhaipemengaaGreatDoor.R3 Go.Proofs.YtillhaipemengaaGreatDoor.R4 Go.Proofs.YtillhaipemengaaGreatDoor.RB
set_option linter.unusedVariables false
set_option linter.unusedSimpArgs false
theorem toList_eq_iff (a b : ByteArray) : a.toList = b.toList ↔ a = b := ⟨fun h => by_data (by rw [← ByteArray.toList_eq, ← ByteArray.toList_eq]; exact h), fun h => by rw [h]⟩
theorem first_f (p : ByteArray) (k : Nat) (hk : 100 < k) : bump_First.f k p = some ((firstOf p).1.f0, (firstOf p).1.f1, (firstOf p).1.f2, (firstOf p).1.f3, (firstOf p).1.f4, (firstOf p).2) := by
  unfold bump_First.f firstOf
  rw [mpath_Major_f p k hk]
  simp only [Option.bind_some]
  by_cases h : (majorsOf p).2.2 = true
  · rw [if_pos h, if_pos h]
    by_cases h2 : (majorsOf p).2.1 = 0
    · rw [if_pos h2, if_pos h2]; rfl
    · rw [if_neg h2, if_neg h2]; rfl
  · rw [if_neg h, if_neg h]; rfl
def tz : Tg := ⟨⟨#[]⟩, zv, ⟨#[]⟩⟩
def flatT (b : Option Tg) : ByteArray × Int × Int × Int × ByteArray × ByteArray × ByteArray × Bool := ((b.getD tz).f0, (b.getD tz).f1.f0, (b.getD tz).f1.f1, (b.getD tz).f1.f2, (b.getD tz).f1.f3, (b.getD tz).f1.f4, (b.getD tz).f2, b.isSome)
theorem rdT_at {l : List Tg} {n : Nat} (h : n < l.length) : ∃ x, rd_T71 l (n : Int) = x ∧ l.drop n = x :: l.drop (n + 1) ∧ l[n]? = some x := by
  refine ⟨l[n], ?_, List.drop_eq_getElem_cons h, List.getElem?_eq_getElem h⟩
  unfold rd_T71
  rw [Int.toNat_natCast, List.getD_eq_getElem?_getD, List.getElem?_eq_getElem h]; rfl
theorem latest_l0 (l : List Tg) (p : ByteArray) (hl : l.length ≤ 4294967280) : ∀ (d n k : Nat) (b : Option Tg), l.length - n = d → n ≤ l.length → d + 102 < k →
    ledger_Latest.l0 k p b.isSome l (l.length : Int) (n : Int) (b.getD tz).f0 (b.getD tz).f1.f0 (b.getD tz).f1.f1 (b.getD tz).f1.f2 (b.getD tz).f1.f3 (b.getD tz).f1.f4 (b.getD tz).f2 = some (flatT (latFrom p b (l.drop n))) := by
  intro d
  induction d with
  | zero =>
    intro n k b hd hn hk
    obtain ⟨k, rfl⟩ : ∃ m, k = m + 1 := ⟨k - 1, by omega⟩
    simp only [ledger_Latest.l0]
    rw [if_neg (by omega), List.drop_eq_nil_of_le (by omega)]; rfl
  | succ d ih =>
    intro n k b hd hn hk
    obtain ⟨k, rfl⟩ : ∃ m, k = m + 1 := ⟨k - 1, by omega⟩
    obtain ⟨x, h1, h2, h3⟩ := rdT_at (l := l) (n := n) (by omega)
    have ihx := ih (n + 1) k (some x) (by omega) (by omega) (by omega)
    have ihb := ih (n + 1) k b (by omega) (by omega) (by omega)
    simp only [ledger_Latest.l0]
    rw [if_pos (by omega), if_pos (by omega), if_pos (by omega), h1, wrap_succ (by omega), h2]
    unfold latFrom
    by_cases hp : x.f0 = p
    · rw [if_pos ((toList_eq_iff _ _).2 hp), if_pos hp]
      cases b with
      | none =>
        rw [if_neg (by simp)]
        exact ihx
      | some y =>
        rw [if_pos (by rfl), compare_f _ _ _ _ _ _ _ _ _ _ k (by omega)]
        simp only [Option.bind_some, Option.getD_some]
        show (if vcmp x.f1 y.f1 > 0 then _ else _) = _
        by_cases hc : 0 < vcmp x.f1 y.f1
        · rw [if_pos hc, if_pos hc]
          exact ihx
        · rw [if_neg hc, if_neg hc]
          exact ihb
    · rw [if_neg (fun e => hp ((toList_eq_iff _ _).1 e)), if_neg hp]
      exact ihb
theorem latest_f (l : List Tg) (p : ByteArray) (hl : l.length ≤ 4294967280) (k : Nat) (hk : l.length + 102 < k) : ledger_Latest.f k l p = some (flatT (latT l p)) := by
  have := latest_l0 l p hl _ 0 k none rfl (by omega) (by omega)
  rw [List.drop_zero] at this
  exact this
abbrev tgc (t : Tg) : Array Value := #[.string t.f0, .int .i64 t.f1.f0, .int .i64 t.f1.f1, .int .i64 t.f1.f2, .string t.f1.f3, .string t.f1.f4, .string t.f2]
theorem first_calls (p : ByteArray) (w : World) (hG : GW w) : Calls Tryz.prog 10 #[.string p] w fun e w' => e = .returned (.tuple #[.agg (vrc (firstOf p).1), .bool (firstOf p).2]) ∧ Below w.heap.size w w' :=
  bump_First.calls 101 p _ _ _ _ _ _ w hG (first_f p 101 (by decide))
theorem latest_calls (A1 : Option Addr) (c1 : Nat) (l : List Tg) (p : ByteArray) (w : World) (hG : GW w) (hr : Kd.C k71 w A1 l.length l) (hc : l.length ≤ c1) (hl : l.length ≤ 4294967280) :
    Calls Tryz.prog 30 #[.slice A1 l.length c1, .string p] w fun e w' => e = .returned (.tuple #[.agg (tgc ((latT l p).getD tz)), .bool (latT l p).isSome]) ∧ Below w.heap.size w w' :=
  ledger_Latest.calls (l.length + 103) A1 c1 l p _ _ _ _ _ _ _ _ w hr hc hG (latest_f l p hl _ (by omega))
/-- Next's own block. -/
structure NtIs (w W : World) : Prop where
  base : Below w.heap.size w W
  q : W.heap[w.heap.size]? = some (.cells (rlc zr) 30 (0, 0))
theorem NtIs.step {w W W' : World} (h : NtIs w W) (hb : Below W.heap.size W W') : NtIs w W' := ⟨below_step h.base hb, blk_below h.q hb⟩
set_option maxRecDepth 100000 in
set_option maxHeartbeats 1000000 in
theorem bnext_calls (p : ByteArray) (A1 : Option Addr) (c1 : Nat) (l : List Tg) (n : Int) (w : World) (hG : GW w) (hr : Kd.C k71 w A1 l.length l) (hc : l.length ≤ c1) (hl : l.length ≤ 4294967280) :
    Calls Tryz.prog 12 #[.string p, .slice A1 l.length c1, .int .i64 n] w fun e w' => e = .returned (.tuple #[.agg (rlc (bNext p l n).1), .int .i64 (bNext p l n).2]) ∧ Below w.heap.size w w' := by
  have HFI := Aside0.mk (fun (W : World) (hb : Below w.heap.size w W) => first_calls p W (hG.below hb))
  have HLA := Aside0.mk (fun (W : World) (hb : Below w.heap.size w W) => latest_calls A1 c1 l p W (hG.below hb) (Kd.C_below hr hb) hc hl)
  have HG := Aside0.mk hG
  obtain ⟨bo, hbo⟩ : ∃ bo, bNext p l n = bo := ⟨_, rfl⟩
  rw [hbo]
  unfold bNext at hbo
  generalize latT l p = lt at hbo HLA
  generalize firstOf p = f1 at hbo HFI
  obtain ⟨v1, b1⟩ := f1
  simp only at hbo HFI
  have HBO := Aside0.mk hbo.symm
  generalize l.length = nl at *
  clear hbo hr hc hl hG
  have HB1 := Aside0.mk (show NtIs w (w.alloc (.cells #[.int .i64 0, .bool false, .int .i64 0, .int .i64 0, .int .i64 0, .string ⟨#[]⟩, .string ⟨#[]⟩, .int .i64 0, .int .i64 0, .int .i64 0, .string ⟨#[]⟩, .string ⟨#[]⟩, .int .i64 0] 30)) from ⟨below_alloc (Below.refl _ _) _, heap_alloc_new w _⟩)
  go_enter Tryz.func12, Tryz.ntmps12
  go_upto_region 1 with fail
  generalize w.alloc (.cells #[.int .i64 0, .bool false, .int .i64 0, .int .i64 0, .int .i64 0, .string ⟨#[]⟩, .string ⟨#[]⟩, .int .i64 0, .int .i64 0, .int .i64 0, .string ⟨#[]⟩, .string ⟨#[]⟩, .int .i64 0] 30) = W1 at HB1 ⊢
  cases hb1 : b1 with
  | false =>
    obtain rfl : bo = (zr, 6) := HBO.out.trans (by rw [hb1]; rfl)
    go_wp2_with (first
      | (go_at_call 10; refine (HFI.out _ HB1.out.base).mono ?_; rintro e W2 ⟨rfl, hb⟩; have HB2 := Aside0.mk (HB1.out.step hb); clear hb)
      | ((with_reducible refine gate_ (.store 30 (.tmp 6) (.tmp 22)) rfl ?_); refine store_ev 30 (.tmp 6) (.tmp 22) rfl rfl rfl 0 (rlc zr).toList ((HB2.out.step (below_alloc (Below.refl _ W2) (.cells (vrc v1) 26))).q) rfl rfl rfl (by kernel_rfl) (show 0 + 13 ≤ 13 by decide) (rlc_one _) rfl ?_; intro Wb hb hgb; have HR := Aside0.mk hb; have HBB := Aside0.mk (Below.grown ((HB2.out.step (below_alloc (Below.refl _ W2) (.cells (vrc v1) 26))).base) hgb (Below.size ((HB2.out.step (below_alloc (Below.refl _ W2) (.cells (vrc v1) 26))).base)) (fun k hk => by cases hk; omega)); clear hb hgb)
      )
    refine bodyPost_ret (results_ct rfl _ _ w.heap.size 30 (rlc zr) (0, 0) _ rfl HR.out Tryz.underlying30 rfl (by kernel_rfl)) rfl ?_
    exact ⟨rfl, HBB.out⟩
  | true =>
    cases hlv : lvlOk n with
    | false =>
      obtain rfl : bo = (zr, 1) := HBO.out.trans (by rw [hb1, hlv]; rfl)
      go_wp2_with (first
        | (go_at_call 10; refine (HFI.out _ HB1.out.base).mono ?_; rintro e W2 ⟨rfl, hb⟩; have HB2 := Aside0.mk (HB1.out.step hb); clear hb)
        | (go_at_call 29; refine (levels_calls n _).mono ?_; rintro e W3 ⟨rfl, hb⟩; have HB3 := Aside0.mk ((HB2.out.step (below_alloc (Below.refl _ W2) (.cells (vrc v1) 26))).step hb); have HV3 := Aside0.mk (blk_below (heap_alloc_new W2 (.cells (vrc v1) 26)) hb); clear hb)
        | ((with_reducible refine gate_ (.store 30 (.tmp 6) (.tmp 27)) rfl ?_); refine store_ev 30 (.tmp 6) (.tmp 27) rfl rfl rfl 0 (rlc zr).toList (HB3.out.q) rfl rfl rfl (by kernel_rfl) (show 0 + 13 ≤ 13 by decide) (rlc_one _) rfl ?_; intro Wb hb hgb; have HR := Aside0.mk hb; have HBB := Aside0.mk (Below.grown (HB3.out.base) hgb (Below.size (HB3.out.base)) (fun k hk => by cases hk; omega)); clear hb hgb)
        )
      refine bodyPost_ret (results_ct rfl _ _ w.heap.size 30 (rlc zr) (0, 0) _ rfl HR.out Tryz.underlying30 rfl (by kernel_rfl)) rfl ?_
      exact ⟨rfl, HBB.out⟩
    | true =>
      cases hlt : lt with
      | none =>
        subst hlt
        obtain rfl : bo = (⟨0, false, zv, v1, n⟩, 0) := HBO.out.trans (by rw [hb1, hlv]; rfl)
        simp only [Option.getD_none, Option.isSome_none] at HLA
        go_wp2_with (first
          | (go_at_call 10; refine (HFI.out _ HB1.out.base).mono ?_; rintro e W2 ⟨rfl, hb⟩; have HB2 := Aside0.mk (HB1.out.step hb); clear hb)
          | (go_at_call 29; refine (levels_calls n _).mono ?_; rintro e W3 ⟨rfl, hb⟩; have HB3 := Aside0.mk ((HB2.out.step (below_alloc (Below.refl _ W2) (.cells (vrc v1) 26))).step hb); have HV3 := Aside0.mk (blk_below (heap_alloc_new W2 (.cells (vrc v1) 26)) hb); clear hb)
          | (go_at_call 30; refine (HLA.out _ HB3.out.base).mono ?_; rintro e W4 ⟨rfl, hb⟩; have HB4 := Aside0.mk (HB3.out.step hb); have HV4 := Aside0.mk (blk_below HV3.out hb); clear hb)
          | ((with_reducible refine gate_ (.load 26 (.tmp 8)) rfl ?_); refine load_ev (p := .tmp 8) rfl rfl rfl (blk_alloc HV4.out _) Tryz.underlying26 rfl (by kernel_rfl) ?_)
          | ((with_reducible refine gate_ (.store 30 (.tmp 6) (.tmp 39)) rfl ?_); refine store_ev 30 (.tmp 6) (.tmp 39) rfl rfl rfl 0 (rlc ⟨0, false, zv, v1, n⟩).toList ((HB4.out.step (below_alloc (Below.refl _ W4) (.cells (tgc tz) 71))).q) rfl rfl rfl (by kernel_rfl) (show 0 + 13 ≤ 13 by decide) (rlc_one _) rfl ?_; intro Wb hb hgb; have HR := Aside0.mk hb; have HBB := Aside0.mk (Below.grown ((HB4.out.step (below_alloc (Below.refl _ W4) (.cells (tgc tz) 71))).base) hgb (Below.size ((HB4.out.step (below_alloc (Below.refl _ W4) (.cells (tgc tz) 71))).base)) (fun k hk => by cases hk; omega)); clear hb hgb)
          )
        refine bodyPost_ret (results_ct rfl _ _ w.heap.size 30 (rlc ⟨0, false, zv, v1, n⟩) (0, 0) _ rfl HR.out Tryz.underlying30 rfl (by kernel_rfl)) rfl ?_
        exact ⟨rfl, HBB.out⟩
      | some t =>
        subst hlt
        simp only [Option.getD_some, Option.isSome_some] at HLA
        have HCK := Aside0.mk (fun W => vcheck_calls t.f1.f0 t.f1.f1 t.f1.f2 t.f1.f3 t.f1.f4 W)
        rw [show verOk t.f1.f0 t.f1.f1 t.f1.f2 t.f1.f3 t.f1.f4 = vok t.f1 from rfl] at HCK
        cases hvk : vok t.f1 with
        | false =>
          rw [hvk] at HCK
          obtain rfl : bo = (zr, 7) := HBO.out.trans (by rw [hb1, hlv]; simp only [if_true, hvk, Bool.false_eq_true, if_false])
          go_wp2_with (first
            | (go_at_call 10; refine (HFI.out _ HB1.out.base).mono ?_; rintro e W2 ⟨rfl, hb⟩; have HB2 := Aside0.mk (HB1.out.step hb); clear hb)
            | (go_at_call 29; refine (levels_calls n _).mono ?_; rintro e W3 ⟨rfl, hb⟩; have HB3 := Aside0.mk ((HB2.out.step (below_alloc (Below.refl _ W2) (.cells (vrc v1) 26))).step hb); have HV3 := Aside0.mk (blk_below (heap_alloc_new W2 (.cells (vrc v1) 26)) hb); clear hb)
            | (go_at_call 30; refine (HLA.out _ HB3.out.base).mono ?_; rintro e W4 ⟨rfl, hb⟩; have HB4 := Aside0.mk (HB3.out.step hb); have HV4 := Aside0.mk (blk_below HV3.out hb); clear hb)
            | ((with_reducible refine gate_ (.load 26 (.tmp 41)) rfl ?_); refine load_mid_ev (p := .tmp 41) (i := 1) rfl rfl rfl (heap_alloc_new W4 _) (seg := (vrc t.f1).toList) rfl Tryz.underlying26 rfl (by kernel_rfl) ?_)
            | (go_at_call 31; refine (HCK.out _).mono ?_; rintro e W6 ⟨rfl, hb⟩; have HB6 := Aside0.mk ((HB4.out.step (below_alloc (Below.refl _ W4) (.cells (tgc t) 71))).step hb); have HT6 := Aside0.mk (blk_below (heap_alloc_new W4 (.cells (tgc t) 71)) hb); clear hb)
            | ((with_reducible refine gate_ (.store 30 (.tmp 6) (.tmp 45)) rfl ?_); refine store_ev 30 (.tmp 6) (.tmp 45) rfl rfl rfl 0 (rlc zr).toList (HB6.out.q) rfl rfl rfl (by kernel_rfl) (show 0 + 13 ≤ 13 by decide) (rlc_one _) rfl ?_; intro Wb hb hgb; have HR := Aside0.mk hb; have HBB := Aside0.mk (Below.grown (HB6.out.base) hgb (Below.size (HB6.out.base)) (fun k hk => by cases hk; omega)); clear hb hgb)
            )
          refine bodyPost_ret (results_ct rfl _ _ w.heap.size 30 (rlc zr) (0, 0) _ rfl HR.out Tryz.underlying30 rfl (by kernel_rfl)) rfl ?_
          exact ⟨rfl, HBB.out⟩
        | true =>
          rw [hvk] at HCK
          have HBM := Aside0.mk (fun W => bump_calls t.f1 n W)
          obtain ⟨ub, hub⟩ : ∃ ub, bumpOf t.f1 n = ub := ⟨_, rfl⟩
          rw [hub] at HBM
          obtain ⟨u, eb⟩ := ub
          simp only at HBM
          by_cases he : eb = 0
          · subst he
            have HFT := Aside0.mk (fun (W : World) (hb : Below w.heap.size w W) => mfits_calls p u.f0 u.f1 u.f2 u.f3 u.f4 W (HG.out.below hb))
            rw [show fitsOk p u.f0 u.f1 u.f2 u.f3 u.f4 = vfits p u from rfl] at HFT
            cases hft : vfits p u with
            | false =>
              rw [hft] at HFT
              obtain rfl : bo = (zr, 8) := HBO.out.trans (by rw [hb1, hlv]; simp only [if_true, hvk, hub, hft, Bool.false_eq_true, if_false])
              go_wp2_with (first
                | (go_at_call 10; refine (HFI.out _ HB1.out.base).mono ?_; rintro e W2 ⟨rfl, hb⟩; have HB2 := Aside0.mk (HB1.out.step hb); clear hb)
                | (go_at_call 29; refine (levels_calls n _).mono ?_; rintro e W3 ⟨rfl, hb⟩; have HB3 := Aside0.mk ((HB2.out.step (below_alloc (Below.refl _ W2) (.cells (vrc v1) 26))).step hb); have HV3 := Aside0.mk (blk_below (heap_alloc_new W2 (.cells (vrc v1) 26)) hb); clear hb)
                | (go_at_call 30; refine (HLA.out _ HB3.out.base).mono ?_; rintro e W4 ⟨rfl, hb⟩; have HB4 := Aside0.mk (HB3.out.step hb); have HV4 := Aside0.mk (blk_below HV3.out hb); clear hb)
                | ((with_reducible refine gate_ (.load 26 (.tmp 41)) rfl ?_); refine load_mid_ev (p := .tmp 41) (i := 1) rfl rfl rfl (heap_alloc_new W4 _) (seg := (vrc t.f1).toList) rfl Tryz.underlying26 rfl (by kernel_rfl) ?_)
                | (go_at_call 31; refine (HCK.out _).mono ?_; rintro e W6 ⟨rfl, hb⟩; have HB6 := Aside0.mk ((HB4.out.step (below_alloc (Below.refl _ W4) (.cells (tgc t) 71))).step hb); have HT6 := Aside0.mk (blk_below (heap_alloc_new W4 (.cells (tgc t) 71)) hb); clear hb)
                | ((with_reducible refine gate_ (.load 26 (.tmp 47)) rfl ?_); refine load_mid_ev (p := .tmp 47) (i := 1) rfl rfl rfl (HT6.out) (seg := (vrc t.f1).toList) rfl Tryz.underlying26 rfl (by kernel_rfl) ?_)
                | (go_at_call 32; refine (HBM.out _).mono ?_; rintro e W7 ⟨rfl, hb⟩; have HB7 := Aside0.mk (HB6.out.step hb); have HT7 := Aside0.mk (blk_below HT6.out hb); clear hb)
                | ((with_reducible refine gate_ (.load 26 (.tmp 12)) rfl ?_); refine load_ev (p := .tmp 12) rfl rfl rfl (heap_alloc_new W7 _) Tryz.underlying26 rfl (by kernel_rfl) ?_)
                | (go_at_call 33; refine (HFT.out _ (HB7.out.step (below_alloc (Below.refl _ W7) (.cells (vrc u) 26))).base).mono ?_; rintro e W8 ⟨rfl, hb⟩; have HB8 := Aside0.mk ((HB7.out.step (below_alloc (Below.refl _ W7) (.cells (vrc u) 26))).step hb); have HT8 := Aside0.mk (blk_below (blk_alloc HT7.out (.cells (vrc u) 26)) hb); have HU8 := Aside0.mk (blk_below (heap_alloc_new W7 (.cells (vrc u) 26)) hb); clear hb)
                | ((with_reducible refine gate_ (.store 30 (.tmp 6) (.tmp 63)) rfl ?_); refine store_ev 30 (.tmp 6) (.tmp 63) rfl rfl rfl 0 (rlc zr).toList (HB8.out.q) rfl rfl rfl (by kernel_rfl) (show 0 + 13 ≤ 13 by decide) (rlc_one _) rfl ?_; intro Wb hb hgb; have HR := Aside0.mk hb; have HBB := Aside0.mk (Below.grown (HB8.out.base) hgb (Below.size (HB8.out.base)) (fun k hk => by cases hk; omega)); clear hb hgb)
                )
              refine bodyPost_ret (results_ct rfl _ _ w.heap.size 30 (rlc zr) (0, 0) _ rfl HR.out Tryz.underlying30 rfl (by kernel_rfl)) rfl ?_
              exact ⟨rfl, HBB.out⟩
            | true =>
              rw [hft] at HFT
              obtain rfl : bo = (⟨0, true, t.f1, u, n⟩, 0) := HBO.out.trans (by rw [hb1, hlv]; simp only [if_true, hvk, hub, hft, Bool.false_eq_true, if_false])
              go_wp2_with (first
                | (go_at_call 10; refine (HFI.out _ HB1.out.base).mono ?_; rintro e W2 ⟨rfl, hb⟩; have HB2 := Aside0.mk (HB1.out.step hb); clear hb)
                | (go_at_call 29; refine (levels_calls n _).mono ?_; rintro e W3 ⟨rfl, hb⟩; have HB3 := Aside0.mk ((HB2.out.step (below_alloc (Below.refl _ W2) (.cells (vrc v1) 26))).step hb); have HV3 := Aside0.mk (blk_below (heap_alloc_new W2 (.cells (vrc v1) 26)) hb); clear hb)
                | (go_at_call 30; refine (HLA.out _ HB3.out.base).mono ?_; rintro e W4 ⟨rfl, hb⟩; have HB4 := Aside0.mk (HB3.out.step hb); have HV4 := Aside0.mk (blk_below HV3.out hb); clear hb)
                | ((with_reducible refine gate_ (.load 26 (.tmp 41)) rfl ?_); refine load_mid_ev (p := .tmp 41) (i := 1) rfl rfl rfl (heap_alloc_new W4 _) (seg := (vrc t.f1).toList) rfl Tryz.underlying26 rfl (by kernel_rfl) ?_)
                | (go_at_call 31; refine (HCK.out _).mono ?_; rintro e W6 ⟨rfl, hb⟩; have HB6 := Aside0.mk ((HB4.out.step (below_alloc (Below.refl _ W4) (.cells (tgc t) 71))).step hb); have HT6 := Aside0.mk (blk_below (heap_alloc_new W4 (.cells (tgc t) 71)) hb); clear hb)
                | ((with_reducible refine gate_ (.load 26 (.tmp 47)) rfl ?_); refine load_mid_ev (p := .tmp 47) (i := 1) rfl rfl rfl (HT6.out) (seg := (vrc t.f1).toList) rfl Tryz.underlying26 rfl (by kernel_rfl) ?_)
                | (go_at_call 32; refine (HBM.out _).mono ?_; rintro e W7 ⟨rfl, hb⟩; have HB7 := Aside0.mk (HB6.out.step hb); have HT7 := Aside0.mk (blk_below HT6.out hb); clear hb)
                | ((with_reducible refine gate_dst (N := 60) rfl ?_); refine load_ev (p := .tmp 12) rfl rfl rfl (heap_alloc_new W7 _) Tryz.underlying26 rfl (by kernel_rfl) ?_)
                | (go_at_call 33; refine (HFT.out _ (HB7.out.step (below_alloc (Below.refl _ W7) (.cells (vrc u) 26))).base).mono ?_; rintro e W8 ⟨rfl, hb⟩; have HB8 := Aside0.mk ((HB7.out.step (below_alloc (Below.refl _ W7) (.cells (vrc u) 26))).step hb); have HT8 := Aside0.mk (blk_below (blk_alloc HT7.out (.cells (vrc u) 26)) hb); have HU8 := Aside0.mk (blk_below (heap_alloc_new W7 (.cells (vrc u) 26)) hb); clear hb)
                | ((with_reducible refine gate_ (.load 26 (.tmp 64)) rfl ?_); refine load_mid_ev (p := .tmp 64) (i := 1) rfl rfl rfl (HT8.out) (seg := (vrc t.f1).toList) rfl Tryz.underlying26 rfl (by kernel_rfl) ?_)
                | ((with_reducible refine gate_dst (N := 66) rfl ?_); refine load_ev (p := .tmp 12) rfl rfl rfl HU8.out Tryz.underlying26 rfl (by kernel_rfl) ?_)
                | ((with_reducible refine gate_ (.store 30 (.tmp 6) (.tmp 68)) rfl ?_); refine store_ev 30 (.tmp 6) (.tmp 68) rfl rfl rfl 0 (rlc ⟨0, true, t.f1, u, n⟩).toList (HB8.out.q) rfl rfl rfl (by kernel_rfl) (show 0 + 13 ≤ 13 by decide) (rlc_one _) rfl ?_; intro Wb hb hgb; have HR := Aside0.mk hb; have HBB := Aside0.mk (Below.grown (HB8.out.base) hgb (Below.size (HB8.out.base)) (fun k hk => by cases hk; omega)); clear hb hgb)
                )
              refine bodyPost_ret (results_ct rfl _ _ w.heap.size 30 (rlc ⟨0, true, t.f1, u, n⟩) (0, 0) _ rfl HR.out Tryz.underlying30 rfl (by kernel_rfl)) rfl ?_
              exact ⟨rfl, HBB.out⟩
          · have heb : (eb == 0) = false := beq_eq_false_iff_ne.mpr he
            have heb2 : (eb != 0) = true := bne_iff_ne.mpr he
            obtain rfl : bo = (zr, eb) := HBO.out.trans (by rw [hb1, hlv]; simp only [if_true, hvk, hub, he, if_false])
            clear he
            go_wp2_with (first
              | (go_at_call 10; refine (HFI.out _ HB1.out.base).mono ?_; rintro e W2 ⟨rfl, hb⟩; have HB2 := Aside0.mk (HB1.out.step hb); clear hb)
              | (go_at_call 29; refine (levels_calls n _).mono ?_; rintro e W3 ⟨rfl, hb⟩; have HB3 := Aside0.mk ((HB2.out.step (below_alloc (Below.refl _ W2) (.cells (vrc v1) 26))).step hb); have HV3 := Aside0.mk (blk_below (heap_alloc_new W2 (.cells (vrc v1) 26)) hb); clear hb)
              | (go_at_call 30; refine (HLA.out _ HB3.out.base).mono ?_; rintro e W4 ⟨rfl, hb⟩; have HB4 := Aside0.mk (HB3.out.step hb); have HV4 := Aside0.mk (blk_below HV3.out hb); clear hb)
              | ((with_reducible refine gate_ (.load 26 (.tmp 41)) rfl ?_); refine load_mid_ev (p := .tmp 41) (i := 1) rfl rfl rfl (heap_alloc_new W4 _) (seg := (vrc t.f1).toList) rfl Tryz.underlying26 rfl (by kernel_rfl) ?_)
              | (go_at_call 31; refine (HCK.out _).mono ?_; rintro e W6 ⟨rfl, hb⟩; have HB6 := Aside0.mk ((HB4.out.step (below_alloc (Below.refl _ W4) (.cells (tgc t) 71))).step hb); have HT6 := Aside0.mk (blk_below (heap_alloc_new W4 (.cells (tgc t) 71)) hb); clear hb)
              | ((with_reducible refine gate_ (.load 26 (.tmp 47)) rfl ?_); refine load_mid_ev (p := .tmp 47) (i := 1) rfl rfl rfl (HT6.out) (seg := (vrc t.f1).toList) rfl Tryz.underlying26 rfl (by kernel_rfl) ?_)
              | (go_at_call 32; refine (HBM.out _).mono ?_; rintro e W7 ⟨rfl, hb⟩; have HB7 := Aside0.mk (HB6.out.step hb); have HT7 := Aside0.mk (blk_below HT6.out hb); clear hb)
              | ((with_reducible refine gate_ (.store 30 (.tmp 6) (.tmp 56)) rfl ?_); refine store_ev 30 (.tmp 6) (.tmp 56) rfl rfl rfl 0 (rlc zr).toList ((HB7.out.step (below_alloc (Below.refl _ W7) (.cells (vrc u) 26))).q) rfl rfl rfl (by kernel_rfl) (show 0 + 13 ≤ 13 by decide) (rlc_one _) rfl ?_; intro Wb hb hgb; have HR := Aside0.mk hb; have HBB := Aside0.mk (Below.grown ((HB7.out.step (below_alloc (Below.refl _ W7) (.cells (vrc u) 26))).base) hgb (Below.size ((HB7.out.step (below_alloc (Below.refl _ W7) (.cells (vrc u) 26))).base)) (fun k hk => by cases hk; omega)); clear hb hgb)
              )
            refine bodyPost_ret (results_ct rfl _ _ w.heap.size 30 (rlc zr) (0, 0) _ rfl HR.out Tryz.underlying30 rfl (by kernel_rfl)) rfl ?_
            exact ⟨rfl, HBB.out⟩
end Go.Proofs.YtillhaipemengaaGreatDoor
end

section
namespace Go.Proofs.YtillhaipemengaaGreatDoor
open Go Go.RowKit Go.Sort Go.Shelf Go.Proofs Go.Proofs.YtillhaipemengaaGreatDoorW.PrintWords Go.Proofs.YtillhaipemengaaGreatDoor.K0
attribute [local go_sem] Oper.semAt_some
set_option linter.unusedVariables false
set_option linter.unusedSimpArgs false
abbrev enc2 (x : Rl × Int) : Array Value := #[.agg (rlc x.1), .int .i64 x.2]
/-- What the iterator leans on. -/
structure RlEnv (l : List Md) (tg : List Tg) (ws : List Wt) (order ups : List Int) (A0 A1 A3 Ao Au : Option Addr) (c0 c1 c3 co cu bo bu bp : Nat) (W : World) : Prop where
  cO : W.cell? ⟨bo, 0, none⟩ = some (.slice Ao order.length co)
  cU : W.cell? ⟨bu, 0, none⟩ = some (.slice Au ups.length cu)
  cP : W.heap[bp]? = some (.cells (plc A0 A1 A3 l.length c0 tg.length c1 ws.length c3) 86 (0, 0))
  rO : Kd.C (Kd.int .i64) W Ao order.length order
  rU : Kd.C (Kd.int .i64) W Au ups.length ups
  r0 : Kd.C k63 W A0 l.length l
  r1 : Kd.C k71 W A1 tg.length tg
  r3 : Kd.C k72 W A3 ws.length ws
  hG : GW W
section
variable {l : List Md} {tg : List Tg} {ws : List Wt} {order ups : List Int} {A0 A1 A3 Ao Au : Option Addr} {c0 c1 c3 co cu bo bu bp : Nat}
theorem RlEnv.below {W W' : World} (h : RlEnv l tg ws order ups A0 A1 A3 Ao Au c0 c1 c3 co cu bo bu bp W) (hb : Below W.heap.size W W') : RlEnv l tg ws order ups A0 A1 A3 Ao Au c0 c1 c3 co cu bo bu bp W' :=
  ⟨below_cell hb h.cO, below_cell hb h.cU, blk_below h.cP hb, Kd.C_below h.rO hb, Kd.C_below h.rU hb, Kd.C_below h.r0 hb, Kd.C_below h.r1 hb, Kd.C_below h.r3 hb, h.hG.below hb⟩
theorem fil_up {p : Int → Bool} {f : Int → Rl × Int} {o : List Int} {k : Nat} {z : Int} (h : o[k]? = some z) : (((o.take (k + 1)).filter p).map f) = if p z = true then ((o.take k).filter p).map f ++ [f z] else ((o.take k).filter p).map f := by
  rw [List.take_add_one, h, List.filter_append, List.map_append]
  cases hp : p z <;> simp [hp]
theorem fil_pre {p : Int → Bool} {f : Int → Rl × Int} {o : List Int} {k : Nat} : (((o.take k).filter p).map f) <+: ((o.filter p).map f) :=
  ⟨((o.drop k).filter p).map f, by rw [← List.map_append, ← List.filter_append, List.take_append_drop]⟩
set_option maxRecDepth 100000 in
set_option maxHeartbeats 4000000 in
theorem released_has (w : World) (keep : Nat → Prop) (hol : order.length ≤ 4294967290) (hin : ∀ z ∈ order, 0 ≤ z ∧ z.toNat < l.length) (ht : tg.length ≤ 4294967280) (hc1 : tg.length ≤ c1)
    (henv : ∀ W, w.heap.size ≤ W.heap.size → (∀ k, keep k → W.heap[k]? = w.heap[k]?) → RlEnv l tg ws order ups A0 A1 A3 Ao Au c0 c1 c3 co cu bo bu bp W) (hkl : ∀ k, keep k → k < w.heap.size) :
    SeqHas Tryz.prog 81 #[.pointer (some ⟨bo, 0, none⟩), .pointer (some ⟨bu, 0, none⟩), .pointer (some ⟨bp, 0, none⟩)] enc2 ((order.filter fun z => ups.contains z).map (relAt l tg ws)) keep (fun _ => False) w := by
  obtain ⟨full, hfull⟩ : ∃ full, ((order.filter fun z => ups.contains z).map (relAt l tg ws)) = full := ⟨_, rfl⟩
  have HFU := Aside0.mk hfull
  rw [hfull]
  clear hfull
  intro l' J Jx W hW hkeep hJ hJx hY h0
  have E0 := henv W hW hkeep
  have hcont := fun (z : Int) (W : World) (E : RlEnv l tg ws order ups A0 A1 A3 Ao Au c0 c1 c3 co cu bo bu bp W) => Contains_Int Au cu ups z W E.rU
  have hnext := fun (z : Nat) (m : Md) (hm : l[z]? = some m) (W : World) (E : RlEnv l tg ws order ups A0 A1 A3 Ao Au c0 c1 c3 co cu bo bu bp W) => next_calls A0 A1 A3 c0 c1 c3 l tg ws z m W E.r0 E.r3 hm (fun n W' hb => bnext_calls m.f1 A1 c1 tg n W' (E.hG.below hb) (Kd.C_below E.r1 hb) hc1 ht)
  obtain ⟨n, hn⟩ : ∃ n, n = order.length := ⟨_, rfl⟩
  have hoc := E0.cO
  rw [← hn] at hoc hol
  have HN := Aside0.mk hn
  have HE := Aside0.mk henv
  have HC := Aside0.mk hcont
  have HX := Aside0.mk hnext
  have HY := Aside0.mk hY
  have HI := Aside0.mk hin
  have HJ := Aside0.mk hJ
  clear henv hcont hnext hY hin E0 hn hJ
  refine callsIn_of_wp Tryz.func81 rfl trivial ?_ rfl
  simp only [Tryz.ntmps81, List.size_toArray, List.length_cons, List.length_nil, Nat.reduceAdd, Nat.reduceSub, Array.replicate_succ, Array.replicate_zero, List.push_toArray, List.append_toArray, List.nil_append, List.cons_append]
  gi_wp2
  gi_loopg [6, 9] n (fun gg s6 s9 wr => ∃ kk : Nat, kk ≤ n ∧ n - kk ≤ gg ∧ s9 = .int .i64 kk ∧ Aside0 (J (((order.take kk).filter fun z => ups.contains z).map (relAt l tg ws)) wr) ∧ Aside0 (w.heap.size ≤ wr.heap.size ∧ ∀ k, keep k → wr.heap[k]? = w.heap[k]?))
  case atStart => exact ⟨0, Nat.zero_le _, by omega, rfl, ⟨h0⟩, ⟨hW, hkeep⟩⟩
  case round =>
    clear hoc
    obtain ⟨kk, hkk, hg, rfl, HJW, HK⟩ := hrel
    have E1 := Aside0.mk (HE.out wr HK.out.1 HK.out.2)
    by_cases hlt : kk < n
    · have hltz : (kk : Int) < (n : Int) := by omega
      obtain ⟨z, hz⟩ : ∃ z, order[kk]? = some z := ⟨_, List.getElem?_eq_getElem (by have := HN.out; omega)⟩
      obtain ⟨hz0, hzl⟩ := HI.out z (List.mem_of_getElem? hz)
      obtain ⟨m, hm⟩ : ∃ m, l[z.toNat]? = some m := ⟨_, List.getElem?_eq_getElem hzl⟩
      have hnx := HX.out z.toNat m hm
      rw [Int.toNat_of_nonneg hz0] at hnx
      obtain ⟨ad, cs, hA, _, hKc, hcell⟩ := Kd.C_get E1.out.rO (0 : Int) (kk : Int) (by omega) (by have := HN.out; omega)
      have hxe : order.getD (kk : Int).toNat 0 = z := by
        rw [Int.toNat_natCast, List.getD_eq_getElem?_getD, hz]; rfl
      rw [hxe] at hKc
      obtain rfl : cs = [.int .i64 z] := hKc
      have h0' : wr.cell? (ad.add kk) = some (.int .i64 z) := by
        have := hcell 0 _ rfl
        rw [Int.toNat_natCast, show (Kd.int .i64).sz = 1 from rfl] at this
        simpa using this
      have hup := fil_up (p := fun z => ups.contains z) (f := relAt l tg ws) hz
      subst hA
      have hcu := E1.out.cU
      have HNXT := Aside0.mk hnx
      have HUP := Aside0.mk hup
      clear hxe hcell hm hnx hup hzl hz
      cases hq : ups.contains z with
      | false =>
        have hco := HC.out z wr E1.out
        rw [hq] at hco
        have HUP2 : Aside0 ((((order.take (kk + 1)).filter fun z => ups.contains z).map (relAt l tg ws)) = (((order.take kk).filter fun z => ups.contains z).map (relAt l tg ws))) := ⟨HUP.out.trans (if_neg (by rw [hq]; simp))⟩
        gi_wp2_with (refine ⟨trivial, rfl, ?_⟩; gi_at_call 82; refine (callsIn_wide.2 hco).mono ?_; rintro e w2 ⟨rfl, hb2⟩; have HB2 := Aside0.mk hb2; clear hb2)
        refine ⟨trivial, ?_⟩
        gi_wp2
        refine ⟨fun _ h => (by cases h), ?_⟩
        gi_wp2
        gi_roundg (n - (kk + 1))
        case measure => omega
        case rel => exact ⟨kk + 1, by omega, by omega, by go_num, ⟨by rw [HUP2.out]; exact HJ.out _ _ _ HJW.out (Moves.of_below HB2.out)⟩, ⟨Nat.le_trans HK.out.1 HB2.out.size, fun k hk => (HB2.out.block k (by have := hkl k hk; have := HK.out.1; omega)).trans (HK.out.2 k hk)⟩⟩
      | true =>
        have hco := HC.out z wr E1.out
        rw [hq] at hco
        have HUP2 : Aside0 ((((order.take (kk + 1)).filter fun z => ups.contains z).map (relAt l tg ws)) = (((order.take kk).filter fun z => ups.contains z).map (relAt l tg ws)) ++ [relAt l tg ws z]) := ⟨HUP.out.trans (if_pos hq)⟩
        have hpre : (((order.take kk).filter fun z => ups.contains z).map (relAt l tg ws)) ++ [relAt l tg ws z] <+: full := by rw [← HUP2.out, ← HFU.out]; exact fil_pre
        have HPRE := Aside0.mk hpre
        clear hpre hq
        gi_wp2_with (first | (refine ⟨trivial, rfl, ?_⟩; gi_at_call 82; refine (callsIn_wide.2 hco).mono ?_; rintro e w2 ⟨rfl, hb2⟩; have E2 := Aside0.mk (E1.out.below hb2); have HJ2 := Aside0.mk (HJ.out _ _ _ HJW.out (Moves.of_below hb2)); have HK2 : Aside0 (w.heap.size ≤ w2.heap.size ∧ ∀ k, keep k → w2.heap[k]? = w.heap[k]?) := ⟨⟨Nat.le_trans HK.out.1 hb2.size, fun k hk => (hb2.block k (by have := hkl k hk; have := HK.out.1; omega)).trans (HK.out.2 k hk)⟩⟩; have p0 := blk_cell E2.out.cP 0; have p1 := blk_cell E2.out.cP 1; have p2 := blk_cell E2.out.cP 2; clear hb2 hcu h0') | (refine ⟨trivial, rfl, ?_⟩; gi_at_call 83; refine (callsIn_wide.2 (HNXT.out _ E2.out)).mono ?_; rintro e w3 ⟨rfl, hb3⟩; have HJ3 := Aside0.mk (HJ.out _ _ _ HJ2.out (Moves.of_below hb3)); have HK3 : Aside0 (w.heap.size ≤ w3.heap.size ∧ ∀ k, keep k → w3.heap[k]? = w.heap[k]?) := ⟨⟨Nat.le_trans HK2.out.1 hb3.size, fun k hk => (hb3.block k (by have := hkl k hk; have := HK2.out.1; omega)).trans (HK2.out.2 k hk)⟩⟩; obtain ⟨fn, tmps, assign, body, hy, hR⟩ := HY.out _ _ w3 HJ3.out HPRE.out; clear hb3 p0 p1 p2))
        refine ⟨rfl, hR.mono ?_⟩
        rintro e W4 (⟨rfl, hJ4, hz4, hk4⟩ | ⟨rfl, hJx4⟩)
        · have HJ4 := Aside0.mk hJ4
          have HK4 : Aside0 (w.heap.size ≤ W4.heap.size ∧ ∀ k, keep k → W4.heap[k]? = w.heap[k]?) := ⟨⟨Nat.le_trans HK3.out.1 hz4, fun k hk => (hk4 k hk).trans (HK3.out.2 k hk)⟩⟩
          clear hJ4 hz4 hk4 hy hR
          gi_wp2
          gi_roundg (n - (kk + 1))
          case measure => omega
          case rel => exact ⟨kk + 1, by omega, by omega, by go_num, ⟨by rw [HUP2.out]; exact HJ4.out⟩, HK4⟩
        · have HX4 := Aside0.mk hJx4
          clear hJx4 hy hR
          gi_wp2
          refine bodyPost_ret (results_none rfl _ _ _) rfl ?_
          exact ⟨⟨_, rfl⟩, .inr ⟨_, HPRE.out, HX4.out⟩⟩
    · have hltz : ¬ (kk : Int) < (n : Int) := by omega
      have : kk = n := by omega
      subst this
      gi_wp2
      go_end0
      refine ⟨⟨_, rfl⟩, .inl ?_⟩
      have h := HJW.out
      rw [List.take_of_length_le (by have := HN.out; omega), HFU.out] at h
      exact h
end
end Go.Proofs.YtillhaipemengaaGreatDoor
end
