/- The texts MnEd in one file, without what these claims do not use (put together by prune2.py). -/
import Derived.Test.YtmbpefnhkimplaaGreatDoorZE36
import Derived.Test.YtmbpefnhkimplaaGreatDoorZE37
section
namespace Go.Proofs.YtmbpefnhkimplaaGreatDoor
open Go Go.RowKit Go.Sort Go.Maps Go.Proofs Go.Proofs.YtmbpefnhkimplaaGreatDoorW.PrintWords Go.Proofs.YtmbpefnhkimplaaGreatDoorW.PrintLast Go.Proofs.YtmbpefnhkimplaaGreatDoor.K0 Go.Proofs.YtmbpefnhkimplaaGreatDoor.R1 Go.Proofs.YtmbpefnhkimplaaGreatDoor.R2
set_option linter.unusedVariables false
set_option linter.unusedSimpArgs false
theorem cat_ok {n : Nat} (h : n ≤ 10000000) : (n ≤ 9223372036854775807) = True ∧ decide (n ≤ 9223372036854775807) = true ∧ (9223372036854775807 < n) = False :=
  ⟨eq_true (by omega), decide_eq_true (by omega), eq_false (by omega)⟩
/-- An edit of a text that is a manifest, by what is made of a place. -/
def edP (s : ByteArray) (r : Rq) (out : Int × Int × Bool → ByteArray × Int) : ByteArray × Int := if (maniP s).2.2 ≠ 0 then (⟨#[]⟩, (maniP s).2.2) else if rightP r ≠ 0 then (⟨#[]⟩, rightP r) else out (whereP s r.f0)
def setE (s : ByteArray) (r : Rq) (a : Int × Int × Bool) : ByteArray × Int := if a.2.2 = true then (s.extract 0 a.1.toNat ++ txV r.f1 ++ s.extract a.2.1.toNat s.size, 0) else (⟨#[]⟩, 5)
def setP (s : ByteArray) (r : Rq) : ByteArray × Int := edP s r (setE s r)
theorem rightly_calls (r : Rq) (w : World) (hG : GW w) : Calls Tryz.prog 57 #[.agg (rqv r)] w fun e w' => e = .returned (.int .i64 (rightP r)) ∧ Below w.heap.size w w' := by
  have HB1 := Aside0.mk (below_alloc (Below.refl w.heap.size w) (.cells (rqv r) 25))
  have HR1 := Aside0.mk (heap_alloc_new w (.cells (rqv r) 25))
  have HCK := Aside0.mk (fun W (h : Below w.heap.size w W) => mcheck_calls r.f0 W (hG.below h))
  have HVC := Aside0.mk (fun (W : World) => ver_Check.calls 101 r.f1.f0 r.f1.f1 r.f1.f2 r.f1.f3 r.f1.f4 _ W (ver_Check_f r.f1.f0 r.f1.f1 r.f1.f2 r.f1.f3 r.f1.f4 101 (by decide)))
  have HFT := Aside0.mk (fun W (h : Below w.heap.size w W) => mfits_calls r.f0 r.f1.f0 r.f1.f1 r.f1.f2 r.f1.f3 r.f1.f4 W (hG.below h))
  have HE : Aside0 (rightP r = if checkOk r.f0 = false then 6 else if verOk r.f1.f0 r.f1.f1 r.f1.f2 r.f1.f3 r.f1.f4 = false then 7 else if fitsOk r.f0 r.f1.f0 r.f1.f1 r.f1.f2 r.f1.f3 r.f1.f4 = false then 8 else 0) := ⟨rfl⟩
  generalize rightP r = ro at HE ⊢
  generalize checkOk r.f0 = b1 at HCK HE
  generalize verOk r.f1.f0 r.f1.f1 r.f1.f2 r.f1.f3 r.f1.f4 = b2 at HVC HE
  generalize fitsOk r.f0 r.f1.f0 r.f1.f1 r.f1.f2 r.f1.f3 r.f1.f4 = b3 at HFT HE
  clear hG
  go_enter Tryz.func57, Tryz.ntmps57
  go_upto_region 1 with fail
  generalize w.alloc (.cells (rqv r) 25) = W1 at HB1 HR1 ⊢
  obtain ⟨z0, z1, z2, z3, z4, z5⟩ : W1.cell? ⟨w.heap.size, 0, none⟩ = some (.string r.f0) ∧ W1.cell? ⟨w.heap.size, 1, none⟩ = some (.int .i64 r.f1.f0) ∧ W1.cell? ⟨w.heap.size, 2, none⟩ = some (.int .i64 r.f1.f1) ∧ W1.cell? ⟨w.heap.size, 3, none⟩ = some (.int .i64 r.f1.f2) ∧ W1.cell? ⟨w.heap.size, 4, none⟩ = some (.string r.f1.f3) ∧ W1.cell? ⟨w.heap.size, 5, none⟩ = some (.string r.f1.f4) := ⟨(blk_cell HR1.out 0).trans rfl, (blk_cell HR1.out 1).trans rfl, (blk_cell HR1.out 2).trans rfl, (blk_cell HR1.out 3).trans rfl, (blk_cell HR1.out 4).trans rfl, (blk_cell HR1.out 5).trans rfl⟩
  cases b1 with
  | false =>
    go_wp2_with (go_at_call 83; with_reducible refine (HCK.out _ HB1.out).mono ?_; rintro e W2 ⟨rfl, hb⟩; have HB2 := Aside0.mk (below_step HB1.out hb); clear hb)
    go_ret
    exact ⟨by rw [HE.out]; rfl, HB2.out⟩
  | true =>
    cases b2 with
    | false =>
      go_wp2_with (first | (go_at_call 83; with_reducible refine (HCK.out _ HB1.out).mono ?_; rintro e W2 ⟨rfl, hb⟩; have HB2 := Aside0.mk (below_step HB1.out hb); have HR2 := Aside0.mk (blk_below HR1.out hb); obtain ⟨y0, y1, y2, y3, y4, y5⟩ : W2.cell? ⟨w.heap.size, 0, none⟩ = some (.string r.f0) ∧ W2.cell? ⟨w.heap.size, 1, none⟩ = some (.int .i64 r.f1.f0) ∧ W2.cell? ⟨w.heap.size, 2, none⟩ = some (.int .i64 r.f1.f1) ∧ W2.cell? ⟨w.heap.size, 3, none⟩ = some (.int .i64 r.f1.f2) ∧ W2.cell? ⟨w.heap.size, 4, none⟩ = some (.string r.f1.f3) ∧ W2.cell? ⟨w.heap.size, 5, none⟩ = some (.string r.f1.f4) := ⟨(blk_cell HR2.out 0).trans rfl, (blk_cell HR2.out 1).trans rfl, (blk_cell HR2.out 2).trans rfl, (blk_cell HR2.out 3).trans rfl, (blk_cell HR2.out 4).trans rfl, (blk_cell HR2.out 5).trans rfl⟩; clear hb) | (go_at_call 58; with_reducible refine (HVC.out _).mono ?_; rintro e W3 ⟨rfl, hb⟩; have HB3 := Aside0.mk (below_step HB2.out hb); clear hb))
      go_ret
      exact ⟨by rw [HE.out]; rfl, HB3.out⟩
    | true =>
      cases b3 with
      | false =>
        go_wp2_with (first | (go_at_call 83; with_reducible refine (HCK.out _ HB1.out).mono ?_; rintro e W2 ⟨rfl, hb⟩; have HB2 := Aside0.mk (below_step HB1.out hb); have HR2 := Aside0.mk (blk_below HR1.out hb); obtain ⟨y0, y1, y2, y3, y4, y5⟩ : W2.cell? ⟨w.heap.size, 0, none⟩ = some (.string r.f0) ∧ W2.cell? ⟨w.heap.size, 1, none⟩ = some (.int .i64 r.f1.f0) ∧ W2.cell? ⟨w.heap.size, 2, none⟩ = some (.int .i64 r.f1.f1) ∧ W2.cell? ⟨w.heap.size, 3, none⟩ = some (.int .i64 r.f1.f2) ∧ W2.cell? ⟨w.heap.size, 4, none⟩ = some (.string r.f1.f3) ∧ W2.cell? ⟨w.heap.size, 5, none⟩ = some (.string r.f1.f4) := ⟨(blk_cell HR2.out 0).trans rfl, (blk_cell HR2.out 1).trans rfl, (blk_cell HR2.out 2).trans rfl, (blk_cell HR2.out 3).trans rfl, (blk_cell HR2.out 4).trans rfl, (blk_cell HR2.out 5).trans rfl⟩; clear hb) | (go_at_call 58; with_reducible refine (HVC.out _).mono ?_; rintro e W3 ⟨rfl, hb⟩; have HB3 := Aside0.mk (below_step HB2.out hb); have HR3 := Aside0.mk (blk_below HR2.out hb); obtain ⟨x0, x1, x2, x3, x4, x5⟩ : W3.cell? ⟨w.heap.size, 0, none⟩ = some (.string r.f0) ∧ W3.cell? ⟨w.heap.size, 1, none⟩ = some (.int .i64 r.f1.f0) ∧ W3.cell? ⟨w.heap.size, 2, none⟩ = some (.int .i64 r.f1.f1) ∧ W3.cell? ⟨w.heap.size, 3, none⟩ = some (.int .i64 r.f1.f2) ∧ W3.cell? ⟨w.heap.size, 4, none⟩ = some (.string r.f1.f3) ∧ W3.cell? ⟨w.heap.size, 5, none⟩ = some (.string r.f1.f4) := ⟨(blk_cell HR3.out 0).trans rfl, (blk_cell HR3.out 1).trans rfl, (blk_cell HR3.out 2).trans rfl, (blk_cell HR3.out 3).trans rfl, (blk_cell HR3.out 4).trans rfl, (blk_cell HR3.out 5).trans rfl⟩; clear hb) | (go_at_call 84; with_reducible refine (HFT.out _ HB3.out).mono ?_; rintro e W4 ⟨rfl, hb⟩; have HB4 := Aside0.mk (below_step HB3.out hb); clear hb))
        go_ret
        exact ⟨by rw [HE.out]; rfl, HB4.out⟩
      | true =>
        go_wp2_with (first | (go_at_call 83; with_reducible refine (HCK.out _ HB1.out).mono ?_; rintro e W2 ⟨rfl, hb⟩; have HB2 := Aside0.mk (below_step HB1.out hb); have HR2 := Aside0.mk (blk_below HR1.out hb); obtain ⟨y0, y1, y2, y3, y4, y5⟩ : W2.cell? ⟨w.heap.size, 0, none⟩ = some (.string r.f0) ∧ W2.cell? ⟨w.heap.size, 1, none⟩ = some (.int .i64 r.f1.f0) ∧ W2.cell? ⟨w.heap.size, 2, none⟩ = some (.int .i64 r.f1.f1) ∧ W2.cell? ⟨w.heap.size, 3, none⟩ = some (.int .i64 r.f1.f2) ∧ W2.cell? ⟨w.heap.size, 4, none⟩ = some (.string r.f1.f3) ∧ W2.cell? ⟨w.heap.size, 5, none⟩ = some (.string r.f1.f4) := ⟨(blk_cell HR2.out 0).trans rfl, (blk_cell HR2.out 1).trans rfl, (blk_cell HR2.out 2).trans rfl, (blk_cell HR2.out 3).trans rfl, (blk_cell HR2.out 4).trans rfl, (blk_cell HR2.out 5).trans rfl⟩; clear hb) | (go_at_call 58; with_reducible refine (HVC.out _).mono ?_; rintro e W3 ⟨rfl, hb⟩; have HB3 := Aside0.mk (below_step HB2.out hb); have HR3 := Aside0.mk (blk_below HR2.out hb); obtain ⟨x0, x1, x2, x3, x4, x5⟩ : W3.cell? ⟨w.heap.size, 0, none⟩ = some (.string r.f0) ∧ W3.cell? ⟨w.heap.size, 1, none⟩ = some (.int .i64 r.f1.f0) ∧ W3.cell? ⟨w.heap.size, 2, none⟩ = some (.int .i64 r.f1.f1) ∧ W3.cell? ⟨w.heap.size, 3, none⟩ = some (.int .i64 r.f1.f2) ∧ W3.cell? ⟨w.heap.size, 4, none⟩ = some (.string r.f1.f3) ∧ W3.cell? ⟨w.heap.size, 5, none⟩ = some (.string r.f1.f4) := ⟨(blk_cell HR3.out 0).trans rfl, (blk_cell HR3.out 1).trans rfl, (blk_cell HR3.out 2).trans rfl, (blk_cell HR3.out 3).trans rfl, (blk_cell HR3.out 4).trans rfl, (blk_cell HR3.out 5).trans rfl⟩; clear hb) | (go_at_call 84; with_reducible refine (HFT.out _ HB3.out).mono ?_; rintro e W4 ⟨rfl, hb⟩; have HB4 := Aside0.mk (below_step HB3.out hb); clear hb))
        go_ret
        exact ⟨by rw [HE.out]; rfl, HB4.out⟩
theorem one_mn {w : World} {base : Nat} {m : S55} {v2 v3 v4 v5 : Value} (h : MnMade w base m v2 v3 v4 v5) : ∀ a b : ByteArray, ∀ q ∈ [Value.string a, .string b, v2, v3, v4, v5], q.oneCell' = true := by
  obtain ⟨A2, c2, h2⟩ := Kd.R_slice h.o2
  obtain ⟨A3, c3, h3⟩ := Kd.R_slice h.o3
  obtain ⟨A4, c4, h4⟩ := Kd.R_slice h.o4
  obtain ⟨A5, c5, h5⟩ := Kd.R_slice h.o5
  rw [h2, h3, h4, h5]
  intro a b
  simp [Value.oneCell']
set_option maxRecDepth 100000 in
set_option maxHeartbeats 4000000 in
theorem edited_calls (s : ByteArray) (hs : s.size ≤ 400000) (r : Rq) (hr : r.f0.size ≤ 400000) (g : Nat) (lb : Array Value) (out : Int × Int × Bool → ByteArray × Int) (b : Nat) (eg : ∀ args w, (callFunc g args).run Tryz.prog w = .ok (.enter g args) w) (w : World) (hG : GW w)
    (hg : (maniP s).2.2 = 0 → rightP r = 0 → ∀ W, Below w.heap.size w W → Calls Tryz.prog g (#[.agg #[.int .i64 (whereP s r.f0).1, .int .i64 (whereP s r.f0).2.1, .bool (whereP s r.f0).2.2]] ++ lb) W fun e w' => e = .returned (.tuple #[.string (out (whereP s r.f0)).1, .int .i64 (out (whereP s r.f0)).2]) ∧ Moves (fun k => k = b) W w') :
    Calls Tryz.prog 34 #[.string s, .agg (rqv r), .func (.func g) #[] lb] w fun e w' => e = .returned (.tuple #[.string (edP s r out).1, .int .i64 (edP s r out).2]) ∧ Moves (fun k => k = b) w w' := by
  have HB1 := Aside0.mk (below_alloc (Below.refl w.heap.size w) (.cells (rqv r) 25))
  have HR1 := Aside0.mk (heap_alloc_new w (.cells (rqv r) 25))
  have HMP := Aside0.mk (fun W (h : Below w.heap.size w W) => mParse_calls s hs W (hG.below h))
  have HRI := Aside0.mk (fun W (h : Below w.heap.size w W) => rightly_calls r W (hG.below h))
  have HWH := Aside0.mk (fun W (h : Below w.heap.size w W) => where_calls s r.f0 hs hr W (hG.below h))
  have HE : Aside0 (edP s r out = if (maniP s).2.2 ≠ 0 then (⟨#[]⟩, (maniP s).2.2) else if rightP r ≠ 0 then (⟨#[]⟩, rightP r) else out (whereP s r.f0)) := ⟨rfl⟩
  generalize edP s r out = ro at HE ⊢
  obtain ⟨mf0, hmf0⟩ : ∃ z, z = (maniP s).1.f0 := ⟨_, rfl⟩
  obtain ⟨mf1, hmf1⟩ : ∃ z, z = (maniP s).1.f1 := ⟨_, rfl⟩
  obtain ⟨mn, hmn⟩ : ∃ z, z = (maniP s).2.1 := ⟨_, rfl⟩
  obtain ⟨me, hme⟩ : ∃ z, z = (maniP s).2.2 := ⟨_, rfl⟩
  obtain ⟨re, hre⟩ : ∃ z, z = rightP r := ⟨_, rfl⟩
  obtain ⟨⟨f, t, is⟩, hwh⟩ : ∃ z, z = whereP s r.f0 := ⟨_, rfl⟩
  rw [← hmf0, ← hmf1, ← hmn, ← hme] at HMP
  rw [← hre] at HRI
  rw [← hwh] at HWH hg HE
  rw [← hme, ← hre] at hg HE
  clear hG hs hr hmf0 hmf1 hmn hme hre hwh
  by_cases h1 : me = 0
  · subst h1
    by_cases h2 : re = 0
    · subst h2
      have HGF := Aside0.mk (hg rfl rfl)
      rw [if_neg (by simp), if_neg (by simp)] at HE
      obtain ⟨⟨oa, ob⟩, ho⟩ : ∃ z, z = out (f, t, is) := ⟨_, rfl⟩
      rw [← ho] at HE HGF
      clear hg ho
      go_enter Tryz.func34, Tryz.ntmps34
      go_upto_region 1 with fail
      generalize w.alloc (.cells (rqv r) 25) = W1 at HB1 HR1 ⊢
      go_upto_region 4 with (first | (go_at_call 27; with_reducible refine (HMP.out _ HB1.out).mono ?_; rintro e W2 ⟨v2, v3, v4, v5, rfl, hm, hb⟩; have HB2 := Aside0.mk (below_step HB1.out hb); have HR2 := Aside0.mk (blk_below HR1.out hb); have HO2 := Aside0.mk (one_mn (m := (maniP s).1) hm); clear hb hm) | ((with_reducible refine gate_ (.store 55 (.tmp 8) (.tmp 16)) rfl ?_); refine store_ev 55 (.tmp 8) (.tmp 16) rfl rfl rfl 0 [.string mf0, .string mf1, v2, v3, v4, v5] (heap_alloc_new W2 _) rfl rfl rfl (by kernel_rfl) (show 0 + 6 ≤ 6 by decide) (HO2.out _ _) rfl ?_; intro W3 hn hg; have hb3 := fresh_below hg; have HB3 := Aside0.mk (below_step HB2.out hb3); have HR3 := Aside0.mk (blk_below HR2.out hb3); clear hn hg hb3))
      obtain ⟨z0, z1, z2, z3, z4, z5⟩ : W3.cell? ⟨w.heap.size, 0, none⟩ = some (.string r.f0) ∧ W3.cell? ⟨w.heap.size, 1, none⟩ = some (.int .i64 r.f1.f0) ∧ W3.cell? ⟨w.heap.size, 2, none⟩ = some (.int .i64 r.f1.f1) ∧ W3.cell? ⟨w.heap.size, 3, none⟩ = some (.int .i64 r.f1.f2) ∧ W3.cell? ⟨w.heap.size, 4, none⟩ = some (.string r.f1.f3) ∧ W3.cell? ⟨w.heap.size, 5, none⟩ = some (.string r.f1.f4) := ⟨(blk_cell HR3.out 0).trans rfl, (blk_cell HR3.out 1).trans rfl, (blk_cell HR3.out 2).trans rfl, (blk_cell HR3.out 3).trans rfl, (blk_cell HR3.out 4).trans rfl, (blk_cell HR3.out 5).trans rfl⟩
      go_wp2_with (first | (go_at_call 57; with_reducible refine (HRI.out _ HB3.out).mono ?_; rintro e W4 ⟨rfl, hb⟩; have HB4 := Aside0.mk (below_step HB3.out hb); have HR4 := Aside0.mk (blk_below HR3.out hb); have HB5 := Aside0.mk (below_alloc HB4.out (.cells #[.int .i64 0, .int .i64 0, .bool false] 73)); have HR5 := Aside0.mk (blk_alloc HR4.out (.cells #[.int .i64 0, .int .i64 0, .bool false] 73)); have HA5 := Aside0.mk (heap_alloc_new W4 (.cells #[.int .i64 0, .int .i64 0, .bool false] 73)); have y0 := (blk_cell HR5.out 0).trans rfl; clear hb) | (go_at_call 29; with_reducible refine (HWH.out _ HB5.out).mono ?_; rintro e W6 ⟨rfl, hb⟩; have HB6 := Aside0.mk (below_step HB5.out hb); have HA6 := Aside0.mk (blk_below HA5.out hb); clear hb y0) | ((with_reducible refine gate_ (.store 3 (.tmp 35) (.tmp 32)) rfl ?_); refine store_ev 3 (.tmp 35) (.tmp 32) rfl rfl rfl 0 [.int .i64 f] HA6.out rfl rfl rfl (by kernel_rfl) (show 0 + 1 ≤ 3 by decide) (by simp [Value.oneCell']) rfl ?_; intro W7 hn hg; have HA7 := Aside0.mk hn; have HB7 := Aside0.mk (HB6.out.grown hg HB6.out.size (fun k hk => by cases hk; have := HB4.out.size; omega)); clear hn hg) | ((with_reducible refine gate_ (.store 3 (.tmp 36) (.tmp 33)) rfl ?_); refine store_ev 3 (.tmp 36) (.tmp 33) rfl rfl rfl 1 [.int .i64 t] HA7.out rfl rfl rfl (by kernel_rfl) (show 1 + 1 ≤ 3 by decide) (by simp [Value.oneCell']) rfl ?_; intro W8 hn hg; have HA8 := Aside0.mk hn; have HB8 := Aside0.mk (HB7.out.grown hg HB7.out.size (fun k hk => by cases hk; have := HB4.out.size; omega)); clear hn hg) | ((with_reducible refine gate_ (.store 4 (.tmp 37) (.tmp 34)) rfl ?_); refine store_ev 4 (.tmp 37) (.tmp 34) rfl rfl rfl 2 [.bool is] HA8.out rfl rfl rfl (by kernel_rfl) (show 2 + 1 ≤ 3 by decide) (by simp [Value.oneCell']) rfl ?_; intro W9 hn hg; have HA9 := Aside0.mk hn; have HB9 := Aside0.mk (HB8.out.grown hg HB8.out.size (fun k hk => by cases hk; have := HB4.out.size; omega)); clear hn hg; have p0 := (blk_cell HA9.out 0).trans rfl; have p1 := (blk_cell HA9.out 1).trans rfl; have p2 := (blk_cell HA9.out 2).trans rfl) | (go_at_fn g; refine (HGF.out W9 HB9.out).mono ?_; rintro e w' ⟨rfl, hmv⟩))
      go_ret2
      exact ⟨by rw [HE.out]; rfl, (Moves.of_below HB9.out).trans hmv⟩
    · rw [if_neg (by simp), if_pos h2] at HE
      clear hg HWH
      have hrn : (re != 0) = true := by simpa using h2
      have HX := Aside0.mk h2
      clear h2
      go_enter Tryz.func34, Tryz.ntmps34
      go_upto_region 1 with fail
      generalize w.alloc (.cells (rqv r) 25) = W1 at HB1 HR1 ⊢
      go_upto_region 4 with (first | (go_at_call 27; with_reducible refine (HMP.out _ HB1.out).mono ?_; rintro e W2 ⟨v2, v3, v4, v5, rfl, hm, hb⟩; have HB2 := Aside0.mk (below_step HB1.out hb); have HR2 := Aside0.mk (blk_below HR1.out hb); have HO2 := Aside0.mk (one_mn (m := (maniP s).1) hm); clear hb hm) | ((with_reducible refine gate_ (.store 55 (.tmp 8) (.tmp 16)) rfl ?_); refine store_ev 55 (.tmp 8) (.tmp 16) rfl rfl rfl 0 [.string mf0, .string mf1, v2, v3, v4, v5] (heap_alloc_new W2 _) rfl rfl rfl (by kernel_rfl) (show 0 + 6 ≤ 6 by decide) (HO2.out _ _) rfl ?_; intro W3 hn hg; have hb3 := fresh_below hg; have HB3 := Aside0.mk (below_step HB2.out hb3); have HR3 := Aside0.mk (blk_below HR2.out hb3); clear hn hg hb3))
      obtain ⟨z0, z1, z2, z3, z4, z5⟩ : W3.cell? ⟨w.heap.size, 0, none⟩ = some (.string r.f0) ∧ W3.cell? ⟨w.heap.size, 1, none⟩ = some (.int .i64 r.f1.f0) ∧ W3.cell? ⟨w.heap.size, 2, none⟩ = some (.int .i64 r.f1.f1) ∧ W3.cell? ⟨w.heap.size, 3, none⟩ = some (.int .i64 r.f1.f2) ∧ W3.cell? ⟨w.heap.size, 4, none⟩ = some (.string r.f1.f3) ∧ W3.cell? ⟨w.heap.size, 5, none⟩ = some (.string r.f1.f4) := ⟨(blk_cell HR3.out 0).trans rfl, (blk_cell HR3.out 1).trans rfl, (blk_cell HR3.out 2).trans rfl, (blk_cell HR3.out 3).trans rfl, (blk_cell HR3.out 4).trans rfl, (blk_cell HR3.out 5).trans rfl⟩
      go_wp2_with (go_at_call 57; with_reducible refine (HRI.out _ HB3.out).mono ?_; rintro e W4 ⟨rfl, hb⟩; have HB4 := Aside0.mk (below_step HB3.out hb); have HR4 := Aside0.mk (blk_below HR3.out hb); have HB5 := Aside0.mk (below_alloc HB4.out (.cells #[.int .i64 0, .int .i64 0, .bool false] 73)); have HR5 := Aside0.mk (blk_alloc HR4.out (.cells #[.int .i64 0, .int .i64 0, .bool false] 73)); have HA5 := Aside0.mk (heap_alloc_new W4 (.cells #[.int .i64 0, .int .i64 0, .bool false] 73)); have y0 := (blk_cell HR5.out 0).trans rfl; clear hb)
      go_ret2
      exact ⟨by rw [HE.out]; rfl, Moves.of_below HB4.out⟩
  · rw [if_pos h1] at HE
    clear hg HWH HRI
    have hrn : (me != 0) = true := by simpa using h1
    have HX := Aside0.mk h1
    clear h1
    go_enter Tryz.func34, Tryz.ntmps34
    go_upto_region 1 with fail
    generalize w.alloc (.cells (rqv r) 25) = W1 at HB1 HR1 ⊢
    go_wp2_with (first | (go_at_call 27; with_reducible refine (HMP.out _ HB1.out).mono ?_; rintro e W2 ⟨v2, v3, v4, v5, rfl, hm, hb⟩; have HB2 := Aside0.mk (below_step HB1.out hb); have HR2 := Aside0.mk (blk_below HR1.out hb); have HO2 := Aside0.mk (one_mn (m := (maniP s).1) hm); clear hb hm) | ((with_reducible refine gate_ (.store 55 (.tmp 8) (.tmp 16)) rfl ?_); refine store_ev 55 (.tmp 8) (.tmp 16) rfl rfl rfl 0 [.string mf0, .string mf1, v2, v3, v4, v5] (heap_alloc_new W2 _) rfl rfl rfl (by kernel_rfl) (show 0 + 6 ≤ 6 by decide) (HO2.out _ _) rfl ?_; intro W3 hn hg; have hb3 := fresh_below hg; have HB3 := Aside0.mk (below_step HB2.out hb3); have HR3 := Aside0.mk (blk_below HR2.out hb3); clear hn hg hb3))
    go_ret2
    exact ⟨by rw [HE.out]; rfl, Moves.of_below HB3.out⟩
def st3.T3 : Bool × List (List Nat × List Nat) := (true, [([], []), ([], []), ([1], [1]), ([0, 2], [0, 2]), ([], []), ([4], [4]), ([5], [5]), ([3, 6], [3, 6]), ([], []), ([], []), ([9], [9]), ([8, 10], [8, 10]), ([7, 11], [7, 11]), ([12, 6, 0, 1, 2, 3, 4, 5, 6, 7, 8, 9, 10, 11, 12], [12]), ([13, 0, 1, 2, 3, 4, 5, 6, 7, 8, 9, 10, 11, 12, 13], [])])
def st3.B3 : List Nat := [0, 0, 2, 7, 0, 16, 48, 127, 0, 0, 512, 1792, 4095, 8191, 16383]
theorem st3.tab3 : rtab .any (opsOf Tryz.f35 3) = st3.T3 := by kernel_rfl
theorem st3.bits3 : waitsOk st3.T3.2 st3.B3 = true := by kernel_rfl
def ad4.T4 : Bool × List (List Nat × List Nat) := (true, [([], []), ([0], [0]), ([], []), ([2], [2]), ([1, 3], [1, 3]), ([4], [4]), ([], []), ([6], [6]), ([7], [7]), ([5, 8], [5, 8]), ([9], [9]), ([10, 8, 0, 1, 2, 3, 4, 5, 6, 7, 8, 9, 10], [10]), ([11, 0, 1, 2, 3, 4, 5, 6, 7, 8, 9, 10, 11], [])])
def ad4.B4 : List Nat := [0, 1, 0, 4, 15, 31, 0, 64, 192, 511, 1023, 2047, 4095]
theorem ad4.tab4 : rtab .any (opsOf Tryz.f38 4) = ad4.T4 := by kernel_rfl
theorem ad4.bits4 : waitsOk ad4.T4.2 ad4.B4 = true := by kernel_rfl
abbrev plc (f t : Int) (is : Bool) : Array Value := #[.int .i64 f, .int .i64 t, .bool is]
set_option maxRecDepth 100000 in
set_option maxHeartbeats 4000000 in
theorem set1_calls (s : ByteArray) (hs : s.size ≤ 400000) (r : Rq) (fn tn : Nat) (is : Bool) (hft : is = true → fn ≤ tn ∧ tn ≤ s.size) (b1 b2 : Nat) (w : World) (hG : GW w) (hS : w.heap[b1]? = some (.cells #[.string s] 9 (0, 0))) (hR : w.heap[b2]? = some (.cells (rqv r) 25 (0, 0))) :
    Calls Tryz.prog 35 #[.agg (plc fn tn is), .pointer (some ⟨b1, 0, none⟩), .pointer (some ⟨b2, 0, none⟩)] w fun e w' => e = .returned (.tuple #[.string (setE s r ((fn : Int), (tn : Int), is)).1, .int .i64 (setE s r ((fn : Int), (tn : Int), is)).2]) ∧ Below w.heap.size w w' := by
  have hb1 := below_alloc (Below.refl w.heap.size w) (.cells (plc fn tn is) 73)
  have HB1 := Aside0.mk hb1
  have HP1 := Aside0.mk (heap_alloc_new w (.cells (plc fn tn is) 73))
  have HS1 := Aside0.mk (blk_below hS hb1)
  have HR1 := Aside0.mk (blk_below hR hb1)
  have HTX := Aside0.mk (fun W (h : Below w.heap.size w W) => show Calls Tryz.prog 36 #[.agg (vrv r.f1)] W fun e w' => e = .returned (.string (txV r.f1)) ∧ Below W.heap.size W w' from text_calls r.f1.f0 r.f1.f1 r.f1.f2 r.f1.f3 r.f1.f4 W (hG.below h))
  have htv := txV_size r.f1
  clear hb1 hS hR hG
  cases is with
  | false =>
    clear hft
    go_enter Tryz.func35, Tryz.ntmps35
    go_wp2
    go_ret2
    exact ⟨rfl, HB1.out⟩
  | true =>
    obtain ⟨h1, h2⟩ := hft rfl
    have HE : Aside0 (setE s r ((fn : Int), (tn : Int), true) = (s.extract 0 fn ++ txV r.f1 ++ s.extract tn s.size, 0)) := ⟨by unfold setE; simp only [Int.toNat_natCast]; rfl⟩
    generalize setE s r ((fn : Int), (tn : Int), true) = ro at HE ⊢
    generalize txV r.f1 = tv at HTX HE htv
    obtain ⟨pa, hpa⟩ : ∃ y, s.extract 0 fn = y := ⟨_, rfl⟩
    obtain ⟨pb, hpb⟩ : ∃ y, s.extract tn s.size = y := ⟨_, rfl⟩
    have hpas : pa.size ≤ 400000 := by rw [← hpa, ByteArray.size_extract]; omega
    have hpbs : pb.size ≤ 400000 := by rw [← hpb, ByteArray.size_extract]; omega
    rw [hpa, hpb] at HE
    have hsl1 : ∀ W : World, (Instr.slice 9 (.string s) none (some (.int .i64 (fn : Int))) none).run Tryz.prog W = .ok (.string pa) W := fun W => by
      have hz0 : (fn : Int) ≤ (s.size : Int) := by omega
      rw [← hpa]
      go_simp
      first | rfl | done
    have hsl2 : ∀ W : World, (Instr.slice 9 (.string s) (some (.int .i64 (tn : Int))) none none).run Tryz.prog W = .ok (.string pb) W := fun W => by
      have hz0 : (tn : Int) ≤ (s.size : Int) := by omega
      rw [← hpb]
      go_simp
      first | rfl | done
    clear hft h1 h2 hpa hpb hs
    go_enter Tryz.func35, Tryz.ntmps35
    go_upto_region 1 with fail
    generalize w.alloc (.cells (plc fn tn true) 73) = W1 at HB1 HP1 HS1 HR1 ⊢
    have z2 := (blk_cell HP1.out 2).trans rfl
    go_wp2
    have HB4 := Aside0.mk (below_step HB1.out (below_drew1 (Below.refl _ _)))
    have HP4 := Aside0.mk (blk_drew HP1.out)
    have HS4 := Aside0.mk (blk_drew HS1.out)
    have HR4 := Aside0.mk (blk_drew HR1.out)
    refine sX (ds := []) (S := fun w' => w'.cell? ⟨b1, 0, none⟩ = some (.string s) ∧ w'.cell? ⟨w.heap.size, 0, none⟩ = some (.int .i64 (fn : Int)) ∧ w'.cell? ⟨w.heap.size, 1, none⟩ = some (.int .i64 (tn : Int)) ∧ w'.cell? ⟨b2, 0, none⟩ = some (.string r.f0) ∧ w'.cell? ⟨b2, 1, none⟩ = some (.int .i64 r.f1.f0) ∧ w'.cell? ⟨b2, 2, none⟩ = some (.int .i64 r.f1.f1) ∧ w'.cell? ⟨b2, 3, none⟩ = some (.int .i64 r.f1.f2) ∧ w'.cell? ⟨b2, 4, none⟩ = some (.string r.f1.f3) ∧ w'.cell? ⟨b2, 5, none⟩ = some (.string r.f1.f4)) st3.tab3 st3.bits3 ⟨(blk_cell HS4.out 0).trans rfl, (blk_cell HP4.out 0).trans rfl, (blk_cell HP4.out 1).trans rfl, (blk_cell HR4.out 0).trans rfl, (blk_cell HR4.out 1).trans rfl, (blk_cell HR4.out 2).trans rfl, (blk_cell HR4.out 3).trans rfl, (blk_cell HR4.out 4).trans rfl, (blk_cell HR4.out 5).trans rfl⟩ (fun HT_ HW_ hHeld => ?_)
    generalize W1.drew = W4 at HB4 HP4 HS4 HR4 hHeld ⊢
    refine pX HT_ 1 2 10 ?_
    refine pX HT_ 4 18 13 ?_
    refine pX HT_ 9 530 18 ?_
    refine tX HT_ HW_ hHeld 0 531 9 ?_
    refine tX HT_ HW_ hHeld 2 535 11 ?_
    refine pX HT_ 3 543 12 ?_
    refine tX HT_ HW_ hHeld 5 575 14 ?_
    refine tX HT_ HW_ hHeld 8 831 17 ?_
    refine tX HT_ HW_ hHeld 10 1855 19 ?_
    refine pX HT_ 11 3903 20 ?_
    refine gX HT_ 6 3967 15 Tryz.func36 (HTX.out W4 HB4.out) ?_
    rintro e W5 ⟨rfl, hb⟩
    have HB5 := Aside0.mk (below_step HB4.out hb)
    have HP5 := Aside0.mk (blk_below HP4.out hb)
    have HS5 := Aside0.mk (blk_below HS4.out hb)
    have HR5 := Aside0.mk (blk_below HR4.out hb)
    refine ⟨_, rfl, _, nX, ⟨(blk_cell HS5.out 0).trans rfl, (blk_cell HP5.out 0).trans rfl, (blk_cell HP5.out 1).trans rfl, (blk_cell HR5.out 0).trans rfl, (blk_cell HR5.out 1).trans rfl, (blk_cell HR5.out 2).trans rfl, (blk_cell HR5.out 3).trans rfl, (blk_cell HR5.out 4).trans rfl, (blk_cell HR5.out 5).trans rfl⟩, fun hHeld => ?_⟩
    clear hb
    obtain ⟨c1a, c1b, c1c⟩ := cat_ok (n := pa.size + tv.size) (by omega)
    refine pX HT_ 7 4095 16 ?_
    clear c1a c1b c1c
    have s1 : (pa ++ tv).size ≤ 400100 := by rw [ByteArray.size_append]; omega
    obtain ⟨x1, E1⟩ : ∃ y, pa ++ tv = y := ⟨_, rfl⟩
    rw [E1] at s1 ⊢
    have HE1 := Aside0.mk E1
    clear E1
    obtain ⟨c2a, c2b, c2c⟩ := cat_ok (n := x1.size + pb.size) (by omega)
    refine pX HT_ 12 8191 21 ?_
    clear c2a c2b c2c
    have s2 : (x1 ++ pb).size ≤ 800100 := by rw [ByteArray.size_append]; omega
    obtain ⟨x2, E2⟩ : ∃ y, x1 ++ pb = y := ⟨_, rfl⟩
    rw [E2] at s2 ⊢
    have HE2 := Aside0.mk E2
    clear E2
    refine pX HT_ 13 16383 4 ?_
    refine pX HT_ 14 32767 5 ?_
    refine eX HT_ ?_
    clear HT_ HW_ hHeld s1 s2
    go_wp2
    go_ret2
    exact ⟨by rw [HE.out, HE1.out, HE2.out]; rfl, HB5.out⟩
theorem Moves.below_of {may : Nat → Prop} {w A B : World} {n : Nat} (h : Moves may A B) (hm : ∀ k, may k → n ≤ k) (hb : Below n w A) (hn : n ≤ w.heap.size) : Below n w B :=
  ⟨h.os.trans hb.os, h.tape.trans hb.tape, h.output.trans hb.output, Nat.le_trans hb.size h.size, fun k hk => (h.block k (Nat.lt_of_lt_of_le (Nat.lt_of_lt_of_le hk hn) hb.size) (fun m => by have := hm k m; omega)).trans (hb.block k hk)⟩
/-- A text without the newline at its end. -/
def trimN (s : ByteArray) : ByteArray := ⟨(Lib.trimSuffix s.data.toList [10]).toArray⟩
theorem trimN_size (s : ByteArray) : (trimN s).size ≤ s.size := by
  unfold trimN Lib.trimSuffix
  rw [Lib.size_eq s]
  show (List.toArray _).size ≤ _
  rw [List.size_toArray]
  split
  · rw [List.length_take]; omega
  · exact Nat.le_refl _
def addE (s : ByteArray) (r : Rq) (a : Int × Int × Bool) : ByteArray × Int := if a.2.2 = true then (⟨#[]⟩, 11) else (((((trimN s ++ (⟨#[10]⟩ : ByteArray)) ++ (⟨#[114, 101, 113, 117, 105, 114, 101, 32]⟩ : ByteArray)) ++ r.f0) ++ (⟨#[32]⟩ : ByteArray)) ++ txV r.f1 ++ (⟨#[10]⟩ : ByteArray), 0)
def addP (s : ByteArray) (r : Rq) : ByteArray × Int := edP s r (addE s r)
set_option maxRecDepth 100000 in
set_option maxHeartbeats 4000000 in
theorem add1_calls (s : ByteArray) (hs : s.size ≤ 400000) (r : Rq) (hr : r.f0.size ≤ 400000) (f t : Int) (is : Bool) (b1 b2 : Nat) (hbb : b1 ≠ b2) (w0 w : World) (hG : GW w0) (hW : Below w0.heap.size w0 w) (hb1 : w0.heap.size ≤ b1) (hS : w.heap[b1]? = some (.cells #[.string s] 9 (0, 0))) (hR : w.heap[b2]? = some (.cells (rqv r) 25 (0, 0))) :
    Calls Tryz.prog 38 #[.agg (plc f t is), .pointer (some ⟨b1, 0, none⟩), .pointer (some ⟨b2, 0, none⟩)] w fun e w' => e = .returned (.tuple #[.string (addE s r (f, t, is)).1, .int .i64 (addE s r (f, t, is)).2]) ∧ Moves (fun k => k = b1) w w' := by
  have hba := below_alloc (Below.refl w.heap.size w) (.cells (plc f t is) 73)
  have HM1 := Aside0.mk (Moves.of_below (may := fun k => k = b1) hba)
  have HB1 := Aside0.mk (below_step hW hba)
  have HP1 := Aside0.mk (heap_alloc_new w (.cells (plc f t is) 73))
  have HS1 := Aside0.mk (blk_below hS hba)
  have HR1 := Aside0.mk (blk_below hR hba)
  have HTX := Aside0.mk (fun W (h : Below w0.heap.size w0 W) => show Calls Tryz.prog 36 #[.agg (vrv r.f1)] W fun e w' => e = .returned (.string (txV r.f1)) ∧ Below W.heap.size W w' from text_calls r.f1.f0 r.f1.f1 r.f1.f2 r.f1.f3 r.f1.f4 W (hG.below h))
  have htv := txV_size r.f1
  have HBB := Aside0.mk hbb
  have HB0 := Aside0.mk hb1
  clear hba hS hR hG hW hbb hb1
  cases is with
  | true =>
    go_enter Tryz.func38, Tryz.ntmps38
    go_wp2
    go_ret2
    exact ⟨rfl, HM1.out⟩
  | false =>
    have HE : Aside0 (addE s r (f, t, false) = (((((trimN s ++ (⟨#[10]⟩ : ByteArray)) ++ (⟨#[114, 101, 113, 117, 105, 114, 101, 32]⟩ : ByteArray)) ++ r.f0) ++ (⟨#[32]⟩ : ByteArray)) ++ txV r.f1 ++ (⟨#[10]⟩ : ByteArray), 0)) := ⟨rfl⟩
    have HTS := Aside0.mk (fun W => strings_TrimSuffix.calls s (⟨#[10]⟩ : ByteArray) (trimN s) W (by unfold strings_TrimSuffix.f; rw [if_pos (by omega)]; rfl))
    have hts := trimN_size s
    generalize addE s r (f, t, false) = ro at HE ⊢
    generalize txV r.f1 = tv at HTX HE htv
    generalize trimN s = ts at HTS HE hts
    obtain ⟨y0, hy0⟩ : ∃ y, ts ++ (⟨#[10]⟩ : ByteArray) = y := ⟨_, rfl⟩
    have hys : y0.size ≤ 400001 := by rw [← hy0, ByteArray.size_append, show (⟨#[10]⟩ : ByteArray).size = 1 from rfl]; omega
    rw [hy0] at HE
    go_enter Tryz.func38, Tryz.ntmps38
    go_upto_region 1 with fail
    generalize w.alloc (.cells (plc f t false) 73) = W1 at HM1 HB1 HP1 HS1 HR1 ⊢
    have z2 := (blk_cell HP1.out 2).trans rfl
    have q0 := (blk_cell HS1.out 0).trans rfl
    obtain ⟨c0a, c0b, c0c⟩ := cat_ok (n := ts.size + 1) (by omega)
    go_wp2_with (first | (go_at_call 39; with_reducible refine (HTS.out _).mono ?_; rintro e W2 ⟨rfl, hd⟩; have HM2 := Aside0.mk (HM1.out.trans (Moves.of_below hd.below)); have HB2 := Aside0.mk (below_step HB1.out hd.below); have HS2 := Aside0.mk (blk_below HS1.out hd.below); have HR2 := Aside0.mk (blk_below HR1.out hd.below); clear hd q0) | ((with_reducible refine gate_ (.store 9 (.tmp 1) (.tmp 10)) rfl ?_); refine store_ev 9 (.tmp 1) (.tmp 10) rfl rfl rfl 0 [.string y0] HS2.out rfl rfl rfl (by kernel_rfl) (show 0 + 1 ≤ 1 by decide) (by simp [Value.oneCell']) rfl ?_; intro W3 hn hg; have HS3 := Aside0.mk hn; have HM3 := Aside0.mk (HM2.out.trans (moves_grown2 hg (fun b e => (Option.some.inj e).symm))); have HR3 := Aside0.mk (blk_grown HR2.out hg (fun e => HBB.out (Option.some.inj e).symm)); have HB3 := Aside0.mk (HB2.out.grown hg HB2.out.size (fun k hk => by cases hk; exact HB0.out)); clear hn hg))
    clear c0a c0b c0c hy0 hts z2
    have HM4 := Aside0.mk (HM3.out.trans (Moves.of_below (below_drew1 (Below.refl _ _))))
    have HS4 := Aside0.mk (blk_drew HS3.out)
    have HR4 := Aside0.mk (blk_drew HR3.out)
    have HB4 := Aside0.mk (below_step HB3.out (below_drew1 (Below.refl _ _)))
    refine sX (ds := []) (S := fun w' => w'.cell? ⟨b1, 0, none⟩ = some (.string y0) ∧ w'.cell? ⟨b2, 0, none⟩ = some (.string r.f0) ∧ w'.cell? ⟨b2, 1, none⟩ = some (.int .i64 r.f1.f0) ∧ w'.cell? ⟨b2, 2, none⟩ = some (.int .i64 r.f1.f1) ∧ w'.cell? ⟨b2, 3, none⟩ = some (.int .i64 r.f1.f2) ∧ w'.cell? ⟨b2, 4, none⟩ = some (.string r.f1.f3) ∧ w'.cell? ⟨b2, 5, none⟩ = some (.string r.f1.f4)) ad4.tab4 ad4.bits4 ⟨(blk_cell HS4.out 0).trans rfl, (blk_cell HR4.out 0).trans rfl, (blk_cell HR4.out 1).trans rfl, (blk_cell HR4.out 2).trans rfl, (blk_cell HR4.out 3).trans rfl, (blk_cell HR4.out 4).trans rfl, (blk_cell HR4.out 5).trans rfl⟩ (fun HT_ HW_ hHeld => ?_)
    generalize W3.drew = W4 at HM4 HB4 HS4 HR4 hHeld ⊢
    refine pX HT_ 2 4 13 ?_
    refine pX HT_ 6 68 17 ?_
    refine tX HT_ HW_ hHeld 0 69 11 ?_
    obtain ⟨c1a, c1b, c1c⟩ := cat_ok (n := y0.size + 8) (by omega)
    refine pX HT_ 1 71 12 ?_
    clear c1a c1b c1c
    have s1 : (y0 ++ (⟨#[114, 101, 113, 117, 105, 114, 101, 32]⟩ : ByteArray)).size ≤ 400010 := by rw [ByteArray.size_append]; rw [show (⟨#[114, 101, 113, 117, 105, 114, 101, 32]⟩ : ByteArray).size = 8 from rfl]; omega
    obtain ⟨x1, E1⟩ : ∃ y, y0 ++ (⟨#[114, 101, 113, 117, 105, 114, 101, 32]⟩ : ByteArray) = y := ⟨_, rfl⟩
    rw [E1] at s1 ⊢
    have HE1 := Aside0.mk E1
    clear E1
    refine tX HT_ HW_ hHeld 3 79 14 ?_
    obtain ⟨c2a, c2b, c2c⟩ := cat_ok (n := x1.size + r.f0.size) (by omega)
    refine pX HT_ 4 95 15 ?_
    clear c2a c2b c2c
    have s2 : (x1 ++ r.f0).size ≤ 800010 := by rw [ByteArray.size_append]; omega
    obtain ⟨x2, E2⟩ : ∃ y, x1 ++ r.f0 = y := ⟨_, rfl⟩
    rw [E2] at s2 ⊢
    have HE2 := Aside0.mk E2
    clear E2
    obtain ⟨c3a, c3b, c3c⟩ := cat_ok (n := x2.size + 1) (by omega)
    refine pX HT_ 5 127 16 ?_
    clear c3a c3b c3c
    have s3 : (x2 ++ (⟨#[32]⟩ : ByteArray)).size ≤ 800011 := by rw [ByteArray.size_append]; rw [show (⟨#[32]⟩ : ByteArray).size = 1 from rfl]; omega
    obtain ⟨x3, E3⟩ : ∃ y, x2 ++ (⟨#[32]⟩ : ByteArray) = y := ⟨_, rfl⟩
    rw [E3] at s3 ⊢
    have HE3 := Aside0.mk E3
    clear E3
    refine tX HT_ HW_ hHeld 7 255 18 ?_
    refine gX HT_ 8 511 19 Tryz.func36 (HTX.out W4 HB4.out) ?_
    rintro e W5 ⟨rfl, hb⟩
    have HM5 := Aside0.mk (HM4.out.trans (Moves.of_below hb))
    have HS5 := Aside0.mk (blk_below HS4.out hb)
    have HR5 := Aside0.mk (blk_below HR4.out hb)
    refine ⟨_, rfl, _, nX, ⟨(blk_cell HS5.out 0).trans rfl, (blk_cell HR5.out 0).trans rfl, (blk_cell HR5.out 1).trans rfl, (blk_cell HR5.out 2).trans rfl, (blk_cell HR5.out 3).trans rfl, (blk_cell HR5.out 4).trans rfl, (blk_cell HR5.out 5).trans rfl⟩, fun hHeld => ?_⟩
    clear hb
    obtain ⟨c4a, c4b, c4c⟩ := cat_ok (n := x3.size + tv.size) (by omega)
    refine pX HT_ 9 1023 20 ?_
    clear c4a c4b c4c
    have s4 : (x3 ++ tv).size ≤ 800111 := by rw [ByteArray.size_append]; omega
    obtain ⟨x4, E4⟩ : ∃ y, x3 ++ tv = y := ⟨_, rfl⟩
    rw [E4] at s4 ⊢
    have HE4 := Aside0.mk E4
    clear E4
    obtain ⟨c5a, c5b, c5c⟩ := cat_ok (n := x4.size + 1) (by omega)
    refine pX HT_ 10 2047 21 ?_
    clear c5a c5b c5c
    have s5 : (x4 ++ (⟨#[10]⟩ : ByteArray)).size ≤ 800112 := by rw [ByteArray.size_append]; rw [show (⟨#[10]⟩ : ByteArray).size = 1 from rfl]; omega
    obtain ⟨x5, E5⟩ : ∃ y, x4 ++ (⟨#[10]⟩ : ByteArray) = y := ⟨_, rfl⟩
    rw [E5] at s5 ⊢
    have HE5 := Aside0.mk E5
    clear E5
    refine pX HT_ 11 4095 4 ?_
    refine pX HT_ 12 8191 5 ?_
    refine eX HT_ ?_
    clear HT_ HW_ hHeld s1 s2 s3 s4 s5
    go_wp2
    go_ret2
    exact ⟨by rw [HE.out, HE1.out, HE2.out, HE3.out, HE4.out, HE5.out]; rfl, HM5.out⟩
/-- Where, by the text. -/
theorem where_is (s : ByteArray) (hs : s.size ≤ 400000) (path : ByteArray) : whereP s path = (0, 0, false) ∨ ∃ x n r a b, ManIs s x n ∧ r ∈ x.reqs ∧ r.f0 = path ∧ x.spots path.data.toList = some (a.length : Int) ∧ s.data.toList = a ++ ((txV r.f1).data.toList ++ b) ∧ whereP s path = ((a.length : Int), ((a.length + (txV r.f1).size : Nat) : Int), true) := by
  cases hp : parseP s with
  | inr kr => left; unfold whereP; rw [hp]
  | inl xn =>
    obtain ⟨x, n⟩ := xn
    have hm := manIs hs hp
    cases hf : x.reqs.find? (fun r => r.f0.toList == path.toList) with
    | none => left; unfold whereP; rw [hp]; simp only [hf]
    | some r =>
      right
      have hrm := List.mem_of_find?_eq_some hf
      have hrb := List.find?_some (p := fun r : Rq => r.f0.toList == path.toList) hf
      have hrp : r.f0 = path := (toList_eq_iff _ _).1 (eq_of_beq hrb)
      obtain ⟨z, hz⟩ := Option.isSome_iff_exists.1 (hm.text.has r hrm)
      obtain ⟨r', hr', e1, a, b, e2, e3⟩ := hm.at hz
      obtain rfl := hm.text.one r' hr' r hrm e1
      subst hrp
      rw [← e3] at hz
      refine ⟨x, n, r', a, b, hm, hrm, rfl, hz, e2, ?_⟩
      unfold whereP
      rw [hp]
      simp only [hf, hz, Option.getD_some, Int.natCast_add]
set_option maxRecDepth 100000 in
set_option maxHeartbeats 4000000 in
theorem set_calls (s : ByteArray) (hs : s.size ≤ 400000) (r : Rq) (hr : r.f0.size ≤ 400000) (w : World) (hG : GW w) : Calls Tryz.prog 14 #[.string s, .agg (rqv r)] w fun e w' => e = .returned (.tuple #[.string (setP s r).1, .int .i64 (setP s r).2]) ∧ Below w.heap.size w w' := by
  have hb1 := below_alloc (Below.refl w.heap.size w) (.cells #[.string s] 9)
  have hb2 := below_alloc hb1 (.cells (rqv r) 25)
  have hS := blk_alloc (heap_alloc_new w (.cells #[.string s] 9)) (.cells (rqv r) 25)
  have hR := heap_alloc_new (w.alloc (.cells #[.string s] 9)) (.cells (rqv r) 25)
  rw [show (w.alloc (.cells #[.string s] 9)).heap.size = w.heap.size + 1 by simp] at hR
  have HED := Aside0.mk (edited_calls s hs r hr 35 #[.pointer (some ⟨w.heap.size, 0, none⟩), .pointer (some ⟨w.heap.size + 1, 0, none⟩)] (setE s r) w.heap.size (enters_of Tryz.func35 (by kernel_rfl) rfl) ((w.alloc (.cells #[.string s] 9)).alloc (.cells (rqv r) 25)) (hG.below hb2) (fun hm0 hr0 W hW => by
    rcases where_is s hs r.f0 with h | ⟨x, n, r0, a, b, _, _, _, _, hab, h⟩
    · rw [h]
      exact (set1_calls s hs r 0 0 false (fun h => by cases h) w.heap.size (w.heap.size + 1) W (hG.below (below_step hb2 hW)) (blk_below hS hW) (blk_below hR hW)).mono (fun e w' h => ⟨h.1, Moves.of_below h.2⟩)
    · rw [h]
      have hsz : s.size = a.length + ((txV r0.f1).size + b.length) := by rw [Lib.size_eq s, hab, List.length_append, List.length_append, ← Lib.size_eq]
      exact (set1_calls s hs r a.length (a.length + (txV r0.f1).size) true (fun _ => ⟨Nat.le_add_right _ _, by omega⟩) w.heap.size (w.heap.size + 1) W (hG.below (below_step hb2 hW)) (blk_below hS hW) (blk_below hR hW)).mono (fun e w' h => ⟨h.1, Moves.of_below h.2⟩)))
  have HB2 := Aside0.mk hb2
  obtain ⟨y0, y1, y2, y3, y4, y5⟩ : ((w.alloc (.cells #[.string s] 9)).alloc (.cells (rqv r) 25)).cell? ⟨w.heap.size + 1, 0, none⟩ = some (.string r.f0) ∧ ((w.alloc (.cells #[.string s] 9)).alloc (.cells (rqv r) 25)).cell? ⟨w.heap.size + 1, 1, none⟩ = some (.int .i64 r.f1.f0) ∧ ((w.alloc (.cells #[.string s] 9)).alloc (.cells (rqv r) 25)).cell? ⟨w.heap.size + 1, 2, none⟩ = some (.int .i64 r.f1.f1) ∧ ((w.alloc (.cells #[.string s] 9)).alloc (.cells (rqv r) 25)).cell? ⟨w.heap.size + 1, 3, none⟩ = some (.int .i64 r.f1.f2) ∧ ((w.alloc (.cells #[.string s] 9)).alloc (.cells (rqv r) 25)).cell? ⟨w.heap.size + 1, 4, none⟩ = some (.string r.f1.f3) ∧ ((w.alloc (.cells #[.string s] 9)).alloc (.cells (rqv r) 25)).cell? ⟨w.heap.size + 1, 5, none⟩ = some (.string r.f1.f4) := ⟨(blk_cell hR 0).trans rfl, (blk_cell hR 1).trans rfl, (blk_cell hR 2).trans rfl, (blk_cell hR 3).trans rfl, (blk_cell hR 4).trans rfl, (blk_cell hR 5).trans rfl⟩
  have q0 : ((w.alloc (.cells #[.string s] 9)).alloc (.cells (rqv r) 25)).cell? ⟨w.heap.size, 0, none⟩ = some (.string s) := (blk_cell hS 0).trans rfl
  have hmf : ∀ (fn : Fn) (first cap : Array Value) (w : World), (Instr.makeFunc fn first cap).run Tryz.prog w = .ok (.func fn first cap) w := fun _ _ _ _ => rfl
  have HW := Aside0.mk (show ∀ w', Moves (fun k => k = w.heap.size) ((w.alloc (.cells #[.string s] 9)).alloc (.cells (rqv r) 25)) w' → Below w.heap.size w w' from fun w' h => h.below_of (fun k e => Nat.le_of_eq e.symm) hb2 (Nat.le_refl _))
  clear hb1 hb2 hS hR hG
  rw [show setP s r = edP s r (setE s r) from rfl]
  generalize edP s r (setE s r) = ro at HED ⊢
  go_enter Tryz.func14, Tryz.ntmps14
  go_wp2_with (go_at_call 34; with_reducible refine HED.out.mono ?_; rintro e w' ⟨rfl, hmv⟩)
  go_ret2
  exact ⟨rfl, HW.out _ hmv⟩
set_option maxRecDepth 100000 in
set_option maxHeartbeats 4000000 in
theorem add_calls (s : ByteArray) (hs : s.size ≤ 400000) (r : Rq) (hr : r.f0.size ≤ 400000) (w : World) (hG : GW w) : Calls Tryz.prog 18 #[.string s, .agg (rqv r)] w fun e w' => e = .returned (.tuple #[.string (addP s r).1, .int .i64 (addP s r).2]) ∧ Below w.heap.size w w' := by
  have hb1 := below_alloc (Below.refl w.heap.size w) (.cells #[.string s] 9)
  have hb2 := below_alloc hb1 (.cells (rqv r) 25)
  have hS := blk_alloc (heap_alloc_new w (.cells #[.string s] 9)) (.cells (rqv r) 25)
  have hR := heap_alloc_new (w.alloc (.cells #[.string s] 9)) (.cells (rqv r) 25)
  rw [show (w.alloc (.cells #[.string s] 9)).heap.size = w.heap.size + 1 by simp] at hR
  have HED := Aside0.mk (edited_calls s hs r hr 38 #[.pointer (some ⟨w.heap.size, 0, none⟩), .pointer (some ⟨w.heap.size + 1, 0, none⟩)] (addE s r) w.heap.size (enters_of Tryz.func38 (by kernel_rfl) rfl) ((w.alloc (.cells #[.string s] 9)).alloc (.cells (rqv r) 25)) (hG.below hb2) (fun hm0 hr0 W hW => add1_calls s hs r hr _ _ _ w.heap.size (w.heap.size + 1) (by omega) w W hG (below_step hb2 hW) (Nat.le_refl _) (blk_below hS hW) (blk_below hR hW)))
  have HB2 := Aside0.mk hb2
  obtain ⟨y0, y1, y2, y3, y4, y5⟩ : ((w.alloc (.cells #[.string s] 9)).alloc (.cells (rqv r) 25)).cell? ⟨w.heap.size + 1, 0, none⟩ = some (.string r.f0) ∧ ((w.alloc (.cells #[.string s] 9)).alloc (.cells (rqv r) 25)).cell? ⟨w.heap.size + 1, 1, none⟩ = some (.int .i64 r.f1.f0) ∧ ((w.alloc (.cells #[.string s] 9)).alloc (.cells (rqv r) 25)).cell? ⟨w.heap.size + 1, 2, none⟩ = some (.int .i64 r.f1.f1) ∧ ((w.alloc (.cells #[.string s] 9)).alloc (.cells (rqv r) 25)).cell? ⟨w.heap.size + 1, 3, none⟩ = some (.int .i64 r.f1.f2) ∧ ((w.alloc (.cells #[.string s] 9)).alloc (.cells (rqv r) 25)).cell? ⟨w.heap.size + 1, 4, none⟩ = some (.string r.f1.f3) ∧ ((w.alloc (.cells #[.string s] 9)).alloc (.cells (rqv r) 25)).cell? ⟨w.heap.size + 1, 5, none⟩ = some (.string r.f1.f4) := ⟨(blk_cell hR 0).trans rfl, (blk_cell hR 1).trans rfl, (blk_cell hR 2).trans rfl, (blk_cell hR 3).trans rfl, (blk_cell hR 4).trans rfl, (blk_cell hR 5).trans rfl⟩
  have q0 : ((w.alloc (.cells #[.string s] 9)).alloc (.cells (rqv r) 25)).cell? ⟨w.heap.size, 0, none⟩ = some (.string s) := (blk_cell hS 0).trans rfl
  have hmf : ∀ (fn : Fn) (first cap : Array Value) (w : World), (Instr.makeFunc fn first cap).run Tryz.prog w = .ok (.func fn first cap) w := fun _ _ _ _ => rfl
  have HW := Aside0.mk (show ∀ w', Moves (fun k => k = w.heap.size) ((w.alloc (.cells #[.string s] 9)).alloc (.cells (rqv r) 25)) w' → Below w.heap.size w w' from fun w' h => h.below_of (fun k e => Nat.le_of_eq e.symm) hb2 (Nat.le_refl _))
  clear hb1 hb2 hS hR hG
  rw [show addP s r = edP s r (addE s r) from rfl]
  generalize edP s r (addE s r) = ro at HED ⊢
  go_enter Tryz.func18, Tryz.ntmps18
  go_wp2_with (go_at_call 34; with_reducible refine HED.out.mono ?_; rintro e w' ⟨rfl, hmv⟩)
  go_ret2
  exact ⟨rfl, HW.out _ hmv⟩
end Go.Proofs.YtmbpefnhkimplaaGreatDoor
end
