/- The texts BpNxt, R3x0 in one file, without what these claims do not use (put together by prune2.py). -/
import Derived.Test.YtillhaipemengaaGreatDoorZU17
import Derived.Test.YtillhaipemengaaGreatDoorZU4
import Derived.Test.YtillhaipemengaaGreatDoorZU6
import Derived.Test.YtillhaipemengaaGreatDoorZU8
import Derived.Test.YtillhaipemengaaGreatDoorZU9
section
namespace Go.Proofs.YtillhaipemengaaGreatDoor
open Go Go.RowKit Go.Sort Go.Proofs Go.Proofs.YtillhaipemengaaGreatDoorW.PrintWords Go.Proofs.YtillhaipemengaaGreatDoorW.PrintLast Go.Proofs.YtillhaipemengaaGreatDoor.K0
set_option linter.unusedVariables false
set_option linter.unusedSimpArgs false
abbrev rlc (r : Rl) : Array Value := #[.int .i64 r.f0, .bool r.f1, .int .i64 r.f2.f0, .int .i64 r.f2.f1, .int .i64 r.f2.f2, .string r.f2.f3, .string r.f2.f4, .int .i64 r.f3.f0, .int .i64 r.f3.f1, .int .i64 r.f3.f2, .string r.f3.f3, .string r.f3.f4, .int .i64 r.f4]
theorem rlc_one (r : Rl) : ∀ q ∈ (rlc r).toList, q.oneCell' = true := fun q hq => by
  simp only [rlc, List.mem_cons, List.not_mem_nil, or_false] at hq
  rcases hq with rfl | rfl | rfl | rfl | rfl | rfl | rfl | rfl | rfl | rfl | rfl | rfl | rfl <;> rfl
def nxt.T2 : Bool × List (List Nat × List Nat) := (true, [([], []), ([], []), ([1], [1]), ([], []), ([], []), ([3, 4], [3, 4]), ([0, 2, 5, 5], [0, 2, 5]), ([6], [6]), ([7], [7]), ([7], [7]), ([], []), ([10, 8, 6, 0, 1, 2, 3, 4, 5, 6, 7, 8, 10], [8, 10]), ([9, 11, 0, 1, 2, 3, 4, 5, 6, 7, 8, 9, 10, 11], [9])])
def nxt.B2 : List Nat := [0, 0, 2, 0, 0, 24, 63, 127, 255, 255, 0, 1535, 4095]
theorem nxt.tab2 : rtab .any (opsOf Tryz.f83 2) = nxt.T2 := by kernel_rfl
theorem nxt.bits2 : waitsOk nxt.T2.2 nxt.B2 = true := by kernel_rfl
/-- next's own blocks. -/
structure NxIs (w : World) (pc : Array Value) (W : World) : Prop where
  base : Below w.heap.size w W
  p : W.heap[w.heap.size]? = some (.cells pc 86 (0, 0))
  q : W.heap[w.heap.size + 1]? = some (.cells (rlc zr) 30 (0, 0))
theorem NxIs.step {w W W' : World} {pc : Array Value} (h : NxIs w pc W) (hb : Below W.heap.size W W') : NxIs w pc W' := ⟨below_step h.base hb, blk_below h.p hb, blk_below h.q hb⟩
theorem NxIs.put {w W W' : World} {pc : Array Value} {g : Nat} (h : NxIs w pc W) (hl : w.heap.size + 1 < g) (hg : W.grownBy W' (some g)) : NxIs w pc W' :=
  ⟨h.base.grown hg h.base.size (fun k hk => by cases hk; omega), blk_grown h.p hg (fun e => by injection e with e; omega), blk_grown h.q hg (fun e => by injection e with e; omega)⟩
theorem NxIs.held {w W : World} {A0 A1 A3 : Option Addr} {n0 c0 n1 c1 n3 c3 : Nat} (h : NxIs w (plc A0 A1 A3 n0 c0 n1 c1 n3 c3) W) : W.cell? ⟨w.heap.size, 0, none⟩ = some (.slice A0 n0 c0) ∧ W.cell? ⟨w.heap.size, 1, none⟩ = some (.slice A1 n1 c1) ∧ W.cell? ⟨w.heap.size, 2, none⟩ = some (.slice A3 n3 c3) := ⟨blk_cell h.p 0, blk_cell h.p 1, blk_cell h.p 2⟩
set_option maxRecDepth 100000 in
set_option maxHeartbeats 4000000 in
theorem next_calls (A0 A1 A3 : Option Addr) (c0 c1 c3 : Nat) (l : List Md) (tg : List Tg) (ws : List Wt) (z : Nat) (m : Md) (w : World) (hr : Kd.C k63 w A0 l.length l) (hw : Kd.C k72 w A3 ws.length ws) (hm : l[z]? = some m)
    (hnx : ∀ (n : Int) (W : World), Below w.heap.size w W → Calls Tryz.prog 12 #[.string m.f1, .slice A1 tg.length c1, .int .i64 n] W fun e w' => e = .returned (.tuple #[.agg (rlc (bNext m.f1 tg n).1), .int .i64 (bNext m.f1 tg n).2]) ∧ Below W.heap.size W w') :
    Calls Tryz.prog 83 #[.agg (plc A0 A1 A3 l.length c0 tg.length c1 ws.length c3), .int .i64 z] w fun e w' => e = .returned (.tuple #[.agg (rlc (relAt l tg ws z).1), .int .i64 (relAt l tg ws z).2]) ∧ Below w.heap.size w w' := by
  have hlv := fun (W : World) (hb : Below w.heap.size w W) => level_calls A0 A1 A3 l.length c0 tg.length c1 c3 ws m.f1 W (Kd.C_below hw hb)
  have hnx2 := hnx (levOf ws m.f1)
  have hpost : (relAt l tg ws z) = if (bNext m.f1 tg (levOf ws m.f1)).2 = 0 then (⟨z, (bNext m.f1 tg (levOf ws m.f1)).1.f1, (bNext m.f1 tg (levOf ws m.f1)).1.f2, (bNext m.f1 tg (levOf ws m.f1)).1.f3, (bNext m.f1 tg (levOf ws m.f1)).1.f4⟩, 0) else bNext m.f1 tg (levOf ws m.f1) := by
    unfold relAt
    rw [Int.toNat_natCast, hm]
  have hz := (List.getElem?_eq_some_iff.1 hm).1
  have hzz : (z : Int) < (l.length : Int) := by omega
  obtain ⟨W0, hW0⟩ : ∃ W0, (w.alloc (.cells (plc A0 A1 A3 l.length c0 tg.length c1 ws.length c3) 86)).alloc (.cells #[.int .i64 0, .bool false, .int .i64 0, .int .i64 0, .int .i64 0, .string ⟨#[]⟩, .string ⟨#[]⟩, .int .i64 0, .int .i64 0, .int .i64 0, .string ⟨#[]⟩, .string ⟨#[]⟩, .int .i64 0] 30) = W0 := ⟨_, rfl⟩
  have hb0 : Below w.heap.size w W0 := by rw [← hW0]; exact below_alloc (below_alloc (Below.refl _ _) _) _
  obtain ⟨ad, A2, c2, hA, u0, u1, u2, _, _⟩ := at_T63 (Kd.C_below hr hb0) (z : Int) (by omega) (by omega)
  have hxe : rd_T63 l (z : Int) = m := by
    unfold rd_T63
    rw [Int.toNat_natCast, List.getD_eq_getElem?_getD, hm]; rfl
  rw [hxe, Int.toNat_natCast] at u1
  subst hA
  have HO0 := Aside0.mk (show NxIs w (plc (some ad) A1 A3 l.length c0 tg.length c1 ws.length c3) W0 from ⟨hb0, by rw [← hW0]; exact blk_alloc (heap_alloc_new w _) _, by
    rw [← hW0]
    have h := heap_alloc_new (w.alloc (.cells (plc (some ad) A1 A3 l.length c0 tg.length c1 ws.length c3) 86)) (.cells #[.int .i64 0, .bool false, .int .i64 0, .int .i64 0, .int .i64 0, .string ⟨#[]⟩, .string ⟨#[]⟩, .int .i64 0, .int .i64 0, .int .i64 0, .string ⟨#[]⟩, .string ⟨#[]⟩, .int .i64 0] 30)
    rw [show (w.alloc (.cells (plc (some ad) A1 A3 l.length c0 tg.length c1 ws.length c3) 86)).heap.size = w.heap.size + 1 by simp] at h
    exact h⟩)
  obtain ⟨p0, p1, p2⟩ := HO0.out.held
  subst hW0
  generalize hlv' : levOf ws m.f1 = lv at hlv hnx2 hpost
  generalize hq : bNext m.f1 tg lv = q at hnx2 hpost
  obtain ⟨R, er⟩ := q
  rw [hpost]
  simp only at hnx2 ⊢
  obtain ⟨PO, hPO⟩ : ∃ PO : Rl × Int, PO = if er = 0 then (⟨(z : Int), R.f1, R.f2, R.f3, R.f4⟩, 0) else (R, er) := ⟨_, rfl⟩
  rw [← hPO]
  have HPO := Aside0.mk hPO
  obtain ⟨p, hp⟩ : ∃ p, m.f1 = p := ⟨_, rfl⟩
  rw [hp] at hlv hnx2 u1
  generalize l.length = n0 at *
  generalize tg.length = n1 at *
  generalize ws.length = n3 at *
  have HLV := Aside0.mk hlv
  have HNX := Aside0.mk hnx2
  clear hr hw hm hnx hlv hnx2 hpost hz hb0 hxe u0 u2 hlv' hq hPO hp
  go_enter Tryz.func83, Tryz.ntmps83
  go_wp2
  refine sX (ds := []) (S := fun w' => w'.cell? ⟨w.heap.size, 0, none⟩ = some (.slice (some ad) n0 c0) ∧ w'.cell? ⟨w.heap.size, 1, none⟩ = some (.slice A1 n1 c1) ∧ w'.cell? ⟨w.heap.size, 2, none⟩ = some (.slice A3 n3 c3)) nxt.tab2 nxt.bits2 (NxIs.held (HO0.out.step (below_drew1 (Below.refl _ _)))) (fun HT_ HW_ hHeld => ?_)
  have HO1 := Aside0.mk (HO0.out.step (below_drew1 (Below.refl _ _)))
  generalize World.drew _ = W1 at HO1 hHeld ⊢
  clear p0 p1 p2 u1 HO0
  refine pX HT_ 0 1 16 ?_
  refine pX HT_ 1 3 17 ?_
  refine pX HT_ 4 19 20 ?_
  refine tX HT_ HW_ hHeld 2 23 18 ?_
  refine tX HT_ HW_ hHeld 3 31 19 ?_
  refine twX HT_ 5 10 63 1055 (some 21) (some 7) (fun K hK => ?_) (fun K hK => ?_)
  ·
    refine goes_ Tryz.func115 (by kernel_rfl) rfl #[.agg (plc (some ad) A1 A3 n0 c0 n1 c1 n3 c3), .string p] (by kernel_rfl) rfl rfl (by (try simp only [List.map_toArray, List.map_cons, List.map_nil]); first | done | rfl) ((HLV.out _ HO1.out.base).mono ?_)
    rintro e W2 ⟨rfl, hb⟩
    have HO2 := Aside0.mk (HO1.out.step hb); clear hb
    refine ⟨_, rfl, ?_⟩
    refine hK.out _ _ HO2.out.held (fun hHeld => ?_); clear hK K; refine norm_ nX ?_
    refine twX HT_ 6 10 127 1087 (some 22) (some 7) (fun K hK => ?_) (fun K hK => ?_)
    ·
      refine goes_ Tryz.func12 (by kernel_rfl) rfl #[.string p, .slice A1 n1 c1, .int .i64 lv] (by kernel_rfl) rfl rfl (by (try simp only [List.map_toArray, List.map_cons, List.map_nil]); first | done | rfl) ((HNX.out _ HO2.out.base).mono ?_)
      rintro e W3 ⟨rfl, hb⟩
      have HO3 := Aside0.mk (HO2.out.step hb); clear hb
      refine ⟨_, rfl, ?_⟩
      refine hK.out _ _ HO3.out.held (fun hHeld => ?_); clear hK K; refine norm_ nX ?_
      refine pX HT_ 7 255 15 ?_
      refine pX HT_ 8 511 23 ?_
      refine pX HT_ 9 1023 24 ?_
      refine oX HT_ 10 2047 (some 7) (fun K hK => ?_)
      refine value_ (by kernel_rfl) rfl (by go_simp; exact ⟨rfl, rfl⟩) ?_
      have hb : Below W3.heap.size W3 (W3.alloc (.cells #[.int .i64 0, .bool false, .int .i64 0, .int .i64 0, .int .i64 0, .string ⟨#[]⟩, .string ⟨#[]⟩, .int .i64 0, .int .i64 0, .int .i64 0, .string ⟨#[]⟩, .string ⟨#[]⟩, .int .i64 0] 30)) := below_alloc (Below.refl _ _) _
      have HO4 := Aside0.mk (HO3.out.step hb); have HY4 := Aside0.mk (show (W3.alloc (.cells #[.int .i64 0, .bool false, .int .i64 0, .int .i64 0, .int .i64 0, .string ⟨#[]⟩, .string ⟨#[]⟩, .int .i64 0, .int .i64 0, .int .i64 0, .string ⟨#[]⟩, .string ⟨#[]⟩, .int .i64 0] 30)).heap[W3.heap.size]? = some (.cells (rlc zr) 30 (0, 0)) from heap_alloc_new W3 _); have HYB4 := Aside0.mk (show w.heap.size + 1 < W3.heap.size from blk_lt HO3.out.q); clear hb
      obtain ⟨W4, hW4⟩ : ∃ W4, (W3.alloc (.cells #[.int .i64 0, .bool false, .int .i64 0, .int .i64 0, .int .i64 0, .string ⟨#[]⟩, .string ⟨#[]⟩, .int .i64 0, .int .i64 0, .int .i64 0, .string ⟨#[]⟩, .string ⟨#[]⟩, .int .i64 0] 30)) = W4 := ⟨_, rfl⟩; rw [hW4] at HO4 HY4 ⊢; clear hW4
      refine hK.out _ _ HO4.out.held (fun hHeld => ?_); clear hK K; refine norm_ nX ?_
      refine oX HT_ 11 4095 none (fun K hK => ?_)
      refine store_K (by kernel_rfl) rfl 30 (.tmp 7) (.tmp 23) rfl 0 (rlc R).toList HY4.out rfl rfl rfl (by kernel_rfl) (show 0 + 13 ≤ 13 by decide) (rlc_one R) rfl ?_
      intro W5 hr hg; have HO5 := Aside0.mk (HO4.out.put HYB4.out hg); have HY5 := Aside0.mk hr; have HYB := HYB4; clear hr hg
      refine hK.out _ _ HO5.out.held (fun hHeld => ?_); clear hK K; refine norm_ nX ?_
      refine pX HT_ 12 8191 8 ?_
      refine eX HT_ ?_
      clear HT_ HW_ hHeld
      have HQ := HO5.out.q
      have HYL := blk_lt HY5.out
      have HQ' := Aside0.mk HQ
      have HYL' := Aside0.mk HYL
      clear HQ HYL
      by_cases he : er = 0
      · subst he
        go_wp2_with (first
          | ((with_reducible refine gate_ (.store 3 (.tmp 28) (.tmp 27)) rfl ?_); refine store_ev 3 (.tmp 28) (.tmp 27) rfl rfl rfl 0 [.int .i64 z] HY5.out rfl rfl rfl (by kernel_rfl) (show 0 + 1 ≤ 13 by decide) (by simp [Value.oneCell']) rfl ?_; intro Wa ha hga; have HA := Aside0.mk ha; have HOa := Aside0.mk (HO5.out.put HYB.out hga); clear ha hga)
          | ((with_reducible refine gate_ (.load 30 (.tmp 7)) rfl ?_); refine load_ev (p := .tmp 7) rfl rfl rfl HA.out Tryz.underlying30 rfl (by kernel_rfl) ?_)
          | ((with_reducible refine gate_ (.store 30 (.tmp 4) (.tmp 29)) rfl ?_); refine store_ev 30 (.tmp 4) (.tmp 29) rfl rfl rfl 0 (rlc ⟨z, R.f1, R.f2, R.f3, R.f4⟩).toList HOa.out.q rfl rfl rfl (by kernel_rfl) (show 0 + 13 ≤ 13 by decide) (rlc_one _) rfl ?_; intro Wb hb hgb; have HB := Aside0.mk hb; have HBB := Aside0.mk (HOa.out.base.grown hgb HOa.out.base.size (fun k hk => by cases hk; omega)); clear hb hgb))
        refine bodyPost_ret (results_ct rfl _ _ (w.heap.size + 1) 30 (rlc ⟨z, R.f1, R.f2, R.f3, R.f4⟩) (0, 0) _ rfl HB.out Tryz.underlying30 rfl (by kernel_rfl)) rfl ?_
        have hpo : PO = (⟨(z : Int), R.f1, R.f2, R.f3, R.f4⟩, 0) := HPO.out.trans (if_pos trivial)
        subst hpo
        exact ⟨rfl, HBB.out⟩
      · have heb : (er == 0) = false := by simpa using he
        go_wp2_with (first
          | ((with_reducible refine gate_ (.load 30 (.tmp 7)) rfl ?_); refine load_ev (p := .tmp 7) rfl rfl rfl HY5.out Tryz.underlying30 rfl (by kernel_rfl) ?_)
          | ((with_reducible refine gate_ (.store 30 (.tmp 4) (.tmp 29)) rfl ?_); refine store_ev 30 (.tmp 4) (.tmp 29) rfl rfl rfl 0 (rlc R).toList HO5.out.q rfl rfl rfl (by kernel_rfl) (show 0 + 13 ≤ 13 by decide) (rlc_one _) rfl ?_; intro Wb hb hgb; have HB := Aside0.mk hb; have HBB := Aside0.mk (HO5.out.base.grown hgb HO5.out.base.size (fun k hk => by cases hk; omega)); clear hb hgb))
        refine bodyPost_ret (results_ct rfl _ _ (w.heap.size + 1) 30 (rlc R) (0, 0) _ rfl HB.out Tryz.underlying30 rfl (by kernel_rfl)) rfl ?_
        have hpo : PO = (R, er) := HPO.out.trans (if_neg he)
        subst hpo
        exact ⟨rfl, HBB.out⟩
    ·
      refine value_ (by kernel_rfl) rfl (by go_simp; exact ⟨rfl, rfl⟩) ?_
      have hb : Below W2.heap.size W2 (W2.alloc (.cells #[.int .i64 0, .bool false, .int .i64 0, .int .i64 0, .int .i64 0, .string ⟨#[]⟩, .string ⟨#[]⟩, .int .i64 0, .int .i64 0, .int .i64 0, .string ⟨#[]⟩, .string ⟨#[]⟩, .int .i64 0] 30)) := below_alloc (Below.refl _ _) _
      have HO6 := Aside0.mk (HO2.out.step hb); have HY6 := Aside0.mk (show (W2.alloc (.cells #[.int .i64 0, .bool false, .int .i64 0, .int .i64 0, .int .i64 0, .string ⟨#[]⟩, .string ⟨#[]⟩, .int .i64 0, .int .i64 0, .int .i64 0, .string ⟨#[]⟩, .string ⟨#[]⟩, .int .i64 0] 30)).heap[W2.heap.size]? = some (.cells (rlc zr) 30 (0, 0)) from heap_alloc_new W2 _); have HYB6 := Aside0.mk (show w.heap.size + 1 < W2.heap.size from blk_lt HO2.out.q); clear hb
      obtain ⟨W6, hW6⟩ : ∃ W6, (W2.alloc (.cells #[.int .i64 0, .bool false, .int .i64 0, .int .i64 0, .int .i64 0, .string ⟨#[]⟩, .string ⟨#[]⟩, .int .i64 0, .int .i64 0, .int .i64 0, .string ⟨#[]⟩, .string ⟨#[]⟩, .int .i64 0] 30)) = W6 := ⟨_, rfl⟩; rw [hW6] at HO6 HY6 ⊢; clear hW6
      refine hK.out _ _ HO6.out.held (fun hHeld => ?_); clear hK K; refine norm_ nX ?_
      refine oX HT_ 6 1151 (some 22) (fun K hK => ?_)
      refine goes_ Tryz.func12 (by kernel_rfl) rfl #[.string p, .slice A1 n1 c1, .int .i64 lv] (by kernel_rfl) rfl rfl (by (try simp only [List.map_toArray, List.map_cons, List.map_nil]); first | done | rfl) ((HNX.out _ HO6.out.base).mono ?_)
      rintro e W7 ⟨rfl, hb⟩
      have HO7 := Aside0.mk (HO6.out.step hb); have HY7 := Aside0.mk (blk_below HY6.out hb); clear hb
      refine ⟨_, rfl, ?_⟩
      refine hK.out _ _ HO7.out.held (fun hHeld => ?_); clear hK K; refine norm_ nX ?_
      refine pX HT_ 7 1279 15 ?_
      refine pX HT_ 8 1535 23 ?_
      refine pX HT_ 9 2047 24 ?_
      refine oX HT_ 11 4095 none (fun K hK => ?_)
      refine store_K (by kernel_rfl) rfl 30 (.tmp 7) (.tmp 23) rfl 0 (rlc R).toList HY7.out rfl rfl rfl (by kernel_rfl) (show 0 + 13 ≤ 13 by decide) (rlc_one R) rfl ?_
      intro W8 hr hg; have HO8 := Aside0.mk (HO7.out.put HYB6.out hg); have HY8 := Aside0.mk hr; have HYB := HYB6; clear hr hg
      refine hK.out _ _ HO8.out.held (fun hHeld => ?_); clear hK K; refine norm_ nX ?_
      refine pX HT_ 12 8191 8 ?_
      refine eX HT_ ?_
      clear HT_ HW_ hHeld
      have HQ := HO8.out.q
      have HYL := blk_lt HY8.out
      have HQ' := Aside0.mk HQ
      have HYL' := Aside0.mk HYL
      clear HQ HYL
      by_cases he : er = 0
      · subst he
        go_wp2_with (first
          | ((with_reducible refine gate_ (.store 3 (.tmp 28) (.tmp 27)) rfl ?_); refine store_ev 3 (.tmp 28) (.tmp 27) rfl rfl rfl 0 [.int .i64 z] HY8.out rfl rfl rfl (by kernel_rfl) (show 0 + 1 ≤ 13 by decide) (by simp [Value.oneCell']) rfl ?_; intro Wa ha hga; have HA := Aside0.mk ha; have HOa := Aside0.mk (HO8.out.put HYB.out hga); clear ha hga)
          | ((with_reducible refine gate_ (.load 30 (.tmp 7)) rfl ?_); refine load_ev (p := .tmp 7) rfl rfl rfl HA.out Tryz.underlying30 rfl (by kernel_rfl) ?_)
          | ((with_reducible refine gate_ (.store 30 (.tmp 4) (.tmp 29)) rfl ?_); refine store_ev 30 (.tmp 4) (.tmp 29) rfl rfl rfl 0 (rlc ⟨z, R.f1, R.f2, R.f3, R.f4⟩).toList HOa.out.q rfl rfl rfl (by kernel_rfl) (show 0 + 13 ≤ 13 by decide) (rlc_one _) rfl ?_; intro Wb hb hgb; have HB := Aside0.mk hb; have HBB := Aside0.mk (HOa.out.base.grown hgb HOa.out.base.size (fun k hk => by cases hk; omega)); clear hb hgb))
        refine bodyPost_ret (results_ct rfl _ _ (w.heap.size + 1) 30 (rlc ⟨z, R.f1, R.f2, R.f3, R.f4⟩) (0, 0) _ rfl HB.out Tryz.underlying30 rfl (by kernel_rfl)) rfl ?_
        have hpo : PO = (⟨(z : Int), R.f1, R.f2, R.f3, R.f4⟩, 0) := HPO.out.trans (if_pos trivial)
        subst hpo
        exact ⟨rfl, HBB.out⟩
      · have heb : (er == 0) = false := by simpa using he
        go_wp2_with (first
          | ((with_reducible refine gate_ (.load 30 (.tmp 7)) rfl ?_); refine load_ev (p := .tmp 7) rfl rfl rfl HY8.out Tryz.underlying30 rfl (by kernel_rfl) ?_)
          | ((with_reducible refine gate_ (.store 30 (.tmp 4) (.tmp 29)) rfl ?_); refine store_ev 30 (.tmp 4) (.tmp 29) rfl rfl rfl 0 (rlc R).toList HO8.out.q rfl rfl rfl (by kernel_rfl) (show 0 + 13 ≤ 13 by decide) (rlc_one _) rfl ?_; intro Wb hb hgb; have HB := Aside0.mk hb; have HBB := Aside0.mk (HO8.out.base.grown hgb HO8.out.base.size (fun k hk => by cases hk; omega)); clear hb hgb))
        refine bodyPost_ret (results_ct rfl _ _ (w.heap.size + 1) 30 (rlc R) (0, 0) _ rfl HB.out Tryz.underlying30 rfl (by kernel_rfl)) rfl ?_
        have hpo : PO = (R, er) := HPO.out.trans (if_neg he)
        subst hpo
        exact ⟨rfl, HBB.out⟩
  ·
    refine value_ (by kernel_rfl) rfl (by go_simp; exact ⟨rfl, rfl⟩) ?_
    have hb : Below W1.heap.size W1 (W1.alloc (.cells #[.int .i64 0, .bool false, .int .i64 0, .int .i64 0, .int .i64 0, .string ⟨#[]⟩, .string ⟨#[]⟩, .int .i64 0, .int .i64 0, .int .i64 0, .string ⟨#[]⟩, .string ⟨#[]⟩, .int .i64 0] 30)) := below_alloc (Below.refl _ _) _
    have HO9 := Aside0.mk (HO1.out.step hb); have HY9 := Aside0.mk (show (W1.alloc (.cells #[.int .i64 0, .bool false, .int .i64 0, .int .i64 0, .int .i64 0, .string ⟨#[]⟩, .string ⟨#[]⟩, .int .i64 0, .int .i64 0, .int .i64 0, .string ⟨#[]⟩, .string ⟨#[]⟩, .int .i64 0] 30)).heap[W1.heap.size]? = some (.cells (rlc zr) 30 (0, 0)) from heap_alloc_new W1 _); have HYB9 := Aside0.mk (show w.heap.size + 1 < W1.heap.size from blk_lt HO1.out.q); clear hb
    obtain ⟨W9, hW9⟩ : ∃ W9, (W1.alloc (.cells #[.int .i64 0, .bool false, .int .i64 0, .int .i64 0, .int .i64 0, .string ⟨#[]⟩, .string ⟨#[]⟩, .int .i64 0, .int .i64 0, .int .i64 0, .string ⟨#[]⟩, .string ⟨#[]⟩, .int .i64 0] 30)) = W9 := ⟨_, rfl⟩; rw [hW9] at HO9 HY9 ⊢; clear hW9
    refine hK.out _ _ HO9.out.held (fun hHeld => ?_); clear hK K; refine norm_ nX ?_
    refine oX HT_ 5 1087 (some 21) (fun K hK => ?_)
    refine goes_ Tryz.func115 (by kernel_rfl) rfl #[.agg (plc (some ad) A1 A3 n0 c0 n1 c1 n3 c3), .string p] (by kernel_rfl) rfl rfl (by (try simp only [List.map_toArray, List.map_cons, List.map_nil]); first | done | rfl) ((HLV.out _ HO9.out.base).mono ?_)
    rintro e W10 ⟨rfl, hb⟩
    have HO10 := Aside0.mk (HO9.out.step hb); have HY10 := Aside0.mk (blk_below HY9.out hb); clear hb
    refine ⟨_, rfl, ?_⟩
    refine hK.out _ _ HO10.out.held (fun hHeld => ?_); clear hK K; refine norm_ nX ?_
    refine oX HT_ 6 1151 (some 22) (fun K hK => ?_)
    refine goes_ Tryz.func12 (by kernel_rfl) rfl #[.string p, .slice A1 n1 c1, .int .i64 lv] (by kernel_rfl) rfl rfl (by (try simp only [List.map_toArray, List.map_cons, List.map_nil]); first | done | rfl) ((HNX.out _ HO10.out.base).mono ?_)
    rintro e W11 ⟨rfl, hb⟩
    have HO11 := Aside0.mk (HO10.out.step hb); have HY11 := Aside0.mk (blk_below HY10.out hb); clear hb
    refine ⟨_, rfl, ?_⟩
    refine hK.out _ _ HO11.out.held (fun hHeld => ?_); clear hK K; refine norm_ nX ?_
    refine pX HT_ 7 1279 15 ?_
    refine pX HT_ 8 1535 23 ?_
    refine pX HT_ 9 2047 24 ?_
    refine oX HT_ 11 4095 none (fun K hK => ?_)
    refine store_K (by kernel_rfl) rfl 30 (.tmp 7) (.tmp 23) rfl 0 (rlc R).toList HY11.out rfl rfl rfl (by kernel_rfl) (show 0 + 13 ≤ 13 by decide) (rlc_one R) rfl ?_
    intro W12 hr hg; have HO12 := Aside0.mk (HO11.out.put HYB9.out hg); have HY12 := Aside0.mk hr; have HYB := HYB9; clear hr hg
    refine hK.out _ _ HO12.out.held (fun hHeld => ?_); clear hK K; refine norm_ nX ?_
    refine pX HT_ 12 8191 8 ?_
    refine eX HT_ ?_
    clear HT_ HW_ hHeld
    have HQ := HO12.out.q
    have HYL := blk_lt HY12.out
    have HQ' := Aside0.mk HQ
    have HYL' := Aside0.mk HYL
    clear HQ HYL
    by_cases he : er = 0
    · subst he
      go_wp2_with (first
        | ((with_reducible refine gate_ (.store 3 (.tmp 28) (.tmp 27)) rfl ?_); refine store_ev 3 (.tmp 28) (.tmp 27) rfl rfl rfl 0 [.int .i64 z] HY12.out rfl rfl rfl (by kernel_rfl) (show 0 + 1 ≤ 13 by decide) (by simp [Value.oneCell']) rfl ?_; intro Wa ha hga; have HA := Aside0.mk ha; have HOa := Aside0.mk (HO12.out.put HYB.out hga); clear ha hga)
        | ((with_reducible refine gate_ (.load 30 (.tmp 7)) rfl ?_); refine load_ev (p := .tmp 7) rfl rfl rfl HA.out Tryz.underlying30 rfl (by kernel_rfl) ?_)
        | ((with_reducible refine gate_ (.store 30 (.tmp 4) (.tmp 29)) rfl ?_); refine store_ev 30 (.tmp 4) (.tmp 29) rfl rfl rfl 0 (rlc ⟨z, R.f1, R.f2, R.f3, R.f4⟩).toList HOa.out.q rfl rfl rfl (by kernel_rfl) (show 0 + 13 ≤ 13 by decide) (rlc_one _) rfl ?_; intro Wb hb hgb; have HB := Aside0.mk hb; have HBB := Aside0.mk (HOa.out.base.grown hgb HOa.out.base.size (fun k hk => by cases hk; omega)); clear hb hgb))
      refine bodyPost_ret (results_ct rfl _ _ (w.heap.size + 1) 30 (rlc ⟨z, R.f1, R.f2, R.f3, R.f4⟩) (0, 0) _ rfl HB.out Tryz.underlying30 rfl (by kernel_rfl)) rfl ?_
      have hpo : PO = (⟨(z : Int), R.f1, R.f2, R.f3, R.f4⟩, 0) := HPO.out.trans (if_pos trivial)
      subst hpo
      exact ⟨rfl, HBB.out⟩
    · have heb : (er == 0) = false := by simpa using he
      go_wp2_with (first
        | ((with_reducible refine gate_ (.load 30 (.tmp 7)) rfl ?_); refine load_ev (p := .tmp 7) rfl rfl rfl HY12.out Tryz.underlying30 rfl (by kernel_rfl) ?_)
        | ((with_reducible refine gate_ (.store 30 (.tmp 4) (.tmp 29)) rfl ?_); refine store_ev 30 (.tmp 4) (.tmp 29) rfl rfl rfl 0 (rlc R).toList HO12.out.q rfl rfl rfl (by kernel_rfl) (show 0 + 13 ≤ 13 by decide) (rlc_one _) rfl ?_; intro Wb hb hgb; have HB := Aside0.mk hb; have HBB := Aside0.mk (HO12.out.base.grown hgb HO12.out.base.size (fun k hk => by cases hk; omega)); clear hb hgb))
      refine bodyPost_ret (results_ct rfl _ _ (w.heap.size + 1) 30 (rlc R) (0, 0) _ rfl HB.out Tryz.underlying30 rfl (by kernel_rfl)) rfl ?_
      have hpo : PO = (R, er) := HPO.out.trans (if_neg he)
      subst hpo
      exact ⟨rfl, HBB.out⟩
end Go.Proofs.YtillhaipemengaaGreatDoor
end

section
namespace Go.Proofs.YtillhaipemengaaGreatDoor.R3
open Go.RowKit Go.Proofs.YtillhaipemengaaGreatDoor Go.Proofs.YtillhaipemengaaGreatDoor.K0 Go.Proofs.YtillhaipemengaaGreatDoor.R1 Go.Proofs.YtillhaipemengaaGreatDoorW.PrintWords Go.Proofs.YtillhaipemengaaGreatDoorW.PrintLast Go.Proofs.YtillhaipemengaaGreatDoorW.PrintMore
attribute [local go_sem] max2_int min2_int max_two min_two max_three min_three max_four min_four
set_option linter.unusedVariables false
set_option linter.unusedSimpArgs false
end Go.Proofs.YtillhaipemengaaGreatDoor.R3
end
