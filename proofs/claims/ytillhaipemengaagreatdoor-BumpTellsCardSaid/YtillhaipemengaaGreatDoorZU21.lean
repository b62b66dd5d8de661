/- The texts BpBump, RBx0 in one file, without what these claims do not use (put together by prune2.py). -/
import Derived.Test.YtillhaipemengaaGreatDoorZU16
import Derived.Test.YtillhaipemengaaGreatDoorZU17
import Derived.Test.YtillhaipemengaaGreatDoorZU20
import Derived.Test.YtillhaipemengaaGreatDoorZU4
import Derived.Test.YtillhaipemengaaGreatDoorZU6
import Derived.Test.YtillhaipemengaaGreatDoorZU11
import Derived.Test.YtillhaipemengaaGreatDoorZU19
import Derived.Test.YtillhaipemengaaGreatDoorZU10
import Derived.Test.YtillhaipemengaaGreatDoorZU9
section
namespace Go.Proofs.YtillhaipemengaaGreatDoor
open Go Go.RowKit Go.Proofs Go.Proofs.YtillhaipemengaaGreatDoorW.PrintWords Go.Proofs.YtillhaipemengaaGreatDoorW.PrintLast Go.Proofs.YtillhaipemengaaGreatDoor.K0 Go.Proofs.YtillhaipemengaaGreatDoor.R1
set_option linter.unusedVariables false
set_option linter.unusedSimpArgs false
abbrev vrc (v : Vr) : Array Value := #[.int .i64 v.f0, .int .i64 v.f1, .int .i64 v.f2, .string v.f3, .string v.f4]
theorem vrc_one (v : Vr) : ∀ q ∈ (vrc v).toList, q.oneCell' = true := fun q hq => by
  simp only [vrc, List.mem_cons, List.not_mem_nil, or_false] at hq
  rcases hq with rfl | rfl | rfl | rfl | rfl <;> rfl
theorem num_f (z : Int) : ver_num.f z = some (numB z) := by
  unfold ver_num.f numB
  by_cases h : z ≥ 0
  · rw [if_pos h, decide_eq_true (show 0 ≤ z from h), Bool.true_and]
  · rw [if_neg h, decide_eq_false (show ¬ 0 ≤ z from h), Bool.false_and]
theorem num_calls (z : Int) (w : World) : Calls Tryz.prog 66 #[.int .i64 z] w fun e w' => e = .returned (.bool (numB z)) ∧ Below w.heap.size w w' :=
  (ver_num.calls z _ w (num_f z)).mono fun e w' h => ⟨h.1, h.2.below⟩
theorem numB_up {z : Int} (h0 : 0 ≤ z) (h1 : z ≤ 999999999) : wrap64 (z + 1) = z + 1 ∧ numB (z + 1) = decide (z < 999999999) := by
  refine ⟨wrap_id (by omega) (by omega), ?_⟩
  unfold numB
  rw [decide_eq_true (show 0 ≤ z + 1 by omega), Bool.true_and]
  exact decide_eq_decide.2 (by omega)
theorem toList_nil0 (s : ByteArray) : s.toList = [] ↔ s.size = 0 := by
  rw [ByteArray.toList_eq, Lib.size_eq, List.length_eq_zero_iff]
/-- Does a bump make a release of what stands ahead of one? -/
def fitsB (v : Vr) (l : Int) : Bool := decide (v.f3.size ≠ 0 ∧ (l < 2 ∨ v.f2 = 0) ∧ (l < 3 ∨ v.f1 = 0))
/-- The next numbers, whether there is room or not. -/
def upN (v : Vr) (l : Int) : Vr := if l = 1 ∧ v.f2 < 999999999 then plainV v.f0 v.f1 (v.f2 + 1) else if l ≤ 2 ∧ v.f1 < 999999999 then plainV v.f0 (v.f1 + 1) 0 else plainV (v.f0 + 1) 0 0
theorem bumpOf_N (v : Vr) (l : Int) (h : vok v = true) (hl : lvlOk l = true) : bumpOf v l = if fitsB v l = true then (plainV v.f0 v.f1 v.f2, 0) else if numB (upN v l).f0 = true then (upN v l, 0) else (zv, 15) := by
  obtain ⟨⟨a0, a9⟩, _, _⟩ := vok_nums h
  unfold bumpOf fitsB
  rw [if_pos h, if_pos hl]
  by_cases hf : v.f3.size ≠ 0 ∧ (l < 2 ∨ v.f2 = 0) ∧ (l < 3 ∨ v.f1 = 0)
  · rw [if_pos hf, if_pos (decide_eq_true hf)]
  · rw [if_neg hf, if_neg (by simpa using hf)]
    unfold upV upN
    have e1 : numB v.f0 = true := numB_iff.2 ⟨a0, a9⟩
    by_cases h1 : l = 1 ∧ v.f2 < 999999999
    · rw [if_pos h1, if_pos h1, if_pos (by exact e1)]
    · rw [if_neg h1, if_neg h1]
      by_cases h2 : l ≤ 2 ∧ v.f1 < 999999999
      · rw [if_pos h2, if_pos h2, if_pos (by exact e1)]
      · rw [if_neg h2, if_neg h2]
        show _ = if numB (v.f0 + 1) = true then _ else _
        rw [(numB_up a0 a9).2]
        by_cases h3 : v.f0 < 999999999
        · rw [if_pos h3, if_pos (by simpa using h3)]
        · rw [if_neg h3, if_neg (by simpa using h3)]
/-- Bump's own blocks. -/
structure BmIs (w : World) (v : Vr) (W : World) : Prop where
  base : Below w.heap.size w W
  p : W.heap[w.heap.size]? = some (.cells (vrc v) 26 (0, 0))
  q : W.heap[w.heap.size + 1]? = some (.cells (vrc zv) 26 (0, 0))
theorem BmIs.step {w W W' : World} {v : Vr} (h : BmIs w v W) (hb : Below W.heap.size W W') : BmIs w v W' := ⟨below_step h.base hb, blk_below h.p hb, blk_below h.q hb⟩
theorem BmIs.put {w W W' : World} {v : Vr} {g : Nat} (h : BmIs w v W) (hl : w.heap.size + 1 < g) (hg : W.grownBy W' (some g)) : BmIs w v W' :=
  ⟨h.base.grown hg h.base.size (fun k hk => by cases hk; omega), blk_grown h.p hg (fun e => by injection e with e; omega), blk_grown h.q hg (fun e => by injection e with e; omega)⟩
theorem BmIs.cells {w W : World} {v : Vr} (h : BmIs w v W) : W.cell? ⟨w.heap.size, 0, none⟩ = some (.int .i64 v.f0) ∧ W.cell? ⟨w.heap.size, 1, none⟩ = some (.int .i64 v.f1) ∧ W.cell? ⟨w.heap.size, 2, none⟩ = some (.int .i64 v.f2) ∧ W.cell? ⟨w.heap.size, 3, none⟩ = some (.string v.f3) ∧ W.cell? ⟨w.heap.size, 4, none⟩ = some (.string v.f4) :=
  ⟨blk_cell h.p 0, blk_cell h.p 1, blk_cell h.p 2, blk_cell h.p 3, blk_cell h.p 4⟩
/-- .. and the next version's. -/
structure BnIs (w : World) (v u : Vr) (g : Nat) (W : World) : Prop where
  b : BmIs w v W
  lt : w.heap.size + 1 < g
  n : W.heap[g]? = some (.cells (vrc u) 26 (0, 0))
theorem BnIs.step {w W W' : World} {v u : Vr} {g : Nat} (h : BnIs w v u g W) (hb : Below W.heap.size W W') : BnIs w v u g W' := ⟨h.b.step hb, h.lt, blk_below h.n hb⟩
theorem BnIs.cells {w W : World} {v u : Vr} {g : Nat} (h : BnIs w v u g W) : W.cell? ⟨g, 0, none⟩ = some (.int .i64 u.f0) ∧ W.cell? ⟨g, 1, none⟩ = some (.int .i64 u.f1) ∧ W.cell? ⟨g, 2, none⟩ = some (.int .i64 u.f2) :=
  ⟨blk_cell h.n 0, blk_cell h.n 1, blk_cell h.n 2⟩
theorem BnIs.put {w W W' : World} {v u u' : Vr} {g : Nat} (h : BnIs w v u g W) (hg : W.grownBy W' (some g)) (hn : W'.heap[g]? = some (.cells (vrc u') 26 (0, 0))) : BnIs w v u' g W' := ⟨h.b.put h.lt hg, h.lt, hn⟩
set_option maxRecDepth 100000 in
set_option maxHeartbeats 800000 in
theorem bump_calls (v : Vr) (l : Int) (w : World) : Calls Tryz.prog 32 #[.agg (vrc v), .int .i64 l] w fun e w' => e = .returned (.tuple #[.agg (vrc (bumpOf v l).1), .int .i64 (bumpOf v l).2]) ∧ Below w.heap.size w w' := by
  have HCK := Aside0.mk (fun W => vcheck_calls v.f0 v.f1 v.f2 v.f3 v.f4 W)
  have HNM := Aside0.mk num_calls
  have HB0 := Aside0.mk (show BmIs w v ((w.alloc (.cells (vrc v) 26)).alloc (.cells #[.int .i64 0, .int .i64 0, .int .i64 0, .string ⟨#[]⟩, .string ⟨#[]⟩] 26)) from ⟨below_alloc (below_alloc (Below.refl _ _) _) _, blk_alloc (heap_alloc_new w _) _, by
    have h := heap_alloc_new (w.alloc (.cells (vrc v) 26)) (.cells #[.int .i64 0, .int .i64 0, .int .i64 0, .string ⟨#[]⟩, .string ⟨#[]⟩] 26)
    rw [show (w.alloc (.cells (vrc v) 26)).heap.size = w.heap.size + 1 by simp] at h
    exact h⟩)
  obtain ⟨bo, hbo⟩ : ∃ bo, bumpOf v l = bo := ⟨_, rfl⟩
  rw [hbo]
  have HBO := Aside0.mk hbo
  clear hbo
  go_enter Tryz.func32, Tryz.ntmps32
  go_upto_region 1 with fail
  generalize (w.alloc (.cells (vrc v) 26)).alloc (.cells #[.int .i64 0, .int .i64 0, .int .i64 0, .string ⟨#[]⟩, .string ⟨#[]⟩] 26) = W1 at HB0 ⊢
  go_cut [18] (fun v18 wc => v18 = .bool (!(vok v && lvlOk l)) ∧ Aside0 (BmIs w v wc))
  case first =>
    have hck := HCK.out W1
    rw [show verOk v.f0 v.f1 v.f2 v.f3 v.f4 = vok v from rfl] at hck
    obtain ⟨h0, h1, h2, h3, h4⟩ := HB0.out.cells
    cases hv : vok v with
    | false =>
      rw [hv] at hck
      go_wp2_with (go_at_call 31; refine hck.mono ?_; rintro e W2 ⟨rfl, hb⟩; have HB2 := Aside0.mk (HB0.out.step hb); clear hb)
      go_meet
      case rel => exact ⟨by rw [hv]; rfl, HB2⟩
    | true =>
      rw [hv] at hck
      by_cases g1 : l < 1
      · have HLV : Aside0 (lvlOk l = false) := ⟨by unfold lvlOk; rw [decide_eq_false (show ¬ 1 ≤ l by omega)]; rfl⟩
        go_wp2_with (go_at_call 31; refine hck.mono ?_; rintro e W2 ⟨rfl, hb⟩; have HB2 := Aside0.mk (HB0.out.step hb); clear hb)
        go_meet
        case rel => exact ⟨by rw [hv, HLV.out]; rfl, HB2⟩
      · by_cases g2 : l > 3
        · have HLV : Aside0 (lvlOk l = false) := ⟨by unfold lvlOk; rw [decide_eq_false (show ¬ l ≤ 3 by omega), Bool.and_false]⟩
          go_wp2_with (go_at_call 31; refine hck.mono ?_; rintro e W2 ⟨rfl, hb⟩; have HB2 := Aside0.mk (HB0.out.step hb); clear hb)
          go_meet
          case rel => exact ⟨by rw [hv, HLV.out]; rfl, HB2⟩
        · have HLV : Aside0 (lvlOk l = true) := ⟨by unfold lvlOk; rw [decide_eq_true (show 1 ≤ l by omega), decide_eq_true (show l ≤ 3 by omega)]; rfl⟩
          go_wp2_with (go_at_call 31; refine hck.mono ?_; rintro e W2 ⟨rfl, hb⟩; have HB2 := Aside0.mk (HB0.out.step hb); clear hb)
          go_meet
          case rel => exact ⟨by rw [hv, HLV.out, decide_eq_false (show ¬ l < 1 by omega), decide_eq_false (show ¬ 3 < l by omega)]; rfl, HB2⟩
  case rest =>
    obtain ⟨rfl, HB1⟩ := hcut
    clear HB0 HCK
    cases hvl : vok v && lvlOk l with
    | false =>
      have hb : bo = (zv, 1) := by
        rw [← HBO.out]
        unfold bumpOf
        cases hv : vok v
        · rfl
        · rw [hv, Bool.true_and] at hvl
          rw [hvl]; rfl
      subst hb
      have hq := HB1.out.q
      have HQ := Aside0.mk hq
      clear hq
      go_wp2_with ((with_reducible refine gate_ (.store 26 (.tmp 4) (.tmp 19)) rfl ?_); refine store_ev 26 (.tmp 4) (.tmp 19) rfl rfl rfl 0 (vrc zv).toList HQ.out rfl rfl rfl (by kernel_rfl) (show 0 + 5 ≤ 5 by decide) (vrc_one _) rfl ?_; intro Wb hb hgb; have HB := Aside0.mk hb; have HBB := Aside0.mk (HB1.out.base.grown hgb HB1.out.base.size (fun k hk => by cases hk; omega)); clear hb hgb)
      refine bodyPost_ret (results_ct rfl _ _ (w.heap.size + 1) 26 (vrc zv) (0, 0) _ rfl HB.out Tryz.underlying26 rfl (by kernel_rfl)) rfl ?_
      exact ⟨rfl, HBB.out⟩
    | true =>
      rw [Bool.and_eq_true] at hvl
      have hbN := bumpOf_N v l hvl.1 hvl.2
      rw [HBO.out] at hbN
      have hl : 1 ≤ l ∧ l ≤ 3 := by
        have := hvl.2
        unfold lvlOk at this
        simpa using this
      obtain ⟨ha, hb, hc⟩ := vok_nums hvl.1
      clear HBO hvl
      have HBN := Aside0.mk hbN
      have HA := Aside0.mk ha
      have HBb := Aside0.mk hb
      have HC := Aside0.mk hc
      clear hbN ha hb hc
      obtain ⟨h0, h1, h2, h3, h4⟩ := HB1.out.cells
      go_upto_region 4 with fail
      have HN0 := Aside0.mk (show BnIs w v (plainV v.f0 v.f1 v.f2) wc.heap.size (wc.alloc (.cells #[.int .i64 v.f0, .int .i64 v.f1, .int .i64 v.f2, .string ⟨#[]⟩, .string ⟨#[]⟩] 26)) from ⟨HB1.out.step (below_alloc (Below.refl _ _) _), blk_lt HB1.out.q, heap_alloc_new _ _⟩)
      generalize wc.alloc (.cells #[.int .i64 v.f0, .int .i64 v.f1, .int .i64 v.f2, .string ⟨#[]⟩, .string ⟨#[]⟩] 26) = W2 at HN0 ⊢
      generalize wc.heap.size = g at HN0 ⊢
      clear h0 h1 h2 h3 h4 HB1
      go_cut [7] (fun v7 wc => v7 = .bool (fitsB v l) ∧ Aside0 (BnIs w v (plainV v.f0 v.f1 v.f2) g wc))
      case first =>
        obtain ⟨h0, h1, h2, h3, h4⟩ := HN0.out.b.cells
        by_cases hp : v.f3.size = 0
        · have HF : Aside0 (fitsB v l = false) := ⟨by unfold fitsB; exact decide_eq_false (fun h => h.1 hp)⟩
          have hnil := (toList_nil0 v.f3).2 hp
          have hnil3 : v.f3.toList.isEmpty = true := by rw [hnil]; rfl
          go_wp2
          go_meet
          case rel => exact ⟨by first | (rw [HF.out]; done) | (rw [HF.out]; rfl) | (rw [HF.out]; simp [hnil3]; done) | (rw [HF.out]; simp [hnil3]; assumption), HN0⟩
        · have hnil : (v.f3.toList != ([] : List UInt8)) = true := by simpa using fun h => hp ((toList_nil0 v.f3).1 h)
          have hnil3 : v.f3.toList.isEmpty = false := by simpa using hnil
          have hnil2 : ¬ v.f3.toList = ([] : List UInt8) := fun h => hp ((toList_nil0 v.f3).1 h)
          by_cases h5 : l < 2
          · have HF : Aside0 (fitsB v l = true) := ⟨by unfold fitsB; exact decide_eq_true ⟨hp, .inl h5, .inl (by omega)⟩⟩
            have h6 : l < 3 := by omega
            go_wp2
            go_meet
            case rel => exact ⟨by first | (rw [HF.out]; done) | (rw [HF.out]; rfl) | (rw [HF.out]; simp [hnil3]; done) | (rw [HF.out]; simp [hnil3]; assumption), HN0⟩
          · by_cases hc0 : v.f2 = 0
            · by_cases h6 : l < 3
              · have HF : Aside0 (fitsB v l = true) := ⟨by unfold fitsB; exact decide_eq_true ⟨hp, .inr hc0, .inl h6⟩⟩
                go_wp2
                go_meet
                case rel => exact ⟨by first | (rw [HF.out]; done) | (rw [HF.out]; rfl) | (rw [HF.out]; simp [hnil3]; done) | (rw [HF.out]; simp [hnil3]; assumption), HN0⟩
              · by_cases hb0 : v.f1 = 0
                · have HF : Aside0 (fitsB v l = true) := ⟨by unfold fitsB; exact decide_eq_true ⟨hp, .inr hc0, .inr hb0⟩⟩
                  go_wp2
                  go_meet
                  case rel => exact ⟨by first | (rw [HF.out]; done) | (rw [HF.out]; rfl) | (rw [HF.out]; simp [hnil3]; done) | (rw [HF.out]; simp [hnil3]; assumption), HN0⟩
                · have HF : Aside0 (fitsB v l = false) := ⟨by unfold fitsB; exact decide_eq_false (fun h => by rcases h.2.2 with h | h; exact h6 h; exact hb0 h)⟩
                  go_wp2
                  go_meet
                  case rel => exact ⟨by first | (rw [HF.out]; done) | (rw [HF.out]; rfl) | (rw [HF.out]; simp [hnil3]; done) | (rw [HF.out]; simp [hnil3]; assumption), HN0⟩
            · have HF : Aside0 (fitsB v l = false) := ⟨by unfold fitsB; exact decide_eq_false (fun h => by rcases h.2.1 with h | h; exact h5 h; exact hc0 h)⟩
              go_wp2
              go_meet
              case rel => exact ⟨by first | (rw [HF.out]; done) | (rw [HF.out]; rfl) | (rw [HF.out]; simp [hnil3]; done) | (rw [HF.out]; simp [hnil3]; assumption), HN0⟩
      case rest =>
        obtain ⟨rfl, HN1⟩ := hcut
        clear HN0
        cases hf : fitsB v l with
        | true =>
          have hbo : bo = (plainV v.f0 v.f1 v.f2, 0) := HBN.out.trans (if_pos hf)
          subst hbo
          clear HBN hf
          go_wp2_with (first
            | ((with_reducible refine gate_ (.load 26 (.tmp 6)) rfl ?_); refine load_ev (p := .tmp 6) rfl rfl rfl HN1.out.n Tryz.underlying26 rfl (by kernel_rfl) ?_)
            | ((with_reducible refine gate_ (.store 26 (.tmp 4) (.tmp 49)) rfl ?_); refine store_ev 26 (.tmp 4) (.tmp 49) rfl rfl rfl 0 (vrc (plainV v.f0 v.f1 v.f2)).toList HN1.out.b.q rfl rfl rfl (by kernel_rfl) (show 0 + 5 ≤ 5 by decide) (vrc_one _) rfl ?_; intro Wb hb hgb; have HB := Aside0.mk hb; have HBB := Aside0.mk (HN1.out.b.base.grown hgb HN1.out.b.base.size (fun k hk => by cases hk; omega)); clear hb hgb))
          refine bodyPost_ret (results_ct rfl _ _ (w.heap.size + 1) 26 (vrc (plainV v.f0 v.f1 v.f2)) (0, 0) _ rfl HB.out Tryz.underlying26 rfl (by kernel_rfl)) rfl ?_
          exact ⟨rfl, HBB.out⟩
        | false =>
          have hbo := HBN.out.trans (if_neg (by rw [hf]; simp))
          have HBO := Aside0.mk hbo
          clear HBN hf hbo
          go_upto_if 48 with fail
          go_step
          go_step
          go_step
          go_step
          go_step
          go_cut [] (fun wc => Aside0 (BnIs w v (upN v l) g wc))
          case first =>
            obtain ⟨y0, y1, y2⟩ := HN1.out.cells
            simp only [plainV] at y0 y1 y2
            obtain ⟨ea, na⟩ := numB_up HA.out.1 HA.out.2
            have fa := (i64_w _).trans ea
            obtain ⟨eb, nb⟩ := numB_up HBb.out.1 HBb.out.2
            have fb := (i64_w _).trans eb
            obtain ⟨ec, nc⟩ := numB_up HC.out.1 HC.out.2
            have fc := (i64_w _).trans ec
            by_cases l1 : l = 1
            · by_cases c9 : v.f2 < 999999999
              · rw [decide_eq_true c9] at nc
                have HU : Aside0 (upN v l = plainV (v.f0) (v.f1) (v.f2 + 1)) := ⟨by unfold upN; rw [if_pos ⟨l1, c9⟩]⟩
                clear HA HBb HC
                have d1 : (l == 1) = true := beq_iff_eq.mpr l1
                clear l1
                go_wp2_with (first
                  | ((with_reducible refine gate_ (.store 3 (.tmp 58) (.tmp 57)) rfl ?_); refine store_ev 3 (.tmp 58) (.tmp 57) rfl rfl rfl 2 [.int .i64 (v.f2 + 1)] HN1.out.n rfl rfl rfl (by kernel_rfl) (show 2 + 1 ≤ 5 by decide) (by simp [Value.oneCell']) rfl ?_; intro W2 hn hg; have HN2 := Aside0.mk (HN1.out.put (u' := plainV (v.f0) (v.f1) (v.f2 + 1)) hg hn); clear hn hg y0 y1 y2; obtain ⟨y0, y1, y2⟩ := HN2.out.cells; simp only [plainV] at y0 y1 y2)
                  | (go_at_call 66; with_reducible refine (HNM.out (v.f2 + 1) _).mono ?_; rintro e W3 ⟨rfl, hb⟩; have HN3 := Aside0.mk (HN2.out.step hb); clear hb y0 y1 y2; obtain ⟨y0, y1, y2⟩ := HN3.out.cells; simp only [plainV] at y0 y1 y2)
                  )
                go_meet
                case rel => rw [HU.out]; exact HN3
              · rw [decide_eq_false c9] at nc
                by_cases b9 : v.f1 < 999999999
                · rw [decide_eq_true b9] at nb
                  have HU : Aside0 (upN v l = plainV (v.f0) (v.f1 + 1) (0)) := ⟨by unfold upN; rw [if_neg (fun h => c9 h.2), if_pos ⟨by omega, b9⟩]⟩
                  clear HA HBb HC
                  have d1 : (l == 1) = true := beq_iff_eq.mpr l1
                  clear l1
                  go_wp2_with (first
                    | ((with_reducible refine gate_ (.store 3 (.tmp 58) (.tmp 57)) rfl ?_); refine store_ev 3 (.tmp 58) (.tmp 57) rfl rfl rfl 2 [.int .i64 (v.f2 + 1)] HN1.out.n rfl rfl rfl (by kernel_rfl) (show 2 + 1 ≤ 5 by decide) (by simp [Value.oneCell']) rfl ?_; intro W2 hn hg; have HN2 := Aside0.mk (HN1.out.put (u' := plainV (v.f0) (v.f1) (v.f2 + 1)) hg hn); clear hn hg y0 y1 y2; obtain ⟨y0, y1, y2⟩ := HN2.out.cells; simp only [plainV] at y0 y1 y2)
                    | (go_at_call 66; with_reducible refine (HNM.out (v.f2 + 1) _).mono ?_; rintro e W3 ⟨rfl, hb⟩; have HN3 := Aside0.mk (HN2.out.step hb); clear hb y0 y1 y2; obtain ⟨y0, y1, y2⟩ := HN3.out.cells; simp only [plainV] at y0 y1 y2)
                    | ((with_reducible refine gate_ (.store 3 (.tmp 62) (.const (.int .i64 0))) rfl ?_); refine store_ev 3 (.tmp 62) (.const (.int .i64 0)) rfl rfl rfl 2 [.int .i64 (0)] HN3.out.n rfl rfl rfl (by kernel_rfl) (show 2 + 1 ≤ 5 by decide) (by simp [Value.oneCell']) rfl ?_; intro W4 hn hg; have HN4 := Aside0.mk (HN3.out.put (u' := plainV (v.f0) (v.f1) (0)) hg hn); clear hn hg y0 y1 y2; obtain ⟨y0, y1, y2⟩ := HN4.out.cells; simp only [plainV] at y0 y1 y2)
                    | ((with_reducible refine gate_ (.store 3 (.tmp 66) (.tmp 65)) rfl ?_); refine store_ev 3 (.tmp 66) (.tmp 65) rfl rfl rfl 1 [.int .i64 (v.f1 + 1)] HN4.out.n rfl rfl rfl (by kernel_rfl) (show 1 + 1 ≤ 5 by decide) (by simp [Value.oneCell']) rfl ?_; intro W5 hn hg; have HN5 := Aside0.mk (HN4.out.put (u' := plainV (v.f0) (v.f1 + 1) (0)) hg hn); clear hn hg y0 y1 y2; obtain ⟨y0, y1, y2⟩ := HN5.out.cells; simp only [plainV] at y0 y1 y2)
                    | (go_at_call 66; with_reducible refine (HNM.out (v.f1 + 1) _).mono ?_; rintro e W6 ⟨rfl, hb⟩; have HN6 := Aside0.mk (HN5.out.step hb); clear hb y0 y1 y2; obtain ⟨y0, y1, y2⟩ := HN6.out.cells; simp only [plainV] at y0 y1 y2)
                    )
                  go_meet
                  case rel => rw [HU.out]; exact HN6
                · rw [decide_eq_false b9] at nb
                  have HU : Aside0 (upN v l = plainV (v.f0 + 1) (0) (0)) := ⟨by unfold upN; rw [if_neg (fun h => c9 h.2), if_neg (fun h => b9 h.2)]⟩
                  clear HA HBb HC
                  have d1 : (l == 1) = true := beq_iff_eq.mpr l1
                  clear l1
                  go_wp2_with (first
                    | ((with_reducible refine gate_ (.store 3 (.tmp 58) (.tmp 57)) rfl ?_); refine store_ev 3 (.tmp 58) (.tmp 57) rfl rfl rfl 2 [.int .i64 (v.f2 + 1)] HN1.out.n rfl rfl rfl (by kernel_rfl) (show 2 + 1 ≤ 5 by decide) (by simp [Value.oneCell']) rfl ?_; intro W2 hn hg; have HN2 := Aside0.mk (HN1.out.put (u' := plainV (v.f0) (v.f1) (v.f2 + 1)) hg hn); clear hn hg y0 y1 y2; obtain ⟨y0, y1, y2⟩ := HN2.out.cells; simp only [plainV] at y0 y1 y2)
                    | (go_at_call 66; with_reducible refine (HNM.out (v.f2 + 1) _).mono ?_; rintro e W3 ⟨rfl, hb⟩; have HN3 := Aside0.mk (HN2.out.step hb); clear hb y0 y1 y2; obtain ⟨y0, y1, y2⟩ := HN3.out.cells; simp only [plainV] at y0 y1 y2)
                    | ((with_reducible refine gate_ (.store 3 (.tmp 62) (.const (.int .i64 0))) rfl ?_); refine store_ev 3 (.tmp 62) (.const (.int .i64 0)) rfl rfl rfl 2 [.int .i64 (0)] HN3.out.n rfl rfl rfl (by kernel_rfl) (show 2 + 1 ≤ 5 by decide) (by simp [Value.oneCell']) rfl ?_; intro W4 hn hg; have HN4 := Aside0.mk (HN3.out.put (u' := plainV (v.f0) (v.f1) (0)) hg hn); clear hn hg y0 y1 y2; obtain ⟨y0, y1, y2⟩ := HN4.out.cells; simp only [plainV] at y0 y1 y2)
                    | ((with_reducible refine gate_ (.store 3 (.tmp 66) (.tmp 65)) rfl ?_); refine store_ev 3 (.tmp 66) (.tmp 65) rfl rfl rfl 1 [.int .i64 (v.f1 + 1)] HN4.out.n rfl rfl rfl (by kernel_rfl) (show 1 + 1 ≤ 5 by decide) (by simp [Value.oneCell']) rfl ?_; intro W5 hn hg; have HN5 := Aside0.mk (HN4.out.put (u' := plainV (v.f0) (v.f1 + 1) (0)) hg hn); clear hn hg y0 y1 y2; obtain ⟨y0, y1, y2⟩ := HN5.out.cells; simp only [plainV] at y0 y1 y2)
                    | (go_at_call 66; with_reducible refine (HNM.out (v.f1 + 1) _).mono ?_; rintro e W6 ⟨rfl, hb⟩; have HN6 := Aside0.mk (HN5.out.step hb); clear hb y0 y1 y2; obtain ⟨y0, y1, y2⟩ := HN6.out.cells; simp only [plainV] at y0 y1 y2)
                    | ((with_reducible refine gate_ (.store 3 (.tmp 70) (.const (.int .i64 0))) rfl ?_); refine store_ev 3 (.tmp 70) (.const (.int .i64 0)) rfl rfl rfl 2 [.int .i64 (0)] HN6.out.n rfl rfl rfl (by kernel_rfl) (show 2 + 1 ≤ 5 by decide) (by simp [Value.oneCell']) rfl ?_; intro W7 hn hg; have HN7 := Aside0.mk (HN6.out.put (u' := plainV (v.f0) (v.f1 + 1) (0)) hg hn); clear hn hg y0 y1 y2; obtain ⟨y0, y1, y2⟩ := HN7.out.cells; simp only [plainV] at y0 y1 y2)
                    | ((with_reducible refine gate_ (.store 3 (.tmp 71) (.const (.int .i64 0))) rfl ?_); refine store_ev 3 (.tmp 71) (.const (.int .i64 0)) rfl rfl rfl 1 [.int .i64 (0)] HN7.out.n rfl rfl rfl (by kernel_rfl) (show 1 + 1 ≤ 5 by decide) (by simp [Value.oneCell']) rfl ?_; intro W8 hn hg; have HN8 := Aside0.mk (HN7.out.put (u' := plainV (v.f0) (0) (0)) hg hn); clear hn hg y0 y1 y2; obtain ⟨y0, y1, y2⟩ := HN8.out.cells; simp only [plainV] at y0 y1 y2)
                    | ((with_reducible refine gate_ (.store 3 (.tmp 75) (.tmp 74)) rfl ?_); refine store_ev 3 (.tmp 75) (.tmp 74) rfl rfl rfl 0 [.int .i64 (v.f0 + 1)] HN8.out.n rfl rfl rfl (by kernel_rfl) (show 0 + 1 ≤ 5 by decide) (by simp [Value.oneCell']) rfl ?_; intro W9 hn hg; have HN9 := Aside0.mk (HN8.out.put (u' := plainV (v.f0 + 1) (0) (0)) hg hn); clear hn hg y0 y1 y2; obtain ⟨y0, y1, y2⟩ := HN9.out.cells; simp only [plainV] at y0 y1 y2)
                    )
                  go_meet
                  case rel => rw [HU.out]; exact HN9
            · by_cases l2 : l = 2
              · by_cases b9 : v.f1 < 999999999
                · rw [decide_eq_true b9] at nb
                  have HU : Aside0 (upN v l = plainV (v.f0) (v.f1 + 1) (0)) := ⟨by unfold upN; rw [if_neg (fun h => l1 h.1), if_pos ⟨by omega, b9⟩]⟩
                  clear HA HBb HC
                  have d1 : (l == 1) = false := beq_eq_false_iff_ne.mpr l1
                  have d2 : (l == 2) = true := beq_iff_eq.mpr l2
                  clear l1 l2
                  go_wp2_with (first
                    | ((with_reducible refine gate_ (.store 3 (.tmp 62) (.const (.int .i64 0))) rfl ?_); refine store_ev 3 (.tmp 62) (.const (.int .i64 0)) rfl rfl rfl 2 [.int .i64 (0)] HN1.out.n rfl rfl rfl (by kernel_rfl) (show 2 + 1 ≤ 5 by decide) (by simp [Value.oneCell']) rfl ?_; intro W2 hn hg; have HN2 := Aside0.mk (HN1.out.put (u' := plainV (v.f0) (v.f1) (0)) hg hn); clear hn hg y0 y1 y2; obtain ⟨y0, y1, y2⟩ := HN2.out.cells; simp only [plainV] at y0 y1 y2)
                    | ((with_reducible refine gate_ (.store 3 (.tmp 66) (.tmp 65)) rfl ?_); refine store_ev 3 (.tmp 66) (.tmp 65) rfl rfl rfl 1 [.int .i64 (v.f1 + 1)] HN2.out.n rfl rfl rfl (by kernel_rfl) (show 1 + 1 ≤ 5 by decide) (by simp [Value.oneCell']) rfl ?_; intro W3 hn hg; have HN3 := Aside0.mk (HN2.out.put (u' := plainV (v.f0) (v.f1 + 1) (0)) hg hn); clear hn hg y0 y1 y2; obtain ⟨y0, y1, y2⟩ := HN3.out.cells; simp only [plainV] at y0 y1 y2)
                    | (go_at_call 66; with_reducible refine (HNM.out (v.f1 + 1) _).mono ?_; rintro e W4 ⟨rfl, hb⟩; have HN4 := Aside0.mk (HN3.out.step hb); clear hb y0 y1 y2; obtain ⟨y0, y1, y2⟩ := HN4.out.cells; simp only [plainV] at y0 y1 y2)
                    )
                  go_meet
                  case rel => rw [HU.out]; exact HN4
                · rw [decide_eq_false b9] at nb
                  have HU : Aside0 (upN v l = plainV (v.f0 + 1) (0) (0)) := ⟨by unfold upN; rw [if_neg (fun h => l1 h.1), if_neg (fun h => b9 h.2)]⟩
                  clear HA HBb HC
                  have d1 : (l == 1) = false := beq_eq_false_iff_ne.mpr l1
                  have d2 : (l == 2) = true := beq_iff_eq.mpr l2
                  clear l1 l2
                  go_wp2_with (first
                    | ((with_reducible refine gate_ (.store 3 (.tmp 62) (.const (.int .i64 0))) rfl ?_); refine store_ev 3 (.tmp 62) (.const (.int .i64 0)) rfl rfl rfl 2 [.int .i64 (0)] HN1.out.n rfl rfl rfl (by kernel_rfl) (show 2 + 1 ≤ 5 by decide) (by simp [Value.oneCell']) rfl ?_; intro W2 hn hg; have HN2 := Aside0.mk (HN1.out.put (u' := plainV (v.f0) (v.f1) (0)) hg hn); clear hn hg y0 y1 y2; obtain ⟨y0, y1, y2⟩ := HN2.out.cells; simp only [plainV] at y0 y1 y2)
                    | ((with_reducible refine gate_ (.store 3 (.tmp 66) (.tmp 65)) rfl ?_); refine store_ev 3 (.tmp 66) (.tmp 65) rfl rfl rfl 1 [.int .i64 (v.f1 + 1)] HN2.out.n rfl rfl rfl (by kernel_rfl) (show 1 + 1 ≤ 5 by decide) (by simp [Value.oneCell']) rfl ?_; intro W3 hn hg; have HN3 := Aside0.mk (HN2.out.put (u' := plainV (v.f0) (v.f1 + 1) (0)) hg hn); clear hn hg y0 y1 y2; obtain ⟨y0, y1, y2⟩ := HN3.out.cells; simp only [plainV] at y0 y1 y2)
                    | (go_at_call 66; with_reducible refine (HNM.out (v.f1 + 1) _).mono ?_; rintro e W4 ⟨rfl, hb⟩; have HN4 := Aside0.mk (HN3.out.step hb); clear hb y0 y1 y2; obtain ⟨y0, y1, y2⟩ := HN4.out.cells; simp only [plainV] at y0 y1 y2)
                    | ((with_reducible refine gate_ (.store 3 (.tmp 70) (.const (.int .i64 0))) rfl ?_); refine store_ev 3 (.tmp 70) (.const (.int .i64 0)) rfl rfl rfl 2 [.int .i64 (0)] HN4.out.n rfl rfl rfl (by kernel_rfl) (show 2 + 1 ≤ 5 by decide) (by simp [Value.oneCell']) rfl ?_; intro W5 hn hg; have HN5 := Aside0.mk (HN4.out.put (u' := plainV (v.f0) (v.f1 + 1) (0)) hg hn); clear hn hg y0 y1 y2; obtain ⟨y0, y1, y2⟩ := HN5.out.cells; simp only [plainV] at y0 y1 y2)
                    | ((with_reducible refine gate_ (.store 3 (.tmp 71) (.const (.int .i64 0))) rfl ?_); refine store_ev 3 (.tmp 71) (.const (.int .i64 0)) rfl rfl rfl 1 [.int .i64 (0)] HN5.out.n rfl rfl rfl (by kernel_rfl) (show 1 + 1 ≤ 5 by decide) (by simp [Value.oneCell']) rfl ?_; intro W6 hn hg; have HN6 := Aside0.mk (HN5.out.put (u' := plainV (v.f0) (0) (0)) hg hn); clear hn hg y0 y1 y2; obtain ⟨y0, y1, y2⟩ := HN6.out.cells; simp only [plainV] at y0 y1 y2)
                    | ((with_reducible refine gate_ (.store 3 (.tmp 75) (.tmp 74)) rfl ?_); refine store_ev 3 (.tmp 75) (.tmp 74) rfl rfl rfl 0 [.int .i64 (v.f0 + 1)] HN6.out.n rfl rfl rfl (by kernel_rfl) (show 0 + 1 ≤ 5 by decide) (by simp [Value.oneCell']) rfl ?_; intro W7 hn hg; have HN7 := Aside0.mk (HN6.out.put (u' := plainV (v.f0 + 1) (0) (0)) hg hn); clear hn hg y0 y1 y2; obtain ⟨y0, y1, y2⟩ := HN7.out.cells; simp only [plainV] at y0 y1 y2)
                    )
                  go_meet
                  case rel => rw [HU.out]; exact HN7
              · have l3 : l = 3 := by omega
                have HU : Aside0 (upN v l = plainV (v.f0 + 1) (0) (0)) := ⟨by unfold upN; rw [if_neg (fun h => l1 h.1), if_neg (fun h => by omega)]⟩
                clear HA HBb HC
                have d1 : (l == 1) = false := beq_eq_false_iff_ne.mpr l1
                have d2 : (l == 2) = false := beq_eq_false_iff_ne.mpr l2
                clear l1 l2 l3 hl
                go_wp2_with (first
                  | ((with_reducible refine gate_ (.store 3 (.tmp 70) (.const (.int .i64 0))) rfl ?_); refine store_ev 3 (.tmp 70) (.const (.int .i64 0)) rfl rfl rfl 2 [.int .i64 (0)] HN1.out.n rfl rfl rfl (by kernel_rfl) (show 2 + 1 ≤ 5 by decide) (by simp [Value.oneCell']) rfl ?_; intro W2 hn hg; have HN2 := Aside0.mk (HN1.out.put (u' := plainV (v.f0) (v.f1) (0)) hg hn); clear hn hg y0 y1 y2; obtain ⟨y0, y1, y2⟩ := HN2.out.cells; simp only [plainV] at y0 y1 y2)
                  | ((with_reducible refine gate_ (.store 3 (.tmp 71) (.const (.int .i64 0))) rfl ?_); refine store_ev 3 (.tmp 71) (.const (.int .i64 0)) rfl rfl rfl 1 [.int .i64 (0)] HN2.out.n rfl rfl rfl (by kernel_rfl) (show 1 + 1 ≤ 5 by decide) (by simp [Value.oneCell']) rfl ?_; intro W3 hn hg; have HN3 := Aside0.mk (HN2.out.put (u' := plainV (v.f0) (0) (0)) hg hn); clear hn hg y0 y1 y2; obtain ⟨y0, y1, y2⟩ := HN3.out.cells; simp only [plainV] at y0 y1 y2)
                  | ((with_reducible refine gate_ (.store 3 (.tmp 75) (.tmp 74)) rfl ?_); refine store_ev 3 (.tmp 75) (.tmp 74) rfl rfl rfl 0 [.int .i64 (v.f0 + 1)] HN3.out.n rfl rfl rfl (by kernel_rfl) (show 0 + 1 ≤ 5 by decide) (by simp [Value.oneCell']) rfl ?_; intro W4 hn hg; have HN4 := Aside0.mk (HN3.out.put (u' := plainV (v.f0 + 1) (0) (0)) hg hn); clear hn hg y0 y1 y2; obtain ⟨y0, y1, y2⟩ := HN4.out.cells; simp only [plainV] at y0 y1 y2)
                  )
                go_meet
                case rel => rw [HU.out]; exact HN4
          case rest =>
            have HN2 := hcut
            clear HN1 hcut
            generalize upN v l = u at HN2 HBO
            obtain ⟨y0, y1, y2⟩ := HN2.out.cells
            cases hn : numB u.f0 with
            | true =>
              have hbo : bo = (u, 0) := HBO.out.trans (if_pos hn)
              subst hbo
              go_wp2_with (first
                | (go_at_call 66; refine (HNM.out u.f0 _).mono ?_; rintro e W3 ⟨rfl, hb⟩; have HN3 := Aside0.mk (HN2.out.step hb); clear hb y0 y1 y2)
                | ((with_reducible refine gate_ (.load 26 (.tmp 6)) rfl ?_); refine load_ev (p := .tmp 6) rfl rfl rfl HN3.out.n Tryz.underlying26 rfl (by kernel_rfl) ?_)
                | ((with_reducible refine gate_ (.store 26 (.tmp 4) (.tmp 81)) rfl ?_); refine store_ev 26 (.tmp 4) (.tmp 81) rfl rfl rfl 0 (vrc u).toList HN3.out.b.q rfl rfl rfl (by kernel_rfl) (show 0 + 5 ≤ 5 by decide) (vrc_one _) rfl ?_; intro Wb hb hgb; have HB := Aside0.mk hb; have HBB := Aside0.mk (HN3.out.b.base.grown hgb HN3.out.b.base.size (fun k hk => by cases hk; omega)); clear hb hgb))
              refine bodyPost_ret (results_ct rfl _ _ (w.heap.size + 1) 26 (vrc u) (0, 0) _ rfl HB.out Tryz.underlying26 rfl (by kernel_rfl)) rfl ?_
              exact ⟨rfl, HBB.out⟩
            | false =>
              have hbo : bo = (zv, 15) := HBO.out.trans (if_neg (by rw [hn]; simp))
              subst hbo
              go_wp2_with (first
                | (go_at_call 66; refine (HNM.out u.f0 _).mono ?_; rintro e W3 ⟨rfl, hb⟩; have HN3 := Aside0.mk (HN2.out.step hb); clear hb y0 y1 y2)
                | ((with_reducible refine gate_ (.store 26 (.tmp 4) (.tmp 80)) rfl ?_); refine store_ev 26 (.tmp 4) (.tmp 80) rfl rfl rfl 0 (vrc zv).toList HN3.out.b.q rfl rfl rfl (by kernel_rfl) (show 0 + 5 ≤ 5 by decide) (vrc_one _) rfl ?_; intro Wb hb hgb; have HB := Aside0.mk hb; have HBB := Aside0.mk (HN3.out.b.base.grown hgb HN3.out.b.base.size (fun k hk => by cases hk; omega)); clear hb hgb))
              refine bodyPost_ret (results_ct rfl _ _ (w.heap.size + 1) 26 (vrc zv) (0, 0) _ rfl HB.out Tryz.underlying26 rfl (by kernel_rfl)) rfl ?_
              exact ⟨rfl, HBB.out⟩
end Go.Proofs.YtillhaipemengaaGreatDoor
end

section
namespace Go.Proofs.YtillhaipemengaaGreatDoor.RB
open Go.RowKit Go.Proofs.YtillhaipemengaaGreatDoor Go.Proofs.YtillhaipemengaaGreatDoor.K0 Go.Proofs.YtillhaipemengaaGreatDoor.R1 Go.Proofs.YtillhaipemengaaGreatDoor.R2 Go.Proofs.YtillhaipemengaaGreatDoor.R3 Go.Proofs.YtillhaipemengaaGreatDoor.R4 Go.Proofs.YtillhaipemengaaGreatDoorW.PrintWords Go.Proofs.YtillhaipemengaaGreatDoorW.PrintLast Go.Proofs.YtillhaipemengaaGreatDoorW.PrintMore
attribute [local go_sem] max2_int min2_int max_two min_two max_three min_three max_four min_four
set_option linter.unusedVariables false
set_option linter.unusedSimpArgs false
end Go.Proofs.YtillhaipemengaaGreatDoor.RB
end
