/- The texts BpRbC, RTx0, RTx1, RTx in one file, without what these claims do not use (put together by prune2.py). -/
import Derived.Test.YtillhaipemengaaGreatDoorZU36
import Derived.Test.YtillhaipemengaaGreatDoorZU21
import Derived.Test.YtillhaipemengaaGreatDoorZU17
import Derived.Test.YtillhaipemengaaGreatDoorZU35
import Derived.Test.YtillhaipemengaaGreatDoorZU4
import Derived.Test.YtillhaipemengaaGreatDoorZU33
section
namespace Go.Proofs.YtillhaipemengaaGreatDoor
open Go Go.RowKit Go.Proofs Go.Proofs.YtillhaipemengaaGreatDoorW.PrintWords Go.Proofs.YtillhaipemengaaGreatDoorW.PrintLast Go.Proofs.YtillhaipemengaaGreatDoor.K0 Go.Proofs.YtillhaipemengaaGreatDoor.RD
set_option linter.unusedVariables false
set_option linter.unusedSimpArgs false
theorem rcheck_calls (v : Vr) (w : World) : Calls Tryz.prog 35 #[.agg (vrc v)] w fun e w' => e = .returned (.bool (vok v)) ∧ Below w.heap.size w w' := by
  obtain ⟨K, hK⟩ := ref_ver_Check_f v.f0 v.f1 v.f2 v.f3 v.f4
  exact armadaref07_Check.calls K _ _ _ _ _ _ w (hK K (Nat.le_refl _))
theorem rcmp_calls (u v : Vr) (w : World) : Calls Tryz.prog 26 #[.agg (vrc u), .agg (vrc v)] w fun e w' => e = .returned (.int .i64 (vcmp u v)) ∧ Below w.heap.size w w' := by
  obtain ⟨K, hK⟩ := ref_Compare_f u.f0 u.f1 u.f2 u.f3 u.f4 v.f0 v.f1 v.f2 v.f3 v.f4
  exact armadaref07_Compare.calls K u.f0 u.f1 u.f2 u.f3 u.f4 v.f0 v.f1 v.f2 v.f3 v.f4 _ w (hK K (Nat.le_refl _))
abbrev candC (v : Vr) : Array Value := #[.int .i64 v.f0, .int .i64 v.f1, .int .i64 v.f2, .string ⟨#[]⟩, .string ⟨#[]⟩, .int .i64 v.f0, .int .i64 v.f1, .int .i64 (v.f2 + 1), .string ⟨#[]⟩, .string ⟨#[]⟩, .int .i64 v.f0, .int .i64 (v.f1 + 1), .int .i64 0, .string ⟨#[]⟩, .string ⟨#[]⟩, .int .i64 (v.f0 + 1), .int .i64 0, .int .i64 0, .string ⟨#[]⟩, .string ⟨#[]⟩]
theorem cand_at {v x : Vr} {k : Nat} (h : (cands v)[k]? = some x) : x = plainV x.f0 x.f1 x.f2 ∧ (((candC v).toList.drop (k * 5)).take (vrc x).toList.length = (vrc x).toList) := by
  match k, h with
  | 0, h => obtain rfl := Option.some.inj h; exact ⟨rfl, rfl⟩
  | 1, h => obtain rfl := Option.some.inj h; exact ⟨rfl, rfl⟩
  | 2, h => obtain rfl := Option.some.inj h; exact ⟨rfl, rfl⟩
  | 3, h => obtain rfl := Option.some.inj h; exact ⟨rfl, rfl⟩
/-- The document's Bump's own blocks: what it was handed, what it hands back, and those that come into question. -/
structure RbIs (w : World) (v : Vr) (g : Nat) (t : TypeId) (W : World) : Prop where
  b : BmIs w v W
  lt : w.heap.size + 1 < g
  n : W.heap[g]? = some (.cells (candC v) t (0, 0))
theorem RbIs.step {w W W' : World} {v : Vr} {g : Nat} {t : TypeId} (h : RbIs w v g t W) (hb : Below W.heap.size W W') : RbIs w v g t W' := ⟨h.b.step hb, h.lt, blk_below h.n hb⟩
theorem bump_wraps {v : Vr} (h : vok v = true) : wrap64 (v.f0 + 1) = v.f0 + 1 ∧ wrap64 (v.f1 + 1) = v.f1 + 1 ∧ wrap64 (v.f2 + 1) = v.f2 + 1 := by
  obtain ⟨⟨a0, a9⟩, ⟨b0, b9⟩, c0, c9⟩ := vok_nums h
  exact ⟨wrap_id (by omega) (by omega), wrap_id (by omega) (by omega), wrap_id (by omega) (by omega)⟩
def skipB (l : Int) (x : Vr) : Bool := (decide (2 ≤ l) && x.f2 != 0) || (l == 3 && x.f1 != 0) || !vok x
theorem cand_skip (v x : Vr) (l : Int) : candOk v l x = (!skipB l x && decide (0 < vcmp x v)) := by
  unfold candOk skipB
  cases (decide (2 ≤ l) && x.f2 != 0) <;> cases (l == 3 && x.f1 != 0) <;> cases vok x <;> rfl
set_option maxRecDepth 100000 in
set_option maxHeartbeats 1000000 in
theorem rbump_calls (v : Vr) (l : Int) (hv : vok v = true) (hl : lvlOk l = true) (w : World) : Calls Tryz.prog 36 #[.agg (vrc v), .int .i64 l] w fun e w' => e = .returned (.tuple #[.agg (vrc (bumpOf v l).1), .int .i64 (bumpOf v l).2]) ∧ Below w.heap.size w w' := by
  have HCK := Aside0.mk (fun (u : Vr) (W : World) => rcheck_calls u W)
  have HCM := Aside0.mk (fun (u : Vr) (W : World) => rcmp_calls u v W)
  have HB0 := Aside0.mk (show BmIs w v ((w.alloc (.cells (vrc v) 26)).alloc (.cells #[.int .i64 0, .int .i64 0, .int .i64 0, .string ⟨#[]⟩, .string ⟨#[]⟩] 26)) from ⟨below_alloc (below_alloc (Below.refl _ _) _) _, blk_alloc (heap_alloc_new w _) _, by
    have h := heap_alloc_new (w.alloc (.cells (vrc v) 26)) (.cells #[.int .i64 0, .int .i64 0, .int .i64 0, .string ⟨#[]⟩, .string ⟨#[]⟩] 26)
    rw [show (w.alloc (.cells (vrc v) 26)).heap.size = w.heap.size + 1 by simp] at h
    exact h⟩)
  obtain ⟨bo, hbo⟩ : ∃ bo, bumpOf v l = bo := ⟨_, rfl⟩
  rw [hbo]
  have HBO := Aside0.mk ((bump_find hv hl).symm.trans hbo)
  clear hbo
  have hl1 : ¬ l < 1 := by unfold lvlOk at hl; simp only [Bool.and_eq_true, decide_eq_true_eq] at hl; omega
  have hl3 : ¬ l > 3 := by unfold lvlOk at hl; simp only [Bool.and_eq_true, decide_eq_true_eq] at hl; omega
  have HV := Aside0.mk hv
  have hck := fun W => (HCK.out v W)
  rw [hv] at hck
  clear hv hl
  go_enter Tryz.func36, Tryz.ntmps36
  go_upto_region 1 with fail
  generalize (w.alloc (.cells (vrc v) 26)).alloc (.cells #[.int .i64 0, .int .i64 0, .int .i64 0, .string ⟨#[]⟩, .string ⟨#[]⟩] 26) = W1 at HB0 ⊢
  go_cut [19] (fun v19 wc => v19 = .bool false ∧ Aside0 (BmIs w v wc))
  case first =>
    obtain ⟨h0, h1, h2, h3, h4⟩ := HB0.out.cells
    go_wp2_with (go_at_call 35; refine (hck _).mono ?_; rintro e W2 ⟨rfl, hb⟩; have HB2 := Aside0.mk (HB0.out.step hb); clear hb)
    go_meet
    case rel => exact ⟨by rw [decide_eq_false (show ¬ l < 1 by omega), decide_eq_false (show ¬ 3 < l by omega)]; rfl, HB2⟩
  case rest =>
    clear HB0 hck
    obtain ⟨rfl, HB1⟩ := hcut
    obtain ⟨h0, h1, h2, h3, h4⟩ := HB1.out.cells
    obtain ⟨e0, e1, e2⟩ := bump_wraps HV.out
    have f0 := (i64_w _).trans e0
    have f1 := (i64_w _).trans e1
    have f2 := (i64_w _).trans e2
    have hd1 : decide (l < 1) = false := decide_eq_false hl1
    have hd3 : decide (3 < l) = false := decide_eq_false (by omega)
    go_wp2
    have HS := Aside0.mk (show RbIs w v wc.heap.size 26 (wc.alloc (.cells (candC v) 26)) from ⟨HB1.out.step (below_alloc (Below.refl _ _) _), blk_lt HB1.out.q, heap_alloc_new wc _⟩)
    generalize wc.alloc (.cells (candC v) 26) = W2 at HS ⊢
    generalize wc.heap.size = g at HS ⊢
    clear h0 h1 h2 h3 h4 e0 e1 e2 f0 f1 f2 HB1
    go_loopg [7] 4 (fun gg v7 wr => ∃ kk : Nat, kk ≤ 4 ∧ 4 - kk ≤ gg ∧ v7 = .int .i64 kk ∧ Aside0 ((match ((cands v).drop kk).find? (candOk v l) with | some x => (x, (0 : Int)) | none => (zv, 15)) = bo) ∧ Aside0 (RbIs w v g 26 wr))
    case atStart => exact ⟨0, by omega, by omega, rfl, HBO, HS⟩
    case round =>
      clear HS HBO
      obtain ⟨kk, hkk, hgg, rfl, HBO, HS⟩ := hrel
      by_cases hlt : kk < 4
      · have hltz : (kk : Int) < 4 := by omega
        obtain ⟨x, hx⟩ : ∃ x, (cands v)[kk]? = some x := ⟨_, List.getElem?_eq_getElem (by exact hlt)⟩
        obtain ⟨hxp, hseg⟩ := cand_at hx
        have hdr : (cands v).drop kk = x :: (cands v).drop (kk + 1) := by
          obtain ⟨h, rfl⟩ := List.getElem?_eq_some_iff.1 hx
          exact List.drop_eq_getElem_cons h
        have hbo := HBO.out
        rw [hdr, List.find?_cons] at hbo
        have HBO2 := Aside0.mk hbo
        have HSG := Aside0.mk hseg
        have HXP := Aside0.mk hxp
        clear hbo hdr hx HBO hseg hxp
        go_upto_region 8 with ((with_reducible refine gate_dst (N := 56) rfl ?_); refine load_mid_ev (p := .tmp 55) (i := kk * 5) rfl rfl rfl HS.out.n HSG.out Tryz.underlying26 rfl (by kernel_rfl) ?_)
        have HX := Aside0.mk (show (wr.alloc (.cells (vrc x) 26)).heap[wr.heap.size]? = some (.cells (vrc x) 26 (0, 0)) from heap_alloc_new wr _)
        have HS3 := Aside0.mk (HS.out.step (below_alloc (Below.refl _ wr) (.cells (vrc x) 26)))
        generalize wr.alloc (.cells (vrc x) 26) = W3 at HX HS3 ⊢
        have HLX := Aside0.mk (show g < wr.heap.size from blk_lt HS.out.n)
        generalize wr.heap.size = bx at HX HLX ⊢
        clear HS HSG
        go_cut [77] (fun v77 wc => v77 = .bool (skipB l x) ∧ Aside0 (RbIs w v g 26 wc) ∧ Aside0 (wc.heap[bx]? = some (.cells (vrc x) 26 (0, 0))))
        case first =>
          have x0 := (blk_cell HX.out 0).trans rfl
          have x1 := (blk_cell HX.out 1).trans rfl
          have x2 := (blk_cell HX.out 2).trans rfl
          have x3 := (blk_cell HX.out 3).trans rfl
          have x4 := (blk_cell HX.out 4).trans rfl
          have hck := fun (u : Vr) (W : World) => HCK.out u W
          by_cases d2 : 2 ≤ l
          · by_cases y2 : x.f2 = 0
            · by_cases d3 : l = 3
              · by_cases y1 : x.f1 = 0
                · have b2 : (x.f2 != 0) = false := bne_eq_false_iff_eq.mpr y2
                  have b3 : (l == 3) = true := beq_iff_eq.mpr d3
                  have b1 : (x.f1 != 0) = false := bne_eq_false_iff_eq.mpr y1
                  have HSK : Aside0 (skipB l x = !vok x) := ⟨by unfold skipB; rw [b2, b3, b1]; simp⟩
                  clear y2 d3 y1
                  go_wp2_with (first | (go_at_call 35; with_reducible refine (hck x _).mono ?_; rintro e W4 ⟨rfl, hb⟩; have HS4 := Aside0.mk (HS3.out.step hb); have HX4 := Aside0.mk (blk_below HX.out hb); clear hb))
                  go_meet
                  case rel => exact ⟨by rw [HSK.out], HS4, HX4⟩
                · have b2 : (x.f2 != 0) = false := bne_eq_false_iff_eq.mpr y2
                  have b3 : (l == 3) = true := beq_iff_eq.mpr d3
                  have b1 : (x.f1 != 0) = true := bne_iff_ne.mpr y1
                  have HSK : Aside0 (skipB l x = true) := ⟨by unfold skipB; rw [b2, b3, b1]; simp⟩
                  clear y2 d3 y1
                  go_wp2
                  go_meet
                  case rel => exact ⟨by rw [HSK.out], HS3, HX⟩
              · have b2 : (x.f2 != 0) = false := bne_eq_false_iff_eq.mpr y2
                have b3 : (l == 3) = false := beq_eq_false_iff_ne.mpr d3
                have HSK : Aside0 (skipB l x = !vok x) := ⟨by unfold skipB; rw [b2, b3]; simp⟩
                clear y2 d3
                go_wp2_with (first | (go_at_call 35; with_reducible refine (hck x _).mono ?_; rintro e W4 ⟨rfl, hb⟩; have HS4 := Aside0.mk (HS3.out.step hb); have HX4 := Aside0.mk (blk_below HX.out hb); clear hb))
                go_meet
                case rel => exact ⟨by rw [HSK.out], HS4, HX4⟩
            · have b2 : (x.f2 != 0) = true := bne_iff_ne.mpr y2
              have HSK : Aside0 (skipB l x = true) := ⟨by unfold skipB; rw [b2, decide_eq_true d2]; rfl⟩
              clear y2
              go_wp2
              go_meet
              case rel => exact ⟨by rw [HSK.out], HS3, HX⟩
          · have d3 : ¬ l = 3 := by omega
            have b3 : (l == 3) = false := beq_eq_false_iff_ne.mpr d3
            have HSK : Aside0 (skipB l x = !vok x) := ⟨by unfold skipB; rw [b3, decide_eq_false d2]; rfl⟩
            clear d3
            go_wp2_with (first | (go_at_call 35; with_reducible refine (hck x _).mono ?_; rintro e W4 ⟨rfl, hb⟩; have HS4 := Aside0.mk (HS3.out.step hb); have HX4 := Aside0.mk (blk_below HX.out hb); clear hb))
            go_meet
            case rel => exact ⟨by rw [HSK.out], HS4, HX4⟩
        case rest =>
          obtain ⟨rfl, HS5, HX5⟩ := hcut
          clear HS3 HX
          have hbo := HBO2.out
          rw [cand_skip] at hbo
          cases hsk : skipB l x with
          | true =>
            rw [hsk] at hbo
            simp only [Bool.not_true, Bool.false_and] at hbo
            have HBO3 := Aside0.mk hbo
            clear hbo HBO2 hsk
            go_wp2
            go_roundg (4 - (kk + 1))
            case measure => omega
            case rel => exact ⟨kk + 1, by omega, by omega, by go_num, HBO3, HS5⟩
          | false =>
            rw [hsk] at hbo
            simp only [Bool.not_false, Bool.true_and] at hbo
            have hcm := fun W => HCM.out x W
            by_cases hz : vcmp x v > 0
            · rw [decide_eq_true (show 0 < vcmp x v from hz)] at hbo
              have HBO3 := Aside0.mk (show bo = (x, (0 : Int)) from hbo.symm)
              have hzd : decide (vcmp x v > 0) = true := decide_eq_true hz
              clear hbo HBO2 hsk hz
              generalize vcmp x v = z at hcm hzd
              go_wp2_with (first
                | ((with_reducible refine gate_dst (N := 78) rfl ?_); refine load_ev (p := .tmp 8) rfl rfl rfl HX5.out Tryz.underlying26 rfl (by kernel_rfl) ?_)
                | ((with_reducible refine gate_dst (N := 79) rfl ?_); refine load_ev (p := .tmp 2) rfl rfl rfl HS5.out.b.p Tryz.underlying26 rfl (by kernel_rfl) ?_)
                | (go_at_call 26; refine (hcm _).mono ?_; rintro e W6 ⟨rfl, hb⟩; have HS6 := Aside0.mk (HS5.out.step hb); have HX6 := Aside0.mk (blk_below HX5.out hb); clear hb)
                | ((with_reducible refine gate_dst (N := 82) rfl ?_); refine load_ev (p := .tmp 8) rfl rfl rfl HX6.out Tryz.underlying26 rfl (by kernel_rfl) ?_)
                | ((with_reducible refine gate_ (.store 26 (.tmp 4) (.tmp 82)) rfl ?_); refine store_ev 26 (.tmp 4) (.tmp 82) rfl rfl rfl 0 (vrc x).toList HS6.out.b.q rfl rfl rfl (by kernel_rfl) (show 0 + 5 ≤ 5 by decide) (vrc_one _) rfl ?_; intro Wb hb hgb; have HB := Aside0.mk hb; have HBB := Aside0.mk (HS6.out.b.base.grown hgb HS6.out.b.base.size (fun k hk => by cases hk; omega)); clear hb hgb))
              refine bodyPost_ret (results_ct rfl _ _ (w.heap.size + 1) 26 (vrc x) (0, 0) _ rfl HB.out Tryz.underlying26 rfl (by kernel_rfl)) rfl ?_
              exact ⟨by rw [HBO3.out]; rfl, HBB.out⟩
            · rw [decide_eq_false (show ¬ 0 < vcmp x v from hz)] at hbo
              have HBO3 := Aside0.mk hbo
              have hzd : decide (vcmp x v > 0) = false := decide_eq_false hz
              clear hbo HBO2 hsk hz
              generalize vcmp x v = z at hcm hzd
              go_wp2_with (first
                | ((with_reducible refine gate_dst (N := 78) rfl ?_); refine load_ev (p := .tmp 8) rfl rfl rfl HX5.out Tryz.underlying26 rfl (by kernel_rfl) ?_)
                | ((with_reducible refine gate_dst (N := 79) rfl ?_); refine load_ev (p := .tmp 2) rfl rfl rfl HS5.out.b.p Tryz.underlying26 rfl (by kernel_rfl) ?_)
                | (go_at_call 26; refine (hcm _).mono ?_; rintro e W6 ⟨rfl, hb⟩; have HS6 := Aside0.mk (HS5.out.step hb); clear hb))
              go_roundg (4 - (kk + 1))
              case measure => omega
              case rel => exact ⟨kk + 1, by omega, by omega, by go_num, HBO3, HS6⟩
      · have hltz : ¬ (kk : Int) < 4 := by omega
        have : kk = 4 := by omega
        subst this
        have HBO3 := Aside0.mk (show bo = (zv, 15) from HBO.out.symm)
        go_wp2_with ((with_reducible refine gate_ (.store 26 (.tmp 4) (.tmp 83)) rfl ?_); refine store_ev 26 (.tmp 4) (.tmp 83) rfl rfl rfl 0 (vrc zv).toList HS.out.b.q rfl rfl rfl (by kernel_rfl) (show 0 + 5 ≤ 5 by decide) (vrc_one _) rfl ?_; intro Wb hb hgb; have HB := Aside0.mk hb; have HBB := Aside0.mk (HS.out.b.base.grown hgb HS.out.b.base.size (fun k hk => by cases hk; omega)); clear hb hgb)
        refine bodyPost_ret (results_ct rfl _ _ (w.heap.size + 1) 26 (vrc zv) (0, 0) _ rfl HB.out Tryz.underlying26 rfl (by kernel_rfl)) rfl ?_
        exact ⟨by rw [HBO3.out]; rfl, HBB.out⟩
end Go.Proofs.YtillhaipemengaaGreatDoor
end

section
namespace Go.Proofs.YtillhaipemengaaGreatDoor.RT
open Go.RowKit Go.Proofs.YtillhaipemengaaGreatDoor Go.Proofs.YtillhaipemengaaGreatDoor.K0 Go.Proofs.YtillhaipemengaaGreatDoor.RD Go.Proofs.YtillhaipemengaaGreatDoorW.PrintWords Go.Proofs.YtillhaipemengaaGreatDoorW.PrintLast Go.Proofs.YtillhaipemengaaGreatDoorW.PrintMore
attribute [local go_sem] max2_int min2_int max_two min_two max_three min_three max_four min_four
set_option linter.unusedVariables false
set_option linter.unusedSimpArgs false
end Go.Proofs.YtillhaipemengaaGreatDoor.RT
end

section
namespace Go.Proofs.YtillhaipemengaaGreatDoor.RT
open Go.RowKit Go.Proofs.YtillhaipemengaaGreatDoor Go.Proofs.YtillhaipemengaaGreatDoor.K0 Go.Proofs.YtillhaipemengaaGreatDoor.RD Go.Proofs.YtillhaipemengaaGreatDoorW.PrintWords Go.Proofs.YtillhaipemengaaGreatDoorW.PrintLast Go.Proofs.YtillhaipemengaaGreatDoorW.PrintMore
attribute [local go_sem] max2_int min2_int max_two min_two max_three min_three max_four min_four
set_option linter.unusedVariables false
set_option linter.unusedSimpArgs false
def armadaref18_First.f (k : Nat) (a0 : ByteArray) : Option (Int × Int × Int × ByteArray × ByteArray × Bool) := (armadaref08_Major.f k a0).bind fun bt102 => (if bt102.2.2 = true then (if bt102.2.1 = 0 then (some (0, 1, 0, (⟨#[]⟩ : ByteArray), (⟨#[]⟩ : ByteArray), true)) else (some (bt102.2.1, 0, 0, (⟨#[]⟩ : ByteArray), (⟨#[]⟩ : ByteArray), true))) else (some (0, 0, 0, (⟨#[]⟩ : ByteArray), (⟨#[]⟩ : ByteArray), false)))
set_option maxHeartbeats 8000000 in
set_option maxRecDepth 100000 in
theorem armadaref18_First.calls (k : Nat) (a0 : ByteArray) (r1 : Int) (r2 : Int) (r3 : Int) (r4 : ByteArray) (r5 : ByteArray) (r6 : Bool) (w : World) (h : armadaref18_First.f k a0 = some (r1, r2, r3, r4, r5, r6)) :
  Calls Tryz.prog 11 #[.string a0] w fun e w' => e = .returned (.tuple #[.agg #[.int .i64 r1, .int .i64 r2, .int .i64 r3, .string r4, .string r5], .bool r6]) ∧ Below w.heap.size w w' := by
 have hu26 := Tryz.underlying26; have HB := Aside0.mk (Below.refl w.heap.size w); have H : ((armadaref08_Major.f k a0).bind fun bt102 => (if bt102.2.2 = true then (if bt102.2.1 = 0 then (some (0, 1, 0, (⟨#[]⟩ : ByteArray), (⟨#[]⟩ : ByteArray), true)) else (some (bt102.2.1, 0, 0, (⟨#[]⟩ : ByteArray), (⟨#[]⟩ : ByteArray), true))) else (some (0, 0, 0, (⟨#[]⟩ : ByteArray), (⟨#[]⟩ : ByteArray), false)))) = some (r1, r2, r3, r4, r5, r6) := h; clear h; replace H := Option.bind_eq_some_iff.mp H; obtain ⟨⟨t102, t103, t104⟩, A20, H⟩ := H; replace H : (if t104 = true then (if t103 = 0 then (some (0, 1, 0, (⟨#[]⟩ : ByteArray), (⟨#[]⟩ : ByteArray), true)) else (some (t103, 0, 0, (⟨#[]⟩ : ByteArray), (⟨#[]⟩ : ByteArray), true))) else (some (0, 0, 0, (⟨#[]⟩ : ByteArray), (⟨#[]⟩ : ByteArray), false))) = some (r1, r2, r3, r4, r5, r6) := H; have A2 := Aside0.mk A20; clear A20
 by_cases c3 : t104 = true
 ·
  subst c3; rw [if_pos rfl] at H; replace H := xJ H; rcases H with ⟨c4, H⟩ | ⟨c4, H⟩
  ·
   have c4b0 := beq_iff_eq.mpr c4; have c4b1 := bne_eq_false_iff_eq.mpr c4; clear c4; simp only [Option.some.injEq, Prod.mk.injEq] at H; obtain ⟨rfl, rfl, rfl, rfl, rfl, rfl⟩ := H; go_enter Tryz.func11, Tryz.ntmps11; go_wp2_with (first | ((with_reducible refine gate_dst (N := 2) rfl ?_); refine box_event ?hg (N := 2) ?hd (cs := #[.int .i64 0, .int .i64 0, .int .i64 0, .string (⟨#[]⟩ : ByteArray), .string (⟨#[]⟩ : ByteArray)]) (t := 26) ?hr ?_; (case hd => rfl); (case hg => rfl); (case hr => first | (go_simp; done) | (go_simp; rfl)); intro gb101 hg w5 hbox hb; have BK101 := Aside0.mk (hbox); have GW101 := Aside0.mk ((by rw [hg]; exact (below_size xB) : w.heap.size ≤ gb101)); have GE101 := Aside0.mk ((by rw [hg]; exact (below_size xB) : w.heap.size ≤ gb101)); replace HB := Aside0.mk (below_step xB hb); clear hb hbox hg) | ((with_reducible refine gate_callee (f := 28) rfl ?_); refine goesL_ (some 9) rfl rfl Tryz.func28 (by kernel_rfl) rfl #[.string a0] rfl xS ?_; (with_reducible refine (armadaref08_Major.calls k a0 t102 t103 true _ A2.out).mono ?_); rintro e w6 ⟨rfl, hb⟩; refine ⟨_, rfl, ?_⟩; replace BK101 := Aside0.mk (blk_below (g := gb101) (o := .cells #[.int .i64 0, .int .i64 0, .int .i64 0, .string (⟨#[]⟩ : ByteArray), .string (⟨#[]⟩ : ByteArray)] 26 (0, 0)) xK hb); replace HB := Aside0.mk (below_step xB hb); (try clear hb); obtain ⟨hcz7_0, hcz7_1, hcz7_2, hcz7_3, hcz7_4⟩ := xC5 BK101.out; obtain ⟨hfz7_0, hfz7_1, hfz7_2, hfz7_3, hfz7_4⟩ := xF5 BK101.out)); refine bodyPost_ret (results_ct rfl _ _ gb101 26 #[.int .i64 0, .int .i64 1, .int .i64 0, .string (⟨#[]⟩ : ByteArray), .string (⟨#[]⟩ : ByteArray)] (0, 0) _ rfl (by (with_reducible repeat (first | refine blk_drewN ?_ _ | refine blk_drew ?_ | refine blk_alloc ?_ _)); refine blk_put (cs := #[.int .i64 0, .int .i64 1, .int .i64 0, .string (⟨#[]⟩ : ByteArray), .string (⟨#[]⟩ : ByteArray)]) ?_ 4 _ rfl; (with_reducible repeat (first | refine blk_drewN ?_ _ | refine blk_drew ?_ | refine blk_alloc ?_ _)); refine blk_put (cs := #[.int .i64 0, .int .i64 1, .int .i64 0, .string (⟨#[]⟩ : ByteArray), .string (⟨#[]⟩ : ByteArray)]) ?_ 3 _ rfl; (with_reducible repeat (first | refine blk_drewN ?_ _ | refine blk_drew ?_ | refine blk_alloc ?_ _)); refine blk_put (cs := #[.int .i64 0, .int .i64 1, .int .i64 0, .string (⟨#[]⟩ : ByteArray), .string (⟨#[]⟩ : ByteArray)]) ?_ 2 _ rfl; (with_reducible repeat (first | refine blk_drewN ?_ _ | refine blk_drew ?_ | refine blk_alloc ?_ _)); refine blk_put (cs := #[.int .i64 0, .int .i64 0, .int .i64 0, .string (⟨#[]⟩ : ByteArray), .string (⟨#[]⟩ : ByteArray)]) ?_ 1 _ rfl; (with_reducible repeat (first | refine blk_drewN ?_ _ | refine blk_drew ?_ | refine blk_alloc ?_ _)); refine blk_put (cs := #[.int .i64 0, .int .i64 0, .int .i64 0, .string (⟨#[]⟩ : ByteArray), .string (⟨#[]⟩ : ByteArray)]) ?_ 0 _ rfl; (with_reducible repeat (first | refine blk_drewN ?_ _ | refine blk_drew ?_ | refine blk_alloc ?_ _)); exact BK101.out) Tryz.underlying26 rfl (by kernel_rfl)) rfl ?_; exact ⟨xW, xB⟩
  have c4b0 := beq_eq_false_iff_ne.mpr c4; have c4b1 := bne_iff_ne.mpr c4; simp only [Option.some.injEq, Prod.mk.injEq] at H; obtain ⟨rfl, rfl, rfl, rfl, rfl, rfl⟩ := H; go_enter Tryz.func11, Tryz.ntmps11; go_wp2_with (first | ((with_reducible refine gate_dst (N := 2) rfl ?_); refine box_event ?hg (N := 2) ?hd (cs := #[.int .i64 0, .int .i64 0, .int .i64 0, .string (⟨#[]⟩ : ByteArray), .string (⟨#[]⟩ : ByteArray)]) (t := 26) ?hr ?_; (case hd => rfl); (case hg => rfl); (case hr => first | (go_simp; done) | (go_simp; rfl)); intro gb101 hg w8 hbox hb; have BK101 := Aside0.mk (hbox); have GW101 := Aside0.mk ((by rw [hg]; exact (below_size xB) : w.heap.size ≤ gb101)); have GE101 := Aside0.mk ((by rw [hg]; exact (below_size xB) : w.heap.size ≤ gb101)); replace HB := Aside0.mk (below_step xB hb); clear hb hbox hg) | ((with_reducible refine gate_callee (f := 28) rfl ?_); refine goesL_ (some 9) rfl rfl Tryz.func28 (by kernel_rfl) rfl #[.string a0] rfl xS ?_; (with_reducible refine (armadaref08_Major.calls k a0 t102 t103 true _ A2.out).mono ?_); rintro e w9 ⟨rfl, hb⟩; refine ⟨_, rfl, ?_⟩; replace BK101 := Aside0.mk (blk_below (g := gb101) (o := .cells #[.int .i64 0, .int .i64 0, .int .i64 0, .string (⟨#[]⟩ : ByteArray), .string (⟨#[]⟩ : ByteArray)] 26 (0, 0)) xK hb); replace HB := Aside0.mk (below_step xB hb); (try clear hb); obtain ⟨hcz10_0, hcz10_1, hcz10_2, hcz10_3, hcz10_4⟩ := xC5 BK101.out; obtain ⟨hfz10_0, hfz10_1, hfz10_2, hfz10_3, hfz10_4⟩ := xF5 BK101.out)); refine bodyPost_ret (results_ct rfl _ _ gb101 26 #[.int .i64 t103, .int .i64 0, .int .i64 0, .string (⟨#[]⟩ : ByteArray), .string (⟨#[]⟩ : ByteArray)] (0, 0) _ rfl (by (with_reducible repeat (first | refine blk_drewN ?_ _ | refine blk_drew ?_ | refine blk_alloc ?_ _)); refine blk_put (cs := #[.int .i64 t103, .int .i64 0, .int .i64 0, .string (⟨#[]⟩ : ByteArray), .string (⟨#[]⟩ : ByteArray)]) ?_ 4 _ rfl; (with_reducible repeat (first | refine blk_drewN ?_ _ | refine blk_drew ?_ | refine blk_alloc ?_ _)); refine blk_put (cs := #[.int .i64 t103, .int .i64 0, .int .i64 0, .string (⟨#[]⟩ : ByteArray), .string (⟨#[]⟩ : ByteArray)]) ?_ 3 _ rfl; (with_reducible repeat (first | refine blk_drewN ?_ _ | refine blk_drew ?_ | refine blk_alloc ?_ _)); refine blk_put (cs := #[.int .i64 t103, .int .i64 0, .int .i64 0, .string (⟨#[]⟩ : ByteArray), .string (⟨#[]⟩ : ByteArray)]) ?_ 2 _ rfl; (with_reducible repeat (first | refine blk_drewN ?_ _ | refine blk_drew ?_ | refine blk_alloc ?_ _)); refine blk_put (cs := #[.int .i64 t103, .int .i64 0, .int .i64 0, .string (⟨#[]⟩ : ByteArray), .string (⟨#[]⟩ : ByteArray)]) ?_ 1 _ rfl; (with_reducible repeat (first | refine blk_drewN ?_ _ | refine blk_drew ?_ | refine blk_alloc ?_ _)); refine blk_put (cs := #[.int .i64 0, .int .i64 0, .int .i64 0, .string (⟨#[]⟩ : ByteArray), .string (⟨#[]⟩ : ByteArray)]) ?_ 0 _ rfl; (with_reducible repeat (first | refine blk_drewN ?_ _ | refine blk_drew ?_ | refine blk_alloc ?_ _)); exact BK101.out) Tryz.underlying26 rfl (by kernel_rfl)) rfl ?_; exact ⟨xW, xB⟩
 replace c3 := Bool.eq_false_iff.mpr c3; subst c3; rw [if_neg (show ¬ (false = true) by decide)] at H; simp only [Option.some.injEq, Prod.mk.injEq] at H; obtain ⟨rfl, rfl, rfl, rfl, rfl, rfl⟩ := H; go_enter Tryz.func11, Tryz.ntmps11; go_wp2_with (first | ((with_reducible refine gate_dst (N := 2) rfl ?_); refine box_event ?hg (N := 2) ?hd (cs := #[.int .i64 0, .int .i64 0, .int .i64 0, .string (⟨#[]⟩ : ByteArray), .string (⟨#[]⟩ : ByteArray)]) (t := 26) ?hr ?_; (case hd => rfl); (case hg => rfl); (case hr => first | (go_simp; done) | (go_simp; rfl)); intro gb101 hg w11 hbox hb; have BK101 := Aside0.mk (hbox); have GW101 := Aside0.mk ((by rw [hg]; exact (below_size xB) : w.heap.size ≤ gb101)); have GE101 := Aside0.mk ((by rw [hg]; exact (below_size xB) : w.heap.size ≤ gb101)); replace HB := Aside0.mk (below_step xB hb); clear hb hbox hg) | ((with_reducible refine gate_callee (f := 28) rfl ?_); refine goesL_ (some 9) rfl rfl Tryz.func28 (by kernel_rfl) rfl #[.string a0] rfl xS ?_; (with_reducible refine (armadaref08_Major.calls k a0 t102 t103 false _ A2.out).mono ?_); rintro e w12 ⟨rfl, hb⟩; refine ⟨_, rfl, ?_⟩; replace BK101 := Aside0.mk (blk_below (g := gb101) (o := .cells #[.int .i64 0, .int .i64 0, .int .i64 0, .string (⟨#[]⟩ : ByteArray), .string (⟨#[]⟩ : ByteArray)] 26 (0, 0)) xK hb); replace HB := Aside0.mk (below_step xB hb); (try clear hb); obtain ⟨hcz13_0, hcz13_1, hcz13_2, hcz13_3, hcz13_4⟩ := xC5 BK101.out; obtain ⟨hfz13_0, hfz13_1, hfz13_2, hfz13_3, hfz13_4⟩ := xF5 BK101.out)); refine bodyPost_ret (results_ct rfl _ _ gb101 26 #[.int .i64 0, .int .i64 0, .int .i64 0, .string (⟨#[]⟩ : ByteArray), .string (⟨#[]⟩ : ByteArray)] (0, 0) _ rfl (by (with_reducible repeat (first | refine blk_drewN ?_ _ | refine blk_drew ?_ | refine blk_alloc ?_ _)); refine blk_put (cs := #[.int .i64 0, .int .i64 0, .int .i64 0, .string (⟨#[]⟩ : ByteArray), .string (⟨#[]⟩ : ByteArray)]) ?_ 4 _ rfl; (with_reducible repeat (first | refine blk_drewN ?_ _ | refine blk_drew ?_ | refine blk_alloc ?_ _)); refine blk_put (cs := #[.int .i64 0, .int .i64 0, .int .i64 0, .string (⟨#[]⟩ : ByteArray), .string (⟨#[]⟩ : ByteArray)]) ?_ 3 _ rfl; (with_reducible repeat (first | refine blk_drewN ?_ _ | refine blk_drew ?_ | refine blk_alloc ?_ _)); refine blk_put (cs := #[.int .i64 0, .int .i64 0, .int .i64 0, .string (⟨#[]⟩ : ByteArray), .string (⟨#[]⟩ : ByteArray)]) ?_ 2 _ rfl; (with_reducible repeat (first | refine blk_drewN ?_ _ | refine blk_drew ?_ | refine blk_alloc ?_ _)); refine blk_put (cs := #[.int .i64 0, .int .i64 0, .int .i64 0, .string (⟨#[]⟩ : ByteArray), .string (⟨#[]⟩ : ByteArray)]) ?_ 1 _ rfl; (with_reducible repeat (first | refine blk_drewN ?_ _ | refine blk_drew ?_ | refine blk_alloc ?_ _)); refine blk_put (cs := #[.int .i64 0, .int .i64 0, .int .i64 0, .string (⟨#[]⟩ : ByteArray), .string (⟨#[]⟩ : ByteArray)]) ?_ 0 _ rfl; (with_reducible repeat (first | refine blk_drewN ?_ _ | refine blk_drew ?_ | refine blk_alloc ?_ _)); exact BK101.out) Tryz.underlying26 rfl (by kernel_rfl)) rfl ?_; exact ⟨xW, xB⟩
end Go.Proofs.YtillhaipemengaaGreatDoor.RT
end

section
namespace Go.Proofs.YtillhaipemengaaGreatDoor.RT
open Go.RowKit Go.Proofs.YtillhaipemengaaGreatDoor Go.Proofs.YtillhaipemengaaGreatDoor.K0 Go.Proofs.YtillhaipemengaaGreatDoor.RD Go.Proofs.YtillhaipemengaaGreatDoorW.PrintWords Go.Proofs.YtillhaipemengaaGreatDoorW.PrintLast Go.Proofs.YtillhaipemengaaGreatDoorW.PrintMore
attribute [local go_sem] max2_int min2_int max_two min_two max_three min_three max_four min_four
set_option linter.unusedVariables false
set_option linter.unusedSimpArgs false
end Go.Proofs.YtillhaipemengaaGreatDoor.RT
end
