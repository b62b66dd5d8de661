/- The texts TlLow in one file, without what these claims do not use (put together by prune2.py). -/
import Derived.Test.YtkidfclnakbgiaaGreatDoorZT47
section
namespace Go.Proofs.YtkidfclnakbgiaaGreatDoor
open Go Go.RowKit Go.Sort Go.Maps Go.Proofs Go.Proofs.YtkidfclnakbgiaaGreatDoorW.PrintWords Go.Proofs.YtkidfclnakbgiaaGreatDoorW.PrintLast Go.Proofs.YtkidfclnakbgiaaGreatDoor.K0 Go.Proofs.YtkidfclnakbgiaaGreatDoor.RD Go.Proofs.YtkidfclnakbgiaaGreatDoor.RS Go.Proofs.YtkidfclnakbgiaaGreatDoor.RT
set_option linter.unusedVariables false
set_option linter.unusedSimpArgs false
/-- The variables of the document's lower. -/
structure LwIs (w : World) (x r b : Rq) (W : World) : Prop where
  base : Below w.heap.size w W
  x : RqAt W w.heap.size x
  r : RqAt W (w.heap.size + 1) r
  z : RqAt W (w.heap.size + 1 + 1) z27'
  b : RqAt W (w.heap.size + 1 + 1 + 1) b
theorem LwIs.step {w W W' : World} {x r b : Rq} (h : LwIs w x r b W) (hb : Below W.heap.size W W') : LwIs w x r b W' := ⟨below_step h.base hb, blk_below h.x hb, blk_below h.r hb, blk_below h.z hb, blk_below h.b hb⟩
theorem LwIs.put {w W W' : World} {x r b y : Rq} (h : LwIs w x r b W) (hr : RqAt W' (w.heap.size + 1 + 1 + 1) y) (hg : W.grownBy W' (some (w.heap.size + 1 + 1 + 1))) : LwIs w x r y W' :=
  ⟨h.base.grown hg h.base.size (fun k hk => by cases hk; omega), blk_grown h.x hg (by simp; omega), blk_grown h.r hg (by simp), blk_grown h.z hg (by simp), hr⟩
theorem lw_start (w : World) (x r : Rq) : LwIs w x r z27' ((((w.alloc (.cells (rqc x) 27)).alloc (.cells (rqc r) 27)).alloc (.cells (rqc z27') 27)).alloc (.cells (rqc z27') 27)) := by
  have h1 := heap_alloc_new (w.alloc (.cells (rqc x) 27)) (.cells (rqc r) 27)
  have h2 := heap_alloc_new ((w.alloc (.cells (rqc x) 27)).alloc (.cells (rqc r) 27)) (.cells (rqc z27') 27)
  have h3 := heap_alloc_new (((w.alloc (.cells (rqc x) 27)).alloc (.cells (rqc r) 27)).alloc (.cells (rqc z27') 27)) (.cells (rqc z27') 27)
  rw [show (w.alloc (.cells (rqc x) 27)).heap.size = w.heap.size + 1 by simp] at h1
  rw [show ((w.alloc (.cells (rqc x) 27)).alloc (.cells (rqc r) 27)).heap.size = w.heap.size + 1 + 1 by simp] at h2
  rw [show (((w.alloc (.cells (rqc x) 27)).alloc (.cells (rqc r) 27)).alloc (.cells (rqc z27') 27)).heap.size = w.heap.size + 1 + 1 + 1 by simp] at h3
  exact ⟨below_alloc (below_alloc (below_alloc (below_alloc (Below.refl _ _) _) _) _) _, blk_alloc (blk_alloc (blk_alloc (heap_alloc_new w _) _) _) _, blk_alloc (blk_alloc h1 _) _, blk_alloc h2 _, h3⟩
/-- The greatest one so far. -/
def lwB (xs : List NdR) (r x : Rq) (k : Nat) : Option Rq := mv.best (lowOf (xs.map toNd) r x k) (mv.path x)
theorem lwB_no {xs : List NdR} {r x : Rq} {k : Nat} {y : NdR} (h : xs[k]? = some y) (hy : mv.isLow (xs.map ndR) r x y.f0 = false) : lwB xs r x (k + 1) = lwB xs r x k := by
  unfold lwB
  rw [lowOf_no (y := toNd y) (by rw [List.getElem?_map, h]; rfl) (by rw [own_ndP]; exact hy)]
theorem lwB_yes {xs : List NdR} {r x : Rq} {k : Nat} {y : NdR} (h : xs[k]? = some y) (hy : mv.isLow (xs.map ndR) r x y.f0 = true) : lwB xs r x (k + 1) = mv.takeP (mv.path x) (lwB xs r x k) y.f0 := by
  unfold lwB
  rw [lowOf_yes (y := toNd y) (by rw [List.getElem?_map, h]; rfl) (by rw [own_ndP]; exact hy), Mv.best_snoc]
  rfl
theorem lwB_all (xs : List NdR) (r x : Rq) : lwB xs r x xs.length = mv.lower (xs.map ndR) r x := by
  unfold lwB lowOf Mv.lower
  rw [own_ndP, List.take_of_length_le (by rw [List.length_map]; exact Nat.le_refl _), own_ndP]
set_option maxRecDepth 100000 in
set_option maxHeartbeats 4000000 in
theorem reflow_calls (An : Option Addr) (cn : Nat) (xs : List NdR) (r x : Rq) (w : World) (hn : Kd.C k46 w An xs.length xs) (hcn : xs.length ≤ cn) (hl : xs.length ≤ 10000) (hU : 1 + ((xs.map ndR).flatMap (·.2)).length ≤ 10000) :
    Calls Tryz.prog 49 #[.agg (rqc x), .slice An xs.length cn, .agg (rqc r)] w fun e w' => e = .returned (.tuple #[.agg (rqc ((mv.lower (xs.map ndR) r x).getD z27')), .bool (mv.lower (xs.map ndR) r x).isSome]) ∧ Below w.heap.size w w' := by
  have hout := fun y W (h : Below w.heap.size w W) => refout_calls An cn xs r y W (Kd.C_below hn h) hcn hl (by omega)
  have HOUT := Aside0.mk hout
  have HN := Aside0.mk hn
  have HS := Aside0.mk (lw_start w x r)
  have HEND := Aside0.mk (lwB_all xs r x)
  have H0 : Aside0 (lwB xs r x 0 = none) := ⟨by unfold lwB lowOf; rw [List.take_zero]; rfl⟩
  clear hout hn hU
  go_enter Tryz.func49, Tryz.ntmps49
  go_wp2
  go_loopg [9, 10, 11] xs.length (fun gg v9 s10 _ wr => ∃ (kk : Nat) (b : Option Rq), kk ≤ xs.length ∧ xs.length - kk ≤ gg ∧ s10 = .int .i64 kk ∧ v9 = .bool b.isSome ∧ Aside0 (lwB xs r x kk = b) ∧ Aside0 (LwIs w x r (b.getD z27') wr))
  case atStart => exact ⟨0, none, Nat.zero_le _, by omega, rfl, rfl, H0, HS⟩
  case round =>
    clear HS H0
    obtain ⟨kk, b, hkk, hg, rfl, rfl, HBK, HL⟩ := hrel
    by_cases hlt : kk < xs.length
    · have hltz : (kk : Int) < (xs.length : Int) := by omega
      have HC := Kd.C_below HN.out HL.out.base
      obtain ⟨yn, hy⟩ : ∃ y, xs[kk]? = some y := ⟨_, List.getElem?_eq_getElem hlt⟩
      have hye : rd_T46 xs (kk : Int) = yn := by
        unfold rd_T46
        rw [Int.toNat_natCast, List.getD_eq_getElem?_getD, hy]; rfl
      obtain ⟨ad, A6, c6, hA, g0, g1, g2, g3, g4, g5, g6, gl, gC⟩ := at_T46 HC (kk : Int) (by omega) (by omega)
      rw [hye] at g0 g1 g2 g3 g4 g5 g6
      rw [Int.toNat_natCast] at g0 g1 g2 g3 g4 g5 g6
      subst hA
      have HNO := Aside0.mk (fun h => lwB_no (r := r) (x := x) hy h)
      have HYES := Aside0.mk (fun h => lwB_yes (r := r) (x := x) hy h)
      clear HC hye gl gC g6 hy
      generalize yn.f0 = y at g0 g1 g2 g3 g4 g5 HNO HYES
      have HL2 := Aside0.mk (HL.out.step (below_alloc (Below.refl _ wr) (.cells (rqc y) 27)))
      have HY2 := Aside0.mk (show RqAt (wr.alloc (.cells (rqc y) 27)) wr.heap.size y from heap_alloc_new wr _)
      obtain ⟨x0, x1, x2, x3, x4, x5⟩ := HL2.out.x.cells
      obtain ⟨y0, y1, y2, y3, y4, y5⟩ := HY2.out.cells
      have hsp := same_path y x
      cases hp : (y.f0.toList == x.f0.toList) with
      | false =>
        rw [hsp] at hp
        have HEQ : Aside0 (lwB xs r x (kk + 1) = b) := ⟨by rw [HNO.out (by unfold Mv.isLow; rw [hp]; rfl)]; exact HBK.out⟩
        rw [← hsp] at hp
        clear hsp HNO HYES
        go_wp2
        go_roundg (xs.length - (kk + 1))
        case measure => omega
        case rel => exact ⟨kk + 1, b, by omega, by omega, by go_num, rfl, ⟨HEQ.out⟩, HL2⟩
      | true =>
        have hpt := hp
        rw [hsp] at hpt
        have hpath : mv.path y = mv.path x := by simpa using hpt
        have hlow : mv.isLow (xs.map ndR) r x y = (mv.may y && decide (mv.cmp y x < 0) && !mv.out (xs.map ndR) r y) := by
          unfold Mv.isLow
          rw [decide_eq_true hpath, Bool.true_and]
        have hmy := fun W => refmay_calls y W
        have hcm := fun W => refcmp_calls y x W
        have hou := fun W h => HOUT.out y W h
        clear hsp hpt
        cases hm : mv.may y with
        | false =>
          rw [hm] at hmy
          have HMY := Aside0.mk hmy
          have HEQ : Aside0 (lwB xs r x (kk + 1) = b) := ⟨by rw [HNO.out (by rw [hlow, hm]; rfl)]; exact HBK.out⟩
          clear hlow hmy hcm hou hm HNO HYES
          go_wp2_with ((go_at_call 25; refine (HMY.out _).mono ?_; rintro e w3 ⟨rfl, hb⟩; have HL3 := Aside0.mk (HL2.out.step hb); have HY3 := Aside0.mk (show RqAt w3 wr.heap.size y from blk_below HY2.out hb); obtain ⟨x0, x1, x2, x3, x4, x5⟩ := HL3.out.x.cells; obtain ⟨r0, r1, r2, r3, r4, r5⟩ := HL3.out.r.cells; obtain ⟨y0, y1, y2, y3, y4, y5⟩ := HY3.out.cells; obtain ⟨c0, c1, c2, c3, c4, c5⟩ := HL3.out.b.cells; clear hb))
          go_roundg (xs.length - (kk + 1))
          case measure => omega
          case rel => exact ⟨kk + 1, b, by omega, by omega, by go_num, rfl, ⟨HEQ.out⟩, HL3⟩
        | true =>
          rw [hm] at hmy
          have HMY := Aside0.mk hmy
          clear hmy
          by_cases hc : mv.cmp y x ≥ 0
          · have HEQ : Aside0 (lwB xs r x (kk + 1) = b) := ⟨by rw [HNO.out (by rw [hlow, decide_eq_false (show ¬ mv.cmp y x < 0 by omega)]; simp)]; exact HBK.out⟩
            have hcd : decide (mv.cmp y x ≥ 0) = true := decide_eq_true hc
            clear hlow hou hc hm HNO HYES
            generalize mv.cmp y x = z at hcm hcd
            have HCM := Aside0.mk hcm
            clear hcm
            go_wp2_with (first | (go_at_call 25; refine (HMY.out _).mono ?_; rintro e w3 ⟨rfl, hb⟩; have HL3 := Aside0.mk (HL2.out.step hb); have HY3 := Aside0.mk (show RqAt w3 wr.heap.size y from blk_below HY2.out hb); obtain ⟨x0, x1, x2, x3, x4, x5⟩ := HL3.out.x.cells; obtain ⟨r0, r1, r2, r3, r4, r5⟩ := HL3.out.r.cells; obtain ⟨y0, y1, y2, y3, y4, y5⟩ := HY3.out.cells; obtain ⟨c0, c1, c2, c3, c4, c5⟩ := HL3.out.b.cells; clear hb) | (go_at_call 26; refine (HCM.out _).mono ?_; rintro e w4 ⟨rfl, hb⟩; have HL4 := Aside0.mk (HL3.out.step hb); have HY4 := Aside0.mk (show RqAt w4 wr.heap.size y from blk_below HY3.out hb); obtain ⟨x0, x1, x2, x3, x4, x5⟩ := HL4.out.x.cells; obtain ⟨r0, r1, r2, r3, r4, r5⟩ := HL4.out.r.cells; obtain ⟨y0, y1, y2, y3, y4, y5⟩ := HY4.out.cells; obtain ⟨c0, c1, c2, c3, c4, c5⟩ := HL4.out.b.cells; clear hb; clear HCM))
            go_roundg (xs.length - (kk + 1))
            case measure => omega
            case rel => exact ⟨kk + 1, b, by omega, by omega, by go_num, rfl, ⟨HEQ.out⟩, HL4⟩
          · have hcd : decide (mv.cmp y x ≥ 0) = false := decide_eq_false hc
            rw [hm, decide_eq_true (show mv.cmp y x < 0 by omega)] at hlow
            clear hc hm
            generalize mv.cmp y x = z at hcm hcd
            have HCM := Aside0.mk hcm
            clear hcm
            cases ho : mv.out (xs.map ndR) r y with
            | true =>
              rw [ho] at hou
              have HOU := Aside0.mk hou
              have HEQ : Aside0 (lwB xs r x (kk + 1) = b) := ⟨by rw [HNO.out (by rw [hlow, ho]; rfl)]; exact HBK.out⟩
              clear hlow hou ho HNO HYES
              go_wp2_with (first | (go_at_call 25; refine (HMY.out _).mono ?_; rintro e w3 ⟨rfl, hb⟩; have HL3 := Aside0.mk (HL2.out.step hb); have HY3 := Aside0.mk (show RqAt w3 wr.heap.size y from blk_below HY2.out hb); obtain ⟨x0, x1, x2, x3, x4, x5⟩ := HL3.out.x.cells; obtain ⟨r0, r1, r2, r3, r4, r5⟩ := HL3.out.r.cells; obtain ⟨y0, y1, y2, y3, y4, y5⟩ := HY3.out.cells; obtain ⟨c0, c1, c2, c3, c4, c5⟩ := HL3.out.b.cells; clear hb) | (go_at_call 26; refine (HCM.out _).mono ?_; rintro e w4 ⟨rfl, hb⟩; have HL4 := Aside0.mk (HL3.out.step hb); have HY4 := Aside0.mk (show RqAt w4 wr.heap.size y from blk_below HY3.out hb); obtain ⟨x0, x1, x2, x3, x4, x5⟩ := HL4.out.x.cells; obtain ⟨r0, r1, r2, r3, r4, r5⟩ := HL4.out.r.cells; obtain ⟨y0, y1, y2, y3, y4, y5⟩ := HY4.out.cells; obtain ⟨c0, c1, c2, c3, c4, c5⟩ := HL4.out.b.cells; clear hb; clear HCM) | (go_at_call 48; refine (HOU.out _ HL4.out.base).mono ?_; rintro e w5 ⟨rfl, hb⟩; have HL5 := Aside0.mk (HL4.out.step hb); have HY5 := Aside0.mk (show RqAt w5 wr.heap.size y from blk_below HY4.out hb); obtain ⟨x0, x1, x2, x3, x4, x5⟩ := HL5.out.x.cells; obtain ⟨r0, r1, r2, r3, r4, r5⟩ := HL5.out.r.cells; obtain ⟨y0, y1, y2, y3, y4, y5⟩ := HY5.out.cells; obtain ⟨c0, c1, c2, c3, c4, c5⟩ := HL5.out.b.cells; clear hb))
              go_roundg (xs.length - (kk + 1))
              case measure => omega
              case rel => exact ⟨kk + 1, b, by omega, by omega, by go_num, rfl, ⟨HEQ.out⟩, HL5⟩
            | false =>
              rw [ho] at hou
              have HOU := Aside0.mk hou
              have HEQ : Aside0 (lwB xs r x (kk + 1) = mv.takeP (mv.path x) b y) := ⟨by rw [HYES.out (by rw [hlow, ho]; rfl), HBK.out]⟩
              have HPA := Aside0.mk hpath
              clear hlow hou ho HNO HYES hpath
              cases b with
              | none =>
                have HE2 : Aside0 (lwB xs r x (kk + 1) = some y) := ⟨by rw [HEQ.out]; unfold Mv.takeP; rw [if_pos HPA.out]⟩
                simp only [Option.isSome_none]
                go_wp2_with (first | (go_at_call 25; refine (HMY.out _).mono ?_; rintro e w3 ⟨rfl, hb⟩; have HL3 := Aside0.mk (HL2.out.step hb); have HY3 := Aside0.mk (show RqAt w3 wr.heap.size y from blk_below HY2.out hb); obtain ⟨x0, x1, x2, x3, x4, x5⟩ := HL3.out.x.cells; obtain ⟨r0, r1, r2, r3, r4, r5⟩ := HL3.out.r.cells; obtain ⟨y0, y1, y2, y3, y4, y5⟩ := HY3.out.cells; obtain ⟨c0, c1, c2, c3, c4, c5⟩ := HL3.out.b.cells; clear hb) | (go_at_call 26; refine (HCM.out _).mono ?_; rintro e w4 ⟨rfl, hb⟩; have HL4 := Aside0.mk (HL3.out.step hb); have HY4 := Aside0.mk (show RqAt w4 wr.heap.size y from blk_below HY3.out hb); obtain ⟨x0, x1, x2, x3, x4, x5⟩ := HL4.out.x.cells; obtain ⟨r0, r1, r2, r3, r4, r5⟩ := HL4.out.r.cells; obtain ⟨y0, y1, y2, y3, y4, y5⟩ := HY4.out.cells; obtain ⟨c0, c1, c2, c3, c4, c5⟩ := HL4.out.b.cells; clear hb; clear HCM) | (go_at_call 48; refine (HOU.out _ HL4.out.base).mono ?_; rintro e w5 ⟨rfl, hb⟩; have HL5 := Aside0.mk (HL4.out.step hb); have HY5 := Aside0.mk (show RqAt w5 wr.heap.size y from blk_below HY4.out hb); obtain ⟨x0, x1, x2, x3, x4, x5⟩ := HL5.out.x.cells; obtain ⟨r0, r1, r2, r3, r4, r5⟩ := HL5.out.r.cells; obtain ⟨y0, y1, y2, y3, y4, y5⟩ := HY5.out.cells; obtain ⟨c0, c1, c2, c3, c4, c5⟩ := HL5.out.b.cells; clear hb) | ((with_reducible refine gate_ (.store 27 (.tmp 8) (.tmp 57)) rfl ?_); refine wpList_store rfl rfl 27 (.tmp 8) (.tmp 57) rfl (rql y) HL5.out.b rfl rfl rfl (by kernel_rfl) rfl (fun q hq => by simp only [rql, List.mem_cons, List.not_mem_nil, or_false] at hq; rcases hq with rfl | rfl | rfl | rfl | rfl | rfl <;> rfl) ?_; intro w9 hr9 hg9; have HL9 := Aside0.mk (HL5.out.put hr9 hg9); clear hr9 hg9))
                go_roundg (xs.length - (kk + 1))
                case measure => omega
                case rel => exact ⟨kk + 1, some y, by omega, by omega, by go_num, rfl, ⟨HE2.out⟩, HL9⟩
              | some b =>
                have hcb := fun W => refcmp_calls y b W
                simp only [Option.isSome_some]
                simp only [Option.getD_some] at HL HL2
                by_cases hc2 : mv.cmp y b > 0
                · have HE2 : Aside0 (lwB xs r x (kk + 1) = some y) := ⟨by rw [HEQ.out]; unfold Mv.takeP; rw [if_pos HPA.out]; simp only [if_pos hc2]⟩
                  have hcd2 : decide (mv.cmp y b > 0) = true := decide_eq_true hc2
                  clear hc2
                  generalize mv.cmp y b = z2 at hcb hcd2
                  have HCB := Aside0.mk hcb
                  clear hcb
                  go_wp2_with (first | (go_at_call 25; refine (HMY.out _).mono ?_; rintro e w3 ⟨rfl, hb⟩; have HL3 := Aside0.mk (HL2.out.step hb); have HY3 := Aside0.mk (show RqAt w3 wr.heap.size y from blk_below HY2.out hb); obtain ⟨x0, x1, x2, x3, x4, x5⟩ := HL3.out.x.cells; obtain ⟨r0, r1, r2, r3, r4, r5⟩ := HL3.out.r.cells; obtain ⟨y0, y1, y2, y3, y4, y5⟩ := HY3.out.cells; obtain ⟨c0, c1, c2, c3, c4, c5⟩ := HL3.out.b.cells; clear hb) | (go_at_call 26; refine (HCM.out _).mono ?_; rintro e w4 ⟨rfl, hb⟩; have HL4 := Aside0.mk (HL3.out.step hb); have HY4 := Aside0.mk (show RqAt w4 wr.heap.size y from blk_below HY3.out hb); obtain ⟨x0, x1, x2, x3, x4, x5⟩ := HL4.out.x.cells; obtain ⟨r0, r1, r2, r3, r4, r5⟩ := HL4.out.r.cells; obtain ⟨y0, y1, y2, y3, y4, y5⟩ := HY4.out.cells; obtain ⟨c0, c1, c2, c3, c4, c5⟩ := HL4.out.b.cells; clear hb; clear HCM) | (go_at_call 48; refine (HOU.out _ HL4.out.base).mono ?_; rintro e w5 ⟨rfl, hb⟩; have HL5 := Aside0.mk (HL4.out.step hb); have HY5 := Aside0.mk (show RqAt w5 wr.heap.size y from blk_below HY4.out hb); obtain ⟨x0, x1, x2, x3, x4, x5⟩ := HL5.out.x.cells; obtain ⟨r0, r1, r2, r3, r4, r5⟩ := HL5.out.r.cells; obtain ⟨y0, y1, y2, y3, y4, y5⟩ := HY5.out.cells; obtain ⟨c0, c1, c2, c3, c4, c5⟩ := HL5.out.b.cells; clear hb) | (go_at_call 26; refine (HCB.out _).mono ?_; rintro e w6 ⟨rfl, hb⟩; have HL6 := Aside0.mk (HL5.out.step hb); have HY6 := Aside0.mk (show RqAt w6 wr.heap.size y from blk_below HY5.out hb); obtain ⟨x0, x1, x2, x3, x4, x5⟩ := HL6.out.x.cells; obtain ⟨r0, r1, r2, r3, r4, r5⟩ := HL6.out.r.cells; obtain ⟨y0, y1, y2, y3, y4, y5⟩ := HY6.out.cells; obtain ⟨c0, c1, c2, c3, c4, c5⟩ := HL6.out.b.cells; clear hb) | ((with_reducible refine gate_ (.store 27 (.tmp 8) (.tmp 57)) rfl ?_); refine wpList_store rfl rfl 27 (.tmp 8) (.tmp 57) rfl (rql y) HL6.out.b rfl rfl rfl (by kernel_rfl) rfl (fun q hq => by simp only [rql, List.mem_cons, List.not_mem_nil, or_false] at hq; rcases hq with rfl | rfl | rfl | rfl | rfl | rfl <;> rfl) ?_; intro w9 hr9 hg9; have HL9 := Aside0.mk (HL6.out.put hr9 hg9); clear hr9 hg9))
                  go_roundg (xs.length - (kk + 1))
                  case measure => omega
                  case rel => exact ⟨kk + 1, some y, by omega, by omega, by go_num, rfl, ⟨HE2.out⟩, HL9⟩
                · have HE2 : Aside0 (lwB xs r x (kk + 1) = some b) := ⟨by rw [HEQ.out]; unfold Mv.takeP; rw [if_pos HPA.out]; simp only [if_neg hc2]⟩
                  have hcd2 : decide (mv.cmp y b > 0) = false := decide_eq_false hc2
                  clear hc2
                  generalize mv.cmp y b = z2 at hcb hcd2
                  have HCB := Aside0.mk hcb
                  clear hcb
                  go_wp2_with (first | (go_at_call 25; refine (HMY.out _).mono ?_; rintro e w3 ⟨rfl, hb⟩; have HL3 := Aside0.mk (HL2.out.step hb); have HY3 := Aside0.mk (show RqAt w3 wr.heap.size y from blk_below HY2.out hb); obtain ⟨x0, x1, x2, x3, x4, x5⟩ := HL3.out.x.cells; obtain ⟨r0, r1, r2, r3, r4, r5⟩ := HL3.out.r.cells; obtain ⟨y0, y1, y2, y3, y4, y5⟩ := HY3.out.cells; obtain ⟨c0, c1, c2, c3, c4, c5⟩ := HL3.out.b.cells; clear hb) | (go_at_call 26; refine (HCM.out _).mono ?_; rintro e w4 ⟨rfl, hb⟩; have HL4 := Aside0.mk (HL3.out.step hb); have HY4 := Aside0.mk (show RqAt w4 wr.heap.size y from blk_below HY3.out hb); obtain ⟨x0, x1, x2, x3, x4, x5⟩ := HL4.out.x.cells; obtain ⟨r0, r1, r2, r3, r4, r5⟩ := HL4.out.r.cells; obtain ⟨y0, y1, y2, y3, y4, y5⟩ := HY4.out.cells; obtain ⟨c0, c1, c2, c3, c4, c5⟩ := HL4.out.b.cells; clear hb; clear HCM) | (go_at_call 48; refine (HOU.out _ HL4.out.base).mono ?_; rintro e w5 ⟨rfl, hb⟩; have HL5 := Aside0.mk (HL4.out.step hb); have HY5 := Aside0.mk (show RqAt w5 wr.heap.size y from blk_below HY4.out hb); obtain ⟨x0, x1, x2, x3, x4, x5⟩ := HL5.out.x.cells; obtain ⟨r0, r1, r2, r3, r4, r5⟩ := HL5.out.r.cells; obtain ⟨y0, y1, y2, y3, y4, y5⟩ := HY5.out.cells; obtain ⟨c0, c1, c2, c3, c4, c5⟩ := HL5.out.b.cells; clear hb) | (go_at_call 26; refine (HCB.out _).mono ?_; rintro e w6 ⟨rfl, hb⟩; have HL6 := Aside0.mk (HL5.out.step hb); have HY6 := Aside0.mk (show RqAt w6 wr.heap.size y from blk_below HY5.out hb); obtain ⟨x0, x1, x2, x3, x4, x5⟩ := HL6.out.x.cells; obtain ⟨r0, r1, r2, r3, r4, r5⟩ := HL6.out.r.cells; obtain ⟨y0, y1, y2, y3, y4, y5⟩ := HY6.out.cells; obtain ⟨c0, c1, c2, c3, c4, c5⟩ := HL6.out.b.cells; clear hb))
                  go_roundg (xs.length - (kk + 1))
                  case measure => omega
                  case rel => exact ⟨kk + 1, some b, by omega, by omega, by go_num, rfl, ⟨HE2.out⟩, HL6⟩
    · have hltz : ¬ (kk : Int) < (xs.length : Int) := by omega
      have : kk = xs.length := by omega
      subst this
      have hb2 : b = mv.lower (xs.map ndR) r x := HBK.out.symm.trans HEND.out
      obtain ⟨bd, hbd⟩ : ∃ bd, bd = b.getD z27' := ⟨_, rfl⟩
      rw [← hbd] at HL
      have HBD := Aside0.mk (And.intro hb2 hbd)
      clear HBK HEND hb2 hbd
      obtain ⟨c0, c1, c2, c3, c4, c5⟩ := HL.out.b.cells
      go_wp2_with ((with_reducible refine gate_ (.store 27 (.tmp 6) (.tmp 58)) rfl ?_); refine wpList_store rfl rfl 27 (.tmp 6) (.tmp 58) rfl (rql bd) HL.out.z rfl rfl rfl (by kernel_rfl) rfl (fun q hq => by simp only [rql, List.mem_cons, List.not_mem_nil, or_false] at hq; rcases hq with rfl | rfl | rfl | rfl | rfl | rfl <;> rfl) ?_; intro w2 hr2 hg2; have HR2 := Aside0.mk (show w2.heap[w.heap.size + 1 + 1]? = some (.cells (rqc bd) 27 (0, 0)) from hr2); have HB3 := Aside0.mk (HL.out.base.grown hg2 HL.out.base.size (fun k hk => by cases hk; omega)); clear hr2 hg2)
      (try simp only [Exit.inBlock, Exit.then])
      refine bodyPost_ret (results_ct rfl _ _ (w.heap.size + 1 + 1) 27 (rqc bd) (0, 0) _ rfl HR2.out Tryz.underlying27 rfl (by kernel_rfl)) rfl ⟨by rw [← HBD.out.1, ← HBD.out.2]; rfl, HB3.out⟩
end Go.Proofs.YtkidfclnakbgiaaGreatDoor
end
