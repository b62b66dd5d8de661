/- The texts MvLow in one file, without what these claims do not use (put together by prune2.py). -/
import Derived.Test.YtkidfclnakbgiaaGreatDoorZT26
section
namespace Go.Proofs.YtkidfclnakbgiaaGreatDoor
open Go Go.RowKit Go.Sort Go.Maps Go.Proofs Go.Proofs.YtkidfclnakbgiaaGreatDoorW.PrintWords Go.Proofs.YtkidfclnakbgiaaGreatDoorW.PrintLast Go.Proofs.YtkidfclnakbgiaaGreatDoor.K0
set_option linter.unusedVariables false
set_option linter.unusedSimpArgs false
/-- A whole variable is stored anew. -/
theorem wpList_store {P : Program} {ops : Array Oper} {rest : List Oper} {o : Oper} {a : Act} {Q : Exit → Act → World → Prop} {W : World} (hN : o.dst = none) (hgd : o.guard = none) (t : TypeId) (p x : Operand) (ho : o.op = .store t p x) {g : Nat} {e : TypeId} {cur : Array Value} (seg : List Value) {u : Value}
    (hh : W.heap[g]? = some (.cells cur e (0, 0))) (haddr : a.eval p = .pointer (some ⟨g, 0, none⟩)) (hx : a.eval x = u) (hu : u.cells.toList = seg) (ht : (P.info? t).map (·.size) = some seg.length) (hfit : seg.length = cur.size) (h1 : ∀ q ∈ seg, q.oneCell' = true)
    (h : ∀ w1, w1.heap[g]? = some (.cells seg.toArray e (0, 0)) → W.grownBy w1 (some g) → wpList P ops Q rest a w1) : wpList P ops Q (o :: rest) a W := by
  refine wpList_plain hgd fun K hK => ?_
  have hrun := run_store_run (P := P) (w := W) (o := 0) t u seg hh hu ht (by omega) h1
  obtain ⟨cur', h2, h3, h4⟩ := setCells_row seg 0 W cur hh (by omega)
  have hc : cur' = seg.toArray := by
    apply Array.ext'
    rw [h4, Nat.zero_add, List.take_zero, List.nil_append, List.drop_of_length_le (by rw [Array.length_toList]; omega), List.append_nil]
  rw [hc] at h2
  obtain ⟨s1, s2, s3, s4⟩ := setCells_same g seg 0 W
  have hg : W.grownBy (W.setCells g 0 seg) (some g) := ⟨s1, s2, s3, by rw [s4]; exact Nat.le_refl _, fun i _ hi => setCells_far seg 0 i (fun e => hi (by rw [e]))⟩
  unfold Oper.wp execOp
  simp only [ho, haddr, hx, Sem.run_bind, Sem.run_pure, Result.andThen_ok, hrun]
  show K (a.put o.dst undef) _
  rw [hN]
  exact hK a _ (h _ h2 hg)
theorem MapAt.mono {w : World} {B n n' : Nat} {b : List UInt8 → Option Rq} (h : MapAt w B n b) (hn : n ≤ n') : MapAt w B n' b := by
  obtain ⟨D, h1, h2⟩ := h.out
  exact ⟨D, h1.mono hn, h2⟩
/-- The variables of the call, from block B on. -/
structure LowIs (w0 : World) (B : Nat) (r x : Rq) (v : Value) (w : World) : Prop where
  below : Below w0.heap.size w0 w
  bnd : w.heap[B]? = some (.cells (bndc r v) 69 (0, 0))
  req : RqAt w (B + 1) x
  res : RqAt w (B + 1 + 1) z27
  bst : w.heap[B + 1 + 1 + 1 + 1]? = some (.cells #[.map (some (B + 1 + 1 + 1))] 58 (0, 0))
theorem LowIs.step {w0 w w' : World} {B : Nat} {r x : Rq} {v : Value} (h : LowIs w0 B r x v w) (hb : Below w.heap.size w w') : LowIs w0 B r x v w' :=
  ⟨below_step h.below hb, blk_below h.bnd hb, blk_below h.req hb, blk_below h.res hb, blk_below h.bst hb⟩
theorem LowIs.grown {w0 w w' : World} {B : Nat} {r x : Rq} {v : Value} (h : LowIs w0 B r x v w) (hB : B = w0.heap.size) (hg : w.grownBy w' (some (B + 1 + 1 + 1))) : LowIs w0 B r x v w' :=
  ⟨h.below.grown hg h.below.size (fun k hk => by cases hk; omega), blk_grown h.bnd hg (by simp; omega), blk_grown h.req hg (by simp), blk_grown h.res hg (by simp), blk_grown h.bst hg (by simp)⟩
theorem low_start (w : World) (r x : Rq) (v : Value) : LowIs w w.heap.size r x v (((((w.alloc (.cells (bndc r v) 69)).alloc (.cells (rqc x) 27)).alloc (.cells (rqc z27) 27)).alloc (.map #[] 0)).alloc (.cells #[.map (some (w.heap.size + 1 + 1 + 1))] 58)) ∧
    MapAt (((((w.alloc (.cells (bndc r v) 69)).alloc (.cells (rqc x) 27)).alloc (.cells (rqc z27) 27)).alloc (.map #[] 0)).alloc (.cells #[.map (some (w.heap.size + 1 + 1 + 1))] 58)) (w.heap.size + 1 + 1 + 1) 0 (fun _ => none) := by
  have h1 := heap_alloc_new (w.alloc (.cells (bndc r v) 69)) (.cells (rqc x) 27)
  have h2 := heap_alloc_new ((w.alloc (.cells (bndc r v) 69)).alloc (.cells (rqc x) 27)) (.cells (rqc z27) 27)
  have h4 := heap_alloc_new ((((w.alloc (.cells (bndc r v) 69)).alloc (.cells (rqc x) 27)).alloc (.cells (rqc z27) 27)).alloc (.map #[] 0)) (.cells #[.map (some (w.heap.size + 1 + 1 + 1))] 58)
  have e3 : (((w.alloc (.cells (bndc r v) 69)).alloc (.cells (rqc x) 27)).alloc (.cells (rqc z27) 27)).heap.size = w.heap.size + 1 + 1 + 1 := by simp
  have hm := World.ownsMap_made (((w.alloc (.cells (bndc r v) 69)).alloc (.cells (rqc x) 27)).alloc (.cells (rqc z27) 27)) Tryz.prog 9 rqE
  rw [e3] at hm
  rw [show (w.alloc (.cells (bndc r v) 69)).heap.size = w.heap.size + 1 by simp] at h1
  rw [show ((w.alloc (.cells (bndc r v) 69)).alloc (.cells (rqc x) 27)).heap.size = w.heap.size + 1 + 1 by simp] at h2
  rw [show ((((w.alloc (.cells (bndc r v) 69)).alloc (.cells (rqc x) 27)).alloc (.cells (rqc z27) 27)).alloc (.map #[] 0)).heap.size = w.heap.size + 1 + 1 + 1 + 1 by simp] at h4
  exact ⟨⟨below_alloc (below_alloc (below_alloc (below_alloc (below_alloc (Below.refl _ _) _) _) _) _) _, blk_alloc (blk_alloc (blk_alloc (blk_alloc (heap_alloc_new w _) _) _) _) _, blk_alloc (blk_alloc (blk_alloc h1 _) _) _, blk_alloc (blk_alloc h2 _) _, h4⟩, ⟨⟨_, hm.alloc _, MapIs.none⟩⟩⟩
/-- Those below, among the first ones. -/
def lowOf (xs : List Nd) (r x : Rq) (k : Nat) : List Rq := (((xs.take k).map ndP).map (·.1)).filter (mv.isLow (xs.map ndP) r x)
theorem lowOf_yes {xs : List Nd} {r x : Rq} {k : Nat} {y : Nd} (h : xs[k]? = some y) (hy : mv.isLow (xs.map ndP) r x y.f0 = true) : lowOf xs r x (k + 1) = lowOf xs r x k ++ [y.f0] := by
  unfold lowOf
  rw [List.take_add_one, h, List.map_append, List.map_append, List.filter_append]
  congr 1
  show List.filter _ [y.f0] = _
  rw [List.filter_cons, if_pos hy]; rfl
theorem lowOf_no {xs : List Nd} {r x : Rq} {k : Nat} {y : Nd} (h : xs[k]? = some y) (hy : mv.isLow (xs.map ndP) r x y.f0 = false) : lowOf xs r x (k + 1) = lowOf xs r x k := by
  unfold lowOf
  rw [List.take_add_one, h, List.map_append, List.map_append, List.filter_append]
  show _ ++ List.filter _ [y.f0] = _
  rw [List.filter_cons, if_neg (by rw [hy]; simp)]
  simp
set_option maxRecDepth 100000 in
set_option maxHeartbeats 4000000 in
theorem lower_calls (An : Option Addr) (cn : Nat) (xs : List Nd) (r x : Rq) (w : World) (hG : GW w) (hn : Kd.C k48 w An xs.length xs) (hU : ((xs.map ndP).flatMap (·.2)).length + 1 ≤ 1000000) (hl : xs.length ≤ 1000000) (hx : x.f0.size ≤ maxLen) :
    Calls Tryz.prog 47 #[.agg (bndc r (.slice An xs.length cn)), .agg (rqc x)] w fun e w' => ∃ v : Rq, e = .returned (.tuple #[.agg (rqc v), .bool (mv.lower (xs.map ndP) r x).isSome]) ∧ (∀ y, mv.lower (xs.map ndP) r x = some y → v = y) ∧ Below w.heap.size w w' := by
  obtain ⟨B, hB⟩ : ∃ B, B = w.heap.size := ⟨_, rfl⟩
  have hmm := @run_makeMap Tryz.prog
  have hout := fun y W (h : Below w.heap.size w W) => out_calls An cn xs r y W (hG.below h) (Kd.C_below hn h) (by
    have e : (Mv.univ [y] (xs.map ndP)).length = 1 + ((xs.map ndP).flatMap (·.2)).length := by unfold Mv.univ; rw [List.length_append]; rfl
    omega)
  have HOUT := Aside0.mk hout
  have HN := Aside0.mk hn
  have HG := Aside0.mk hG
  have HXS := Aside0.mk hx
  have HEND : Aside0 (mv.best (lowOf xs r x xs.length) (mv.path x) = mv.lower (xs.map ndP) r x) := ⟨by unfold lowOf Mv.lower; rw [List.take_length]⟩
  clear hout hG hx hU hn
  go_enter Tryz.func47, Tryz.ntmps47
  go_wp2
  obtain ⟨hs1, hs2⟩ := low_start w r x (.slice An xs.length cn)
  rw [← hB] at hs1 hs2
  have HS1 := Aside0.mk hs1
  have HS2 : Aside0 (MapAt _ (B + 1 + 1 + 1) 0 (mv.best (lowOf xs r x 0))) := ⟨hs2⟩
  have HBE := Aside0.mk hB
  clear hs1 hs2
  subst hB
  go_loopg [8, 9, 17] xs.length (fun gg _ _ s17 wr => ∃ kk : Nat, kk ≤ xs.length ∧ xs.length - kk ≤ gg ∧ s17 = .int .i64 kk ∧ Aside0 (LowIs w w.heap.size r x (.slice An xs.length cn) wr) ∧ Aside0 (MapAt wr (w.heap.size + 1 + 1 + 1) kk (mv.best (lowOf xs r x kk))))
  case atStart => exact ⟨0, Nat.zero_le _, by omega, rfl, HS1, HS2⟩
  case round =>
    obtain ⟨kk, hkk, hg, rfl, HL, HM⟩ := hrel
    by_cases hlt : kk < xs.length
    · have hltz : (kk : Int) < (xs.length : Int) := by omega
      have HC := Kd.C_below HN.out HL.out.below
      obtain ⟨y, hy⟩ : ∃ y, xs[kk]? = some y := ⟨_, List.getElem?_eq_getElem hlt⟩
      have hye : rd_T48 xs (kk : Int) = y := by
        unfold rd_T48
        rw [Int.toNat_natCast, List.getD_eq_getElem?_getD, hy]; rfl
      obtain ⟨ad, A6, c6, hA, g0, g1, g2, g3, g4, g5, g6, gl, gC⟩ := at_T48 HC (kk : Int) (by omega) (by omega)
      rw [hye] at g0 g1 g2 g3 g4 g5 g6
      rw [Int.toNat_natCast] at g0 g1 g2 g3 g4 g5 g6
      subst hA
      have HY := Aside0.mk hy
      clear HC hye gl gC hy
      have hl2 := HL.out.step (below_alloc (below_alloc (Below.refl _ wr) (.cells #[.string y.f0.f0, .int .i64 y.f0.f1.f0, .int .i64 y.f0.f1.f1, .int .i64 y.f0.f1.f2, .string y.f0.f1.f3, .string y.f0.f1.f4, .slice A6 y.f1.length c6] 48)) (.cells (rqc y.f0) 27))
      have hy2 := heap_alloc_new (wr.alloc (.cells #[.string y.f0.f0, .int .i64 y.f0.f1.f0, .int .i64 y.f0.f1.f1, .int .i64 y.f0.f1.f2, .string y.f0.f1.f3, .string y.f0.f1.f4, .slice A6 y.f1.length c6] 48)) (.cells (rqc y.f0) 27)
      rw [show (wr.alloc (.cells #[.string y.f0.f0, .int .i64 y.f0.f1.f0, .int .i64 y.f0.f1.f1, .int .i64 y.f0.f1.f2, .string y.f0.f1.f3, .string y.f0.f1.f4, .slice A6 y.f1.length c6] 48)).heap.size = wr.heap.size + 1 by simp] at hy2
      have hm2 := HM.out.below (below_alloc (below_alloc (Below.refl _ wr) (.cells #[.string y.f0.f0, .int .i64 y.f0.f1.f0, .int .i64 y.f0.f1.f1, .int .i64 y.f0.f1.f2, .string y.f0.f1.f3, .string y.f0.f1.f4, .slice A6 y.f1.length c6] 48)) (.cells (rqc y.f0) 27))
      obtain ⟨x0, x1, x2, x3, x4, x5⟩ := hl2.req.cells
      have HL2 := Aside0.mk hl2
      have HY2 := Aside0.mk hy2
      have HM2 := Aside0.mk hm2
      clear hl2 hy2 hm2
      cases hp : (y.f0.f0.toList == x.f0.toList) with
      | false =>
        have hno : mv.isLow (xs.map ndP) r x y.f0 = false := by
          rw [same_path] at hp
          unfold Mv.isLow
          rw [hp]; rfl
        have HNO := Aside0.mk (lowOf_no HY.out hno)
        clear hno
        go_wp2
        go_roundg (xs.length - (kk + 1))
        case measure => omega
        case rel => exact ⟨kk + 1, by omega, by omega, by go_num, HL2, ⟨by rw [HNO.out]; exact HM2.out.mono (Nat.le_succ _)⟩⟩
      | true =>
        have hpath : mv.path y.f0 = mv.path x := by rw [same_path] at hp; simpa using hp
        have hlow : mv.isLow (xs.map ndP) r x y.f0 = (mv.may y.f0 && decide (mv.cmp y.f0 x < 0) && !mv.out (xs.map ndP) r y.f0) := by
          unfold Mv.isLow
          rw [decide_eq_true hpath, Bool.true_and]
        have hmy := fun W h => may_calls y.f0 W h
        have hcm := fun W h => cmp_calls y.f0 x W h
        have hou := fun W h => HOUT.out y.f0 W h
        have htk := fun W h h2 => take_calls (w.heap.size + 1 + 1 + 1) kk (mv.best (lowOf xs r x kk)) y.f0 W h h2 (by omega)
        clear hpath
        cases hm : mv.may y.f0 with
        | false =>
          rw [hm] at hmy
          have HMY := Aside0.mk hmy
          have HNO := Aside0.mk (lowOf_no HY.out (by rw [hlow, hm]; rfl))
          clear hlow hmy hcm hou htk hm
          go_wp2_with (go_at_call 42; refine (HMY.out _ (HG.out.below HL2.out.below)).mono ?_; rintro e w3 ⟨rfl, hb⟩; have HL3 := Aside0.mk (HL2.out.step hb); have HM3 := Aside0.mk (HM2.out.below hb); have HY3 := Aside0.mk (show RqAt w3 (wr.heap.size + 1) y.f0 from blk_below HY2.out hb); obtain ⟨x0, x1, x2, x3, x4, x5⟩ := HL3.out.req.cells; obtain ⟨y0, y1, y2, y3, y4, y5⟩ := HY3.out.cells; clear hb)
          go_roundg (xs.length - (kk + 1))
          case measure => omega
          case rel => exact ⟨kk + 1, by omega, by omega, by go_num, HL3, ⟨by rw [HNO.out]; exact HM3.out.mono (Nat.le_succ _)⟩⟩
        | true =>
          rw [hm] at hmy
          have HMY := Aside0.mk hmy
          have htk := fun W h h2 => htk W h h2 (may_size hm)
          clear hmy
          by_cases hc : mv.cmp y.f0 x < 0
          · have hcd : decide (mv.cmp y.f0 x < 0) = true := decide_eq_true hc
            rw [hm, hcd] at hlow
            clear hc hm
            generalize mv.cmp y.f0 x = z at hcm hcd
            have HCM := Aside0.mk hcm
            clear hcm
            cases ho : mv.out (xs.map ndP) r y.f0 with
            | true =>
              rw [ho] at hou
              have HOU := Aside0.mk hou
              have HNO := Aside0.mk (lowOf_no HY.out (by rw [hlow, ho]; rfl))
              clear hlow hou htk ho
              go_wp2_with (first | (go_at_call 42; refine (HMY.out _ (HG.out.below HL2.out.below)).mono ?_; rintro e w3 ⟨rfl, hb⟩; have HL3 := Aside0.mk (HL2.out.step hb); have HM3 := Aside0.mk (HM2.out.below hb); have HY3 := Aside0.mk (show RqAt w3 (wr.heap.size + 1) y.f0 from blk_below HY2.out hb); obtain ⟨x0, x1, x2, x3, x4, x5⟩ := HL3.out.req.cells; obtain ⟨y0, y1, y2, y3, y4, y5⟩ := HY3.out.cells; clear hb) | (go_at_call 45; refine (HCM.out _ (HG.out.below HL3.out.below)).mono ?_; rintro e w4 ⟨rfl, hb⟩; have HL4 := Aside0.mk (HL3.out.step hb); have HM4 := Aside0.mk (HM3.out.below hb); have HY4 := Aside0.mk (show RqAt w4 (wr.heap.size + 1) y.f0 from blk_below HY3.out hb); obtain ⟨b0, b1, b2, b3, b4, b5⟩ := bnd_cells HL4.out.bnd; have b6 := (blk_cell HL4.out.bnd 6).trans (show _ = some (Value.slice (some ad) xs.length cn) from rfl); obtain ⟨z0, z1, z2, z3, z4, z5⟩ := HY4.out.cells; clear hb) | (go_at_call 46; refine (HOU.out _ HL4.out.below).mono ?_; rintro e w5 ⟨rfl, hb⟩; have HL5 := Aside0.mk (HL4.out.step hb); have HM5 := Aside0.mk (HM4.out.below hb); have HY5 := Aside0.mk (show RqAt w5 (wr.heap.size + 1) y.f0 from blk_below HY4.out hb); have d0 := (blk_cell HL5.out.bst 0).trans (show _ = some (Value.map (some (w.heap.size + 1 + 1 + 1))) from rfl); obtain ⟨v0, v1, v2, v3, v4, v5⟩ := HY5.out.cells; clear hb))
              go_roundg (xs.length - (kk + 1))
              case measure => omega
              case rel => exact ⟨kk + 1, by omega, by omega, by go_num, HL5, ⟨by rw [HNO.out]; exact HM5.out.mono (Nat.le_succ _)⟩⟩
            | false =>
              rw [ho] at hou
              have HOU := Aside0.mk hou
              have HYE : Aside0 ((fun q => mv.takeP q (mv.best (lowOf xs r x kk) q) y.f0) = mv.best (lowOf xs r x (kk + 1))) := ⟨by rw [lowOf_yes HY.out (by rw [hlow, ho]; rfl)]; funext q; exact (mv.best_snoc _ _ _).symm⟩
              rw [HYE.out] at htk
              have HTK := Aside0.mk htk
              clear hlow hou htk ho
              go_wp2_with (first | (go_at_call 42; refine (HMY.out _ (HG.out.below HL2.out.below)).mono ?_; rintro e w3 ⟨rfl, hb⟩; have HL3 := Aside0.mk (HL2.out.step hb); have HM3 := Aside0.mk (HM2.out.below hb); have HY3 := Aside0.mk (show RqAt w3 (wr.heap.size + 1) y.f0 from blk_below HY2.out hb); obtain ⟨x0, x1, x2, x3, x4, x5⟩ := HL3.out.req.cells; obtain ⟨y0, y1, y2, y3, y4, y5⟩ := HY3.out.cells; clear hb) | (go_at_call 45; refine (HCM.out _ (HG.out.below HL3.out.below)).mono ?_; rintro e w4 ⟨rfl, hb⟩; have HL4 := Aside0.mk (HL3.out.step hb); have HM4 := Aside0.mk (HM3.out.below hb); have HY4 := Aside0.mk (show RqAt w4 (wr.heap.size + 1) y.f0 from blk_below HY3.out hb); obtain ⟨b0, b1, b2, b3, b4, b5⟩ := bnd_cells HL4.out.bnd; have b6 := (blk_cell HL4.out.bnd 6).trans (show _ = some (Value.slice (some ad) xs.length cn) from rfl); obtain ⟨z0, z1, z2, z3, z4, z5⟩ := HY4.out.cells; clear hb) | (go_at_call 46; refine (HOU.out _ HL4.out.below).mono ?_; rintro e w5 ⟨rfl, hb⟩; have HL5 := Aside0.mk (HL4.out.step hb); have HM5 := Aside0.mk (HM4.out.below hb); have HY5 := Aside0.mk (show RqAt w5 (wr.heap.size + 1) y.f0 from blk_below HY4.out hb); have d0 := (blk_cell HL5.out.bst 0).trans (show _ = some (Value.map (some (w.heap.size + 1 + 1 + 1))) from rfl); obtain ⟨v0, v1, v2, v3, v4, v5⟩ := HY5.out.cells; clear hb) | (go_at_call 35; refine (HTK.out _ (HG.out.below HL5.out.below) HM5.out).mono ?_; rintro e w6 ⟨rfl, hm6, hg6⟩; have HM6 := Aside0.mk hm6; have HL6 := Aside0.mk (HL5.out.grown rfl hg6); clear hm6 hg6))
              go_roundg (xs.length - (kk + 1))
              case measure => omega
              case rel => exact ⟨kk + 1, by omega, by omega, by go_num, HL6, HM6⟩
          · have hcd : decide (mv.cmp y.f0 x < 0) = false := decide_eq_false hc
            have HNO := Aside0.mk (lowOf_no HY.out (by rw [hlow, hm, hcd]; rfl))
            clear hlow hou htk hm hc
            generalize mv.cmp y.f0 x = z at hcm hcd
            have HCM := Aside0.mk hcm
            clear hcm
            go_wp2_with (first | (go_at_call 42; refine (HMY.out _ (HG.out.below HL2.out.below)).mono ?_; rintro e w3 ⟨rfl, hb⟩; have HL3 := Aside0.mk (HL2.out.step hb); have HM3 := Aside0.mk (HM2.out.below hb); have HY3 := Aside0.mk (show RqAt w3 (wr.heap.size + 1) y.f0 from blk_below HY2.out hb); obtain ⟨x0, x1, x2, x3, x4, x5⟩ := HL3.out.req.cells; obtain ⟨y0, y1, y2, y3, y4, y5⟩ := HY3.out.cells; clear hb) | (go_at_call 45; refine (HCM.out _ (HG.out.below HL3.out.below)).mono ?_; rintro e w4 ⟨rfl, hb⟩; have HL4 := Aside0.mk (HL3.out.step hb); have HM4 := Aside0.mk (HM3.out.below hb); have HY4 := Aside0.mk (show RqAt w4 (wr.heap.size + 1) y.f0 from blk_below HY3.out hb); obtain ⟨b0, b1, b2, b3, b4, b5⟩ := bnd_cells HL4.out.bnd; have b6 := (blk_cell HL4.out.bnd 6).trans (show _ = some (Value.slice (some ad) xs.length cn) from rfl); obtain ⟨z0, z1, z2, z3, z4, z5⟩ := HY4.out.cells; clear hb))
            go_roundg (xs.length - (kk + 1))
            case measure => omega
            case rel => exact ⟨kk + 1, by omega, by omega, by go_num, HL4, ⟨by rw [HNO.out]; exact HM4.out.mono (Nat.le_succ _)⟩⟩
    · have hltz : ¬ (kk : Int) < (xs.length : Int) := by omega
      have : kk = xs.length := by omega
      subst this
      obtain ⟨v, hlook, hv⟩ := HM.out.look x.f0 HXS.out
      rw [show x.f0.data.toList = mv.path x from rfl, HEND.out] at hlook hv
      obtain ⟨x0, x1, x2, x3, x4, x5⟩ := HL.out.req.cells
      have d0 := (blk_cell HL.out.bst 0).trans (show _ = some (Value.map (some (w.heap.size + 1 + 1 + 1))) from rfl)
      have HV := Aside0.mk hv
      have HRES := Aside0.mk (blk_alloc HL.out.res (.cells (rqc v) 27))
      have HB2 := Aside0.mk (below_alloc HL.out.below (.cells (rqc v) 27))
      clear hv hmm
      go_wp2_with ((with_reducible refine gate_ (.store 27 (.tmp 4) (.tmp 58)) rfl ?_); refine wpList_store rfl rfl 27 (.tmp 4) (.tmp 58) rfl (rql v) HRES.out rfl rfl rfl (by kernel_rfl) rfl (fun q hq => by simp only [rql, List.mem_cons, List.not_mem_nil, or_false] at hq; rcases hq with rfl | rfl | rfl | rfl | rfl | rfl <;> rfl) ?_; intro w2 hr2 hg2; have HR2 := Aside0.mk (show w2.heap[w.heap.size + 1 + 1]? = some (.cells (rqc v) 27 (0, 0)) from hr2); have HB3 := Aside0.mk (HB2.out.grown hg2 HB2.out.size (fun k hk => by cases hk; omega)); clear hr2 hg2)
      (try simp only [Exit.inBlock, Exit.then])
      refine bodyPost_ret (results_ct rfl _ _ (w.heap.size + 1 + 1) 27 (rqc v) (0, 0) _ rfl HR2.out Tryz.underlying27 rfl (by kernel_rfl)) rfl ⟨v, rfl, HV.out, HB3.out⟩
end Go.Proofs.YtkidfclnakbgiaaGreatDoor
end
