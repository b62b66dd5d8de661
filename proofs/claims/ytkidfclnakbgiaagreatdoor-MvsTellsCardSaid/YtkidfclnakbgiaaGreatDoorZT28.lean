/- The texts MvDown, MvFns, RDx0 in one file, without what these claims do not use (put together by prune2.py). -/
import Derived.Test.YtkidfclnakbgiaaGreatDoorZT27
import Derived.Test.YtkidfclnakbgiaaGreatDoorZT8
import Derived.Test.YtkidfclnakbgiaaGreatDoorZT9
import Derived.Test.YtkidfclnakbgiaaGreatDoorZT14
import Derived.Test.YtkidfclnakbgiaaGreatDoorZT15
section
namespace Go.Proofs.YtkidfclnakbgiaaGreatDoor
open Go Go.RowKit Go.Sort Go.Maps Go.Proofs Go.Proofs.YtkidfclnakbgiaaGreatDoorW.PrintWords Go.Proofs.YtkidfclnakbgiaaGreatDoorW.PrintLast Go.Proofs.YtkidfclnakbgiaaGreatDoor.K0
set_option linter.unusedVariables false
set_option linter.unusedSimpArgs false
theorem fm_take {l : List Rq} {f : Rq → Option Rq} {k : Nat} {x : Rq} (h : l[k]? = some x) : (l.take (k + 1)).filterMap f = (l.take k).filterMap f ++ (f x).toList := by
  rw [List.take_add_one, h, List.filterMap_append]
  show _ ++ List.filterMap f [x] = _
  cases h2 : f x <;> simp [List.filterMap_cons, h2]
theorem fm_len (l : List Rq) (f : Rq → Option Rq) (k : Nat) : ((l.take k).filterMap f).length ≤ l.length := Nat.le_trans (List.length_filterMap_le _ _) (by rw [List.length_take]; omega)
set_option maxRecDepth 100000 in
set_option maxHeartbeats 4000000 in
theorem downgrade_calls (A : Option Addr) (c : Nat) (root : List Rq) (An : Option Addr) (cn : Nat) (xs : List Nd) (r : Rq) (w : World) (hG : GW w) (hr : Kd.C k27 w A root.length root) (hc : root.length ≤ c) (hn : Kd.C k48 w An xs.length xs)
    (hU : ((xs.map ndP).flatMap (·.2)).length + 1 ≤ 1000000) (hl : xs.length ≤ 1000000) (hlr : root.length ≤ 100000) (hx : ∀ x ∈ root, x.f0.size ≤ maxLen) :
    Calls Tryz.prog 21 #[.slice A root.length c, .slice An xs.length cn, .agg (rqc r)] w fun e w' => RqBack w w' e (mv.downgrade root (xs.map ndP) r) := by
  have hcl := fun W (h : Below w.heap.size w W) => clone_calls A c root W (Kd.C_below hr h) hc (by omega)
  have hout := fun y W (h : Below w.heap.size w W) => out_calls An cn xs r y W (hG.below h) (Kd.C_below hn h) (by
    have e : (Mv.univ [y] (xs.map ndP)).length = 1 + ((xs.map ndP).flatMap (·.2)).length := by unfold Mv.univ; rw [List.length_append]; rfl
    omega)
  have hlow := fun y W (h : Below w.heap.size w W) hy => lower_calls An cn xs r y W (hG.below h) (Kd.C_below hn h) hU hl hy
  have hmr := fun W h => may_calls r W h
  have HB0 := Aside0.mk (below_alloc (Below.refl w.heap.size w) (.cells (rqc r) 27))
  have HX0 := Aside0.mk (show RqAt (w.alloc (.cells (rqc r) 27)) w.heap.size r from heap_alloc_new w _)
  have HCL := Aside0.mk hcl
  have HOUT := Aside0.mk hout
  have HLOW := Aside0.mk hlow
  have HG := Aside0.mk hG
  have HR := Aside0.mk hr
  have HXS := Aside0.mk hx
  clear hcl hout hlow hG hr hx hn hU
  cases hm : mv.may r with
  | false =>
    have HD : Aside0 (mv.downgrade root (xs.map ndP) r = root) := ⟨by unfold Mv.downgrade; rw [if_neg (by rw [hm]; simp)]⟩
    rw [hm] at hmr
    have HMR := Aside0.mk hmr
    clear hm hmr
    go_enter Tryz.func21, Tryz.ntmps21
    go_wp2_with (first | (go_at_call 42; refine (HMR.out _ (HG.out.below HB0.out)).mono ?_; rintro e w1 ⟨rfl, hb⟩; have HB1 := Aside0.mk (below_step HB0.out hb); clear hb) | (go_at_call 41; refine (HCL.out _ HB1.out).mono ?_; rintro e w2 ⟨v, rfl, hR, hb⟩; obtain ⟨A1, c1, rfl⟩ := Kd.R_slice hR; have HR1 := Aside0.mk hR; have HB2 := Aside0.mk (below_step HB1.out hb); clear hR hb))
    go_ret
    rw [HD.out]
    exact back_of HR1.out HB2.out HB1.out.size
  | true =>
    have HD : Aside0 (mv.downgrade root (xs.map ndP) r = root.filterMap (mv.down (xs.map ndP) r)) := ⟨by unfold Mv.downgrade; rw [if_pos hm]⟩
    rw [hm] at hmr
    have HMR := Aside0.mk hmr
    clear hm hmr
    go_enter Tryz.func21, Tryz.ntmps21
    go_wp2_with (go_at_call 42; refine (HMR.out _ (HG.out.below HB0.out)).mono ?_; rintro e w1 ⟨rfl, hb⟩; have HB1 := Aside0.mk (below_step HB0.out hb); have HX1 := Aside0.mk (show RqAt w1 w.heap.size r from blk_below HX0.out hb); obtain ⟨h0, h1, h2, h3, h4, h5⟩ := HX1.out.cells; clear hb)
    clear h0 h1 h2 h3 h4 h5
    have HN0 := Aside0.mk (show (w1.alloc (.cells (bndc r (.slice An xs.length cn)) 69)).heap[w1.heap.size]? = some (.cells (bndc r (.slice An xs.length cn)) 69 (0, 0)) from heap_alloc_new w1 _)
    have HB2 := Aside0.mk (below_alloc HB1.out (.cells (bndc r (.slice An xs.length cn)) 69))
    have HBL := Aside0.mk (show w.heap.size ≤ w1.heap.size from HB1.out.size)
    generalize w1.heap.size = b0 at HN0 HBL ⊢
    go_loopg [8, 10, 11, 22] root.length (fun gg v8 _ _ s22 wr => ∃ (kk : Nat) (acc : List Rq), kk ≤ root.length ∧ root.length - kk ≤ gg ∧ s22 = .int .i64 kk ∧ Aside0 (acc = (root.take kk).filterMap (mv.down (xs.map ndP) r)) ∧ Aside0 (Below w.heap.size w wr) ∧ Aside0 (wr.heap[b0]? = some (.cells (bndc r (.slice An xs.length cn)) 69 (0, 0))) ∧ Aside0 (Kd.R k27 27 wr (b0 + 1) (fun k => b0 < k) v8 acc))
    case atStart => exact ⟨0, [], Nat.zero_le _, by omega, rfl, ⟨rfl⟩, HB2, HN0, ⟨Kd.R_nil _ _ _ _ _⟩⟩
    case round =>
      clear HB0 HX0 HB1 HX1 HN0 HB2 HMR HCL
      obtain ⟨kk, acc, hkk, hg, rfl, HA, HB, HN, HO⟩ := hrel
      obtain ⟨A3, c3, rfl⟩ := Kd.R_slice HO.out
      have hal : acc.length ≤ root.length := by rw [HA.out]; exact fm_len _ _ _
      by_cases hlt : kk < root.length
      · have hltz : (kk : Int) < (root.length : Int) := by omega
        have HC := Kd.C_below HR.out HB.out
        obtain ⟨x, hx⟩ : ∃ x, root[kk]? = some x := ⟨_, List.getElem?_eq_getElem hlt⟩
        have hxe : rd_T27 root (kk : Int) = x := by
          unfold rd_T27
          rw [Int.toNat_natCast, List.getD_eq_getElem?_getD, hx]; rfl
        obtain ⟨ad, hA, h0, h1, h2, h3, h4, h5⟩ := at_T27 HC (kk : Int) (by omega) (by omega)
        rw [hxe] at h0 h1 h2 h3 h4 h5
        rw [Int.toNat_natCast] at h0 h1 h2 h3 h4 h5
        subst hA
        have HTK := Aside0.mk (fm_take (f := mv.down (xs.map ndP) r) hx)
        have HXW := Aside0.mk (show RqAt (wr.alloc (.cells (rqc x) 27)) wr.heap.size x from heap_alloc_new wr _)
        have HNW := Aside0.mk (blk_alloc HN.out (.cells (rqc x) 27))
        have HBW := Aside0.mk (below_alloc HB.out (.cells (rqc x) 27))
        have hnb := blk_lt HN.out
        have HOW := Aside0.mk (Kd.R_alloc (Kd.R_mono (Kd.R_bound HO.out) (fun k hk => ⟨hk.1, by have := hk.2.2.1; omega⟩) : Kd.R k27 27 wr (b0 + 1) (fun k => b0 < k ∧ k ≠ wr.heap.size) (.slice A3 acc.length c3) acc) (.cells (rqc x) 27))
        obtain ⟨d0, d1, d2, d3, d4, d5⟩ := bnd_cells HNW.out
        have d6 := (blk_cell HNW.out 6).trans (show _ = some (Value.slice An xs.length cn) from rfl)
        have hou := fun W h => HOUT.out x W h
        have hsz := HXS.out x (List.mem_of_getElem? hx)
        have hlo := fun W h => HLOW.out x W h hsz
        clear HC hx hxe HO hsz
        cases ho : mv.out (xs.map ndP) r x with
        | false =>
          rw [ho] at hou
          have HOU := Aside0.mk hou
          have HAC : Aside0 (acc ++ [x] = (root.take (kk + 1)).filterMap (mv.down (xs.map ndP) r)) := ⟨by rw [HTK.out, ← HA.out]; unfold Mv.down; rw [ho]; rfl⟩
          clear hou ho hlo
          go_wp2_with (first | (go_at_call 46; refine (HOU.out _ HBW.out).mono ?_; rintro e w2 ⟨rfl, hb⟩; have HB2 := Aside0.mk (below_step HBW.out hb); have HN2 := Aside0.mk (blk_below HNW.out hb); have HX2 := Aside0.mk (show RqAt w2 wr.heap.size x from blk_below HXW.out hb); have HO2 := Aside0.mk (Kd.R_below HOW.out hb); obtain ⟨y0, y1, y2, y3, y4, y5⟩ := HX2.out.cells; obtain ⟨e0, e1, e2, e3, e4, e5⟩ := bnd_cells HN2.out; have e6 := (blk_cell HN2.out 6).trans (show _ = some (Value.slice An xs.length cn) from rfl); clear hb) | ((with_reducible refine gate_builtin (b := .append) (xs := #[.tmp 36, .tmp 38]) rfl ?_); at_builtin; refine Kd.R_append k27 (w0 := w2) (b0 + 1) rfl (.tmp 36) (.tmp 38) 22 27 _ 72 rfl Tryz.underlying22 info27 rfl (by decide) (by decide) (.slice A3 acc.length c3) acc x _ (fun k => b0 < k ∧ k ≠ wr.heap.size) (fun _ => False) rfl rfl (k27_mkM _ _ _ x) (fun _ h => h.elim) (fun k hk => ⟨by have := blk_lt HN2.out; omega, by have := blk_lt HX2.out; omega⟩) HO2.out (Below.refl _ _) (by have := blk_lt HN2.out; omega) (by omega) ?_; intro v9 w9 ho hb hg hat; have HO9 := Aside0.mk (Kd.R_mono ho (fun k hk => hk.1)); have HB9 := Aside0.mk (HB2.out.grown hg HB2.out.size (fun k hk => by have := HO2.out.1 k hk; have := HBL.out; omega)); have HN9 := Aside0.mk (blk_grown HN2.out hg (fun e => by have := HO2.out.1 b0 e.symm; omega)); clear ho hb hg hat))
          go_roundg (root.length - (kk + 1))
          case measure => omega
          case rel => exact ⟨kk + 1, _, by omega, by omega, by go_num, HAC, HB9, HN9, HO9⟩
        | true =>
          rw [ho] at hou
          have HOU := Aside0.mk hou
          cases hlw : mv.lower (xs.map ndP) r x with
          | none =>
            have HAC : Aside0 (acc = (root.take (kk + 1)).filterMap (mv.down (xs.map ndP) r)) := ⟨by rw [HTK.out, ← HA.out]; unfold Mv.down; rw [ho, if_pos rfl, hlw]; simp⟩
            rw [hlw] at hlo
            simp only [Option.isSome_none] at hlo
            have HLO := Aside0.mk hlo
            clear hou ho hlo hlw
            go_wp2_with (first | (go_at_call 46; refine (HOU.out _ HBW.out).mono ?_; rintro e w2 ⟨rfl, hb⟩; have HB2 := Aside0.mk (below_step HBW.out hb); have HN2 := Aside0.mk (blk_below HNW.out hb); have HX2 := Aside0.mk (show RqAt w2 wr.heap.size x from blk_below HXW.out hb); have HO2 := Aside0.mk (Kd.R_below HOW.out hb); obtain ⟨y0, y1, y2, y3, y4, y5⟩ := HX2.out.cells; obtain ⟨e0, e1, e2, e3, e4, e5⟩ := bnd_cells HN2.out; have e6 := (blk_cell HN2.out 6).trans (show _ = some (Value.slice An xs.length cn) from rfl); clear hb) | (go_at_call 47; refine (HLO.out _ HB2.out).mono ?_; rintro e w3 ⟨v, rfl, hv, hb⟩; have HV := Aside0.mk hv; have HB3 := Aside0.mk (below_step HB2.out hb); have HN3 := Aside0.mk (blk_below HN2.out hb); have HX3 := Aside0.mk (show RqAt w3 wr.heap.size x from blk_below HX2.out hb); have HO3 := Aside0.mk (Kd.R_below HO2.out hb); clear hb hv) | ((with_reducible refine gate_ (.store 27 (.tmp 10) (.tmp 33)) rfl ?_); refine wpList_store rfl rfl 27 (.tmp 10) (.tmp 33) rfl (rql v) HX3.out rfl rfl rfl (by kernel_rfl) rfl (fun q hq => by simp only [rql, List.mem_cons, List.not_mem_nil, or_false] at hq; rcases hq with rfl | rfl | rfl | rfl | rfl | rfl <;> rfl) ?_; intro w4 hr4 hg4; have HX4 := Aside0.mk (show RqAt w4 wr.heap.size v from hr4); have HB4 := Aside0.mk (HB3.out.grown hg4 HB3.out.size (fun k hk => by cases hk; have := HB.out.size; omega)); have HN4 := Aside0.mk (blk_grown HN3.out hg4 (fun e => by injection e with e; omega)); have HO4 := Aside0.mk (Kd.R_grown HO3.out hg4 (fun k hk e => by injection e with e; omega)); obtain ⟨q0, q1, q2, q3, q4, q5⟩ := HX4.out.cells; clear hr4 hg4 y0 y1 y2 y3 y4 y5 e0 e1 e2 e3 e4 e5 e6))
            go_roundg (root.length - (kk + 1))
            case measure => omega
            case rel => exact ⟨kk + 1, _, by omega, by omega, by go_num, HAC, HB4, HN4, ⟨Kd.R_mono HO4.out (fun k hk => hk.1)⟩⟩
          | some y =>
            have HAC : Aside0 (acc ++ [y] = (root.take (kk + 1)).filterMap (mv.down (xs.map ndP) r)) := ⟨by rw [HTK.out, ← HA.out]; unfold Mv.down; rw [ho, if_pos rfl, hlw]; rfl⟩
            rw [hlw] at hlo
            simp only [Option.isSome_some] at hlo
            have HLO := Aside0.mk hlo
            clear hou ho hlo hlw
            go_wp2_with (first | (go_at_call 46; refine (HOU.out _ HBW.out).mono ?_; rintro e w2 ⟨rfl, hb⟩; have HB2 := Aside0.mk (below_step HBW.out hb); have HN2 := Aside0.mk (blk_below HNW.out hb); have HX2 := Aside0.mk (show RqAt w2 wr.heap.size x from blk_below HXW.out hb); have HO2 := Aside0.mk (Kd.R_below HOW.out hb); obtain ⟨y0, y1, y2, y3, y4, y5⟩ := HX2.out.cells; obtain ⟨e0, e1, e2, e3, e4, e5⟩ := bnd_cells HN2.out; have e6 := (blk_cell HN2.out 6).trans (show _ = some (Value.slice An xs.length cn) from rfl); clear hb) | (go_at_call 47; refine (HLO.out _ HB2.out).mono ?_; rintro e w3 ⟨v, rfl, hv, hb⟩; obtain rfl := hv y rfl; have HB3 := Aside0.mk (below_step HB2.out hb); have HN3 := Aside0.mk (blk_below HN2.out hb); have HX3 := Aside0.mk (show RqAt w3 wr.heap.size x from blk_below HX2.out hb); have HO3 := Aside0.mk (Kd.R_below HO2.out hb); clear hb hv) | ((with_reducible refine gate_ (.store 27 (.tmp 10) (.tmp 33)) rfl ?_); refine wpList_store rfl rfl 27 (.tmp 10) (.tmp 33) rfl (rql v) HX3.out rfl rfl rfl (by kernel_rfl) rfl (fun q hq => by simp only [rql, List.mem_cons, List.not_mem_nil, or_false] at hq; rcases hq with rfl | rfl | rfl | rfl | rfl | rfl <;> rfl) ?_; intro w4 hr4 hg4; have HX4 := Aside0.mk (show RqAt w4 wr.heap.size v from hr4); have HB4 := Aside0.mk (HB3.out.grown hg4 HB3.out.size (fun k hk => by cases hk; have := HB.out.size; omega)); have HN4 := Aside0.mk (blk_grown HN3.out hg4 (fun e => by injection e with e; omega)); have HO4 := Aside0.mk (Kd.R_grown HO3.out hg4 (fun k hk e => by injection e with e; omega)); obtain ⟨q0, q1, q2, q3, q4, q5⟩ := HX4.out.cells; clear hr4 hg4 y0 y1 y2 y3 y4 y5 e0 e1 e2 e3 e4 e5 e6) | ((with_reducible refine gate_builtin (b := .append) (xs := #[.tmp 36, .tmp 38]) rfl ?_); at_builtin; refine Kd.R_append k27 (w0 := w4) (b0 + 1) rfl (.tmp 36) (.tmp 38) 22 27 _ 72 rfl Tryz.underlying22 info27 rfl (by decide) (by decide) (.slice A3 acc.length c3) acc v _ (fun k => b0 < k ∧ k ≠ wr.heap.size) (fun _ => False) rfl rfl (k27_mkM _ _ _ v) (fun _ h => h.elim) (fun k hk => ⟨by have := blk_lt HN4.out; omega, by have := blk_lt HX4.out; omega⟩) HO4.out (Below.refl _ _) (by have := blk_lt HN4.out; omega) (by omega) ?_; intro v9 w9 ho hb hg hat; have HO9 := Aside0.mk (Kd.R_mono ho (fun k hk => hk.1)); have HB9 := Aside0.mk (HB4.out.grown hg HB4.out.size (fun k hk => by have := HO4.out.1 k hk; have := HBL.out; omega)); have HN9 := Aside0.mk (blk_grown HN4.out hg (fun e => by have := HO4.out.1 b0 e.symm; omega)); clear ho hb hg hat))
            go_roundg (root.length - (kk + 1))
            case measure => omega
            case rel => exact ⟨kk + 1, _, by omega, by omega, by go_num, HAC, HB9, HN9, HO9⟩
      · have hltz : ¬ (kk : Int) < (root.length : Int) := by omega
        have HAE : Aside0 (root.filterMap (mv.down (xs.map ndP) r) = acc) := ⟨by rw [HA.out, List.take_of_length_le (by omega)]⟩
        clear HA
        go_wp2
        go_ret
        rw [HD.out, HAE.out]
        exact back_of HO.out HB.out (Nat.le_succ_of_le HBL.out)
end Go.Proofs.YtkidfclnakbgiaaGreatDoor
end

section
namespace Go.Proofs.YtkidfclnakbgiaaGreatDoor
open Go Go.RowKit Go.Sort Go.Maps Go.Proofs Go.Proofs.YtkidfclnakbgiaaGreatDoorW.PrintWords Go.Proofs.YtkidfclnakbgiaaGreatDoorW.PrintLast Go.Proofs.YtkidfclnakbgiaaGreatDoor.K0
set_option linter.unusedVariables false
set_option linter.unusedSimpArgs false
def mvs_Reached.f (l0 : List Rq) (l1 : List Nd) : Option (List Rq) := if (Mv.univ l0 (l1.map ndP)).length ≤ 1000000 then some (mv.reached l0 (l1.map ndP)) else none
theorem mvs_Reached.calls (A0 : Option Addr) (c0 : Nat) (l0 : List Rq) (A1 : Option Addr) (c1 : Nat) (l1 : List Nd) (r : List Rq) (w : World) (hr0 : Kd.C k27 w A0 l0.length l0) (hc0 : l0.length ≤ c0) (hr1 : Kd.C k48 w A1 l1.length l1) (hc1 : l1.length ≤ c1) (hG : GW w) (h : mvs_Reached.f l0 l1 = some r) :
    Calls Tryz.prog 15 #[.slice A0 l0.length c0, .slice A1 l1.length c1] w fun e w' => ∃ v0_ : Value, e = .returned (v0_) ∧ Kd.R k27 27 w' w.heap.size (fun _ => True) v0_ r ∧ Below w.heap.size w w' := by
  unfold mvs_Reached.f at h
  split at h
  · rename_i hs
    obtain rfl := Option.some.inj h
    exact reached_calls A0 c0 l0 A1 c1 l1 w hG hr0 hr1 hs
  · cases h
def mvs_List.f (l0 : List Rq) (l1 : List Nd) : Option (List Rq) := if (Mv.univ l0 (l1.map ndP)).length ≤ 1000000 then some (mv.list l0 (l1.map ndP)) else none
theorem mvs_List.calls (A0 : Option Addr) (c0 : Nat) (l0 : List Rq) (A1 : Option Addr) (c1 : Nat) (l1 : List Nd) (r : List Rq) (w : World) (hr0 : Kd.C k27 w A0 l0.length l0) (hc0 : l0.length ≤ c0) (hr1 : Kd.C k48 w A1 l1.length l1) (hc1 : l1.length ≤ c1) (hG : GW w) (h : mvs_List.f l0 l1 = some r) :
    Calls Tryz.prog 17 #[.slice A0 l0.length c0, .slice A1 l1.length c1] w fun e w' => ∃ v0_ : Value, e = .returned (v0_) ∧ Kd.R k27 27 w' w.heap.size (fun _ => True) v0_ r ∧ Below w.heap.size w w' := by
  unfold mvs_List.f at h
  split at h
  · rename_i hs
    obtain rfl := Option.some.inj h
    refine (list_calls A0 c0 l0 A1 c1 l1 w hG hr0 hr1 hs).mono fun e w' h => ?_
    obtain ⟨v, he, hR⟩ := h.own
    exact ⟨v, he, hR, h.below⟩
  · cases h
def mvs_Upgrade.f (l0 : List Rq) (a0 : ByteArray) (a1 a2 a3 : Int) (a4 a5 : ByteArray) : Option (List Rq) := if l0.length ≤ 100000 then some (mv.upgrade l0 ⟨a0, ⟨a1, a2, a3, a4, a5⟩⟩) else none
theorem mvs_Upgrade.calls (A0 : Option Addr) (c0 : Nat) (l0 : List Rq) (a0 : ByteArray) (a1 a2 a3 : Int) (a4 a5 : ByteArray) (r : List Rq) (w : World) (hr0 : Kd.C k27 w A0 l0.length l0) (hc0 : l0.length ≤ c0) (hG : GW w) (h : mvs_Upgrade.f l0 a0 a1 a2 a3 a4 a5 = some r) :
    Calls Tryz.prog 19 #[.slice A0 l0.length c0, .agg #[.string a0, .int .i64 a1, .int .i64 a2, .int .i64 a3, .string a4, .string a5]] w fun e w' => ∃ v0_ : Value, e = .returned (v0_) ∧ Kd.R k27 27 w' w.heap.size (fun _ => True) v0_ r ∧ Below w.heap.size w w' := by
  unfold mvs_Upgrade.f at h
  split at h
  · rename_i hs
    obtain rfl := Option.some.inj h
    refine (upgrade_calls A0 c0 l0 ⟨a0, ⟨a1, a2, a3, a4, a5⟩⟩ w hG hr0 hc0 hs).mono fun e w' h => ?_
    obtain ⟨v, he, hR⟩ := h.own
    exact ⟨v, he, hR, h.below⟩
  · cases h
def mvs_Downgrade.f (l0 : List Rq) (l1 : List Nd) (a0 : ByteArray) (a1 a2 a3 : Int) (a4 a5 : ByteArray) : Option (List Rq) :=
  if ((l1.map ndP).flatMap (·.2)).length + 1 ≤ 1000000 ∧ l1.length ≤ 1000000 ∧ l0.length ≤ 100000 ∧ ∀ x ∈ l0, x.f0.size ≤ maxLen then some (mv.downgrade l0 (l1.map ndP) ⟨a0, ⟨a1, a2, a3, a4, a5⟩⟩) else none
theorem mvs_Downgrade.calls (A0 : Option Addr) (c0 : Nat) (l0 : List Rq) (A1 : Option Addr) (c1 : Nat) (l1 : List Nd) (a0 : ByteArray) (a1 a2 a3 : Int) (a4 a5 : ByteArray) (r : List Rq) (w : World) (hr0 : Kd.C k27 w A0 l0.length l0) (hc0 : l0.length ≤ c0) (hr1 : Kd.C k48 w A1 l1.length l1) (hc1 : l1.length ≤ c1) (hG : GW w) (h : mvs_Downgrade.f l0 l1 a0 a1 a2 a3 a4 a5 = some r) :
    Calls Tryz.prog 21 #[.slice A0 l0.length c0, .slice A1 l1.length c1, .agg #[.string a0, .int .i64 a1, .int .i64 a2, .int .i64 a3, .string a4, .string a5]] w fun e w' => ∃ v0_ : Value, e = .returned (v0_) ∧ Kd.R k27 27 w' w.heap.size (fun _ => True) v0_ r ∧ Below w.heap.size w w' := by
  unfold mvs_Downgrade.f at h
  split at h
  · rename_i hs
    obtain rfl := Option.some.inj h
    obtain ⟨h1, h2, h3, h4⟩ := hs
    refine (downgrade_calls A0 c0 l0 A1 c1 l1 ⟨a0, ⟨a1, a2, a3, a4, a5⟩⟩ w hG hr0 hc0 hr1 h1 h2 h3 h4).mono fun e w' h => ?_
    obtain ⟨v, he, hR⟩ := h.own
    exact ⟨v, he, hR, h.below⟩
  · cases h
end Go.Proofs.YtkidfclnakbgiaaGreatDoor
end

section
namespace Go.Proofs.YtkidfclnakbgiaaGreatDoor.RD
open Go.RowKit Go.Proofs.YtkidfclnakbgiaaGreatDoor Go.Proofs.YtkidfclnakbgiaaGreatDoor.K0 Go.Proofs.YtkidfclnakbgiaaGreatDoorW.PrintWords Go.Proofs.YtkidfclnakbgiaaGreatDoorW.PrintLast Go.Proofs.YtkidfclnakbgiaaGreatDoorW.PrintMore
attribute [local go_sem] max2_int min2_int max_two min_two max_three min_three max_four min_four
set_option linter.unusedVariables false
set_option linter.unusedSimpArgs false
end Go.Proofs.YtkidfclnakbgiaaGreatDoor.RD
end
