/- The texts TlDown, TlFns in one file, without what these claims do not use (put together by prune2.py). -/
import Derived.Test.YtkidfclnakbgiaaGreatDoorZT48
import Derived.Test.YtkidfclnakbgiaaGreatDoorZT49
section
namespace Go.Proofs.YtkidfclnakbgiaaGreatDoor
open Go Go.RowKit Go.Sort Go.Maps Go.Proofs Go.Proofs.YtkidfclnakbgiaaGreatDoorW.PrintWords Go.Proofs.YtkidfclnakbgiaaGreatDoorW.PrintLast Go.Proofs.YtkidfclnakbgiaaGreatDoor.K0
set_option linter.unusedVariables false
set_option linter.unusedSimpArgs false
set_option maxRecDepth 100000 in
set_option maxHeartbeats 4000000 in
theorem refdown_calls (A : Option Addr) (c : Nat) (root : List Rq) (An : Option Addr) (cn : Nat) (xs : List NdR) (r : Rq) (w : World) (hr : Kd.C k27 w A root.length root) (hc : root.length ≤ c) (hn : Kd.C k46 w An xs.length xs) (hcn : xs.length ≤ cn)
    (hU : ((xs.map ndR).flatMap (·.2)).length + 1 ≤ 10000) (hl : xs.length ≤ 10000) (hlr : root.length ≤ 10000) (hmr0 : mv.may r = true) :
    Calls Tryz.prog 22 #[.slice A root.length c, .slice An xs.length cn, .agg (rqc r)] w fun e w' => RqBack w w' e (mv.downgrade root (xs.map ndR) r) := by
  have hout := fun y W (h : Below w.heap.size w W) => refout_calls An cn xs r y W (Kd.C_below hn h) hcn hl (by omega)
  have hlow := fun y W (h : Below w.heap.size w W) => reflow_calls An cn xs r y W (Kd.C_below hn h) hcn hl (by omega)
  have hmr := fun W => refmay_calls r W
  have HB0 := Aside0.mk (below_alloc (Below.refl w.heap.size w) (.cells (rqc r) 27))
  have HQ0 := Aside0.mk (show RqAt (w.alloc (.cells (rqc r) 27)) w.heap.size r from heap_alloc_new w _)
  have HOUT := Aside0.mk hout
  have HLOW := Aside0.mk hlow
  have HR := Aside0.mk hr
  have HD : Aside0 (mv.downgrade root (xs.map ndR) r = root.filterMap (mv.down (xs.map ndR) r)) := ⟨by unfold Mv.downgrade; rw [if_pos hmr0]⟩
  rw [hmr0] at hmr
  have HMR := Aside0.mk hmr
  clear hmr hout hlow hr hn hU hmr0
  obtain ⟨q0, q1, q2, q3, q4, q5⟩ := HQ0.out.cells
  go_enter Tryz.func22, Tryz.ntmps22
  go_wp2_with (go_at_call 25; refine (HMR.out _).mono ?_; rintro e w1 ⟨rfl, hb⟩; have HB1 := Aside0.mk (below_step HB0.out hb); have HQ1 := Aside0.mk (show RqAt w1 w.heap.size r from blk_below HQ0.out hb); clear hb q0 q1 q2 q3 q4 q5)
  obtain ⟨b0, HBE⟩ : ∃ b0, Aside0 (b0 = w.heap.size) := ⟨_, ⟨rfl⟩⟩
  have HBL : Aside0 (w.heap.size ≤ b0) := ⟨by rw [HBE.out]; exact Nat.le_refl _⟩
  rw [← HBE.out] at HQ1
  rw [← HBE.out]
  go_loopg [7, 8, 9, 10, 11, 37] root.length (fun gg v7 s8 _ _ _ _ wr => ∃ (kk : Nat) (acc : List Rq), kk ≤ root.length ∧ root.length - kk ≤ gg ∧ s8 = .int .i64 kk ∧ Aside0 (acc = (root.take kk).filterMap (mv.down (xs.map ndR) r)) ∧ Aside0 (Below w.heap.size w wr) ∧ Aside0 (RqAt wr b0 r) ∧ Aside0 (Kd.R k27 27 wr (b0 + 1) (fun k => b0 < k) v7 acc))
  case atStart => exact ⟨0, [], Nat.zero_le _, by omega, rfl, ⟨rfl⟩, HB1, HQ1, ⟨Kd.R_nil _ _ _ _ _⟩⟩
  case round =>
    clear HB0 HQ0 HB1 HQ1 HMR
    obtain ⟨kk, acc, hkk, hg, rfl, HA, HB, HQ, HO⟩ := hrel
    obtain ⟨A3, c3, rfl⟩ := Kd.R_slice HO.out
    have hal : acc.length ≤ root.length := by rw [HA.out]; exact fm_len _ _ _
    by_cases hlt : kk < root.length
    · have hltz : (kk : Int) < (root.length : Int) := by omega
      have HC := Kd.C_below HR.out HB.out
      obtain ⟨x, hx⟩ : ∃ x, root[kk]? = some x := ⟨_, List.getElem?_eq_getElem hlt⟩
      have hxe : rd_T27 root (kk : Int) = x := by
        unfold rd_T27
        rw [Int.toNat_natCast, List.getD_eq_getElem?_getD, hx]; rfl
      obtain ⟨ad, hA, h0, h1, h2, h3, h4, h5⟩ := at_T27 HC (kk : Int) (by omega) (by omega)
      rw [hxe] at h0 h1 h2 h3 h4 h5
      rw [Int.toNat_natCast] at h0 h1 h2 h3 h4 h5
      subst hA
      have HTK := Aside0.mk (fm_take (f := mv.down (xs.map ndR) r) hx)
      have HX1 := Aside0.mk (show RqAt (wr.alloc (.cells (rqc x) 27)) wr.heap.size x from heap_alloc_new wr _)
      have HQ1 := Aside0.mk (show RqAt (wr.alloc (.cells (rqc x) 27)) b0 r from blk_alloc HQ.out (.cells (rqc x) 27))
      have HB1 := Aside0.mk (below_alloc HB.out (.cells (rqc x) 27))
      have HLT := Aside0.mk (blk_lt HQ.out)
      have HO1 := Aside0.mk (Kd.R_alloc HO.out (.cells (rqc x) 27))
      obtain ⟨d0, d1, d2, d3, d4, d5⟩ := HQ1.out.cells
      obtain ⟨f0, f1, f2, f3, f4, f5⟩ := HX1.out.cells
      have hou := fun W h => HOUT.out x W h
      have hlo := fun W h => HLOW.out x W h
      clear HC hx hxe HO
      cases ho : mv.out (xs.map ndR) r x with
      | false =>
        rw [ho] at hou
        have HOU := Aside0.mk hou
        have HAC : Aside0 (acc ++ [x] = (root.take (kk + 1)).filterMap (mv.down (xs.map ndR) r)) := ⟨by rw [HTK.out, ← HA.out]; unfold Mv.down; rw [ho]; rfl⟩
        clear hou ho hlo
        go_wp2_with (first | (go_at_call 48; refine (HOU.out _ HB1.out).mono ?_; rintro e w2 ⟨rfl, hb⟩; have HB2 := Aside0.mk (below_step HB1.out hb); have HQ2 := Aside0.mk (show RqAt w2 b0 r from blk_below HQ1.out hb); have HX2 := Aside0.mk (show RqAt w2 wr.heap.size x from blk_below HX1.out hb); have HO2 := Aside0.mk (Kd.R_below HO1.out hb); have HLT2 := Aside0.mk (blk_lt HQ2.out); obtain ⟨y0, y1, y2, y3, y4, y5⟩ := HX2.out.cells; obtain ⟨e0, e1, e2, e3, e4, e5⟩ := HQ2.out.cells; clear hb) | ((with_reducible refine gate_builtin (b := .append) (xs := #[.tmp 33, .tmp 35]) rfl ?_); at_builtin; refine Kd.R_append k27 (w0 := w2) (b0 + 1) rfl (.tmp 33) (.tmp 35) 22 27 _ 72 rfl Tryz.underlying22 info27 rfl (by decide) (by decide) (.slice A3 acc.length c3) acc x _ (fun k => b0 < k) (fun _ => False) rfl rfl (k27_mkM _ _ _ x) (fun _ h => h.elim) (fun k hk => by have := HLT2.out; omega) HO2.out (Below.refl _ _) (by have := HLT2.out; omega) (by omega) ?_; intro v9 w9 ho hb hg hat; have HO9 := Aside0.mk ho; have HB9 := Aside0.mk (HB2.out.grown hg HB2.out.size (fun k hk => by have := HO2.out.1 k hk; have := HBL.out; omega)); have HQ9 := Aside0.mk (show RqAt w9 b0 r from blk_grown HQ2.out hg (fun e => by have := HO2.out.1 b0 e.symm; omega)); clear ho hb hg hat))
        go_roundg (root.length - (kk + 1))
        case measure => omega
        case rel => exact ⟨kk + 1, _, by omega, by omega, by go_num, HAC, HB9, HQ9, HO9⟩
      | true =>
        rw [ho] at hou
        have HOU := Aside0.mk hou
        cases hlw : mv.lower (xs.map ndR) r x with
        | none =>
          have HAC : Aside0 (acc = (root.take (kk + 1)).filterMap (mv.down (xs.map ndR) r)) := ⟨by rw [HTK.out, ← HA.out]; unfold Mv.down; rw [ho, if_pos rfl, hlw]; simp⟩
          rw [hlw] at hlo
          simp only [Option.isSome_none] at hlo
          have HLO := Aside0.mk hlo
          clear hou ho hlo hlw
          go_wp2_with (first | (go_at_call 48; refine (HOU.out _ HB1.out).mono ?_; rintro e w2 ⟨rfl, hb⟩; have HB2 := Aside0.mk (below_step HB1.out hb); have HQ2 := Aside0.mk (show RqAt w2 b0 r from blk_below HQ1.out hb); have HX2 := Aside0.mk (show RqAt w2 wr.heap.size x from blk_below HX1.out hb); have HO2 := Aside0.mk (Kd.R_below HO1.out hb); have HLT2 := Aside0.mk (blk_lt HQ2.out); obtain ⟨y0, y1, y2, y3, y4, y5⟩ := HX2.out.cells; obtain ⟨e0, e1, e2, e3, e4, e5⟩ := HQ2.out.cells; clear hb) | (go_at_call 49; refine (HLO.out _ HB2.out).mono ?_; rintro e w3 ⟨rfl, hb⟩; clear y0 y1 y2 y3 y4 y5 e0 e1 e2 e3 e4 e5; have HB3 := Aside0.mk (below_step HB2.out hb); have HQ3 := Aside0.mk (show RqAt w3 b0 r from blk_below HQ2.out hb); have HX3 := Aside0.mk (show RqAt w3 wr.heap.size x from blk_below HX2.out hb); have HO3 := Aside0.mk (Kd.R_below HO2.out hb); have HLT3 := Aside0.mk (blk_lt HQ3.out); obtain ⟨y0, y1, y2, y3, y4, y5⟩ := HX3.out.cells; obtain ⟨e0, e1, e2, e3, e4, e5⟩ := HQ3.out.cells; clear hb))
          go_roundg (root.length - (kk + 1))
          case measure => omega
          case rel => exact ⟨kk + 1, _, by omega, by omega, by go_num, HAC, ⟨below_alloc HB3.out _⟩, ⟨blk_alloc HQ3.out _⟩, ⟨Kd.R_alloc HO3.out _⟩⟩
        | some y =>
          have HAC : Aside0 (acc ++ [y] = (root.take (kk + 1)).filterMap (mv.down (xs.map ndR) r)) := ⟨by rw [HTK.out, ← HA.out]; unfold Mv.down; rw [ho, if_pos rfl, hlw]; rfl⟩
          rw [hlw] at hlo
          simp only [Option.isSome_some, Option.getD_some] at hlo
          have HLO := Aside0.mk hlo
          clear hou ho hlo hlw
          go_wp2_with (first | (go_at_call 48; refine (HOU.out _ HB1.out).mono ?_; rintro e w2 ⟨rfl, hb⟩; have HB2 := Aside0.mk (below_step HB1.out hb); have HQ2 := Aside0.mk (show RqAt w2 b0 r from blk_below HQ1.out hb); have HX2 := Aside0.mk (show RqAt w2 wr.heap.size x from blk_below HX1.out hb); have HO2 := Aside0.mk (Kd.R_below HO1.out hb); have HLT2 := Aside0.mk (blk_lt HQ2.out); obtain ⟨y0, y1, y2, y3, y4, y5⟩ := HX2.out.cells; obtain ⟨e0, e1, e2, e3, e4, e5⟩ := HQ2.out.cells; clear hb) | (go_at_call 49; refine (HLO.out _ HB2.out).mono ?_; rintro e w3 ⟨rfl, hb⟩; clear y0 y1 y2 y3 y4 y5 e0 e1 e2 e3 e4 e5; have HB3 := Aside0.mk (below_step HB2.out hb); have HQ3 := Aside0.mk (show RqAt w3 b0 r from blk_below HQ2.out hb); have HX3 := Aside0.mk (show RqAt w3 wr.heap.size x from blk_below HX2.out hb); have HO3 := Aside0.mk (Kd.R_below HO2.out hb); have HLT3 := Aside0.mk (blk_lt HQ3.out); obtain ⟨y0, y1, y2, y3, y4, y5⟩ := HX3.out.cells; obtain ⟨e0, e1, e2, e3, e4, e5⟩ := HQ3.out.cells; clear hb; have HZ := Aside0.mk (show RqAt (w3.alloc (.cells (rqc z27') 27)) w3.heap.size z27' from heap_alloc_new w3 _)) | ((with_reducible refine gate_ (.store 27 (.tmp 10) (.tmp 42)) rfl ?_); refine wpList_store rfl rfl 27 (.tmp 10) (.tmp 42) rfl (rql y) HZ.out rfl rfl rfl (by kernel_rfl) rfl (fun q hq => by simp only [rql, List.mem_cons, List.not_mem_nil, or_false] at hq; rcases hq with rfl | rfl | rfl | rfl | rfl | rfl <;> rfl) ?_; intro w4 hr4 hg4; have HY4 := Aside0.mk (show RqAt w4 w3.heap.size y from hr4); have HB4 := Aside0.mk ((below_alloc HB3.out (.cells (rqc z27') 27)).grown hg4 (below_alloc HB3.out (.cells (rqc z27') 27)).size (fun k hk => by cases hk; exact HB3.out.size)); have HQ4 := Aside0.mk (show RqAt w4 b0 r from blk_grown (blk_alloc HQ3.out (.cells (rqc z27') 27)) hg4 (fun e => by injection e with e; have := HLT3.out; omega)); have HO4 := Aside0.mk (Kd.R_grown (Kd.R_alloc (Kd.R_mono (Kd.R_bound HO3.out) (fun k hk => ⟨hk.1, by have := hk.2.2.1; omega⟩) : Kd.R k27 27 w3 (b0 + 1) (fun k => b0 < k ∧ k ≠ w3.heap.size) (.slice A3 acc.length c3) acc) (.cells (rqc z27') 27)) hg4 (fun k hk e => by injection e with e; omega)); have HLT4 := Aside0.mk (blk_lt HQ4.out); obtain ⟨g0, g1, g2, g3, g4, g5⟩ := HY4.out.cells; clear hr4 hg4 y0 y1 y2 y3 y4 y5 e0 e1 e2 e3 e4 e5) | ((with_reducible refine gate_builtin (b := .append) (xs := #[.tmp 45, .tmp 47]) rfl ?_); at_builtin; refine Kd.R_append k27 (w0 := w4) (b0 + 1) rfl (.tmp 45) (.tmp 47) 22 27 _ 72 rfl Tryz.underlying22 info27 rfl (by decide) (by decide) (.slice A3 acc.length c3) acc y _ (fun k => b0 < k ∧ k ≠ w3.heap.size) (fun _ => False) rfl rfl (k27_mkM _ _ _ y) (fun _ h => h.elim) (fun k hk => ⟨by have := HLT4.out; omega, by have := blk_lt HY4.out; omega⟩) HO4.out (Below.refl _ _) (by have := HLT4.out; omega) (by omega) ?_; intro v9 w9 ho hb hg hat; have HO9 := Aside0.mk (Kd.R_mono ho (fun k hk => hk.1)); have HB9 := Aside0.mk (HB4.out.grown hg HB4.out.size (fun k hk => by have := HO4.out.1 k hk; have := HBL.out; omega)); have HQ9 := Aside0.mk (show RqAt w9 b0 r from blk_grown HQ4.out hg (fun e => by have := HO4.out.1 b0 e.symm; omega)); clear ho hb hg hat))
          go_roundg (root.length - (kk + 1))
          case measure => omega
          case rel => exact ⟨kk + 1, _, by omega, by omega, by go_num, HAC, HB9, HQ9, HO9⟩
    · have hltz : ¬ (kk : Int) < (root.length : Int) := by omega
      have HAE : Aside0 (root.filterMap (mv.down (xs.map ndR) r) = acc) := ⟨by rw [HA.out, List.take_of_length_le (by omega)]⟩
      clear HA
      go_wp2
      go_ret
      rw [HD.out, HAE.out]
      exact back_of HO.out HB.out (by have := HBL.out; omega)
end Go.Proofs.YtkidfclnakbgiaaGreatDoor
end

section
namespace Go.Proofs.YtkidfclnakbgiaaGreatDoor
open Go Go.RowKit Go.Sort Go.Maps Go.Proofs Go.Proofs.YtkidfclnakbgiaaGreatDoorW.PrintWords Go.Proofs.YtkidfclnakbgiaaGreatDoorW.PrintLast Go.Proofs.YtkidfclnakbgiaaGreatDoor.K0
set_option linter.unusedVariables false
set_option linter.unusedSimpArgs false
set_option maxRecDepth 100000 in
set_option maxHeartbeats 4000000 in
theorem refdown_no (A : Option Addr) (c : Nat) (root : List Rq) (An : Option Addr) (cn : Nat) (xs : List NdR) (r : Rq) (w : World) (hr : Kd.C k27 w A root.length root) (hlr : root.length ≤ 10000) (hm : mv.may r = false) :
    Calls Tryz.prog 22 #[.slice A root.length c, .slice An xs.length cn, .agg (rqc r)] w fun e w' => RqBack w w' e (mv.downgrade root (xs.map ndR) r) := by
  have hmr := fun W => refmay_calls r W
  have HB0 := Aside0.mk (below_alloc (Below.refl w.heap.size w) (.cells (rqc r) 27))
  have HX0 := Aside0.mk (show RqAt (w.alloc (.cells (rqc r) 27)) w.heap.size r from heap_alloc_new w _)
  have HRT := Aside0.mk hr
  have HD : Aside0 (mv.downgrade root (xs.map ndR) r = root) := ⟨by unfold Mv.downgrade; rw [if_neg (by rw [hm]; simp)]⟩
  rw [hm] at hmr
  have HMR := Aside0.mk hmr
  clear hr hm hmr
  obtain ⟨h0, h1, h2, h3, h4, h5⟩ := HX0.out.cells
  go_enter Tryz.func22, Tryz.ntmps22
  go_wp2_with (first
    | (go_at_call 25; refine (HMR.out _).mono ?_; rintro e w1 ⟨rfl, hb⟩; have HB1 := Aside0.mk (below_step HB0.out hb); have HX1 := Aside0.mk (show RqAt w1 w.heap.size r from blk_below HX0.out hb); clear hb h0 h1 h2 h3 h4 h5)
    | ((with_reducible refine gate_builtin (b := .append) (xs := #[.tmp 15, .tmp 16]) rfl ?_); at_builtin; refine Kd.R_append_rows k27 (w0 := w1) (w.heap.size + 1) rfl (.tmp 15) (.tmp 16) 22 27 _ 72 rfl Tryz.underlying22 info27 rfl (by decide) (by decide) (.slice none 0 0) [] root _ _ _ (fun k => w.heap.size < k) (fun _ => False) rfl rfl (Kd.R_nil _ _ _ _ _) (Kd.C_below HRT.out HB1.out) (fun _ _ h => h) (fun _ h => h.elim) (fun k hk => by have := blk_lt HX1.out; omega) (Below.refl _ _) (by have := blk_lt HX1.out; omega) (by rw [List.length_nil]; omega) ?_; intro v2 w2 ho hb hg hat; rw [List.nil_append] at ho; have HR2 := Aside0.mk ho; have HB2 := Aside0.mk (HB1.out.grown hg HB1.out.size (fun k hk => by cases hk)); clear ho hb hg hat))
  go_ret
  obtain ⟨A2, c2, rfl⟩ := Kd.R_slice HR2.out
  rw [HD.out]
  exact back_of HR2.out HB2.out (Nat.le_succ _)
def armadaref17_Upgrade.f (l0 : List Rq) (a0 : ByteArray) (a1 a2 a3 : Int) (a4 a5 : ByteArray) : Option (List Rq) := if l0.length ≤ 100000 then some (mv.upgrade l0 ⟨a0, ⟨a1, a2, a3, a4, a5⟩⟩) else none
theorem armadaref17_Upgrade.calls (A0 : Option Addr) (c0 : Nat) (l0 : List Rq) (a0 : ByteArray) (a1 a2 a3 : Int) (a4 a5 : ByteArray) (r : List Rq) (w : World) (hr0 : Kd.C k27 w A0 l0.length l0) (hc0 : l0.length ≤ c0) (h : armadaref17_Upgrade.f l0 a0 a1 a2 a3 a4 a5 = some r) :
    Calls Tryz.prog 20 #[.slice A0 l0.length c0, .agg #[.string a0, .int .i64 a1, .int .i64 a2, .int .i64 a3, .string a4, .string a5]] w fun e w' => ∃ v0_ : Value, e = .returned (v0_) ∧ Kd.R k27 27 w' w.heap.size (fun _ => True) v0_ r ∧ Below w.heap.size w w' := by
  unfold armadaref17_Upgrade.f at h
  split at h
  · rename_i hs
    obtain rfl := Option.some.inj h
    refine (refup_calls A0 c0 l0 ⟨a0, ⟨a1, a2, a3, a4, a5⟩⟩ w hr0 hc0 hs).mono fun e w' h => ?_
    obtain ⟨v, he, hR⟩ := h.own
    exact ⟨v, he, hR, h.below⟩
  · cases h
def armadaref17_Downgrade.f (l0 : List Rq) (l1 : List NdR) (a0 : ByteArray) (a1 a2 a3 : Int) (a4 a5 : ByteArray) : Option (List Rq) :=
  if ((l1.map ndR).flatMap (·.2)).length + 1 ≤ 10000 ∧ l1.length ≤ 10000 ∧ l0.length ≤ 10000 then some (mv.downgrade l0 (l1.map ndR) ⟨a0, ⟨a1, a2, a3, a4, a5⟩⟩) else none
theorem armadaref17_Downgrade.calls (A0 : Option Addr) (c0 : Nat) (l0 : List Rq) (A1 : Option Addr) (c1 : Nat) (l1 : List NdR) (a0 : ByteArray) (a1 a2 a3 : Int) (a4 a5 : ByteArray) (r : List Rq) (w : World) (hr0 : Kd.C k27 w A0 l0.length l0) (hc0 : l0.length ≤ c0) (hr1 : Kd.C k46 w A1 l1.length l1) (hc1 : l1.length ≤ c1) (h : armadaref17_Downgrade.f l0 l1 a0 a1 a2 a3 a4 a5 = some r) :
    Calls Tryz.prog 22 #[.slice A0 l0.length c0, .slice A1 l1.length c1, .agg #[.string a0, .int .i64 a1, .int .i64 a2, .int .i64 a3, .string a4, .string a5]] w fun e w' => ∃ v0_ : Value, e = .returned (v0_) ∧ Kd.R k27 27 w' w.heap.size (fun _ => True) v0_ r ∧ Below w.heap.size w w' := by
  unfold armadaref17_Downgrade.f at h
  split at h
  · rename_i hs
    obtain rfl := Option.some.inj h
    obtain ⟨h1, h2, h3⟩ := hs
    have hd : Calls Tryz.prog 22 #[.slice A0 l0.length c0, .slice A1 l1.length c1, .agg (rqc ⟨a0, ⟨a1, a2, a3, a4, a5⟩⟩)] w fun e w' => RqBack w w' e (mv.downgrade l0 (l1.map ndR) ⟨a0, ⟨a1, a2, a3, a4, a5⟩⟩) := by
      cases hm : mv.may ⟨a0, ⟨a1, a2, a3, a4, a5⟩⟩ with
      | false => exact refdown_no A0 c0 l0 A1 c1 l1 _ w hr0 h3 hm
      | true => exact refdown_calls A0 c0 l0 A1 c1 l1 _ w hr0 hc0 hr1 hc1 h1 h2 h3 hm
    refine hd.mono fun e w' h => ?_
    obtain ⟨v, he, hR⟩ := h.own
    exact ⟨v, he, hR, h.below⟩
  · cases h
end Go.Proofs.YtkidfclnakbgiaaGreatDoor
end
