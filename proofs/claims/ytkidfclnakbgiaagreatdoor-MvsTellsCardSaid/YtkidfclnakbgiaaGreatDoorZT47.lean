/- The texts TlOut in one file, without what these claims do not use (put together by prune2.py). -/
import Derived.Test.YtkidfclnakbgiaaGreatDoorZT46
import Derived.Test.YtkidfclnakbgiaaGreatDoorZT28
section
namespace Go.Proofs.YtkidfclnakbgiaaGreatDoor
open Go Go.RowKit Go.Sort Go.Maps Go.Proofs Go.Proofs.YtkidfclnakbgiaaGreatDoorW.PrintWords Go.Proofs.YtkidfclnakbgiaaGreatDoorW.PrintLast Go.Proofs.YtkidfclnakbgiaaGreatDoor.K0 Go.Proofs.YtkidfclnakbgiaaGreatDoor.RD Go.Proofs.YtkidfclnakbgiaaGreatDoor.RS Go.Proofs.YtkidfclnakbgiaaGreatDoor.RT
set_option linter.unusedVariables false
set_option linter.unusedSimpArgs false
theorem refmay_calls (r : Rq) (w : World) : Calls Tryz.prog 25 #[.agg (rqc r)] w fun e w' => e = .returned (.bool (mv.may r)) ∧ Below w.heap.size w w' := by
  obtain ⟨k, hk⟩ := (May_f r).rounds
  exact armadaref17_May.calls k _ _ _ _ _ _ _ w hk
theorem reflist_calls (A : Option Addr) (c : Nat) (root : List Rq) (An : Option Addr) (cn : Nat) (xs : List NdR) (w : World) (hr : Kd.C k27 w A root.length root) (hc : root.length ≤ c) (hn : Kd.C k46 w An xs.length xs) (hcn : xs.length ≤ cn) (hl : xs.length ≤ 10000) (hU : root.length + ((xs.map ndR).flatMap (·.2)).length ≤ 10000) :
    Calls Tryz.prog 18 #[.slice A root.length c, .slice An xs.length cn] w fun e w' => RqBack w w' e (mv.list root (xs.map ndR)) := by
  obtain ⟨k, hk⟩ := (reflist_f root xs hl hU).rounds
  exact (armadaref17_List.calls k A c root An cn xs _ w hr hc hn hcn hk).mono fun e w' h => by
    obtain ⟨v, he, hR, hb⟩ := h
    exact ⟨⟨v, he, hR⟩, hb⟩
def rout.T1 : Bool × List (List Nat × List Nat) := (true, [([], []), ([0], [0]), ([], []), ([1, 2], [1, 2]), ([], []), ([4], [4]), ([3, 5, 3], [3, 5]), ([6], [6]), ([7], [7]), ([7], [7]), ([], []), ([10, 8, 6, 0, 1, 2, 3, 4, 5, 6, 7, 8, 10], [8, 10]), ([9, 11, 0, 1, 2, 3, 4, 5, 6, 7, 8, 9, 10, 11], [9])])
def rout.B1 : List Nat := [0, 1, 0, 7, 0, 16, 63, 127, 255, 255, 0, 1535, 4095]
theorem rout.tab1 : rtab .any (opsOf Tryz.f48 1) = rout.T1 := by kernel_rfl
theorem rout.bits1 : waitsOk rout.T1.2 rout.B1 = true := by kernel_rfl
theorem twX {P : Program} {ops : Array Oper} {Q : Exit → Act → World → Prop} {S : World → Prop} {T : Bool × List (List Nat × List Nat)} {ds : List Nat} {n m fuel : Nat} {a : Act} {w : World} (HT : Aside0 (rtab .any ops = T)) (i j mi mj : Nat) (Ni Nj : Option Tmp) {oi oj : Oper}
    (h1 : ∀ K : Act → World → Prop, Shut (∀ a' w', S w' → (S w' → wpAnyLast P .any ops Q S ds fuel (bitsA n mi) a' w') → K a' w') → if Region.wanted oi (yielded ops a.tmps) = true then Oper.wp P oi a w K Q else K (a.put Ni undef) w)
    (h2 : ∀ K : Act → World → Prop, Shut (∀ a' w', S w' → (S w' → wpAnyLast P .any ops Q S ds fuel (bitsA n mj) a' w') → K a' w') → if Region.wanted oj (yielded ops a.tmps) = true then Oper.wp P oj a w K Q else K (a.put Nj undef) w)
    (hi : ops[i]? = some oi := by rfl) (hj : ops[j]? = some oj := by rfl) (hNi : oi.dst = Ni := by rfl) (hNj : oj.dst = Nj := by rfl)
    (hc : (readyT T.2 (bitsA n m).toList == [i, j] && (bitsA n m).toList.set i true == (bitsA n mi).toList && (bitsA n m).toList.set j true == (bitsA n mj).toList) = true := by kernel_rfl) (hdi : i ∉ ds := by decide) (hdj : j ∉ ds := by decide) : wpAnyLast P .any ops Q S ds (fuel + 1) (bitsA n m) a w :=
  two_ (bitsA n mi) (bitsA n mj) hi hj hNi hNj (two_of HT.out hc) hdi hdj h1 h2
theorem store_K {P : Program} {ops : Array Oper} {o : Oper} {a : Act} {K : Act → World → Prop} {Q : Exit → Act → World → Prop} {W : World} (hw : Region.wanted o (yielded ops a.tmps) = true) (hN : o.dst = none) (t : TypeId) (p x : Operand) (ho : o.op = .store t p x) {g : Nat} {e : TypeId} {cur : Array Value} (seg : List Value) {u : Value}
    (hh : W.heap[g]? = some (.cells cur e (0, 0))) (haddr : a.eval p = .pointer (some ⟨g, 0, none⟩)) (hx : a.eval x = u) (hu : u.cells.toList = seg) (ht : (P.info? t).map (·.size) = some seg.length) (hfit : seg.length = cur.size) (h1 : ∀ q ∈ seg, q.oneCell' = true)
    (h : ∀ w1, w1.heap[g]? = some (.cells seg.toArray e (0, 0)) → W.grownBy w1 (some g) → K (a.put none undef) w1) : if Region.wanted o (yielded ops a.tmps) = true then Oper.wp P o a W K Q else K (a.put none undef) W := by
  rw [if_pos hw]
  have hrun := run_store_run (P := P) (w := W) (o := 0) t u seg hh hu ht (by omega) h1
  obtain ⟨cur', h2, h3, h4⟩ := setCells_row seg 0 W cur hh (by omega)
  have hc : cur' = seg.toArray := by
    apply Array.ext'
    rw [h4, Nat.zero_add, List.take_zero, List.nil_append, List.drop_of_length_le (by rw [Array.length_toList]; omega), List.append_nil]
  rw [hc] at h2
  obtain ⟨s1, s2, s3, s4⟩ := setCells_same g seg 0 W
  have hg : W.grownBy (W.setCells g 0 seg) (some g) := ⟨s1, s2, s3, by rw [s4]; exact Nat.le_refl _, fun i _ hi => setCells_far seg 0 i (fun e => hi (by rw [e]))⟩
  unfold Oper.wp execOp
  simp only [ho, haddr, hx, Sem.run_bind, Sem.run_pure, Result.andThen_ok, hrun]
  show K (a.put o.dst undef) _
  rw [hN]
  exact h _ h2 hg
/-- The variables of the document's Out. -/
structure OtIs (w : World) (x r : Rq) (W : World) : Prop where
  base : Below w.heap.size w W
  x : RqAt W w.heap.size x
  r : RqAt W (w.heap.size + 1) r
theorem OtIs.step {w W W' : World} {x r : Rq} (h : OtIs w x r W) (hb : Below W.heap.size W W') : OtIs w x r W' := ⟨below_step h.base hb, blk_below h.x hb, blk_below h.r hb⟩
theorem OtIs.put {w W W' : World} {x r : Rq} {g : Nat} (h : OtIs w x r W) (hl : w.heap.size + 1 < g) (hg : W.grownBy W' (some g)) : OtIs w x r W' :=
  ⟨h.base.grown hg h.base.size (fun k hk => by cases hk; omega), blk_grown h.x hg (fun e => by injection e with e; omega), blk_grown h.r hg (fun e => by injection e with e; omega)⟩
set_option maxRecDepth 100000 in
set_option maxHeartbeats 4000000 in
theorem refout_calls (An : Option Addr) (cn : Nat) (xs : List NdR) (r x : Rq) (w : World) (hn : Kd.C k46 w An xs.length xs) (hcn : xs.length ≤ cn) (hl : xs.length ≤ 10000) (hU : 1 + ((xs.map ndR).flatMap (·.2)).length ≤ 10000) :
    Calls Tryz.prog 48 #[.agg (rqc x), .slice An xs.length cn, .agg (rqc r)] w fun e w' => e = .returned (.bool (mv.out (xs.map ndR) r x)) ∧ Below w.heap.size w w' := by
  have HN := Aside0.mk hn
  have HLL : Aside0 ((mv.list [x] (xs.map ndR)).length ≤ 1000000) := ⟨by have := list_len [x] (xs.map ndR); simp only [List.length_singleton] at this; omega⟩
  have hany := best_any (L := mv.list [x] (xs.map ndR)) (fun y h => mv.reach_may (Mv.list_is mv_good h).1) (Mv.list_rising mv_good _ _) r
  have HOT : Aside0 (mv.out (xs.map ndR) r x = match mv.best (mv.list [x] (xs.map ndR)) (mv.path r) with | some y => decide (mv.cmp y r > 0) | none => false) := ⟨hany.symm⟩
  have hof := fun A c W hC hc => refof_calls A c (mv.list [x] (xs.map ndR)) r.f0 W hC hc HLL.out
  obtain ⟨ob, hob⟩ : ∃ ob, ob = mv.best (mv.list [x] (xs.map ndR)) (mv.path r) := ⟨_, rfl⟩
  obtain ⟨bb, hbb⟩ : ∃ bb, bb = ob.getD z27' := ⟨_, rfl⟩
  rw [← hob] at HOT
  rw [show r.f0.data.toList = mv.path r from rfl, ← hob, ← hbb] at hof
  have HOF := Aside0.mk hof
  have HBB := Aside0.mk hbb
  clear hof hob hbb
  have HCM := Aside0.mk (fun y W => refcmp_calls y r W)
  have h1 := heap_alloc_new (w.alloc (.cells (rqc x) 27)) (.cells (rqc r) 27)
  rw [show (w.alloc (.cells (rqc x) 27)).heap.size = w.heap.size + 1 by simp] at h1
  have HO0 := Aside0.mk (OtIs.mk (w := w) (x := x) (r := r) (below_alloc (below_alloc (Below.refl _ _) (.cells (rqc x) 27)) (.cells (rqc r) 27)) (blk_alloc (heap_alloc_new w (.cells (rqc x) 27)) _) h1)
  clear hn h1 hany
  go_enter Tryz.func48, Tryz.ntmps48
  go_wp2
  refine sX (ds := []) (S := fun w' => RqC w' w.heap.size x ∧ RqC w' (w.heap.size + 1) r) rout.tab1 rout.bits1 ⟨RqAt.cells (blk_drew HO0.out.x), RqAt.cells (blk_drew HO0.out.r)⟩ (fun HT_ HW_ hHeld => ?_)
  have HO1 := Aside0.mk (HO0.out.step (below_drew1 (Below.refl _ _)))
  generalize World.drew _ = w1 at HO1 hHeld ⊢
  refine pX HT_ 2 4 12 ?_
  refine pX HT_ 4 20 14 ?_
  refine tX HT_ HW_ hHeld 0 21 10 ?_
  refine tX HT_ HW_ hHeld 5 53 15 ?_
  refine twX HT_ 1 10 55 1077 (some 11) (some 7) (fun K hK => ?_) (fun K hK => ?_)
  ·
    refine value_ (by kernel_rfl) rfl (by go_simp; exact ⟨rfl, rfl⟩) ?_
    have hb : Below w1.heap.size w1 (w1.alloc (.cells (rqc x) 27)) := below_alloc (Below.refl _ _) _
    have HO2 := Aside0.mk (HO1.out.step hb); have HS2 := Aside0.mk (show RqAt (w1.alloc (.cells (rqc x) 27)) (w1.heap.size) x from (heap_alloc_new w1 (.cells (rqc x) 27))); clear hb
    refine hK.out _ _ ⟨HO2.out.x.cells, HO2.out.r.cells⟩ (fun hHeld => ?_); clear hK K; refine norm_ nX ?_
    refine twX HT_ 3 10 63 1079 (some 13) (some 7) (fun K hK => ?_) (fun K hK => ?_)
    ·
      refine goes_ Tryz.func18 (by kernel_rfl) rfl #[.slice (some ⟨w1.heap.size, 0, none⟩) 1 1, .slice An xs.length cn] (by kernel_rfl) rfl rfl (by (try simp only [List.map_toArray, List.map_cons, List.map_nil]); first | done | rfl) ((reflist_calls (some ⟨w1.heap.size, 0, none⟩) 1 [x] An cn xs _ (one_reads HS2.out) (Nat.le_refl 1) (Kd.C_below HN.out HO2.out.base) hcn hl hU).mono ?_)
      rintro e w3 hbk; obtain ⟨A3, c3, rfl, hc3, hC3⟩ := hbk.out; have hb := hbk.below; clear hbk
      have HO3 := Aside0.mk (HO2.out.step hb); have HC3 := Aside0.mk hC3; have HCL3 := Aside0.mk hc3; clear hb hC3 hc3
      refine ⟨_, rfl, ?_⟩
      refine hK.out _ _ ⟨HO3.out.x.cells, HO3.out.r.cells⟩ (fun hHeld => ?_); clear hK K; refine norm_ nX ?_
      refine twX HT_ 6 10 127 1087 (some 16) (some 7) (fun K hK => ?_) (fun K hK => ?_)
      ·
        refine goes_ Tryz.func39 (by kernel_rfl) rfl #[.slice A3 (mv.list [x] (xs.map ndR)).length c3, .string r.f0] (by kernel_rfl) rfl rfl (by (try simp only [List.map_toArray, List.map_cons, List.map_nil]); first | done | rfl) ((HOF.out A3 c3 _ HC3.out HCL3.out).mono ?_)
        rintro e w4 ⟨rfl, hb⟩
        have HO4 := Aside0.mk (HO3.out.step hb); clear hb
        refine ⟨_, rfl, ?_⟩
        refine hK.out _ _ ⟨HO4.out.x.cells, HO4.out.r.cells⟩ (fun hHeld => ?_); clear hK K; refine norm_ nX ?_
        refine pX HT_ 7 255 9 ?_
        refine pX HT_ 8 511 17 ?_
        refine pX HT_ 9 1023 18 ?_
        refine oX HT_ 10 2047 (some 7) (fun K hK => ?_)
        refine value_ (by kernel_rfl) rfl (by go_simp; exact ⟨rfl, rfl⟩) ?_
        have hb : Below w4.heap.size w4 (w4.alloc (.cells (rqc z27') 27)) := below_alloc (Below.refl _ _) _
        have HO5 := Aside0.mk (HO4.out.step hb); have HY5 := Aside0.mk (show RqAt (w4.alloc (.cells (rqc z27') 27)) (w4.heap.size) z27' from (heap_alloc_new w4 (.cells (rqc z27') 27))); have HYB5 := Aside0.mk (show w.heap.size + 1 < w4.heap.size from by have h9 := blk_lt HO4.out.r; (try simp at h9); omega); clear hb
        refine hK.out _ _ ⟨HO5.out.x.cells, HO5.out.r.cells⟩ (fun hHeld => ?_); clear hK K; refine norm_ nX ?_
        have hy := HYB5.out
        refine oX HT_ 11 4095 none (fun K hK => ?_)
        refine store_K (by kernel_rfl) rfl 27 (.tmp 7) (.tmp 17) rfl (rql bb) HY5.out rfl rfl rfl (by kernel_rfl) rfl (fun q hq => by simp only [rql, List.mem_cons, List.not_mem_nil, or_false] at hq; rcases hq with rfl | rfl | rfl | rfl | rfl | rfl <;> rfl) ?_
        intro w6 hr hg; have HO6 := Aside0.mk (HO5.out.put hy hg); have HY6 := Aside0.mk (show RqAt w6 (w4.heap.size) bb from hr); clear hr hg
        refine hK.out _ _ ⟨HO6.out.x.cells, HO6.out.r.cells⟩ (fun hHeld => ?_); clear hK K; refine norm_ nX ?_
        refine pX HT_ 12 8191 8 ?_
        refine eX HT_ ?_
        clear HT_ HW_ hHeld hy
        obtain ⟨r0, r1, r2, r3, r4, r5⟩ := HO6.out.r.cells; obtain ⟨y0, y1, y2, y3, y4, y5⟩ := HY6.out.cells
        cases ob with
        | none =>
          simp only [Option.isSome_none]
          go_wp2
          go_ret
          exact ⟨by rw [HOT.out]; rfl, HO6.out.base⟩
        | some y =>
          simp only [Option.isSome_some]
          go_wp2_with (go_at_call 26; refine (HCM.out bb _).mono ?_; rintro e w9 ⟨rfl, hb⟩; have HB9 := Aside0.mk (below_step HO6.out.base hb); clear hb)
          go_ret
          exact ⟨by rw [HOT.out, HBB.out]; rfl, HB9.out⟩
      ·
        refine value_ (by kernel_rfl) rfl (by go_simp; exact ⟨rfl, rfl⟩) ?_
        have hb : Below w3.heap.size w3 (w3.alloc (.cells (rqc z27') 27)) := below_alloc (Below.refl _ _) _
        have HO7 := Aside0.mk (HO3.out.step hb); have HC7 := Aside0.mk (Kd.C_below HC3.out hb); have HY7 := Aside0.mk (show RqAt (w3.alloc (.cells (rqc z27') 27)) (w3.heap.size) z27' from (heap_alloc_new w3 (.cells (rqc z27') 27))); have HYB7 := Aside0.mk (show w.heap.size + 1 < w3.heap.size from by have h9 := blk_lt HO3.out.r; (try simp at h9); omega); clear hb
        refine hK.out _ _ ⟨HO7.out.x.cells, HO7.out.r.cells⟩ (fun hHeld => ?_); clear hK K; refine norm_ nX ?_
        refine oX HT_ 6 1151 (some 16) (fun K hK => ?_)
        refine goes_ Tryz.func39 (by kernel_rfl) rfl #[.slice A3 (mv.list [x] (xs.map ndR)).length c3, .string r.f0] (by kernel_rfl) rfl rfl (by (try simp only [List.map_toArray, List.map_cons, List.map_nil]); first | done | rfl) ((HOF.out A3 c3 _ HC7.out HCL3.out).mono ?_)
        rintro e w8 ⟨rfl, hb⟩
        have HO8 := Aside0.mk (HO7.out.step hb); have HY8 := Aside0.mk (show RqAt _ (w3.heap.size) z27' from blk_below HY7.out hb); clear hb
        refine ⟨_, rfl, ?_⟩
        refine hK.out _ _ ⟨HO8.out.x.cells, HO8.out.r.cells⟩ (fun hHeld => ?_); clear hK K; refine norm_ nX ?_
        refine pX HT_ 7 1279 9 ?_
        refine pX HT_ 8 1535 17 ?_
        refine pX HT_ 9 2047 18 ?_
        have hy := HYB7.out
        refine oX HT_ 11 4095 none (fun K hK => ?_)
        refine store_K (by kernel_rfl) rfl 27 (.tmp 7) (.tmp 17) rfl (rql bb) HY8.out rfl rfl rfl (by kernel_rfl) rfl (fun q hq => by simp only [rql, List.mem_cons, List.not_mem_nil, or_false] at hq; rcases hq with rfl | rfl | rfl | rfl | rfl | rfl <;> rfl) ?_
        intro w9 hr hg; have HO9 := Aside0.mk (HO8.out.put hy hg); have HY9 := Aside0.mk (show RqAt w9 (w3.heap.size) bb from hr); clear hr hg
        refine hK.out _ _ ⟨HO9.out.x.cells, HO9.out.r.cells⟩ (fun hHeld => ?_); clear hK K; refine norm_ nX ?_
        refine pX HT_ 12 8191 8 ?_
        refine eX HT_ ?_
        clear HT_ HW_ hHeld hy
        obtain ⟨r0, r1, r2, r3, r4, r5⟩ := HO9.out.r.cells; obtain ⟨y0, y1, y2, y3, y4, y5⟩ := HY9.out.cells
        cases ob with
        | none =>
          simp only [Option.isSome_none]
          go_wp2
          go_ret
          exact ⟨by rw [HOT.out]; rfl, HO9.out.base⟩
        | some y =>
          simp only [Option.isSome_some]
          go_wp2_with (go_at_call 26; refine (HCM.out bb _).mono ?_; rintro e w9 ⟨rfl, hb⟩; have HB9 := Aside0.mk (below_step HO9.out.base hb); clear hb)
          go_ret
          exact ⟨by rw [HOT.out, HBB.out]; rfl, HB9.out⟩
    ·
      refine value_ (by kernel_rfl) rfl (by go_simp; exact ⟨rfl, rfl⟩) ?_
      have hb : Below (w1.alloc (.cells (rqc x) 27)).heap.size (w1.alloc (.cells (rqc x) 27)) ((w1.alloc (.cells (rqc x) 27)).alloc (.cells (rqc z27') 27)) := below_alloc (Below.refl _ _) _
      have HO10 := Aside0.mk (HO2.out.step hb); have HS10 := Aside0.mk (show RqAt _ (w1.heap.size) x from blk_below HS2.out hb); have HY10 := Aside0.mk (show RqAt ((w1.alloc (.cells (rqc x) 27)).alloc (.cells (rqc z27') 27)) (w1.heap.size + 1) z27' from (by have h9 := heap_alloc_new (w1.alloc (.cells (rqc x) 27)) (.cells (rqc z27') 27); rwa [show (w1.alloc (.cells (rqc x) 27)).heap.size = w1.heap.size + 1 by simp] at h9)); have HYB10 := Aside0.mk (show w.heap.size + 1 < w1.heap.size + 1 from by have h9 := blk_lt HO2.out.r; (try simp at h9); omega); clear hb
      refine hK.out _ _ ⟨HO10.out.x.cells, HO10.out.r.cells⟩ (fun hHeld => ?_); clear hK K; refine norm_ nX ?_
      refine oX HT_ 3 1087 (some 13) (fun K hK => ?_)
      refine goes_ Tryz.func18 (by kernel_rfl) rfl #[.slice (some ⟨w1.heap.size, 0, none⟩) 1 1, .slice An xs.length cn] (by kernel_rfl) rfl rfl (by (try simp only [List.map_toArray, List.map_cons, List.map_nil]); first | done | rfl) ((reflist_calls (some ⟨w1.heap.size, 0, none⟩) 1 [x] An cn xs _ (one_reads HS10.out) (Nat.le_refl 1) (Kd.C_below HN.out HO10.out.base) hcn hl hU).mono ?_)
      rintro e w11 hbk; obtain ⟨A11, c11, rfl, hc11, hC11⟩ := hbk.out; have hb := hbk.below; clear hbk
      have HO11 := Aside0.mk (HO10.out.step hb); have HY11 := Aside0.mk (show RqAt _ (w1.heap.size + 1) z27' from blk_below HY10.out hb); have HC11 := Aside0.mk hC11; have HCL11 := Aside0.mk hc11; clear hb hC11 hc11
      refine ⟨_, rfl, ?_⟩
      refine hK.out _ _ ⟨HO11.out.x.cells, HO11.out.r.cells⟩ (fun hHeld => ?_); clear hK K; refine norm_ nX ?_
      refine oX HT_ 6 1151 (some 16) (fun K hK => ?_)
      refine goes_ Tryz.func39 (by kernel_rfl) rfl #[.slice A11 (mv.list [x] (xs.map ndR)).length c11, .string r.f0] (by kernel_rfl) rfl rfl (by (try simp only [List.map_toArray, List.map_cons, List.map_nil]); first | done | rfl) ((HOF.out A11 c11 _ HC11.out HCL11.out).mono ?_)
      rintro e w12 ⟨rfl, hb⟩
      have HO12 := Aside0.mk (HO11.out.step hb); have HY12 := Aside0.mk (show RqAt _ (w1.heap.size + 1) z27' from blk_below HY11.out hb); clear hb
      refine ⟨_, rfl, ?_⟩
      refine hK.out _ _ ⟨HO12.out.x.cells, HO12.out.r.cells⟩ (fun hHeld => ?_); clear hK K; refine norm_ nX ?_
      refine pX HT_ 7 1279 9 ?_
      refine pX HT_ 8 1535 17 ?_
      refine pX HT_ 9 2047 18 ?_
      have hy := HYB10.out
      refine oX HT_ 11 4095 none (fun K hK => ?_)
      refine store_K (by kernel_rfl) rfl 27 (.tmp 7) (.tmp 17) rfl (rql bb) HY12.out rfl rfl rfl (by kernel_rfl) rfl (fun q hq => by simp only [rql, List.mem_cons, List.not_mem_nil, or_false] at hq; rcases hq with rfl | rfl | rfl | rfl | rfl | rfl <;> rfl) ?_
      intro w13 hr hg; have HO13 := Aside0.mk (HO12.out.put hy hg); have HY13 := Aside0.mk (show RqAt w13 (w1.heap.size + 1) bb from hr); clear hr hg
      refine hK.out _ _ ⟨HO13.out.x.cells, HO13.out.r.cells⟩ (fun hHeld => ?_); clear hK K; refine norm_ nX ?_
      refine pX HT_ 12 8191 8 ?_
      refine eX HT_ ?_
      clear HT_ HW_ hHeld hy
      obtain ⟨r0, r1, r2, r3, r4, r5⟩ := HO13.out.r.cells; obtain ⟨y0, y1, y2, y3, y4, y5⟩ := HY13.out.cells
      cases ob with
      | none =>
        simp only [Option.isSome_none]
        go_wp2
        go_ret
        exact ⟨by rw [HOT.out]; rfl, HO13.out.base⟩
      | some y =>
        simp only [Option.isSome_some]
        go_wp2_with (go_at_call 26; refine (HCM.out bb _).mono ?_; rintro e w9 ⟨rfl, hb⟩; have HB9 := Aside0.mk (below_step HO13.out.base hb); clear hb)
        go_ret
        exact ⟨by rw [HOT.out, HBB.out]; rfl, HB9.out⟩
  ·
    refine value_ (by kernel_rfl) rfl (by go_simp; exact ⟨rfl, rfl⟩) ?_
    have hb : Below w1.heap.size w1 (w1.alloc (.cells (rqc z27') 27)) := below_alloc (Below.refl _ _) _
    have HO14 := Aside0.mk (HO1.out.step hb); have HY14 := Aside0.mk (show RqAt (w1.alloc (.cells (rqc z27') 27)) (w1.heap.size) z27' from (heap_alloc_new w1 (.cells (rqc z27') 27))); have HYB14 := Aside0.mk (show w.heap.size + 1 < w1.heap.size from by have h9 := blk_lt HO1.out.r; (try simp at h9); omega); clear hb
    refine hK.out _ _ ⟨HO14.out.x.cells, HO14.out.r.cells⟩ (fun hHeld => ?_); clear hK K; refine norm_ nX ?_
    refine oX HT_ 1 1079 (some 11) (fun K hK => ?_)
    refine value_ (by kernel_rfl) rfl (by go_simp; exact ⟨rfl, rfl⟩) ?_
    have hb : Below (w1.alloc (.cells (rqc z27') 27)).heap.size (w1.alloc (.cells (rqc z27') 27)) ((w1.alloc (.cells (rqc z27') 27)).alloc (.cells (rqc x) 27)) := below_alloc (Below.refl _ _) _
    have HO15 := Aside0.mk (HO14.out.step hb); have HY15 := Aside0.mk (show RqAt _ (w1.heap.size) z27' from blk_below HY14.out hb); have HS15 := Aside0.mk (show RqAt ((w1.alloc (.cells (rqc z27') 27)).alloc (.cells (rqc x) 27)) (w1.heap.size + 1) x from (by have h9 := heap_alloc_new (w1.alloc (.cells (rqc z27') 27)) (.cells (rqc x) 27); rwa [show (w1.alloc (.cells (rqc z27') 27)).heap.size = w1.heap.size + 1 by simp] at h9)); clear hb
    refine hK.out _ _ ⟨HO15.out.x.cells, HO15.out.r.cells⟩ (fun hHeld => ?_); clear hK K; refine norm_ nX ?_
    refine oX HT_ 3 1087 (some 13) (fun K hK => ?_)
    refine goes_ Tryz.func18 (by kernel_rfl) rfl #[.slice (some ⟨w1.heap.size + 1, 0, none⟩) 1 1, .slice An xs.length cn] (by kernel_rfl) rfl rfl (by (try simp only [List.map_toArray, List.map_cons, List.map_nil]); first | done | rfl) ((reflist_calls (some ⟨w1.heap.size + 1, 0, none⟩) 1 [x] An cn xs _ (one_reads HS15.out) (Nat.le_refl 1) (Kd.C_below HN.out HO15.out.base) hcn hl hU).mono ?_)
    rintro e w16 hbk; obtain ⟨A16, c16, rfl, hc16, hC16⟩ := hbk.out; have hb := hbk.below; clear hbk
    have HO16 := Aside0.mk (HO15.out.step hb); have HY16 := Aside0.mk (show RqAt _ (w1.heap.size) z27' from blk_below HY15.out hb); have HC16 := Aside0.mk hC16; have HCL16 := Aside0.mk hc16; clear hb hC16 hc16
    refine ⟨_, rfl, ?_⟩
    refine hK.out _ _ ⟨HO16.out.x.cells, HO16.out.r.cells⟩ (fun hHeld => ?_); clear hK K; refine norm_ nX ?_
    refine oX HT_ 6 1151 (some 16) (fun K hK => ?_)
    refine goes_ Tryz.func39 (by kernel_rfl) rfl #[.slice A16 (mv.list [x] (xs.map ndR)).length c16, .string r.f0] (by kernel_rfl) rfl rfl (by (try simp only [List.map_toArray, List.map_cons, List.map_nil]); first | done | rfl) ((HOF.out A16 c16 _ HC16.out HCL16.out).mono ?_)
    rintro e w17 ⟨rfl, hb⟩
    have HO17 := Aside0.mk (HO16.out.step hb); have HY17 := Aside0.mk (show RqAt _ (w1.heap.size) z27' from blk_below HY16.out hb); clear hb
    refine ⟨_, rfl, ?_⟩
    refine hK.out _ _ ⟨HO17.out.x.cells, HO17.out.r.cells⟩ (fun hHeld => ?_); clear hK K; refine norm_ nX ?_
    refine pX HT_ 7 1279 9 ?_
    refine pX HT_ 8 1535 17 ?_
    refine pX HT_ 9 2047 18 ?_
    have hy := HYB14.out
    refine oX HT_ 11 4095 none (fun K hK => ?_)
    refine store_K (by kernel_rfl) rfl 27 (.tmp 7) (.tmp 17) rfl (rql bb) HY17.out rfl rfl rfl (by kernel_rfl) rfl (fun q hq => by simp only [rql, List.mem_cons, List.not_mem_nil, or_false] at hq; rcases hq with rfl | rfl | rfl | rfl | rfl | rfl <;> rfl) ?_
    intro w18 hr hg; have HO18 := Aside0.mk (HO17.out.put hy hg); have HY18 := Aside0.mk (show RqAt w18 (w1.heap.size) bb from hr); clear hr hg
    refine hK.out _ _ ⟨HO18.out.x.cells, HO18.out.r.cells⟩ (fun hHeld => ?_); clear hK K; refine norm_ nX ?_
    refine pX HT_ 12 8191 8 ?_
    refine eX HT_ ?_
    clear HT_ HW_ hHeld hy
    obtain ⟨r0, r1, r2, r3, r4, r5⟩ := HO18.out.r.cells; obtain ⟨y0, y1, y2, y3, y4, y5⟩ := HY18.out.cells
    cases ob with
    | none =>
      simp only [Option.isSome_none]
      go_wp2
      go_ret
      exact ⟨by rw [HOT.out]; rfl, HO18.out.base⟩
    | some y =>
      simp only [Option.isSome_some]
      go_wp2_with (go_at_call 26; refine (HCM.out bb _).mono ?_; rintro e w9 ⟨rfl, hb⟩; have HB9 := Aside0.mk (below_step HO18.out.base hb); clear hb)
      go_ret
      exact ⟨by rw [HOT.out, HBB.out]; rfl, HB9.out⟩
end Go.Proofs.YtkidfclnakbgiaaGreatDoor
end
