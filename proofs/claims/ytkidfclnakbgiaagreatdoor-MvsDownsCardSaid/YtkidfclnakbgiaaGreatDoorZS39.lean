/- The texts RSx3 in one file, without what these claims do not use (put together by prune2.py). -/
import Derived.Test.YtkidfclnakbgiaaGreatDoorZS36
section
namespace Go.Proofs.YtkidfclnakbgiaaGreatDoor.RS
open Go.RowKit Go.Proofs.YtkidfclnakbgiaaGreatDoor Go.Proofs.YtkidfclnakbgiaaGreatDoor.K0 Go.Proofs.YtkidfclnakbgiaaGreatDoor.RD Go.Proofs.YtkidfclnakbgiaaGreatDoorW.PrintWords Go.Proofs.YtkidfclnakbgiaaGreatDoorW.PrintLast Go.Proofs.YtkidfclnakbgiaaGreatDoorW.PrintMore
attribute [local go_sem] max2_int min2_int max_two min_two max_three min_three max_four min_four
set_option linter.unusedVariables false
set_option linter.unusedSimpArgs false
def armadalaw17_covers.l0 : Nat → List (S27) → Int → ByteArray → Int → Int → Int → ByteArray → ByteArray → Option (Bool)
 | 0, _, _, _, _, _, _, _, _ => none
 | k + 1, x0, x5, x117000, x117001, x117002, x117003, x117004, x117005 => if x5 < (x0.length : Int) then (if 0 ≤ x5 then (if ((rd_T27 x0 x5).f0).toList = x117000.toList then ((armadaref07_Compare.f k ((rd_T27 x0 x5).f1.f0) ((rd_T27 x0 x5).f1.f1) ((rd_T27 x0 x5).f1.f2) ((rd_T27 x0 x5).f1.f3) ((rd_T27 x0 x5).f1.f4) x117001 x117002 x117003 x117004 x117005).bind fun t119 => (some (decide (t119 ≥ 0)))) else (armadalaw17_covers.l0 k x0 (wrap64 (x5 + 1)) x117000 x117001 x117002 x117003 x117004 x117005)) else (none)) else (some false)
def armadalaw17_covers.f (k : Nat) (l0 : List (S27)) (a1_0 : ByteArray) (a1_1 : Int) (a1_2 : Int) (a1_3 : Int) (a1_4 : ByteArray) (a1_5 : ByteArray) : Option (Bool) := armadalaw17_covers.l0 k l0 0 a1_0 a1_1 a1_2 a1_3 a1_4 a1_5
theorem armadalaw17_covers.mono_l : ∀ k, (∀ y0 y1 y2 y3 y4 y5 y6 y7, LeO (armadalaw17_covers.l0 k y0 y1 y2 y3 y4 y5 y6 y7) (armadalaw17_covers.l0 (k + 1) y0 y1 y2 y3 y4 y5 y6 y7))
 | 0 => fun _ _ _ _ _ _ _ _ r h => by simp [armadalaw17_covers.l0] at h
 | k + 1 => by
  have ih0 := armadalaw17_covers.mono_l k
  ·
   intro y0 y1 y2 y3 y4 y5 y6 y7
   unfold armadalaw17_covers.l0
   repeat' first
   | (with_reducible exact ih0 _ _ _ _ _ _ _ _)
   | (with_reducible exact armadaref07_Compare.mono _ _ _ _ _ _ _ _ _ _ _)
   | (with_reducible exact LeO.refl _)
   | (with_reducible exact LeO.none _)
   | (with_reducible refine LeO.ite ?_ ?_)
   | (with_reducible refine LeO.bind ?_ (fun _ => ?_))
   | exact ih0 _ _ _ _ _ _ _ _
   | exact armadaref07_Compare.mono _ _ _ _ _ _ _ _ _ _ _
   | exact LeO.none _
   | refine LeO.ite ?_ ?_
   | refine LeO.bind ?_ (fun _ => ?_)
theorem armadalaw17_covers.mono : ∀ a0 a1 a2 a3 a4 a5 a6 k, LeO (armadalaw17_covers.f k a0 a1 a2 a3 a4 a5 a6) (armadalaw17_covers.f (k + 1) a0 a1 a2 a3 a4 a5 a6) := by
 intro a0 a1 a2 a3 a4 a5 a6 k
 have ih0 := armadalaw17_covers.mono_l k
 unfold armadalaw17_covers.f
 repeat' first
   | (with_reducible exact ih0 _ _ _ _ _ _ _ _)
   | (with_reducible exact armadaref07_Compare.mono _ _ _ _ _ _ _ _ _ _ _)
   | (with_reducible exact LeO.refl _)
   | (with_reducible exact LeO.none _)
   | (with_reducible refine LeO.ite ?_ ?_)
   | (with_reducible refine LeO.bind ?_ (fun _ => ?_))
   | exact ih0 _ _ _ _ _ _ _ _
   | exact armadaref07_Compare.mono _ _ _ _ _ _ _ _ _ _ _
   | exact LeO.none _
   | refine LeO.ite ?_ ?_
   | refine LeO.bind ?_ (fun _ => ?_)
def armadalaw17_covers.T4 : Bool × List (List Nat × List Nat) := (true, [([], []), ([], []), ([0, 1], [0, 1]), ([2], [2]), ([3], [3]), ([], []), ([5], [5]), ([4, 6], [4, 6])])
def armadalaw17_covers.B4 : List Nat := [0, 0, 3, 7, 15, 0, 32, 127]
theorem armadalaw17_covers.tab4 : rtab .any (opsOf Tryz.f24 4) = armadalaw17_covers.T4 := by kernel_rfl
theorem armadalaw17_covers.bits4 : waitsOk armadalaw17_covers.T4.2 armadalaw17_covers.B4 = true := by kernel_rfl
def armadalaw17_covers.T5 : Bool × List (List Nat × List Nat) := (true, [([], []), ([], []), ([0, 1], [0, 1]), ([2], [2]), ([3], [3]), ([], []), ([5], [5]), ([4, 6], [4, 6]), ([7], [7]), ([8, 7, 0, 1, 2, 3, 4, 5, 6, 7, 8], [8])])
def armadalaw17_covers.B5 : List Nat := [0, 0, 3, 7, 15, 0, 32, 127, 255, 511]
theorem armadalaw17_covers.tab5 : rtab .any (opsOf Tryz.f24 5) = armadalaw17_covers.T5 := by kernel_rfl
theorem armadalaw17_covers.bits5 : waitsOk armadalaw17_covers.T5.2 armadalaw17_covers.B5 = true := by kernel_rfl
set_option maxHeartbeats 8000000 in
set_option maxRecDepth 100000 in
theorem armadalaw17_covers.calls (k : Nat) (A0 : Option Addr) (c0 : Nat) (l0 : List (S27)) (a1_0 : ByteArray) (a1_1 : Int) (a1_2 : Int) (a1_3 : Int) (a1_4 : ByteArray) (a1_5 : ByteArray) (r : Bool) (w : World) (hr0 : Kd.C k27 w A0 l0.length l0) (hc0 : l0.length ≤ c0) (h : armadalaw17_covers.f k l0 a1_0 a1_1 a1_2 a1_3 a1_4 a1_5 = some r) :
  Calls Tryz.prog 24 #[.slice A0 l0.length c0, .agg #[.string a1_0, .int .i64 a1_1, .int .i64 a1_2, .int .i64 a1_3, .string a1_4, .string a1_5]] w fun e w' => e = .returned (.bool r) ∧ Below w.heap.size w w' := by
 have hu27 := Tryz.underlying27
 have hu25 := Tryz.underlying25
 have HR0 := Aside0.mk hr0
 have HC0 := Aside0.mk hc0
 clear hr0 hc0
 have HB := Aside0.mk (Below.refl w.heap.size w)
 have H : (armadalaw17_covers.l0 k l0 0 a1_0 a1_1 a1_2 a1_3 a1_4 a1_5) = some r := h
 clear h
 have H' := Aside0.mk H
 clear H
 go_enter Tryz.func24, Tryz.ntmps24
 go_wp2_with (first | ((with_reducible refine gate_dst (N := 3) rfl ?_); refine box_event ?hg (N := 3) ?hd (cs := #[.string a1_0, .int .i64 a1_1, .int .i64 a1_2, .int .i64 a1_3, .string a1_4, .string a1_5]) (t := 27) ?hr ?_; (case hd => rfl); (case hg => rfl); (case hr => first | (go_simp; done) | (go_simp; rfl)); intro gb116 hg w3 hbox hb; have BK116 := Aside0.mk (hbox); have GW116 := Aside0.mk ((by rw [hg]; exact (below_size xB) : w.heap.size ≤ gb116)); have GE116 := Aside0.mk ((by rw [hg]; exact (below_size xB) : w.heap.size ≤ gb116)); replace HB := Aside0.mk (below_step xB hb); clear hb hbox hg))
 go_loopg [5] k (fun kq v5 w' => ∃ (x5_1 : Int), v5 = .int .i64 x5_1 ∧ Aside0 (armadalaw17_covers.l0 kq l0 x5_1 a1_0 a1_1 a1_2 a1_3 a1_4 a1_5 = some r) ∧ Aside0 (kq ≤ k) ∧ Aside0 (w'.heap[gb116]? = some (.cells #[.string a1_0, .int .i64 a1_1, .int .i64 a1_2, .int .i64 a1_3, .string a1_4, .string a1_5] 27 (0, 0))) ∧ Aside0 (Below w.heap.size w w'))
 case atStart => exact ⟨(0), xR, H', ⟨Nat.le_refl _⟩, ⟨by (with_reducible repeat (first | refine blk_drewN ?_ _ | refine blk_drew ?_ | refine blk_alloc ?_ _)); exact BK116.out⟩, ⟨xB⟩⟩
 case round =>
  clear H'
  try clear c2
  try clear p2
  obtain ⟨x5_1, rfl, HA, HK1, BK116, HB⟩ := hrel
  cases gk with
  | zero => exact absurd HA.out (by simp [armadalaw17_covers.l0])
  | succ k1 =>
   have H := HA.out
   clear HA
   simp only [armadalaw17_covers.l0] at H
   by_cases c4 : x5_1 < (l0.length : Int)
   ·
    rw [if_pos c4] at H
    have c4b0 := decide_eq_true c4
    clear c4
    replace H := xI H
    obtain ⟨c5, H⟩ := H
    have c5b0 := decide_eq_true c5
    clear c5
    by_cases c6 : ((rd_T27 l0 x5_1).f0).toList = a1_0.toList
    ·
     rw [if_pos c6] at H
     have c6b0 := beq_iff_eq.mpr c6
     have c6b1 := bne_eq_false_iff_eq.mpr c6
     clear c6
     replace H := xb H
     obtain ⟨t119, A7, H⟩ := H
     obtain rfl := Option.some.inj H
     try go_wp2
     have n0_ := Aside0.mk (blk_drew BK116.out)
     have n1_ := Aside0.mk (below_drew1 HB.out)
     clear BK116
     clear HB
     have BK116 := n0_
     have HB := n1_
     clear n0_ n1_
     have p117 : 0 ≤ (x5_1 : Int) := xD
     have q117 : x5_1 < (l0.length : Int) := xD
     obtain ⟨ad117, e117, hx117_0, hx117_1, hx117_2, hx117_3, hx117_4, hx117_5⟩ := at_T27 HR0.out x5_1 p117 q117
     have hw117_5 := hx117_5
     have hw117_4 := hx117_4
     have hw117_3 := hx117_3
     have hw117_2 := hx117_2
     have hw117_1 := hx117_1
     have hw117_0 := hx117_0
     cases e117
     replace hx117_0 := (HB.out.cell (World.block_lt_of_cell? w _ hx117_0)).trans hx117_0
     replace hx117_1 := (HB.out.cell (World.block_lt_of_cell? w _ hx117_1)).trans hx117_1
     replace hx117_2 := (HB.out.cell (World.block_lt_of_cell? w _ hx117_2)).trans hx117_2
     replace hx117_3 := (HB.out.cell (World.block_lt_of_cell? w _ hx117_3)).trans hx117_3
     replace hx117_4 := (HB.out.cell (World.block_lt_of_cell? w _ hx117_4)).trans hx117_4
     replace hx117_5 := (HB.out.cell (World.block_lt_of_cell? w _ hx117_5)).trans hx117_5
     replace p117 := eq_true p117
     replace q117 := eq_true q117
     refine start_ (n := 8) (S := fun w' => w'.cell? ⟨gb116, 0, none⟩ = some (.string a1_0) ∧ w'.cell? ⟨gb116, 1, none⟩ = some (.int .i64 a1_1) ∧ w'.cell? ⟨gb116, 2, none⟩ = some (.int .i64 a1_2) ∧ w'.cell? ⟨gb116, 3, none⟩ = some (.int .i64 a1_3) ∧ w'.cell? ⟨gb116, 4, none⟩ = some (.string a1_4) ∧ w'.cell? ⟨gb116, 5, none⟩ = some (.string a1_5) ∧ w'.cell? (ad117.add ((x5_1).toNat * 6)) = some (.string ((rd_T27 l0 x5_1).f0)) ∧ w'.cell? ⟨(ad117.add ((x5_1).toNat * 6)).block, (ad117.add ((x5_1).toNat * 6)).off + 1, none⟩ = some (.int .i64 ((rd_T27 l0 x5_1).f1.f0)) ∧ w'.cell? ⟨(ad117.add ((x5_1).toNat * 6)).block, (ad117.add ((x5_1).toNat * 6)).off + 2, none⟩ = some (.int .i64 ((rd_T27 l0 x5_1).f1.f1)) ∧ w'.cell? ⟨(ad117.add ((x5_1).toNat * 6)).block, (ad117.add ((x5_1).toNat * 6)).off + 3, none⟩ = some (.int .i64 ((rd_T27 l0 x5_1).f1.f2)) ∧ w'.cell? ⟨(ad117.add ((x5_1).toNat * 6)).block, (ad117.add ((x5_1).toNat * 6)).off + 4, none⟩ = some (.string ((rd_T27 l0 x5_1).f1.f3)) ∧ w'.cell? ⟨(ad117.add ((x5_1).toNat * 6)).block, (ad117.add ((x5_1).toNat * 6)).off + 5, none⟩ = some (.string ((rd_T27 l0 x5_1).f1.f4))) (ds := []) #[ff, ff, ff, ff, ff, ff, ff, ff] (by kernel_rfl) rfl rfl ⟨(blk_cell BK116.out 0).trans rfl, (blk_cell BK116.out 1).trans rfl, (blk_cell BK116.out 2).trans rfl, (blk_cell BK116.out 3).trans rfl, (blk_cell BK116.out 4).trans rfl, (blk_cell BK116.out 5).trans rfl, ((HB.out.cell (World.block_lt_of_cell? w _ hw117_0)).trans hw117_0), ((HB.out.cell (World.block_lt_of_cell? w _ hw117_1)).trans hw117_1), ((HB.out.cell (World.block_lt_of_cell? w _ hw117_2)).trans hw117_2), ((HB.out.cell (World.block_lt_of_cell? w _ hw117_3)).trans hw117_3), ((HB.out.cell (World.block_lt_of_cell? w _ hw117_4)).trans hw117_4), ((HB.out.cell (World.block_lt_of_cell? w _ hw117_5)).trans hw117_5)⟩ (fun hHeld => ?_); refine with_tabW armadalaw17_covers.tab4 armadalaw17_covers.bits4 (fun HT_ HW_ => ?_)
     generalize wr.drew = w8 at BK116 HB hx117_0 hx117_1 hx117_2 hx117_3 hx117_4 hx117_5 hHeld ⊢
     refine pure_ (i := 0) (N := some 12) (v := ?_) (a' := ?_) #[tt, ff, ff, ff, ff, ff, ff, ff] rfl rfl (any_of HT_.out (by kernel_rfl)) (fun _ _ _ h => h) (Or.inl ⟨by rfl, ?_⟩) ?_ ?_
     rotate_left
     ·
      intro w'
      go_simp
      with_reducible rfl
     rotate_left
     ·
      simp only [Act.put, List.setIfInBounds_toArray, List.set_cons_zero, List.set_cons_succ, i64_w, i32_w]
      rfl
     refine pure_ (i := 1) (N := some 13) (v := ?_) (a' := ?_) #[tt, tt, ff, ff, ff, ff, ff, ff] rfl rfl (any_of HT_.out (by kernel_rfl)) (fun _ _ _ h => h) (Or.inl ⟨by rfl, ?_⟩) ?_ ?_
     rotate_left
     ·
      intro w'
      go_simp
      with_reducible rfl
     rotate_left
     ·
      simp only [Act.put, List.setIfInBounds_toArray, List.set_cons_zero, List.set_cons_succ, i64_w, i32_w]
      rfl
     refine pure_ (i := 2) (N := some 14) (v := ?_) (a' := ?_) #[tt, tt, tt, ff, ff, ff, ff, ff] rfl rfl (any_of HT_.out (by kernel_rfl)) (fun _ _ _ h => h) (Or.inl ⟨by rfl, ?_⟩) ?_ ?_
     rotate_left
     ·
      intro w'
      go_simp
      with_reducible rfl
     rotate_left
     ·
      simp only [Act.put, List.setIfInBounds_toArray, List.set_cons_zero, List.set_cons_succ, i64_w, i32_w]
      rfl
     refine pure_ (i := 3) (N := some 15) (v := ?_) (a' := ?_) #[tt, tt, tt, tt, ff, ff, ff, ff] rfl rfl (any_of HT_.out (by kernel_rfl)) (fun _ _ _ h => h) (Or.inl ⟨by rfl, ?_⟩) ?_ ?_
     rotate_left
     ·
      intro w'
      go_simp
      with_reducible rfl
     rotate_left
     ·
      simp only [Act.put, List.setIfInBounds_toArray, List.set_cons_zero, List.set_cons_succ, i64_w, i32_w]
      rfl
     refine pure_ (i := 5) (N := some 17) (v := ?_) (a' := ?_) #[tt, tt, tt, tt, ff, tt, ff, ff] rfl rfl (any_of HT_.out (by kernel_rfl)) (fun _ _ _ h => h) (Or.inl ⟨by rfl, ?_⟩) ?_ ?_
     rotate_left
     ·
      intro w'
      go_simp
      with_reducible rfl
     rotate_left
     ·
      simp only [Act.put, List.setIfInBounds_toArray, List.set_cons_zero, List.set_cons_succ, i64_w, i32_w]
      rfl
     refine take_ (i := 4) (N := some 16) (v := ?_) (a' := ?_) #[tt, tt, tt, tt, tt, tt, ff, ff] rfl rfl (take_ofW HT_.out HW_.out (by kernel_rfl)) (fun _ _ _ h => h) (Or.inl ⟨by rfl, ?_⟩) hHeld ?_ ?_
     rotate_left
     ·
      rintro w' ⟨s0, s1, s2, s3, s4, s5, s6, s7, s8, s9, s10, s11⟩
      go_simp
      with_reducible rfl
     rotate_left
     ·
      simp only [Act.put, List.setIfInBounds_toArray, List.set_cons_zero, List.set_cons_succ, i64_w, i32_w]
      rfl
     refine take_ (i := 6) (N := some 18) (v := ?_) (a' := ?_) #[tt, tt, tt, tt, tt, tt, tt, ff] rfl rfl (take_ofW HT_.out HW_.out (by kernel_rfl)) (fun _ _ _ h => h) (Or.inl ⟨by rfl, ?_⟩) hHeld ?_ ?_
     rotate_left
     ·
      rintro w' ⟨s0, s1, s2, s3, s4, s5, s6, s7, s8, s9, s10, s11⟩
      go_simp
      with_reducible rfl
     rotate_left
     ·
      simp only [Act.put, List.setIfInBounds_toArray, List.set_cons_zero, List.set_cons_succ, i64_w, i32_w]
      rfl
     refine pure_ (i := 7) (N := some 19) (v := ?_) (a' := ?_) #[tt, tt, tt, tt, tt, tt, tt, tt] rfl rfl (any_of HT_.out (by kernel_rfl)) (fun _ _ _ h => h) (Or.inl ⟨by rfl, ?_⟩) ?_ ?_
     rotate_left
     ·
      intro w'
      go_simp
      with_reducible rfl
     rotate_left
     ·
      simp only [Act.put, List.setIfInBounds_toArray, List.set_cons_zero, List.set_cons_succ, i64_w, i32_w]
      rfl
     refine done_ (done_of HT_.out (by kernel_rfl)) ?_
     try go_wp2
     have n0_ := Aside0.mk (blk_drew BK116.out)
     have n1_ := Aside0.mk (below_drew1 HB.out)
     clear BK116
     clear HB
     have BK116 := n0_
     have HB := n1_
     clear n0_ n1_
     have p118 : 0 ≤ (x5_1 : Int) := xD
     have q118 : x5_1 < (l0.length : Int) := xD
     obtain ⟨ad118, e118, hx118_0, hx118_1, hx118_2, hx118_3, hx118_4, hx118_5⟩ := at_T27 HR0.out x5_1 p118 q118
     have hw118_5 := hx118_5
     have hw118_4 := hx118_4
     have hw118_3 := hx118_3
     have hw118_2 := hx118_2
     have hw118_1 := hx118_1
     have hw118_0 := hx118_0
     obtain rfl : ad117 = ad118 := (by injection e118)
     replace hx118_0 := (HB.out.cell (World.block_lt_of_cell? w _ hx118_0)).trans hx118_0
     replace hx118_1 := (HB.out.cell (World.block_lt_of_cell? w _ hx118_1)).trans hx118_1
     replace hx118_2 := (HB.out.cell (World.block_lt_of_cell? w _ hx118_2)).trans hx118_2
     replace hx118_3 := (HB.out.cell (World.block_lt_of_cell? w _ hx118_3)).trans hx118_3
     replace hx118_4 := (HB.out.cell (World.block_lt_of_cell? w _ hx118_4)).trans hx118_4
     replace hx118_5 := (HB.out.cell (World.block_lt_of_cell? w _ hx118_5)).trans hx118_5
     replace p118 := eq_true p118
     replace q118 := eq_true q118
     refine start_ (n := 10) (S := fun w' => w'.cell? ⟨gb116, 0, none⟩ = some (.string a1_0) ∧ w'.cell? ⟨gb116, 1, none⟩ = some (.int .i64 a1_1) ∧ w'.cell? ⟨gb116, 2, none⟩ = some (.int .i64 a1_2) ∧ w'.cell? ⟨gb116, 3, none⟩ = some (.int .i64 a1_3) ∧ w'.cell? ⟨gb116, 4, none⟩ = some (.string a1_4) ∧ w'.cell? ⟨gb116, 5, none⟩ = some (.string a1_5) ∧ w'.cell? (ad117.add ((x5_1).toNat * 6)) = some (.string ((rd_T27 l0 x5_1).f0)) ∧ w'.cell? ⟨(ad117.add ((x5_1).toNat * 6)).block, (ad117.add ((x5_1).toNat * 6)).off + 1, none⟩ = some (.int .i64 ((rd_T27 l0 x5_1).f1.f0)) ∧ w'.cell? ⟨(ad117.add ((x5_1).toNat * 6)).block, (ad117.add ((x5_1).toNat * 6)).off + 2, none⟩ = some (.int .i64 ((rd_T27 l0 x5_1).f1.f1)) ∧ w'.cell? ⟨(ad117.add ((x5_1).toNat * 6)).block, (ad117.add ((x5_1).toNat * 6)).off + 3, none⟩ = some (.int .i64 ((rd_T27 l0 x5_1).f1.f2)) ∧ w'.cell? ⟨(ad117.add ((x5_1).toNat * 6)).block, (ad117.add ((x5_1).toNat * 6)).off + 4, none⟩ = some (.string ((rd_T27 l0 x5_1).f1.f3)) ∧ w'.cell? ⟨(ad117.add ((x5_1).toNat * 6)).block, (ad117.add ((x5_1).toNat * 6)).off + 5, none⟩ = some (.string ((rd_T27 l0 x5_1).f1.f4))) (ds := []) #[ff, ff, ff, ff, ff, ff, ff, ff, ff, ff] (by kernel_rfl) rfl rfl ⟨(blk_cell BK116.out 0).trans rfl, (blk_cell BK116.out 1).trans rfl, (blk_cell BK116.out 2).trans rfl, (blk_cell BK116.out 3).trans rfl, (blk_cell BK116.out 4).trans rfl, (blk_cell BK116.out 5).trans rfl, ((HB.out.cell (World.block_lt_of_cell? w _ hw118_0)).trans hw118_0), ((HB.out.cell (World.block_lt_of_cell? w _ hw118_1)).trans hw118_1), ((HB.out.cell (World.block_lt_of_cell? w _ hw118_2)).trans hw118_2), ((HB.out.cell (World.block_lt_of_cell? w _ hw118_3)).trans hw118_3), ((HB.out.cell (World.block_lt_of_cell? w _ hw118_4)).trans hw118_4), ((HB.out.cell (World.block_lt_of_cell? w _ hw118_5)).trans hw118_5)⟩ (fun hHeld => ?_); refine with_tabW armadalaw17_covers.tab5 armadalaw17_covers.bits5 (fun HT_ HW_ => ?_)
     generalize w8.drew = w9 at BK116 HB hx118_0 hx118_1 hx118_2 hx118_3 hx118_4 hx118_5 hHeld ⊢
     refine pure_ (i := 0) (N := some 20) (v := ?_) (a' := ?_) #[tt, ff, ff, ff, ff, ff, ff, ff, ff, ff] rfl rfl (any_of HT_.out (by kernel_rfl)) (fun _ _ _ h => h) (Or.inl ⟨by rfl, ?_⟩) ?_ ?_
     rotate_left
     ·
      intro w'
      go_simp
      with_reducible rfl
     rotate_left
     ·
      simp only [Act.put, List.setIfInBounds_toArray, List.set_cons_zero, List.set_cons_succ, i64_w, i32_w]
      rfl
     refine pure_ (i := 1) (N := some 21) (v := ?_) (a' := ?_) #[tt, tt, ff, ff, ff, ff, ff, ff, ff, ff] rfl rfl (any_of HT_.out (by kernel_rfl)) (fun _ _ _ h => h) (Or.inl ⟨by rfl, ?_⟩) ?_ ?_
     rotate_left
     ·
      intro w'
      go_simp
      with_reducible rfl
     rotate_left
     ·
      simp only [Act.put, List.setIfInBounds_toArray, List.set_cons_zero, List.set_cons_succ, i64_w, i32_w]
      rfl
     refine pure_ (i := 2) (N := some 22) (v := ?_) (a' := ?_) #[tt, tt, tt, ff, ff, ff, ff, ff, ff, ff] rfl rfl (any_of HT_.out (by kernel_rfl)) (fun _ _ _ h => h) (Or.inl ⟨by rfl, ?_⟩) ?_ ?_
     rotate_left
     ·
      intro w'
      go_simp
      with_reducible rfl
     rotate_left
     ·
      simp only [Act.put, List.setIfInBounds_toArray, List.set_cons_zero, List.set_cons_succ, i64_w, i32_w]
      rfl
     refine pure_ (i := 3) (N := some 23) (v := ?_) (a' := ?_) #[tt, tt, tt, tt, ff, ff, ff, ff, ff, ff] rfl rfl (any_of HT_.out (by kernel_rfl)) (fun _ _ _ h => h) (Or.inl ⟨by rfl, ?_⟩) ?_ ?_
     rotate_left
     ·
      intro w'
      go_simp
      with_reducible rfl
     rotate_left
     ·
      simp only [Act.put, List.setIfInBounds_toArray, List.set_cons_zero, List.set_cons_succ, i64_w, i32_w]
      rfl
     refine pure_ (i := 5) (N := some 25) (v := ?_) (a' := ?_) #[tt, tt, tt, tt, ff, tt, ff, ff, ff, ff] rfl rfl (any_of HT_.out (by kernel_rfl)) (fun _ _ _ h => h) (Or.inl ⟨by rfl, ?_⟩) ?_ ?_
     rotate_left
     ·
      intro w'
      go_simp
      with_reducible rfl
     rotate_left
     ·
      simp only [Act.put, List.setIfInBounds_toArray, List.set_cons_zero, List.set_cons_succ, i64_w, i32_w]
      rfl
     refine take_ (i := 4) (N := some 24) (v := ?_) (a' := ?_) #[tt, tt, tt, tt, tt, tt, ff, ff, ff, ff] rfl rfl (take_ofW HT_.out HW_.out (by kernel_rfl)) (fun _ _ _ h => h) (Or.inl ⟨by rfl, ?_⟩) hHeld ?_ ?_
     rotate_left
     ·
      rintro w' ⟨s0, s1, s2, s3, s4, s5, s6, s7, s8, s9, s10, s11⟩
      go_simp
      with_reducible rfl
     rotate_left
     ·
      simp only [Act.put, List.setIfInBounds_toArray, List.set_cons_zero, List.set_cons_succ, i64_w, i32_w]
      rfl
     refine take_ (i := 6) (N := some 26) (v := ?_) (a' := ?_) #[tt, tt, tt, tt, tt, tt, tt, ff, ff, ff] rfl rfl (take_ofW HT_.out HW_.out (by kernel_rfl)) (fun _ _ _ h => h) (Or.inl ⟨by rfl, ?_⟩) hHeld ?_ ?_
     rotate_left
     ·
      rintro w' ⟨s0, s1, s2, s3, s4, s5, s6, s7, s8, s9, s10, s11⟩
      go_simp
      with_reducible rfl
     rotate_left
     ·
      simp only [Act.put, List.setIfInBounds_toArray, List.set_cons_zero, List.set_cons_succ, i64_w, i32_w]
      rfl
     refine one_ (i := 7) (N := some 27) #[tt, tt, tt, tt, tt, tt, tt, tt, ff, ff] rfl rfl (one_of HT_.out (by kernel_rfl)) (by decide) (fun K hK => ?_)
     refine goes_ Tryz.func26 (by kernel_rfl) rfl #[.agg #[.int .i64 ((rd_T27 l0 x5_1).f1.f0), .int .i64 ((rd_T27 l0 x5_1).f1.f1), .int .i64 ((rd_T27 l0 x5_1).f1.f2), .string ((rd_T27 l0 x5_1).f1.f3), .string ((rd_T27 l0 x5_1).f1.f4)], .agg #[.int .i64 a1_1, .int .i64 a1_2, .int .i64 a1_3, .string a1_4, .string a1_5]] (by rfl) rfl rfl xS ?_
     with_reducible refine (armadaref07_Compare.calls k1 ((rd_T27 l0 x5_1).f1.f0) ((rd_T27 l0 x5_1).f1.f1) ((rd_T27 l0 x5_1).f1.f2) ((rd_T27 l0 x5_1).f1.f3) ((rd_T27 l0 x5_1).f1.f4) a1_1 a1_2 a1_3 a1_4 a1_5 t119 _ A7.out).mono ?_
     rintro e w10 ⟨rfl, hb⟩
     refine ⟨_, rfl, ?_⟩
     have n0_ := Aside0.mk (blk_below (g := gb116) (o := .cells #[.string a1_0, .int .i64 a1_1, .int .i64 a1_2, .int .i64 a1_3, .string a1_4, .string a1_5] 27 (0, 0)) xK hb)
     have n1_ := Aside0.mk (below_step xB hb)
     clear BK116
     clear HB
     have BK116 := n0_
     have HB := n1_
     clear n0_ n1_
     (try clear hb)
     (try clear hb2)
     (try clear hk)
     (try clear hi)
     refine hK.out _ _ ⟨(blk_cell BK116.out 0).trans rfl, (blk_cell BK116.out 1).trans rfl, (blk_cell BK116.out 2).trans rfl, (blk_cell BK116.out 3).trans rfl, (blk_cell BK116.out 4).trans rfl, (blk_cell BK116.out 5).trans rfl, ((HB.out.cell (World.block_lt_of_cell? w _ hw118_0)).trans hw118_0), ((HB.out.cell (World.block_lt_of_cell? w _ hw118_1)).trans hw118_1), ((HB.out.cell (World.block_lt_of_cell? w _ hw118_2)).trans hw118_2), ((HB.out.cell (World.block_lt_of_cell? w _ hw118_3)).trans hw118_3), ((HB.out.cell (World.block_lt_of_cell? w _ hw118_4)).trans hw118_4), ((HB.out.cell (World.block_lt_of_cell? w _ hw118_5)).trans hw118_5)⟩ (fun hHeld => ?_)
     clear hK K
     refine norm_ (a' := ?_) ?_ ?_
     rotate_left
     ·
      show Act.put _ (some 27) _ = _
      simp only [Act.put, List.setIfInBounds_toArray, List.set_cons_zero, List.set_cons_succ, i64_w, i32_w]
      rfl
     refine pure_ (i := 8) (N := some 28) (v := ?_) (a' := ?_) #[tt, tt, tt, tt, tt, tt, tt, tt, tt, ff] rfl rfl (any_of HT_.out (by kernel_rfl)) (fun _ _ _ h => h) (Or.inl ⟨by rfl, ?_⟩) ?_ ?_
     rotate_left
     ·
      intro w'
      go_simp
      with_reducible rfl
     rotate_left
     ·
      simp only [Act.put, List.setIfInBounds_toArray, List.set_cons_zero, List.set_cons_succ, i64_w, i32_w]
      rfl
     refine pure_ (i := 9) (N := some 4) (v := ?_) (a' := ?_) #[tt, tt, tt, tt, tt, tt, tt, tt, tt, tt] rfl rfl (any_of HT_.out (by kernel_rfl)) (fun _ _ _ h => h) (Or.inl ⟨by rfl, ?_⟩) ?_ ?_
     rotate_left
     ·
      intro w'
      go_simp
      with_reducible rfl
     rotate_left
     ·
      simp only [Act.put, List.setIfInBounds_toArray, List.set_cons_zero, List.set_cons_succ, i64_w, i32_w]
      rfl
     refine done_ (done_of HT_.out (by kernel_rfl)) ?_
     try go_wp2
     go_ret
     exact ⟨by first | rfl | (simp [errW_none, errW_some] <;> rfl) | (simp [*, errW_none, errW_some] <;> rfl) | (simp [isEmpty_bne]; done), xB⟩
    rw [if_neg c6] at H
    have c6b0 := beq_eq_false_iff_ne.mpr c6
    have c6b1 := bne_iff_ne.mpr c6
    have H' := Aside0.mk H
    clear H
    try go_wp2
    have n0_ := Aside0.mk (blk_drew BK116.out)
    have n1_ := Aside0.mk (below_drew1 HB.out)
    clear BK116
    clear HB
    have BK116 := n0_
    have HB := n1_
    clear n0_ n1_
    have p117 : 0 ≤ (x5_1 : Int) := xD
    have q117 : x5_1 < (l0.length : Int) := xD
    obtain ⟨ad117, e117, hx117_0, hx117_1, hx117_2, hx117_3, hx117_4, hx117_5⟩ := at_T27 HR0.out x5_1 p117 q117
    have hw117_5 := hx117_5
    have hw117_4 := hx117_4
    have hw117_3 := hx117_3
    have hw117_2 := hx117_2
    have hw117_1 := hx117_1
    have hw117_0 := hx117_0
    cases e117
    replace hx117_0 := (HB.out.cell (World.block_lt_of_cell? w _ hx117_0)).trans hx117_0
    replace hx117_1 := (HB.out.cell (World.block_lt_of_cell? w _ hx117_1)).trans hx117_1
    replace hx117_2 := (HB.out.cell (World.block_lt_of_cell? w _ hx117_2)).trans hx117_2
    replace hx117_3 := (HB.out.cell (World.block_lt_of_cell? w _ hx117_3)).trans hx117_3
    replace hx117_4 := (HB.out.cell (World.block_lt_of_cell? w _ hx117_4)).trans hx117_4
    replace hx117_5 := (HB.out.cell (World.block_lt_of_cell? w _ hx117_5)).trans hx117_5
    replace p117 := eq_true p117
    replace q117 := eq_true q117
    refine start_ (n := 8) (S := fun w' => w'.cell? ⟨gb116, 0, none⟩ = some (.string a1_0) ∧ w'.cell? ⟨gb116, 1, none⟩ = some (.int .i64 a1_1) ∧ w'.cell? ⟨gb116, 2, none⟩ = some (.int .i64 a1_2) ∧ w'.cell? ⟨gb116, 3, none⟩ = some (.int .i64 a1_3) ∧ w'.cell? ⟨gb116, 4, none⟩ = some (.string a1_4) ∧ w'.cell? ⟨gb116, 5, none⟩ = some (.string a1_5) ∧ w'.cell? (ad117.add ((x5_1).toNat * 6)) = some (.string ((rd_T27 l0 x5_1).f0)) ∧ w'.cell? ⟨(ad117.add ((x5_1).toNat * 6)).block, (ad117.add ((x5_1).toNat * 6)).off + 1, none⟩ = some (.int .i64 ((rd_T27 l0 x5_1).f1.f0)) ∧ w'.cell? ⟨(ad117.add ((x5_1).toNat * 6)).block, (ad117.add ((x5_1).toNat * 6)).off + 2, none⟩ = some (.int .i64 ((rd_T27 l0 x5_1).f1.f1)) ∧ w'.cell? ⟨(ad117.add ((x5_1).toNat * 6)).block, (ad117.add ((x5_1).toNat * 6)).off + 3, none⟩ = some (.int .i64 ((rd_T27 l0 x5_1).f1.f2)) ∧ w'.cell? ⟨(ad117.add ((x5_1).toNat * 6)).block, (ad117.add ((x5_1).toNat * 6)).off + 4, none⟩ = some (.string ((rd_T27 l0 x5_1).f1.f3)) ∧ w'.cell? ⟨(ad117.add ((x5_1).toNat * 6)).block, (ad117.add ((x5_1).toNat * 6)).off + 5, none⟩ = some (.string ((rd_T27 l0 x5_1).f1.f4))) (ds := []) #[ff, ff, ff, ff, ff, ff, ff, ff] (by kernel_rfl) rfl rfl ⟨(blk_cell BK116.out 0).trans rfl, (blk_cell BK116.out 1).trans rfl, (blk_cell BK116.out 2).trans rfl, (blk_cell BK116.out 3).trans rfl, (blk_cell BK116.out 4).trans rfl, (blk_cell BK116.out 5).trans rfl, ((HB.out.cell (World.block_lt_of_cell? w _ hw117_0)).trans hw117_0), ((HB.out.cell (World.block_lt_of_cell? w _ hw117_1)).trans hw117_1), ((HB.out.cell (World.block_lt_of_cell? w _ hw117_2)).trans hw117_2), ((HB.out.cell (World.block_lt_of_cell? w _ hw117_3)).trans hw117_3), ((HB.out.cell (World.block_lt_of_cell? w _ hw117_4)).trans hw117_4), ((HB.out.cell (World.block_lt_of_cell? w _ hw117_5)).trans hw117_5)⟩ (fun hHeld => ?_); refine with_tabW armadalaw17_covers.tab4 armadalaw17_covers.bits4 (fun HT_ HW_ => ?_)
    generalize wr.drew = w11 at BK116 HB hx117_0 hx117_1 hx117_2 hx117_3 hx117_4 hx117_5 hHeld ⊢
    refine pure_ (i := 0) (N := some 12) (v := ?_) (a' := ?_) #[tt, ff, ff, ff, ff, ff, ff, ff] rfl rfl (any_of HT_.out (by kernel_rfl)) (fun _ _ _ h => h) (Or.inl ⟨by rfl, ?_⟩) ?_ ?_
    rotate_left
    ·
     intro w'
     go_simp
     with_reducible rfl
    rotate_left
    ·
     simp only [Act.put, List.setIfInBounds_toArray, List.set_cons_zero, List.set_cons_succ, i64_w, i32_w]
     rfl
    refine pure_ (i := 1) (N := some 13) (v := ?_) (a' := ?_) #[tt, tt, ff, ff, ff, ff, ff, ff] rfl rfl (any_of HT_.out (by kernel_rfl)) (fun _ _ _ h => h) (Or.inl ⟨by rfl, ?_⟩) ?_ ?_
    rotate_left
    ·
     intro w'
     go_simp
     with_reducible rfl
    rotate_left
    ·
     simp only [Act.put, List.setIfInBounds_toArray, List.set_cons_zero, List.set_cons_succ, i64_w, i32_w]
     rfl
    refine pure_ (i := 2) (N := some 14) (v := ?_) (a' := ?_) #[tt, tt, tt, ff, ff, ff, ff, ff] rfl rfl (any_of HT_.out (by kernel_rfl)) (fun _ _ _ h => h) (Or.inl ⟨by rfl, ?_⟩) ?_ ?_
    rotate_left
    ·
     intro w'
     go_simp
     with_reducible rfl
    rotate_left
    ·
     simp only [Act.put, List.setIfInBounds_toArray, List.set_cons_zero, List.set_cons_succ, i64_w, i32_w]
     rfl
    refine pure_ (i := 3) (N := some 15) (v := ?_) (a' := ?_) #[tt, tt, tt, tt, ff, ff, ff, ff] rfl rfl (any_of HT_.out (by kernel_rfl)) (fun _ _ _ h => h) (Or.inl ⟨by rfl, ?_⟩) ?_ ?_
    rotate_left
    ·
     intro w'
     go_simp
     with_reducible rfl
    rotate_left
    ·
     simp only [Act.put, List.setIfInBounds_toArray, List.set_cons_zero, List.set_cons_succ, i64_w, i32_w]
     rfl
    refine pure_ (i := 5) (N := some 17) (v := ?_) (a' := ?_) #[tt, tt, tt, tt, ff, tt, ff, ff] rfl rfl (any_of HT_.out (by kernel_rfl)) (fun _ _ _ h => h) (Or.inl ⟨by rfl, ?_⟩) ?_ ?_
    rotate_left
    ·
     intro w'
     go_simp
     with_reducible rfl
    rotate_left
    ·
     simp only [Act.put, List.setIfInBounds_toArray, List.set_cons_zero, List.set_cons_succ, i64_w, i32_w]
     rfl
    refine take_ (i := 4) (N := some 16) (v := ?_) (a' := ?_) #[tt, tt, tt, tt, tt, tt, ff, ff] rfl rfl (take_ofW HT_.out HW_.out (by kernel_rfl)) (fun _ _ _ h => h) (Or.inl ⟨by rfl, ?_⟩) hHeld ?_ ?_
    rotate_left
    ·
     rintro w' ⟨s0, s1, s2, s3, s4, s5, s6, s7, s8, s9, s10, s11⟩
     go_simp
     with_reducible rfl
    rotate_left
    ·
     simp only [Act.put, List.setIfInBounds_toArray, List.set_cons_zero, List.set_cons_succ, i64_w, i32_w]
     rfl
    refine take_ (i := 6) (N := some 18) (v := ?_) (a' := ?_) #[tt, tt, tt, tt, tt, tt, tt, ff] rfl rfl (take_ofW HT_.out HW_.out (by kernel_rfl)) (fun _ _ _ h => h) (Or.inl ⟨by rfl, ?_⟩) hHeld ?_ ?_
    rotate_left
    ·
     rintro w' ⟨s0, s1, s2, s3, s4, s5, s6, s7, s8, s9, s10, s11⟩
     go_simp
     with_reducible rfl
    rotate_left
    ·
     simp only [Act.put, List.setIfInBounds_toArray, List.set_cons_zero, List.set_cons_succ, i64_w, i32_w]
     rfl
    refine pure_ (i := 7) (N := some 19) (v := ?_) (a' := ?_) #[tt, tt, tt, tt, tt, tt, tt, tt] rfl rfl (any_of HT_.out (by kernel_rfl)) (fun _ _ _ h => h) (Or.inl ⟨by rfl, ?_⟩) ?_ ?_
    rotate_left
    ·
     intro w'
     go_simp
     with_reducible rfl
    rotate_left
    ·
     simp only [Act.put, List.setIfInBounds_toArray, List.set_cons_zero, List.set_cons_succ, i64_w, i32_w]
     rfl
    refine done_ (done_of HT_.out (by kernel_rfl)) ?_
    try go_wp2
    go_roundg k1
    case measure => have := HK1.out; omega
    case rel => exact ⟨(wrap64 (x5_1 + 1)), xR, H', ⟨by have := HK1.out; omega⟩, ⟨by (with_reducible repeat (first | refine blk_drewN ?_ _ | refine blk_drew ?_ | refine blk_alloc ?_ _)); exact BK116.out⟩, ⟨xB⟩⟩
   rw [if_neg c4] at H
   have c4b0 := decide_eq_false c4
   clear c4
   obtain rfl := Option.some.inj H
   go_wp2
   go_ret
   exact ⟨by first | rfl | (simp [errW_none, errW_some] <;> rfl) | (simp [*, errW_none, errW_some] <;> rfl) | (simp [isEmpty_bne]; done), xB⟩
def armadalaw17_same.l0 : Nat → List (S27) → Int → ByteArray → Int → Int → Int → ByteArray → ByteArray → Option (Bool)
 | 0, _, _, _, _, _, _, _, _ => none
 | k + 1, x0, x5, x121000, x121001, x121002, x121003, x121004, x121005 => if x5 < (x0.length : Int) then (if 0 ≤ x5 then (if ((rd_T27 x0 x5).f0).toList = x121000.toList then ((armadaref07_Compare.f k ((rd_T27 x0 x5).f1.f0) ((rd_T27 x0 x5).f1.f1) ((rd_T27 x0 x5).f1.f2) ((rd_T27 x0 x5).f1.f3) ((rd_T27 x0 x5).f1.f4) x121001 x121002 x121003 x121004 x121005).bind fun t123 => (some (t123 == 0))) else (armadalaw17_same.l0 k x0 (wrap64 (x5 + 1)) x121000 x121001 x121002 x121003 x121004 x121005)) else (none)) else (some false)
def armadalaw17_same.f (k : Nat) (l0 : List (S27)) (a1_0 : ByteArray) (a1_1 : Int) (a1_2 : Int) (a1_3 : Int) (a1_4 : ByteArray) (a1_5 : ByteArray) : Option (Bool) := armadalaw17_same.l0 k l0 0 a1_0 a1_1 a1_2 a1_3 a1_4 a1_5
theorem armadalaw17_same.mono_l : ∀ k, (∀ y0 y1 y2 y3 y4 y5 y6 y7, LeO (armadalaw17_same.l0 k y0 y1 y2 y3 y4 y5 y6 y7) (armadalaw17_same.l0 (k + 1) y0 y1 y2 y3 y4 y5 y6 y7))
 | 0 => fun _ _ _ _ _ _ _ _ r h => by simp [armadalaw17_same.l0] at h
 | k + 1 => by
  have ih0 := armadalaw17_same.mono_l k
  ·
   intro y0 y1 y2 y3 y4 y5 y6 y7
   unfold armadalaw17_same.l0
   repeat' first
   | (with_reducible exact ih0 _ _ _ _ _ _ _ _)
   | (with_reducible exact armadaref07_Compare.mono _ _ _ _ _ _ _ _ _ _ _)
   | (with_reducible exact LeO.refl _)
   | (with_reducible exact LeO.none _)
   | (with_reducible refine LeO.ite ?_ ?_)
   | (with_reducible refine LeO.bind ?_ (fun _ => ?_))
   | exact ih0 _ _ _ _ _ _ _ _
   | exact armadaref07_Compare.mono _ _ _ _ _ _ _ _ _ _ _
   | exact LeO.none _
   | refine LeO.ite ?_ ?_
   | refine LeO.bind ?_ (fun _ => ?_)
theorem armadalaw17_same.mono : ∀ a0 a1 a2 a3 a4 a5 a6 k, LeO (armadalaw17_same.f k a0 a1 a2 a3 a4 a5 a6) (armadalaw17_same.f (k + 1) a0 a1 a2 a3 a4 a5 a6) := by
 intro a0 a1 a2 a3 a4 a5 a6 k
 have ih0 := armadalaw17_same.mono_l k
 unfold armadalaw17_same.f
 repeat' first
   | (with_reducible exact ih0 _ _ _ _ _ _ _ _)
   | (with_reducible exact armadaref07_Compare.mono _ _ _ _ _ _ _ _ _ _ _)
   | (with_reducible exact LeO.refl _)
   | (with_reducible exact LeO.none _)
   | (with_reducible refine LeO.ite ?_ ?_)
   | (with_reducible refine LeO.bind ?_ (fun _ => ?_))
   | exact ih0 _ _ _ _ _ _ _ _
   | exact armadaref07_Compare.mono _ _ _ _ _ _ _ _ _ _ _
   | exact LeO.none _
   | refine LeO.ite ?_ ?_
   | refine LeO.bind ?_ (fun _ => ?_)
def armadalaw17_same.T4 : Bool × List (List Nat × List Nat) := (true, [([], []), ([], []), ([0, 1], [0, 1]), ([2], [2]), ([3], [3]), ([], []), ([5], [5]), ([4, 6], [4, 6])])
def armadalaw17_same.B4 : List Nat := [0, 0, 3, 7, 15, 0, 32, 127]
theorem armadalaw17_same.tab4 : rtab .any (opsOf Tryz.f27 4) = armadalaw17_same.T4 := by kernel_rfl
theorem armadalaw17_same.bits4 : waitsOk armadalaw17_same.T4.2 armadalaw17_same.B4 = true := by kernel_rfl
def armadalaw17_same.T5 : Bool × List (List Nat × List Nat) := (true, [([], []), ([], []), ([0, 1], [0, 1]), ([2], [2]), ([3], [3]), ([], []), ([5], [5]), ([4, 6], [4, 6]), ([7], [7]), ([8, 7, 0, 1, 2, 3, 4, 5, 6, 7, 8], [8])])
def armadalaw17_same.B5 : List Nat := [0, 0, 3, 7, 15, 0, 32, 127, 255, 511]
theorem armadalaw17_same.tab5 : rtab .any (opsOf Tryz.f27 5) = armadalaw17_same.T5 := by kernel_rfl
theorem armadalaw17_same.bits5 : waitsOk armadalaw17_same.T5.2 armadalaw17_same.B5 = true := by kernel_rfl
set_option maxHeartbeats 8000000 in
set_option maxRecDepth 100000 in
theorem armadalaw17_same.calls (k : Nat) (A0 : Option Addr) (c0 : Nat) (l0 : List (S27)) (a1_0 : ByteArray) (a1_1 : Int) (a1_2 : Int) (a1_3 : Int) (a1_4 : ByteArray) (a1_5 : ByteArray) (r : Bool) (w : World) (hr0 : Kd.C k27 w A0 l0.length l0) (hc0 : l0.length ≤ c0) (h : armadalaw17_same.f k l0 a1_0 a1_1 a1_2 a1_3 a1_4 a1_5 = some r) :
  Calls Tryz.prog 27 #[.slice A0 l0.length c0, .agg #[.string a1_0, .int .i64 a1_1, .int .i64 a1_2, .int .i64 a1_3, .string a1_4, .string a1_5]] w fun e w' => e = .returned (.bool r) ∧ Below w.heap.size w w' := by
 have hu27 := Tryz.underlying27
 have hu25 := Tryz.underlying25
 have HR0 := Aside0.mk hr0
 have HC0 := Aside0.mk hc0
 clear hr0 hc0
 have HB := Aside0.mk (Below.refl w.heap.size w)
 have H : (armadalaw17_same.l0 k l0 0 a1_0 a1_1 a1_2 a1_3 a1_4 a1_5) = some r := h
 clear h
 have H' := Aside0.mk H
 clear H
 go_enter Tryz.func27, Tryz.ntmps27
 go_wp2_with (first | ((with_reducible refine gate_dst (N := 3) rfl ?_); refine box_event ?hg (N := 3) ?hd (cs := #[.string a1_0, .int .i64 a1_1, .int .i64 a1_2, .int .i64 a1_3, .string a1_4, .string a1_5]) (t := 27) ?hr ?_; (case hd => rfl); (case hg => rfl); (case hr => first | (go_simp; done) | (go_simp; rfl)); intro gb120 hg w3 hbox hb; have BK120 := Aside0.mk (hbox); have GW120 := Aside0.mk ((by rw [hg]; exact (below_size xB) : w.heap.size ≤ gb120)); have GE120 := Aside0.mk ((by rw [hg]; exact (below_size xB) : w.heap.size ≤ gb120)); replace HB := Aside0.mk (below_step xB hb); clear hb hbox hg))
 go_loopg [5] k (fun kq v5 w' => ∃ (x5_1 : Int), v5 = .int .i64 x5_1 ∧ Aside0 (armadalaw17_same.l0 kq l0 x5_1 a1_0 a1_1 a1_2 a1_3 a1_4 a1_5 = some r) ∧ Aside0 (kq ≤ k) ∧ Aside0 (w'.heap[gb120]? = some (.cells #[.string a1_0, .int .i64 a1_1, .int .i64 a1_2, .int .i64 a1_3, .string a1_4, .string a1_5] 27 (0, 0))) ∧ Aside0 (Below w.heap.size w w'))
 case atStart => exact ⟨(0), xR, H', ⟨Nat.le_refl _⟩, ⟨by (with_reducible repeat (first | refine blk_drewN ?_ _ | refine blk_drew ?_ | refine blk_alloc ?_ _)); exact BK120.out⟩, ⟨xB⟩⟩
 case round =>
  clear H'
  try clear c2
  try clear p2
  obtain ⟨x5_1, rfl, HA, HK1, BK120, HB⟩ := hrel
  cases gk with
  | zero => exact absurd HA.out (by simp [armadalaw17_same.l0])
  | succ k1 =>
   have H := HA.out
   clear HA
   simp only [armadalaw17_same.l0] at H
   by_cases c4 : x5_1 < (l0.length : Int)
   ·
    rw [if_pos c4] at H
    have c4b0 := decide_eq_true c4
    clear c4
    replace H := xI H
    obtain ⟨c5, H⟩ := H
    have c5b0 := decide_eq_true c5
    clear c5
    by_cases c6 : ((rd_T27 l0 x5_1).f0).toList = a1_0.toList
    ·
     rw [if_pos c6] at H
     have c6b0 := beq_iff_eq.mpr c6
     have c6b1 := bne_eq_false_iff_eq.mpr c6
     clear c6
     replace H := xb H
     obtain ⟨t123, A7, H⟩ := H
     obtain rfl := Option.some.inj H
     try go_wp2
     have n0_ := Aside0.mk (blk_drew BK120.out)
     have n1_ := Aside0.mk (below_drew1 HB.out)
     clear BK120
     clear HB
     have BK120 := n0_
     have HB := n1_
     clear n0_ n1_
     have p121 : 0 ≤ (x5_1 : Int) := xD
     have q121 : x5_1 < (l0.length : Int) := xD
     obtain ⟨ad121, e121, hx121_0, hx121_1, hx121_2, hx121_3, hx121_4, hx121_5⟩ := at_T27 HR0.out x5_1 p121 q121
     have hw121_5 := hx121_5
     have hw121_4 := hx121_4
     have hw121_3 := hx121_3
     have hw121_2 := hx121_2
     have hw121_1 := hx121_1
     have hw121_0 := hx121_0
     cases e121
     replace hx121_0 := (HB.out.cell (World.block_lt_of_cell? w _ hx121_0)).trans hx121_0
     replace hx121_1 := (HB.out.cell (World.block_lt_of_cell? w _ hx121_1)).trans hx121_1
     replace hx121_2 := (HB.out.cell (World.block_lt_of_cell? w _ hx121_2)).trans hx121_2
     replace hx121_3 := (HB.out.cell (World.block_lt_of_cell? w _ hx121_3)).trans hx121_3
     replace hx121_4 := (HB.out.cell (World.block_lt_of_cell? w _ hx121_4)).trans hx121_4
     replace hx121_5 := (HB.out.cell (World.block_lt_of_cell? w _ hx121_5)).trans hx121_5
     replace p121 := eq_true p121
     replace q121 := eq_true q121
     refine start_ (n := 8) (S := fun w' => w'.cell? ⟨gb120, 0, none⟩ = some (.string a1_0) ∧ w'.cell? ⟨gb120, 1, none⟩ = some (.int .i64 a1_1) ∧ w'.cell? ⟨gb120, 2, none⟩ = some (.int .i64 a1_2) ∧ w'.cell? ⟨gb120, 3, none⟩ = some (.int .i64 a1_3) ∧ w'.cell? ⟨gb120, 4, none⟩ = some (.string a1_4) ∧ w'.cell? ⟨gb120, 5, none⟩ = some (.string a1_5) ∧ w'.cell? (ad121.add ((x5_1).toNat * 6)) = some (.string ((rd_T27 l0 x5_1).f0)) ∧ w'.cell? ⟨(ad121.add ((x5_1).toNat * 6)).block, (ad121.add ((x5_1).toNat * 6)).off + 1, none⟩ = some (.int .i64 ((rd_T27 l0 x5_1).f1.f0)) ∧ w'.cell? ⟨(ad121.add ((x5_1).toNat * 6)).block, (ad121.add ((x5_1).toNat * 6)).off + 2, none⟩ = some (.int .i64 ((rd_T27 l0 x5_1).f1.f1)) ∧ w'.cell? ⟨(ad121.add ((x5_1).toNat * 6)).block, (ad121.add ((x5_1).toNat * 6)).off + 3, none⟩ = some (.int .i64 ((rd_T27 l0 x5_1).f1.f2)) ∧ w'.cell? ⟨(ad121.add ((x5_1).toNat * 6)).block, (ad121.add ((x5_1).toNat * 6)).off + 4, none⟩ = some (.string ((rd_T27 l0 x5_1).f1.f3)) ∧ w'.cell? ⟨(ad121.add ((x5_1).toNat * 6)).block, (ad121.add ((x5_1).toNat * 6)).off + 5, none⟩ = some (.string ((rd_T27 l0 x5_1).f1.f4))) (ds := []) #[ff, ff, ff, ff, ff, ff, ff, ff] (by kernel_rfl) rfl rfl ⟨(blk_cell BK120.out 0).trans rfl, (blk_cell BK120.out 1).trans rfl, (blk_cell BK120.out 2).trans rfl, (blk_cell BK120.out 3).trans rfl, (blk_cell BK120.out 4).trans rfl, (blk_cell BK120.out 5).trans rfl, ((HB.out.cell (World.block_lt_of_cell? w _ hw121_0)).trans hw121_0), ((HB.out.cell (World.block_lt_of_cell? w _ hw121_1)).trans hw121_1), ((HB.out.cell (World.block_lt_of_cell? w _ hw121_2)).trans hw121_2), ((HB.out.cell (World.block_lt_of_cell? w _ hw121_3)).trans hw121_3), ((HB.out.cell (World.block_lt_of_cell? w _ hw121_4)).trans hw121_4), ((HB.out.cell (World.block_lt_of_cell? w _ hw121_5)).trans hw121_5)⟩ (fun hHeld => ?_); refine with_tabW armadalaw17_same.tab4 armadalaw17_same.bits4 (fun HT_ HW_ => ?_)
     generalize wr.drew = w8 at BK120 HB hx121_0 hx121_1 hx121_2 hx121_3 hx121_4 hx121_5 hHeld ⊢
     refine pure_ (i := 0) (N := some 12) (v := ?_) (a' := ?_) #[tt, ff, ff, ff, ff, ff, ff, ff] rfl rfl (any_of HT_.out (by kernel_rfl)) (fun _ _ _ h => h) (Or.inl ⟨by rfl, ?_⟩) ?_ ?_
     rotate_left
     ·
      intro w'
      go_simp
      with_reducible rfl
     rotate_left
     ·
      simp only [Act.put, List.setIfInBounds_toArray, List.set_cons_zero, List.set_cons_succ, i64_w, i32_w]
      rfl
     refine pure_ (i := 1) (N := some 13) (v := ?_) (a' := ?_) #[tt, tt, ff, ff, ff, ff, ff, ff] rfl rfl (any_of HT_.out (by kernel_rfl)) (fun _ _ _ h => h) (Or.inl ⟨by rfl, ?_⟩) ?_ ?_
     rotate_left
     ·
      intro w'
      go_simp
      with_reducible rfl
     rotate_left
     ·
      simp only [Act.put, List.setIfInBounds_toArray, List.set_cons_zero, List.set_cons_succ, i64_w, i32_w]
      rfl
     refine pure_ (i := 2) (N := some 14) (v := ?_) (a' := ?_) #[tt, tt, tt, ff, ff, ff, ff, ff] rfl rfl (any_of HT_.out (by kernel_rfl)) (fun _ _ _ h => h) (Or.inl ⟨by rfl, ?_⟩) ?_ ?_
     rotate_left
     ·
      intro w'
      go_simp
      with_reducible rfl
     rotate_left
     ·
      simp only [Act.put, List.setIfInBounds_toArray, List.set_cons_zero, List.set_cons_succ, i64_w, i32_w]
      rfl
     refine pure_ (i := 3) (N := some 15) (v := ?_) (a' := ?_) #[tt, tt, tt, tt, ff, ff, ff, ff] rfl rfl (any_of HT_.out (by kernel_rfl)) (fun _ _ _ h => h) (Or.inl ⟨by rfl, ?_⟩) ?_ ?_
     rotate_left
     ·
      intro w'
      go_simp
      with_reducible rfl
     rotate_left
     ·
      simp only [Act.put, List.setIfInBounds_toArray, List.set_cons_zero, List.set_cons_succ, i64_w, i32_w]
      rfl
     refine pure_ (i := 5) (N := some 17) (v := ?_) (a' := ?_) #[tt, tt, tt, tt, ff, tt, ff, ff] rfl rfl (any_of HT_.out (by kernel_rfl)) (fun _ _ _ h => h) (Or.inl ⟨by rfl, ?_⟩) ?_ ?_
     rotate_left
     ·
      intro w'
      go_simp
      with_reducible rfl
     rotate_left
     ·
      simp only [Act.put, List.setIfInBounds_toArray, List.set_cons_zero, List.set_cons_succ, i64_w, i32_w]
      rfl
     refine take_ (i := 4) (N := some 16) (v := ?_) (a' := ?_) #[tt, tt, tt, tt, tt, tt, ff, ff] rfl rfl (take_ofW HT_.out HW_.out (by kernel_rfl)) (fun _ _ _ h => h) (Or.inl ⟨by rfl, ?_⟩) hHeld ?_ ?_
     rotate_left
     ·
      rintro w' ⟨s0, s1, s2, s3, s4, s5, s6, s7, s8, s9, s10, s11⟩
      go_simp
      with_reducible rfl
     rotate_left
     ·
      simp only [Act.put, List.setIfInBounds_toArray, List.set_cons_zero, List.set_cons_succ, i64_w, i32_w]
      rfl
     refine take_ (i := 6) (N := some 18) (v := ?_) (a' := ?_) #[tt, tt, tt, tt, tt, tt, tt, ff] rfl rfl (take_ofW HT_.out HW_.out (by kernel_rfl)) (fun _ _ _ h => h) (Or.inl ⟨by rfl, ?_⟩) hHeld ?_ ?_
     rotate_left
     ·
      rintro w' ⟨s0, s1, s2, s3, s4, s5, s6, s7, s8, s9, s10, s11⟩
      go_simp
      with_reducible rfl
     rotate_left
     ·
      simp only [Act.put, List.setIfInBounds_toArray, List.set_cons_zero, List.set_cons_succ, i64_w, i32_w]
      rfl
     refine pure_ (i := 7) (N := some 19) (v := ?_) (a' := ?_) #[tt, tt, tt, tt, tt, tt, tt, tt] rfl rfl (any_of HT_.out (by kernel_rfl)) (fun _ _ _ h => h) (Or.inl ⟨by rfl, ?_⟩) ?_ ?_
     rotate_left
     ·
      intro w'
      go_simp
      with_reducible rfl
     rotate_left
     ·
      simp only [Act.put, List.setIfInBounds_toArray, List.set_cons_zero, List.set_cons_succ, i64_w, i32_w]
      rfl
     refine done_ (done_of HT_.out (by kernel_rfl)) ?_
     try go_wp2
     have n0_ := Aside0.mk (blk_drew BK120.out)
     have n1_ := Aside0.mk (below_drew1 HB.out)
     clear BK120
     clear HB
     have BK120 := n0_
     have HB := n1_
     clear n0_ n1_
     have p122 : 0 ≤ (x5_1 : Int) := xD
     have q122 : x5_1 < (l0.length : Int) := xD
     obtain ⟨ad122, e122, hx122_0, hx122_1, hx122_2, hx122_3, hx122_4, hx122_5⟩ := at_T27 HR0.out x5_1 p122 q122
     have hw122_5 := hx122_5
     have hw122_4 := hx122_4
     have hw122_3 := hx122_3
     have hw122_2 := hx122_2
     have hw122_1 := hx122_1
     have hw122_0 := hx122_0
     obtain rfl : ad121 = ad122 := (by injection e122)
     replace hx122_0 := (HB.out.cell (World.block_lt_of_cell? w _ hx122_0)).trans hx122_0
     replace hx122_1 := (HB.out.cell (World.block_lt_of_cell? w _ hx122_1)).trans hx122_1
     replace hx122_2 := (HB.out.cell (World.block_lt_of_cell? w _ hx122_2)).trans hx122_2
     replace hx122_3 := (HB.out.cell (World.block_lt_of_cell? w _ hx122_3)).trans hx122_3
     replace hx122_4 := (HB.out.cell (World.block_lt_of_cell? w _ hx122_4)).trans hx122_4
     replace hx122_5 := (HB.out.cell (World.block_lt_of_cell? w _ hx122_5)).trans hx122_5
     replace p122 := eq_true p122
     replace q122 := eq_true q122
     refine start_ (n := 10) (S := fun w' => w'.cell? ⟨gb120, 0, none⟩ = some (.string a1_0) ∧ w'.cell? ⟨gb120, 1, none⟩ = some (.int .i64 a1_1) ∧ w'.cell? ⟨gb120, 2, none⟩ = some (.int .i64 a1_2) ∧ w'.cell? ⟨gb120, 3, none⟩ = some (.int .i64 a1_3) ∧ w'.cell? ⟨gb120, 4, none⟩ = some (.string a1_4) ∧ w'.cell? ⟨gb120, 5, none⟩ = some (.string a1_5) ∧ w'.cell? (ad121.add ((x5_1).toNat * 6)) = some (.string ((rd_T27 l0 x5_1).f0)) ∧ w'.cell? ⟨(ad121.add ((x5_1).toNat * 6)).block, (ad121.add ((x5_1).toNat * 6)).off + 1, none⟩ = some (.int .i64 ((rd_T27 l0 x5_1).f1.f0)) ∧ w'.cell? ⟨(ad121.add ((x5_1).toNat * 6)).block, (ad121.add ((x5_1).toNat * 6)).off + 2, none⟩ = some (.int .i64 ((rd_T27 l0 x5_1).f1.f1)) ∧ w'.cell? ⟨(ad121.add ((x5_1).toNat * 6)).block, (ad121.add ((x5_1).toNat * 6)).off + 3, none⟩ = some (.int .i64 ((rd_T27 l0 x5_1).f1.f2)) ∧ w'.cell? ⟨(ad121.add ((x5_1).toNat * 6)).block, (ad121.add ((x5_1).toNat * 6)).off + 4, none⟩ = some (.string ((rd_T27 l0 x5_1).f1.f3)) ∧ w'.cell? ⟨(ad121.add ((x5_1).toNat * 6)).block, (ad121.add ((x5_1).toNat * 6)).off + 5, none⟩ = some (.string ((rd_T27 l0 x5_1).f1.f4))) (ds := []) #[ff, ff, ff, ff, ff, ff, ff, ff, ff, ff] (by kernel_rfl) rfl rfl ⟨(blk_cell BK120.out 0).trans rfl, (blk_cell BK120.out 1).trans rfl, (blk_cell BK120.out 2).trans rfl, (blk_cell BK120.out 3).trans rfl, (blk_cell BK120.out 4).trans rfl, (blk_cell BK120.out 5).trans rfl, ((HB.out.cell (World.block_lt_of_cell? w _ hw122_0)).trans hw122_0), ((HB.out.cell (World.block_lt_of_cell? w _ hw122_1)).trans hw122_1), ((HB.out.cell (World.block_lt_of_cell? w _ hw122_2)).trans hw122_2), ((HB.out.cell (World.block_lt_of_cell? w _ hw122_3)).trans hw122_3), ((HB.out.cell (World.block_lt_of_cell? w _ hw122_4)).trans hw122_4), ((HB.out.cell (World.block_lt_of_cell? w _ hw122_5)).trans hw122_5)⟩ (fun hHeld => ?_); refine with_tabW armadalaw17_same.tab5 armadalaw17_same.bits5 (fun HT_ HW_ => ?_)
     generalize w8.drew = w9 at BK120 HB hx122_0 hx122_1 hx122_2 hx122_3 hx122_4 hx122_5 hHeld ⊢
     refine pure_ (i := 0) (N := some 20) (v := ?_) (a' := ?_) #[tt, ff, ff, ff, ff, ff, ff, ff, ff, ff] rfl rfl (any_of HT_.out (by kernel_rfl)) (fun _ _ _ h => h) (Or.inl ⟨by rfl, ?_⟩) ?_ ?_
     rotate_left
     ·
      intro w'
      go_simp
      with_reducible rfl
     rotate_left
     ·
      simp only [Act.put, List.setIfInBounds_toArray, List.set_cons_zero, List.set_cons_succ, i64_w, i32_w]
      rfl
     refine pure_ (i := 1) (N := some 21) (v := ?_) (a' := ?_) #[tt, tt, ff, ff, ff, ff, ff, ff, ff, ff] rfl rfl (any_of HT_.out (by kernel_rfl)) (fun _ _ _ h => h) (Or.inl ⟨by rfl, ?_⟩) ?_ ?_
     rotate_left
     ·
      intro w'
      go_simp
      with_reducible rfl
     rotate_left
     ·
      simp only [Act.put, List.setIfInBounds_toArray, List.set_cons_zero, List.set_cons_succ, i64_w, i32_w]
      rfl
     refine pure_ (i := 2) (N := some 22) (v := ?_) (a' := ?_) #[tt, tt, tt, ff, ff, ff, ff, ff, ff, ff] rfl rfl (any_of HT_.out (by kernel_rfl)) (fun _ _ _ h => h) (Or.inl ⟨by rfl, ?_⟩) ?_ ?_
     rotate_left
     ·
      intro w'
      go_simp
      with_reducible rfl
     rotate_left
     ·
      simp only [Act.put, List.setIfInBounds_toArray, List.set_cons_zero, List.set_cons_succ, i64_w, i32_w]
      rfl
     refine pure_ (i := 3) (N := some 23) (v := ?_) (a' := ?_) #[tt, tt, tt, tt, ff, ff, ff, ff, ff, ff] rfl rfl (any_of HT_.out (by kernel_rfl)) (fun _ _ _ h => h) (Or.inl ⟨by rfl, ?_⟩) ?_ ?_
     rotate_left
     ·
      intro w'
      go_simp
      with_reducible rfl
     rotate_left
     ·
      simp only [Act.put, List.setIfInBounds_toArray, List.set_cons_zero, List.set_cons_succ, i64_w, i32_w]
      rfl
     refine pure_ (i := 5) (N := some 25) (v := ?_) (a' := ?_) #[tt, tt, tt, tt, ff, tt, ff, ff, ff, ff] rfl rfl (any_of HT_.out (by kernel_rfl)) (fun _ _ _ h => h) (Or.inl ⟨by rfl, ?_⟩) ?_ ?_
     rotate_left
     ·
      intro w'
      go_simp
      with_reducible rfl
     rotate_left
     ·
      simp only [Act.put, List.setIfInBounds_toArray, List.set_cons_zero, List.set_cons_succ, i64_w, i32_w]
      rfl
     refine take_ (i := 4) (N := some 24) (v := ?_) (a' := ?_) #[tt, tt, tt, tt, tt, tt, ff, ff, ff, ff] rfl rfl (take_ofW HT_.out HW_.out (by kernel_rfl)) (fun _ _ _ h => h) (Or.inl ⟨by rfl, ?_⟩) hHeld ?_ ?_
     rotate_left
     ·
      rintro w' ⟨s0, s1, s2, s3, s4, s5, s6, s7, s8, s9, s10, s11⟩
      go_simp
      with_reducible rfl
     rotate_left
     ·
      simp only [Act.put, List.setIfInBounds_toArray, List.set_cons_zero, List.set_cons_succ, i64_w, i32_w]
      rfl
     refine take_ (i := 6) (N := some 26) (v := ?_) (a' := ?_) #[tt, tt, tt, tt, tt, tt, tt, ff, ff, ff] rfl rfl (take_ofW HT_.out HW_.out (by kernel_rfl)) (fun _ _ _ h => h) (Or.inl ⟨by rfl, ?_⟩) hHeld ?_ ?_
     rotate_left
     ·
      rintro w' ⟨s0, s1, s2, s3, s4, s5, s6, s7, s8, s9, s10, s11⟩
      go_simp
      with_reducible rfl
     rotate_left
     ·
      simp only [Act.put, List.setIfInBounds_toArray, List.set_cons_zero, List.set_cons_succ, i64_w, i32_w]
      rfl
     refine one_ (i := 7) (N := some 27) #[tt, tt, tt, tt, tt, tt, tt, tt, ff, ff] rfl rfl (one_of HT_.out (by kernel_rfl)) (by decide) (fun K hK => ?_)
     refine goes_ Tryz.func26 (by kernel_rfl) rfl #[.agg #[.int .i64 ((rd_T27 l0 x5_1).f1.f0), .int .i64 ((rd_T27 l0 x5_1).f1.f1), .int .i64 ((rd_T27 l0 x5_1).f1.f2), .string ((rd_T27 l0 x5_1).f1.f3), .string ((rd_T27 l0 x5_1).f1.f4)], .agg #[.int .i64 a1_1, .int .i64 a1_2, .int .i64 a1_3, .string a1_4, .string a1_5]] (by rfl) rfl rfl xS ?_
     with_reducible refine (armadaref07_Compare.calls k1 ((rd_T27 l0 x5_1).f1.f0) ((rd_T27 l0 x5_1).f1.f1) ((rd_T27 l0 x5_1).f1.f2) ((rd_T27 l0 x5_1).f1.f3) ((rd_T27 l0 x5_1).f1.f4) a1_1 a1_2 a1_3 a1_4 a1_5 t123 _ A7.out).mono ?_
     rintro e w10 ⟨rfl, hb⟩
     refine ⟨_, rfl, ?_⟩
     have n0_ := Aside0.mk (blk_below (g := gb120) (o := .cells #[.string a1_0, .int .i64 a1_1, .int .i64 a1_2, .int .i64 a1_3, .string a1_4, .string a1_5] 27 (0, 0)) xK hb)
     have n1_ := Aside0.mk (below_step xB hb)
     clear BK120
     clear HB
     have BK120 := n0_
     have HB := n1_
     clear n0_ n1_
     (try clear hb)
     (try clear hb2)
     (try clear hk)
     (try clear hi)
     refine hK.out _ _ ⟨(blk_cell BK120.out 0).trans rfl, (blk_cell BK120.out 1).trans rfl, (blk_cell BK120.out 2).trans rfl, (blk_cell BK120.out 3).trans rfl, (blk_cell BK120.out 4).trans rfl, (blk_cell BK120.out 5).trans rfl, ((HB.out.cell (World.block_lt_of_cell? w _ hw122_0)).trans hw122_0), ((HB.out.cell (World.block_lt_of_cell? w _ hw122_1)).trans hw122_1), ((HB.out.cell (World.block_lt_of_cell? w _ hw122_2)).trans hw122_2), ((HB.out.cell (World.block_lt_of_cell? w _ hw122_3)).trans hw122_3), ((HB.out.cell (World.block_lt_of_cell? w _ hw122_4)).trans hw122_4), ((HB.out.cell (World.block_lt_of_cell? w _ hw122_5)).trans hw122_5)⟩ (fun hHeld => ?_)
     clear hK K
     refine norm_ (a' := ?_) ?_ ?_
     rotate_left
     ·
      show Act.put _ (some 27) _ = _
      simp only [Act.put, List.setIfInBounds_toArray, List.set_cons_zero, List.set_cons_succ, i64_w, i32_w]
      rfl
     refine pure_ (i := 8) (N := some 28) (v := ?_) (a' := ?_) #[tt, tt, tt, tt, tt, tt, tt, tt, tt, ff] rfl rfl (any_of HT_.out (by kernel_rfl)) (fun _ _ _ h => h) (Or.inl ⟨by rfl, ?_⟩) ?_ ?_
     rotate_left
     ·
      intro w'
      go_simp
      with_reducible rfl
     rotate_left
     ·
      simp only [Act.put, List.setIfInBounds_toArray, List.set_cons_zero, List.set_cons_succ, i64_w, i32_w]
      rfl
     refine pure_ (i := 9) (N := some 4) (v := ?_) (a' := ?_) #[tt, tt, tt, tt, tt, tt, tt, tt, tt, tt] rfl rfl (any_of HT_.out (by kernel_rfl)) (fun _ _ _ h => h) (Or.inl ⟨by rfl, ?_⟩) ?_ ?_
     rotate_left
     ·
      intro w'
      go_simp
      with_reducible rfl
     rotate_left
     ·
      simp only [Act.put, List.setIfInBounds_toArray, List.set_cons_zero, List.set_cons_succ, i64_w, i32_w]
      rfl
     refine done_ (done_of HT_.out (by kernel_rfl)) ?_
     try go_wp2
     go_ret
     exact ⟨by first | rfl | (simp [errW_none, errW_some] <;> rfl) | (simp [*, errW_none, errW_some] <;> rfl) | (simp [isEmpty_bne]; done), xB⟩
    rw [if_neg c6] at H
    have c6b0 := beq_eq_false_iff_ne.mpr c6
    have c6b1 := bne_iff_ne.mpr c6
    have H' := Aside0.mk H
    clear H
    try go_wp2
    have n0_ := Aside0.mk (blk_drew BK120.out)
    have n1_ := Aside0.mk (below_drew1 HB.out)
    clear BK120
    clear HB
    have BK120 := n0_
    have HB := n1_
    clear n0_ n1_
    have p121 : 0 ≤ (x5_1 : Int) := xD
    have q121 : x5_1 < (l0.length : Int) := xD
    obtain ⟨ad121, e121, hx121_0, hx121_1, hx121_2, hx121_3, hx121_4, hx121_5⟩ := at_T27 HR0.out x5_1 p121 q121
    have hw121_5 := hx121_5
    have hw121_4 := hx121_4
    have hw121_3 := hx121_3
    have hw121_2 := hx121_2
    have hw121_1 := hx121_1
    have hw121_0 := hx121_0
    cases e121
    replace hx121_0 := (HB.out.cell (World.block_lt_of_cell? w _ hx121_0)).trans hx121_0
    replace hx121_1 := (HB.out.cell (World.block_lt_of_cell? w _ hx121_1)).trans hx121_1
    replace hx121_2 := (HB.out.cell (World.block_lt_of_cell? w _ hx121_2)).trans hx121_2
    replace hx121_3 := (HB.out.cell (World.block_lt_of_cell? w _ hx121_3)).trans hx121_3
    replace hx121_4 := (HB.out.cell (World.block_lt_of_cell? w _ hx121_4)).trans hx121_4
    replace hx121_5 := (HB.out.cell (World.block_lt_of_cell? w _ hx121_5)).trans hx121_5
    replace p121 := eq_true p121
    replace q121 := eq_true q121
    refine start_ (n := 8) (S := fun w' => w'.cell? ⟨gb120, 0, none⟩ = some (.string a1_0) ∧ w'.cell? ⟨gb120, 1, none⟩ = some (.int .i64 a1_1) ∧ w'.cell? ⟨gb120, 2, none⟩ = some (.int .i64 a1_2) ∧ w'.cell? ⟨gb120, 3, none⟩ = some (.int .i64 a1_3) ∧ w'.cell? ⟨gb120, 4, none⟩ = some (.string a1_4) ∧ w'.cell? ⟨gb120, 5, none⟩ = some (.string a1_5) ∧ w'.cell? (ad121.add ((x5_1).toNat * 6)) = some (.string ((rd_T27 l0 x5_1).f0)) ∧ w'.cell? ⟨(ad121.add ((x5_1).toNat * 6)).block, (ad121.add ((x5_1).toNat * 6)).off + 1, none⟩ = some (.int .i64 ((rd_T27 l0 x5_1).f1.f0)) ∧ w'.cell? ⟨(ad121.add ((x5_1).toNat * 6)).block, (ad121.add ((x5_1).toNat * 6)).off + 2, none⟩ = some (.int .i64 ((rd_T27 l0 x5_1).f1.f1)) ∧ w'.cell? ⟨(ad121.add ((x5_1).toNat * 6)).block, (ad121.add ((x5_1).toNat * 6)).off + 3, none⟩ = some (.int .i64 ((rd_T27 l0 x5_1).f1.f2)) ∧ w'.cell? ⟨(ad121.add ((x5_1).toNat * 6)).block, (ad121.add ((x5_1).toNat * 6)).off + 4, none⟩ = some (.string ((rd_T27 l0 x5_1).f1.f3)) ∧ w'.cell? ⟨(ad121.add ((x5_1).toNat * 6)).block, (ad121.add ((x5_1).toNat * 6)).off + 5, none⟩ = some (.string ((rd_T27 l0 x5_1).f1.f4))) (ds := []) #[ff, ff, ff, ff, ff, ff, ff, ff] (by kernel_rfl) rfl rfl ⟨(blk_cell BK120.out 0).trans rfl, (blk_cell BK120.out 1).trans rfl, (blk_cell BK120.out 2).trans rfl, (blk_cell BK120.out 3).trans rfl, (blk_cell BK120.out 4).trans rfl, (blk_cell BK120.out 5).trans rfl, ((HB.out.cell (World.block_lt_of_cell? w _ hw121_0)).trans hw121_0), ((HB.out.cell (World.block_lt_of_cell? w _ hw121_1)).trans hw121_1), ((HB.out.cell (World.block_lt_of_cell? w _ hw121_2)).trans hw121_2), ((HB.out.cell (World.block_lt_of_cell? w _ hw121_3)).trans hw121_3), ((HB.out.cell (World.block_lt_of_cell? w _ hw121_4)).trans hw121_4), ((HB.out.cell (World.block_lt_of_cell? w _ hw121_5)).trans hw121_5)⟩ (fun hHeld => ?_); refine with_tabW armadalaw17_same.tab4 armadalaw17_same.bits4 (fun HT_ HW_ => ?_)
    generalize wr.drew = w11 at BK120 HB hx121_0 hx121_1 hx121_2 hx121_3 hx121_4 hx121_5 hHeld ⊢
    refine pure_ (i := 0) (N := some 12) (v := ?_) (a' := ?_) #[tt, ff, ff, ff, ff, ff, ff, ff] rfl rfl (any_of HT_.out (by kernel_rfl)) (fun _ _ _ h => h) (Or.inl ⟨by rfl, ?_⟩) ?_ ?_
    rotate_left
    ·
     intro w'
     go_simp
     with_reducible rfl
    rotate_left
    ·
     simp only [Act.put, List.setIfInBounds_toArray, List.set_cons_zero, List.set_cons_succ, i64_w, i32_w]
     rfl
    refine pure_ (i := 1) (N := some 13) (v := ?_) (a' := ?_) #[tt, tt, ff, ff, ff, ff, ff, ff] rfl rfl (any_of HT_.out (by kernel_rfl)) (fun _ _ _ h => h) (Or.inl ⟨by rfl, ?_⟩) ?_ ?_
    rotate_left
    ·
     intro w'
     go_simp
     with_reducible rfl
    rotate_left
    ·
     simp only [Act.put, List.setIfInBounds_toArray, List.set_cons_zero, List.set_cons_succ, i64_w, i32_w]
     rfl
    refine pure_ (i := 2) (N := some 14) (v := ?_) (a' := ?_) #[tt, tt, tt, ff, ff, ff, ff, ff] rfl rfl (any_of HT_.out (by kernel_rfl)) (fun _ _ _ h => h) (Or.inl ⟨by rfl, ?_⟩) ?_ ?_
    rotate_left
    ·
     intro w'
     go_simp
     with_reducible rfl
    rotate_left
    ·
     simp only [Act.put, List.setIfInBounds_toArray, List.set_cons_zero, List.set_cons_succ, i64_w, i32_w]
     rfl
    refine pure_ (i := 3) (N := some 15) (v := ?_) (a' := ?_) #[tt, tt, tt, tt, ff, ff, ff, ff] rfl rfl (any_of HT_.out (by kernel_rfl)) (fun _ _ _ h => h) (Or.inl ⟨by rfl, ?_⟩) ?_ ?_
    rotate_left
    ·
     intro w'
     go_simp
     with_reducible rfl
    rotate_left
    ·
     simp only [Act.put, List.setIfInBounds_toArray, List.set_cons_zero, List.set_cons_succ, i64_w, i32_w]
     rfl
    refine pure_ (i := 5) (N := some 17) (v := ?_) (a' := ?_) #[tt, tt, tt, tt, ff, tt, ff, ff] rfl rfl (any_of HT_.out (by kernel_rfl)) (fun _ _ _ h => h) (Or.inl ⟨by rfl, ?_⟩) ?_ ?_
    rotate_left
    ·
     intro w'
     go_simp
     with_reducible rfl
    rotate_left
    ·
     simp only [Act.put, List.setIfInBounds_toArray, List.set_cons_zero, List.set_cons_succ, i64_w, i32_w]
     rfl
    refine take_ (i := 4) (N := some 16) (v := ?_) (a' := ?_) #[tt, tt, tt, tt, tt, tt, ff, ff] rfl rfl (take_ofW HT_.out HW_.out (by kernel_rfl)) (fun _ _ _ h => h) (Or.inl ⟨by rfl, ?_⟩) hHeld ?_ ?_
    rotate_left
    ·
     rintro w' ⟨s0, s1, s2, s3, s4, s5, s6, s7, s8, s9, s10, s11⟩
     go_simp
     with_reducible rfl
    rotate_left
    ·
     simp only [Act.put, List.setIfInBounds_toArray, List.set_cons_zero, List.set_cons_succ, i64_w, i32_w]
     rfl
    refine take_ (i := 6) (N := some 18) (v := ?_) (a' := ?_) #[tt, tt, tt, tt, tt, tt, tt, ff] rfl rfl (take_ofW HT_.out HW_.out (by kernel_rfl)) (fun _ _ _ h => h) (Or.inl ⟨by rfl, ?_⟩) hHeld ?_ ?_
    rotate_left
    ·
     rintro w' ⟨s0, s1, s2, s3, s4, s5, s6, s7, s8, s9, s10, s11⟩
     go_simp
     with_reducible rfl
    rotate_left
    ·
     simp only [Act.put, List.setIfInBounds_toArray, List.set_cons_zero, List.set_cons_succ, i64_w, i32_w]
     rfl
    refine pure_ (i := 7) (N := some 19) (v := ?_) (a' := ?_) #[tt, tt, tt, tt, tt, tt, tt, tt] rfl rfl (any_of HT_.out (by kernel_rfl)) (fun _ _ _ h => h) (Or.inl ⟨by rfl, ?_⟩) ?_ ?_
    rotate_left
    ·
     intro w'
     go_simp
     with_reducible rfl
    rotate_left
    ·
     simp only [Act.put, List.setIfInBounds_toArray, List.set_cons_zero, List.set_cons_succ, i64_w, i32_w]
     rfl
    refine done_ (done_of HT_.out (by kernel_rfl)) ?_
    try go_wp2
    go_roundg k1
    case measure => have := HK1.out; omega
    case rel => exact ⟨(wrap64 (x5_1 + 1)), xR, H', ⟨by have := HK1.out; omega⟩, ⟨by (with_reducible repeat (first | refine blk_drewN ?_ _ | refine blk_drew ?_ | refine blk_alloc ?_ _)); exact BK120.out⟩, ⟨xB⟩⟩
   rw [if_neg c4] at H
   have c4b0 := decide_eq_false c4
   clear c4
   obtain rfl := Option.some.inj H
   go_wp2
   go_ret
   exact ⟨by first | rfl | (simp [errW_none, errW_some] <;> rfl) | (simp [*, errW_none, errW_some] <;> rfl) | (simp [isEmpty_bne]; done), xB⟩
end Go.Proofs.YtkidfclnakbgiaaGreatDoor.RS
end
