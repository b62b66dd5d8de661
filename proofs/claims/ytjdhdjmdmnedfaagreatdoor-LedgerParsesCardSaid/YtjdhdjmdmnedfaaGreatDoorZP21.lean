/- The texts R5x2 in one file, without what these claims do not use (put together by prune2.py). -/
import Derived.Test.YtjdhdjmdmnedfaaGreatDoorZP3
import Derived.Test.YtjdhdjmdmnedfaaGreatDoorZP19
section
namespace Go.Proofs.YtjdhdjmdmnedfaaGreatDoor.R5
open Go.RowKit Go.Proofs.YtjdhdjmdmnedfaaGreatDoor Go.Proofs.YtjdhdjmdmnedfaaGreatDoor.K0 Go.Proofs.YtjdhdjmdmnedfaaGreatDoor.R1 Go.Proofs.YtjdhdjmdmnedfaaGreatDoor.R2 Go.Proofs.YtjdhdjmdmnedfaaGreatDoor.R3 Go.Proofs.YtjdhdjmdmnedfaaGreatDoor.R4 Go.Proofs.YtjdhdjmdmnedfaaGreatDoorW.PrintWords Go.Proofs.YtjdhdjmdmnedfaaGreatDoorW.PrintLast Go.Proofs.YtjdhdjmdmnedfaaGreatDoorW.PrintMore
attribute [local go_sem] max2_int min2_int max_two min_two max_three min_three max_four min_four
set_option linter.unusedVariables false
set_option linter.unusedSimpArgs false
def ledger_Add.f (l0 : List (S32)) (a1_0 : ByteArray) (a1_1 : Int) (a1_2 : Int) (a1_3 : Int) (a1_4 : ByteArray) (a1_5 : ByteArray) (a1_6 : ByteArray) : Option ((List (S32)) × Int) := (ledger_wrong.f l0 a1_0 a1_1 a1_2 a1_3 a1_4 a1_5 a1_6).bind fun t140 => (if t140 = 0 then ((slices_Clone.f l0).bind fun t141 => ((some (([(⟨a1_0, (⟨a1_1, a1_2, a1_3, a1_4, a1_5⟩ : S30), a1_6⟩ : S32)] : List (S32)) : List (S32))).bind fun y144 => (if t141.length + y144.length < 1599289640401 then (some ((t141 ++ y144), 0)) else (none)))) else (some (([] : List (S32)), t140)))
set_option maxHeartbeats 8000000 in
set_option maxRecDepth 100000 in
theorem ledger_Add.calls (A0 : Option Addr) (c0 : Nat) (l0 : List (S32)) (a1_0 : ByteArray) (a1_1 : Int) (a1_2 : Int) (a1_3 : Int) (a1_4 : ByteArray) (a1_5 : ByteArray) (a1_6 : ByteArray) (r1 : List (S32)) (r2 : Int) (w : World) (hr0 : Kd.C k32 w A0 l0.length l0) (hc0 : l0.length ≤ c0) (hG : GW w) (h : ledger_Add.f l0 a1_0 a1_1 a1_2 a1_3 a1_4 a1_5 a1_6 = some (r1, r2)) :
  Calls Tryz.prog 12 #[.slice A0 l0.length c0, .agg #[.string a1_0, .int .i64 a1_1, .int .i64 a1_2, .int .i64 a1_3, .string a1_4, .string a1_5, .string a1_6]] w fun e w' => ∃ v0_ : Value, e = .returned (.tuple #[v0_, .int .i64 r2]) ∧ Kd.R k32 32 w' w.heap.size (fun _ => True) v0_ r1 ∧ Below w.heap.size w w' := by
 have hu32 := Tryz.underlying32; have HR0 := Aside0.mk hr0; have HC0 := Aside0.mk hc0; clear hr0 hc0; have HGW := Aside0.mk hG; clear hG; have HB := Aside0.mk (Below.refl w.heap.size w); have H : ((ledger_wrong.f l0 a1_0 a1_1 a1_2 a1_3 a1_4 a1_5 a1_6).bind fun t140 => (if t140 = 0 then ((slices_Clone.f l0).bind fun t141 => ((some (([(⟨a1_0, (⟨a1_1, a1_2, a1_3, a1_4, a1_5⟩ : S30), a1_6⟩ : S32)] : List (S32)) : List (S32))).bind fun y144 => (if t141.length + y144.length < 1599289640401 then (some ((t141 ++ y144), 0)) else (none)))) else (some (([] : List (S32)), t140)))) = some (r1, r2) := h; clear h; replace H := xb H; obtain ⟨t140, A3, H⟩ := H; replace H := xJ H; rcases H with ⟨c4, H⟩ | ⟨c4, H⟩
 ·
  have c4b0 := beq_iff_eq.mpr c4; have c4b1 := bne_eq_false_iff_eq.mpr c4; clear c4; replace H := xb H; obtain ⟨t141, A5, H⟩ := H; obtain ⟨y144, hy144⟩ : ∃ y_ : List (S32), y_ = (([(⟨a1_0, (⟨a1_1, a1_2, a1_3, a1_4, a1_5⟩ : S30), a1_6⟩ : S32)] : List (S32))) := ⟨_, rfl⟩
  replace H : (if t141.length + y144.length < 1599289640401 then (some ((t141 ++ y144), 0)) else (none)) = some (r1, r2) := by first | (rw [hy144]; with_reducible exact H) | (have H2_ := (Option.bind_some _ _).symm.trans H; rw [hy144]; with_reducible exact H2_) | (have H2_ := (Option.bind_some _ _).symm.trans H; with_reducible exact H2_) | with_reducible exact H | (rw [hy144]; exact H) | exact H
  have Ny144 := Aside0.mk hy144; clear hy144; replace H := xI H; obtain ⟨c6, H⟩ := H; have LMc6 := Aside0.mk c6; clear c6; obtain ⟨y147, hy147⟩ : ∃ y_ : List (S32), y_ = (t141 ++ y144) := ⟨_, rfl⟩
  replace H : (some (y147, 0)) = some (r1, r2) := by first | (rw [hy147]; with_reducible exact H) | (have H2_ := (Option.bind_some _ _).symm.trans H; rw [hy147]; with_reducible exact H2_) | (have H2_ := (Option.bind_some _ _).symm.trans H; with_reducible exact H2_) | with_reducible exact H | (rw [hy147]; exact H) | exact H
  have Ny147 := Aside0.mk hy147; clear hy147; simp only [Option.some.injEq, Prod.mk.injEq] at H; obtain ⟨rfl, rfl⟩ := H; go_enter Tryz.func12, Tryz.ntmps12
  try go_wp2_with (first | ((with_reducible refine gate_dst (N := 3) rfl ?_); refine box_event ?hg (N := 3) ?hd (cs := #[.string a1_0, .int .i64 a1_1, .int .i64 a1_2, .int .i64 a1_3, .string a1_4, .string a1_5, .string a1_6]) (t := 32) ?hr ?_; (case hd => rfl); (case hg => rfl); (case hr => first | (go_simp; done) | (go_simp; rfl)); intro gb139 hg w7 hbox hb; have BK139 := Aside0.mk (hbox); have GW139 := Aside0.mk ((by rw [hg]; exact (below_size xB) : w.heap.size ≤ gb139)); have GE139 := Aside0.mk ((by rw [hg]; exact (below_size xB) : w.heap.size ≤ gb139)); replace HB := Aside0.mk (below_step xB hb); clear hb hbox hg; obtain ⟨hcz8_0, hcz8_1, hcz8_2, hcz8_3, hcz8_4, hcz8_5, hcz8_6⟩ := xC7 BK139.out; obtain ⟨hfz8_0, hfz8_1, hfz8_2, hfz8_3, hfz8_4, hfz8_5, hfz8_6⟩ := xF7 BK139.out) | ((with_reducible refine gate_callee (f := 18) rfl ?_); refine goesL_ (some 9) rfl rfl Tryz.func18 (by kernel_rfl) rfl #[.slice A0 l0.length c0, .agg #[.string a1_0, .int .i64 a1_1, .int .i64 a1_2, .int .i64 a1_3, .string a1_4, .string a1_5, .string a1_6]] rfl xS ?_; (with_reducible refine (ledger_wrong.calls _ _ l0 a1_0 a1_1 a1_2 a1_3 a1_4 a1_5 a1_6 t140 _ ?side1 ?side2 ?side3 A3.out).mono ?_); (case side1 => repeat (first | exact (Kd.C_below HR0.out HB.out) | (with_reducible refine Kd.C_alloc ?_ _) | (with_reducible refine Kd.C_drewN ?_ _) | (with_reducible refine Kd.C_drew ?_))); (case side2 => exact HC0.out); (case side3 => exact GW.below HGW.out xB); rintro e w9 ⟨rfl, hb⟩; refine ⟨_, rfl, ?_⟩; replace BK139 := Aside0.mk (blk_below (g := gb139) (o := .cells #[.string a1_0, .int .i64 a1_1, .int .i64 a1_2, .int .i64 a1_3, .string a1_4, .string a1_5, .string a1_6] 32 (0, 0)) xK hb); replace HB := Aside0.mk (below_step xB hb); (try clear hb)))
  have n0_ := Aside0.mk (blk_drew BK139.out); have n1_ := Aside0.mk (below_drew1 HB.out); clear BK139; clear HB; have BK139 := n0_; have HB := n1_; clear n0_ n1_; refine start_ (n := 7) (S := fun w' => w'.cell? ⟨gb139, 0, none⟩ = some (.string a1_0) ∧ w'.cell? ⟨gb139, 1, none⟩ = some (.int .i64 a1_1) ∧ w'.cell? ⟨gb139, 2, none⟩ = some (.int .i64 a1_2) ∧ w'.cell? ⟨gb139, 3, none⟩ = some (.int .i64 a1_3) ∧ w'.cell? ⟨gb139, 4, none⟩ = some (.string a1_4) ∧ w'.cell? ⟨gb139, 5, none⟩ = some (.string a1_5) ∧ w'.cell? ⟨gb139, 6, none⟩ = some (.string a1_6)) (ds := []) #[false, false, false, false, false, false, false] (by kernel_rfl) rfl rfl ⟨(blk_cell BK139.out 0).trans rfl, (blk_cell BK139.out 1).trans rfl, (blk_cell BK139.out 2).trans rfl, (blk_cell BK139.out 3).trans rfl, (blk_cell BK139.out 4).trans rfl, (blk_cell BK139.out 5).trans rfl, (blk_cell BK139.out 6).trans rfl⟩ (fun hHeld => ?_)
  generalize w9.drew = w10 at BK139 HB hHeld ⊢
  refine pure_ (i := 0) (N := some 13) (v := ?_) (a' := ?_) #[true, false, false, false, false, false, false] rfl rfl (by kernel_rfl) (fun _ _ _ h => h) (Or.inl ⟨by rfl, ?_⟩) ?_ ?_
  rotate_left
  ·
   intro w'; go_simp
   with_reducible rfl
  rotate_left
  ·
   simp only [Act.put, z1, z2, z3, i64_w, i32_w]
   rfl
  refine take_ (i := 2) (N := some 15) (v := ?_) (a' := ?_) #[true, false, true, false, false, false, false] rfl rfl (by kernel_rfl) (fun _ _ _ h => h) (Or.inl ⟨by rfl, ?_⟩) hHeld ?_ ?_
  rotate_left
  ·
   rintro w' ⟨s0, s1, s2, s3, s4, s5, s6⟩
   go_simp
   with_reducible rfl
  rotate_left
  ·
   simp only [Act.put, z1, z2, z3, i64_w, i32_w]
   rfl
  refine join_ (σ := Value × Value) 3 #[true, true, true, true, false, false, false] (fun s_ => [(14, s_.1), (16, s_.2)]) (fun s_ w' => (w'.cell? ⟨gb139, 0, none⟩ = some (.string a1_0) ∧ w'.cell? ⟨gb139, 1, none⟩ = some (.int .i64 a1_1) ∧ w'.cell? ⟨gb139, 2, none⟩ = some (.int .i64 a1_2) ∧ w'.cell? ⟨gb139, 3, none⟩ = some (.int .i64 a1_3) ∧ w'.cell? ⟨gb139, 4, none⟩ = some (.string a1_4) ∧ w'.cell? ⟨gb139, 5, none⟩ = some (.string a1_5) ∧ w'.cell? ⟨gb139, 6, none⟩ = some (.string a1_6)) ∧ (Kd.R k32 32 w' w.heap.size (fun k_ => some k_ ≠ (s_.2 : Value).ownBlock ∧ k_ ≠ gb139) s_.1 t141) ∧ (Kd.R k32 32 w' w.heap.size (fun k_ => some k_ ≠ (s_.1 : Value).ownBlock ∧ k_ ≠ gb139) s_.2 y144) ∧ (w'.heap[gb139]? = some (.cells #[.string a1_0, .int .i64 a1_1, .int .i64 a1_2, .int .i64 a1_3, .string a1_4, .string a1_5, .string a1_6] 32 (0, 0))) ∧ (Below w.heap.size w w')) ?_ ?_
  rotate_left
  ·
   intro hCont; refine two_ (i := 1) (j := 3) (Ni := some 14) (Nj := some 16) #[true, true, true, false, false, false, false] #[true, false, true, true, false, false, false] rfl rfl rfl rfl (by kernel_rfl) (by decide) (by decide) (fun K hK => ?_) (fun K hK => ?_)
   ·
    skip
    refine goes_ Tryz.func25 (by kernel_rfl) rfl #[.slice A0 l0.length c0] (by rfl) rfl rfl xS ?_
    with_reducible refine (slices_Clone.calls _ _ l0 t141 _ ?side1 ?side2 A5.out).mono ?_
    (case side1 => repeat (first | exact (Kd.C_below HR0.out HB.out) | (with_reducible refine Kd.C_alloc ?_ _) | (with_reducible refine Kd.C_drewN ?_ _) | (with_reducible refine Kd.C_drew ?_)))
    (case side2 => exact HC0.out)
    rintro e w11 ⟨v142, rfl, ho0, hb⟩
    refine ⟨_, rfl, ?_⟩; have n0_ := Aside0.mk (Kd.R_lower (Kd.R_newB ho0 (g := gb139) (o := .cells #[.string a1_0, .int .i64 a1_1, .int .i64 a1_2, .int .i64 a1_3, .string a1_4, .string a1_5, .string a1_6] 32 (0, 0)) xK) (below_size xB)); have n1_ := Aside0.mk (blk_below (g := gb139) (o := .cells #[.string a1_0, .int .i64 a1_1, .int .i64 a1_2, .int .i64 a1_3, .string a1_4, .string a1_5, .string a1_6] 32 (0, 0)) xK hb); have n2_ := Aside0.mk (below_step xB hb); clear BK139; clear HB; have HO143 := n0_; have BK139 := n1_; have HB := n2_; clear n0_ n1_ n2_
    (try clear hb)
    (try clear hb2)
    (try clear hk)
    (try clear hi)
    (try clear ho0)
    refine hK.out _ _ ⟨(blk_cell BK139.out 0).trans rfl, (blk_cell BK139.out 1).trans rfl, (blk_cell BK139.out 2).trans rfl, (blk_cell BK139.out 3).trans rfl, (blk_cell BK139.out 4).trans rfl, (blk_cell BK139.out 5).trans rfl, (blk_cell BK139.out 6).trans rfl⟩ (fun hHeld => ?_); clear hK K; refine norm_ (a' := ?_) ?_ ?_
    rotate_left
    ·
     show Act.put _ (some 14) _ = _
     simp only [Act.put, z1, z2, z3, i64_w, i32_w]
     rfl
    refine one_ (i := 3) (N := some 16) #[true, true, true, true, false, false, false] rfl rfl (by kernel_rfl) (by decide) (fun K hK => ?_); refine Kd.R_lit_step k32 _ 32 ?hg (N := 16) ?hd (xs := ([(⟨a1_0, (⟨a1_1, a1_2, a1_3, a1_4, a1_5⟩ : S30), a1_6⟩ : S32)] : List (S32))) (inner := [.string a1_0, .int .i64 a1_1, .int .i64 a1_2, .int .i64 a1_3, .string a1_4, .string a1_5, .string a1_6]) (ok := fun _ => True) (okp := fun _ => True) ?hr ?hp (fun _ hk => hk) trivial (Below.refl _ _) (Nat.le_refl _) (by simp) ?_; (case hd => rfl); (case hg => rfl); (case hr => first | (go_simp; done) | (go_simp; rfl)); (case hp => exact (Reps.c7 (show Kd.M k32 _ _ _ (⟨a1_0, (⟨a1_1, a1_2, a1_3, a1_4, a1_5⟩ : S30), a1_6⟩ : S32) [.string a1_0, .int .i64 a1_1, .int .i64 a1_2, .int .i64 a1_3, .string a1_4, .string a1_5, .string a1_6] from (k32_mkM _ _ _ (⟨a1_0, (⟨a1_1, a1_2, a1_3, a1_4, a1_5⟩ : S30), a1_6⟩ : S32) )) (Reps.none _ _))); intro v145 w12 ho13 hb hg_ hnew_; clear hg_ hnew_
    (first | rw [← Ny144.out] at ho13 | (simp only [Int.reduceToNat] at ho13; rw [← Ny144.out] at ho13))
    have n0_ := Aside0.mk (Kd.R_elder' (by (with_reducible repeat (first | apply Kd.R_alloc | apply Kd.R_drewN | apply Kd.R_drew)); exact HO143.out) (Kd.R_base ho13) hb); have n1_ := Aside0.mk (Kd.R_lower (Kd.R_newB (Kd.R_new' ho13 (Kd.R_lt (by (with_reducible repeat (first | apply Kd.R_alloc | apply Kd.R_drewN | apply Kd.R_drew)); exact HO143.out))) (g := gb139) (o := .cells #[.string a1_0, .int .i64 a1_1, .int .i64 a1_2, .int .i64 a1_3, .string a1_4, .string a1_5, .string a1_6] 32 (0, 0)) xK) (below_size xB)); have n2_ := Aside0.mk (blk_below (g := gb139) (o := .cells #[.string a1_0, .int .i64 a1_1, .int .i64 a1_2, .int .i64 a1_3, .string a1_4, .string a1_5, .string a1_6] 32 (0, 0)) xK hb); have n3_ := Aside0.mk (below_step xB hb); clear HO143; clear BK139; clear HB; have HO143 := n0_; have HO146 := n1_; have BK139 := n2_; have HB := n3_; clear n0_ n1_ n2_ n3_; clear hb ho13; refine hK.out _ _ ⟨(blk_cell BK139.out 0).trans rfl, (blk_cell BK139.out 1).trans rfl, (blk_cell BK139.out 2).trans rfl, (blk_cell BK139.out 3).trans rfl, (blk_cell BK139.out 4).trans rfl, (blk_cell BK139.out 5).trans rfl, (blk_cell BK139.out 6).trans rfl⟩ (fun hHeld => ?_); clear hK K; refine norm_ (a' := ?_) ?_ ?_
    rotate_left
    ·
     show Act.put _ (some 16) _ = _
     simp only [Act.put, z1, z2, z3, i64_w, i32_w]
     rfl
    exact norm_ (by simp only [putAll, Act.put, z1, z2, z3]) (hCont (v142, v145) _ ⟨hHeld, (by (with_reducible repeat (first | apply Kd.R_alloc | apply Kd.R_drewN | apply Kd.R_drew)); exact Kd.R_mono HO143.out (fun _ hk => ⟨hk.2, hk.1.2⟩)), (by (with_reducible repeat (first | apply Kd.R_alloc | apply Kd.R_drewN | apply Kd.R_drew)); exact Kd.R_mono HO146.out (fun _ hk => ⟨hk.1.2, hk.2⟩)), xK, xB⟩)
   ·
    skip
    refine Kd.R_lit_step k32 _ 32 ?hg (N := 16) ?hd (xs := ([(⟨a1_0, (⟨a1_1, a1_2, a1_3, a1_4, a1_5⟩ : S30), a1_6⟩ : S32)] : List (S32))) (inner := [.string a1_0, .int .i64 a1_1, .int .i64 a1_2, .int .i64 a1_3, .string a1_4, .string a1_5, .string a1_6]) (ok := fun _ => True) (okp := fun _ => True) ?hr ?hp (fun _ hk => hk) trivial (Below.refl _ _) (Nat.le_refl _) (by simp) ?_; (case hd => rfl); (case hg => rfl); (case hr => first | (go_simp; done) | (go_simp; rfl)); (case hp => exact (Reps.c7 (show Kd.M k32 _ _ _ (⟨a1_0, (⟨a1_1, a1_2, a1_3, a1_4, a1_5⟩ : S30), a1_6⟩ : S32) [.string a1_0, .int .i64 a1_1, .int .i64 a1_2, .int .i64 a1_3, .string a1_4, .string a1_5, .string a1_6] from (k32_mkM _ _ _ (⟨a1_0, (⟨a1_1, a1_2, a1_3, a1_4, a1_5⟩ : S30), a1_6⟩ : S32) )) (Reps.none _ _))); intro v145 w11 ho12 hb hg_ hnew_; clear hg_ hnew_
    (first | rw [← Ny144.out] at ho12 | (simp only [Int.reduceToNat] at ho12; rw [← Ny144.out] at ho12))
    have n0_ := Aside0.mk (Kd.R_lower (Kd.R_newB ho12 (g := gb139) (o := .cells #[.string a1_0, .int .i64 a1_1, .int .i64 a1_2, .int .i64 a1_3, .string a1_4, .string a1_5, .string a1_6] 32 (0, 0)) xK) (below_size xB)); have n1_ := Aside0.mk (blk_below (g := gb139) (o := .cells #[.string a1_0, .int .i64 a1_1, .int .i64 a1_2, .int .i64 a1_3, .string a1_4, .string a1_5, .string a1_6] 32 (0, 0)) xK hb); have n2_ := Aside0.mk (below_step xB hb); clear BK139; clear HB; have HO146 := n0_; have BK139 := n1_; have HB := n2_; clear n0_ n1_ n2_; clear hb ho12; refine hK.out _ _ ⟨(blk_cell BK139.out 0).trans rfl, (blk_cell BK139.out 1).trans rfl, (blk_cell BK139.out 2).trans rfl, (blk_cell BK139.out 3).trans rfl, (blk_cell BK139.out 4).trans rfl, (blk_cell BK139.out 5).trans rfl, (blk_cell BK139.out 6).trans rfl⟩ (fun hHeld => ?_); clear hK K; refine norm_ (a' := ?_) ?_ ?_
    rotate_left
    ·
     show Act.put _ (some 16) _ = _
     simp only [Act.put, z1, z2, z3, i64_w, i32_w]
     rfl
    refine one_ (i := 1) (N := some 14) #[true, true, true, true, false, false, false] rfl rfl (by kernel_rfl) (by decide) (fun K hK => ?_); refine goes_ Tryz.func25 (by kernel_rfl) rfl #[.slice A0 l0.length c0] (by rfl) rfl rfl xS ?_
    with_reducible refine (slices_Clone.calls _ _ l0 t141 _ ?side1 ?side2 A5.out).mono ?_
    (case side1 => repeat (first | exact (Kd.C_below HR0.out HB.out) | (with_reducible refine Kd.C_alloc ?_ _) | (with_reducible refine Kd.C_drewN ?_ _) | (with_reducible refine Kd.C_drew ?_)))
    (case side2 => exact HC0.out)
    rintro e w13 ⟨v142, rfl, ho0, hb⟩
    refine ⟨_, rfl, ?_⟩; have n0_ := Aside0.mk (Kd.R_elder' (by (with_reducible repeat (first | apply Kd.R_alloc | apply Kd.R_drewN | apply Kd.R_drew)); exact HO146.out) (Kd.R_base ho0) hb); have n1_ := Aside0.mk (Kd.R_lower (Kd.R_newB (Kd.R_new' ho0 (Kd.R_lt (by (with_reducible repeat (first | apply Kd.R_alloc | apply Kd.R_drewN | apply Kd.R_drew)); exact HO146.out))) (g := gb139) (o := .cells #[.string a1_0, .int .i64 a1_1, .int .i64 a1_2, .int .i64 a1_3, .string a1_4, .string a1_5, .string a1_6] 32 (0, 0)) xK) (below_size xB)); have n2_ := Aside0.mk (blk_below (g := gb139) (o := .cells #[.string a1_0, .int .i64 a1_1, .int .i64 a1_2, .int .i64 a1_3, .string a1_4, .string a1_5, .string a1_6] 32 (0, 0)) xK hb); have n3_ := Aside0.mk (below_step xB hb); clear HO146; clear BK139; clear HB; have HO146 := n0_; have HO143 := n1_; have BK139 := n2_; have HB := n3_; clear n0_ n1_ n2_ n3_
    (try clear hb)
    (try clear hb2)
    (try clear hk)
    (try clear hi)
    (try clear ho0)
    refine hK.out _ _ ⟨(blk_cell BK139.out 0).trans rfl, (blk_cell BK139.out 1).trans rfl, (blk_cell BK139.out 2).trans rfl, (blk_cell BK139.out 3).trans rfl, (blk_cell BK139.out 4).trans rfl, (blk_cell BK139.out 5).trans rfl, (blk_cell BK139.out 6).trans rfl⟩ (fun hHeld => ?_); clear hK K; refine norm_ (a' := ?_) ?_ ?_
    rotate_left
    ·
     show Act.put _ (some 14) _ = _
     simp only [Act.put, z1, z2, z3, i64_w, i32_w]
     rfl
    exact norm_ (by simp only [putAll, Act.put, z1, z2, z3]) (hCont (v142, v145) _ ⟨hHeld, (by (with_reducible repeat (first | apply Kd.R_alloc | apply Kd.R_drewN | apply Kd.R_drew)); exact Kd.R_mono HO143.out (fun _ hk => ⟨hk.1.2, hk.2⟩)), (by (with_reducible repeat (first | apply Kd.R_alloc | apply Kd.R_drewN | apply Kd.R_drew)); exact Kd.R_mono HO146.out (fun _ hk => ⟨hk.2, hk.1.2⟩)), xK, xB⟩)
  rintro ⟨v142, v145⟩ w14 ⟨hS_, h0_, h1_, h2_, h3_⟩
  have n0_ : Aside0 (Kd.R k32 32 w14 w.heap.size (fun k_ => some k_ ≠ (v145 : Value).ownBlock ∧ k_ ≠ gb139) v142 t141) := ⟨h0_⟩; have n1_ : Aside0 (Kd.R k32 32 w14 w.heap.size (fun k_ => some k_ ≠ (v142 : Value).ownBlock ∧ k_ ≠ gb139) v145 y144) := ⟨h1_⟩; have n2_ : Aside0 (w14.heap[gb139]? = some (.cells #[.string a1_0, .int .i64 a1_1, .int .i64 a1_2, .int .i64 a1_3, .string a1_4, .string a1_5, .string a1_6] 32 (0, 0))) := ⟨h2_⟩; have n3_ : Aside0 (Below w.heap.size w w14) := ⟨h3_⟩; clear BK139; clear HB; clear h0_ h1_ h2_ h3_; have HO143 := n0_; have HO146 := n1_; have BK139 := n2_; have HB := n3_; clear n0_ n1_ n2_ n3_; have hHeld : w14.cell? ⟨gb139, 0, none⟩ = some (.string a1_0) ∧ w14.cell? ⟨gb139, 1, none⟩ = some (.int .i64 a1_1) ∧ w14.cell? ⟨gb139, 2, none⟩ = some (.int .i64 a1_2) ∧ w14.cell? ⟨gb139, 3, none⟩ = some (.int .i64 a1_3) ∧ w14.cell? ⟨gb139, 4, none⟩ = some (.string a1_4) ∧ w14.cell? ⟨gb139, 5, none⟩ = some (.string a1_5) ∧ w14.cell? ⟨gb139, 6, none⟩ = some (.string a1_6) := hS_; obtain ⟨Ao16, co16, eo16⟩ := Kd.R_slice HO146.out
  (first | subst eo16 | (injection eo16 with f1_ f2_ f3_; have f4_ := f1_.symm; have f5_ := f3_.symm; clear f1_ f2_ f3_; subst f4_; subst f5_))
  refine norm_ (a' := ?_) ?_ ?_
  rotate_left
  ·
   simp only [putAll, Act.put, z1, z2, z3]
   rfl
  refine one_ (i := 4) (N := some 17) #[true, true, true, true, true, false, false] rfl rfl (by kernel_rfl) (by decide) (fun K hK => ?_); refine Kd.R_append_rows_step k32 (w0 := w) w.heap.size (by rfl) (.tmp 14) (.tmp 16) 23 32 (.agg #[(.string ⟨#[]⟩), (.int .i64 0), (.int .i64 0), (.int .i64 0), (.string ⟨#[]⟩), (.string ⟨#[]⟩), (.string ⟨#[]⟩)]) 88 rfl Tryz.underlying23 info32 rfl (by decide) (by omega) v142 t141 y144 _ _ _ (fun k_ => some k_ ≠ (.slice Ao16 y144.length co16 : Value).ownBlock ∧ k_ ≠ gb139) (fun _ => False) rfl rfl ?aO ?aR (fun _ _ h => h) (fun _ h => h.elim) ?aF ?aB ?aS ?aL ?_
  (case aR => repeat (first | exact (Kd.R_reads' HO146.out).2.2 | (with_reducible refine Kd.C_alloc ?_ _) | (with_reducible refine Kd.C_drewN ?_ _) | (with_reducible refine Kd.C_drew ?_)))
  (case aB => exact xB)
  (case aF => exact (fun k_ hk => ⟨Kd.fresh' (Kd.R_lt (by (with_reducible repeat (first | apply Kd.R_alloc | apply Kd.R_drewN | apply Kd.R_drew)); exact HO146.out)) k_ hk, Kd.freshB (g := gb139) (o := .cells #[.string a1_0, .int .i64 a1_1, .int .i64 a1_2, .int .i64 a1_3, .string a1_4, .string a1_5, .string a1_6] 32 (0, 0)) xK k_ hk⟩))
  (case aO => exact (by (with_reducible repeat (first | apply Kd.R_alloc | apply Kd.R_drewN | apply Kd.R_drew)); exact HO143.out))
  (case aS => exact (below_size xB))
  (case aL => have := LMc6.out; omega)
  intro v148 w15 ho hb hg hat; rw [← Ny147.out] at ho; have n0_ := Aside0.mk (blk_grown (g := gb139) (o := .cells #[.string a1_0, .int .i64 a1_1, .int .i64 a1_2, .int .i64 a1_3, .string a1_4, .string a1_5, .string a1_6] 32 (0, 0)) xK hg (Kd.R_away HO143.out (fun _ hk => hk.2))); have n1_ := Aside0.mk (Kd.R_after (ok := (fun k_ => k_ ≠ gb139)) (by (with_reducible repeat (first | apply Kd.R_alloc | apply Kd.R_drewN | apply Kd.R_drew)); exact Kd.R_mono HO146.out (fun _ hk => ⟨hk.2, hk.1⟩)) hg hat); have n2_ := Aside0.mk (hb); have n3_ := Aside0.mk (ho); clear BK139; clear HO146; clear HB; clear HO143; have BK139 := n0_; have HO146 := n1_; have HB := n2_; have HO149 := n3_; clear n0_ n1_ n2_ n3_; clear ho hb hg hat; refine hK.out _ _ ⟨(blk_cell BK139.out 0).trans rfl, (blk_cell BK139.out 1).trans rfl, (blk_cell BK139.out 2).trans rfl, (blk_cell BK139.out 3).trans rfl, (blk_cell BK139.out 4).trans rfl, (blk_cell BK139.out 5).trans rfl, (blk_cell BK139.out 6).trans rfl⟩ (fun hHeld => ?_); clear hK K; refine norm_ (a' := ?_) ?_ ?_
  rotate_left
  ·
   show Act.put _ (some 17) _ = _
   simp only [Act.put, z1, z2, z3, i64_w, i32_w]
   rfl
  refine pure_ (i := 5) (N := some 4) (v := ?_) (a' := ?_) #[true, true, true, true, true, true, false] rfl rfl (by kernel_rfl) (fun _ _ _ h => h) (Or.inl ⟨by rfl, ?_⟩) ?_ ?_
  rotate_left
  ·
   intro w'; go_simp
   with_reducible rfl
  rotate_left
  ·
   simp only [Act.put, z1, z2, z3, i64_w, i32_w]
   rfl
  refine pure_ (i := 6) (N := some 5) (v := ?_) (a' := ?_) #[true, true, true, true, true, true, true] rfl rfl (by kernel_rfl) (fun _ _ _ h => h) (Or.inl ⟨by rfl, ?_⟩) ?_ ?_
  rotate_left
  ·
   intro w'; go_simp
   with_reducible rfl
  rotate_left
  ·
   simp only [Act.put, z1, z2, z3, i64_w, i32_w]
   rfl
  refine done_ (by kernel_rfl) ?_
  try go_wp2
  go_ret2; exact ⟨_, xW, by (with_reducible repeat (first | apply Kd.R_alloc | apply Kd.R_drewN | apply Kd.R_drew)); exact Kd.R_mono HO149.out (fun _ hk => trivial), xB⟩
 have c4b0 := beq_eq_false_iff_ne.mpr c4; have c4b1 := bne_iff_ne.mpr c4; simp only [Option.some.injEq, Prod.mk.injEq] at H; obtain ⟨rfl, rfl⟩ := H; go_enter Tryz.func12, Tryz.ntmps12; go_wp2_with (first | ((with_reducible refine gate_dst (N := 3) rfl ?_); refine box_event ?hg (N := 3) ?hd (cs := #[.string a1_0, .int .i64 a1_1, .int .i64 a1_2, .int .i64 a1_3, .string a1_4, .string a1_5, .string a1_6]) (t := 32) ?hr ?_; (case hd => rfl); (case hg => rfl); (case hr => first | (go_simp; done) | (go_simp; rfl)); intro gb139 hg w17 hbox hb; have BK139 := Aside0.mk (hbox); have GW139 := Aside0.mk ((by rw [hg]; exact (below_size xB) : w.heap.size ≤ gb139)); have GE139 := Aside0.mk ((by rw [hg]; exact (below_size xB) : w.heap.size ≤ gb139)); replace HB := Aside0.mk (below_step xB hb); clear hb hbox hg; obtain ⟨hcz18_0, hcz18_1, hcz18_2, hcz18_3, hcz18_4, hcz18_5, hcz18_6⟩ := xC7 BK139.out; obtain ⟨hfz18_0, hfz18_1, hfz18_2, hfz18_3, hfz18_4, hfz18_5, hfz18_6⟩ := xF7 BK139.out) | ((with_reducible refine gate_callee (f := 18) rfl ?_); refine goesL_ (some 9) rfl rfl Tryz.func18 (by kernel_rfl) rfl #[.slice A0 l0.length c0, .agg #[.string a1_0, .int .i64 a1_1, .int .i64 a1_2, .int .i64 a1_3, .string a1_4, .string a1_5, .string a1_6]] rfl xS ?_; (with_reducible refine (ledger_wrong.calls _ _ l0 a1_0 a1_1 a1_2 a1_3 a1_4 a1_5 a1_6 t140 _ ?side1 ?side2 ?side3 A3.out).mono ?_); (case side1 => repeat (first | exact (Kd.C_below HR0.out HB.out) | (with_reducible refine Kd.C_alloc ?_ _) | (with_reducible refine Kd.C_drewN ?_ _) | (with_reducible refine Kd.C_drew ?_))); (case side2 => exact HC0.out); (case side3 => exact GW.below HGW.out xB); rintro e w19 ⟨rfl, hb⟩; refine ⟨_, rfl, ?_⟩; replace BK139 := Aside0.mk (blk_below (g := gb139) (o := .cells #[.string a1_0, .int .i64 a1_1, .int .i64 a1_2, .int .i64 a1_3, .string a1_4, .string a1_5, .string a1_6] 32 (0, 0)) xK hb); replace HB := Aside0.mk (below_step xB hb); (try clear hb))); go_ret2; exact ⟨_, xW, by first | exact Kd.R_nil _ _ _ _ _ | exact Kd.N_nil _ _ _ _ _ | exact Kd.V_nil _ _ _ _ _ | exact Kd.Q_nil _ _ _ _ _ | exact Kd.S_nil _ _ _ _ _, xB⟩
def ledger_tag_line.f (k : Nat) (a0_0 : ByteArray) (a0_1 : Int) (a0_2 : Int) (a0_3 : Int) (a0_4 : ByteArray) (a0_5 : ByteArray) (a0_6 : ByteArray) : Option (ByteArray) := if a0_0.size + 1 ≤ 9223372036854775807 then ((ver_Text.f k a0_1 a0_2 a0_3 a0_4 a0_5).bind fun t151 => (if (a0_0 ++ (⟨#[32]⟩ : ByteArray)).size + t151.size ≤ 9223372036854775807 then (if ((a0_0 ++ (⟨#[32]⟩ : ByteArray)) ++ t151).size + 1 ≤ 9223372036854775807 then (if (((a0_0 ++ (⟨#[32]⟩ : ByteArray)) ++ t151) ++ (⟨#[32]⟩ : ByteArray)).size + a0_6.size ≤ 9223372036854775807 then (if ((((a0_0 ++ (⟨#[32]⟩ : ByteArray)) ++ t151) ++ (⟨#[32]⟩ : ByteArray)) ++ a0_6).size + 1 ≤ 9223372036854775807 then (some (((((a0_0 ++ (⟨#[32]⟩ : ByteArray)) ++ t151) ++ (⟨#[32]⟩ : ByteArray)) ++ a0_6) ++ (⟨#[10]⟩ : ByteArray))) else (none)) else (none)) else (none)) else (none))) else (none)
def ledger_tag_line.T1 : Bool × List (List Nat × List Nat) := (true, [([], []), ([0], [0]), ([1], [1]), ([2], [2]), ([], []), ([4], [4]), ([5], [5]), ([6], [6]), ([3, 7], [3, 7]), ([8], [8]), ([], []), ([10], [10]), ([11], [11]), ([9, 12], [9, 12]), ([13], [13]), ([14, 7, 0, 1, 2, 3, 4, 5, 6, 7, 8, 9, 10, 11, 12, 13, 14], [14])])
def ledger_tag_line.B1 : List Nat := [0, 1, 3, 7, 0, 16, 48, 112, 255, 511, 0, 1024, 3072, 8191, 16383, 32767]
theorem ledger_tag_line.tab1 : rtab .any (opsOf Tryz.f180 1) = ledger_tag_line.T1 := by kernel_rfl
theorem ledger_tag_line.bits1 : waitsOk ledger_tag_line.T1.2 ledger_tag_line.B1 = true := by kernel_rfl
set_option maxHeartbeats 8000000 in
set_option maxRecDepth 100000 in
theorem ledger_tag_line.calls (k : Nat) (a0_0 : ByteArray) (a0_1 : Int) (a0_2 : Int) (a0_3 : Int) (a0_4 : ByteArray) (a0_5 : ByteArray) (a0_6 : ByteArray) (r : ByteArray) (w : World) (hG : GW w) (h : ledger_tag_line.f k a0_0 a0_1 a0_2 a0_3 a0_4 a0_5 a0_6 = some r) :
  Calls Tryz.prog 180 #[.agg #[.string a0_0, .int .i64 a0_1, .int .i64 a0_2, .int .i64 a0_3, .string a0_4, .string a0_5, .string a0_6]] w fun e w' => e = .returned (.string r) ∧ Below w.heap.size w w' := by
 have hu50 := Tryz.underlying50; have hu30 := Tryz.underlying30; have HGW := Aside0.mk hG; clear hG; have HB := Aside0.mk (Below.refl w.heap.size w); have H : (if a0_0.size + 1 ≤ 9223372036854775807 then ((ver_Text.f k a0_1 a0_2 a0_3 a0_4 a0_5).bind fun t151 => (if (a0_0 ++ (⟨#[32]⟩ : ByteArray)).size + t151.size ≤ 9223372036854775807 then (if ((a0_0 ++ (⟨#[32]⟩ : ByteArray)) ++ t151).size + 1 ≤ 9223372036854775807 then (if (((a0_0 ++ (⟨#[32]⟩ : ByteArray)) ++ t151) ++ (⟨#[32]⟩ : ByteArray)).size + a0_6.size ≤ 9223372036854775807 then (if ((((a0_0 ++ (⟨#[32]⟩ : ByteArray)) ++ t151) ++ (⟨#[32]⟩ : ByteArray)) ++ a0_6).size + 1 ≤ 9223372036854775807 then (some (((((a0_0 ++ (⟨#[32]⟩ : ByteArray)) ++ t151) ++ (⟨#[32]⟩ : ByteArray)) ++ a0_6) ++ (⟨#[10]⟩ : ByteArray))) else (none)) else (none)) else (none)) else (none))) else (none)) = some r := h; clear h; replace H := xI H; obtain ⟨c2, H⟩ := H; have c2b0 := eq_true c2; have c2b1 := decide_eq_true c2
 try have c2b2 : (9223372036854775807 < a0_0.size + 1) = False := eq_false (Nat.not_lt.2 c2)
 replace H := xb H; obtain ⟨t151, A3, H⟩ := H; replace H := xI H; obtain ⟨c4, H⟩ := H; have c4b0 := eq_true c4; have c4b1 := decide_eq_true c4
 try have c4b2 : (9223372036854775807 < (a0_0 ++ (⟨#[32]⟩ : ByteArray)).size + t151.size) = False := eq_false (Nat.not_lt.2 c4)
 try have c4b3 : (9223372036854775807 < a0_0.size + 1 + t151.size) = False := eq_false (Nat.not_lt.2 (by have h_ := c4; simp only [ByteArray.size_append] at h_; exact h_))
 try have c4b4 : (a0_0.size + 1 + t151.size ≤ 9223372036854775807) = True := eq_true (by have h_ := c4; simp only [ByteArray.size_append] at h_; exact h_)
 try have c4b3 : (9223372036854775807 < a0_0.size + 1 + t151.size) = False := eq_false (Nat.not_lt.2 (by have h_ := c4; simp only [ByteArray.size_append] at h_; exact h_))
 try have c4b4 : (a0_0.size + 1 + t151.size ≤ 9223372036854775807) = True := eq_true (by have h_ := c4; simp only [ByteArray.size_append] at h_; exact h_)
 replace H := xI H; obtain ⟨c5, H⟩ := H; have c5b0 := eq_true c5; have c5b1 := decide_eq_true c5
 try have c5b2 : (9223372036854775807 < ((a0_0 ++ (⟨#[32]⟩ : ByteArray)) ++ t151).size + 1) = False := eq_false (Nat.not_lt.2 c5)
 try have c5b3 : (9223372036854775807 < a0_0.size + 1 + t151.size + 1) = False := eq_false (Nat.not_lt.2 (by have h_ := c5; simp only [ByteArray.size_append] at h_; exact h_))
 try have c5b4 : (a0_0.size + 1 + t151.size + 1 ≤ 9223372036854775807) = True := eq_true (by have h_ := c5; simp only [ByteArray.size_append] at h_; exact h_)
 try have c5b3 : (9223372036854775807 < a0_0.size + 1 + t151.size + 1) = False := eq_false (Nat.not_lt.2 (by have h_ := c5; simp only [ByteArray.size_append] at h_; exact h_))
 try have c5b4 : (a0_0.size + 1 + t151.size + 1 ≤ 9223372036854775807) = True := eq_true (by have h_ := c5; simp only [ByteArray.size_append] at h_; exact h_)
 replace H := xI H; obtain ⟨c6, H⟩ := H; have c6b0 := eq_true c6; have c6b1 := decide_eq_true c6
 try have c6b2 : (9223372036854775807 < (((a0_0 ++ (⟨#[32]⟩ : ByteArray)) ++ t151) ++ (⟨#[32]⟩ : ByteArray)).size + a0_6.size) = False := eq_false (Nat.not_lt.2 c6)
 try have c6b3 : (9223372036854775807 < a0_0.size + 1 + t151.size + 1 + a0_6.size) = False := eq_false (Nat.not_lt.2 (by have h_ := c6; simp only [ByteArray.size_append] at h_; exact h_))
 try have c6b4 : (a0_0.size + 1 + t151.size + 1 + a0_6.size ≤ 9223372036854775807) = True := eq_true (by have h_ := c6; simp only [ByteArray.size_append] at h_; exact h_)
 try have c6b3 : (9223372036854775807 < a0_0.size + 1 + t151.size + 1 + a0_6.size) = False := eq_false (Nat.not_lt.2 (by have h_ := c6; simp only [ByteArray.size_append] at h_; exact h_))
 try have c6b4 : (a0_0.size + 1 + t151.size + 1 + a0_6.size ≤ 9223372036854775807) = True := eq_true (by have h_ := c6; simp only [ByteArray.size_append] at h_; exact h_)
 replace H := xI H; obtain ⟨c7, H⟩ := H; have c7b0 := eq_true c7; have c7b1 := decide_eq_true c7
 try have c7b2 : (9223372036854775807 < ((((a0_0 ++ (⟨#[32]⟩ : ByteArray)) ++ t151) ++ (⟨#[32]⟩ : ByteArray)) ++ a0_6).size + 1) = False := eq_false (Nat.not_lt.2 c7)
 try have c7b3 : (9223372036854775807 < a0_0.size + 1 + t151.size + 1 + a0_6.size + 1) = False := eq_false (Nat.not_lt.2 (by have h_ := c7; simp only [ByteArray.size_append] at h_; exact h_))
 try have c7b4 : (a0_0.size + 1 + t151.size + 1 + a0_6.size + 1 ≤ 9223372036854775807) = True := eq_true (by have h_ := c7; simp only [ByteArray.size_append] at h_; exact h_)
 try have c7b3 : (9223372036854775807 < a0_0.size + 1 + t151.size + 1 + a0_6.size + 1) = False := eq_false (Nat.not_lt.2 (by have h_ := c7; simp only [ByteArray.size_append] at h_; exact h_))
 try have c7b4 : (a0_0.size + 1 + t151.size + 1 + a0_6.size + 1 ≤ 9223372036854775807) = True := eq_true (by have h_ := c7; simp only [ByteArray.size_append] at h_; exact h_)
 obtain rfl := Option.some.inj H; go_enter Tryz.func180, Tryz.ntmps180
 try go_wp2_with (first | ((with_reducible refine gate_dst (N := 1) rfl ?_); refine box_event ?hg (N := 1) ?hd (cs := #[.string a0_0, .int .i64 a0_1, .int .i64 a0_2, .int .i64 a0_3, .string a0_4, .string a0_5, .string a0_6]) (t := 50) ?hr ?_; (case hd => rfl); (case hg => rfl); (case hr => first | (go_simp; done) | (go_simp; rfl)); intro gb150 hg w8 hbox hb; have BK150 := Aside0.mk (hbox); have GW150 := Aside0.mk ((by rw [hg]; exact (below_size xB) : w.heap.size ≤ gb150)); have GE150 := Aside0.mk ((by rw [hg]; exact (below_size xB) : w.heap.size ≤ gb150)); replace HB := Aside0.mk (below_step xB hb); clear hb hbox hg))
 have n0_ := Aside0.mk (blk_drew BK150.out); have n1_ := Aside0.mk (below_drew1 HB.out); clear BK150; clear HB; have BK150 := n0_; have HB := n1_; clear n0_ n1_; refine start_ (n := 16) (S := fun w' => w'.cell? ⟨gb150, 0, none⟩ = some (.string a0_0) ∧ w'.cell? ⟨gb150, 1, none⟩ = some (.int .i64 a0_1) ∧ w'.cell? ⟨gb150, 2, none⟩ = some (.int .i64 a0_2) ∧ w'.cell? ⟨gb150, 3, none⟩ = some (.int .i64 a0_3) ∧ w'.cell? ⟨gb150, 4, none⟩ = some (.string a0_4) ∧ w'.cell? ⟨gb150, 5, none⟩ = some (.string a0_5) ∧ w'.cell? ⟨gb150, 6, none⟩ = some (.string a0_6)) (ds := []) #[ff, ff, ff, ff, ff, ff, ff, ff, ff, ff, ff, ff, ff, ff, ff, ff] (by kernel_rfl) rfl rfl ⟨(blk_cell BK150.out 0).trans rfl, (blk_cell BK150.out 1).trans rfl, (blk_cell BK150.out 2).trans rfl, (blk_cell BK150.out 3).trans rfl, (blk_cell BK150.out 4).trans rfl, (blk_cell BK150.out 5).trans rfl, (blk_cell BK150.out 6).trans rfl⟩ (fun hHeld => ?_); refine with_tabW ledger_tag_line.tab1 ledger_tag_line.bits1 (fun HT_ HW_ => ?_)
 generalize w8.drew = w9 at BK150 HB hHeld ⊢
 refine pure_ (i := 0) (N := some 3) (v := ?_) (a' := ?_) #[tt, ff, ff, ff, ff, ff, ff, ff, ff, ff, ff, ff, ff, ff, ff, ff] rfl rfl (any_of HT_.out (by kernel_rfl)) (fun _ _ _ h => h) (Or.inl ⟨by rfl, ?_⟩) ?_ ?_
 rotate_left
 ·
  intro w'; go_simp
  with_reducible rfl
 rotate_left
 ·
  simp only [Act.put, z1, z2, z3, i64_w, i32_w]
  rfl
 refine pure_ (i := 1) (N := some 4) (v := ?_) (a' := ?_) #[tt, tt, ff, ff, ff, ff, ff, ff, ff, ff, ff, ff, ff, ff, ff, ff] rfl rfl (any_of HT_.out (by kernel_rfl)) (fun _ _ _ h => h) (Or.inl ⟨by rfl, ?_⟩) ?_ ?_
 rotate_left
 ·
  intro w'; go_simp
  with_reducible rfl
 rotate_left
 ·
  simp only [Act.put, z1, z2, z3, i64_w, i32_w]
  rfl
 refine pure_ (i := 4) (N := some 7) (v := ?_) (a' := ?_) #[tt, tt, ff, ff, tt, ff, ff, ff, ff, ff, ff, ff, ff, ff, ff, ff] rfl rfl (any_of HT_.out (by kernel_rfl)) (fun _ _ _ h => h) (Or.inl ⟨by rfl, ?_⟩) ?_ ?_
 rotate_left
 ·
  intro w'; go_simp
  with_reducible rfl
 rotate_left
 ·
  simp only [Act.put, z1, z2, z3, i64_w, i32_w]
  rfl
 refine pure_ (i := 5) (N := some 8) (v := ?_) (a' := ?_) #[tt, tt, ff, ff, tt, tt, ff, ff, ff, ff, ff, ff, ff, ff, ff, ff] rfl rfl (any_of HT_.out (by kernel_rfl)) (fun _ _ _ h => h) (Or.inl ⟨by rfl, ?_⟩) ?_ ?_
 rotate_left
 ·
  intro w'; go_simp
  with_reducible rfl
 rotate_left
 ·
  simp only [Act.put, z1, z2, z3, i64_w, i32_w]
  rfl
 refine pure_ (i := 10) (N := some 13) (v := ?_) (a' := ?_) #[tt, tt, ff, ff, tt, tt, ff, ff, ff, ff, tt, ff, ff, ff, ff, ff] rfl rfl (any_of HT_.out (by kernel_rfl)) (fun _ _ _ h => h) (Or.inl ⟨by rfl, ?_⟩) ?_ ?_
 rotate_left
 ·
  intro w'; go_simp
  with_reducible rfl
 rotate_left
 ·
  simp only [Act.put, z1, z2, z3, i64_w, i32_w]
  rfl
 refine pure_ (i := 11) (N := some 14) (v := ?_) (a' := ?_) #[tt, tt, ff, ff, tt, tt, ff, ff, ff, ff, tt, tt, ff, ff, ff, ff] rfl rfl (any_of HT_.out (by kernel_rfl)) (fun _ _ _ h => h) (Or.inl ⟨by rfl, ?_⟩) ?_ ?_
 rotate_left
 ·
  intro w'; go_simp
  with_reducible rfl
 rotate_left
 ·
  simp only [Act.put, z1, z2, z3, i64_w, i32_w]
  rfl
 refine take_ (i := 2) (N := some 5) (v := ?_) (a' := ?_) #[tt, tt, tt, ff, tt, tt, ff, ff, ff, ff, tt, tt, ff, ff, ff, ff] rfl rfl (take_ofW HT_.out HW_.out (by kernel_rfl)) (fun _ _ _ h => h) (Or.inl ⟨by rfl, ?_⟩) hHeld ?_ ?_
 rotate_left
 ·
  rintro w' ⟨s0, s1, s2, s3, s4, s5, s6⟩
  go_simp
  with_reducible rfl
 rotate_left
 ·
  simp only [Act.put, z1, z2, z3, i64_w, i32_w]
  rfl
 refine pure_ (i := 3) (N := some 6) (v := ?_) (a' := ?_) #[tt, tt, tt, tt, tt, tt, ff, ff, ff, ff, tt, tt, ff, ff, ff, ff] rfl rfl (any_of HT_.out (by kernel_rfl)) (fun _ _ _ h => h) (Or.inl ⟨by rfl, ?_⟩) ?_ ?_
 rotate_left
 ·
  intro w'; go_simp
  with_reducible rfl
 rotate_left
 ·
  simp only [Act.put, z1, z2, z3, i64_w, i32_w]
  rfl
 refine take_ (i := 6) (N := some 9) (v := ?_) (a' := ?_) #[tt, tt, tt, tt, tt, tt, tt, ff, ff, ff, tt, tt, ff, ff, ff, ff] rfl rfl (take_ofW HT_.out HW_.out (by kernel_rfl)) (fun _ _ _ h => h) (Or.inl ⟨by rfl, ?_⟩) hHeld ?_ ?_
 rotate_left
 ·
  rintro w' ⟨s0, s1, s2, s3, s4, s5, s6⟩
  go_simp
  with_reducible rfl
 rotate_left
 ·
  simp only [Act.put, z1, z2, z3, i64_w, i32_w]
  rfl
 refine take_ (i := 12) (N := some 15) (v := ?_) (a' := ?_) #[tt, tt, tt, tt, tt, tt, tt, ff, ff, ff, tt, tt, tt, ff, ff, ff] rfl rfl (take_ofW HT_.out HW_.out (by kernel_rfl)) (fun _ _ _ h => h) (Or.inl ⟨by rfl, ?_⟩) hHeld ?_ ?_
 rotate_left
 ·
  rintro w' ⟨s0, s1, s2, s3, s4, s5, s6⟩
  go_simp
  with_reducible rfl
 rotate_left
 ·
  simp only [Act.put, z1, z2, z3, i64_w, i32_w]
  rfl
 refine one_ (i := 7) (N := some 10) #[tt, tt, tt, tt, tt, tt, tt, tt, ff, ff, tt, tt, tt, ff, ff, ff] rfl rfl (one_of HT_.out (by kernel_rfl)) (by decide) (fun K hK => ?_); refine goes_ Tryz.func56 (by kernel_rfl) rfl #[.agg #[.int .i64 a0_1, .int .i64 a0_2, .int .i64 a0_3, .string a0_4, .string a0_5]] (by rfl) rfl rfl xS ?_
 with_reducible refine (ver_Text.calls k a0_1 a0_2 a0_3 a0_4 a0_5 t151 _ ?side1 A3.out).mono ?_
 (case side1 => exact GW.below HGW.out xB)
 rintro e w10 ⟨rfl, hb⟩
 refine ⟨_, rfl, ?_⟩; have n0_ := Aside0.mk (blk_below (g := gb150) (o := .cells #[.string a0_0, .int .i64 a0_1, .int .i64 a0_2, .int .i64 a0_3, .string a0_4, .string a0_5, .string a0_6] 50 (0, 0)) xK hb); have n1_ := Aside0.mk (below_step xB hb); clear BK150; clear HB; have BK150 := n0_; have HB := n1_; clear n0_ n1_
 (try clear hb)
 (try clear hb2)
 (try clear hk)
 (try clear hi)
 refine hK.out _ _ ⟨(blk_cell BK150.out 0).trans rfl, (blk_cell BK150.out 1).trans rfl, (blk_cell BK150.out 2).trans rfl, (blk_cell BK150.out 3).trans rfl, (blk_cell BK150.out 4).trans rfl, (blk_cell BK150.out 5).trans rfl, (blk_cell BK150.out 6).trans rfl⟩ (fun hHeld => ?_); clear hK K; refine norm_ (a' := ?_) ?_ ?_
 rotate_left
 ·
  show Act.put _ (some 10) _ = _
  simp only [Act.put, z1, z2, z3, i64_w, i32_w]
  rfl
 refine pure_ (i := 8) (N := some 11) (v := ?_) (a' := ?_) #[tt, tt, tt, tt, tt, tt, tt, tt, tt, ff, tt, tt, tt, ff, ff, ff] rfl rfl (any_of HT_.out (by kernel_rfl)) (fun _ _ _ h => h) (Or.inl ⟨by rfl, ?_⟩) ?_ ?_
 rotate_left
 ·
  intro w'; go_simp
  with_reducible rfl
 rotate_left
 ·
  simp only [Act.put, z1, z2, z3, i64_w, i32_w]
  rfl
 refine pure_ (i := 9) (N := some 12) (v := ?_) (a' := ?_) #[tt, tt, tt, tt, tt, tt, tt, tt, tt, tt, tt, tt, tt, ff, ff, ff] rfl rfl (any_of HT_.out (by kernel_rfl)) (fun _ _ _ h => h) (Or.inl ⟨by rfl, ?_⟩) ?_ ?_
 rotate_left
 ·
  intro w'; go_simp
  with_reducible rfl
 rotate_left
 ·
  simp only [Act.put, z1, z2, z3, i64_w, i32_w]
  rfl
 refine pure_ (i := 13) (N := some 16) (v := ?_) (a' := ?_) #[tt, tt, tt, tt, tt, tt, tt, tt, tt, tt, tt, tt, tt, tt, ff, ff] rfl rfl (any_of HT_.out (by kernel_rfl)) (fun _ _ _ h => h) (Or.inl ⟨by rfl, ?_⟩) ?_ ?_
 rotate_left
 ·
  intro w'; go_simp
  with_reducible rfl
 rotate_left
 ·
  simp only [Act.put, z1, z2, z3, i64_w, i32_w]
  rfl
 refine pure_ (i := 14) (N := some 17) (v := ?_) (a' := ?_) #[tt, tt, tt, tt, tt, tt, tt, tt, tt, tt, tt, tt, tt, tt, tt, ff] rfl rfl (any_of HT_.out (by kernel_rfl)) (fun _ _ _ h => h) (Or.inl ⟨by rfl, ?_⟩) ?_ ?_
 rotate_left
 ·
  intro w'; go_simp
  with_reducible rfl
 rotate_left
 ·
  simp only [Act.put, z1, z2, z3, i64_w, i32_w]
  rfl
 refine pure_ (i := 15) (N := some 2) (v := ?_) (a' := ?_) #[tt, tt, tt, tt, tt, tt, tt, tt, tt, tt, tt, tt, tt, tt, tt, tt] rfl rfl (any_of HT_.out (by kernel_rfl)) (fun _ _ _ h => h) (Or.inl ⟨by rfl, ?_⟩) ?_ ?_
 rotate_left
 ·
  intro w'; go_simp
  with_reducible rfl
 rotate_left
 ·
  simp only [Act.put, z1, z2, z3, i64_w, i32_w]
  rfl
 refine done_ (done_of HT_.out (by kernel_rfl)) ?_
 try go_wp2
 go_ret; exact ⟨xW, xB⟩
end Go.Proofs.YtjdhdjmdmnedfaaGreatDoor.R5
end
