/- The texts MvUp, MvOut in one file, without what these claims do not use (put together by prune2.py). -/
import Derived.Test.YtkidfclnakbgiaaGreatDoorZT25
section
namespace Go.Proofs.YtkidfclnakbgiaaGreatDoor
open Go Go.RowKit Go.Sort Go.Proofs Go.Proofs.YtkidfclnakbgiaaGreatDoorW.PrintWords Go.Proofs.YtkidfclnakbgiaaGreatDoorW.PrintLast Go.Proofs.YtkidfclnakbgiaaGreatDoor.K0
set_option linter.unusedVariables false
set_option linter.unusedSimpArgs false
/-- A requirement's cells, from a place on. -/
abbrev RqP (w : World) (g o : Nat) (x : Rq) : Prop := w.cell? ⟨g, o, none⟩ = some (.string x.f0) ∧ w.cell? ⟨g, o + 1, none⟩ = some (.int .i64 x.f1.f0) ∧ w.cell? ⟨g, o + 2, none⟩ = some (.int .i64 x.f1.f1) ∧ w.cell? ⟨g, o + 3, none⟩ = some (.int .i64 x.f1.f2) ∧ w.cell? ⟨g, o + 4, none⟩ = some (.string x.f1.f3) ∧ w.cell? ⟨g, o + 5, none⟩ = some (.string x.f1.f4)
theorem RqP.below {w w' : World} {g o : Nat} {x : Rq} (h : RqP w g o x) (hb : Below w.heap.size w w') : RqP w' g o x := ⟨pw_cell_below hb h.1, pw_cell_below hb h.2.1, pw_cell_below hb h.2.2.1, pw_cell_below hb h.2.2.2.1, pw_cell_below hb h.2.2.2.2.1, pw_cell_below hb h.2.2.2.2.2⟩
theorem row_at {w : World} {base : Nat} {ok : Nat → Prop} {A : Option Addr} {c n : Nat} {l : List Rq} (h : Kd.R k27 27 w base ok (.slice A n c) l) (hn : 0 < n) : ∃ g, A = some ⟨g, 0, none⟩ := by
  obtain ⟨_, inner, ⟨_, hh⟩, _⟩ := h
  rcases hh with ⟨h1, _⟩ | ⟨g, cap, cur, hv, _⟩
  · injection h1 with _ h1 _
    omega
  · injection hv with hv _ _
    exact ⟨g, hv⟩
theorem add_off (g o k : Nat) : (⟨g, o, none⟩ : Addr).add k = ⟨g, o + k, none⟩ := by
  unfold Addr.add
  split
  · rename_i h; rw [h]; rfl
  · rfl
def upg.T7 : Bool × List (List Nat × List Nat) := (true, [([], []), ([], []), ([0, 1], [0, 1]), ([2], [2]), ([3], [3]), ([4], [4]), ([5, 4], [5]), ([6], [6]), ([6], [6]), ([7, 8, 6], [6, 7, 8]), ([9, 6], [6, 9]), ([10, 6], [6, 10]), ([6], [6]), ([12, 6], [6, 12]), ([11, 13, 6, 6], [6, 11, 13]), ([14, 6], [6, 14]), ([6, 15], [6, 15]), ([16, 14], [16])])
def upg.B7 : List Nat := [0, 0, 3, 7, 15, 31, 63, 127, 127, 511, 1023, 2047, 127, 4223, 16383, 32767, 65535, 131071]
theorem upg.tab7 : rtab .any (opsOf Tryz.f19 7) = upg.T7 := by kernel_rfl
theorem upg.bits7 : waitsOk upg.T7.2 upg.B7 = true := by kernel_rfl
theorem upg_clo (B : Nat) (r x : Rq) (w : World) (h : RqAt w B r) : Calls Tryz.prog 44 #[.agg (rqc x), .pointer (some ⟨B, 0, none⟩)] w fun e w' => e = .returned (.bool (x.f0.toList == r.f0.toList)) ∧ Below w.heap.size w w' := by
  have h2 := (blk_cell (blk_alloc h (.cells (rqc x) 27)) 0).trans (show _ = some (Value.string r.f0) from rfl)
  clear h
  go_enter Tryz.func44, Tryz.ntmps44
  go_wp2
  go_ret
  exact ⟨rfl, by repeat (first | exact Below.refl _ _ | apply below_alloc | apply pw_below_drewN | apply below_drew1)⟩
theorem same_path (x r : Rq) : (x.f0.toList == r.f0.toList) = decide (mv.path x = mv.path r) := by
  rw [ByteArray.toList_eq, ByteArray.toList_eq, Bool.eq_iff_iff]
  simp [mv]
theorem cells_of {w : World} {g i : Nat} {x : Rq} (h : RqP w g (i * 6) x) (j : Nat) (u : Value) (hu : (rql x)[j]? = some u) : w.cell? ⟨g, (i : Int).toNat * k27.sz + j, none⟩ = some u := by
  rw [Int.toNat_natCast, show k27.sz = 6 from rfl]
  obtain ⟨h0, h1, h2, h3, h4, h5⟩ := h
  have hj : j < 6 := (List.getElem?_eq_some_iff.1 hu).1
  have : j = 0 ∨ j = 1 ∨ j = 2 ∨ j = 3 ∨ j = 4 ∨ j = 5 := by omega
  rcases this with rfl | rfl | rfl | rfl | rfl | rfl <;> (obtain rfl := Option.some.inj hu; assumption)
theorem idx_up (r : Rq) : ∀ (root : List Rq) (k : Nat), (idxFrom (fun x : Rq => x.f0.toList == r.f0.toList) k root = -1 ∧ mv.upFrom r root = root ++ [r]) ∨ ∃ (i : Nat) (x : Rq), root[i]? = some x ∧ idxFrom (fun x : Rq => x.f0.toList == r.f0.toList) k root = ((k + i : Nat) : Int) ∧ mv.upFrom r root = if mv.may x = false ∨ mv.cmp x r < 0 then root.set i r else root
  | [], k => Or.inl ⟨rfl, rfl⟩
  | x :: root, k => by
    unfold idxFrom Mv.upFrom
    rw [same_path]
    by_cases h : mv.path x = mv.path r
    · refine Or.inr ⟨0, x, rfl, by simp [h], ?_⟩
      rw [if_pos h]; rfl
    · rw [if_neg (by simpa using h), if_neg h]
      rcases idx_up r root (k + 1) with ⟨h1, h2⟩ | ⟨i, y, h1, h2, h3⟩
      · exact Or.inl ⟨h1, by rw [h2]; rfl⟩
      · refine Or.inr ⟨i + 1, y, by simpa using h1, by rw [h2]; congr 1; omega, ?_⟩
        rw [h3]
        split <;> rfl
theorem clone_calls (A : Option Addr) (c : Nat) (l : List Rq) (w : World) (hr : Kd.C k27 w A l.length l) (hc : l.length ≤ c) (hl : l.length ≤ 1000000) :
    Calls Tryz.prog 41 #[.slice A l.length c] w fun e w' => ∃ v, e = .returned v ∧ Kd.R k27 27 w' w.heap.size (fun _ => True) v l ∧ Below w.heap.size w w' :=
  slices_Clone.calls A c l l w hr hc (by unfold slices_Clone.f; rw [if_pos (by omega)])
theorem back_of {w w' : World} {base : Nat} {ok : Nat → Prop} {A : Option Addr} {n c : Nat} {l : List Rq} (h : Kd.R k27 27 w' base ok (.slice A n c) l) (hb : Below w.heap.size w w') (hba : w.heap.size ≤ base := by first | omega | simp) : RqBack w w' (.returned (.slice A n c)) l :=
  ⟨⟨_, rfl, Kd.R_mono (Kd.R_lower h hba) (fun _ _ => trivial)⟩, hb⟩
set_option maxRecDepth 100000 in
set_option maxHeartbeats 4000000 in
theorem upgrade_calls (A : Option Addr) (c : Nat) (root : List Rq) (r : Rq) (w : World) (hG : GW w) (hr : Kd.C k27 w A root.length root) (hc : root.length ≤ c) (hl : root.length ≤ 100000) :
    Calls Tryz.prog 19 #[.slice A root.length c, .agg (rqc r)] w fun e w' => RqBack w w' e (mv.upgrade root r) := by
  have hX := heap_alloc_new w (.cells (rqc r) 27)
  have hcl := clone_calls A c root (w.alloc (.cells (rqc r) 27)) (Kd.C_alloc hr _) hc (by omega)
  obtain ⟨n, hn⟩ : ∃ n, n = root.length := ⟨_, rfl⟩
  have hmay := fun x W h => may_calls x W h
  have HG := Aside0.mk hG
  have HX := Aside0.mk (show RqAt (w.alloc (.cells (rqc r) 27)) w.heap.size r from hX)
  clear hX hr hG
  cases hm : mv.may r with
  | false =>
    have HU : Aside0 (mv.upgrade root r = root) := ⟨by unfold Mv.upgrade; rw [if_neg (by rw [hm]; simp)]⟩
    have hmr := hmay r
    rw [hm] at hmr
    have HMR := Aside0.mk hmr
    clear hm hmay hmr
    go_enter Tryz.func19, Tryz.ntmps19
    go_wp2_with (first | (go_at_call 41; refine hcl.mono ?_; rintro e w1 ⟨v, rfl, hR, hb⟩; obtain ⟨A1, c1, rfl⟩ := Kd.R_slice hR; have HR1 := Aside0.mk hR; have HB1 := Aside0.mk (below_step (below_alloc (Below.refl _ _) _) hb); obtain ⟨h0, h1, h2, h3, h4, h5⟩ := RqAt.cells (blk_below HX.out hb); clear hR hb) | (go_at_call 42; refine (HMR.out _ (HG.out.below HB1.out)).mono ?_; rintro e w2 ⟨rfl, hb⟩; have HR2 := Aside0.mk (Kd.R_below HR1.out hb); have HB2 := Aside0.mk (below_step HB1.out hb); clear hb))
    go_ret
    rw [HU.out]
    exact back_of HR2.out HB2.out
  | true =>
    have HU : Aside0 (mv.upgrade root r = mv.upFrom r root) := ⟨by unfold Mv.upgrade; rw [if_pos hm]⟩
    have hmr := hmay r
    rw [hm] at hmr
    have HMR := Aside0.mk hmr
    have hmf : ∀ (fn : Fn) (first cap : Array Value) (w : World), (Instr.makeFunc fn first cap).run Tryz.prog w = .ok (.func fn first cap) w := fun _ _ _ _ => rfl
    have hidx := fun A1 c1 W hC (hX : RqAt W w.heap.size r) => IndexFunc_Req A1 c1 root (fun x : Rq => x.f0.toList == r.f0.toList) 44 #[.pointer (some ⟨w.heap.size, 0, none⟩)] (enters_of Tryz.func44 (by kernel_rfl) rfl) W hC (fun j x hx W' hb cs hK => by
      obtain rfl := k27_open hK
      exact upg_clo _ r x W' (blk_below hX hb))
    clear hm hmr
    rcases idx_up r root 0 with ⟨h1, h2⟩ | ⟨i, x, hx, h1, h2⟩
    · rw [h1] at hidx
      have HIDX := Aside0.mk hidx
      have HU2 := Aside0.mk h2
      clear hidx h1 h2 hmay
      go_enter Tryz.func19, Tryz.ntmps19
      go_wp2_with (first | (go_at_call 41; refine hcl.mono ?_; rintro e w1 ⟨v, rfl, hR, hb⟩; obtain ⟨A1, c1, rfl⟩ := Kd.R_slice hR; have HR1 := Aside0.mk hR; have HB1 := Aside0.mk (below_step (below_alloc (Below.refl _ _) _) hb); have HX1 := Aside0.mk (show RqAt w1 w.heap.size r from blk_below HX.out hb); obtain ⟨h0, h1, h2, h3, h4, h5⟩ := RqAt.cells HX1.out; clear hR hb) | (go_at_call 42; refine (HMR.out _ (HG.out.below HB1.out)).mono ?_; rintro e w2 ⟨rfl, hb⟩; have HR2 := Aside0.mk (Kd.R_below HR1.out hb); have HB2 := Aside0.mk (below_step HB1.out hb); have HX2 := Aside0.mk (show RqAt w2 w.heap.size r from blk_below HX1.out hb); clear hb h0 h1 h2 h3 h4 h5) | (go_at_call 43; refine (HIDX.out A1 c1 w2 (Kd.R_reads' HR2.out).2.2 HX2.out).mono ?_; rintro e w3 ⟨rfl, hb⟩; have HR3 := Aside0.mk (Kd.R_below HR2.out hb); have HB3 := Aside0.mk (below_step HB2.out hb); have HX3 := Aside0.mk (show RqAt w3 w.heap.size r from blk_below HX2.out hb); obtain ⟨h0, h1, h2, h3, h4, h5⟩ := RqAt.cells HX3.out; clear hb) | ((with_reducible refine gate_builtin (b := .append) (xs := #[.tmp 18, .tmp 20]) rfl ?_); at_builtin; refine Kd.R_append k27 (w0 := w3) (w.heap.size + 1) rfl (.tmp 18) (.tmp 20) 22 27 _ 72 rfl Tryz.underlying22 info27 rfl (by decide) (by decide) (.slice A1 root.length c1) root r _ (fun _ => True) (fun _ => False) rfl rfl (k27_mkM _ _ _ r) (fun _ h => h.elim) (fun k hk => trivial) (by have h := HR3.out; rwa [show (w.alloc (.cells (rqc r) 27)).heap.size = w.heap.size + 1 by simp] at h) (Below.refl _ _) (by have := blk_lt HX3.out; omega) (by omega) ?_; intro v4 w4 ho hb hg hat; obtain ⟨A4, c4, rfl⟩ := Kd.R_slice ho; have HR4 := Aside0.mk ho; have HB4 := Aside0.mk (HB3.out.grown hg HB3.out.size (fun k hk => by have := own_base HR3.out.2.choose_spec.1 k hk; simp at this; omega)); clear ho hb hg hat))
      go_ret
      rw [HU.out, HU2.out]
      have h := back_of HR4.out HB4.out
      rwa [List.length_append, show [r].length = 1 from rfl] at h
    · rw [Nat.zero_add] at h1
      rw [h1] at hidx
      have hin := (List.getElem?_eq_some_iff.1 hx).1
      have HIDX := Aside0.mk hidx
      have HU2 := Aside0.mk h2
      have HXX := Aside0.mk hx
      clear hidx h1 h2 hx
      go_enter Tryz.func19, Tryz.ntmps19
      go_wp2_with (first | (go_at_call 41; refine hcl.mono ?_; rintro e w1 ⟨v, rfl, hR, hb⟩; obtain ⟨A1, c1, rfl⟩ := Kd.R_slice hR; have HR1 := Aside0.mk hR; have HB1 := Aside0.mk (below_step (below_alloc (Below.refl _ _) _) hb); have HX1 := Aside0.mk (show RqAt w1 w.heap.size r from blk_below HX.out hb); obtain ⟨h0, h1, h2, h3, h4, h5⟩ := RqAt.cells HX1.out; clear hR hb) | (go_at_call 42; refine (HMR.out _ (HG.out.below HB1.out)).mono ?_; rintro e w2 ⟨rfl, hb⟩; have HR2 := Aside0.mk (Kd.R_below HR1.out hb); have HB2 := Aside0.mk (below_step HB1.out hb); have HX2 := Aside0.mk (show RqAt w2 w.heap.size r from blk_below HX1.out hb); clear hb h0 h1 h2 h3 h4 h5) | (go_at_call 43; refine (HIDX.out A1 c1 w2 (Kd.R_reads' HR2.out).2.2 HX2.out).mono ?_; rintro e w3 ⟨rfl, hb⟩; have HR3 := Aside0.mk (Kd.R_below HR2.out hb); have HB3 := Aside0.mk (below_step HB2.out hb); have HX3 := Aside0.mk (show RqAt w3 w.heap.size r from blk_below HX2.out hb); obtain ⟨h0, h1, h2, h3, h4, h5⟩ := RqAt.cells HX3.out; clear hb))
      clear h0 h1 h2 h3 h4 h5 hcl hmf
      obtain ⟨ad, hA, g0, g1, g2, g3, g4, g5⟩ := at_T27 (Kd.R_reads' HR3.out).2.2 (i : Int) (by omega) (by omega)
      have hxe : rd_T27 root (i : Int) = x := by
        unfold rd_T27
        rw [Int.toNat_natCast, List.getD_eq_getElem?_getD, HXX.out]; rfl
      rw [hxe] at g0 g1 g2 g3 g4 g5
      rw [Int.toNat_natCast] at g0 g1 g2 g3 g4 g5
      subst hA
      obtain ⟨g, hgA⟩ := row_at HR3.out (by omega)
      obtain rfl := Option.some.inj hgA
      clear hgA
      have hiz : (i : Int) < (root.length : Int) := by omega
      rw [add_off, Nat.zero_add] at g0 g1 g2 g3 g4 g5
      have HP3 := Aside0.mk (show RqP w3 g (i * 6) x from ⟨g0, g1, g2, g3, g4, g5⟩)
      clear g0 g1 g2 g3 g4 g5 HR1 HR2 HB1 HB2 HX1 HX2 hxe hmay
      refine sX (ds := []) (S := fun w' => RqC w' w.heap.size r ∧ RqP w' g (i * 6) x) upg.tab7 upg.bits7 ⟨HX3.out.cells, HP3.out⟩ (fun HT_ HW_ hHeld => ?_)
      have HR4 := Aside0.mk (Kd.R_below HR3.out (below_drew1 (Below.refl _ _)))
      have HB4 := Aside0.mk (below_drew1 HB3.out)
      have HX4 := Aside0.mk (show RqAt w3.drew w.heap.size r from blk_drew HX3.out)
      have HP4 := Aside0.mk (show RqP w3.drew g (i * 6) x from HP3.out)
      generalize w3.drew = w4 at HR4 HB4 HX4 HP4 hHeld ⊢
      clear HR3 HB3 HX3 HP3
      refine pX HT_ 0 1 23 ?_
      refine pX HT_ 1 3 24 ?_
      refine pX HT_ 2 7 25 ?_
      refine tX HT_ HW_ hHeld 3 15 26 ?_
      have hmx := fun W h => may_calls x W h
      cases hm2 : mv.may x with
      | false =>
        rw [hm2] at hmx
        have HMX := Aside0.mk hmx
        have HU3 : Aside0 (mv.upFrom r root = root.set i r) := ⟨by rw [HU2.out, if_pos (Or.inl hm2)]⟩
        clear hmx hm2
        refine gX HT_ 4 31 27 Tryz.func42 (HMX.out _ (HG.out.below HB4.out)) ?_
        rintro e w5 ⟨rfl, hb⟩
        have HR5 := Aside0.mk (Kd.R_below HR4.out hb)
        have HB5 := Aside0.mk (below_step HB4.out hb)
        have HX5 := Aside0.mk (show RqAt w5 w.heap.size r from blk_below HX4.out hb)
        have HP5 := Aside0.mk (HP4.out.below hb)
        clear HR4 HB4 HX4 HP4 hHeld hb
        refine ⟨_, rfl, _, nX, ⟨HX5.out.cells, HP5.out⟩, fun hHeld => ?_⟩
        refine pX HT_ 5 63 28 ?_
        refine pX HT_ 6 127 29 ?_
        refine fX HT_ 7 255 30 ?_
        refine fX HT_ 8 511 31 ?_
        refine fX HT_ 9 1023 32 ?_
        refine fX HT_ 10 2047 33 ?_
        refine fX HT_ 12 6143 35 ?_
        refine fX HT_ 11 8191 34 ?_
        refine fX HT_ 13 16383 36 ?_
        refine fX HT_ 14 32767 37 ?_
        refine fX HT_ 15 65535 38 ?_
        refine pX HT_ 16 131071 39 ?_
        refine pX HT_ 17 262143 22 ?_
        refine eX HT_ ?_
        clear HT_ HW_ hHeld
        obtain ⟨h0, h1, h2, h3, h4, h5⟩ := HX5.out.cells
        go_wp2_with ((with_reducible refine gate_ (.store 27 (.tmp 43) (.tmp 42)) rfl ?_); refine Kd.R_store k27 (w0 := w5) (w.heap.size + 1) rfl rfl 27 (.tmp 43) (.tmp 42) rfl 27 (o' := i * 6) (i : Int) 0 root r (.agg (rqc r)) (rql r) (rql x) (fun _ => True) (fun _ => False) rfl (by rw [Int.toNat_natCast]; rfl) rfl rfl (by kernel_rfl) (fun q hq => by simp only [rql, List.mem_cons, List.not_mem_nil, or_false] at hq; rcases hq with rfl | rfl | rfl | rfl | rfl | rfl <;> rfl) (by have h := HR5.out; rwa [show (w.alloc (.cells (rqc r) 27)).heap.size = w.heap.size + 1 by simp] at h) (by omega) hiz rfl (cells_of HP5.out) (show 0 + 6 ≤ 6 by decide) (k27_mkM _ _ _ r) (fun _ h => h.elim) (Below.refl _ _) ?_; intro w6 ho hb6 hg; have HR6 := Aside0.mk ho; have HB6 := Aside0.mk (HB5.out.trans (hb6.mono (Nat.le_succ _))); clear ho hb6 hg)
        go_ret
        rw [HU.out, HU3.out]
        have h := back_of HR6.out HB6.out
        rwa [Int.toNat_natCast] at h
      | true =>
        rw [hm2] at hmx
        have HMX := Aside0.mk hmx
        clear hmx
        refine gX HT_ 4 31 27 Tryz.func42 (HMX.out _ (HG.out.below HB4.out)) ?_
        rintro e w5 ⟨rfl, hb⟩
        have HR5 := Aside0.mk (Kd.R_below HR4.out hb)
        have HB5 := Aside0.mk (below_step HB4.out hb)
        have HX5 := Aside0.mk (show RqAt w5 w.heap.size r from blk_below HX4.out hb)
        have HP5 := Aside0.mk (HP4.out.below hb)
        clear HR4 HB4 HX4 HP4 hHeld hb
        refine ⟨_, rfl, _, nX, ⟨HX5.out.cells, HP5.out⟩, fun hHeld => ?_⟩
        refine pX HT_ 5 63 28 ?_
        refine pX HT_ 6 127 29 ?_
        refine pX HT_ 7 255 30 ?_
        refine pX HT_ 8 511 31 ?_
        refine pX HT_ 9 1023 32 ?_
        refine pX HT_ 10 2047 33 ?_
        refine pX HT_ 12 6143 35 ?_
        refine tX HT_ HW_ hHeld 11 8191 34 ?_
        refine tX HT_ HW_ hHeld 13 16383 36 ?_
        have hcmp := cmp_calls x r w5 (HG.out.below HB5.out)
        by_cases hz : mv.cmp x r < 0
        · have HU3 : Aside0 (mv.upFrom r root = root.set i r) := ⟨by rw [HU2.out, if_pos (Or.inr hz)]⟩
          have hzd : decide (mv.cmp x r < 0) = true := decide_eq_true hz
          generalize mv.cmp x r = z at hcmp hzd hz
          clear hm2
          refine gX HT_ 14 32767 37 Tryz.func45 hcmp ?_
          rintro e w7 ⟨rfl, hb⟩
          have HR7 := Aside0.mk (Kd.R_below HR5.out hb)
          have HB7 := Aside0.mk (below_step HB5.out hb)
          have HX7 := Aside0.mk (show RqAt w7 w.heap.size r from blk_below HX5.out hb)
          have HP7 := Aside0.mk (HP5.out.below hb)
          clear HR5 HB5 HX5 HP5 hHeld hb hcmp
          refine ⟨_, rfl, _, nX, ⟨HX7.out.cells, HP7.out⟩, fun hHeld => ?_⟩
          refine pX HT_ 15 65535 38 ?_
          refine pX HT_ 16 131071 39 ?_
          refine pX HT_ 17 262143 22 ?_
          refine eX HT_ ?_
          clear HT_ HW_ hHeld
          obtain ⟨h0, h1, h2, h3, h4, h5⟩ := HX7.out.cells
          go_wp2_with ((with_reducible refine gate_ (.store 27 (.tmp 43) (.tmp 42)) rfl ?_); refine Kd.R_store k27 (w0 := w7) (w.heap.size + 1) rfl rfl 27 (.tmp 43) (.tmp 42) rfl 27 (o' := i * 6) (i : Int) 0 root r (.agg (rqc r)) (rql r) (rql x) (fun _ => True) (fun _ => False) rfl (by rw [Int.toNat_natCast]; rfl) rfl rfl (by kernel_rfl) (fun q hq => by simp only [rql, List.mem_cons, List.not_mem_nil, or_false] at hq; rcases hq with rfl | rfl | rfl | rfl | rfl | rfl <;> rfl) (by have h := HR7.out; rwa [show (w.alloc (.cells (rqc r) 27)).heap.size = w.heap.size + 1 by simp] at h) (by omega) hiz rfl (cells_of HP7.out) (show 0 + 6 ≤ 6 by decide) (k27_mkM _ _ _ r) (fun _ h => h.elim) (Below.refl _ _) ?_; intro w6 ho hb6 hg; have HR6 := Aside0.mk ho; have HB6 := Aside0.mk (HB7.out.trans (hb6.mono (Nat.le_succ _))); clear ho hb6 hg)
          go_ret
          rw [HU.out, HU3.out]
          have h := back_of HR6.out HB6.out
          rwa [Int.toNat_natCast] at h
        · have HU3 : Aside0 (mv.upFrom r root = root) := ⟨by rw [HU2.out, if_neg (by rintro (h | h); (rw [hm2] at h; cases h); exact hz h)]⟩
          have hzd : decide (mv.cmp x r < 0) = false := decide_eq_false hz
          generalize mv.cmp x r = z at hcmp hzd hz
          clear hm2
          refine gX HT_ 14 32767 37 Tryz.func45 hcmp ?_
          rintro e w7 ⟨rfl, hb⟩
          have HR7 := Aside0.mk (Kd.R_below HR5.out hb)
          have HB7 := Aside0.mk (below_step HB5.out hb)
          have HX7 := Aside0.mk (show RqAt w7 w.heap.size r from blk_below HX5.out hb)
          have HP7 := Aside0.mk (HP5.out.below hb)
          clear HR5 HB5 HX5 HP5 hHeld hb hcmp
          refine ⟨_, rfl, _, nX, ⟨HX7.out.cells, HP7.out⟩, fun hHeld => ?_⟩
          refine pX HT_ 15 65535 38 ?_
          refine pX HT_ 16 131071 39 ?_
          refine pX HT_ 17 262143 22 ?_
          refine eX HT_ ?_
          clear HT_ HW_ hHeld
          go_wp2
          go_ret
          rw [HU.out, HU3.out]
          exact back_of HR7.out HB7.out
end Go.Proofs.YtkidfclnakbgiaaGreatDoor
end

section
namespace Go.Proofs.YtkidfclnakbgiaaGreatDoor
open Go Go.RowKit Go.Sort Go.Maps Go.Proofs Go.Proofs.YtkidfclnakbgiaaGreatDoorW.PrintWords Go.Proofs.YtkidfclnakbgiaaGreatDoorW.PrintLast Go.Proofs.YtkidfclnakbgiaaGreatDoor.K0
set_option linter.unusedVariables false
set_option linter.unusedSimpArgs false
abbrev bndc (r : Rq) (v : Value) : Array Value := #[.string r.f0, .int .i64 r.f1.f0, .int .i64 r.f1.f1, .int .i64 r.f1.f2, .string r.f1.f3, .string r.f1.f4, v]
theorem bnd_cells {w : World} {B : Nat} {r : Rq} {v : Value} (h : w.heap[B]? = some (.cells (bndc r v) 69 (0, 0))) : RqC w B r := ⟨(blk_cell h 0).trans rfl, (blk_cell h 1).trans rfl, (blk_cell h 2).trans rfl, (blk_cell h 3).trans rfl, (blk_cell h 4).trans rfl, (blk_cell h 5).trans rfl⟩
set_option maxRecDepth 100000 in
set_option maxHeartbeats 1000000 in
theorem out_clo (B : Nat) (r y : Rq) (v : Value) (w : World) (hG : GW w) (h : w.heap[B]? = some (.cells (bndc r v) 69 (0, 0))) :
    Calls Tryz.prog 66 #[.agg (rqc y), .pointer (some ⟨B, 0, none⟩)] w fun e w' => e = .returned (.bool (decide (mv.path y = mv.path r) && decide (mv.cmp y r > 0))) ∧ Below w.heap.size w w' := by
  obtain ⟨h0, h1, h2, h3, h4, h5⟩ := bnd_cells (blk_alloc h (.cells (rqc y) 27))
  have hcmp := cmp_calls y r (w.alloc (.cells (rqc y) 27)) (hG.below (below_alloc (Below.refl _ _) _))
  have hp := same_path y r
  rw [← hp]
  clear h hp
  generalize mv.cmp y r = z at hcmp ⊢
  cases hq : (y.f0.toList == r.f0.toList) with
  | false =>
    simp only [Bool.false_and]
    go_enter Tryz.func66, Tryz.ntmps66
    go_wp2
    go_ret
    exact ⟨rfl, by repeat (first | exact Below.refl _ _ | apply below_alloc | apply pw_below_drewN | apply below_drew1)⟩
  | true =>
    simp only [Bool.true_and]
    go_enter Tryz.func66, Tryz.ntmps66
    go_wp2_with (go_at_call 45; refine hcmp.mono ?_; rintro e w2 ⟨rfl, hb⟩; have HB := Aside0.mk (below_step (below_alloc (Below.refl _ _) _) hb); clear hb)
    go_ret
    exact ⟨rfl, HB.out⟩
/-- One requirement in a new block reads as a list of one. -/
theorem one_reads {w : World} {b : Nat} {x : Rq} (h : RqAt w b x) : Kd.C k27 w (some ⟨b, 0, none⟩) [x].length [x] := by
  refine ⟨rfl, by simp, fun _ => ⟨⟨b, 0, none⟩, rfl, fun j p hj => ?_⟩⟩
  have hj0 : j = 0 := by have := (List.getElem?_eq_some_iff.1 hj).1; simp at this; omega
  subst hj0
  obtain rfl : x = p := by simpa using hj
  refine ⟨_, rfl, k27_mk w x, fun i u hu => ?_⟩
  rw [Nat.zero_mul, Nat.zero_add, add_off, Nat.zero_add, blk_cell h i]
  rw [← hu]
  show (List.toArray _)[i]? = _
  rw [List.getElem?_toArray]
set_option maxRecDepth 100000 in
set_option maxHeartbeats 1000000 in
theorem out_calls (An : Option Addr) (cn : Nat) (xs : List Nd) (r x : Rq) (w : World) (hG : GW w) (hn : Kd.C k48 w An xs.length xs) (hU : (Mv.univ [x] (xs.map ndP)).length ≤ 1000000) :
    Calls Tryz.prog 46 #[.agg (bndc r (.slice An xs.length cn)), .agg (rqc x)] w fun e w' => e = .returned (.bool (mv.out (xs.map ndP) r x)) ∧ Below w.heap.size w w' := by
  have hb2 := below_alloc (below_alloc (Below.refl w.heap.size w) (.cells (bndc r (.slice An xs.length cn)) 69)) (.cells (rqc x) 27)
  have hb3 := below_alloc hb2 (.cells (rqc x) 27)
  have hbl := heap_alloc_new ((w.alloc (.cells (bndc r (.slice An xs.length cn)) 69)).alloc (.cells (rqc x) 27)) (.cells (rqc x) 27)
  rw [show ((w.alloc (.cells (bndc r (.slice An xs.length cn)) 69)).alloc (.cells (rqc x) 27)).heap.size = w.heap.size + 1 + 1 by simp] at hbl
  have hlist := list_calls (some ⟨w.heap.size + 1 + 1, 0, none⟩) 1 [x] An cn xs (((w.alloc (.cells (bndc r (.slice An xs.length cn)) 69)).alloc (.cells (rqc x) 27)).alloc (.cells (rqc x) 27)) (hG.below hb3) (one_reads hbl) (Kd.C_below hn hb3) hU
  have HBX := Aside0.mk (blk_alloc (blk_alloc (heap_alloc_new w (.cells (bndc r (.slice An xs.length cn)) 69)) (.cells (rqc x) 27)) (.cells (rqc x) 27))
  have HO : Aside0 (mv.out (xs.map ndP) r x = (mv.list [x] (xs.map ndP)).any fun y => decide (mv.path y = mv.path r) && decide (mv.cmp y r > 0)) := ⟨rfl⟩
  have HB3 := Aside0.mk hb3
  have HG := Aside0.mk hG
  have hmf : ∀ (fn : Fn) (first cap : Array Value) (w : World), (Instr.makeFunc fn first cap).run Tryz.prog w = .ok (.func fn first cap) w := fun _ _ _ _ => rfl
  clear hn hb2 hb3 hbl hU hG
  generalize mv.list [x] (xs.map ndP) = L at hlist HO
  generalize hlen : xs.length = n at *
  have hcf := fun A2 c2 W (hb0 : Below w.heap.size w W) hC (hX : W.heap[w.heap.size]? = some (.cells (bndc r (.slice An n cn)) 69 (0, 0))) => ContainsFunc_Req A2 c2 L (fun y => decide (mv.path y = mv.path r) && decide (mv.cmp y r > 0)) 66 #[.pointer (some ⟨w.heap.size, 0, none⟩)] (enters_of Tryz.func66 (by kernel_rfl) rfl) W hC (fun j y hy W' hb cs hK => by
    obtain rfl := k27_open hK
    exact out_clo w.heap.size r y _ W' (HG.out.below (below_step hb0 hb)) (blk_below hX hb))
  have HCF := Aside0.mk hcf
  clear hcf
  go_enter Tryz.func46, Tryz.ntmps46
  go_wp2_with (first | (go_at_call 17; refine hlist.mono ?_; rintro e w2 hbk; obtain ⟨A2, c2, rfl, hl2, hC2⟩ := hbk.out; have hb := hbk.below; clear hbk; have HC2 := Aside0.mk hC2; have HX2 := Aside0.mk (blk_below HBX.out hb); have HB2 := Aside0.mk (below_step HB3.out hb); clear hb hl2 hC2) | (go_at_call 65; refine (HCF.out A2 c2 w2 HB2.out HC2.out HX2.out).mono ?_; rintro e w3 ⟨rfl, hb⟩; have HB4 := Aside0.mk (below_step HB2.out hb); clear hb))
  go_ret
  exact ⟨by rw [HO.out]; rfl, HB4.out⟩
end Go.Proofs.YtkidfclnakbgiaaGreatDoor
end
