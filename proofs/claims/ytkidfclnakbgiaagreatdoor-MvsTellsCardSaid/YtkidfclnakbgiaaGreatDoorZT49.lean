/- The texts TlUp in one file, without what these claims do not use (put together by prune2.py). -/
import Derived.Test.YtkidfclnakbgiaaGreatDoorZT48
section
namespace Go.Proofs.YtkidfclnakbgiaaGreatDoor
open Go Go.RowKit Go.Sort Go.Maps Go.Proofs Go.Proofs.YtkidfclnakbgiaaGreatDoorW.PrintWords Go.Proofs.YtkidfclnakbgiaaGreatDoorW.PrintLast Go.Proofs.YtkidfclnakbgiaaGreatDoor.K0
set_option linter.unusedVariables false
set_option linter.unusedSimpArgs false
def rup.T7 : Bool × List (List Nat × List Nat) := (true, [([], []), ([], []), ([0, 1], [0, 1]), ([2], [2]), ([3], [3]), ([], []), ([5], [5]), ([4, 6], [4, 6])])
def rup.B7 : List Nat := [0, 0, 3, 7, 15, 0, 32, 127]
theorem rup.tab7 : rtab .any (opsOf Tryz.f20 7) = rup.T7 := by kernel_rfl
theorem rup.bits7 : waitsOk rup.T7.2 rup.B7 = true := by kernel_rfl
def rup.T8 : Bool × List (List Nat × List Nat) := (true, [([], []), ([], []), ([0, 1], [0, 1]), ([2], [2]), ([3], [3]), ([4], [4]), ([5, 4], [5]), ([6], [6]), ([6], [6]), ([7, 8, 6], [6, 7, 8]), ([9, 6], [6, 9]), ([10, 6], [6, 10]), ([6], [6]), ([12, 6], [6, 12]), ([11, 13, 6, 6], [6, 11, 13]), ([14, 6], [6, 14]), ([6, 15], [6, 15])])
def rup.B8 : List Nat := [0, 0, 3, 7, 15, 31, 63, 127, 127, 511, 1023, 2047, 127, 4223, 16383, 32767, 65535]
theorem rup.tab8 : rtab .any (opsOf Tryz.f20 8) = rup.T8 := by kernel_rfl
theorem rup.bits8 : waitsOk rup.T8.2 rup.B8 = true := by kernel_rfl
set_option maxRecDepth 100000 in
set_option maxHeartbeats 4000000 in
theorem refup_calls (A : Option Addr) (c : Nat) (root : List Rq) (r : Rq) (w : World) (hr : Kd.C k27 w A root.length root) (hc : root.length ≤ c) (hl : root.length ≤ 100000) :
    Calls Tryz.prog 20 #[.slice A root.length c, .agg (rqc r)] w fun e w' => RqBack w w' e (mv.upgrade root r) := by
  have hmr := fun W => refmay_calls r W
  have HB0 := Aside0.mk (below_alloc (Below.refl w.heap.size w) (.cells (rqc r) 27))
  have HX0 := Aside0.mk (show RqAt (w.alloc (.cells (rqc r) 27)) w.heap.size r from heap_alloc_new w _)
  have HRT := Aside0.mk hr
  clear hr
  obtain ⟨h0, h1, h2, h3, h4, h5⟩ := HX0.out.cells
  cases hm : mv.may r with
  | false =>
    have HU : Aside0 (mv.upgrade root r = root) := ⟨by unfold Mv.upgrade; rw [if_neg (by rw [hm]; simp)]⟩
    rw [hm] at hmr
    have HMR := Aside0.mk hmr
    clear hm hmr
    go_enter Tryz.func20, Tryz.ntmps20
    go_wp2_with (first | ((with_reducible refine gate_dst (N := 7) rfl ?_); refine Kd.R_lit k27 (w0 := w.alloc (.cells (rqc r) 27)) (w.heap.size + 1) 27 ?hg (N := 7) ?hd (xs := ([] : List Rq)) (inner := []) (ok := fun k => w.heap.size < k) (okp := fun _ => False) ?hr ?hp (fun _ hk => hk.elim) (by show w.heap.size < _; simp) (Below.refl _ _) (by simp) (by simp) ?_; (case hd => rfl); (case hg => rfl); (case hr => first | (go_simp; done) | (go_simp; rfl)); (case hp => exact (Reps.none _ _)); intro v1 w1 ho hb hg hnew; have HR1 := Aside0.mk ho; have HB1 := Aside0.mk (HB0.out.grown hg HB0.out.size (fun k hk => by cases hk)); have HX1 := Aside0.mk (show RqAt w1 w.heap.size r from blk_grown HX0.out hg (fun e => by cases e)); clear ho hb hg hnew h0 h1 h2 h3 h4 h5) | ((with_reducible refine gate_builtin (b := .append) (xs := #[.tmp 7, .tmp 8]) rfl ?_); at_builtin; refine Kd.R_append_rows k27 (w0 := w1) (w.heap.size + 1) rfl (.tmp 7) (.tmp 8) 22 27 _ 72 rfl Tryz.underlying22 info27 rfl (by decide) (by decide) v1 [] root _ _ _ (fun k => w.heap.size < k) (fun _ => False) rfl rfl HR1.out (Kd.C_below HRT.out HB1.out) (fun _ _ h => h) (fun _ h => h.elim) (fun k hk => by have := blk_lt HX1.out; omega) (Below.refl _ _) (by have := blk_lt HX1.out; omega) (by rw [List.length_nil]; omega) ?_; intro v2 w2 ho hb hg hat; rw [List.nil_append] at ho; have HR2 := Aside0.mk ho; have HB2 := Aside0.mk (HB1.out.grown hg HB1.out.size (fun k hk => by have := HR1.out.1 k hk; omega)); have HX2 := Aside0.mk (show RqAt w2 w.heap.size r from blk_grown HX1.out hg (fun e => by have := HR1.out.1 _ e.symm; omega)); obtain ⟨r0, r1, r2, r3, r4, r5⟩ := HX2.out.cells; clear ho hb hg hat) | (go_at_call 25; refine (HMR.out _).mono ?_; rintro e w3 ⟨rfl, hb⟩; have HR3 := Aside0.mk (Kd.R_below HR2.out hb); have HB3 := Aside0.mk (below_step HB2.out hb); have HX3 := Aside0.mk (show RqAt w3 w.heap.size r from blk_below HX2.out hb); clear hb r0 r1 r2 r3 r4 r5))
    go_ret
    obtain ⟨A2, c2, rfl⟩ := Kd.R_slice HR3.out
    rw [HU.out]
    exact back_of HR3.out HB3.out (Nat.le_succ _)
  | true =>
    have HU : Aside0 (mv.upgrade root r = mv.upFrom r root) := ⟨by unfold Mv.upgrade; rw [if_pos hm]⟩
    rw [hm] at hmr
    have HMR := Aside0.mk hmr
    clear hm hmr
    go_enter Tryz.func20, Tryz.ntmps20
    go_wp2_with (first | ((with_reducible refine gate_dst (N := 7) rfl ?_); refine Kd.R_lit k27 (w0 := w.alloc (.cells (rqc r) 27)) (w.heap.size + 1) 27 ?hg (N := 7) ?hd (xs := ([] : List Rq)) (inner := []) (ok := fun k => w.heap.size < k) (okp := fun _ => False) ?hr ?hp (fun _ hk => hk.elim) (by show w.heap.size < _; simp) (Below.refl _ _) (by simp) (by simp) ?_; (case hd => rfl); (case hg => rfl); (case hr => first | (go_simp; done) | (go_simp; rfl)); (case hp => exact (Reps.none _ _)); intro v1 w1 ho hb hg hnew; have HR1 := Aside0.mk ho; have HB1 := Aside0.mk (HB0.out.grown hg HB0.out.size (fun k hk => by cases hk)); have HX1 := Aside0.mk (show RqAt w1 w.heap.size r from blk_grown HX0.out hg (fun e => by cases e)); clear ho hb hg hnew h0 h1 h2 h3 h4 h5) | ((with_reducible refine gate_builtin (b := .append) (xs := #[.tmp 7, .tmp 8]) rfl ?_); at_builtin; refine Kd.R_append_rows k27 (w0 := w1) (w.heap.size + 1) rfl (.tmp 7) (.tmp 8) 22 27 _ 72 rfl Tryz.underlying22 info27 rfl (by decide) (by decide) v1 [] root _ _ _ (fun k => w.heap.size < k) (fun _ => False) rfl rfl HR1.out (Kd.C_below HRT.out HB1.out) (fun _ _ h => h) (fun _ h => h.elim) (fun k hk => by have := blk_lt HX1.out; omega) (Below.refl _ _) (by have := blk_lt HX1.out; omega) (by rw [List.length_nil]; omega) ?_; intro v2 w2 ho hb hg hat; rw [List.nil_append] at ho; have HR2 := Aside0.mk ho; have HB2 := Aside0.mk (HB1.out.grown hg HB1.out.size (fun k hk => by have := HR1.out.1 k hk; omega)); have HX2 := Aside0.mk (show RqAt w2 w.heap.size r from blk_grown HX1.out hg (fun e => by have := HR1.out.1 _ e.symm; omega)); obtain ⟨r0, r1, r2, r3, r4, r5⟩ := HX2.out.cells; clear ho hb hg hat) | (go_at_call 25; refine (HMR.out _).mono ?_; rintro e w3 ⟨rfl, hb⟩; have HR3 := Aside0.mk (Kd.R_below HR2.out hb); have HB3 := Aside0.mk (below_step HB2.out hb); have HX3 := Aside0.mk (show RqAt w3 w.heap.size r from blk_below HX2.out hb); clear hb r0 r1 r2 r3 r4 r5))
    obtain ⟨A2, c2, rfl⟩ := Kd.R_slice HR3.out
    go_loopg [6] root.length (fun gg s6 wr => ∃ kk : Nat, kk ≤ root.length ∧ root.length - kk ≤ gg ∧ s6 = .int .i64 kk ∧ Aside0 (mv.upFrom r root = root.take kk ++ mv.upFrom r (root.drop kk)) ∧ Aside0 (Below w.heap.size w wr) ∧ Aside0 (RqAt wr w.heap.size r) ∧ Aside0 (Kd.R k27 27 wr (w.heap.size + 1) (fun k => w.heap.size < k) (.slice A2 root.length c2) root))
    case atStart => exact ⟨0, Nat.zero_le _, by omega, rfl, ⟨by rw [List.take_zero, List.drop_zero]; rfl⟩, HB3, HX3, HR3⟩
    case round =>
      clear HB0 HX0 HB1 HX1 HB2 HX2 HB3 HX3 HR1 HR2 HR3 HMR
      obtain ⟨kk, hkk, hg, rfl, HA, HB, HX, HR⟩ := hrel
      by_cases hlt : kk < root.length
      · have hltz : (kk : Int) < (root.length : Int) := by omega
        obtain ⟨x, hx⟩ : ∃ x, root[kk]? = some x := ⟨_, List.getElem?_eq_getElem hlt⟩
        have hxe : rd_T27 root (kk : Int) = x := by
          unfold rd_T27
          rw [Int.toNat_natCast, List.getD_eq_getElem?_getD, hx]; rfl
        have hdr : root.drop kk = x :: root.drop (kk + 1) := by
          rw [List.drop_eq_getElem_cons hlt]; congr 1; rw [List.getElem?_eq_getElem hlt] at hx; exact Option.some.inj hx
        have HF : Aside0 (mv.upFrom r root = root.take kk ++ mv.upFrom r (x :: root.drop (kk + 1))) := ⟨by rw [HA.out, hdr]⟩
        have HSET : Aside0 (root.take kk ++ r :: root.drop (kk + 1) = root.set kk r) := ⟨by rw [List.set_eq_take_append_cons_drop, if_pos hlt]⟩
        have HSAME : Aside0 (root.take kk ++ x :: root.drop (kk + 1) = root) := ⟨by rw [← hdr, List.take_append_drop]⟩
        have HTK : Aside0 (root.take (kk + 1) = root.take kk ++ [x]) := ⟨by rw [List.take_add_one, hx]; rfl⟩
        clear HA hdr
        obtain ⟨ad, hA, g0, g1, g2, g3, g4, g5⟩ := at_T27 (Kd.R_reads' HR.out).2.2 (kk : Int) (by omega) (by omega)
        rw [hxe] at g0 g1 g2 g3 g4 g5
        rw [Int.toNat_natCast] at g0 g1 g2 g3 g4 g5
        subst hA
        obtain ⟨g, hgA⟩ := row_at HR.out (by omega)
        obtain rfl := Option.some.inj hgA
        rw [add_off, Nat.zero_add] at g0 g1 g2 g3 g4 g5
        have HP := Aside0.mk (show RqP wr g (kk * 6) x from ⟨g0, g1, g2, g3, g4, g5⟩)
        clear hgA g0 g1 g2 g3 g4 g5 hx hxe
        go_wp2
        refine sX (ds := []) (S := fun w' => RqC w' w.heap.size r ∧ RqP w' g (kk * 6) x) rup.tab7 rup.bits7 ⟨RqAt.cells (blk_drew HX.out), HP.out⟩ (fun HT_ HW_ hHeld => ?_)
        have HR4 := Aside0.mk (Kd.R_below HR.out (below_drew1 (Below.refl _ _)))
        have HB4 := Aside0.mk (below_drew1 HB.out)
        have HX4 := Aside0.mk (show RqAt wr.drew w.heap.size r from blk_drew HX.out)
        have HP4 := Aside0.mk (show RqP wr.drew g (kk * 6) x from HP.out)
        generalize wr.drew = w4 at HR4 HB4 HX4 HP4 hHeld ⊢
        clear HR HB HX HP
        refine pX HT_ 0 1 20 ?_
        refine pX HT_ 1 3 21 ?_
        refine pX HT_ 2 7 22 ?_
        refine pX HT_ 3 15 23 ?_
        refine pX HT_ 5 47 25 ?_
        refine tX HT_ HW_ hHeld 4 63 24 ?_
        refine tX HT_ HW_ hHeld 6 127 26 ?_
        refine pX HT_ 7 255 27 ?_
        refine eX HT_ ?_
        clear HT_ HW_ hHeld
        have hsp := same_path x r
        cases hp : (x.f0.toList == r.f0.toList) with
        | false =>
          have hne : ¬ mv.path x = mv.path r := by rw [hsp] at hp; simpa using hp
          have HAN : Aside0 (mv.upFrom r root = root.take (kk + 1) ++ mv.upFrom r (root.drop (kk + 1))) := ⟨by rw [HF.out, HTK.out, show mv.upFrom r (x :: root.drop (kk + 1)) = x :: mv.upFrom r (root.drop (kk + 1)) from by rw [Mv.upFrom, if_neg hne]]; simp⟩
          clear hsp hne
          go_wp2
          go_roundg (root.length - (kk + 1))
          case measure => omega
          case rel => exact ⟨kk + 1, by omega, by omega, by go_num, HAN, HB4, HX4, HR4⟩
        | true =>
          have hpath : mv.path x = mv.path r := by rw [hsp] at hp; simpa using hp
          clear hsp
          go_wp2
          refine sX (ds := []) (S := fun w' => RqC w' w.heap.size r ∧ RqP w' g (kk * 6) x) rup.tab8 rup.bits8 ⟨RqAt.cells (blk_drew HX4.out), HP4.out⟩ (fun HT_ HW_ hHeld => ?_)
          have HR6 := Aside0.mk (Kd.R_below HR4.out (below_drew1 (Below.refl _ _)))
          have HB6 := Aside0.mk (below_drew1 HB4.out)
          have HX6 := Aside0.mk (show RqAt w4.drew w.heap.size r from blk_drew HX4.out)
          have HP6 := Aside0.mk (show RqP w4.drew g (kk * 6) x from HP4.out)
          generalize w4.drew = w6 at HR6 HB6 HX6 HP6 hHeld ⊢
          clear HR4 HB4 HX4 HP4 hp
          refine pX HT_ 0 1 28 ?_
          refine pX HT_ 1 3 29 ?_
          refine pX HT_ 2 7 30 ?_
          refine tX HT_ HW_ hHeld 3 15 31 ?_
          have hmx := fun W => refmay_calls x W
          cases hm2 : mv.may x with
          | false =>
            rw [hm2] at hmx
            have HU3 : Aside0 (mv.upFrom r root = root.set kk r) := ⟨by rw [HF.out]; unfold Mv.upFrom; rw [if_pos hpath, if_pos (Or.inl hm2)]; exact HSET.out⟩
            clear hm2
            refine gX HT_ 4 31 32 Tryz.func25 (hmx _) ?_
            rintro e w7 ⟨rfl, hb⟩
            have HR7 := Aside0.mk (Kd.R_below HR6.out hb)
            have HB7 := Aside0.mk (below_step HB6.out hb)
            have HX7 := Aside0.mk (show RqAt w7 w.heap.size r from blk_below HX6.out hb)
            have HP7 := Aside0.mk (HP6.out.below hb)
            clear HR6 HB6 HX6 HP6 hHeld hb
            refine ⟨_, rfl, _, nX, ⟨HX7.out.cells, HP7.out⟩, fun hHeld => ?_⟩
            refine pX HT_ 5 63 33 ?_
            refine pX HT_ 6 127 34 ?_
            refine fX HT_ 7 255 35 ?_
            refine fX HT_ 8 511 36 ?_
            refine fX HT_ 9 1023 37 ?_
            refine fX HT_ 10 2047 38 ?_
            refine fX HT_ 12 6143 40 ?_
            refine fX HT_ 11 8191 39 ?_
            refine fX HT_ 13 16383 41 ?_
            refine fX HT_ 14 32767 42 ?_
            refine fX HT_ 15 65535 43 ?_
            refine pX HT_ 16 131071 44 ?_
            refine eX HT_ ?_
            clear HT_ HW_ hHeld
            obtain ⟨h0, h1, h2, h3, h4, h5⟩ := HX7.out.cells
            go_wp2_with ((with_reducible refine gate_ (.store 27 (.tmp 48) (.tmp 47)) rfl ?_); refine Kd.R_store k27 (w0 := w7) (w.heap.size + 1) rfl rfl 27 (.tmp 48) (.tmp 47) rfl 27 (o' := kk * 6) (kk : Int) 0 root r (.agg (rqc r)) (rql r) (rql x) (fun k => w.heap.size < k) (fun _ => False) rfl (by rw [Int.toNat_natCast]; rfl) rfl rfl (by kernel_rfl) (fun q hq => by simp only [rql, List.mem_cons, List.not_mem_nil, or_false] at hq; rcases hq with rfl | rfl | rfl | rfl | rfl | rfl <;> rfl) HR7.out (by omega) hltz rfl (cells_of HP7.out) (show 0 + 6 ≤ 6 by decide) (k27_mkM _ _ _ r) (fun _ h => h.elim) (Below.refl _ _) ?_; intro w9 ho hb9 hg; have HR9 := Aside0.mk ho; have HB9 := Aside0.mk (HB7.out.trans (hb9.mono (Nat.le_succ _))); clear ho hb9 hg)
            go_ret
            rw [HU.out, HU3.out]
            have h := back_of HR9.out HB9.out (Nat.le_succ _)
            rwa [Int.toNat_natCast] at h
          | true =>
            rw [hm2] at hmx
            refine gX HT_ 4 31 32 Tryz.func25 (hmx _) ?_
            rintro e w7 ⟨rfl, hb⟩
            have HR7 := Aside0.mk (Kd.R_below HR6.out hb)
            have HB7 := Aside0.mk (below_step HB6.out hb)
            have HX7 := Aside0.mk (show RqAt w7 w.heap.size r from blk_below HX6.out hb)
            have HP7 := Aside0.mk (HP6.out.below hb)
            clear HR6 HB6 HX6 HP6 hHeld hb
            refine ⟨_, rfl, _, nX, ⟨HX7.out.cells, HP7.out⟩, fun hHeld => ?_⟩
            refine pX HT_ 5 63 33 ?_
            refine pX HT_ 6 127 34 ?_
            refine pX HT_ 7 255 35 ?_
            refine pX HT_ 8 511 36 ?_
            refine pX HT_ 9 1023 37 ?_
            refine pX HT_ 10 2047 38 ?_
            refine pX HT_ 12 6143 40 ?_
            refine tX HT_ HW_ hHeld 11 8191 39 ?_
            refine tX HT_ HW_ hHeld 13 16383 41 ?_
            have hcmp := refcmp_calls x r w7
            by_cases hz : mv.cmp x r < 0
            ·
              have HU3 : Aside0 (mv.upFrom r root = root.set kk r) := ⟨by rw [HF.out]; unfold Mv.upFrom; rw [if_pos hpath, if_pos (Or.inr hz)]; exact HSET.out⟩
              have hzd : decide (mv.cmp x r < 0) = true := decide_eq_true hz
              generalize mv.cmp x r = z at hcmp hzd hz
              clear hm2
              refine gX HT_ 14 32767 42 Tryz.func26 hcmp ?_
              rintro e w8 ⟨rfl, hb⟩
              have HR8 := Aside0.mk (Kd.R_below HR7.out hb)
              have HB8 := Aside0.mk (below_step HB7.out hb)
              have HX8 := Aside0.mk (show RqAt w8 w.heap.size r from blk_below HX7.out hb)
              have HP8 := Aside0.mk (HP7.out.below hb)
              clear HR7 HB7 HX7 HP7 hHeld hb
              refine ⟨_, rfl, _, nX, ⟨HX8.out.cells, HP8.out⟩, fun hHeld => ?_⟩
              clear hcmp
              refine pX HT_ 15 65535 43 ?_
              refine pX HT_ 16 131071 44 ?_
              refine eX HT_ ?_
              clear HT_ HW_ hHeld
              obtain ⟨h0, h1, h2, h3, h4, h5⟩ := HX8.out.cells
              go_wp2_with ((with_reducible refine gate_ (.store 27 (.tmp 48) (.tmp 47)) rfl ?_); refine Kd.R_store k27 (w0 := w8) (w.heap.size + 1) rfl rfl 27 (.tmp 48) (.tmp 47) rfl 27 (o' := kk * 6) (kk : Int) 0 root r (.agg (rqc r)) (rql r) (rql x) (fun k => w.heap.size < k) (fun _ => False) rfl (by rw [Int.toNat_natCast]; rfl) rfl rfl (by kernel_rfl) (fun q hq => by simp only [rql, List.mem_cons, List.not_mem_nil, or_false] at hq; rcases hq with rfl | rfl | rfl | rfl | rfl | rfl <;> rfl) HR8.out (by omega) hltz rfl (cells_of HP8.out) (show 0 + 6 ≤ 6 by decide) (k27_mkM _ _ _ r) (fun _ h => h.elim) (Below.refl _ _) ?_; intro w9 ho hb9 hg; have HR9 := Aside0.mk ho; have HB9 := Aside0.mk (HB8.out.trans (hb9.mono (Nat.le_succ _))); clear ho hb9 hg)
              go_ret
              rw [HU.out, HU3.out]
              have h := back_of HR9.out HB9.out (Nat.le_succ _)
              rwa [Int.toNat_natCast] at h
            ·
              have HU3 : Aside0 (mv.upFrom r root = root) := ⟨by rw [HF.out]; unfold Mv.upFrom; rw [if_pos hpath, if_neg (by rintro (h | h); (rw [hm2] at h; cases h); exact hz h)]; exact HSAME.out⟩
              have hzd : decide (mv.cmp x r < 0) = false := decide_eq_false hz
              generalize mv.cmp x r = z at hcmp hzd hz
              clear hm2
              refine gX HT_ 14 32767 42 Tryz.func26 hcmp ?_
              rintro e w8 ⟨rfl, hb⟩
              have HR8 := Aside0.mk (Kd.R_below HR7.out hb)
              have HB8 := Aside0.mk (below_step HB7.out hb)
              have HX8 := Aside0.mk (show RqAt w8 w.heap.size r from blk_below HX7.out hb)
              have HP8 := Aside0.mk (HP7.out.below hb)
              clear HR7 HB7 HX7 HP7 hHeld hb
              refine ⟨_, rfl, _, nX, ⟨HX8.out.cells, HP8.out⟩, fun hHeld => ?_⟩
              clear hcmp
              refine pX HT_ 15 65535 43 ?_
              refine pX HT_ 16 131071 44 ?_
              refine eX HT_ ?_
              clear HT_ HW_ hHeld
              go_wp2
              go_ret
              rw [HU.out, HU3.out]
              exact back_of HR8.out HB8.out (Nat.le_succ _)
      · have hltz : ¬ (kk : Int) < (root.length : Int) := by omega
        have HAE : Aside0 (mv.upFrom r root = root ++ [r]) := ⟨by rw [HA.out, List.take_of_length_le (by omega), List.drop_eq_nil_of_le (by omega)]; rfl⟩
        obtain ⟨h0, h1, h2, h3, h4, h5⟩ := HX.out.cells
        clear HA
        go_wp2_with ((with_reducible refine gate_builtin (b := .append) (xs := #[.tmp 50, .tmp 52]) rfl ?_); at_builtin; refine Kd.R_append k27 (w0 := wr) (w.heap.size + 1) rfl (.tmp 50) (.tmp 52) 22 27 _ 72 rfl Tryz.underlying22 info27 rfl (by decide) (by decide) (.slice A2 root.length c2) root r _ (fun k => w.heap.size < k) (fun _ => False) rfl rfl (k27_mkM _ _ _ r) (fun _ h => h.elim) (fun k hk => by have := blk_lt HX.out; omega) HR.out (Below.refl _ _) (by have := blk_lt HX.out; omega) (by omega) ?_; intro v9 w9 ho hb hg hat; obtain ⟨A9, c9, rfl⟩ := Kd.R_slice ho; have HR9 := Aside0.mk ho; have HB9 := Aside0.mk (HB.out.grown hg HB.out.size (fun k hk => by have := HR.out.1 k hk; omega)); clear ho hb hg hat)
        go_ret
        rw [HU.out, HAE.out]
        have h := back_of HR9.out HB9.out (Nat.le_succ _)
        rwa [List.length_append, show [r].length = 1 from rfl] at h
end Go.Proofs.YtkidfclnakbgiaaGreatDoor
end
