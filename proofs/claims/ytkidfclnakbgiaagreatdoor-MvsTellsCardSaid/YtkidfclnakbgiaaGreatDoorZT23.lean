/- The texts R4x, VerPl, MvCmp, MvMore in one file, without what these claims do not use (put together by prune2.py). -/
import Derived.Test.YtkidfclnakbgiaaGreatDoorZT21
import Derived.Test.YtkidfclnakbgiaaGreatDoorZT22
import Derived.Test.YtkidfclnakbgiaaGreatDoorZT15
import Derived.Test.YtkidfclnakbgiaaGreatDoorZT17
import Derived.Lib.IndexMore
import Derived.Test.YtkidfclnakbgiaaGreatDoorZT19
import Derived.Shelf.Abstract
section
namespace Go.Proofs.YtkidfclnakbgiaaGreatDoor.R4
open Go.RowKit Go.Proofs.YtkidfclnakbgiaaGreatDoor Go.Proofs.YtkidfclnakbgiaaGreatDoor.K0 Go.Proofs.YtkidfclnakbgiaaGreatDoor.R1 Go.Proofs.YtkidfclnakbgiaaGreatDoor.R3 Go.Proofs.YtkidfclnakbgiaaGreatDoorW.PrintWords Go.Proofs.YtkidfclnakbgiaaGreatDoorW.PrintLast Go.Proofs.YtkidfclnakbgiaaGreatDoorW.PrintMore
attribute [local go_sem] max2_int min2_int max_two min_two max_three min_three max_four min_four
set_option linter.unusedVariables false
set_option linter.unusedSimpArgs false
end Go.Proofs.YtkidfclnakbgiaaGreatDoor.R4
end

section
namespace Go.Proofs.YtkidfclnakbgiaaGreatDoor
open Go Go.RowKit Go.Proofs.YtkidfclnakbgiaaGreatDoorW.PrintWords Go.Proofs.YtkidfclnakbgiaaGreatDoor.K0 Go.Proofs.YtkidfclnakbgiaaGreatDoor.R1
set_option linter.unusedVariables false
set_option linter.unusedSimpArgs false
structure VerIs (a b c : Int) (p q : ByteArray) : Prop where
  a0 : 0 ≤ a
  a9 : a ≤ 999999999
  b0 : 0 ≤ b
  b9 : b ≤ 999999999
  c0 : 0 ≤ c
  c9 : c ≤ 999999999
  hp : p.size ≤ 30
  hq : q.size ≤ 30
  pre : preOk p = true
  build : buildOk q = true
theorem verIs {a b c : Int} {p q : ByteArray} (h : verOk a b c p q = true) : VerIs a b c p q := by
  unfold verOk numB at h
  simp only [Bool.and_eq_true, decide_eq_true_eq] at h
  obtain ⟨⟨h1, h2⟩, ⟨h3, h4⟩, ⟨h5, h6⟩, h7, h8, h9, h10⟩ := h
  exact ⟨h1, h2, h3, h4, h5, h6, h7, h8, h9, h10⟩
end Go.Proofs.YtkidfclnakbgiaaGreatDoor
end

section
namespace Go.Proofs.YtkidfclnakbgiaaGreatDoor
open Go Go.RowKit Go.Sort Go.Proofs Go.Proofs.YtkidfclnakbgiaaGreatDoorW.PrintWords Go.Proofs.YtkidfclnakbgiaaGreatDoor.K0 Go.Proofs.YtkidfclnakbgiaaGreatDoor.R1 Go.Proofs.YtkidfclnakbgiaaGreatDoor.R2 Go.Proofs.YtkidfclnakbgiaaGreatDoor.R3 Go.Proofs.YtkidfclnakbgiaaGreatDoor.R4
set_option linter.unusedVariables false
set_option linter.unusedSimpArgs false
theorem mfits_calls (s : ByteArray) (a b c : Int) (p q : ByteArray) (w : World) (hG : GW w) : Calls Tryz.prog 60 #[.string s, .agg #[.int .i64 a, .int .i64 b, .int .i64 c, .string p, .string q]] w fun e w' => e = .returned (.bool (fitsOk s a b c p q)) ∧ Below w.heap.size w w' :=
  mpath_Fits.calls 101 s a b c p q _ w hG (mpath_Fits_f s a b c p q 101 (by decide))
theorem compare_f (a b c : Int) (p q : ByteArray) (a2 b2 c2 : Int) (p2 q2 : ByteArray) (k : Nat) (hk : 101 < k) : ver_Compare.f k a b c p q a2 b2 c2 p2 q2 = some (verCmp a b c p q a2 b2 c2 p2 q2) := by
  obtain ⟨k, rfl⟩ : ∃ m, k = m + 1 := ⟨k - 1, by omega⟩
  unfold ver_Compare.f verCmp
  rw [ver_Check_f a b c p q (k + 1) (by omega), ver_Check_f a2 b2 c2 p2 q2 (k + 1) (by omega)]
  simp only [Option.bind_some, ver_Compare.j0, cmpInt_f]
  by_cases h1 : verOk a b c p q = true
  · by_cases h2 : verOk a2 b2 c2 p2 q2 = true
    · have s1 := (verIs h1).hp
      have s2 := (verIs h2).hp
      have hb : ver_byPre.f p p2 = some (preCmp p.data.toList p2.data.toList) := by
        unfold ver_byPre.f
        rw [if_pos (by omega), if_pos (by omega)]
      rw [hb]
      simp only [Option.bind_some]
      rw [or_f _ (by simp) k (by omega)]
      simp [h1, h2, orAll, orr_zero]
    · simp [h1, h2]
  · simp [h1]
theorem compare_calls (a b c : Int) (p q : ByteArray) (a2 b2 c2 : Int) (p2 q2 : ByteArray) (w : World) (hG : GW w) :
    Calls Tryz.prog 45 #[.agg #[.int .i64 a, .int .i64 b, .int .i64 c, .string p, .string q], .agg #[.int .i64 a2, .int .i64 b2, .int .i64 c2, .string p2, .string q2]] w fun e w' => e = .returned (.int .i64 (verCmp a b c p q a2 b2 c2 p2 q2)) ∧ Below w.heap.size w w' :=
  ver_Compare.calls 102 a b c p q a2 b2 c2 p2 q2 _ w hG (compare_f _ _ _ _ _ _ _ _ _ _ 102 (by decide))
theorem cell_of_heap {W : World} {B : Nat} {cs : Array Value} {t : TypeId} (h : W.heap[B]? = some (.cells cs t (0, 0))) (k : Nat) : W.cell? ⟨B, k, none⟩ = cs[k]? := by
  unfold World.cell?
  simp only [h]
  simp
end Go.Proofs.YtkidfclnakbgiaaGreatDoor
end

section
namespace Go.Proofs.YtkidfclnakbgiaaGreatDoor
open Go Go.RowKit Go.Sort Go.Proofs Go.Proofs.YtkidfclnakbgiaaGreatDoorW.PrintWords Go.Proofs.YtkidfclnakbgiaaGreatDoorW.PrintLast Go.Proofs.YtkidfclnakbgiaaGreatDoor.K0
set_option linter.unusedVariables false
set_option linter.unusedSimpArgs false
abbrev rqc (x : Rq) : Array Value := #[.string x.f0, .int .i64 x.f1.f0, .int .i64 x.f1.f1, .int .i64 x.f1.f2, .string x.f1.f3, .string x.f1.f4]
theorem may_calls (x : Rq) (w : World) (hG : GW w) : Calls Tryz.prog 42 #[.agg (rqc x)] w fun e w' => e = .returned (.bool (mv.may x)) ∧ Below w.heap.size w w' := by
  have hm := mfits_calls x.f0 x.f1.f0 x.f1.f1 x.f1.f2 x.f1.f3 x.f1.f4 (w.alloc (.cells (rqc x) 27)) (hG.below (below_alloc (Below.refl _ _) _))
  rw [show fitsOk x.f0 x.f1.f0 x.f1.f1 x.f1.f2 x.f1.f3 x.f1.f4 = mv.may x from rfl] at hm
  generalize mv.may x = b at hm ⊢
  go_enter Tryz.func42, Tryz.ntmps42
  go_wp2_with (go_at_call 60; refine hm.mono ?_; rintro e w' ⟨rfl, hb'⟩)
  go_ret
  exact ⟨rfl, below_step (below_alloc (Below.refl _ _) _) hb'⟩
/-- The walk's struct, and what has been laid behind it. -/
structure MvIs (w0 : World) (W : Nat) (vn va : Value) (all : List Rq) (w : World) : Prop where
  below : Below w0.heap.size w0 w
  ge : w0.heap.size ≤ W
  blk : w.heap[W]? = some (.cells #[va, vn] 51 (0, 0))
  own : Kd.R k27 27 w (W + 1) (fun k => W < k) va all
theorem MvIs.step {w0 w w' : World} {W : Nat} {vn va : Value} {all : List Rq} (h : MvIs w0 W vn va all w) (hb : Below w.heap.size w w') : MvIs w0 W vn va all w' :=
  ⟨below_step h.below hb, h.ge, blk_below h.blk hb, Kd.R_below h.own hb⟩
def more.T3 : Bool × List (List Nat × List Nat) := (true, [([], []), ([0], [0]), ([1, 1], [1]), ([2], [2]), ([3, 2], [2, 3]), ([4, 2], [2, 4]), ([5, 2], [2, 5]), ([2], [2]), ([6, 7, 2, 2], [2, 6, 7]), ([8, 2], [2, 8]), ([2, 9], [2, 9])])
def more.B3 : List Nat := [0, 1, 3, 7, 15, 31, 63, 7, 255, 511, 1023]
theorem more.tab3 : rtab .any (opsOf Tryz.f30 3) = more.T3 := by kernel_rfl
theorem more.bits3 : waitsOk more.T3.2 more.B3 = true := by kernel_rfl
def more.T4 : Bool × List (List Nat × List Nat) := (true, [([], []), ([], []), ([1], [1]), ([2], [2]), ([3], [3]), ([], []), ([5], [5]), ([4, 6], [4, 6]), ([0, 0, 1, 2, 3, 4, 5, 6, 7], [0]), ([8, 0, 1, 2, 3, 4, 5, 6, 7], [8]), ([9, 7, 7, 0, 1, 2, 3, 4, 5, 6, 7], [7, 9])])
def more.B4 : List Nat := [0, 0, 2, 6, 14, 0, 32, 126, 255, 511, 1023]
theorem more.tab4 : rtab .any (opsOf Tryz.f30 4) = more.T4 := by kernel_rfl
theorem more.bits4 : waitsOk more.T4.2 more.B4 = true := by kernel_rfl
theorem more_take {l : List Rq} {k : Nat} {x : Rq} (all : List Rq) (h : l[k]? = some x) : mv.more all (l.take (k + 1)) = mv.add (mv.more all (l.take k)) x := by
  unfold Mv.more
  rw [List.take_add_one, h, List.foldl_append]; rfl
theorem more_len (all l : List Rq) (k : Nat) : (mv.more all (l.take k)).length ≤ (mv.more all l).length := by
  have e : mv.more all l = mv.more (mv.more all (l.take k)) (l.drop k) := by
    conv => lhs; rw [← List.take_append_drop k l]
    unfold Mv.more
    rw [List.foldl_append]
  obtain ⟨t, ht⟩ := mv.more_prefix (l.drop k) (mv.more all (l.take k))
  rw [e, ht, List.length_append]; omega
/-- A requirement lies at a place. -/
def RqAt (w : World) (B : Nat) (x : Rq) : Prop := w.heap[B]? = some (.cells (rqc x) 27 (0, 0))
abbrev RqC (w : World) (B : Nat) (x : Rq) : Prop := w.cell? ⟨B, 0, none⟩ = some (.string x.f0) ∧ w.cell? ⟨B, 1, none⟩ = some (.int .i64 x.f1.f0) ∧ w.cell? ⟨B, 2, none⟩ = some (.int .i64 x.f1.f1) ∧ w.cell? ⟨B, 3, none⟩ = some (.int .i64 x.f1.f2) ∧ w.cell? ⟨B, 4, none⟩ = some (.string x.f1.f3) ∧ w.cell? ⟨B, 5, none⟩ = some (.string x.f1.f4)
theorem RqAt.cells {w : World} {B : Nat} {x : Rq} (h : RqAt w B x) : RqC w B x := ⟨(blk_cell h 0).trans rfl, (blk_cell h 1).trans rfl, (blk_cell h 2).trans rfl, (blk_cell h 3).trans rfl, (blk_cell h 4).trans rfl, (blk_cell h 5).trans rfl⟩
set_option maxRecDepth 100000 in
set_option maxHeartbeats 4000000 in
theorem more_calls (w0 : World) (hG : GW w0) (W : Nat) (vn : Value) (A : Option Addr) (c : Nat) (l : List Rq) (hl : Kd.C k27 w0 A l.length l) (va : Value) (all : List Rq) (w : World) (hI : MvIs w0 W vn va all w) (hbd : (mv.more all l).length ≤ 1000000) :
    Calls Tryz.prog 30 #[.pointer (some ⟨W, 0, none⟩), .slice A l.length c] w fun e w' => e = .returned (.tuple #[]) ∧ ∃ va', MvIs w0 W vn va' (mv.more all l) w' := by
  have HBD := Aside0.mk (fun k => Nat.le_trans (more_len all l k) hbd)
  clear hbd
  obtain ⟨n, hn⟩ : ∃ n, n = l.length := ⟨_, rfl⟩
  rw [← hn] at hl ⊢
  have hbig := hl.2.1
  have HN := Aside0.mk hn
  have HL := Aside0.mk hl
  have HI := Aside0.mk hI
  have HG := Aside0.mk hG
  clear hn hl hI hG
  go_enter Tryz.func30, Tryz.ntmps30
  go_wp2
  go_loopg [5, 8] n (fun gg _ s8 wr => ∃ (kk : Nat) (va' : Value), kk ≤ n ∧ n - kk ≤ gg ∧ s8 = .int .i64 kk ∧ Aside0 (MvIs w0 W vn va' (mv.more all (l.take kk)) wr))
  case atStart => exact ⟨0, va, Nat.zero_le _, by omega, rfl, HI⟩
  case round =>
    obtain ⟨kk, va', hkk, hg, rfl, HM⟩ := hrel
    by_cases hlt : kk < n
    · have hltz : (kk : Int) < (n : Int) := by omega
      have HC := Kd.C_below HL.out HM.out.below
      obtain ⟨x, hx⟩ : ∃ x, l[kk]? = some x := ⟨_, List.getElem?_eq_getElem (by have := HN.out; omega)⟩
      have hxe : rd_T27 l (kk : Int) = x := by
        unfold rd_T27
        rw [Int.toNat_natCast, List.getD_eq_getElem?_getD, hx]; rfl
      obtain ⟨ad, hA, h0, h1, h2, h3, h4, h5⟩ := at_T27 HC (kk : Int) (by omega) (by omega)
      rw [hxe] at h0 h1 h2 h3 h4 h5
      subst hA
      clear HC hxe
      obtain ⟨al, hal⟩ : ∃ al, al = mv.more all (l.take kk) := ⟨_, rfl⟩
      have ht := more_take all hx
      rw [← hal] at ht HM
      obtain ⟨A2, c2, rfl⟩ := Kd.R_slice HM.out.own
      have HT := Aside0.mk ht
      have HBK := Aside0.mk (HBD.out kk)
      rw [← hal] at HBK
      clear hal ht
      clear hx
      rw [Int.toNat_natCast] at h0 h1 h2 h3 h4 h5
      go_wp2
      clear h0 h1 h2 h3 h4 h5
      have HM1 := Aside0.mk ((HM.out.step (below_alloc (Below.refl _ _) (.cells (rqc x) 27))).step (below_drew1 (Below.refl _ _)))
      have HR1 : RqAt (wr.alloc (.cells (rqc x) 27)).drew wr.heap.size x := blk_drew (heap_alloc_new wr _)
      refine sX (ds := []) (S := fun w' => RqC w' wr.heap.size x ∧ w'.cell? ⟨W, 0, none⟩ = some (.slice A2 al.length c2)) more.tab3 more.bits3 ⟨HR1.cells, (blk_cell HM1.out.blk 0).trans rfl⟩ (fun HT_ HW_ hHeld => ?_)
      have HR1 := Aside0.mk HR1
      have HNB := Aside0.mk (fun k hk => ((Kd.R_bound HM.out.own).1 k hk).2.2.1)
      generalize hb0 : wr.heap.size = b0 at HR1 HNB hHeld ⊢
      clear hb0
      generalize (wr.alloc (.cells (rqc x) 27)).drew = w1 at HM1 HR1 hHeld ⊢
      clear HM
      have hmay := fun W h => may_calls x W h
      cases hm : mv.may x with
      | false =>
        rw [hm] at hmay
        have HE : Aside0 (mv.more all (l.take (kk + 1)) = al) := ⟨by rw [HT.out]; unfold Mv.add; rw [if_neg (by rw [hm]; simp)]⟩
        have HMAY := Aside0.mk hmay
        clear hmay hm
        refine tX HT_ HW_ hHeld 0 1 12 ?_
        refine gX HT_ 1 3 13 Tryz.func42 (HMAY.out _ (HG.out.below HM1.out.below)) ?_
        rintro e w2 ⟨rfl, hb⟩
        have HM2 := Aside0.mk (HM1.out.step hb)
        refine ⟨_, rfl, _, nX, ⟨RqAt.cells (blk_below HR1.out hb), (blk_cell HM2.out.blk 0).trans rfl⟩, fun hHeld => ?_⟩
        clear hb
        refine pX HT_ 2 7 14 ?_
        refine fX HT_ 3 15 15 ?_
        refine fX HT_ 4 31 16 ?_
        refine fX HT_ 5 63 17 ?_
        refine fX HT_ 6 127 18 ?_
        refine fX HT_ 7 255 19 ?_
        refine fX HT_ 8 511 20 ?_
        refine fX HT_ 9 1023 21 ?_
        refine pX HT_ 10 2047 22 ?_
        refine eX HT_ ?_
        clear HT_ HW_ hHeld
        go_wp2
        go_roundg (n - (kk + 1))
        case measure => omega
        case rel => exact ⟨kk + 1, _, by omega, by omega, by go_num, ⟨by rw [HE.out]; exact HM2.out⟩⟩
      | true =>
        rw [hm] at hmay
        have HMAY := Aside0.mk hmay
        clear hmay
        refine tX HT_ HW_ hHeld 0 1 12 ?_
        refine gX HT_ 1 3 13 Tryz.func42 (HMAY.out _ (HG.out.below HM1.out.below)) ?_
        rintro e w2 ⟨rfl, hb⟩
        have HM2 := Aside0.mk (HM1.out.step hb)
        have HR2 := Aside0.mk (show RqAt w2 b0 x from blk_below HR1.out hb)
        refine ⟨_, rfl, _, nX, ⟨HR2.out.cells, (blk_cell HM2.out.blk 0).trans rfl⟩, fun hHeld => ?_⟩
        clear hb
        refine pX HT_ 2 7 14 ?_
        refine pX HT_ 3 15 15 ?_
        refine pX HT_ 4 31 16 ?_
        refine pX HT_ 5 63 17 ?_
        refine tX HT_ HW_ hHeld 6 127 18 ?_
        refine tX HT_ HW_ hHeld 7 255 19 ?_
        have hcn := fun W' h => Contains_Req A2 c2 al x W' h
        cases hc : decide (x ∈ al) with
        | true =>
          rw [hc] at hcn
          have HE : Aside0 (mv.more all (l.take (kk + 1)) = al) := ⟨by rw [HT.out]; unfold Mv.add; rw [if_neg (by simp at hc; simp [hc])]⟩
          have HCN := Aside0.mk hcn
          clear hcn hc hm
          refine gX HT_ 8 511 20 Tryz.func54 (HCN.out _ (Kd.R_reads' HM2.out.own).2.2) ?_
          rintro e w3 ⟨rfl, hb⟩
          have HM3 := Aside0.mk (HM2.out.step hb)
          have HR3 := Aside0.mk (show RqAt w3 b0 x from blk_below HR2.out hb)
          refine ⟨_, rfl, _, nX, ⟨HR3.out.cells, (blk_cell HM3.out.blk 0).trans rfl⟩, fun hHeld => ?_⟩
          clear hb
          refine pX HT_ 9 1023 21 ?_
          refine pX HT_ 10 2047 22 ?_
          refine eX HT_ ?_
          clear HT_ HW_ hHeld
          go_wp2
          go_roundg (n - (kk + 1))
          case measure => omega
          case rel => exact ⟨kk + 1, _, by omega, by omega, by go_num, ⟨by rw [HE.out]; exact HM3.out⟩⟩
        | false =>
          rw [hc] at hcn
          have HE : Aside0 (mv.more all (l.take (kk + 1)) = al ++ [x]) := ⟨by rw [HT.out]; unfold Mv.add; rw [if_pos (by simp at hc; exact ⟨hm, hc⟩)]⟩
          have HCN := Aside0.mk hcn
          clear hcn hc hm
          refine gX HT_ 8 511 20 Tryz.func54 (HCN.out _ (Kd.R_reads' HM2.out.own).2.2) ?_
          rintro e w3 ⟨rfl, hb⟩
          have HM3 := Aside0.mk (HM2.out.step hb)
          have HR3 := Aside0.mk (show RqAt w3 b0 x from blk_below HR2.out hb)
          refine ⟨_, rfl, _, nX, ⟨HR3.out.cells, (blk_cell HM3.out.blk 0).trans rfl⟩, fun hHeld => ?_⟩
          clear hb
          refine pX HT_ 9 1023 21 ?_
          refine pX HT_ 10 2047 22 ?_
          refine eX HT_ ?_
          clear HT_ HW_ hHeld HM1 HM2 HR1 HR2
          go_wp2
          refine sX (ds := [10]) (S := fun w' => RqC w' b0 x ∧ w'.cell? ⟨W, 0, none⟩ = some (.slice A2 al.length c2)) more.tab4 more.bits4 ⟨RqAt.cells (blk_drew HR3.out), (blk_cell (blk_drew HM3.out.blk) 0).trans rfl⟩ (fun HT_ HW_ hHeld => ?_)
          have HM4 := Aside0.mk (HM3.out.step (below_drew1 (Below.refl _ _)))
          have HR4 := Aside0.mk (show RqAt w3.drew b0 x from blk_drew HR3.out)
          generalize w3.drew = w4 at HM4 HR4 hHeld ⊢
          clear HM3 HR3
          refine pX HT_ 0 1 23 ?_
          refine pX HT_ 1 3 24 ?_
          refine pX HT_ 2 7 25 ?_
          refine pX HT_ 3 15 26 ?_
          refine tX HT_ HW_ hHeld 4 31 27 ?_
          refine tX HT_ HW_ hHeld 5 63 28 ?_
          refine oX HT_ 6 127 (some 29) (fun K hK => ?_)
          refine value_ (by kernel_rfl) rfl (by go_simp; exact ⟨rfl, rfl⟩) ?_
          refine hK.out _ _ ⟨RqAt.cells (blk_alloc HR4.out _), (blk_cell (blk_alloc HM4.out.blk _) 0).trans rfl⟩ (fun hHeld => ?_)
          clear hK K
          refine norm_ nX ?_
          refine oX HT_ 7 255 (some 30) (fun K hK => ?_)
          have hWl := blk_lt HM4.out.blk
          refine Kd.R_append_step k27 (w0 := w4) (W + 1) (by kernel_rfl) (.tmp 27) (.tmp 29) 22 27 _ 72 rfl Tryz.underlying22 info27 rfl (by decide) (by decide) (.slice A2 al.length c2) al x _ (fun k => W < k) (fun _ => False) rfl rfl (k27_mkM _ _ _ x) (fun _ h => h.elim) (fun k hk => by omega) HM4.out.own (Below.refl _ _) (by omega) (by have := HBK.out; omega) ?_
          intro v1 w5 ho hb hg hat
          obtain ⟨A3, c3, rfl⟩ := Kd.R_slice ho
          have hwb : some W ≠ (Value.slice A2 al.length c2).ownBlock := fun e => by have := HM4.out.own.1 W e.symm; omega
          have hbb : some b0 ≠ (Value.slice A2 al.length c2).ownBlock := fun e => by have := HNB.out b0 e.symm; omega
          have HW5 := Aside0.mk (blk_grown HM4.out.blk hg hwb)
          have HR5 := Aside0.mk (show RqAt w5 b0 x from blk_grown HR4.out hg hbb)
          have HB5 := Aside0.mk (HM4.out.below.grown hg HM4.out.below.size (fun k hk => by have := HM4.out.own.1 k hk; have := HM4.out.ge; omega))
          have HO5 := Aside0.mk ho
          have HGE := Aside0.mk HM4.out.ge
          clear ho hb hg hat hwb hbb
          refine hK.out _ _ ⟨RqAt.cells HR5.out, (blk_cell HW5.out 0).trans rfl⟩ (fun hHeld => ?_)
          clear hK K
          refine norm_ nX ?_
          refine pX HT_ 8 511 31 ?_
          refine pX HT_ 9 1023 32 ?_
          have hf := blk_frozen HW5.out 0
          have hcc := (blk_cell HW5.out 0).trans rfl
          refine lX HT_ 10 2047 none (fun K hK => ?_)
          refine skip_ (w1 := w5.setCell ⟨W, 0, none⟩ (.slice A3 (al ++ [x]).length c3)) (by kernel_rfl) rfl (by go_simp) ?_
          refine hK.out _ _ ?_
          clear hK K
          refine eX HT_ ?_
          clear HT_ HW_ hHeld
          have HM6 := Aside0.mk (show MvIs w0 W vn (.slice A3 (al ++ [x]).length c3) (al ++ [x]) (w5.setCell ⟨W, 0, none⟩ (.slice A3 (al ++ [x]).length c3)) from ⟨HB5.out.setCell (p := ⟨W, 0, none⟩) HGE.out _, HGE.out, blk_set HW5.out 0 _, Kd.R_far HO5.out (fun k hk => by show k ≠ W; omega) _⟩)
          generalize w5.setCell ⟨W, 0, none⟩ (.slice A3 (al ++ [x]).length c3) = w6 at HM6 ⊢
          clear hf hcc HW5 HR5 HB5 HO5 HM4 HR4
          go_wp2
          go_roundg (n - (kk + 1))
          case measure => omega
          case rel => exact ⟨kk + 1, _, by omega, by omega, by go_num, ⟨by rw [HE.out]; exact HM6.out⟩⟩
    · have hltz : ¬ (kk : Int) < (n : Int) := by omega
      have : kk = n := by omega
      subst this
      go_wp2
      go_end0
      refine ⟨rfl, va', ?_⟩
      have h := HM.out
      rwa [List.take_of_length_le (by have := HN.out; omega)] at h
end Go.Proofs.YtkidfclnakbgiaaGreatDoor
end
