/- The texts MnExc, MnIdxS, MnRep in one file, without what these claims do not use (put together by prune2.py). -/
import Derived.Test.YtmbpefnhkimplaaGreatDoorZE23
import Derived.Shelf.Abstract
section
namespace Go.Proofs.YtmbpefnhkimplaaGreatDoor
open Go Go.RowKit Go.Sort Go.Maps Go.Proofs Go.Proofs.YtmbpefnhkimplaaGreatDoorW.PrintWords Go.Proofs.YtmbpefnhkimplaaGreatDoorW.PrintLast Go.Proofs.YtmbpefnhkimplaaGreatDoor.K0 Go.Proofs.YtmbpefnhkimplaaGreatDoor.R1 Go.Proofs.YtmbpefnhkimplaaGreatDoor.R2
set_option linter.unusedVariables false
set_option linter.unusedSimpArgs false
def excP (x : Ps) (r : Rq) (e : Int) : Ps × Int := if e ≠ 0 then (x, e) else ({ x with excl := x.excl ++ [r] }, if decide (idxFrom (fun y => decide (r = y)) 0 (x.excl ++ [r]) < ((x.excl ++ [r]).length : Int) - 1) = true then 11 else 0)
def re4.T4 : Bool × List (List Nat × List Nat) := (true, [([], []), ([], []), ([1], [1]), ([2], [2]), ([3], [3]), ([4], [4]), ([], []), ([6], [6]), ([5, 7], [5, 7]), ([0, 0, 1, 2, 3, 4, 5, 6, 7, 8], [0]), ([9, 0, 1, 2, 3, 4, 5, 6, 7, 8], [9]), ([10, 0, 1, 2, 3, 4, 5, 6, 7, 8], [10]), ([11, 8, 8, 0, 1, 2, 3, 4, 5, 6, 7, 8], [8, 11])])
def re4.B4 : List Nat := [0, 0, 2, 6, 14, 30, 0, 64, 254, 511, 1023, 2047, 4095]
theorem re4.tab4 : rtab .any (opsOf Tryz.f132 4) = re4.T4 := by kernel_rfl
theorem re4.bits4 : waitsOk re4.T4.2 re4.B4 = true := by kernel_rfl
def re5.T5 : Bool × List (List Nat × List Nat) := (true, [([], []), ([0], [0]), ([1], [1]), ([2], [2]), ([3], [3]), ([], []), ([4, 5], [4, 5]), ([], []), ([7], [7]), ([8], [8]), ([9], [9]), ([10], [10]), ([11], [11]), ([12], [12]), ([6, 13], [6, 13]), ([14, 6], [14]), ([15, 15, 0, 1, 2, 3, 4, 5, 6, 7, 8, 9, 10, 11, 12, 13, 14, 15], [15])])
def re5.B5 : List Nat := [0, 1, 3, 7, 15, 0, 63, 0, 128, 384, 896, 1920, 3968, 8064, 16383, 32767, 65535]
theorem re5.tab5 : rtab .any (opsOf Tryz.f132 5) = re5.T5 := by kernel_rfl
theorem re5.bits5 : waitsOk re5.T5.2 re5.B5 = true := by kernel_rfl
set_option maxRecDepth 100000 in
set_option maxHeartbeats 4000000 in
theorem exclude_calls (w0 w1 : World) (P : Nat) (p : PVals) (x : Ps) (a b : Wd) (r : Rq) (er : Int) (hr : reqP a.f0 b.f0 = (r, er)) (hb : b.f0.size ≤ 400000) (hln : x.excl.length ≤ 1000000) (A : Option Addr) (c : Nat) (w : World) (hG : GW w0) (hI : PsIs w0 w1 P p x w) (hC : Kd.C k159 w A 2 [a, b]) :
    Calls Tryz.prog 132 #[.pointer (some ⟨P, 0, none⟩), .slice A 2 c] w fun e w' => e = .returned (errV (excP x r er).2) ∧ ∃ p', p'.m = p.m ∧ PsIs w0 w1 P p' (excP x r er).1 w' := by
  have HRQ : Aside0 (Calls Tryz.prog 165 #[.slice A 2 c] w fun e w' => e = .returned (.tuple #[.agg (rqv r), errV er]) ∧ Below w.heap.size w w') := ⟨by
    have := req_calls a b hb A c w (hG.below hI.below) hC
    rwa [hr] at this⟩
  have HI := Aside0.mk hI
  have HLN : Aside0 ((x.excl.length + 1) * 72 ≤ 140737488355328) := ⟨by omega⟩
  clear hG hC hI hr hb hln
  by_cases he : er = 0
  · subst he
    have HRQ2 : Aside0 (Calls Tryz.prog 165 #[.slice A 2 c] w fun e w' => e = .returned (.tuple #[.agg (rqv r), .nilIface]) ∧ Below w.heap.size w w') := ⟨HRQ.out⟩
    have HE : Aside0 (excP x r 0 = ({ x with excl := x.excl ++ [r] }, if decide (idxFrom (fun y => decide (r = y)) 0 (x.excl ++ [r]) < ((x.excl ++ [r]).length : Int) - 1) = true then 11 else 0)) := ⟨by unfold excP; rw [if_neg (by decide)]⟩
    obtain ⟨q, hq⟩ : ∃ q, q = idxFrom (fun y => decide (r = y)) 0 (x.excl ++ [r]) := ⟨_, rfl⟩
    have HQ := Aside0.mk hq
    have HIX : ∀ (W : World) (A3 : Option Addr) (c3 ln : Nat), ln = (x.excl ++ [r]).length → Kd.C k25 W A3 (x.excl ++ [r]).length (x.excl ++ [r]) → Calls Tryz.prog 167 #[.slice A3 ln c3, .agg (rqv r)] W fun e w' => e = .returned (.int .i64 q) ∧ Below W.heap.size W w' := fun W A3 c3 ln h hc => by
      subst h; rw [hq]
      exact Index_Req A3 c3 (x.excl ++ [r]) r W hc
    clear hq
    go_enter Tryz.func132, Tryz.ntmps132
    go_wp2_with (first | (go_at_call 165; with_reducible refine HRQ2.out.mono ?_; rintro e W1 ⟨rfl, hb⟩; have HI1 := Aside0.mk (HI.out.step hb); have HB1 := Aside0.mk hb; clear hb) | ((with_reducible refine gate_ (.store 25 (.tmp 5) (.tmp 10)) rfl ?_); refine store_ev 25 (.tmp 5) (.tmp 10) rfl rfl rfl 0 (rqv r).toList (heap_alloc_new W1 _) rfl rfl rfl (by kernel_rfl) (show 0 + 6 ≤ 6 by decide) (by simp [Value.oneCell']) rfl ?_; intro W2 hn hg; have HR6 := Aside0.mk hn; have hb2 := fresh_below hg; have HI6 := Aside0.mk (HI1.out.step hb2); clear hn hg hb2))
    obtain ⟨A2, c2, hv2⟩ := Kd.R_slice HI6.out.o4
    have HI7 := Aside0.mk (HI6.out.step (below_drew1 (Below.refl _ _)))
    have HR7 := Aside0.mk (blk_drew HR6.out)
    refine sX (ds := [12]) (S := fun w' => w'.cell? ⟨P, 4, none⟩ = some (.slice A2 x.excl.length c2) ∧ w'.cell? ⟨W1.heap.size, 0, none⟩ = some (.string r.f0) ∧ w'.cell? ⟨W1.heap.size, 1, none⟩ = some (.int .i64 r.f1.f0) ∧ w'.cell? ⟨W1.heap.size, 2, none⟩ = some (.int .i64 r.f1.f1) ∧ w'.cell? ⟨W1.heap.size, 3, none⟩ = some (.int .i64 r.f1.f2) ∧ w'.cell? ⟨W1.heap.size, 4, none⟩ = some (.string r.f1.f3) ∧ w'.cell? ⟨W1.heap.size, 5, none⟩ = some (.string r.f1.f4)) re4.tab4 re4.bits4 ⟨(blk_cell HI7.out.blk 4).trans (congrArg some hv2), (blk_cell HR7.out 0).trans rfl, (blk_cell HR7.out 1).trans rfl, (blk_cell HR7.out 2).trans rfl, (blk_cell HR7.out 3).trans rfl, (blk_cell HR7.out 4).trans rfl, (blk_cell HR7.out 5).trans rfl⟩ (fun HT_ HW_ hHeld => ?_)
    generalize W2.drew = W7 at HI7 HR7 hHeld ⊢
    refine pX HT_ 0 1 15 ?_
    refine pX HT_ 1 3 16 ?_
    refine pX HT_ 2 7 17 ?_
    refine pX HT_ 3 15 18 ?_
    refine pX HT_ 4 31 19 ?_
    refine tX HT_ HW_ hHeld 5 63 20 ?_
    refine tX HT_ HW_ hHeld 6 127 21 ?_
    refine oX HT_ 7 255 (some 22) (fun K hK => ?_)
    refine value_ (by kernel_rfl) rfl (by go_simp; exact ⟨rfl, rfl⟩) ?_
    refine hK.out _ _ ⟨(blk_cell (blk_alloc HI7.out.blk _) 4).trans (congrArg some hv2), (blk_cell (blk_alloc HR7.out _) 0).trans rfl, (blk_cell (blk_alloc HR7.out _) 1).trans rfl, (blk_cell (blk_alloc HR7.out _) 2).trans rfl, (blk_cell (blk_alloc HR7.out _) 3).trans rfl, (blk_cell (blk_alloc HR7.out _) 4).trans rfl, (blk_cell (blk_alloc HR7.out _) 5).trans rfl⟩ (fun hHeld => ?_)
    clear hK K
    refine norm_ nX ?_
    refine oX HT_ 8 511 (some 23) (fun K hK => ?_)
    refine Kd.R_append_step k25 (w0 := W7) w1.heap.size (by kernel_rfl) (.tmp 20) (.tmp 22) 27 25 _ 72 rfl Tryz.underlying27 info25 rfl (by decide) (by decide) (.slice A2 x.excl.length c2) x.excl r _ (fun k => w1.heap.size ≤ k) (fun _ => False) rfl rfl (k25_mkM _ _ _ r) (fun _ h => h.elim) (fun k hk => Nat.le_trans HI7.out.moves.size hk) (hv2 ▸ HI7.out.o4) (Below.refl _ _) HI7.out.moves.size HLN.out ?_
    intro v1 w5 ho hb5 hg hat
    obtain ⟨A3, c3, rfl⟩ := Kd.R_slice ho
    obtain ⟨ln, hln⟩ : ∃ n, n = (x.excl ++ [r]).length := ⟨_, rfl⟩
    have HLL := Aside0.mk hln
    rw [← hln] at ho hat
    rw [← hln]
    clear hln
    rw [← hv2] at hg hat
    have hP5 := blk_grown HI7.out.blk hg (fun e => by have := HI7.out.o4.1 P e.symm; have := HI7.out.lt; omega)
    have hR5 := blk_grown HR7.out hg (fun e => by have := ((Kd.R_bound HI.out.o4).1 _ e.symm).2.2.1; have := HB1.out.size; omega)
    have HI8 := Aside0.mk (HI7.out.app4 ho hg hat)
    have HR8 := Aside0.mk ((Below.heap_setCell w5 ⟨P, 4, none⟩ (.slice A3 ln c3) _ (by show W1.heap.size ≠ P; have := HI.out.lt; have := HI.out.moves.size; have := HB1.out.size; omega)).trans hR5)
    show K (Act.put _ (some 23) (.slice A3 ln c3)) w5
    refine hK.out _ _ ⟨(blk_cell hP5 4).trans (congrArg some hv2), (blk_cell hR5 0).trans rfl, (blk_cell hR5 1).trans rfl, (blk_cell hR5 2).trans rfl, (blk_cell hR5 3).trans rfl, (blk_cell hR5 4).trans rfl, (blk_cell hR5 5).trans rfl⟩ (fun hHeld => ?_)
    clear hK K
    refine norm_ nX ?_
    refine pX HT_ 9 1023 24 ?_
    refine pX HT_ 10 2047 25 ?_
    refine pX HT_ 11 4095 26 ?_
    have hf := blk_frozen hP5 4
    have hcc := (blk_cell hP5 4).trans rfl
    refine lX HT_ 12 8191 none (fun K hK => ?_)
    refine skip_ (w1 := w5.setCell ⟨P, 4, none⟩ (.slice A3 ln c3)) (by kernel_rfl) rfl (by go_simp) ?_
    refine hK.out _ _ ?_
    clear hK K
    refine eX HT_ ?_
    clear HT_ HW_ hHeld hf hcc hP5 hR5
    generalize w5.setCell ⟨P, 4, none⟩ (.slice A3 ln c3) = W8 at HI8 HR8 ⊢
    go_wp2
    have HI9 := Aside0.mk (HI8.out.step (below_drew1 (Below.refl _ _)))
    have HR9 := Aside0.mk (blk_drew HR8.out)
    refine sX (ds := []) (S := fun w' => w'.cell? ⟨P, 4, none⟩ = some (.slice A3 ln c3) ∧ w'.cell? ⟨W1.heap.size, 0, none⟩ = some (.string r.f0) ∧ w'.cell? ⟨W1.heap.size, 1, none⟩ = some (.int .i64 r.f1.f0) ∧ w'.cell? ⟨W1.heap.size, 2, none⟩ = some (.int .i64 r.f1.f1) ∧ w'.cell? ⟨W1.heap.size, 3, none⟩ = some (.int .i64 r.f1.f2) ∧ w'.cell? ⟨W1.heap.size, 4, none⟩ = some (.string r.f1.f3) ∧ w'.cell? ⟨W1.heap.size, 5, none⟩ = some (.string r.f1.f4)) re5.tab5 re5.bits5 ⟨(blk_cell HI9.out.blk 4).trans rfl, (blk_cell HR9.out 0).trans rfl, (blk_cell HR9.out 1).trans rfl, (blk_cell HR9.out 2).trans rfl, (blk_cell HR9.out 3).trans rfl, (blk_cell HR9.out 4).trans rfl, (blk_cell HR9.out 5).trans rfl⟩ (fun HT_ HW_ hHeld => ?_)
    generalize W8.drew = W9 at HI9 HR9 hHeld ⊢
    have hwl : IntKind.i64.wrap ((ln : Int) - 1) = (ln : Int) - 1 := by have := HLN.out; have h2 := HLL.out; rw [List.length_append] at h2; simp at h2; rw [IntKind.wrap_i64]; omega
    refine pX HT_ 0 1 27 ?_
    refine pX HT_ 1 3 28 ?_
    refine pX HT_ 2 7 29 ?_
    refine pX HT_ 3 15 30 ?_
    refine pX HT_ 7 143 34 ?_
    refine pX HT_ 8 399 35 ?_
    refine pX HT_ 9 911 36 ?_
    refine pX HT_ 10 1935 37 ?_
    refine tX HT_ HW_ hHeld 4 1951 31 ?_
    refine tX HT_ HW_ hHeld 5 1983 32 ?_
    refine tX HT_ HW_ hHeld 11 4031 38 ?_
    refine pX HT_ 12 8127 39 ?_
    refine pX HT_ 13 16319 40 ?_
    refine gX HT_ 6 16383 33 Tryz.func167 (HIX W9 A3 c3 ln HLL.out (Kd.R_reads' HI9.out.o4).2.2) ?_
    rintro e W10 ⟨rfl, hb⟩
    have HI10 := Aside0.mk (HI9.out.step hb)
    have HR10 := Aside0.mk (blk_below HR9.out hb)
    refine ⟨_, rfl, _, nX, ⟨(blk_cell HI10.out.blk 4).trans rfl, (blk_cell HR10.out 0).trans rfl, (blk_cell HR10.out 1).trans rfl, (blk_cell HR10.out 2).trans rfl, (blk_cell HR10.out 3).trans rfl, (blk_cell HR10.out 4).trans rfl, (blk_cell HR10.out 5).trans rfl⟩, fun hHeld => ?_⟩
    clear hb
    refine pX HT_ 14 32767 41 ?_
    refine gX HT_ 15 65535 42 Tryz.func166 (fail_calls _ 11 W10) ?_
    rintro e W11 ⟨rfl, rfl⟩
    refine ⟨_, rfl, _, nX, hHeld, fun hHeld => ?_⟩
    refine pX HT_ 16 131071 4 ?_
    refine eX HT_ ?_
    clear HT_ HW_ hHeld
    go_wp2
    all_goals
      go_ret
      refine ⟨?_, { p with v4 := .slice A3 ln c3 }, rfl, by rw [HE.out]; exact HI10.out⟩
      rw [HE.out]
      show _ = Ending.returned (errV (if decide (idxFrom (fun y => decide (r = y)) 0 (x.excl ++ [r]) < ((x.excl ++ [r]).length : Int) - 1) = true then 11 else 0))
      rw [← HLL.out, ← HQ.out]
      clear hwl
      first | (rw [if_pos (decide_eq_true (by omega))]; rfl) | (rw [if_neg (by rw [decide_eq_true_iff]; omega)]; rfl)
  · have HE : Aside0 (excP x r er = (x, er)) := ⟨by unfold excP; rw [if_pos he]⟩
    have HV : Aside0 (errV er = fltV er) := ⟨by unfold errV; rw [if_neg he]⟩
    have HRQ2 : Aside0 (Calls Tryz.prog 165 #[.slice A 2 c] w fun e w' => e = .returned (.tuple #[.agg (rqv r), fltV er]) ∧ Below w.heap.size w w') := ⟨HV.out ▸ HRQ.out⟩
    clear he
    go_enter Tryz.func132, Tryz.ntmps132
    go_wp2_with (first | (go_at_call 165; with_reducible refine HRQ2.out.mono ?_; rintro e W1 ⟨rfl, hb⟩; have HI1 := Aside0.mk (HI.out.step hb); have HB1 := Aside0.mk hb; clear hb) | ((with_reducible refine gate_ (.store 25 (.tmp 5) (.tmp 10)) rfl ?_); refine store_ev 25 (.tmp 5) (.tmp 10) rfl rfl rfl 0 (rqv r).toList (heap_alloc_new W1 _) rfl rfl rfl (by kernel_rfl) (show 0 + 6 ≤ 6 by decide) (by simp [Value.oneCell']) rfl ?_; intro W2 hn hg; have HR6 := Aside0.mk hn; have hb2 := fresh_below hg; have HI6 := Aside0.mk (HI1.out.step hb2); clear hn hg hb2))
    go_ret
    exact ⟨by rw [HE.out, HV.out]; rfl, p, rfl, by rw [HE.out]; exact HI6.out⟩
end Go.Proofs.YtmbpefnhkimplaaGreatDoor
end

section
namespace Go.Proofs.YtmbpefnhkimplaaGreatDoor
open Go Go.RowKit Go.Sort Go.Proofs Go.Proofs.YtmbpefnhkimplaaGreatDoorW.PrintWords Go.Proofs.YtmbpefnhkimplaaGreatDoor.K0
set_option linter.unusedVariables false
set_option linter.unusedSimpArgs false
set_option maxHeartbeats 2000000 in
/-- slices.IndexFunc over swaps. -/
theorem IndexFunc_Swap (A : Option Addr) (c : Nat) (xs : List S89) (p : S89 → Bool) (g : Nat) (lb : Array Value) (eg : ∀ args w, (callFunc g args).run Tryz.prog w = .ok (.enter g args) w) (w : World)
    (hr : Kd.C k89 w A xs.length xs)
    (hp : ∀ (j : Nat) (x : S89), xs[j]? = some x → ∀ (W : World), Below w.heap.size w W → ∀ cs, k89.K W x cs → Calls Tryz.prog g (#[.agg cs.toArray] ++ lb) W fun e w' => e = .returned (.bool (p x)) ∧ Below W.heap.size W w') :
    Calls Tryz.prog 200 #[.slice A xs.length c, .func (.func g) #[] lb] w fun e w' => e = .returned (.int .i64 (idxFrom p 0 xs)) ∧ Below w.heap.size w w' := by
  obtain ⟨n, hn⟩ : ∃ n, n = xs.length := ⟨_, rfl⟩
  rw [← hn] at hr ⊢
  have hbig := hr.2.1
  have HN := Aside0.mk hn
  clear hn
  have HR := Aside0.mk hr
  clear hr
  go_enter Tryz.func200, Tryz.ntmps200
  go_wp2
  go_loopg [5, 8] n (fun gg _ s8 wr => ∃ kk : Nat, kk ≤ n ∧ n - kk ≤ gg ∧ s8 = .int .i64 kk ∧ Aside0 (Below w.heap.size w wr) ∧ Aside0 (∀ j y, j < kk → xs[j]? = some y → p y = false))
  case atStart => exact ⟨0, Nat.zero_le _, by omega, rfl, Aside0.mk (Below.refl _ w), Aside0.mk (fun j y hj => absurd hj (Nat.not_lt_zero _))⟩
  case round =>
    obtain ⟨kk, hkk, hg, rfl, BW, AS⟩ := hrel
    by_cases hlt : kk < n
    · have hltz : (kk : Int) < (n : Int) := by omega
      have HB := Kd.C_below HR.out BW.out
      obtain ⟨x, hx⟩ : ∃ x, xs[kk]? = some x := ⟨_, List.getElem?_eq_getElem (by have := HN.out; omega)⟩
      have hxe : rd_T89 xs (kk : Int) = x := by
        unfold rd_T89
        rw [Int.toNat_natCast, List.getD_eq_getElem?_getD, hx]; rfl
      obtain ⟨ad, hA, h0, h1⟩ := at_T89 HB (kk : Int) (by omega) (by omega)
      rw [hxe] at h0 h1
      subst hA
      have hcall := hp kk x hx wr BW.out _ (k89_mk wr x)
      clear HB hxe hp
      have HX := Aside0.mk hx
      clear hx
      rw [Int.toNat_natCast] at h0 h1
      cases hq : p x with
      | true =>
        rw [hq] at hcall
        go_wp2_with (go_at_fn g; refine hcall.mono ?_; rintro e w' ⟨rfl, hb'⟩)
        go_ret
        refine ⟨?_, below_step BW.out hb'⟩
        rw [idxFrom_at p xs 0 kk x HX.out hq AS.out, Nat.zero_add]
        rfl
      | false =>
        rw [hq] at hcall
        go_wp2_with (go_at_fn g; refine hcall.mono ?_; rintro e w' ⟨rfl, hb'⟩)
        go_roundg (n - (kk + 1))
        case measure => omega
        case rel =>
          refine ⟨kk + 1, by omega, by omega, by go_num, Aside0.mk (below_step BW.out hb'), Aside0.mk (fun j y hj hy => ?_)⟩
          by_cases e : j = kk
          · subst e
            obtain rfl := Option.some.inj (HX.out.symm.trans hy)
            exact hq
          · exact AS.out j y (by omega) hy
    · have hltz : ¬ (kk : Int) < (n : Int) := by omega
      have : kk = n := by omega
      subst this
      go_wp2
      go_ret
      refine ⟨?_, BW.out⟩
      rw [idxFrom_none p xs 0 (fun j y hy => AS.out j y (by have := (List.getElem?_eq_some_iff.1 hy).1; have := HN.out; omega) hy)]
      rfl
/-- slices.ContainsFunc over swaps. -/
theorem ContainsFunc_Swap (A : Option Addr) (c : Nat) (xs : List S89) (p : S89 → Bool) (g : Nat) (lb : Array Value) (eg : ∀ args w, (callFunc g args).run Tryz.prog w = .ok (.enter g args) w) (w : World)
    (hr : Kd.C k89 w A xs.length xs)
    (hp : ∀ (j : Nat) (x : S89), xs[j]? = some x → ∀ (W : World), Below w.heap.size w W → ∀ cs, k89.K W x cs → Calls Tryz.prog g (#[.agg cs.toArray] ++ lb) W fun e w' => e = .returned (.bool (p x)) ∧ Below W.heap.size W w') :
    Calls Tryz.prog 168 #[.slice A xs.length c, .func (.func g) #[] lb] w fun e w' => e = .returned (.bool (xs.any p)) ∧ Below w.heap.size w w' := by
  have hcon := IndexFunc_Swap A c xs p g lb eg w hr hp
  have hge : decide (idxFrom p 0 xs ≥ 0) = xs.any p := idxFrom_nonneg p xs 0
  generalize idxFrom p 0 xs = z at hcon hge
  rw [← hge]
  clear hge hr hp
  generalize xs.length = n at hcon ⊢
  go_enter Tryz.func168, Tryz.ntmps168
  go_wp2_with (go_at_call 200; refine hcon.mono ?_; rintro e w' ⟨rfl, hb'⟩)
  go_ret
  exact ⟨rfl, hb'⟩
end Go.Proofs.YtmbpefnhkimplaaGreatDoor
end

section
namespace Go.Proofs.YtmbpefnhkimplaaGreatDoor
open Go Go.RowKit Go.Sort Go.Maps Go.Proofs Go.Proofs.YtmbpefnhkimplaaGreatDoorW.PrintWords Go.Proofs.YtmbpefnhkimplaaGreatDoorW.PrintLast Go.Proofs.YtmbpefnhkimplaaGreatDoor.K0 Go.Proofs.YtmbpefnhkimplaaGreatDoor.R1 Go.Proofs.YtmbpefnhkimplaaGreatDoor.R2
set_option linter.unusedVariables false
set_option linter.unusedSimpArgs false
theorem rep1_calls (x s : Sw) (b : Nat) (w : World) (h : w.heap[b]? = some (.cells #[.string s.f0, .string s.f1] 89 (0, 0))) : Calls Tryz.prog 169 #[.agg #[.string x.f0, .string x.f1], .pointer (some ⟨b, 0, none⟩)] w fun e w' => e = .returned (.bool (x.f0.toList == s.f0.toList)) ∧ Below w.heap.size w w' := by
  have hb := blk_lt h
  have h1 := blk_below h (below_alloc (Below.refl w.heap.size w) (.cells #[.string x.f0, .string x.f1] 89))
  have x0 := (blk_cell h1 0).trans rfl
  clear h h1
  go_enter Tryz.func169, Tryz.ntmps169
  go_wp2
  go_ret
  exact ⟨rfl, below_alloc (Below.refl _ _) _⟩
def repP (x : Ps) (a d : ByteArray) : Ps × Int := if checkOk a = false then (x, 6) else if pathOk d = false then (x, 6) else if x.swaps.any (fun y => y.f0.toList == a.toList) = true then (x, 11) else ({ x with swaps := x.swaps ++ [⟨a, d⟩] }, 0)
def rp1.T1 : Bool × List (List Nat × List Nat) := (true, [([], []), ([0], [0]), ([1], [1]), ([2], [2]), ([], []), ([4], [4]), ([5], [5]), ([6], [6]), ([3, 7], [3, 7]), ([], []), ([9, 8, 0, 1, 2, 3, 4, 5, 6, 7, 8, 9], [8, 9])])
def rp1.B1 : List Nat := [0, 1, 3, 7, 0, 16, 48, 112, 255, 0, 1023]
theorem rp1.tab1 : rtab .any (opsOf Tryz.f133 1) = rp1.T1 := by kernel_rfl
theorem rp1.bits1 : waitsOk rp1.T1.2 rp1.B1 = true := by kernel_rfl
def rp6.T6 : Bool × List (List Nat × List Nat) := (true, [([], []), ([], []), ([1], [1]), ([2], [2]), ([3], [3]), ([4], [4]), ([], []), ([6], [6]), ([5, 7], [5, 7]), ([0, 0, 1, 2, 3, 4, 5, 6, 7, 8], [0]), ([9, 0, 1, 2, 3, 4, 5, 6, 7, 8], [9]), ([10, 0, 1, 2, 3, 4, 5, 6, 7, 8], [10]), ([11, 8, 8, 0, 1, 2, 3, 4, 5, 6, 7, 8], [8, 11])])
def rp6.B6 : List Nat := [0, 0, 2, 6, 14, 30, 0, 64, 254, 511, 1023, 2047, 4095]
theorem rp6.tab6 : rtab .any (opsOf Tryz.f133 6) = rp6.T6 := by kernel_rfl
theorem rp6.bits6 : waitsOk rp6.T6.2 rp6.B6 = true := by kernel_rfl
set_option maxRecDepth 100000 in
set_option maxHeartbeats 4000000 in
theorem replace_calls (w0 w1 : World) (P : Nat) (p : PVals) (x : Ps) (a m d : Wd) (hln : x.swaps.length ≤ 1000000) (A : Option Addr) (c : Nat) (w : World) (hG : GW w0) (hI : PsIs w0 w1 P p x w) (hC : Kd.C k159 w A 3 [a, m, d]) :
    Calls Tryz.prog 133 #[.pointer (some ⟨P, 0, none⟩), .slice A 3 c] w fun e w' => e = .returned (errV (repP x a.f0 d.f0).2) ∧ ∃ p', p'.m = p.m ∧ PsIs w0 w1 P p' (repP x a.f0 d.f0).1 w' := by
  obtain ⟨ad, rfl, _⟩ := words_at hC 0 (by decide) (x := a) rfl
  have HGX : Aside0 (∀ W, Below w.heap.size w W → W.cell? ad = some (.string a.f0) ∧ W.cell? ⟨ad.block, ad.off + 4, none⟩ = some (.string d.f0)) := ⟨fun W h => by
    obtain ⟨ad1, e1, p1, _⟩ := words_at (Kd.C_below hC h) 0 (by decide) (x := a) rfl
    obtain ⟨ad2, e2, p2, _⟩ := words_at (Kd.C_below hC h) 2 (by decide) (x := d) rfl
    obtain rfl := Option.some.inj e1
    obtain rfl := Option.some.inj e2
    exact ⟨p1, p2⟩⟩
  have HCK : Aside0 (∀ W, PsIs w0 w1 P p x W → Calls Tryz.prog 83 #[.string a.f0] W fun e w' => e = .returned (.bool (checkOk a.f0)) ∧ Below W.heap.size W w') := ⟨fun W h => mcheck_calls a.f0 W (hG.below h.below)⟩
  have HFP : Aside0 (∀ W, Calls Tryz.prog 106 #[.string d.f0] W fun e w' => e = .returned (.bool (pathOk d.f0)) ∧ Below W.heap.size W w') := ⟨fun W => files_Path.calls 101 d.f0 _ W (files_Path_f d.f0 101 (by decide))⟩
  have HE : Aside0 (repP x a.f0 d.f0 = if checkOk a.f0 = false then (x, 6) else if pathOk d.f0 = false then (x, 6) else if x.swaps.any (fun y => y.f0.toList == a.f0.toList) = true then (x, 11) else ({ x with swaps := x.swaps ++ [⟨a.f0, d.f0⟩] }, 0)) := ⟨rfl⟩
  have HCF := Aside0.mk (fun (W : World) (A3 : Option Addr) (c3 : Nat) (hc : Kd.C k89 W A3 x.swaps.length x.swaps) {b : Nat} (hX : W.heap[b]? = some (.cells #[.string a.f0, .string d.f0] 89 (0, 0))) => ContainsFunc_Swap A3 c3 x.swaps (fun y : Sw => y.f0.toList == a.f0.toList) 169 #[.pointer (some ⟨b, 0, none⟩)] (enters_of Tryz.func169 (by kernel_rfl) rfl) W hc (fun j y hy W' hb cs hK => by
    obtain rfl := k89_open hK
    exact rep1_calls y ⟨a.f0, d.f0⟩ b W' (blk_below hX hb)))
  have HLN : Aside0 ((x.swaps.length + 1) * 32 ≤ 140737488355328) := ⟨by omega⟩
  have HI := Aside0.mk hI
  obtain ⟨A2, c2, hv2⟩ := Kd.R_slice hI.o3
  generalize repP x a.f0 d.f0 = ro at HE ⊢
  generalize checkOk a.f0 = b1 at HCK HE
  generalize pathOk d.f0 = b2 at HFP HE
  obtain ⟨b3, hb3⟩ : ∃ b, b = x.swaps.any (fun y => y.f0.toList == a.f0.toList) := ⟨_, rfl⟩
  rw [← hb3] at HCF HE
  clear hG hC hI hln hb3
  have hmf : ∀ (fn : Fn) (first cap : Array Value) (w : World), (Instr.makeFunc fn first cap).run Tryz.prog w = .ok (.func fn first cap) w := fun _ _ _ _ => rfl
  go_enter Tryz.func133, Tryz.ntmps133
  go_wp2
  have HI4 := Aside0.mk (HI.out.step (below_drew1 (Below.refl _ _)))
  have HB4 := Aside0.mk (below_drew1 (Below.refl w.heap.size w))
  refine sX (ds := [10]) (S := fun w' => w'.cell? ad = some (.string a.f0) ∧ w'.cell? ⟨ad.block, ad.off + 4, none⟩ = some (.string d.f0)) rp1.tab1 rp1.bits1 (HGX.out _ HB4.out) (fun HT_ HW_ hHeld => ?_)
  generalize w.drew = W4 at HI4 HB4 hHeld ⊢
  refine pX HT_ 0 1 6 ?_
  refine pX HT_ 1 3 7 ?_
  refine pX HT_ 2 7 8 ?_
  refine pX HT_ 4 23 10 ?_
  refine pX HT_ 5 55 11 ?_
  refine pX HT_ 6 119 12 ?_
  refine tX HT_ HW_ hHeld 3 127 9 ?_
  refine tX HT_ HW_ hHeld 7 255 13 ?_
  refine pX HT_ 8 511 14 ?_
  refine oX HT_ 9 1023 (some 5) (fun K hK => ?_)
  refine value_ (by kernel_rfl) rfl (by go_simp; exact ⟨rfl, rfl⟩) ?_
  refine hK.out _ _ (HGX.out _ (below_alloc HB4.out _)) (fun hHeld => ?_)
  clear hK K
  refine norm_ nX ?_
  refine lX HT_ 10 2047 (none) (fun K hK => ?_)
  refine store_K (by kernel_rfl) rfl 89 (.tmp 5) (.tmp 14) rfl 0 [.string a.f0, .string d.f0] (heap_alloc_new W4 _) rfl rfl rfl (by kernel_rfl) (show 0 + 2 ≤ 2 by decide) (by simp [Value.oneCell']) rfl ?_
  intro W5 hn hg
  have HS := Aside0.mk hn
  have hb5 := fresh_below hg
  have HI5 := Aside0.mk (HI4.out.step hb5)
  have HB5 := Aside0.mk (below_step HB4.out hb5)
  have z0 := (blk_cell hn 0).trans rfl
  have z1 := (blk_cell hn 1).trans rfl
  clear hn hg hb5
  refine hK.out _ _ ?_
  clear hK K
  refine eX HT_ ?_
  clear HT_ HW_ hHeld
  cases b1 with
  | false =>
    go_wp2_with (go_at_call 83; with_reducible refine (HCK.out _ HI5.out).mono ?_; rintro e W6 ⟨rfl, hb⟩; have HI6 := Aside0.mk (HI5.out.step hb); have HS6 := Aside0.mk (blk_below HS.out hb); have y0 := (blk_cell HS6.out 0).trans rfl; have y1 := (blk_cell HS6.out 1).trans rfl; clear hb)
    go_ret
    exact ⟨by rw [HE.out]; rfl, p, rfl, by rw [HE.out]; exact HI6.out⟩
  | true =>
    cases b2 with
    | false =>
      go_wp2_with (first | (go_at_call 83; with_reducible refine (HCK.out _ HI5.out).mono ?_; rintro e W6 ⟨rfl, hb⟩; have HI6 := Aside0.mk (HI5.out.step hb); have HS6 := Aside0.mk (blk_below HS.out hb); have y0 := (blk_cell HS6.out 0).trans rfl; have y1 := (blk_cell HS6.out 1).trans rfl; clear hb) | (go_at_call 106; with_reducible refine (HFP.out _).mono ?_; rintro e W7 ⟨rfl, hb⟩; have HI7 := Aside0.mk (HI6.out.step hb); have HS7 := Aside0.mk (blk_below HS6.out hb); obtain ⟨_, _, _, q3, _⟩ := HI7.out.cells; clear hb))
      go_ret
      exact ⟨by rw [HE.out]; rfl, p, rfl, by rw [HE.out]; exact HI7.out⟩
    | true =>
      cases b3 with
      | true =>
        go_wp2_with (first | (go_at_call 83; with_reducible refine (HCK.out _ HI5.out).mono ?_; rintro e W6 ⟨rfl, hb⟩; have HI6 := Aside0.mk (HI5.out.step hb); have HS6 := Aside0.mk (blk_below HS.out hb); have y0 := (blk_cell HS6.out 0).trans rfl; have y1 := (blk_cell HS6.out 1).trans rfl; clear hb) | (go_at_call 106; with_reducible refine (HFP.out _).mono ?_; rintro e W7 ⟨rfl, hb⟩; have HI7 := Aside0.mk (HI6.out.step hb); have HS7 := Aside0.mk (blk_below HS6.out hb); obtain ⟨_, _, _, q3, _⟩ := HI7.out.cells; clear hb) | (go_at_call 168; refine (HCF.out W7 A2 c2 (Kd.R_reads' (hv2 ▸ HI7.out.o3)).2.2 HS7.out).mono ?_; rintro e W8 ⟨rfl, hb⟩; have HI8 := Aside0.mk (HI7.out.step hb); have HS8 := Aside0.mk (blk_below HS7.out hb); clear hb))
        go_ret
        exact ⟨by rw [HE.out]; rfl, p, rfl, by rw [HE.out]; exact HI8.out⟩
      | false =>
        go_wp2_with (first | (go_at_call 83; with_reducible refine (HCK.out _ HI5.out).mono ?_; rintro e W6 ⟨rfl, hb⟩; have HI6 := Aside0.mk (HI5.out.step hb); have HS6 := Aside0.mk (blk_below HS.out hb); have y0 := (blk_cell HS6.out 0).trans rfl; have y1 := (blk_cell HS6.out 1).trans rfl; clear hb) | (go_at_call 106; with_reducible refine (HFP.out _).mono ?_; rintro e W7 ⟨rfl, hb⟩; have HI7 := Aside0.mk (HI6.out.step hb); have HS7 := Aside0.mk (blk_below HS6.out hb); obtain ⟨_, _, _, q3, _⟩ := HI7.out.cells; clear hb) | (go_at_call 168; refine (HCF.out W7 A2 c2 (Kd.R_reads' (hv2 ▸ HI7.out.o3)).2.2 HS7.out).mono ?_; rintro e W8 ⟨rfl, hb⟩; have HI8 := Aside0.mk (HI7.out.step hb); have HS8 := Aside0.mk (blk_below HS7.out hb); clear hb))
        have HI9 := Aside0.mk (HI8.out.step (below_drew1 (Below.refl _ _)))
        have HR9 := Aside0.mk (blk_drew HS8.out)
        refine sX (ds := [12]) (S := fun w' => w'.cell? ⟨P, 3, none⟩ = some (.slice A2 x.swaps.length c2) ∧ w'.cell? ⟨W4.heap.size, 0, none⟩ = some (.string a.f0) ∧ w'.cell? ⟨W4.heap.size, 1, none⟩ = some (.string d.f0)) rp6.tab6 rp6.bits6 ⟨(blk_cell HI9.out.blk 3).trans (congrArg some hv2), (blk_cell HR9.out 0).trans rfl, (blk_cell HR9.out 1).trans rfl⟩ (fun HT_ HW_ hHeld => ?_)
        generalize W8.drew = W9 at HI9 HR9 hHeld ⊢
        refine pX HT_ 0 1 36 ?_
        refine pX HT_ 1 3 37 ?_
        refine pX HT_ 2 7 38 ?_
        refine pX HT_ 3 15 39 ?_
        refine pX HT_ 4 31 40 ?_
        refine tX HT_ HW_ hHeld 5 63 41 ?_
        refine tX HT_ HW_ hHeld 6 127 42 ?_
        refine oX HT_ 7 255 (some 43) (fun K hK => ?_)
        refine value_ (by kernel_rfl) rfl (by go_simp; exact ⟨rfl, rfl⟩) ?_
        refine hK.out _ _ ⟨(blk_cell (blk_alloc HI9.out.blk _) 3).trans (congrArg some hv2), (blk_cell (blk_alloc HR9.out _) 0).trans rfl, (blk_cell (blk_alloc HR9.out _) 1).trans rfl⟩ (fun hHeld => ?_)
        clear hK K
        refine norm_ nX ?_
        refine oX HT_ 8 511 (some 44) (fun K hK => ?_)
        refine Kd.R_append_step k89 (w0 := W9) w1.heap.size (by kernel_rfl) (.tmp 41) (.tmp 43) 52 89 _ 32 rfl Tryz.underlying52 info89 rfl (by decide) (by decide) (.slice A2 x.swaps.length c2) x.swaps (⟨a.f0, d.f0⟩ : Sw) _ (fun k => w1.heap.size ≤ k) (fun _ => False) rfl rfl (k89_mkM _ _ _ (⟨a.f0, d.f0⟩ : Sw)) (fun _ h => h.elim) (fun k hk => Nat.le_trans HI9.out.moves.size hk) (hv2 ▸ HI9.out.o3) (Below.refl _ _) HI9.out.moves.size HLN.out ?_
        intro v1 w5 ho hb5 hg hat
        obtain ⟨A3, c3, rfl⟩ := Kd.R_slice ho
        obtain ⟨ln, hln⟩ : ∃ n, n = (x.swaps ++ [(⟨a.f0, d.f0⟩ : Sw)]).length := ⟨_, rfl⟩
        rw [← hln] at ho hat
        rw [← hln]
        clear hln
        rw [← hv2] at hg hat
        have hP5 := blk_grown HI9.out.blk hg (fun e => by have := HI9.out.o3.1 P e.symm; have := HI9.out.lt; omega)
        have hR5 := blk_grown HR9.out hg (fun e => by have := ((Kd.R_bound HI4.out.o3).1 _ e.symm).2.2.1; omega)
        have HI10 := Aside0.mk (HI9.out.app3 ho hg hat)
        show K (Act.put _ (some 44) (.slice A3 ln c3)) w5
        refine hK.out _ _ ⟨(blk_cell hP5 3).trans (congrArg some hv2), (blk_cell hR5 0).trans rfl, (blk_cell hR5 1).trans rfl⟩ (fun hHeld => ?_)
        clear hK K
        refine norm_ nX ?_
        refine pX HT_ 9 1023 45 ?_
        refine pX HT_ 10 2047 46 ?_
        refine pX HT_ 11 4095 47 ?_
        have hf := blk_frozen hP5 3
        have hcc := (blk_cell hP5 3).trans rfl
        refine lX HT_ 12 8191 (none) (fun K hK => ?_)
        refine skip_ (w1 := w5.setCell ⟨P, 3, none⟩ (.slice A3 ln c3)) (by kernel_rfl) rfl (by go_simp) ?_
        refine hK.out _ _ ?_
        clear hK K
        refine eX HT_ ?_
        clear HT_ HW_ hHeld hf hcc hP5 hR5
        generalize w5.setCell ⟨P, 3, none⟩ (.slice A3 ln c3) = W10 at HI10 ⊢
        go_wp2
        go_ret
        refine ⟨by rw [HE.out]; rfl, { p with v3 := .slice A3 ln c3 }, rfl, by rw [HE.out]; exact HI10.out⟩
end Go.Proofs.YtmbpefnhkimplaaGreatDoor
end
