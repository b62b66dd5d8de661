/- The texts MnRqr, MvIdx, MnIdx in one file, without what these claims do not use (put together by prune2.py). -/
import Derived.Test.YtmbpefnhkimplaaGreatDoorZE22
import Derived.Test.YtmbpefnhkimplaaGreatDoorZE5
import Derived.Shelf.Abstract
section
namespace Go.Proofs.YtmbpefnhkimplaaGreatDoor
open Go Go.RowKit Go.Sort Go.Maps Go.Proofs Go.Proofs.YtmbpefnhkimplaaGreatDoorW.PrintWords Go.Proofs.YtmbpefnhkimplaaGreatDoorW.PrintLast Go.Proofs.YtmbpefnhkimplaaGreatDoor.K0 Go.Proofs.YtmbpefnhkimplaaGreatDoor.R1 Go.Proofs.YtmbpefnhkimplaaGreatDoor.R2
set_option linter.unusedVariables false
set_option linter.unusedSimpArgs false
theorem fresh_below {W1 W2 : World} {o : Obj} (hg : (W1.alloc o).grownBy W2 (some W1.heap.size)) : Below W1.heap.size W1 W2 :=
  (below_alloc (Below.refl W1.heap.size W1) o).grown hg (by simp) (fun k hk => by cases hk; exact Nat.le_refl _)
theorem PsIs.upd {w0 w1 w w' : World} {P : Nat} {p : PVals} {x : Ps} (h : PsIs w0 w1 P p x w) {sp : List UInt8 → Option Int} (hm : SpAt w' p.m (x.cnt + 1) sp) (hg : w.grownBy w' (some p.m)) : PsIs w0 w1 P p { x with spots := sp, cnt := x.cnt + 1 } w' := by
  have hlt := h.mlt
  have hne : ∀ k, w1.heap.size ≤ k → some k ≠ some p.m := fun k hk e => by have := Option.some.inj e; omega
  exact ⟨h.below.grown hg h.below.size (fun k hk => by cases hk; exact h.mge), h.moves.trans (moves_grown2 hg (fun b e => .inr (Option.some.inj e).symm)), h.ge, h.lt, h.mge, h.mlt, h.mne, blk_grown h.blk hg (fun e => h.mne (Option.some.inj e).symm), Kd.R_grown h.o2 hg hne, Kd.R_grown h.o3 hg hne, Kd.R_grown h.o4 hg hne, Kd.R_grown h.o5 hg hne, h.a23, h.a24, h.a25, h.a34, h.a35, h.a45, hm⟩
/-- A requirement is added. -/
def addR (x : Ps) (r : Rq) (at_ : Int) : Ps := { x with spots := fun q => if r.f0.data.toList = q then some (x.fro + at_) else x.spots q, cnt := x.cnt + 1, reqs := x.reqs ++ [r] }
def rqrP (x : Ps) (r : Rq) (e : Int) (at_ : Int) : Ps × Int := if e ≠ 0 then (x, e) else if (x.spots r.f0.data.toList).isSome = true then (x, 11) else (addR x r at_, 0)
def rr4.T4 : Bool × List (List Nat × List Nat) := (true, [([], []), ([0], [0]), ([1], [1]), ([2], [2]), ([], []), ([4], [4]), ([3, 5], [3, 5]), ([6], [6]), ([7], [7]), ([7], [7]), ([8, 0, 1, 2, 3, 4, 5, 6, 7, 8], [8]), ([9, 10, 0, 1, 2, 3, 4, 5, 6, 7, 8, 9, 10], [9])])
def rr4.B4 : List Nat := [0, 1, 3, 7, 0, 16, 63, 127, 255, 255, 511, 2047]
theorem rr4.tab4 : rtab .any (opsOf Tryz.f131 4) = rr4.T4 := by kernel_rfl
theorem rr4.bits4 : waitsOk rr4.T4.2 rr4.B4 = true := by kernel_rfl
def rr7.T7 : Bool × List (List Nat × List Nat) := (true, [([], []), ([0], [0]), ([1], [1]), ([2], [2]), ([], []), ([4], [4]), ([], []), ([6], [6]), ([7], [7]), ([8], [8]), ([], []), ([10], [10]), ([11], [11]), ([12], [12]), ([9, 13], [9, 13]), ([3, 5, 14, 0, 1, 2, 3, 4, 5, 6, 7, 8, 9, 10, 11, 12, 13, 14], [3, 5, 14])])
def rr7.B7 : List Nat := [0, 1, 3, 7, 0, 16, 0, 64, 192, 448, 0, 1024, 3072, 7168, 16320, 32767]
theorem rr7.tab7 : rtab .any (opsOf Tryz.f131 7) = rr7.T7 := by kernel_rfl
theorem rr7.bits7 : waitsOk rr7.T7.2 rr7.B7 = true := by kernel_rfl
def rr8.T8 : Bool × List (List Nat × List Nat) := (true, [([], []), ([], []), ([1], [1]), ([2], [2]), ([3], [3]), ([4], [4]), ([], []), ([6], [6]), ([5, 7], [5, 7]), ([0, 0, 1, 2, 3, 4, 5, 6, 7, 8], [0]), ([9, 0, 1, 2, 3, 4, 5, 6, 7, 8], [9]), ([10, 0, 1, 2, 3, 4, 5, 6, 7, 8], [10]), ([11, 8, 8, 0, 1, 2, 3, 4, 5, 6, 7, 8], [8, 11])])
def rr8.B8 : List Nat := [0, 0, 2, 6, 14, 30, 0, 64, 254, 511, 1023, 2047, 4095]
theorem rr8.tab8 : rtab .any (opsOf Tryz.f131 8) = rr8.T8 := by kernel_rfl
theorem rr8.bits8 : waitsOk rr8.T8.2 rr8.B8 = true := by kernel_rfl
set_option maxRecDepth 100000 in
set_option maxHeartbeats 4000000 in
theorem require_calls (w0 w1 : World) (P : Nat) (p : PVals) (x : Ps) (a b : Wd) (r : Rq) (er : Int) (hr : reqP a.f0 b.f0 = (r, er)) (hrs : r.f0.size ≤ 400000) (hb : b.f0.size ≤ 400000) (hlo : -9223372036854775808 ≤ x.fro + b.f1) (hhi : x.fro + b.f1 ≤ 9223372036854775807) (hcn : x.cnt ≤ 1000000) (hln : x.reqs.length ≤ 1000000) (A : Option Addr) (c : Nat) (w : World) (hG : GW w0) (hI : PsIs w0 w1 P p x w) (hC : Kd.C k159 w A 2 [a, b]) :
    Calls Tryz.prog 131 #[.pointer (some ⟨P, 0, none⟩), .slice A 2 c] w fun e w' => e = .returned (errV (rqrP x r er b.f1).2) ∧ ∃ p', p'.m = p.m ∧ PsIs w0 w1 P p' (rqrP x r er b.f1).1 w' := by
  obtain ⟨ad, rfl, _⟩ := words_at hC 0 (by decide) (x := a) rfl
  have HGX : Aside0 (∀ W, Below w.heap.size w W → W.cell? ⟨ad.block, ad.off + 2 + 1, none⟩ = some (.int .i64 b.f1)) := ⟨fun W h => by
    obtain ⟨ad2, e2, _, p2⟩ := words_at (Kd.C_below hC h) 1 (by decide) (x := b) rfl
    obtain rfl := Option.some.inj e2
    exact p2⟩
  have HRQ : Aside0 (∀ W, PsIs w0 w1 P p x W → W = w → Calls Tryz.prog 165 #[.slice (some ad) 2 c] W fun e w' => e = .returned (.tuple #[.agg (rqv r), errV er]) ∧ Below W.heap.size W w') := ⟨fun W h e => by
    subst e
    have := req_calls a b hb (some ad) c W (hG.below h.below) hC
    rwa [hr] at this⟩
  replace HRQ := Aside0.mk (fun W h => HRQ.out W h)
  have HI := Aside0.mk hI
  have HLK := Aside0.mk (fun W (h : PsIs w0 w1 P p x W) => h.map.look r.f0 (show r.f0.size ≤ maxLen by unfold maxLen; omega))
  have hwr : IntKind.i64.wrap (x.fro + b.f1) = x.fro + b.f1 := by rw [IntKind.wrap_i64]; omega
  have HWR := Aside0.mk hwr
  have HCN : Aside0 (x.cnt < maxLen) := ⟨by unfold maxLen; omega⟩
  have HLN : Aside0 ((x.reqs.length + 1) * 72 ≤ 140737488355328) := ⟨by omega⟩
  have HSZ : Aside0 (r.f0.size ≤ maxLen) := ⟨by unfold maxLen; omega⟩
  clear hG hC hI hr hrs hb hlo hhi hcn hln hwr
  by_cases he : er = 0
  · subst he
    have HRQ2 : Aside0 (Calls Tryz.prog 165 #[.slice (some ad) 2 c] w fun e w' => e = .returned (.tuple #[.agg (rqv r), .nilIface]) ∧ Below w.heap.size w w') := ⟨HRQ.out w HI.out rfl⟩
    cases hs : (x.spots r.f0.data.toList).isSome with
    | true =>
      have HE : Aside0 (rqrP x r 0 b.f1 = (x, 11)) := ⟨by unfold rqrP; rw [if_neg (by decide), if_pos hs]⟩
      go_enter Tryz.func131, Tryz.ntmps131
      go_wp2_with (first | (go_at_call 165; with_reducible refine HRQ2.out.mono ?_; rintro e W1 ⟨rfl, hb⟩; have HI1 := Aside0.mk (HI.out.step hb); have HB1 := Aside0.mk hb; clear hb) | ((with_reducible refine gate_ (.store 25 (.tmp 5) (.tmp 12)) rfl ?_); refine store_ev 25 (.tmp 5) (.tmp 12) rfl rfl rfl 0 (rqv r).toList (heap_alloc_new W1 _) rfl rfl rfl (by kernel_rfl) (show 0 + 6 ≤ 6 by decide) (by simp [Value.oneCell']) rfl ?_; intro W2 hn hg; have HR2 := Aside0.mk hn; have hb2 := fresh_below hg; have HI2 := Aside0.mk (HI1.out.step hb2); have HB2 := Aside0.mk (below_step HB1.out hb2); clear hn hg hb2))
      have HI4 := Aside0.mk (HI2.out.step (below_drew1 (Below.refl _ _)))
      have HR4 := Aside0.mk (blk_drew HR2.out)
      obtain ⟨v, hl, _⟩ := HLK.out _ HI4.out
      rw [hs] at hl
      refine sX (ds := []) (S := fun w' => w'.cell? ⟨P, 8, none⟩ = some (.map (some p.m)) ∧ w'.cell? ⟨W1.heap.size, 0, none⟩ = some (.string r.f0) ∧ (Instr.lookup 100 (.map (some p.m)) (.string r.f0) true).run Tryz.prog w' = .ok (.tuple #[.int .i64 v, .bool true]) w') rr4.tab4 rr4.bits4 ⟨(blk_cell HI4.out.blk 8).trans rfl, (blk_cell HR4.out 0).trans rfl, hl⟩ (fun HT_ HW_ hHeld => ?_)
      clear hl
      have HB4 := Aside0.mk (below_step HB2.out (below_drew1 (Below.refl _ _)))
      generalize W2.drew = W4 at HI4 HR4 HB4 hHeld ⊢
      refine pX HT_ 0 1 18 ?_
      refine pX HT_ 1 3 19 ?_
      refine pX HT_ 2 7 20 ?_
      refine pX HT_ 4 23 22 ?_
      refine tX HT_ HW_ hHeld 3 31 21 ?_
      refine tX HT_ HW_ hHeld 5 63 23 ?_
      refine tX HT_ HW_ hHeld 6 127 24 ?_
      refine pX HT_ 7 255 17 ?_
      refine pX HT_ 8 511 25 ?_
      refine pX HT_ 9 1023 26 ?_
      refine pX HT_ 10 2047 7 ?_
      refine pX HT_ 11 4095 8 ?_
      refine eX HT_ ?_
      clear HT_ HW_ hHeld
      go_wp2
      go_ret
      exact ⟨by rw [HE.out]; rfl, p, rfl, by rw [HE.out]; exact HI4.out⟩
    | false =>
      have HE : Aside0 (rqrP x r 0 b.f1 = (addR x r b.f1, 0)) := ⟨by unfold rqrP; rw [if_neg (by decide), if_neg (by rw [hs]; exact Bool.false_ne_true)]⟩
      go_enter Tryz.func131, Tryz.ntmps131
      go_wp2_with (first | (go_at_call 165; with_reducible refine HRQ2.out.mono ?_; rintro e W1 ⟨rfl, hb⟩; have HI1 := Aside0.mk (HI.out.step hb); have HB1 := Aside0.mk hb; clear hb) | ((with_reducible refine gate_ (.store 25 (.tmp 5) (.tmp 12)) rfl ?_); refine store_ev 25 (.tmp 5) (.tmp 12) rfl rfl rfl 0 (rqv r).toList (heap_alloc_new W1 _) rfl rfl rfl (by kernel_rfl) (show 0 + 6 ≤ 6 by decide) (by simp [Value.oneCell']) rfl ?_; intro W2 hn hg; have HR2 := Aside0.mk hn; have hb2 := fresh_below hg; have HI2 := Aside0.mk (HI1.out.step hb2); have HB2 := Aside0.mk (below_step HB1.out hb2); clear hn hg hb2))
      have HI4 := Aside0.mk (HI2.out.step (below_drew1 (Below.refl _ _)))
      have HR4 := Aside0.mk (blk_drew HR2.out)
      obtain ⟨v, hl, _⟩ := HLK.out _ HI4.out
      rw [hs] at hl
      refine sX (ds := []) (S := fun w' => w'.cell? ⟨P, 8, none⟩ = some (.map (some p.m)) ∧ w'.cell? ⟨W1.heap.size, 0, none⟩ = some (.string r.f0) ∧ (Instr.lookup 100 (.map (some p.m)) (.string r.f0) true).run Tryz.prog w' = .ok (.tuple #[.int .i64 v, .bool false]) w') rr4.tab4 rr4.bits4 ⟨(blk_cell HI4.out.blk 8).trans rfl, (blk_cell HR4.out 0).trans rfl, hl⟩ (fun HT_ HW_ hHeld => ?_)
      clear hl
      have HB4 := Aside0.mk (below_step HB2.out (below_drew1 (Below.refl _ _)))
      generalize W2.drew = W4 at HI4 HR4 HB4 hHeld ⊢
      refine pX HT_ 0 1 18 ?_
      refine pX HT_ 1 3 19 ?_
      refine pX HT_ 2 7 20 ?_
      refine pX HT_ 4 23 22 ?_
      refine tX HT_ HW_ hHeld 3 31 21 ?_
      refine tX HT_ HW_ hHeld 5 63 23 ?_
      refine tX HT_ HW_ hHeld 6 127 24 ?_
      refine pX HT_ 7 255 17 ?_
      refine pX HT_ 8 511 25 ?_
      refine pX HT_ 9 1023 26 ?_
      refine pX HT_ 10 2047 7 ?_
      refine pX HT_ 11 4095 8 ?_
      refine eX HT_ ?_
      clear HT_ HW_ hHeld
      go_wp2
      have hwr := HWR.out
      have HI5 := Aside0.mk (HI4.out.step (below_drew1 (Below.refl _ _)))
      have HR5 := Aside0.mk (blk_drew HR4.out)
      refine sX (ds := [15]) (S := fun w' => w'.cell? ⟨P, 8, none⟩ = some (.map (some p.m)) ∧ w'.cell? ⟨P, 7, none⟩ = some (.int .i64 x.fro) ∧ w'.cell? ⟨W1.heap.size, 0, none⟩ = some (.string r.f0) ∧ w'.cell? ⟨ad.block, ad.off + 2 + 1, none⟩ = some (.int .i64 b.f1)) rr7.tab7 rr7.bits7 ⟨(blk_cell HI5.out.blk 8).trans rfl, (blk_cell HI5.out.blk 7).trans rfl, (blk_cell HR5.out 0).trans rfl, HGX.out _ (below_step HB4.out (below_drew1 (Below.refl _ _)))⟩ (fun HT_ HW_ hHeld => ?_)
      generalize W4.drew = W5 at HI5 HR5 hHeld ⊢
      refine pX HT_ 0 1 30 ?_
      refine pX HT_ 1 3 31 ?_
      refine pX HT_ 2 7 32 ?_
      refine pX HT_ 4 23 34 ?_
      refine pX HT_ 6 87 36 ?_
      refine pX HT_ 7 215 37 ?_
      refine pX HT_ 8 471 38 ?_
      refine pX HT_ 10 1495 40 ?_
      refine pX HT_ 11 3543 41 ?_
      refine pX HT_ 12 7639 42 ?_
      refine tX HT_ HW_ hHeld 3 7647 33 ?_
      refine tX HT_ HW_ hHeld 5 7679 35 ?_
      refine tX HT_ HW_ hHeld 9 8191 39 ?_
      refine tX HT_ HW_ hHeld 13 16383 43 ?_
      refine pX HT_ 14 32767 44 ?_
      refine lX HT_ 15 65535 none (fun K hK => ?_)
      obtain ⟨W6, hrun, hm6, hg6⟩ := HI5.out.map.update HCN.out r.f0 HSZ.out (x.fro + b.f1)
      refine update_K (t := 100) (m := .tmp 33) (x := .tmp 35) (v := .tmp 44) (by kernel_rfl) rfl rfl hrun ?_
      have HI6 := Aside0.mk (HI5.out.upd hm6 hg6)
      have HR6 := Aside0.mk (blk_grown HR5.out hg6 (fun e => by have := Option.some.inj e; have := HI.out.mlt; have := HI.out.moves.size; have := HB1.out.size; omega))
      refine hK.out _ _ ?_
      clear hK K hrun hm6 hg6
      refine eX HT_ ?_
      clear HT_ HW_ hHeld hwr HI5 HR5 HI4 HR4
      go_wp2
      obtain ⟨A2, c2, hv2⟩ := Kd.R_slice HI6.out.o2
      have HI7 := Aside0.mk (HI6.out.step (below_drew1 (Below.refl _ _)))
      have HR7 := Aside0.mk (blk_drew HR6.out)
      refine sX (ds := [12]) (S := fun w' => w'.cell? ⟨P, 2, none⟩ = some (.slice A2 x.reqs.length c2) ∧ w'.cell? ⟨W1.heap.size, 0, none⟩ = some (.string r.f0) ∧ w'.cell? ⟨W1.heap.size, 1, none⟩ = some (.int .i64 r.f1.f0) ∧ w'.cell? ⟨W1.heap.size, 2, none⟩ = some (.int .i64 r.f1.f1) ∧ w'.cell? ⟨W1.heap.size, 3, none⟩ = some (.int .i64 r.f1.f2) ∧ w'.cell? ⟨W1.heap.size, 4, none⟩ = some (.string r.f1.f3) ∧ w'.cell? ⟨W1.heap.size, 5, none⟩ = some (.string r.f1.f4)) rr8.tab8 rr8.bits8 ⟨(blk_cell HI7.out.blk 2).trans (congrArg some hv2), (blk_cell HR7.out 0).trans rfl, (blk_cell HR7.out 1).trans rfl, (blk_cell HR7.out 2).trans rfl, (blk_cell HR7.out 3).trans rfl, (blk_cell HR7.out 4).trans rfl, (blk_cell HR7.out 5).trans rfl⟩ (fun HT_ HW_ hHeld => ?_)
      generalize W6.drew = W7 at HI7 HR7 hHeld ⊢
      refine pX HT_ 0 1 45 ?_
      refine pX HT_ 1 3 46 ?_
      refine pX HT_ 2 7 47 ?_
      refine pX HT_ 3 15 48 ?_
      refine pX HT_ 4 31 49 ?_
      refine tX HT_ HW_ hHeld 5 63 50 ?_
      refine tX HT_ HW_ hHeld 6 127 51 ?_
      refine oX HT_ 7 255 (some 52) (fun K hK => ?_)
      refine value_ (by kernel_rfl) rfl (by go_simp; exact ⟨rfl, rfl⟩) ?_
      refine hK.out _ _ ⟨(blk_cell (blk_alloc HI7.out.blk _) 2).trans (congrArg some hv2), (blk_cell (blk_alloc HR7.out _) 0).trans rfl, (blk_cell (blk_alloc HR7.out _) 1).trans rfl, (blk_cell (blk_alloc HR7.out _) 2).trans rfl, (blk_cell (blk_alloc HR7.out _) 3).trans rfl, (blk_cell (blk_alloc HR7.out _) 4).trans rfl, (blk_cell (blk_alloc HR7.out _) 5).trans rfl⟩ (fun hHeld => ?_)
      clear hK K
      refine norm_ nX ?_
      refine oX HT_ 8 511 (some 53) (fun K hK => ?_)
      refine Kd.R_append_step k25 (w0 := W7) w1.heap.size (by kernel_rfl) (.tmp 50) (.tmp 52) 27 25 _ 72 rfl Tryz.underlying27 info25 rfl (by decide) (by decide) (.slice A2 x.reqs.length c2) x.reqs r _ (fun k => w1.heap.size ≤ k) (fun _ => False) rfl rfl (k25_mkM _ _ _ r) (fun _ h => h.elim) (fun k hk => Nat.le_trans HI7.out.moves.size hk) (hv2 ▸ HI7.out.o2) (Below.refl _ _) HI7.out.moves.size HLN.out ?_
      intro v1 w5 ho hb5 hg hat
      obtain ⟨A3, c3, rfl⟩ := Kd.R_slice ho
      obtain ⟨ln, hln⟩ : ∃ n, n = (x.reqs ++ [r]).length := ⟨_, rfl⟩
      rw [← hln] at ho hat
      rw [← hln]
      clear hln
      rw [← hv2] at hg hat
      have hP5 := blk_grown HI7.out.blk hg (fun e => by have := HI7.out.o2.1 P e.symm; have := HI7.out.lt; omega)
      have hR5 := blk_grown HR7.out hg (fun e => by have := ((Kd.R_bound HI.out.o2).1 _ e.symm).2.2.1; have := HB1.out.size; omega)
      have HI8 := Aside0.mk (HI7.out.app2 ho hg hat)
      show K (Act.put _ (some 53) (.slice A3 ln c3)) w5
      refine hK.out _ _ ⟨(blk_cell hP5 2).trans (congrArg some hv2), (blk_cell hR5 0).trans rfl, (blk_cell hR5 1).trans rfl, (blk_cell hR5 2).trans rfl, (blk_cell hR5 3).trans rfl, (blk_cell hR5 4).trans rfl, (blk_cell hR5 5).trans rfl⟩ (fun hHeld => ?_)
      clear hK K
      refine norm_ nX ?_
      refine pX HT_ 9 1023 54 ?_
      refine pX HT_ 10 2047 55 ?_
      refine pX HT_ 11 4095 56 ?_
      have hf := blk_frozen hP5 2
      have hcc := (blk_cell hP5 2).trans rfl
      refine lX HT_ 12 8191 none (fun K hK => ?_)
      refine skip_ (w1 := w5.setCell ⟨P, 2, none⟩ (.slice A3 ln c3)) (by kernel_rfl) rfl (by go_simp) ?_
      refine hK.out _ _ ?_
      clear hK K
      refine eX HT_ ?_
      clear HT_ HW_ hHeld
      go_wp2
      go_ret
      exact ⟨by rw [HE.out]; rfl, { p with v2 := .slice A3 ln c3 }, rfl, by rw [HE.out]; exact HI8.out⟩
  · have HE : Aside0 (rqrP x r er b.f1 = (x, er)) := ⟨by unfold rqrP; rw [if_pos he]⟩
    have HV : Aside0 (errV er = fltV er) := ⟨by unfold errV; rw [if_neg he]⟩
    have HRQ2 : Aside0 (Calls Tryz.prog 165 #[.slice (some ad) 2 c] w fun e w' => e = .returned (.tuple #[.agg (rqv r), fltV er]) ∧ Below w.heap.size w w') := ⟨HV.out ▸ HRQ.out w HI.out rfl⟩
    clear he
    go_enter Tryz.func131, Tryz.ntmps131
    go_wp2_with (first | (go_at_call 165; with_reducible refine HRQ2.out.mono ?_; rintro e W1 ⟨rfl, hb⟩; have HI1 := Aside0.mk (HI.out.step hb); have HB1 := Aside0.mk hb; clear hb) | ((with_reducible refine gate_ (.store 25 (.tmp 5) (.tmp 12)) rfl ?_); refine store_ev 25 (.tmp 5) (.tmp 12) rfl rfl rfl 0 (rqv r).toList (heap_alloc_new W1 _) rfl rfl rfl (by kernel_rfl) (show 0 + 6 ≤ 6 by decide) (by simp [Value.oneCell']) rfl ?_; intro W2 hn hg; have HR2 := Aside0.mk hn; have hb2 := fresh_below hg; have HI2 := Aside0.mk (HI1.out.step hb2); have HB2 := Aside0.mk (below_step HB1.out hb2); clear hn hg hb2))
    go_ret
    exact ⟨by rw [HE.out, HV.out]; rfl, p, rfl, by rw [HE.out]; exact HI2.out⟩
end Go.Proofs.YtmbpefnhkimplaaGreatDoor
end

section
namespace Go.Proofs.YtmbpefnhkimplaaGreatDoor
open Go Go.RowKit Go.Sort Go.Proofs Go.Proofs.YtmbpefnhkimplaaGreatDoorW.PrintWords Go.Proofs.YtmbpefnhkimplaaGreatDoor.K0
set_option linter.unusedVariables false
set_option linter.unusedSimpArgs false
/-- The first place of which p holds, or -1. -/
def idxFrom {α : Type} (p : α → Bool) : Nat → List α → Int
  | _, [] => -1
  | n, x :: l => if p x = true then (n : Int) else idxFrom p (n + 1) l
theorem idxFrom_at {α : Type} (p : α → Bool) : ∀ (l : List α) (n k : Nat) (x : α), l[k]? = some x → p x = true → (∀ j y, j < k → l[j]? = some y → p y = false) → idxFrom p n l = ((n + k : Nat) : Int)
  | [], n, k, x, h, _, _ => by simp at h
  | y :: l, n, 0, x, h, hp, _ => by
    obtain rfl : y = x := by simpa using h
    simp [idxFrom, hp]
  | y :: l, n, k + 1, x, h, hp, hn => by
    have hy := hn 0 y (by omega) rfl
    unfold idxFrom
    rw [if_neg (by rw [hy]; simp), idxFrom_at p l (n + 1) k x (by simpa using h) hp (fun j z hj hz => hn (j + 1) z (by omega) (by simpa using hz))]
    congr 1; omega
theorem idxFrom_none {α : Type} (p : α → Bool) : ∀ (l : List α) (n : Nat), (∀ (j : Nat) (y : α), l[j]? = some y → p y = false) → idxFrom p n l = -1
  | [], n, _ => rfl
  | y :: l, n, hn => by
    have hy := hn 0 y rfl
    unfold idxFrom
    rw [if_neg (by rw [hy]; simp)]
    exact idxFrom_none p l (n + 1) (fun j z hz => hn (j + 1) z (by simpa using hz))
theorem idxFrom_nonneg {α : Type} (p : α → Bool) : ∀ (l : List α) (n : Nat), decide (idxFrom p n l ≥ 0) = l.any p
  | [], n => rfl
  | y :: l, n => by
    unfold idxFrom
    cases h : p y
    · simp [h, idxFrom_nonneg p l (n + 1)]
    · simp [h]
set_option maxHeartbeats 2000000 in
/-- slices.IndexFunc over requirements. -/
theorem IndexFunc_Req (A : Option Addr) (c : Nat) (xs : List S25) (p : S25 → Bool) (g : Nat) (lb : Array Value) (eg : ∀ args w, (callFunc g args).run Tryz.prog w = .ok (.enter g args) w) (w : World)
    (hr : Kd.C k25 w A xs.length xs)
    (hp : ∀ (j : Nat) (x : S25), xs[j]? = some x → ∀ (W : World), Below w.heap.size w W → ∀ cs, k25.K W x cs → Calls Tryz.prog g (#[.agg cs.toArray] ++ lb) W fun e w' => e = .returned (.bool (p x)) ∧ Below W.heap.size W w') :
    Calls Tryz.prog 50 #[.slice A xs.length c, .func (.func g) #[] lb] w fun e w' => e = .returned (.int .i64 (idxFrom p 0 xs)) ∧ Below w.heap.size w w' := by
  obtain ⟨n, hn⟩ : ∃ n, n = xs.length := ⟨_, rfl⟩
  rw [← hn] at hr ⊢
  have hbig := hr.2.1
  have HN := Aside0.mk hn
  clear hn
  have HR := Aside0.mk hr
  clear hr
  go_enter Tryz.func50, Tryz.ntmps50
  go_wp2
  go_loopg [5, 8] n (fun gg _ s8 wr => ∃ kk : Nat, kk ≤ n ∧ n - kk ≤ gg ∧ s8 = .int .i64 kk ∧ Aside0 (Below w.heap.size w wr) ∧ Aside0 (∀ j y, j < kk → xs[j]? = some y → p y = false))
  case atStart => exact ⟨0, Nat.zero_le _, by omega, rfl, Aside0.mk (Below.refl _ w), Aside0.mk (fun j y hj => absurd hj (Nat.not_lt_zero _))⟩
  case round =>
    obtain ⟨kk, hkk, hg, rfl, BW, AS⟩ := hrel
    by_cases hlt : kk < n
    · have hltz : (kk : Int) < (n : Int) := by omega
      have HB := Kd.C_below HR.out BW.out
      obtain ⟨x, hx⟩ : ∃ x, xs[kk]? = some x := ⟨_, List.getElem?_eq_getElem (by have := HN.out; omega)⟩
      have hxe : rd_T25 xs (kk : Int) = x := by
        unfold rd_T25
        rw [Int.toNat_natCast, List.getD_eq_getElem?_getD, hx]; rfl
      obtain ⟨ad, hA, h0, h1, h2, h3, h4, h5⟩ := at_T25 HB (kk : Int) (by omega) (by omega)
      rw [hxe] at h0 h1 h2 h3 h4 h5
      subst hA
      have hcall := hp kk x hx wr BW.out _ (k25_mk wr x)
      clear HB hxe hp
      have HX := Aside0.mk hx
      clear hx
      rw [Int.toNat_natCast] at h0 h1 h2 h3 h4 h5
      cases hq : p x with
      | true =>
        rw [hq] at hcall
        go_wp2_with (go_at_fn g; refine hcall.mono ?_; rintro e w' ⟨rfl, hb'⟩)
        go_ret
        refine ⟨?_, below_step BW.out hb'⟩
        rw [idxFrom_at p xs 0 kk x HX.out hq AS.out, Nat.zero_add]
        rfl
      | false =>
        rw [hq] at hcall
        go_wp2_with (go_at_fn g; refine hcall.mono ?_; rintro e w' ⟨rfl, hb'⟩)
        go_roundg (n - (kk + 1))
        case measure => omega
        case rel =>
          refine ⟨kk + 1, by omega, by omega, by go_num, Aside0.mk (below_step BW.out hb'), Aside0.mk (fun j y hj hy => ?_)⟩
          by_cases e : j = kk
          · subst e
            obtain rfl := Option.some.inj (HX.out.symm.trans hy)
            exact hq
          · exact AS.out j y (by omega) hy
    · have hltz : ¬ (kk : Int) < (n : Int) := by omega
      have : kk = n := by omega
      subst this
      go_wp2
      go_ret
      refine ⟨?_, BW.out⟩
      rw [idxFrom_none p xs 0 (fun j y hy => AS.out j y (by have := (List.getElem?_eq_some_iff.1 hy).1; have := HN.out; omega) hy)]
      rfl
end Go.Proofs.YtmbpefnhkimplaaGreatDoor
end

section
namespace Go.Proofs.YtmbpefnhkimplaaGreatDoor
open Go Go.RowKit Go.Sort Go.Proofs Go.Proofs.YtmbpefnhkimplaaGreatDoorW.PrintWords Go.Proofs.YtmbpefnhkimplaaGreatDoorW.PrintLast Go.Proofs.YtmbpefnhkimplaaGreatDoor.K0
set_option linter.unusedVariables false
set_option linter.unusedSimpArgs false
instance : DecidableEq Rq := fun a b => decidable_of_iff (a.f0 = b.f0 ∧ a.f1.f0 = b.f1.f0 ∧ a.f1.f1 = b.f1.f1 ∧ a.f1.f2 = b.f1.f2 ∧ a.f1.f3 = b.f1.f3 ∧ a.f1.f4 = b.f1.f4) (by
  obtain ⟨a0, ⟨a1, a2, a3, a4, a5⟩⟩ := a
  obtain ⟨b0, ⟨b1, b2, b3, b4, b5⟩⟩ := b
  simp)
theorem rq_run (z x : Rq) (w' : World) : (if z.f0.toList = x.f0.toList then (if z.f1.f0 = x.f1.f0 then (if z.f1.f1 = x.f1.f1 then (if z.f1.f2 = x.f1.f2 then (if z.f1.f3.toList = x.f1.f3.toList then (if z.f1.f4.toList = x.f1.f4.toList then Result.ok (Next.value (Value.bool true)) w' else Result.ok (Next.value (Value.bool false)) w') else Result.ok (Next.value (Value.bool false)) w') else Result.ok (Next.value (Value.bool false)) w') else Result.ok (Next.value (Value.bool false)) w') else Result.ok (Next.value (Value.bool false)) w') else Result.ok (Next.value (Value.bool false)) w') = Result.ok (Next.value (Value.bool (decide (z = x)))) w' := by
  by_cases e : z = x
  · subst e
    simp
  · rw [decide_eq_false e]
    repeat (split; rotate_left; rfl)
    rename_i h0 h1 h2 h3 h4 h5
    refine absurd ?_ e
    have tl : ∀ {a b : ByteArray}, a.toList = b.toList → a = b := fun h => by_data (by rwa [ByteArray.toList_eq, ByteArray.toList_eq] at h)
    obtain ⟨z0, ⟨z1, z2, z3, z4, z5⟩⟩ := z
    obtain ⟨x0, ⟨x1, x2, x3, x4, x5⟩⟩ := x
    obtain rfl := tl h0
    obtain rfl : z1 = x1 := h1
    obtain rfl : z2 = x2 := h2
    obtain rfl : z3 = x3 := h3
    obtain rfl := tl h4
    obtain rfl := tl h5
    rfl
def index.T4 : Bool × List (List Nat × List Nat) := (true, [([], []), ([], []), ([], []), ([1, 2], [1, 2]), ([3], [3]), ([0, 4], [0, 4])])
def index.B4 : List Nat := [0, 0, 0, 6, 14, 31]
theorem index.tab4 : rtab .any (opsOf Tryz.f167 4) = index.T4 := by kernel_rfl
theorem index.bits4 : waitsOk index.T4.2 index.B4 = true := by kernel_rfl
set_option maxRecDepth 100000 in
set_option maxHeartbeats 2000000 in
theorem Index_Req (A : Option Addr) (c : Nat) (xs : List Rq) (z : Rq) (w : World) (hr : Kd.C k25 w A xs.length xs) :
    Calls Tryz.prog 167 #[.slice A xs.length c, .agg #[.string z.f0, .int .i64 z.f1.f0, .int .i64 z.f1.f1, .int .i64 z.f1.f2, .string z.f1.f3, .string z.f1.f4]] w fun e w' => e = .returned (.int .i64 (idxFrom (fun y => decide (z = y)) 0 xs)) ∧ Below w.heap.size w w' := by
  obtain ⟨n, hn⟩ : ∃ n, n = xs.length := ⟨_, rfl⟩
  rw [← hn] at hr ⊢
  have hbig := hr.2.1
  have HN := Aside0.mk hn
  clear hn
  have HR := Aside0.mk hr
  clear hr
  go_enter Tryz.func167, Tryz.ntmps167
  go_wp2
  go_loopg [5, 8] n (fun gg _ s8 wr => ∃ kk : Nat, kk ≤ n ∧ n - kk ≤ gg ∧ s8 = .int .i64 kk ∧ Aside0 (wr.heap[w.heap.size]? = some (.cells #[.string z.f0, .int .i64 z.f1.f0, .int .i64 z.f1.f1, .int .i64 z.f1.f2, .string z.f1.f3, .string z.f1.f4] 25 (0, 0))) ∧ Aside0 (Below w.heap.size w wr) ∧ Aside0 (∀ (j : Nat) (y : Rq), j < kk → xs[j]? = some y → decide (z = y) = false))
  case atStart => exact ⟨0, Nat.zero_le _, by omega, rfl, Aside0.mk (heap_alloc_new w _), Aside0.mk (below_alloc (Below.refl _ w) _), Aside0.mk (fun j y hj => absurd hj (Nat.not_lt_zero _))⟩
  case round =>
    obtain ⟨kk, hkk, hg, rfl, HB, BW, AS⟩ := hrel
    by_cases hlt : kk < n
    · have hltz : (kk : Int) < (n : Int) := by omega
      have HC := Kd.C_below HR.out BW.out
      obtain ⟨x, hx⟩ : ∃ x, xs[kk]? = some x := ⟨_, List.getElem?_eq_getElem (by have := HN.out; omega)⟩
      have hxe : rd_T25 xs (kk : Int) = x := by
        unfold rd_T25
        rw [Int.toNat_natCast, List.getD_eq_getElem?_getD, hx]; rfl
      obtain ⟨ad, hA, h0, h1, h2, h3, h4, h5⟩ := at_T25 HC (kk : Int) (by omega) (by omega)
      rw [hxe] at h0 h1 h2 h3 h4 h5
      subst hA
      clear HC hxe
      have HX := Aside0.mk hx
      clear hx
      rw [Int.toNat_natCast] at h0 h1 h2 h3 h4 h5
      go_wp2
      refine sX (ds := []) (S := fun w' => (w'.cell? ⟨w.heap.size, 0, none⟩ = some (.string z.f0) ∧ w'.cell? ⟨w.heap.size, 1, none⟩ = some (.int .i64 z.f1.f0) ∧ w'.cell? ⟨w.heap.size, 2, none⟩ = some (.int .i64 z.f1.f1) ∧ w'.cell? ⟨w.heap.size, 3, none⟩ = some (.int .i64 z.f1.f2) ∧ w'.cell? ⟨w.heap.size, 4, none⟩ = some (.string z.f1.f3) ∧ w'.cell? ⟨w.heap.size, 5, none⟩ = some (.string z.f1.f4)) ∧ w'.cell? (ad.add (kk * 6)) = some (.string x.f0) ∧ w'.cell? ⟨(ad.add (kk * 6)).block, (ad.add (kk * 6)).off + 1, none⟩ = some (.int .i64 x.f1.f0) ∧ w'.cell? ⟨(ad.add (kk * 6)).block, (ad.add (kk * 6)).off + 2, none⟩ = some (.int .i64 x.f1.f1) ∧ w'.cell? ⟨(ad.add (kk * 6)).block, (ad.add (kk * 6)).off + 3, none⟩ = some (.int .i64 x.f1.f2) ∧ w'.cell? ⟨(ad.add (kk * 6)).block, (ad.add (kk * 6)).off + 4, none⟩ = some (.string x.f1.f3) ∧ w'.cell? ⟨(ad.add (kk * 6)).block, (ad.add (kk * 6)).off + 5, none⟩ = some (.string x.f1.f4)) index.tab4 index.bits4 ⟨⟨(blk_cell HB.out 0).trans rfl, (blk_cell HB.out 1).trans rfl, (blk_cell HB.out 2).trans rfl, (blk_cell HB.out 3).trans rfl, (blk_cell HB.out 4).trans rfl, (blk_cell HB.out 5).trans rfl⟩, h0, h1, h2, h3, h4, h5⟩ (fun HT_ HW_ hHeld => ?_)
      clear h0 h1 h2 h3 h4 h5
      refine pX HT_ 1 2 12 ?_
      refine pX HT_ 2 6 13 ?_
      refine pX HT_ 3 14 14 ?_
      refine tX HT_ HW_ hHeld 0 15 11 ?_
      refine tX HT_ HW_ hHeld 4 31 15 ?_
      refine pX (v := .bool (decide (z = x))) HT_ 5 63 16 ?_ (hy := fun w' => by go_simp; exact rq_run z x w')
      refine eX HT_ ?_
      clear HT_ HW_ hHeld
      have BD := Aside0.mk (below_drew1 BW.out)
      have HBD := Aside0.mk (blk_drew HB.out)
      generalize wr.drew = w1 at BD HBD ⊢
      clear HB BW
      cases hq : decide (z = x) with
      | true =>
        go_wp2
        go_ret
        refine ⟨?_, BD.out⟩
        rw [idxFrom_at (fun y => decide (z = y)) xs 0 kk x HX.out hq AS.out, Nat.zero_add]
        rfl
      | false =>
        go_wp2
        go_roundg (n - (kk + 1))
        case measure => omega
        case rel =>
          refine ⟨kk + 1, by omega, by omega, by go_num, HBD, BD, Aside0.mk (fun j y hj hy => ?_)⟩
          by_cases e : j = kk
          · subst e
            obtain rfl := Option.some.inj (HX.out.symm.trans hy)
            exact hq
          · exact AS.out j y (by omega) hy
    · have hltz : ¬ (kk : Int) < (n : Int) := by omega
      have : kk = n := by omega
      subst this
      go_wp2
      go_ret
      refine ⟨?_, BW.out⟩
      rw [idxFrom_none (fun y => decide (z = y)) xs 0 (fun j y hy => AS.out j y (by have := (List.getElem?_eq_some_iff.1 hy).1; have := HN.out; omega) hy)]
      rfl
end Go.Proofs.YtmbpefnhkimplaaGreatDoor
end
