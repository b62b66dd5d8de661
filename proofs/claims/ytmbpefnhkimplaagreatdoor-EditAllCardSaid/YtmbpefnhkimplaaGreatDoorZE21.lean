/- The texts MnReq, MnReq2, MnShape in one file, without what these claims do not use (put together by prune2.py). -/
import Derived.Test.YtmbpefnhkimplaaGreatDoorZE17
import Derived.Test.YtmbpefnhkimplaaGreatDoorZE11
import Derived.Test.YtmbpefnhkimplaaGreatDoorZE20
import Derived.Test.YtmbpefnhkimplaaGreatDoorZE13
import Derived.Lib.AtoiAllCases
import Derived.Test.YtmbpefnhkimplaaGreatDoorZE7
section
namespace Go.Proofs.YtmbpefnhkimplaaGreatDoor
open Go Go.RowKit Go.Sort Go.Maps Go.Proofs Go.Proofs.YtmbpefnhkimplaaGreatDoorW.PrintWords Go.Proofs.YtmbpefnhkimplaaGreatDoorW.PrintLast Go.Proofs.YtmbpefnhkimplaaGreatDoor.K0 Go.Proofs.YtmbpefnhkimplaaGreatDoor.R1 Go.Proofs.YtmbpefnhkimplaaGreatDoor.R2
set_option linter.unusedVariables false
set_option linter.unusedSimpArgs false
theorem mcheck_calls (s : ByteArray) (w : World) (hG : GW w) : Calls Tryz.prog 83 #[.string s] w fun e w' => e = .returned (.bool (checkOk s)) ∧ Below w.heap.size w w' :=
  mpath_Check.calls 101 s _ w hG (mpath_Check_f s 101 (by decide))
theorem mfits_calls (s : ByteArray) (a b c : Int) (p q : ByteArray) (w : World) (hG : GW w) : Calls Tryz.prog 84 #[.string s, .agg #[.int .i64 a, .int .i64 b, .int .i64 c, .string p, .string q]] w fun e w' => e = .returned (.bool (fitsOk s a b c p q)) ∧ Below w.heap.size w w' :=
  mpath_Fits.calls 101 s a b c p q _ w hG (mpath_Fits_f s a b c p q 101 (by decide))
/-- An error of a number. -/
abbrev fltV (e : Int) : Value := .iface 136 (.agg #[.int .i64 e])
theorem fail_calls (b : Bool) (n : Int) (w : World) : Calls Tryz.prog 166 #[.bool b, .int .i64 n] w fun e w' => e = .returned (if b then fltV n else .nilIface) ∧ w' = w := by
  cases b
  all_goals
    go_enter Tryz.func166, Tryz.ntmps166
    go_wp2
    go_ret
    exact ⟨rfl, rfl⟩
/-- A number, as short as it can be. -/
def numM (s : ByteArray) : Bool := match Lib.atoiAll s.data.toList with
  | .ok v => decide (0 ≤ v) && decide (s.size ≤ 9) && ((ba (Lib.itoa v)).toList == s.toList)
  | _ => false
set_option maxRecDepth 100000 in
set_option maxHeartbeats 2000000 in
theorem number_calls (s : ByteArray) (hs : s.size ≤ 400000) (w : World) (hG : GW w) : Calls Tryz.prog 164 #[.string s] w fun e w' => e = .returned (.bool (numM s)) ∧ Below w.heap.size w w' := by
  have hDs : s.size ≤ 281474976710656 := by omega
  have HG := Aside0.mk hG
  clear hG
  by_cases hv : ∃ v, Lib.atoiAll s.data.toList = .ok v
  · obtain ⟨v, hv⟩ := hv
    have HM : Aside0 (numM s = (decide (0 ≤ v) && decide (s.size ≤ 9) && ((ba (Lib.itoa v)).toList == s.toList))) := ⟨by unfold numM; rw [hv]⟩
    have HV := Aside0.mk hv
    obtain ⟨b1, b2⟩ := Lib.atoiAll_bounds hv
    obtain ⟨S, hS⟩ : ∃ S : ByteArray, S = ba (Lib.itoa v) := ⟨_, rfl⟩
    have HS := Aside0.mk (show strconv_Itoa.f v = some S by unfold strconv_Itoa.f; rw [if_pos (by omega), if_pos (by omega), hS])
    rw [← hS] at HM
    clear hv hS b1 b2
    by_cases h0 : v ≥ 0
    · by_cases h9 : (s.size : Int) ≤ 9
      · go_enter Tryz.func164, Tryz.ntmps164
        go_wp2_with (first | (go_at_call 142; (with_reducible refine (atoi_ok s v _ hDs HV.out).mono ?_); rintro e w2 ⟨rfl, hw2⟩; have HB2 := Aside0.mk hw2; clear hw2) | (go_at_call 59; (with_reducible refine (strconv_Itoa.calls v S _ (HG.out.below HB2.out) HS.out).mono ?_); rintro e w3 ⟨rfl, hw3⟩; have HB3 := Aside0.mk (below_step HB2.out hw3); clear hw3))
        go_ret
        exact ⟨by rw [HM.out, decide_eq_true h0, decide_eq_true (show s.size ≤ 9 by omega)]; rfl, HB3.out⟩
      · go_enter Tryz.func164, Tryz.ntmps164
        go_wp2_with (go_at_call 142; (with_reducible refine (atoi_ok s v _ hDs HV.out).mono ?_); rintro e w2 ⟨rfl, hw2⟩; have HB2 := Aside0.mk hw2; clear hw2)
        go_ret
        exact ⟨by rw [HM.out, decide_eq_false (show ¬ s.size ≤ 9 by omega), Bool.and_false]; rfl, HB2.out⟩
    · go_enter Tryz.func164, Tryz.ntmps164
      go_wp2_with (go_at_call 142; (with_reducible refine (atoi_ok s v _ hDs HV.out).mono ?_); rintro e w2 ⟨rfl, hw2⟩; have HB2 := Aside0.mk hw2; clear hw2)
      go_ret
      exact ⟨by rw [HM.out, decide_eq_false (show ¬ 0 ≤ v by omega)]; rfl, HB2.out⟩
  · have HM : Aside0 (numM s = false) := ⟨by
      unfold numM
      split
      · rename_i v h; exact absurd ⟨v, h⟩ hv
      · rfl⟩
    have HV := Aside0.mk (fun v h => hv ⟨v, h⟩)
    clear hv
    go_enter Tryz.func164, Tryz.ntmps164
    go_wp2_with (go_at_call 142; (with_reducible refine (atoi_bad s _ HG.out hDs HV.out).mono ?_); rintro e w2 ⟨n2, N2, rfl, hw2⟩; have HB2 := Aside0.mk hw2; clear hw2)
    go_ret
    exact ⟨by rw [HM.out]; rfl, HB2.out⟩
/-- A path and a version, of two words. -/
abbrev Rq := S25
def verP (s : ByteArray) : S23 := let r := parsed s.data.toList; ⟨r.1, r.2.1, r.2.2.1, r.2.2.2.1, r.2.2.2.2.1⟩
def verI (s : ByteArray) : Bool := (parsed s.data.toList).2.2.2.2.2
abbrev vrv (v : S23) : Array Value := #[.int .i64 v.f0, .int .i64 v.f1, .int .i64 v.f2, .string v.f3, .string v.f4]
def reqP (a b : ByteArray) : Rq × Int :=
  if checkOk a = false then (z25, 6) else if verI b = false then (z25, 7) else if fitsOk a (verP b).f0 (verP b).f1 (verP b).f2 (verP b).f3 (verP b).f4 = false then (z25, 8) else (⟨a, verP b⟩, 0)
def errV (n : Int) : Value := if n = 0 then .nilIface else fltV n
theorem vparse_calls (s : ByteArray) (hs : s.size ≤ 400000) (w : World) (hG : GW w) : Calls Tryz.prog 170 #[.string s] w fun e w' => e = .returned (.tuple #[.agg (vrv (verP s)), .bool (verI s)]) ∧ Below w.heap.size w w' :=
  ver_Parse.calls s _ _ _ _ _ _ w hG (by unfold ver_Parse.f; rw [if_pos (by omega)]; rfl)
end Go.Proofs.YtmbpefnhkimplaaGreatDoor
end

section
namespace Go.Proofs.YtmbpefnhkimplaaGreatDoor
open Go Go.RowKit Go.Sort Go.Maps Go.Proofs Go.Proofs.YtmbpefnhkimplaaGreatDoorW.PrintWords Go.Proofs.YtmbpefnhkimplaaGreatDoorW.PrintLast Go.Proofs.YtmbpefnhkimplaaGreatDoor.K0 Go.Proofs.YtmbpefnhkimplaaGreatDoor.R1 Go.Proofs.YtmbpefnhkimplaaGreatDoor.R2
set_option linter.unusedVariables false
set_option linter.unusedSimpArgs false
theorem words_at {w : World} {A : Option Addr} {n : Nat} {ws : List Wd} (h : Kd.C k159 w A n ws) (i : Nat) (hi : i < n) {x : Wd} (hx : ws[i]? = some x) : ∃ ad, A = some ad ∧ w.cell? (ad.add (i * 2)) = some (.string x.f0) ∧ w.cell? ⟨(ad.add (i * 2)).block, (ad.add (i * 2)).off + 1, none⟩ = some (.int .i64 x.f1) := by
  obtain ⟨ad, e, h0, h1⟩ := at_T159 h (i : Int) (by omega) (by omega)
  have hxe : rd_T159 ws (i : Int) = x := by
    unfold rd_T159
    rw [Int.toNat_natCast, List.getD_eq_getElem?_getD, hx]; rfl
  rw [hxe, Int.toNat_natCast] at h0 h1
  exact ⟨ad, e, h0, h1⟩
abbrev rqv (x : Rq) : Array Value := #[.string x.f0, .int .i64 x.f1.f0, .int .i64 x.f1.f1, .int .i64 x.f1.f2, .string x.f1.f3, .string x.f1.f4]
abbrev rqz : Array Value := #[.string ⟨#[]⟩, .int .i64 0, .int .i64 0, .int .i64 0, .string ⟨#[]⟩, .string ⟨#[]⟩]
abbrev vrz : Array Value := #[.int .i64 0, .int .i64 0, .int .i64 0, .string ⟨#[]⟩, .string ⟨#[]⟩]
/-- req's own variables: the answer, the version. -/
structure RqvIs (w0 : World) (B : Nat) (v : S23) (W : World) : Prop where
  below : Below w0.heap.size w0 W
  r : W.heap[w0.heap.size]? = some (.cells rqz 25 (0, 0))
  v : W.heap[B]? = some (.cells (vrv v) 23 (0, 0))
theorem RqvIs.step {w0 w w' : World} {B : Nat} {v : S23} (h : RqvIs w0 B v w) (hb : Below w.heap.size w w') : RqvIs w0 B v w' :=
  ⟨below_step h.below hb, blk_below h.r hb, blk_below h.v hb⟩
theorem rq_first {w W1 W2 : World} {v : S23} {z : Array Value} (hb : Below (w.alloc (.cells rqz 25)).heap.size (w.alloc (.cells rqz 25)) W1) (hn : W2.heap[W1.heap.size]? = some (.cells (vrv v) 23 (0, 0))) (hg : (W1.alloc (.cells z 23)).grownBy W2 (some W1.heap.size)) : RqvIs w W1.heap.size v W2 := by
  have b1 : Below w.heap.size w W1 := below_step (below_alloc (Below.refl _ _) _) hb
  have b2 : Below w.heap.size w (W1.alloc (.cells z 23)) := below_alloc b1 _
  have hs := hb.size
  have e1 : (w.alloc (.cells rqz 25)).heap.size = w.heap.size + 1 := by simp
  have r1 := blk_below (blk_below (heap_alloc_new w (.cells rqz 25)) hb) (below_alloc (Below.refl W1.heap.size W1) (.cells z 23))
  exact ⟨b2.grown hg b2.size (fun k hk => by cases hk; exact b1.size), (hg.block _ (blk_lt r1) (fun e => by have := Option.some.inj e; omega)).trans r1, hn⟩
def rq6.T6 : Bool × List (List Nat × List Nat) := (true, [([], []), ([0], [0]), ([1], [1]), ([2], [2]), ([], []), ([3, 4], [3, 4]), ([5], [5]), ([6, 5], [6])])
def rq6.B6 : List Nat := [0, 1, 3, 7, 0, 31, 63, 127]
theorem rq6.tab6 : rtab .any (opsOf Tryz.f165 6) = rq6.T6 := by kernel_rfl
theorem rq6.bits6 : waitsOk rq6.T6.2 rq6.B6 = true := by kernel_rfl
def rq8.T8 : Bool × List (List Nat × List Nat) := (true, [([], []), ([0], [0]), ([1], [1]), ([2], [2]), ([], []), ([3, 4], [3, 4]), ([5, 0, 1, 2, 3, 4, 5], [5]), ([6, 0, 1, 2, 3, 4, 5, 6], [])])
def rq8.B8 : List Nat := [0, 1, 3, 7, 0, 31, 63, 127]
theorem rq8.tab8 : rtab .any (opsOf Tryz.f165 8) = rq8.T8 := by kernel_rfl
theorem rq8.bits8 : waitsOk rq8.T8.2 rq8.B8 = true := by kernel_rfl
set_option maxRecDepth 100000 in
set_option maxHeartbeats 4000000 in
theorem req_calls (a b : Wd) (hb : b.f0.size ≤ 400000) (A : Option Addr) (c : Nat) (w : World) (hG : GW w) (hC : Kd.C k159 w A 2 [a, b]) :
    Calls Tryz.prog 165 #[.slice A 2 c] w fun e w' => e = .returned (.tuple #[.agg (rqv (reqP a.f0 b.f0).1), errV (reqP a.f0 b.f0).2]) ∧ Below w.heap.size w w' := by
  obtain ⟨ad, rfl, _⟩ := words_at hC 0 (by decide) (x := a) rfl
  have HGX : Aside0 (∀ W, Below w.heap.size w W → W.cell? ad = some (.string a.f0) ∧ W.cell? ⟨ad.block, ad.off + 2, none⟩ = some (.string b.f0)) := ⟨fun W h => by
    obtain ⟨ad1, e1, p1, _⟩ := words_at (Kd.C_below hC h) 0 (by decide) (x := a) rfl
    obtain ⟨ad2, e2, p2, _⟩ := words_at (Kd.C_below hC h) 1 (by decide) (x := b) rfl
    obtain rfl := Option.some.inj e1
    obtain rfl := Option.some.inj e2
    exact ⟨p1, p2⟩⟩
  have HVP : Aside0 (∀ W, Below w.heap.size w W → Calls Tryz.prog 170 #[.string b.f0] W fun e w' => e = .returned (.tuple #[.agg (vrv (verP b.f0)), .bool (verI b.f0)]) ∧ Below W.heap.size W w') := ⟨fun W h => vparse_calls b.f0 hb W (hG.below h)⟩
  have HCK : Aside0 (∀ W, Below w.heap.size w W → Calls Tryz.prog 83 #[.string a.f0] W fun e w' => e = .returned (.bool (checkOk a.f0)) ∧ Below W.heap.size W w') := ⟨fun W h => mcheck_calls a.f0 W (hG.below h)⟩
  have HFT : Aside0 (∀ W, Below w.heap.size w W → Calls Tryz.prog 84 #[.string a.f0, .agg (vrv (verP b.f0))] W fun e w' => e = .returned (.bool (fitsOk a.f0 (verP b.f0).f0 (verP b.f0).f1 (verP b.f0).f2 (verP b.f0).f3 (verP b.f0).f4)) ∧ Below W.heap.size W w') := ⟨fun W h => mfits_calls a.f0 _ _ _ _ _ W (hG.below h)⟩
  have HE : Aside0 (reqP a.f0 b.f0 = if checkOk a.f0 = false then (z25, 6) else if verI b.f0 = false then (z25, 7) else if fitsOk a.f0 (verP b.f0).f0 (verP b.f0).f1 (verP b.f0).f2 (verP b.f0).f3 (verP b.f0).f4 = false then (z25, 8) else (⟨a.f0, verP b.f0⟩, 0)) := ⟨rfl⟩
  generalize reqP a.f0 b.f0 = ro at HE ⊢
  generalize fitsOk a.f0 (verP b.f0).f0 (verP b.f0).f1 (verP b.f0).f2 (verP b.f0).f3 (verP b.f0).f4 = b3 at HFT HE
  generalize checkOk a.f0 = b1 at HCK HE
  generalize verI b.f0 = b2 at HVP HE
  generalize verP b.f0 = v at HVP HFT HE
  obtain ⟨y0, y1⟩ := HGX.out _ (below_alloc (Below.refl w.heap.size w) (.cells rqz 25))
  clear hG hC hb
  cases b1 with
  | false =>
    go_enter Tryz.func165, Tryz.ntmps165
    go_wp2_with (first | (go_at_call 170; with_reducible refine (HVP.out _ (below_alloc (Below.refl _ _) _)).mono ?_; rintro e W1 ⟨rfl, hb1⟩; have HB1 := Aside0.mk hb1; obtain ⟨q0, q1⟩ := HGX.out _ (below_alloc (below_step (below_alloc (Below.refl w.heap.size w) (.cells rqz 25)) hb1) (.cells vrz 23)); clear hb1) | ((with_reducible refine gate_ (.store 23 (.tmp 4) (.tmp 12)) rfl ?_); refine store_ev 23 (.tmp 4) (.tmp 12) rfl rfl rfl 0 (vrv v).toList (heap_alloc_new W1 _) rfl rfl rfl (by kernel_rfl) (show 0 + 5 ≤ 5 by decide) (by simp [Value.oneCell']) rfl ?_; intro W2 hn hg; have HI := Aside0.mk (rq_first HB1.out hn hg); clear hn hg; obtain ⟨x0, x1⟩ := HGX.out _ HI.out.below) | (go_at_call 83; with_reducible refine (HCK.out _ HI.out.below).mono ?_; rintro e W3 ⟨rfl, hb⟩; have HI3 := Aside0.mk (HI.out.step hb); clear hb) | ((with_reducible refine gate_ (.store 25 (.tmp 2) (.tmp 21)) rfl ?_); refine store_ev 25 (.tmp 2) (.tmp 21) rfl rfl rfl 0 rqz.toList HI3.out.r rfl rfl rfl (by kernel_rfl) (show 0 + 6 ≤ 6 by decide) (by simp [Value.oneCell']) rfl ?_; intro Wb hn hg; have HR := Aside0.mk hn; have HBB := Aside0.mk (HI3.out.below.grown hg HI3.out.below.size (fun k hk => by cases hk; exact Nat.le_refl _)); clear hn hg))
    refine bodyPost_ret (results_ct rfl _ _ w.heap.size 25 rqz (0, 0) _ rfl HR.out Tryz.underlying25 rfl (by kernel_rfl)) rfl ?_
    exact ⟨by rw [HE.out]; rfl, HBB.out⟩
  | true =>
    cases b2 with
    | false =>
      go_enter Tryz.func165, Tryz.ntmps165
      go_wp2_with (first | (go_at_call 170; with_reducible refine (HVP.out _ (below_alloc (Below.refl _ _) _)).mono ?_; rintro e W1 ⟨rfl, hb1⟩; have HB1 := Aside0.mk hb1; obtain ⟨q0, q1⟩ := HGX.out _ (below_alloc (below_step (below_alloc (Below.refl w.heap.size w) (.cells rqz 25)) hb1) (.cells vrz 23)); clear hb1) | ((with_reducible refine gate_ (.store 23 (.tmp 4) (.tmp 12)) rfl ?_); refine store_ev 23 (.tmp 4) (.tmp 12) rfl rfl rfl 0 (vrv v).toList (heap_alloc_new W1 _) rfl rfl rfl (by kernel_rfl) (show 0 + 5 ≤ 5 by decide) (by simp [Value.oneCell']) rfl ?_; intro W2 hn hg; have HI := Aside0.mk (rq_first HB1.out hn hg); clear hn hg; obtain ⟨x0, x1⟩ := HGX.out _ HI.out.below) | (go_at_call 83; with_reducible refine (HCK.out _ HI.out.below).mono ?_; rintro e W3 ⟨rfl, hb⟩; have HI3 := Aside0.mk (HI.out.step hb); clear hb) | ((with_reducible refine gate_ (.store 25 (.tmp 2) (.tmp 27)) rfl ?_); refine store_ev 25 (.tmp 2) (.tmp 27) rfl rfl rfl 0 rqz.toList HI3.out.r rfl rfl rfl (by kernel_rfl) (show 0 + 6 ≤ 6 by decide) (by simp [Value.oneCell']) rfl ?_; intro Wb hn hg; have HR := Aside0.mk hn; have HBB := Aside0.mk (HI3.out.below.grown hg HI3.out.below.size (fun k hk => by cases hk; exact Nat.le_refl _)); clear hn hg))
      refine bodyPost_ret (results_ct rfl _ _ w.heap.size 25 rqz (0, 0) _ rfl HR.out Tryz.underlying25 rfl (by kernel_rfl)) rfl ?_
      exact ⟨by rw [HE.out]; rfl, HBB.out⟩
    | true =>
      cases b3 with
      | false =>
        go_enter Tryz.func165, Tryz.ntmps165
        go_wp2_with (first | (go_at_call 170; with_reducible refine (HVP.out _ (below_alloc (Below.refl _ _) _)).mono ?_; rintro e W1 ⟨rfl, hb1⟩; have HB1 := Aside0.mk hb1; obtain ⟨q0, q1⟩ := HGX.out _ (below_alloc (below_step (below_alloc (Below.refl w.heap.size w) (.cells rqz 25)) hb1) (.cells vrz 23)); clear hb1) | ((with_reducible refine gate_ (.store 23 (.tmp 4) (.tmp 12)) rfl ?_); refine store_ev 23 (.tmp 4) (.tmp 12) rfl rfl rfl 0 (vrv v).toList (heap_alloc_new W1 _) rfl rfl rfl (by kernel_rfl) (show 0 + 5 ≤ 5 by decide) (by simp [Value.oneCell']) rfl ?_; intro W2 hn hg; have HI := Aside0.mk (rq_first HB1.out hn hg); clear hn hg; obtain ⟨x0, x1⟩ := HGX.out _ HI.out.below) | (go_at_call 83; with_reducible refine (HCK.out _ HI.out.below).mono ?_; rintro e W3 ⟨rfl, hb⟩; have HI3 := Aside0.mk (HI.out.step hb); clear hb))
        have HI4 := Aside0.mk (HI3.out.step (below_drew1 (Below.refl _ _)))
        refine sX (ds := []) (S := fun w' => w'.cell? ad = some (.string a.f0) ∧ w'.cell? ⟨W1.heap.size, 0, none⟩ = some (.int .i64 v.f0) ∧ w'.cell? ⟨W1.heap.size, 1, none⟩ = some (.int .i64 v.f1) ∧ w'.cell? ⟨W1.heap.size, 2, none⟩ = some (.int .i64 v.f2) ∧ w'.cell? ⟨W1.heap.size, 3, none⟩ = some (.string v.f3) ∧ w'.cell? ⟨W1.heap.size, 4, none⟩ = some (.string v.f4)) rq6.tab6 rq6.bits6 ⟨(HGX.out _ HI4.out.below).1, (blk_cell HI4.out.v 0).trans rfl, (blk_cell HI4.out.v 1).trans rfl, (blk_cell HI4.out.v 2).trans rfl, (blk_cell HI4.out.v 3).trans rfl, (blk_cell HI4.out.v 4).trans rfl⟩ (fun HT_ HW_ hHeld => ?_)
        generalize W3.drew = W4 at HI4 hHeld ⊢
        refine pX HT_ 0 1 31 ?_
        refine pX HT_ 1 3 32 ?_
        refine pX HT_ 2 7 33 ?_
        refine tX HT_ HW_ hHeld 3 15 34 ?_
        refine tX HT_ HW_ hHeld 4 31 35 ?_
        refine gX HT_ 5 63 36 Tryz.func84 (HFT.out _ HI4.out.below) ?_
        rintro e W5 ⟨rfl, hb⟩
        have HI5 := Aside0.mk (HI4.out.step hb)
        refine ⟨_, rfl, _, nX, ⟨(HGX.out _ HI5.out.below).1, (blk_cell HI5.out.v 0).trans rfl, (blk_cell HI5.out.v 1).trans rfl, (blk_cell HI5.out.v 2).trans rfl, (blk_cell HI5.out.v 3).trans rfl, (blk_cell HI5.out.v 4).trans rfl⟩, fun hHeld => ?_⟩
        clear hb
        refine pX HT_ 6 127 37 ?_
        refine pX HT_ 7 255 30 ?_
        refine eX HT_ ?_
        clear HT_ HW_ hHeld
        go_wp2_with ((with_reducible refine gate_ (.store 25 (.tmp 2) (.tmp 38)) rfl ?_); refine store_ev 25 (.tmp 2) (.tmp 38) rfl rfl rfl 0 rqz.toList HI5.out.r rfl rfl rfl (by kernel_rfl) (show 0 + 6 ≤ 6 by decide) (by simp [Value.oneCell']) rfl ?_; intro Wb hn hg; have HR := Aside0.mk hn; have HBB := Aside0.mk (HI5.out.below.grown hg HI5.out.below.size (fun k hk => by cases hk; exact Nat.le_refl _)); clear hn hg)
        refine bodyPost_ret (results_ct rfl _ _ w.heap.size 25 rqz (0, 0) _ rfl HR.out Tryz.underlying25 rfl (by kernel_rfl)) rfl ?_
        exact ⟨by rw [HE.out]; rfl, HBB.out⟩
      | true =>
        go_enter Tryz.func165, Tryz.ntmps165
        go_wp2_with (first | (go_at_call 170; with_reducible refine (HVP.out _ (below_alloc (Below.refl _ _) _)).mono ?_; rintro e W1 ⟨rfl, hb1⟩; have HB1 := Aside0.mk hb1; obtain ⟨q0, q1⟩ := HGX.out _ (below_alloc (below_step (below_alloc (Below.refl w.heap.size w) (.cells rqz 25)) hb1) (.cells vrz 23)); clear hb1) | ((with_reducible refine gate_ (.store 23 (.tmp 4) (.tmp 12)) rfl ?_); refine store_ev 23 (.tmp 4) (.tmp 12) rfl rfl rfl 0 (vrv v).toList (heap_alloc_new W1 _) rfl rfl rfl (by kernel_rfl) (show 0 + 5 ≤ 5 by decide) (by simp [Value.oneCell']) rfl ?_; intro W2 hn hg; have HI := Aside0.mk (rq_first HB1.out hn hg); clear hn hg; obtain ⟨x0, x1⟩ := HGX.out _ HI.out.below) | (go_at_call 83; with_reducible refine (HCK.out _ HI.out.below).mono ?_; rintro e W3 ⟨rfl, hb⟩; have HI3 := Aside0.mk (HI.out.step hb); clear hb))
        have HI4 := Aside0.mk (HI3.out.step (below_drew1 (Below.refl _ _)))
        refine sX (ds := []) (S := fun w' => w'.cell? ad = some (.string a.f0) ∧ w'.cell? ⟨W1.heap.size, 0, none⟩ = some (.int .i64 v.f0) ∧ w'.cell? ⟨W1.heap.size, 1, none⟩ = some (.int .i64 v.f1) ∧ w'.cell? ⟨W1.heap.size, 2, none⟩ = some (.int .i64 v.f2) ∧ w'.cell? ⟨W1.heap.size, 3, none⟩ = some (.string v.f3) ∧ w'.cell? ⟨W1.heap.size, 4, none⟩ = some (.string v.f4)) rq6.tab6 rq6.bits6 ⟨(HGX.out _ HI4.out.below).1, (blk_cell HI4.out.v 0).trans rfl, (blk_cell HI4.out.v 1).trans rfl, (blk_cell HI4.out.v 2).trans rfl, (blk_cell HI4.out.v 3).trans rfl, (blk_cell HI4.out.v 4).trans rfl⟩ (fun HT_ HW_ hHeld => ?_)
        generalize W3.drew = W4 at HI4 hHeld ⊢
        refine pX HT_ 0 1 31 ?_
        refine pX HT_ 1 3 32 ?_
        refine pX HT_ 2 7 33 ?_
        refine tX HT_ HW_ hHeld 3 15 34 ?_
        refine tX HT_ HW_ hHeld 4 31 35 ?_
        refine gX HT_ 5 63 36 Tryz.func84 (HFT.out _ HI4.out.below) ?_
        rintro e W5 ⟨rfl, hb⟩
        have HI5 := Aside0.mk (HI4.out.step hb)
        refine ⟨_, rfl, _, nX, ⟨(HGX.out _ HI5.out.below).1, (blk_cell HI5.out.v 0).trans rfl, (blk_cell HI5.out.v 1).trans rfl, (blk_cell HI5.out.v 2).trans rfl, (blk_cell HI5.out.v 3).trans rfl, (blk_cell HI5.out.v 4).trans rfl⟩, fun hHeld => ?_⟩
        clear hb
        refine pX HT_ 6 127 37 ?_
        refine pX HT_ 7 255 30 ?_
        refine eX HT_ ?_
        clear HT_ HW_ hHeld
        go_wp2
        have HI6 := Aside0.mk (HI5.out.step (below_drew1 (Below.refl _ _)))
        refine sX (ds := [6]) (S := fun w' => w'.cell? ad = some (.string a.f0) ∧ w'.cell? ⟨W1.heap.size, 0, none⟩ = some (.int .i64 v.f0) ∧ w'.cell? ⟨W1.heap.size, 1, none⟩ = some (.int .i64 v.f1) ∧ w'.cell? ⟨W1.heap.size, 2, none⟩ = some (.int .i64 v.f2) ∧ w'.cell? ⟨W1.heap.size, 3, none⟩ = some (.string v.f3) ∧ w'.cell? ⟨W1.heap.size, 4, none⟩ = some (.string v.f4)) rq8.tab8 rq8.bits8 ⟨(HGX.out _ HI6.out.below).1, (blk_cell HI6.out.v 0).trans rfl, (blk_cell HI6.out.v 1).trans rfl, (blk_cell HI6.out.v 2).trans rfl, (blk_cell HI6.out.v 3).trans rfl, (blk_cell HI6.out.v 4).trans rfl⟩ (fun HT_ HW_ hHeld => ?_)
        generalize W5.drew = W6 at HI6 hHeld ⊢
        refine pX HT_ 0 1 41 ?_
        refine pX HT_ 1 3 42 ?_
        refine pX HT_ 2 7 43 ?_
        refine tX HT_ HW_ hHeld 3 15 44 ?_
        refine tX HT_ HW_ hHeld 4 31 45 ?_
        refine pX HT_ 5 63 46 ?_
        refine lX HT_ 6 127 none (fun K hK => ?_)
        refine store_K (by kernel_rfl) rfl 25 (.tmp 2) (.tmp 46) rfl 0 (rqv ⟨a.f0, v⟩).toList HI6.out.r rfl rfl rfl (by kernel_rfl) (show 0 + 6 ≤ 6 by decide) (by simp [Value.oneCell']) rfl ?_
        intro Wb hn hg
        have HR := Aside0.mk hn
        have HBB := Aside0.mk (HI6.out.below.grown hg HI6.out.below.size (fun k hk => by cases hk; exact Nat.le_refl _))
        clear hn hg
        refine hK.out _ _ ?_
        clear hK K
        refine pX HT_ 7 255 3 ?_
        refine eX HT_ ?_
        clear HT_ HW_ hHeld
        go_wp2
        refine bodyPost_ret (results_ct rfl _ _ w.heap.size 25 (rqv ⟨a.f0, v⟩) (0, 0) _ rfl HR.out Tryz.underlying25 rfl (by kernel_rfl)) rfl ?_
        exact ⟨by rw [HE.out]; rfl, HBB.out⟩
end Go.Proofs.YtmbpefnhkimplaaGreatDoor
end

section
namespace Go.Proofs.YtmbpefnhkimplaaGreatDoor
open Go Go.RowKit Go.Sort Go.Maps Go.Proofs Go.Proofs.YtmbpefnhkimplaaGreatDoorW.PrintWords Go.Proofs.YtmbpefnhkimplaaGreatDoorW.PrintLast Go.Proofs.YtmbpefnhkimplaaGreatDoor.K0 Go.Proofs.YtmbpefnhkimplaaGreatDoor.R1 Go.Proofs.YtmbpefnhkimplaaGreatDoor.R2
set_option linter.unusedVariables false
set_option linter.unusedSimpArgs false
def shapeOf (x : Wd) : List UInt8 := if (x.f0.toList == [61, 62]) = true then [61] else if Lib.contains [40, 41, 91, 93, 44] x.f0.data.toList = true then x.f0.data.toList else [120]
def shapeW (ws : List Wd) : List UInt8 := ws.flatMap shapeOf
theorem shapeOf_len {x : Wd} (h : x.f0.size ≤ 400000) : (shapeOf x).length ≤ 400000 := by
  rw [Lib.size_eq] at h
  unfold shapeOf
  split
  · decide
  · split
    · exact h
    · decide
theorem shapeW_len : ∀ {ws : List Wd}, (∀ x ∈ ws, x.f0.size ≤ 400000) → (shapeW ws).length ≤ 400000 * ws.length
  | [], _ => Nat.le_refl _
  | x :: l, h => by
    have ih := shapeW_len (ws := l) fun y hy => h y (List.mem_cons_of_mem _ hy)
    have h1 := shapeOf_len (h x List.mem_cons_self)
    unfold shapeW at ih ⊢
    rw [List.flatMap_cons, List.length_append, List.length_cons]; omega
theorem shapeW_take {ws : List Wd} {k : Nat} {x : Wd} (h : ws[k]? = some x) : shapeW (ws.take (k + 1)) = shapeW (ws.take k) ++ shapeOf x := by
  unfold shapeW
  rw [List.take_add_one, h, List.flatMap_append]
  simp
set_option maxRecDepth 100000 in
set_option maxHeartbeats 4000000 in
theorem shape_calls (ws : List Wd) (hsz : ∀ x ∈ ws, x.f0.size ≤ 400000) (hlen : ws.length ≤ 900000) (A : Option Addr) (c : Nat) (w : World) (hG : GW w) (hC : Kd.C k159 w A ws.length ws) :
    Calls Tryz.prog 128 #[.slice A ws.length c] w fun e w' => e = .returned (.string (ba (shapeW ws))) ∧ Below w.heap.size w w' := by
  obtain ⟨n, hn⟩ : ∃ n, n = ws.length := ⟨_, rfl⟩
  rw [← hn] at hlen hC ⊢
  have HCO : Aside0 (∀ W, Below w.heap.size w W → ∀ y : ByteArray, Calls Tryz.prog 162 #[.string ⟨#[40, 41, 91, 93, 44]⟩, .string y] W fun e w' => e = .returned (.bool (Lib.contains [40, 41, 91, 93, 44] y.data.toList)) ∧ w' = W) := ⟨fun W h y => by
    obtain ⟨m, hm⟩ := (hG.below h).maxLen
    exact Tryz.strings_Contains ⟨#[40, 41, 91, 93, 44]⟩ y m W (by decide) hm⟩
  have HN := Aside0.mk hn
  have HC := Aside0.mk hC
  have HSZ := Aside0.mk hsz
  have HLE0 : Aside0 (∀ k, (shapeW (ws.take k)).length ≤ 400000 * 900000) := ⟨fun k => by
    have h1 := shapeW_len (ws := ws.take k) (fun x hx => hsz x (List.mem_of_mem_take hx))
    have h2 : (ws.take k).length ≤ 900000 := by rw [List.length_take]; omega
    omega⟩
  clear hn hC hG hsz
  go_enter Tryz.func128, Tryz.ntmps128
  go_wp2
  go_loopg [8] n (fun gg v8 wr => ∃ kk : Nat, kk ≤ n ∧ n - kk ≤ gg ∧ v8 = .int .i64 kk ∧ Aside0 (IsB w.heap.size w.heap.size (Lib.byteCells (shapeW (ws.take kk))) wr) ∧ Aside0 (Below w.heap.size w wr))
  case atStart => exact ⟨0, Nat.zero_le _, by omega, rfl, ⟨isB_new w⟩, ⟨below_alloc (Below.refl _ _) _⟩⟩
  case round =>
    obtain ⟨kk, hkk, hg, rfl, HI, HB⟩ := hrel
    by_cases hlt : kk < n
    · have hltz : (kk : Int) < (n : Int) := by omega
      obtain ⟨x, hx⟩ : ∃ x, ws[kk]? = some x := ⟨_, List.getElem?_eq_getElem (by have := HN.out; omega)⟩
      obtain ⟨ad, hA, h0, h1⟩ := words_at (Kd.C_below HC.out HB.out) kk hlt hx
      subst hA
      have HX := Aside0.mk (HSZ.out x (List.mem_of_getElem? hx))
      have HT := Aside0.mk (shapeW_take hx)
      have HLE := Aside0.mk (HLE0.out kk)
      unfold shapeOf at HT
      clear hx
      cases c1 : (x.f0.toList == [61, 62]) with
      | true =>
        rw [c1, if_pos rfl] at HT
        have HWR := Aside0.mk (fun W (h : IsB w.heap.size w.heap.size (Lib.byteCells (shapeW (ws.take kk))) W) (h2 : w.heap.size ≤ W.heap.size) => (bld_write w.heap.size w.heap.size _ (⟨#[61]⟩ : ByteArray) W h (by rw [Lib.byteCells_length]; have := HLE.out; have := HX.out; rw [show (⟨#[61]⟩ : ByteArray).size = 1 from rfl]; omega) h2))
        rw [strCells_bytes] at HWR
        go_wp2_with (first | (go_at_call 73; (with_reducible refine (HWR.out _ (HI.out.below (below_alloc (Below.refl _ _) (.cells #[.string x.f0, .int .i64 x.f1] 159))) (below_alloc HB.out (.cells #[.string x.f0, .int .i64 x.f1] 159)).size).mono ?_); rintro e w3 ⟨rfl, hi3, hb3⟩; have HI3 := Aside0.mk hi3; have HB3 := Aside0.mk ((below_alloc HB.out (.cells #[.string x.f0, .int .i64 x.f1] 159)).trans hb3); clear hi3 hb3) | (go_at_call 162; (with_reducible refine (HCO.out _ (below_alloc HB.out (.cells #[.string x.f0, .int .i64 x.f1] 159))).mono ?_); rintro e w4 ⟨rfl, rfl⟩))
        go_roundg (n - (kk + 1))
        case measure => omega
        case rel => exact ⟨kk + 1, by omega, by omega, by go_num, ⟨by rw [HT.out]; exact HI3.out⟩, HB3⟩
      | false =>
        rw [c1, if_neg Bool.false_ne_true] at HT
        replace HCO := Aside0.mk (fun W h => HCO.out W h x.f0)
        cases c2 : Lib.contains [40, 41, 91, 93, 44] x.f0.data.toList with
        | true =>
          rw [c2, if_pos rfl] at HT
          rw [c2] at HCO
          have HWR := Aside0.mk (fun W (h : IsB w.heap.size w.heap.size (Lib.byteCells (shapeW (ws.take kk))) W) (h2 : w.heap.size ≤ W.heap.size) => (bld_write w.heap.size w.heap.size _ x.f0 W h (by rw [Lib.byteCells_length]; have := HLE.out; have := HX.out; omega) h2))
          rw [strCells_bytes] at HWR
          go_wp2_with (first | (go_at_call 73; (with_reducible refine (HWR.out _ (HI.out.below (below_alloc (Below.refl _ _) (.cells #[.string x.f0, .int .i64 x.f1] 159))) (below_alloc HB.out (.cells #[.string x.f0, .int .i64 x.f1] 159)).size).mono ?_); rintro e w3 ⟨rfl, hi3, hb3⟩; have HI3 := Aside0.mk hi3; have HB3 := Aside0.mk ((below_alloc HB.out (.cells #[.string x.f0, .int .i64 x.f1] 159)).trans hb3); clear hi3 hb3) | (go_at_call 162; (with_reducible refine (HCO.out _ (below_alloc HB.out (.cells #[.string x.f0, .int .i64 x.f1] 159))).mono ?_); rintro e w4 ⟨rfl, rfl⟩))
          go_roundg (n - (kk + 1))
          case measure => omega
          case rel => exact ⟨kk + 1, by omega, by omega, by go_num, ⟨by rw [HT.out]; exact HI3.out⟩, HB3⟩
        | false =>
          rw [c2, if_neg Bool.false_ne_true] at HT
          rw [c2] at HCO
          have HWR := Aside0.mk (fun W (h : IsB w.heap.size w.heap.size (Lib.byteCells (shapeW (ws.take kk))) W) (h2 : w.heap.size ≤ W.heap.size) => (bld_write w.heap.size w.heap.size _ (⟨#[120]⟩ : ByteArray) W h (by rw [Lib.byteCells_length]; have := HLE.out; have := HX.out; rw [show (⟨#[120]⟩ : ByteArray).size = 1 from rfl]; omega) h2))
          rw [strCells_bytes] at HWR
          go_wp2_with (first | (go_at_call 73; (with_reducible refine (HWR.out _ (HI.out.below (below_alloc (Below.refl _ _) (.cells #[.string x.f0, .int .i64 x.f1] 159))) (below_alloc HB.out (.cells #[.string x.f0, .int .i64 x.f1] 159)).size).mono ?_); rintro e w3 ⟨rfl, hi3, hb3⟩; have HI3 := Aside0.mk hi3; have HB3 := Aside0.mk ((below_alloc HB.out (.cells #[.string x.f0, .int .i64 x.f1] 159)).trans hb3); clear hi3 hb3) | (go_at_call 162; (with_reducible refine (HCO.out _ (below_alloc HB.out (.cells #[.string x.f0, .int .i64 x.f1] 159))).mono ?_); rintro e w4 ⟨rfl, rfl⟩))
          go_roundg (n - (kk + 1))
          case measure => omega
          case rel => exact ⟨kk + 1, by omega, by omega, by go_num, ⟨by rw [HT.out]; exact HI3.out⟩, HB3⟩
    · have hltz : ¬ (kk : Int) < (n : Int) := by omega
      obtain rfl : kk = n := by omega
      have htk : ws.take kk = ws := List.take_of_length_le (by have := HN.out; omega)
      rw [htk] at HI
      have hstr := fun W (h : IsB w.heap.size w.heap.size (Lib.byteCells (shapeW ws)) W) (h2 : w.heap.size ≤ W.heap.size) => bld_string w.heap.size w.heap.size (shapeW ws) W h h2
      clear htk
      go_wp2_with (go_at_call 75; (with_reducible refine (hstr _ HI.out HB.out.size).mono ?_); rintro e w2 ⟨rfl, hb2⟩)
      go_ret
      exact ⟨rfl, HB.out.trans hb2⟩
end Go.Proofs.YtmbpefnhkimplaaGreatDoor
end
