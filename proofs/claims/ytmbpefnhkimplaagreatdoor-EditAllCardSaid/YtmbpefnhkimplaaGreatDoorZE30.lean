/- The texts MnLine in one file, without what these claims do not use (put together by prune2.py). -/
import Derived.Test.YtmbpefnhkimplaaGreatDoorZE29
section
namespace Go.Proofs.YtmbpefnhkimplaaGreatDoor
open Go Go.RowKit Go.Sort Go.Maps Go.Proofs Go.Proofs.YtmbpefnhkimplaaGreatDoorW.PrintWords Go.Proofs.YtmbpefnhkimplaaGreatDoorW.PrintLast Go.Proofs.YtmbpefnhkimplaaGreatDoor.K0 Go.Proofs.YtmbpefnhkimplaaGreatDoor.R1 Go.Proofs.YtmbpefnhkimplaaGreatDoor.R2 Go.Proofs.YtmbpefnhkimplaaGreatDoor.RC
set_option linter.unusedVariables false
set_option linter.unusedSimpArgs false
/-- A line. -/
def lineP (x : Ps) (ws : List Wd) : Ps × Int := match ws with
  | [] => (x, 0)
  | a :: l => if x.block.toList.isEmpty = false then (if l.isEmpty && (a.f0.toList == [41]) then ({ x with block := ⟨#[]⟩ }, 0) else stmtP x x.block (a :: l))
    else if decide (l.length = 1) && ((wAt l 0).f0.toList == [40]) && blockK (verbK a.f0.data.toList) then ({ x with block := a.f0 }, 0) else stmtP x a.f0 l
theorem vb_cells {w : World} {k : Nat} {v : Value} (h : vbL w k v) : ∃ sl fv, v = .agg #[sl, .bool (blockK k), fv] := by
  rcases h with ⟨_, ad, rfl, _⟩ | ⟨h, rfl⟩
  · exact ⟨_, _, rfl⟩
  · exact ⟨.slice none 0 0, .nilFunc, by unfold blockK; rw [decide_eq_false (show ¬ k ≤ 5 by omega), Bool.and_false]⟩
/-- A call of a Go function behind which nothing is shown. -/
theorem gL {P : Program} {ops : Array Oper} {Q : Exit → Act → World → Prop} {S : World → Prop} {T : Bool × List (List Nat × List Nat)} {ds : List Nat} {n m fuel : Nat} {a : Act} {w : World} (HT : Aside0 (rtab .any ops = T)) (i m' d : Nat) {oi : Oper} {f : FuncId} {fn : Func} {xs : Array Operand} {ts : Array TypeId} (hf : P.funcs[f]? = some fn) {args : Array Value} {R : Ending → World → Prop} (C : Calls P f args w R)
    (h : ∀ e w', R e w' → ∃ v, e = .returned v ∧ ∃ a', a.put (some d) v = a' ∧ wpAnyLast P .any ops Q S ds fuel (bitsA n m') a' w')
    (hi : ops[i]? = some oi := by rfl) (hN : oi.dst = some d := by rfl) (hop : oi.op = .call { callee := .value (.func f), args := xs, argTypes := ts } := by rfl) (hname : (fn.name == "runtime.NumGoroutine") = false := by kernel_rfl) (hb : fn.body.isSome = true := by rfl)
    (hw : Region.wanted oi (yielded ops a.tmps) = true := by kernel_rfl) (hargs : xs.map a.eval = args := by ((try simp only [List.map_toArray, List.map_cons, List.map_nil]); first | done | rfl))
    (hc : (readyT T.2 (bitsA n m).toList == [i] && (bitsA n m).toList.set i true == (bitsA n m').toList) = true := by kernel_rfl) (hd : i ∈ ds := by decide) : wpAnyLast P .any ops Q S ds (fuel + 1) (bitsA n m) a w :=
  lX HT i m' (some d) (fun K hK => goes_ hf hname hb args hw hN hop hargs (C.mono fun e w' hr => by
    obtain ⟨v, rfl, a', ha, hh⟩ := h e w' hr
    exact ⟨v, rfl, hK.out _ _ (by rw [ha]; exact hh)⟩)) hi hN hc hd
def ln8.T8 : Bool × List (List Nat × List Nat) := (true, [([], []), ([0], [0]), ([1], [1]), ([2], [2]), ([3], [3]), ([4, 3], [3, 4]), ([5, 3], [3, 5]), ([6, 3], [3, 6]), ([7, 3], [3, 7]), ([3, 8], [3, 8]), ([9, 3], [9]), ([10, 10], [10]), ([10], [10]), ([12, 10], [10, 12]), ([13, 10], [10, 13]), ([14, 10], [10, 14]), ([11, 15, 10], [10, 11, 15]), ([16, 10], [10, 16]), ([10, 17], [10, 17]), ([18, 11], [18])])
def ln8.B8 : List Nat := [0, 1, 3, 7, 15, 31, 63, 127, 255, 511, 1023, 2047, 2047, 6143, 14335, 30719, 65535, 131071, 262143, 524287]
theorem ln8.tab8 : rtab .any (opsOf Tryz.f77 8) = ln8.T8 := by kernel_rfl
theorem ln8.bits8 : waitsOk ln8.T8.2 ln8.B8 = true := by kernel_rfl
def ln11.T11 : Bool × List (List Nat × List Nat) := (true, [([], []), ([], []), ([1], [1]), ([2], [2]), ([3], [3]), ([], []), ([5], [5]), ([0, 4, 6], [0, 4, 6]), ([7, 7, 0, 1, 2, 3, 4, 5, 6, 7], [7])])
def ln11.B11 : List Nat := [0, 0, 2, 6, 14, 0, 32, 127, 255]
theorem ln11.tab11 : rtab .any (opsOf Tryz.f77 11) = ln11.T11 := by kernel_rfl
theorem ln11.bits11 : waitsOk ln11.T11.2 ln11.B11 = true := by kernel_rfl
set_option maxRecDepth 100000 in
set_option maxHeartbeats 4000000 in
theorem line_in (w0 w1 : World) (P : Nat) (p : PVals) (x : Ps) (a : Wd) (l : List Wd) (hbk : x.block.toList.isEmpty = false) (hsh : (l.isEmpty && (a.f0.toList == [41])) = false) (A : Option Addr) (c : Nat) (w : World) (hI : PsIs w0 w1 P p x w) (hC : Kd.C k159 w A (a :: l).length (a :: l))
    (hst : ∀ W, PsIs w0 w1 P p x W → Below w.heap.size w W → Calls Tryz.prog 99 #[.pointer (some ⟨P, 0, none⟩), .string x.block, .slice A (a :: l).length c] W fun e w' => e = .returned (errV (stmtP x x.block (a :: l)).2) ∧ ∃ p', p'.m = p.m ∧ PsIs w0 w1 P p' (stmtP x x.block (a :: l)).1 w') :
    Calls Tryz.prog 77 #[.pointer (some ⟨P, 0, none⟩), .slice A (a :: l).length c] w fun e w' => e = .returned (errV (lineP x (a :: l)).2) ∧ ∃ p', p'.m = p.m ∧ PsIs w0 w1 P p' (lineP x (a :: l)).1 w' := by
  have HE : Aside0 (lineP x (a :: l) = stmtP x x.block (a :: l)) := ⟨by unfold lineP; simp only [hbk, hsh]; rfl⟩
  obtain ⟨ad, rfl, _⟩ := words_at hC 0 (by simp) (x := a) rfl
  have HGX : Aside0 (∀ W, Below w.heap.size w W → W.cell? ad = some (.string a.f0)) := ⟨fun W h => by
    obtain ⟨ad1, e1, p1, _⟩ := words_at (Kd.C_below hC h) 0 (by simp) (x := a) rfl
    obtain rfl := Option.some.inj e1
    exact p1⟩
  generalize lineP x (a :: l) = ro at HE ⊢
  have x6 := hI.cells.2.2.2.2.2.2.1
  have g0 := HGX.out _ (Below.refl _ _)
  have HI := Aside0.mk hI
  have HST := Aside0.mk hst
  have hbn : (x.block.toList == []) = false := by rw [← Bool.not_eq_true]; intro h; rw [List.isEmpty_iff.2 (by simpa using h)] at hbk; cases hbk
  by_cases hl : l = []
  · subst hl
    have ha : (a.f0.toList == [41]) = false := by simpa using hsh
    clear hC hI hsh hst
    go_enter Tryz.func77, Tryz.ntmps77
    go_wp2_with (go_at_call 99; refine (HST.out _ HI.out (Below.refl _ _)).mono ?_; rintro e w' ⟨rfl, p', hp', hI'⟩)
    go_ret
    exact ⟨by rw [HE.out]; rfl, p', hp', by rw [HE.out]; exact hI'⟩
  · obtain ⟨n, hn⟩ : ∃ n, n = (a :: l).length := ⟨_, rfl⟩
    have hn2 : 2 ≤ n := by rw [hn]; have := List.length_pos_iff.2 hl; simp; omega
    rw [← hn] at HST ⊢
    have hn0 : ((n : Int) == 0) = false := by simp; omega
    have hn1 : ((n : Int) == 1) = false := by simp; omega
    clear hC hI hsh hst hn hn2 hl
    go_enter Tryz.func77, Tryz.ntmps77
    go_wp2_with (go_at_call 99; refine (HST.out _ HI.out (Below.refl _ _)).mono ?_; rintro e w' ⟨rfl, p', hp', hI'⟩)
    go_ret
    exact ⟨by rw [HE.out]; rfl, p', hp', by rw [HE.out]; exact hI'⟩
set_option maxRecDepth 100000 in
set_option maxHeartbeats 4000000 in
theorem line_shut (w0 w1 : World) (P : Nat) (p : PVals) (x : Ps) (a : Wd) (hbk : x.block.toList.isEmpty = false) (ha : (a.f0.toList == [41]) = true) (A : Option Addr) (c : Nat) (w : World) (hI : PsIs w0 w1 P p x w) (hC : Kd.C k159 w A [a].length [a]) :
    Calls Tryz.prog 77 #[.pointer (some ⟨P, 0, none⟩), .slice A 1 c] w fun e w' => e = .returned (errV (lineP x [a]).2) ∧ ∃ p', p'.m = p.m ∧ PsIs w0 w1 P p' (lineP x [a]).1 w' := by
  have HE : Aside0 (lineP x [a] = ({ x with block := ⟨#[]⟩ }, 0)) := ⟨by unfold lineP; simp only [hbk, ha]; rfl⟩
  obtain ⟨ad, rfl, _⟩ := words_at hC 0 (by simp) (x := a) rfl
  have HGX : Aside0 (∀ W, Below w.heap.size w W → W.cell? ad = some (.string a.f0)) := ⟨fun W h => by
    obtain ⟨ad1, e1, p1, _⟩ := words_at (Kd.C_below hC h) 0 (by simp) (x := a) rfl
    obtain rfl := Option.some.inj e1
    exact p1⟩
  generalize lineP x [a] = ro at HE ⊢
  have x6 := hI.cells.2.2.2.2.2.2.1
  have g0 := HGX.out _ (Below.refl _ _)
  have HI := Aside0.mk hI
  have hbn : (x.block.toList == []) = false := by rw [← Bool.not_eq_true]; intro h; rw [List.isEmpty_iff.2 (by simpa using h)] at hbk; cases hbk
  clear hC hI
  go_enter Tryz.func77, Tryz.ntmps77
  go_wp2_with ((with_reducible refine gate_ (.store 9 (.tmp 29) (.const (.string ⟨#[]⟩))) rfl ?_); refine store_ev 9 (.tmp 29) (.const (.string ⟨#[]⟩)) rfl rfl rfl 6 [.string ⟨#[]⟩] HI.out.blk rfl rfl rfl (by kernel_rfl) (show 6 + 1 ≤ 9 by decide) (by simp [Value.oneCell']) rfl ?_; intro W9 hn hg; have HZ := Aside0.mk (HI.out.put (x' := { x with block := ⟨#[]⟩ }) hn hg rfl rfl rfl rfl rfl); clear hn hg)
  go_ret
  exact ⟨by rw [HE.out]; rfl, p, rfl, by rw [HE.out]; exact HZ.out⟩
set_option maxRecDepth 100000 in
set_option maxHeartbeats 4000000 in
theorem line_open (w0 w1 : World) (P : Nat) (p : PVals) (x : Ps) (a b : Wd) (hbk : x.block.toList.isEmpty = true) (hb : (b.f0.toList == [40]) = true) (hk : blockK (verbK a.f0.data.toList) = true) (has : a.f0.size ≤ 400000) (A : Option Addr) (c : Nat) (w : World) (hI : PsIs w0 w1 P p x w) (hC : Kd.C k159 w A [a, b].length [a, b]) :
    Calls Tryz.prog 77 #[.pointer (some ⟨P, 0, none⟩), .slice A 2 c] w fun e w' => e = .returned (errV (lineP x [a, b]).2) ∧ ∃ p', p'.m = p.m ∧ PsIs w0 w1 P p' (lineP x [a, b]).1 w' := by
  have HE : Aside0 (lineP x [a, b] = ({ x with block := a.f0 }, 0)) := ⟨by unfold lineP; simp only [hbk, hk, wAt, List.getD_cons_zero, hb]; rfl⟩
  obtain ⟨ad, rfl, _⟩ := words_at hC 0 (by simp) (x := a) rfl
  have HGX : Aside0 (∀ W, Below w.heap.size w W → W.cell? ad = some (.string a.f0)) := ⟨fun W h => by
    obtain ⟨ad1, e1, p1, _⟩ := words_at (Kd.C_below hC h) 0 (by simp) (x := a) rfl
    obtain rfl := Option.some.inj e1
    exact p1⟩
  have HGY : Aside0 (∀ W, Below w.heap.size w W → W.cell? ad = some (.string a.f0) ∧ W.cell? ⟨ad.block, ad.off + 2, none⟩ = some (.string b.f0)) := ⟨fun W h => by
    obtain ⟨ad2, e2, p2, _⟩ := words_at (Kd.C_below hC h) 1 (by simp) (x := b) rfl
    obtain rfl := Option.some.inj e2
    exact ⟨HGX.out W h, p2⟩⟩
  generalize lineP x [a, b] = ro at HE ⊢
  have x6 := hI.cells.2.2.2.2.2.2.1
  have HI := Aside0.mk hI
  have hbe : x.block.toList = [] := List.isEmpty_iff.1 hbk
  have HVS : Aside0 (a.f0.size ≤ maxLen) := ⟨by unfold maxLen; omega⟩
  clear hC hI has
  go_enter Tryz.func77, Tryz.ntmps77
  go_wp2
  have HI8 := Aside0.mk (HI.out.step (below_drew1 (Below.refl _ _)))
  have HB8 := Aside0.mk (below_drew1 (Below.refl w.heap.size w))
  refine sX (ds := []) (S := fun w' => w'.cell? ad = some (.string a.f0) ∧ w'.cell? ⟨ad.block, ad.off + 2, none⟩ = some (.string b.f0)) ln8.tab8 ln8.bits8 (HGY.out _ HB8.out) (fun HT_ HW_ hHeld => ?_)
  generalize w.drew = W8 at HI8 HB8 hHeld ⊢
  refine pX HT_ 0 1 44 ?_
  refine pX HT_ 1 3 45 ?_
  refine pX HT_ 2 7 46 ?_
  refine pX HT_ 3 15 47 ?_
  refine pX HT_ 4 31 48 ?_
  refine pX HT_ 5 63 49 ?_
  refine pX HT_ 6 127 50 ?_
  refine tX HT_ HW_ hHeld 7 255 51 ?_
  refine pX HT_ 8 511 52 ?_
  refine pX HT_ 9 1023 53 ?_
  refine pX HT_ 10 2047 54 ?_
  refine pX HT_ 12 6143 56 ?_
  refine pX HT_ 13 14335 57 ?_
  refine pX HT_ 14 30719 58 ?_
  refine tX HT_ HW_ hHeld 15 63487 59 ?_
  refine gX HT_ 11 65535 55 Tryz.func100 (verbs_calls W8) ?_
  rintro e W9 ⟨M, rfl, hb, hV⟩
  obtain ⟨vv, _, hl2, hvl⟩ := hV.look a.f0 HVS.out
  have HI9 := Aside0.mk (HI8.out.step hb)
  have HB9 := Aside0.mk (below_step HB8.out hb)
  refine ⟨_, rfl, _, nX, HGY.out _ HB9.out, fun hHeld => ?_⟩
  clear hb hV
  obtain ⟨sl, fv, rfl⟩ := vb_cells hvl
  have hfd : ∀ W, (Instr.field 163 (.agg #[sl, .bool true, fv]) 1).run Tryz.prog W = .ok (.bool true) W := fun W => by kernel_rfl
  rw [hk] at hl2
  refine oX HT_ 16 131071 (some 60) (fun K hK => ?_)
  refine value_ (v := .agg #[sl, .bool true, fv]) (by kernel_rfl) rfl (by go_simp; first | exact ⟨rfl, rfl⟩ | rfl) ?_
  refine hK.out _ _ hHeld (fun hHeld => ?_)
  clear hK K
  refine norm_ nX ?_
  refine pX HT_ 17 262143 61 ?_
  refine pX HT_ 18 524287 62 ?_
  refine pX HT_ 19 1048575 43 ?_
  refine eX HT_ ?_
  clear HT_ HW_ hHeld hl2 hvl hfd
  have g9 := (HGY.out _ HB9.out).1
  go_wp2_with ((with_reducible refine gate_ (.store 9 (.tmp 69) (.tmp 67)) rfl ?_); refine store_ev 9 (.tmp 69) (.tmp 67) rfl rfl rfl 6 [.string a.f0] HI9.out.blk rfl rfl rfl (by kernel_rfl) (show 6 + 1 ≤ 9 by decide) (by simp [Value.oneCell']) rfl ?_; intro W9 hn hg; have HZ := Aside0.mk (HI9.out.put (x' := { x with block := a.f0 }) hn hg rfl rfl rfl rfl rfl); clear hn hg)
  go_ret
  exact ⟨by rw [HE.out]; rfl, p, rfl, by rw [HE.out]; exact HZ.out⟩
set_option maxRecDepth 100000 in
set_option maxHeartbeats 4000000 in
theorem line_out (w0 w1 : World) (P : Nat) (p : PVals) (x : Ps) (a : Wd) (l : List Wd) (hbk : x.block.toList.isEmpty = true) (hno : (decide (l.length = 1) && ((wAt l 0).f0.toList == [40]) && blockK (verbK a.f0.data.toList)) = false) (has : a.f0.size ≤ 400000) (A : Option Addr) (c : Nat) (w : World) (hI : PsIs w0 w1 P p x w) (hC : Kd.C k159 w A (a :: l).length (a :: l))
    (hst : ∀ W, PsIs w0 w1 P p x W → Below w.heap.size w W → Calls Tryz.prog 99 #[.pointer (some ⟨P, 0, none⟩), .string a.f0, .slice (if c = 1 then A else A.map (·.add 2)) l.length (c - 1)] W fun e w' => e = .returned (errV (stmtP x a.f0 l).2) ∧ ∃ p', p'.m = p.m ∧ PsIs w0 w1 P p' (stmtP x a.f0 l).1 w') :
    Calls Tryz.prog 77 #[.pointer (some ⟨P, 0, none⟩), .slice A (a :: l).length c] w fun e w' => e = .returned (errV (lineP x (a :: l)).2) ∧ ∃ p', p'.m = p.m ∧ PsIs w0 w1 P p' (lineP x (a :: l)).1 w' := by
  have HE : Aside0 (lineP x (a :: l) = stmtP x a.f0 l) := ⟨by unfold lineP; simp only [hbk, hno]; rfl⟩
  obtain ⟨i9, hi9, he9⟩ := Option.map_eq_some_iff.1 info159
  have hsl := cut_from (P := Tryz.prog) 140 159 .i64 Tryz.underlying140 hi9 2 (Prod.mk.inj (Prod.mk.inj he9).2).1 A (a :: l).length c 1 (by decide) (by simp; omega)
  rw [show (a :: l).length - (1 : Int).toNat = l.length by simp] at hsl
  clear hi9 he9
  replace hsl : ∀ W : World, (Instr.slice 140 (.slice A (a :: l).length c) (some (.int .i64 1)) none none).run Tryz.prog W = .ok (.slice (if c = 1 then A else A.map (·.add 2)) l.length (c - 1)) W := hsl
  obtain ⟨ad, rfl, _⟩ := words_at hC 0 (by simp) (x := a) rfl
  have HGX : Aside0 (∀ W, Below w.heap.size w W → W.cell? ad = some (.string a.f0)) := ⟨fun W h => by
    obtain ⟨ad1, e1, p1, _⟩ := words_at (Kd.C_below hC h) 0 (by simp) (x := a) rfl
    obtain rfl := Option.some.inj e1
    exact p1⟩
  generalize lineP x (a :: l) = ro at HE ⊢
  have x6 := hI.cells.2.2.2.2.2.2.1
  have HI := Aside0.mk hI
  have HST := Aside0.mk hst
  have hbe : x.block.toList = [] := List.isEmpty_iff.1 hbk
  have HVS : Aside0 (a.f0.size ≤ maxLen) := ⟨by unfold maxLen; omega⟩
  generalize (if c = 1 then some ad else (some ad).map (·.add 2)) = A' at hsl HST
  have HB0 := Aside0.mk (Below.refl w.heap.size w)
  by_cases hl : l.length = 1
  · obtain ⟨b, rfl⟩ := List.length_eq_one_iff.1 hl
    have HGY : Aside0 (∀ W, Below w.heap.size w W → W.cell? ad = some (.string a.f0) ∧ W.cell? ⟨ad.block, ad.off + 2, none⟩ = some (.string b.f0)) := ⟨fun W h => by
      obtain ⟨ad2, e2, p2, _⟩ := words_at (Kd.C_below hC h) 1 (by simp) (x := b) rfl
      obtain rfl := Option.some.inj e2
      exact ⟨HGX.out W h, p2⟩⟩
    replace hsl : ∀ W : World, (Instr.slice 140 (.slice (some ad) 2 c) (some (.int .i64 1)) none none).run Tryz.prog W = .ok (.slice A' 1 (c - 1)) W := hsl
    cases hb : b.f0.toList == [40] with
    | false =>
      clear hC hI has hst hno hl
      go_enter Tryz.func77, Tryz.ntmps77
      go_wp2
      have HI8 := Aside0.mk (HI.out.step (below_drew1 (Below.refl _ _)))
      have HB8 := Aside0.mk (below_drew1 (Below.refl w.heap.size w))
      refine sX (ds := []) (S := fun w' => w'.cell? ad = some (.string a.f0) ∧ w'.cell? ⟨ad.block, ad.off + 2, none⟩ = some (.string b.f0)) ln8.tab8 ln8.bits8 (HGY.out _ HB8.out) (fun HT_ HW_ hHeld => ?_)
      generalize w.drew = W8 at HI8 HB8 hHeld ⊢
      refine pX HT_ 0 1 44 ?_
      refine pX HT_ 1 3 45 ?_
      refine pX HT_ 2 7 46 ?_
      refine pX HT_ 3 15 47 ?_
      refine pX HT_ 4 31 48 ?_
      refine pX HT_ 5 63 49 ?_
      refine pX HT_ 6 127 50 ?_
      refine tX HT_ HW_ hHeld 7 255 51 ?_
      refine pX HT_ 8 511 52 ?_
      refine pX HT_ 9 1023 53 ?_
      refine pX HT_ 10 2047 54 ?_
      refine fX HT_ 11 4095 55 ?_
      refine fX HT_ 12 8191 56 ?_
      refine fX HT_ 13 16383 57 ?_
      refine fX HT_ 14 32767 58 ?_
      refine fX HT_ 15 65535 59 ?_
      refine fX HT_ 16 131071 60 ?_
      refine fX HT_ 17 262143 61 ?_
      refine pX HT_ 18 524287 62 ?_
      refine pX HT_ 19 1048575 43 ?_
      refine eX HT_ ?_
      clear HT_ HW_ hHeld
      go_wp2
      have HI11 := Aside0.mk (HI8.out.step (below_drew1 (Below.refl _ _)))
      have HB11 := Aside0.mk (below_step HB8.out (below_drew1 (Below.refl _ _)))
      refine sX (ds := [7]) (S := fun w' => w'.cell? ad = some (.string a.f0)) ln11.tab11 ln11.bits11 (HGX.out _ HB11.out) (fun HT_ HW_ hHeld => ?_)
      generalize W8.drew = W11 at HI11 HB11 hHeld ⊢
      refine pX HT_ 0 1 70 ?_
      refine pX HT_ 1 3 71 ?_
      refine pX HT_ 2 7 72 ?_
      refine pX HT_ 3 15 73 ?_
      refine pX HT_ 5 47 75 ?_
      refine pX HT_ 6 111 76 ?_
      refine tX HT_ HW_ hHeld 4 127 74 ?_
      refine gL HT_ 7 255 77 Tryz.func99 (HST.out W11 HI11.out HB11.out) ?_
      rintro e w' ⟨rfl, p', hp', hI'⟩
      refine ⟨_, rfl, _, nX, ?_⟩
      refine pX HT_ 8 511 4 ?_
      refine eX HT_ ?_
      clear HT_ HW_ hHeld
      go_wp2
      go_ret
      exact ⟨by rw [HE.out]; rfl, p', hp', by rw [HE.out]; exact hI'⟩
    | true =>
      have hk : blockK (verbK a.f0.data.toList) = false := by
        have h := hno
        simp only [wAt, List.getD_cons_zero, hb, Bool.and_true] at h
        simpa using h
      clear hC hI has hst hno hl
      go_enter Tryz.func77, Tryz.ntmps77
      go_wp2
      have HI8 := Aside0.mk (HI.out.step (below_drew1 (Below.refl _ _)))
      have HB8 := Aside0.mk (below_drew1 (Below.refl w.heap.size w))
      refine sX (ds := []) (S := fun w' => w'.cell? ad = some (.string a.f0) ∧ w'.cell? ⟨ad.block, ad.off + 2, none⟩ = some (.string b.f0)) ln8.tab8 ln8.bits8 (HGY.out _ HB8.out) (fun HT_ HW_ hHeld => ?_)
      generalize w.drew = W8 at HI8 HB8 hHeld ⊢
      refine pX HT_ 0 1 44 ?_
      refine pX HT_ 1 3 45 ?_
      refine pX HT_ 2 7 46 ?_
      refine pX HT_ 3 15 47 ?_
      refine pX HT_ 4 31 48 ?_
      refine pX HT_ 5 63 49 ?_
      refine pX HT_ 6 127 50 ?_
      refine tX HT_ HW_ hHeld 7 255 51 ?_
      refine pX HT_ 8 511 52 ?_
      refine pX HT_ 9 1023 53 ?_
      refine pX HT_ 10 2047 54 ?_
      refine pX HT_ 12 6143 56 ?_
      refine pX HT_ 13 14335 57 ?_
      refine pX HT_ 14 30719 58 ?_
      refine tX HT_ HW_ hHeld 15 63487 59 ?_
      refine gX HT_ 11 65535 55 Tryz.func100 (verbs_calls W8) ?_
      rintro e W9 ⟨M, rfl, hb, hV⟩
      obtain ⟨vv, _, hl2, hvl⟩ := hV.look a.f0 HVS.out
      have HI9 := Aside0.mk (HI8.out.step hb)
      have HB9 := Aside0.mk (below_step HB8.out hb)
      refine ⟨_, rfl, _, nX, HGY.out _ HB9.out, fun hHeld => ?_⟩
      clear hb hV
      obtain ⟨sl, fv, rfl⟩ := vb_cells hvl
      have hfd : ∀ W, (Instr.field 163 (.agg #[sl, .bool false, fv]) 1).run Tryz.prog W = .ok (.bool false) W := fun W => by kernel_rfl
      rw [hk] at hl2
      refine oX HT_ 16 131071 (some 60) (fun K hK => ?_)
      refine value_ (v := .agg #[sl, .bool false, fv]) (by kernel_rfl) rfl (by go_simp; first | exact ⟨rfl, rfl⟩ | rfl) ?_
      refine hK.out _ _ hHeld (fun hHeld => ?_)
      clear hK K
      refine norm_ nX ?_
      refine pX HT_ 17 262143 61 ?_
      refine pX HT_ 18 524287 62 ?_
      refine pX HT_ 19 1048575 43 ?_
      refine eX HT_ ?_
      clear HT_ HW_ hHeld hl2 hvl hfd
      go_wp2
      have HI11 := Aside0.mk (HI9.out.step (below_drew1 (Below.refl _ _)))
      have HB11 := Aside0.mk (below_step HB9.out (below_drew1 (Below.refl _ _)))
      refine sX (ds := [7]) (S := fun w' => w'.cell? ad = some (.string a.f0)) ln11.tab11 ln11.bits11 (HGX.out _ HB11.out) (fun HT_ HW_ hHeld => ?_)
      generalize W9.drew = W11 at HI11 HB11 hHeld ⊢
      refine pX HT_ 0 1 70 ?_
      refine pX HT_ 1 3 71 ?_
      refine pX HT_ 2 7 72 ?_
      refine pX HT_ 3 15 73 ?_
      refine pX HT_ 5 47 75 ?_
      refine pX HT_ 6 111 76 ?_
      refine tX HT_ HW_ hHeld 4 127 74 ?_
      refine gL HT_ 7 255 77 Tryz.func99 (HST.out W11 HI11.out HB11.out) ?_
      rintro e w' ⟨rfl, p', hp', hI'⟩
      refine ⟨_, rfl, _, nX, ?_⟩
      refine pX HT_ 8 511 4 ?_
      refine eX HT_ ?_
      clear HT_ HW_ hHeld
      go_wp2
      go_ret
      exact ⟨by rw [HE.out]; rfl, p', hp', by rw [HE.out]; exact hI'⟩
  · obtain ⟨n, hn⟩ : ∃ n, n = (a :: l).length := ⟨_, rfl⟩
    have hn1 : n ≠ 0 ∧ n ≠ 2 := by rw [hn]; simp; omega
    rw [← hn] at hsl ⊢
    have hn0 : ((n : Int) == 0) = false := by simp; omega
    have hn2 : ((n : Int) == 2) = false := by simp; omega
    have hnp : (0 : Int) < (n : Int) := by omega
    have hnn : 0 < n := by omega
    clear hC hI has hst hno hl hn hn1
    go_enter Tryz.func77, Tryz.ntmps77
    go_wp2
    have HI8 := Aside0.mk (HI.out.step (below_drew1 (Below.refl _ _)))
    have HB8 := Aside0.mk (below_drew1 (Below.refl w.heap.size w))
    refine sX (ds := []) (S := fun w' => True) ln8.tab8 ln8.bits8 trivial (fun HT_ HW_ hHeld => ?_)
    generalize w.drew = W8 at HI8 HB8 hHeld ⊢
    refine pX HT_ 0 1 44 ?_
    refine pX HT_ 1 3 45 ?_
    refine pX HT_ 2 7 46 ?_
    refine pX HT_ 3 15 47 ?_
    refine fX HT_ 4 31 48 ?_
    refine fX HT_ 5 63 49 ?_
    refine fX HT_ 6 127 50 ?_
    refine fX HT_ 7 255 51 ?_
    refine fX HT_ 8 511 52 ?_
    refine pX HT_ 9 1023 53 ?_
    refine pX HT_ 10 2047 54 ?_
    refine fX HT_ 11 4095 55 ?_
    refine fX HT_ 12 8191 56 ?_
    refine fX HT_ 13 16383 57 ?_
    refine fX HT_ 14 32767 58 ?_
    refine fX HT_ 15 65535 59 ?_
    refine fX HT_ 16 131071 60 ?_
    refine fX HT_ 17 262143 61 ?_
    refine pX HT_ 18 524287 62 ?_
    refine pX HT_ 19 1048575 43 ?_
    refine eX HT_ ?_
    clear HT_ HW_ hHeld
    go_wp2
    have HI11 := Aside0.mk (HI8.out.step (below_drew1 (Below.refl _ _)))
    have HB11 := Aside0.mk (below_step HB8.out (below_drew1 (Below.refl _ _)))
    refine sX (ds := [7]) (S := fun w' => w'.cell? ad = some (.string a.f0)) ln11.tab11 ln11.bits11 (HGX.out _ HB11.out) (fun HT_ HW_ hHeld => ?_)
    generalize W8.drew = W11 at HI11 HB11 hHeld ⊢
    refine pX HT_ 0 1 70 ?_
    refine pX HT_ 1 3 71 ?_
    refine pX HT_ 2 7 72 ?_
    refine pX HT_ 3 15 73 ?_
    refine pX HT_ 5 47 75 ?_
    refine pX HT_ 6 111 76 ?_
    refine tX HT_ HW_ hHeld 4 127 74 ?_
    refine gL HT_ 7 255 77 Tryz.func99 (HST.out W11 HI11.out HB11.out) ?_
    rintro e w' ⟨rfl, p', hp', hI'⟩
    refine ⟨_, rfl, _, nX, ?_⟩
    refine pX HT_ 8 511 4 ?_
    refine eX HT_ ?_
    clear HT_ HW_ hHeld
    go_wp2
    go_ret
    exact ⟨by rw [HE.out]; rfl, p', hp', by rw [HE.out]; exact hI'⟩
theorem WsOk.tail {a : Wd} {l : List Wd} (h : WsOk (a :: l)) : WsOk l :=
  ⟨fun y hy => h.size y (List.mem_cons_of_mem _ hy), fun y hy => h.lo y (List.mem_cons_of_mem _ hy), fun y hy => h.hi y (List.mem_cons_of_mem _ hy), fun y hy => h.one y (List.mem_cons_of_mem _ hy), by have := h.len; simp at this; omega⟩
set_option maxRecDepth 100000 in
set_option maxHeartbeats 4000000 in
theorem line_calls (w0 w1 : World) (P : Nat) (p : PVals) (x : Ps) (ws : List Wd) (hw : WsOk ws) (hx : PsOk x) (hbs : x.block.size ≤ 400000) (A : Option Addr) (c : Nat) (hc : ws.length ≤ c) (w : World) (hG : GW w0) (hI : PsIs w0 w1 P p x w) (hC : Kd.C k159 w A ws.length ws) :
    Calls Tryz.prog 77 #[.pointer (some ⟨P, 0, none⟩), .slice A ws.length c] w fun e w' => e = .returned (errV (lineP x ws).2) ∧ ∃ p', p'.m = p.m ∧ PsIs w0 w1 P p' (lineP x ws).1 w' := by
  match ws, hw, hc, hC with
  | [], _, _, _ =>
    have HI := Aside0.mk hI
    clear hI hG
    go_enter Tryz.func77, Tryz.ntmps77
    go_wp2
    go_ret
    exact ⟨rfl, p, rfl, HI.out⟩
  | a :: l, hw, hc, hC =>
    have has := hw.size a List.mem_cons_self
    cases hbk : x.block.toList.isEmpty with
    | false =>
      cases hsh : (l.isEmpty && (a.f0.toList == [41])) with
      | false => exact line_in w0 w1 P p x a l hbk hsh A c w hI hC (fun W h hb => statement_calls w0 w1 P p x x.block hbs (a :: l) hw hx A c W hG h (Kd.C_below hC hb))
      | true =>
        obtain ⟨h1, h2⟩ := Bool.and_eq_true_iff.1 hsh
        obtain rfl := List.isEmpty_iff.1 h1
        exact line_shut w0 w1 P p x a hbk h2 A c w hI hC
    | true =>
      cases hno : (decide (l.length = 1) && ((wAt l 0).f0.toList == [40]) && blockK (verbK a.f0.data.toList)) with
      | false => exact line_out w0 w1 P p x a l hbk hno has A c w hI hC (fun W h hb => statement_calls w0 w1 P p x a.f0 has l hw.tail hx _ (c - 1) W hG h (Kd.C_drop (m := 1) (Kd.C_below hC hb) (by simp) hc))
      | true =>
        obtain ⟨h1, h2⟩ := Bool.and_eq_true_iff.1 hno
        obtain ⟨h3, h4⟩ := Bool.and_eq_true_iff.1 h1
        obtain ⟨b, rfl⟩ := List.length_eq_one_iff.1 (of_decide_eq_true h3)
        exact line_open w0 w1 P p x a b hbk h4 h2 has A c w hI hC
end Go.Proofs.YtmbpefnhkimplaaGreatDoor
end
