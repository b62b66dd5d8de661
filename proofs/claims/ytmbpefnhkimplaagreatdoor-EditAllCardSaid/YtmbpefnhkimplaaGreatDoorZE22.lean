/- The texts MnPs, MnPs2 in one file, without what these claims do not use (put together by prune2.py). -/
import Derived.Test.YtmbpefnhkimplaaGreatDoorZE21
import Derived.Maps.OwnSet
section
namespace Go.Proofs.YtmbpefnhkimplaaGreatDoor
open Go Go.RowKit Go.Sort Go.Maps Go.Proofs Go.Proofs.YtmbpefnhkimplaaGreatDoorW.PrintWords Go.Proofs.YtmbpefnhkimplaaGreatDoorW.PrintLast Go.Proofs.YtmbpefnhkimplaaGreatDoor.K0 Go.Proofs.YtmbpefnhkimplaaGreatDoor.R1 Go.Proofs.YtmbpefnhkimplaaGreatDoor.R2
set_option linter.unusedVariables false
set_option linter.unusedSimpArgs false
abbrev Sw := S89
abbrev Sp := S90
/-- What the parser knows. -/
structure Ps where
  mod : ByteArray
  rel : ByteArray
  reqs : List Rq
  swaps : List Sw
  excl : List Rq
  retr : List Sp
  block : ByteArray
  fro : Int
  spots : List UInt8 → Option Int
  cnt : Nat
/-- How a spot reads. -/
def spE : Value → Option (DataW Int × List MemPlace)
  | .int .i64 n => some (.held n, [])
  | _ => none
theorem spE_mk (n : Int) : spE (.int .i64 n) = some (.held n, []) := rfl
theorem spE_inv {v : Value} {y : DataW Int × List MemPlace} (h : spE v = some y) : ∃ n : Int, v = .int .i64 n ∧ y = (.held n, []) := by
  unfold spE at h
  split at h
  · exact ⟨_, rfl, (Option.some.inj h).symm⟩
  · cases h
theorem spKey : Keyed Tryz.prog 9 := string_keyed Tryz.underlying9
structure SpIs (D : DataW Int) (b : List UInt8 → Option Int) : Prop where
  map : IsMap D
  has : ∀ p, Maps.has D (.string p) = (b p).isSome
  val : ∀ p x z, b p = some x → D.atKey (.string p) z = .held x
theorem SpIs.none : SpIs (.map []) (fun _ => Option.none) := ⟨isMap_empty, fun _ => rfl, fun _ _ _ h => by cases h⟩
theorem SpIs.put {D : DataW Int} {b : List UInt8 → Option Int} (h : SpIs D b) (p : List UInt8) (x : Int) : SpIs (D.put (.string p) (.held x)) (fun q => if p = q then some x else b q) where
  map := h.map.put _ _
  has q := by
    by_cases e : p = q
    · subst e
      rw [if_pos rfl, has_put_same h.map (show WideAt.IsKeyLit (.string p) from trivial)]; rfl
    · rw [if_neg e, has_put_other (fun e2 => e (by injection e2 with e2; exact e2.symm))]
      exact h.has q
  val q y z hq := by
    by_cases e : p = q
    · subst e
      rw [if_pos rfl] at hq
      rw [atKey_put_same h.map (show WideAt.IsKeyLit (.string p) from trivial), Option.some.inj hq]
    · rw [if_neg e] at hq
      rw [atKey_put_other (fun e2 => e (by injection e2 with e2; exact e2.symm))]
      exact h.val q y z hq
/-- Block M holds the spots. -/
structure SpAt (w : World) (M n : Nat) (b : List UInt8 → Option Int) : Prop where
  out : ∃ D, w.ownsMap Tryz.prog 9 spE M n D ∧ SpIs D b
theorem SpAt.kept {w w' : World} {M n : Nat} {b : List UInt8 → Option Int} (h : SpAt w M n b) {row : Option Nat} (hg : w.grownBy w' row) (hne : some M ≠ row) : SpAt w' M n b := by
  obtain ⟨D, h1, h2⟩ := h.out
  exact ⟨D, h1.kept hg hne, h2⟩
/-- The parser's own slices and its map. -/
structure PVals where
  v2 : Value
  v3 : Value
  v4 : Value
  v5 : Value
  m : Nat
abbrev psc (p : PVals) (x : Ps) : Array Value := #[.string x.mod, .string x.rel, p.v2, p.v3, p.v4, p.v5, .string x.block, .int .i64 x.fro, .map (some p.m)]
/-- No two slices share a block. -/
def Apart2 (a b : Value) : Prop := ∀ k, a.ownBlock = some k → b.ownBlock ≠ some k
/-- The parser lies at block P: w0 is the world at parse's entry, w1 the one in which the lines lie. -/
structure PsIs (w0 w1 : World) (P : Nat) (p : PVals) (x : Ps) (w : World) : Prop where
  below : Below w0.heap.size w0 w
  moves : Moves (fun k => k = P ∨ k = p.m) w1 w
  ge : w0.heap.size ≤ P
  lt : P < w1.heap.size
  mge : w0.heap.size ≤ p.m
  mlt : p.m < w1.heap.size
  mne : p.m ≠ P
  blk : w.heap[P]? = some (.cells (psc p x) 102 (0, 0))
  o2 : Kd.R k25 25 w w1.heap.size (fun k => w1.heap.size ≤ k) p.v2 x.reqs
  o3 : Kd.R k89 89 w w1.heap.size (fun k => w1.heap.size ≤ k) p.v3 x.swaps
  o4 : Kd.R k25 25 w w1.heap.size (fun k => w1.heap.size ≤ k) p.v4 x.excl
  o5 : Kd.R k90 90 w w1.heap.size (fun k => w1.heap.size ≤ k) p.v5 x.retr
  a23 : Apart2 p.v2 p.v3
  a24 : Apart2 p.v2 p.v4
  a25 : Apart2 p.v2 p.v5
  a34 : Apart2 p.v3 p.v4
  a35 : Apart2 p.v3 p.v5
  a45 : Apart2 p.v4 p.v5
  map : SpAt w p.m x.cnt x.spots
theorem PsIs.step {w0 w1 w w' : World} {P : Nat} {p : PVals} {x : Ps} (h : PsIs w0 w1 P p x w) (hb : Below w.heap.size w w') : PsIs w0 w1 P p x w' :=
  ⟨below_step h.below hb, h.moves.trans (Moves.of_below hb), h.ge, h.lt, h.mge, h.mlt, h.mne, blk_below h.blk hb, Kd.R_below h.o2 hb, Kd.R_below h.o3 hb, Kd.R_below h.o4 hb, Kd.R_below h.o5 hb, h.a23, h.a24, h.a25, h.a34, h.a35, h.a45, h.map.kept (grown_of_below hb none) (by simp)⟩
theorem moves_grown2 {may : Nat → Prop} {A B : World} {k : Option Nat} (h : A.grownBy B k) (hk : ∀ b, k = some b → may b) : Moves may A B :=
  ⟨h.size, fun j hj hm => h.block j hj (fun e => hm (hk j e.symm)), h.os, h.tape, h.output⟩
/-- A field that bears no slice and no map has been written. -/
theorem PsIs.put {w0 w1 w w' : World} {P : Nat} {p : PVals} {x x' : Ps} (h : PsIs w0 w1 P p x w) (hr : w'.heap[P]? = some (.cells (psc p x') 102 (0, 0))) (hg : w.grownBy w' (some P)) (e2 : x'.reqs = x.reqs) (e3 : x'.swaps = x.swaps) (e4 : x'.excl = x.excl) (e5 : x'.retr = x.retr) (em : (x'.cnt, x'.spots) = (x.cnt, x.spots)) : PsIs w0 w1 P p x' w' := by
  have hlt := h.lt
  have hne : ∀ k, w1.heap.size ≤ k → some k ≠ some P := fun k hk e => by have := Option.some.inj e; omega
  obtain ⟨e6, e7⟩ := Prod.mk.inj em
  exact ⟨h.below.grown hg h.below.size (fun k hk => by cases hk; exact h.ge), h.moves.trans (moves_grown2 hg (fun b e => .inl (Option.some.inj e).symm)), h.ge, h.lt, h.mge, h.mlt, h.mne, hr, e2 ▸ Kd.R_grown h.o2 hg hne, e3 ▸ Kd.R_grown h.o3 hg hne, e4 ▸ Kd.R_grown h.o4 hg hne, e5 ▸ Kd.R_grown h.o5 hg hne, h.a23, h.a24, h.a25, h.a34, h.a35, h.a45, e6 ▸ e7 ▸ h.map.kept hg (fun e => h.mne (Option.some.inj e))⟩
theorem PsIs.cells {w0 w1 w : World} {P : Nat} {p : PVals} {x : Ps} (h : PsIs w0 w1 P p x w) : w.cell? ⟨P, 0, none⟩ = some (.string x.mod) ∧ w.cell? ⟨P, 1, none⟩ = some (.string x.rel) ∧ w.cell? ⟨P, 2, none⟩ = some p.v2 ∧ w.cell? ⟨P, 3, none⟩ = some p.v3 ∧ w.cell? ⟨P, 4, none⟩ = some p.v4 ∧ w.cell? ⟨P, 5, none⟩ = some p.v5 ∧ w.cell? ⟨P, 6, none⟩ = some (.string x.block) ∧ w.cell? ⟨P, 7, none⟩ = some (.int .i64 x.fro) ∧ w.cell? ⟨P, 8, none⟩ = some (.map (some p.m)) :=
  ⟨(blk_cell h.blk 0).trans rfl, (blk_cell h.blk 1).trans rfl, (blk_cell h.blk 2).trans rfl, (blk_cell h.blk 3).trans rfl, (blk_cell h.blk 4).trans rfl, (blk_cell h.blk 5).trans rfl, (blk_cell h.blk 6).trans rfl, (blk_cell h.blk 7).trans rfl, (blk_cell h.blk 8).trans rfl⟩
/-- What a statement makes of the parser: its error (0: none) and it. -/
def modP (x : Ps) (a : ByteArray) : Ps × Int := if checkOk a = false then (x, 6) else if x.mod.toList.isEmpty = false then (x, 11) else ({ x with mod := a }, 0)
set_option maxRecDepth 100000 in
set_option maxHeartbeats 2000000 in
theorem module_calls (w0 w1 : World) (P : Nat) (p : PVals) (x : Ps) (a : Wd) (ws : List Wd) (A : Option Addr) (c : Nat) (w : World) (hG : GW w0) (hI : PsIs w0 w1 P p x w) (hC : Kd.C k159 w A (ws.length + 1) (a :: ws)) :
    Calls Tryz.prog 129 #[.pointer (some ⟨P, 0, none⟩), .slice A (ws.length + 1) c] w fun e w' => e = .returned (errV (modP x a.f0).2) ∧ PsIs w0 w1 P p (modP x a.f0).1 w' := by
  obtain ⟨ad, rfl, g0, _⟩ := words_at hC 0 (by omega) (x := a) rfl
  have HGX : Aside0 (∀ W, Below w.heap.size w W → W.cell? ad = some (.string a.f0)) := ⟨fun W h => by
    obtain ⟨ad1, e1, p1, _⟩ := words_at (Kd.C_below hC h) 0 (by omega) (x := a) rfl
    obtain rfl := Option.some.inj e1
    exact p1⟩
  have HCK : Aside0 (∀ W, PsIs w0 w1 P p x W → Calls Tryz.prog 83 #[.string a.f0] W fun e w' => e = .returned (.bool (checkOk a.f0)) ∧ Below W.heap.size W w') := ⟨fun W h => mcheck_calls a.f0 W (hG.below h.below)⟩
  have HE : Aside0 (modP x a.f0 = if checkOk a.f0 = false then (x, 6) else if x.mod.toList.isEmpty = false then (x, 11) else ({ x with mod := a.f0 }, 0)) := ⟨rfl⟩
  obtain ⟨n, hn⟩ : ∃ n : Nat, n = ws.length + 1 := ⟨_, rfl⟩
  have hn0 : (0 : Int) < (n : Int) := by omega
  rw [← hn]
  have HI := Aside0.mk hI
  obtain y0 := HGX.out _ (Below.refl _ _)
  clear hG hC hI hn g0
  generalize modP x a.f0 = ro at HE ⊢
  generalize checkOk a.f0 = b1 at HCK HE
  cases b1 with
  | false =>
    go_enter Tryz.func129, Tryz.ntmps129
    go_wp2_with (go_at_call 83; with_reducible refine (HCK.out _ HI.out).mono ?_; rintro e W3 ⟨rfl, hb⟩; have HI3 := Aside0.mk (HI.out.step hb); clear hb)
    go_ret
    exact ⟨by rw [HE.out]; rfl, by rw [HE.out]; exact HI3.out⟩
  | true =>
    cases hm : x.mod.toList.isEmpty with
    | false =>
      go_enter Tryz.func129, Tryz.ntmps129
      go_wp2_with (go_at_call 83; with_reducible refine (HCK.out _ HI.out).mono ?_; rintro e W3 ⟨rfl, hb⟩; have HI3 := Aside0.mk (HI.out.step hb); obtain ⟨z0, _⟩ := HI3.out.cells; clear hb)
      go_ret
      exact ⟨by rw [HE.out, hm]; rfl, by rw [HE.out, hm]; exact HI3.out⟩
    | true =>
      go_enter Tryz.func129, Tryz.ntmps129
      go_wp2_with (first | (go_at_call 83; with_reducible refine (HCK.out _ HI.out).mono ?_; rintro e W3 ⟨rfl, hb⟩; have HI3 := Aside0.mk (HI.out.step hb); obtain ⟨z0, _⟩ := HI3.out.cells; have y1 := HGX.out _ hb; clear hb) | ((with_reducible refine gate_ (.store 9 (.tmp 28) (.tmp 25)) rfl ?_); refine store_ev 9 (.tmp 28) (.tmp 25) rfl rfl rfl 0 [.string a.f0] HI3.out.blk rfl rfl rfl (by kernel_rfl) (show 0 + 1 ≤ 9 by decide) (by simp [Value.oneCell']) rfl ?_; intro W4 hn hg; have HZ := Aside0.mk (HI3.out.put (x' := { x with mod := a.f0 }) hn hg rfl rfl rfl rfl rfl); clear hn hg))
      go_ret
      exact ⟨by rw [HE.out, hm]; rfl, by rw [HE.out, hm]; exact HZ.out⟩
/-- The two numbers of a release, and whether there is a dot. -/
def dotA (s : ByteArray) : ByteArray := ba (Lib.cut s.data.toList [46]).1
def dotB (s : ByteArray) : ByteArray := ba (Lib.cut s.data.toList [46]).2.1
def dotI (s : ByteArray) : Bool := (Lib.cut s.data.toList [46]).2.2
theorem dot_len (s : ByteArray) : (dotA s).size ≤ s.size ∧ (dotB s).size ≤ s.size := by
  have h := cut_one 46 s.data.toList
  have hl := cutC_len 46 s.data.toList
  unfold dotA dotB
  rw [ba_size, ba_size, Lib.size_eq, show (Lib.cut s.data.toList [46]).1 = (cutC 46 s.data.toList).1 from congrArg Prod.fst h, show (Lib.cut s.data.toList [46]).2.1 = (cutC 46 s.data.toList).2 from congrArg Prod.snd h]
  exact hl
def relP (x : Ps) (a : ByteArray) : Ps × Int := if dotI a = false then (x, 7) else if numM (dotA a) = false then (x, 7) else if numM (dotB a) = false then (x, 7) else if x.rel.toList.isEmpty = false then (x, 11) else ({ x with rel := a }, 0)
set_option maxRecDepth 100000 in
set_option maxHeartbeats 2000000 in
theorem release_calls (w0 w1 : World) (P : Nat) (p : PVals) (x : Ps) (a : Wd) (ws : List Wd) (ha : a.f0.size ≤ 400000) (A : Option Addr) (c : Nat) (w : World) (hG : GW w0) (hI : PsIs w0 w1 P p x w) (hC : Kd.C k159 w A (ws.length + 1) (a :: ws)) :
    Calls Tryz.prog 130 #[.pointer (some ⟨P, 0, none⟩), .slice A (ws.length + 1) c] w fun e w' => e = .returned (errV (relP x a.f0).2) ∧ PsIs w0 w1 P p (relP x a.f0).1 w' := by
  obtain ⟨ad, rfl, g0, _⟩ := words_at hC 0 (by omega) (x := a) rfl
  have HGX : Aside0 (∀ W, Below w.heap.size w W → W.cell? ad = some (.string a.f0)) := ⟨fun W h => by
    obtain ⟨ad1, e1, p1, _⟩ := words_at (Kd.C_below hC h) 0 (by omega) (x := a) rfl
    obtain rfl := Option.some.inj e1
    exact p1⟩
  have HCU : Aside0 (∀ W, PsIs w0 w1 P p x W → Calls Tryz.prog 163 #[.string a.f0, .string ⟨#[46]⟩] W fun e w' => e = .returned (.tuple #[.string (dotA a.f0), .string (dotB a.f0), .bool (dotI a.f0)]) ∧ Below W.heap.size W w') := ⟨fun W h => by
    obtain ⟨m, hm⟩ := (hG.below h.below).maxLen
    refine (Tryz.strings_Cut a.f0 ⟨#[46]⟩ m W (by omega) hm).mono ?_
    rintro e w' ⟨he, n, rfl⟩
    exact ⟨he, pw_below_drewN (Below.refl _ _) n⟩⟩
  have HNA : Aside0 (∀ W, PsIs w0 w1 P p x W → Calls Tryz.prog 164 #[.string (dotA a.f0)] W fun e w' => e = .returned (.bool (numM (dotA a.f0))) ∧ Below W.heap.size W w') := ⟨fun W h => number_calls _ (Nat.le_trans (dot_len a.f0).1 ha) W (hG.below h.below)⟩
  have HNB : Aside0 (∀ W, PsIs w0 w1 P p x W → Calls Tryz.prog 164 #[.string (dotB a.f0)] W fun e w' => e = .returned (.bool (numM (dotB a.f0))) ∧ Below W.heap.size W w') := ⟨fun W h => number_calls _ (Nat.le_trans (dot_len a.f0).2 ha) W (hG.below h.below)⟩
  have HE : Aside0 (relP x a.f0 = if dotI a.f0 = false then (x, 7) else if numM (dotA a.f0) = false then (x, 7) else if numM (dotB a.f0) = false then (x, 7) else if x.rel.toList.isEmpty = false then (x, 11) else ({ x with rel := a.f0 }, 0)) := ⟨rfl⟩
  obtain ⟨n, hn⟩ : ∃ n : Nat, n = ws.length + 1 := ⟨_, rfl⟩
  have hn0 : (0 : Int) < (n : Int) := by omega
  rw [← hn]
  have HI := Aside0.mk hI
  obtain y0 := HGX.out _ (Below.refl _ _)
  clear hG hC hI hn g0 ha
  generalize relP x a.f0 = ro at HE ⊢
  generalize dotI a.f0 = b1 at HCU HE
  generalize numM (dotA a.f0) = b2 at HNA HE
  generalize numM (dotB a.f0) = b3 at HNB HE
  generalize dotA a.f0 = sa at HCU HNA
  generalize dotB a.f0 = sb at HCU HNB
  cases b1 with
  | false =>
    go_enter Tryz.func130, Tryz.ntmps130
    go_wp2_with (go_at_call 163; with_reducible refine (HCU.out _ HI.out).mono ?_; rintro e W3 ⟨rfl, hb⟩; have HI3 := Aside0.mk (HI.out.step hb); clear hb)
    go_ret
    exact ⟨by rw [HE.out]; rfl, by rw [HE.out]; exact HI3.out⟩
  | true =>
    cases b2 with
    | false =>
      go_enter Tryz.func130, Tryz.ntmps130
      go_wp2_with (first | (go_at_call 163; with_reducible refine (HCU.out _ HI.out).mono ?_; rintro e W3 ⟨rfl, hb⟩; have HI3 := Aside0.mk (HI.out.step hb); clear hb) | (go_at_call 164; with_reducible refine (HNA.out _ HI3.out).mono ?_; rintro e W5 ⟨rfl, hb⟩; have HI5 := Aside0.mk (HI3.out.step hb); clear hb))
      go_ret
      exact ⟨by rw [HE.out]; rfl, by rw [HE.out]; exact HI5.out⟩
    | true =>
      cases b3 with
      | false =>
        go_enter Tryz.func130, Tryz.ntmps130
        go_wp2_with (first | (go_at_call 163; with_reducible refine (HCU.out _ HI.out).mono ?_; rintro e W3 ⟨rfl, hb⟩; have HI3 := Aside0.mk (HI.out.step hb); clear hb) | (go_at_call 164; with_reducible refine (HNA.out _ HI3.out).mono ?_; rintro e W5 ⟨rfl, hb⟩; have HI5 := Aside0.mk (HI3.out.step hb); clear hb) | (go_at_call 164; with_reducible refine (HNB.out _ HI5.out).mono ?_; rintro e W6 ⟨rfl, hb⟩; have HI6 := Aside0.mk (HI5.out.step hb); clear hb))
        go_ret
        exact ⟨by rw [HE.out]; rfl, by rw [HE.out]; exact HI6.out⟩
      | true =>
        cases hm : x.rel.toList.isEmpty with
        | false =>
          go_enter Tryz.func130, Tryz.ntmps130
          go_wp2_with (first | (go_at_call 163; with_reducible refine (HCU.out _ HI.out).mono ?_; rintro e W3 ⟨rfl, hb⟩; have HI3 := Aside0.mk (HI.out.step hb); clear hb) | (go_at_call 164; with_reducible refine (HNA.out _ HI3.out).mono ?_; rintro e W5 ⟨rfl, hb⟩; have HI5 := Aside0.mk (HI3.out.step hb); clear hb) | (go_at_call 164; with_reducible refine (HNB.out _ HI5.out).mono ?_; rintro e W6 ⟨rfl, hb⟩; have HI6 := Aside0.mk (HI5.out.step hb); obtain ⟨_, z0, _⟩ := HI6.out.cells; clear hb))
          go_ret
          exact ⟨by rw [HE.out, hm]; rfl, by rw [HE.out, hm]; exact HI6.out⟩
        | true =>
          go_enter Tryz.func130, Tryz.ntmps130
          go_wp2_with (first | (go_at_call 163; with_reducible refine (HCU.out _ HI.out).mono ?_; rintro e W3 ⟨rfl, hb⟩; have HI3 := Aside0.mk (HI.out.step hb); have HBX := Aside0.mk hb; clear hb) | (go_at_call 164; with_reducible refine (HNA.out _ HI3.out).mono ?_; rintro e W5 ⟨rfl, hb⟩; have HI5 := Aside0.mk (HI3.out.step hb); replace HBX := Aside0.mk (below_step HBX.out hb); clear hb) | (go_at_call 164; with_reducible refine (HNB.out _ HI5.out).mono ?_; rintro e W6 ⟨rfl, hb⟩; have HI6 := Aside0.mk (HI5.out.step hb); obtain ⟨_, z0, _⟩ := HI6.out.cells; have y1 := HGX.out _ (below_step HBX.out hb); clear hb) | ((with_reducible refine gate_ (.store 9 (.tmp 46) (.tmp 43)) rfl ?_); refine store_ev 9 (.tmp 46) (.tmp 43) rfl rfl rfl 1 [.string a.f0] HI6.out.blk rfl rfl rfl (by kernel_rfl) (show 1 + 1 ≤ 9 by decide) (by simp [Value.oneCell']) rfl ?_; intro W7 hn hg; have HZ := Aside0.mk (HI6.out.put (x' := { x with rel := a.f0 }) hn hg rfl rfl rfl rfl rfl); clear hn hg))
          go_ret
          exact ⟨by rw [HE.out, hm]; rfl, by rw [HE.out, hm]; exact HZ.out⟩
end Go.Proofs.YtmbpefnhkimplaaGreatDoor
end

section
namespace Go.Proofs.YtmbpefnhkimplaaGreatDoor
open Go Go.RowKit Go.Sort Go.Maps Go.Proofs Go.Proofs.YtmbpefnhkimplaaGreatDoorW.PrintWords Go.Proofs.YtmbpefnhkimplaaGreatDoorW.PrintLast Go.Proofs.YtmbpefnhkimplaaGreatDoor.K0 Go.Proofs.YtmbpefnhkimplaaGreatDoor.R1 Go.Proofs.YtmbpefnhkimplaaGreatDoor.R2
set_option linter.unusedVariables false
set_option linter.unusedSimpArgs false
theorem SpAt.look {w : World} {M n : Nat} {b : List UInt8 → Option Int} (h : SpAt w M n b) (s : ByteArray) (hs : s.size ≤ maxLen) : ∃ v : Int, (Instr.lookup 100 (.map (some M)) (.string s) true).run Tryz.prog w = .ok (.tuple #[.int .i64 v, .bool (b s.data.toList).isSome]) w ∧ ∀ y, b s.data.toList = some y → y = v := by
  obtain ⟨D, h1, h2⟩ := h.out
  obtain ⟨v, ps, hrun, hv⟩ := h1.look_ok spKey Tryz.underlying100 (show (zeroValue 3).run Tryz.prog w = .ok (.int .i64 0) w by kernel_rfl) (spE_mk _) (Go.WideMaps.keyOf_string_mk Tryz.underlying9 hs)
  obtain ⟨y, rfl, hy⟩ := spE_inv hv
  refine ⟨y, by rw [← h2.has]; exact hrun, fun z hz => ?_⟩
  have := h2.val _ z (.held 0) hz
  rw [this] at hy
  exact DataW.held.inj (Prod.mk.inj hy).1
theorem SpAt.update {w : World} {M n : Nat} {b : List UInt8 → Option Int} (h : SpAt w M n b) (hn : n < maxLen) (s : ByteArray) (hs : s.size ≤ maxLen) (y : Int) : ∃ w', (Instr.mapUpdate 100 (.map (some M)) (.string s) (.int .i64 y)).run Tryz.prog w = .ok () w' ∧ SpAt w' M (n + 1) (fun q => if s.data.toList = q then some y else b q) ∧ w.grownBy w' (some M) := by
  obtain ⟨D, h1, h2⟩ := h.out
  obtain ⟨w', hrun, r1, r2⟩ := h1.update spKey Tryz.underlying100 hn (Go.WideMaps.keyOf_string_mk Tryz.underlying9 hs) (spE_mk y)
  exact ⟨w', hrun, ⟨_, r1, h2.put s.data.toList y⟩, r2⟩
/-- A map update, as an operation of a drawing region. -/
theorem update_K {ops : Array Oper} {o : Oper} {a : Act} {Q : Exit → Act → World → Prop} {K : Act → World → Prop} {W W' : World} {t : TypeId} {m x v : Operand} (hw : Region.wanted o (yielded ops a.tmps) = true) (hN : o.dst = none) (hop : o.op = Op.mapUpdate t m x v) (hrun : (Instr.mapUpdate t (a.eval m) (a.eval x) (a.eval v)).run Tryz.prog W = .ok () W')
    (h : K (a.put none undef) W') : if Region.wanted o (yielded ops a.tmps) = true then Oper.wp Tryz.prog o a W K Q else K (a.put none undef) W := by
  rw [if_pos hw]
  unfold Oper.wp
  simp [execOp, hop, hrun, Result.andThen]
  show K (a.put o.dst undef) W'
  rw [hN]
  exact h
theorem grown_moves {w1 A B : World} {k : Option Nat} {P m : Nat} (hm : Moves (fun k => k = P ∨ k = m) w1 A) (h : A.grownBy B k) (hk : ∀ b, k = some b → w1.heap.size ≤ b) : Moves (fun k => k = P ∨ k = m) w1 B :=
  ⟨Nat.le_trans hm.size h.size, fun j hj hm2 => (h.block j (Nat.lt_of_lt_of_le hj hm.size) (fun e => by have := hk j e.symm; omega)).trans (hm.block j hj hm2), h.os.trans hm.os, h.tape.trans hm.tape, h.output.trans hm.output⟩
theorem grown_set (W : World) (b i : Nat) (v : Value) : W.grownBy (W.setCell ⟨b, i, none⟩ v) (some b) :=
  ⟨rfl, rfl, rfl, by simp, fun k _ hk => Below.heap_setCell W ⟨b, i, none⟩ v k (fun e => hk (by rw [e]))⟩
theorem far_ne {n P k : Nat} (h : P < n) (hk : n ≤ k) : k ≠ P := by omega
theorem apart_l {a b v1 : Value} {n : Nat} (h : Apart2 a b) (hat : v1.ownBlock = a.ownBlock ∨ ∃ k, v1.ownBlock = some k ∧ n ≤ k) (hb : ∀ k, b.ownBlock = some k → k < n) : Apart2 v1 b := by
  intro k hk e
  rcases hat with hat | ⟨j, hj, hn⟩
  · exact h k (hat ▸ hk) e
  · have := hb k e
    rw [hj] at hk
    have := Option.some.inj hk
    omega
theorem apart_r {a b v1 : Value} {n : Nat} (h : Apart2 a b) (hat : v1.ownBlock = b.ownBlock ∨ ∃ k, v1.ownBlock = some k ∧ n ≤ k) (ha : ∀ k, a.ownBlock = some k → k < n) : Apart2 a v1 := by
  intro k hk e
  rcases hat with hat | ⟨j, hj, hn⟩
  · exact h k hk (hat ▸ e)
  · have := ha k hk
    rw [hj] at e
    have := Option.some.inj e
    omega
/-- Something has been appended to reqs, and stored. -/
theorem PsIs.app2 {w0 w1 w w5 : World} {P : Nat} {p : PVals} {x : Ps} (h : PsIs w0 w1 P p x w) {r : Rq} {v1 : Value} (ho : Kd.R k25 25 w5 w1.heap.size (fun k => w1.heap.size ≤ k) v1 (x.reqs ++ [r])) (hg : w.grownBy w5 p.v2.ownBlock) (hat : v1.ownBlock = p.v2.ownBlock ∨ ∃ b, v1.ownBlock = some b ∧ w.heap.size ≤ b) : PsIs w0 w1 P { p with v2 := v1 } { x with reqs := x.reqs ++ [r] } (w5.setCell ⟨P, 2, none⟩ v1) := by
  have hown : ∀ k, p.v2.ownBlock = some k → w1.heap.size ≤ k := h.o2.1
  have hP : some P ≠ p.v2.ownBlock := fun e => by have := hown P e.symm; have := h.lt; omega
  have hM : some p.m ≠ p.v2.ownBlock := fun e => by have := hown p.m e.symm; have := h.mlt; omega
  have hs := h.moves.size
  have hs0 : w0.heap.size ≤ w1.heap.size := Nat.le_of_lt (Nat.lt_of_le_of_lt h.ge h.lt)
  refine ⟨(h.below.grown hg h.below.size (fun k hk => Nat.le_trans hs0 (hown k hk))).setCell (p := ⟨P, 2, none⟩) h.ge _, (grown_moves h.moves hg hown).trans (Moves.setCell (p := ⟨P, 2, none⟩) (.inl rfl) _), h.ge, h.lt, h.mge, h.mlt, h.mne, blk_set (blk_grown h.blk hg hP) 2 _, Kd.R_far ho (fun k hk => far_ne h.lt hk) _, Kd.R_far (Kd.R_grown2 h.o3 rfl hg (fun k hk e => h.a23 k hk e.symm)) (fun k hk => far_ne h.lt hk) _, Kd.R_far (Kd.R_grown2 h.o4 rfl hg (fun k hk e => h.a24 k hk e.symm)) (fun k hk => far_ne h.lt hk) _, Kd.R_far (Kd.R_grown2 h.o5 rfl hg (fun k hk e => h.a25 k hk e.symm)) (fun k hk => far_ne h.lt hk) _, apart_l h.a23 hat (fun k hk => ((Kd.R_bound h.o3).1 k hk).2.2.1), apart_l h.a24 hat (fun k hk => ((Kd.R_bound h.o4).1 k hk).2.2.1), apart_l h.a25 hat (fun k hk => ((Kd.R_bound h.o5).1 k hk).2.2.1), h.a34, h.a35, h.a45, (h.map.kept hg hM).kept (grown_set _ _ _ _) (fun e => h.mne (Option.some.inj e))⟩
/-- Something has been appended to swaps, and stored. -/
theorem PsIs.app3 {w0 w1 w w5 : World} {P : Nat} {p : PVals} {x : Ps} (h : PsIs w0 w1 P p x w) {r : Sw} {v1 : Value} (ho : Kd.R k89 89 w5 w1.heap.size (fun k => w1.heap.size ≤ k) v1 (x.swaps ++ [r])) (hg : w.grownBy w5 p.v3.ownBlock) (hat : v1.ownBlock = p.v3.ownBlock ∨ ∃ b, v1.ownBlock = some b ∧ w.heap.size ≤ b) : PsIs w0 w1 P { p with v3 := v1 } { x with swaps := x.swaps ++ [r] } (w5.setCell ⟨P, 3, none⟩ v1) := by
  have hown : ∀ k, p.v3.ownBlock = some k → w1.heap.size ≤ k := h.o3.1
  have hP : some P ≠ p.v3.ownBlock := fun e => by have := hown P e.symm; have := h.lt; omega
  have hM : some p.m ≠ p.v3.ownBlock := fun e => by have := hown p.m e.symm; have := h.mlt; omega
  have hs := h.moves.size
  have hs0 : w0.heap.size ≤ w1.heap.size := Nat.le_of_lt (Nat.lt_of_le_of_lt h.ge h.lt)
  refine ⟨(h.below.grown hg h.below.size (fun k hk => Nat.le_trans hs0 (hown k hk))).setCell (p := ⟨P, 3, none⟩) h.ge _, (grown_moves h.moves hg hown).trans (Moves.setCell (p := ⟨P, 3, none⟩) (.inl rfl) _), h.ge, h.lt, h.mge, h.mlt, h.mne, blk_set (blk_grown h.blk hg hP) 3 _, Kd.R_far (Kd.R_grown2 h.o2 rfl hg (fun k hk e => h.a23 k e.symm hk)) (fun k hk => far_ne h.lt hk) _, Kd.R_far ho (fun k hk => far_ne h.lt hk) _, Kd.R_far (Kd.R_grown2 h.o4 rfl hg (fun k hk e => h.a34 k hk e.symm)) (fun k hk => far_ne h.lt hk) _, Kd.R_far (Kd.R_grown2 h.o5 rfl hg (fun k hk e => h.a35 k hk e.symm)) (fun k hk => far_ne h.lt hk) _, apart_r h.a23 hat (fun k hk => ((Kd.R_bound h.o2).1 k hk).2.2.1), h.a24, h.a25, apart_l h.a34 hat (fun k hk => ((Kd.R_bound h.o4).1 k hk).2.2.1), apart_l h.a35 hat (fun k hk => ((Kd.R_bound h.o5).1 k hk).2.2.1), h.a45, (h.map.kept hg hM).kept (grown_set _ _ _ _) (fun e => h.mne (Option.some.inj e))⟩
/-- Something has been appended to excl, and stored. -/
theorem PsIs.app4 {w0 w1 w w5 : World} {P : Nat} {p : PVals} {x : Ps} (h : PsIs w0 w1 P p x w) {r : Rq} {v1 : Value} (ho : Kd.R k25 25 w5 w1.heap.size (fun k => w1.heap.size ≤ k) v1 (x.excl ++ [r])) (hg : w.grownBy w5 p.v4.ownBlock) (hat : v1.ownBlock = p.v4.ownBlock ∨ ∃ b, v1.ownBlock = some b ∧ w.heap.size ≤ b) : PsIs w0 w1 P { p with v4 := v1 } { x with excl := x.excl ++ [r] } (w5.setCell ⟨P, 4, none⟩ v1) := by
  have hown : ∀ k, p.v4.ownBlock = some k → w1.heap.size ≤ k := h.o4.1
  have hP : some P ≠ p.v4.ownBlock := fun e => by have := hown P e.symm; have := h.lt; omega
  have hM : some p.m ≠ p.v4.ownBlock := fun e => by have := hown p.m e.symm; have := h.mlt; omega
  have hs := h.moves.size
  have hs0 : w0.heap.size ≤ w1.heap.size := Nat.le_of_lt (Nat.lt_of_le_of_lt h.ge h.lt)
  refine ⟨(h.below.grown hg h.below.size (fun k hk => Nat.le_trans hs0 (hown k hk))).setCell (p := ⟨P, 4, none⟩) h.ge _, (grown_moves h.moves hg hown).trans (Moves.setCell (p := ⟨P, 4, none⟩) (.inl rfl) _), h.ge, h.lt, h.mge, h.mlt, h.mne, blk_set (blk_grown h.blk hg hP) 4 _, Kd.R_far (Kd.R_grown2 h.o2 rfl hg (fun k hk e => h.a24 k e.symm hk)) (fun k hk => far_ne h.lt hk) _, Kd.R_far (Kd.R_grown2 h.o3 rfl hg (fun k hk e => h.a34 k e.symm hk)) (fun k hk => far_ne h.lt hk) _, Kd.R_far ho (fun k hk => far_ne h.lt hk) _, Kd.R_far (Kd.R_grown2 h.o5 rfl hg (fun k hk e => h.a45 k hk e.symm)) (fun k hk => far_ne h.lt hk) _, h.a23, apart_r h.a24 hat (fun k hk => ((Kd.R_bound h.o2).1 k hk).2.2.1), h.a25, apart_r h.a34 hat (fun k hk => ((Kd.R_bound h.o3).1 k hk).2.2.1), h.a35, apart_l h.a45 hat (fun k hk => ((Kd.R_bound h.o5).1 k hk).2.2.1), (h.map.kept hg hM).kept (grown_set _ _ _ _) (fun e => h.mne (Option.some.inj e))⟩
/-- Something has been appended to retr, and stored. -/
theorem PsIs.app5 {w0 w1 w w5 : World} {P : Nat} {p : PVals} {x : Ps} (h : PsIs w0 w1 P p x w) {r : Sp} {v1 : Value} (ho : Kd.R k90 90 w5 w1.heap.size (fun k => w1.heap.size ≤ k) v1 (x.retr ++ [r])) (hg : w.grownBy w5 p.v5.ownBlock) (hat : v1.ownBlock = p.v5.ownBlock ∨ ∃ b, v1.ownBlock = some b ∧ w.heap.size ≤ b) : PsIs w0 w1 P { p with v5 := v1 } { x with retr := x.retr ++ [r] } (w5.setCell ⟨P, 5, none⟩ v1) := by
  have hown : ∀ k, p.v5.ownBlock = some k → w1.heap.size ≤ k := h.o5.1
  have hP : some P ≠ p.v5.ownBlock := fun e => by have := hown P e.symm; have := h.lt; omega
  have hM : some p.m ≠ p.v5.ownBlock := fun e => by have := hown p.m e.symm; have := h.mlt; omega
  have hs := h.moves.size
  have hs0 : w0.heap.size ≤ w1.heap.size := Nat.le_of_lt (Nat.lt_of_le_of_lt h.ge h.lt)
  refine ⟨(h.below.grown hg h.below.size (fun k hk => Nat.le_trans hs0 (hown k hk))).setCell (p := ⟨P, 5, none⟩) h.ge _, (grown_moves h.moves hg hown).trans (Moves.setCell (p := ⟨P, 5, none⟩) (.inl rfl) _), h.ge, h.lt, h.mge, h.mlt, h.mne, blk_set (blk_grown h.blk hg hP) 5 _, Kd.R_far (Kd.R_grown2 h.o2 rfl hg (fun k hk e => h.a25 k e.symm hk)) (fun k hk => far_ne h.lt hk) _, Kd.R_far (Kd.R_grown2 h.o3 rfl hg (fun k hk e => h.a35 k e.symm hk)) (fun k hk => far_ne h.lt hk) _, Kd.R_far (Kd.R_grown2 h.o4 rfl hg (fun k hk e => h.a45 k e.symm hk)) (fun k hk => far_ne h.lt hk) _, Kd.R_far ho (fun k hk => far_ne h.lt hk) _, h.a23, h.a24, apart_r h.a25 hat (fun k hk => ((Kd.R_bound h.o2).1 k hk).2.2.1), h.a34, apart_r h.a35 hat (fun k hk => ((Kd.R_bound h.o3).1 k hk).2.2.1), apart_r h.a45 hat (fun k hk => ((Kd.R_bound h.o4).1 k hk).2.2.1), (h.map.kept hg hM).kept (grown_set _ _ _ _) (fun e => h.mne (Option.some.inj e))⟩
end Go.Proofs.YtmbpefnhkimplaaGreatDoor
end
