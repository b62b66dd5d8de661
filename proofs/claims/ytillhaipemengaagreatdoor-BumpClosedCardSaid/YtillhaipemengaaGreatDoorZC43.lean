/- The texts BpClW in one file, without what these claims do not use (put together by prune2.py). -/
import Derived.Test.YtillhaipemengaaGreatDoorZC42
section
namespace Go.Proofs.YtillhaipemengaaGreatDoor
open Go Go.RowKit Go.Proofs Go.Proofs.YtillhaipemengaaGreatDoorW.PrintWords Go.Proofs.YtillhaipemengaaGreatDoorW.PrintLast Go.Proofs.YtillhaipemengaaGreatDoorW.PrintMore Go.Proofs.YtillhaipemengaaGreatDoor.K0 Go.Proofs.YtillhaipemengaaGreatDoor.RD Go.Proofs.YtillhaipemengaaGreatDoor.RS
set_option linter.unusedVariables false
set_option linter.unusedSimpArgs false
def cls.T3 : Bool × List (List Nat × List Nat) := (true, [([], []), ([0], [0]), ([], []), ([2], [2]), ([], []), ([4], [4]), ([], []), ([6], [6]), ([7], [7]), ([1, 3, 5, 8, 8], [1, 3, 5, 8]), ([9], [9]), ([10], [10]), ([10], [10]), ([11, 9, 0, 1, 2, 3, 4, 5, 6, 7, 8, 9, 10, 11], [11]), ([12, 13, 0, 1, 2, 3, 4, 5, 6, 7, 8, 9, 10, 11, 12, 13], [12])])
def cls.B3 : List Nat := [0, 1, 0, 4, 0, 16, 0, 64, 192, 511, 1023, 2047, 2047, 4095, 16383]
theorem cls.tab3 : rtab .any (opsOf Tryz.f5 3) = cls.T3 := by kernel_rfl
theorem cls.bits3 : waitsOk cls.T3.2 cls.B3 = true := by kernel_rfl
def cls.T18 : Bool × List (List Nat × List Nat) := (true, [([], []), ([0], [0]), ([1], [1]), ([2, 1], [1, 2]), ([1], [1]), ([3, 4, 1], [1, 3, 4]), ([5, 1], [1, 5]), ([6, 1], [1, 6]), ([1], [1]), ([8, 1], [1, 8]), ([1], [1]), ([9, 10, 1], [1, 9, 10]), ([11, 1], [1, 11]), ([12, 1], [1, 12]), ([7, 13, 1], [1, 7, 13]), ([1, 14], [1, 14]), ([15, 1, 0, 1, 2, 3, 4, 5, 6, 7, 8, 9, 10, 11, 12, 13, 14, 15], [0, 15])])
def cls.B18 : List Nat := [0, 1, 3, 7, 3, 31, 63, 127, 3, 259, 3, 1795, 3843, 7939, 16383, 32767, 65535]
theorem cls.tab18 : rtab .any (opsOf Tryz.f5 18) = cls.T18 := by kernel_rfl
theorem cls.bits18 : waitsOk cls.T18.2 cls.B18 = true := by kernel_rfl
def cls.T29 : Bool × List (List Nat × List Nat) := (true, [([], []), ([], []), ([0, 1], [0, 1]), ([2], [2]), ([3], [3]), ([4], [4]), ([5], [5]), ([6], [6]), ([6], [6]), ([7, 8, 6], [6, 7, 8]), ([9, 6], [6, 9]), ([10, 6], [6, 10]), ([6], [6]), ([12, 6], [6, 12]), ([13, 6], [6, 13]), ([11, 14, 6], [6, 11, 14]), ([6, 15], [6, 15]), ([16, 6], [16]), ([17], [17]), ([17], [17]), ([18, 19, 17], [17, 18, 19]), ([17], [17]), ([17], [17]), ([21, 22, 17], [17, 21, 22]), ([23, 17], [17, 23]), ([20, 24, 17, 17], [17, 20, 24]), ([17, 25], [17, 25])])
def cls.B29 : List Nat := [0, 0, 3, 7, 15, 31, 63, 127, 127, 511, 1023, 2047, 127, 4223, 12415, 32767, 65535, 131071, 262143, 262143, 1048575, 262143, 262143, 6553599, 14942207, 33554431, 67108863]
theorem cls.tab29 : rtab .any (opsOf Tryz.f5 29) = cls.T29 := by kernel_rfl
theorem cls.bits29 : waitsOk cls.T29.2 cls.B29 = true := by kernel_rfl
def cls.T31 : Bool × List (List Nat × List Nat) := (true, [([], []), ([0], [0]), ([], []), ([], []), ([2, 3], [2, 3]), ([4], [4]), ([5], [5]), ([1, 6], [1, 6]), ([7, 7, 0, 1, 2, 3, 4, 5, 6, 7], [7])])
def cls.B31 : List Nat := [0, 1, 0, 0, 12, 28, 60, 127, 255]
theorem cls.tab31 : rtab .any (opsOf Tryz.f5 31) = cls.T31 := by kernel_rfl
theorem cls.bits31 : waitsOk cls.T31.2 cls.B31 = true := by kernel_rfl
def cls.T35 : Bool × List (List Nat × List Nat) := (true, [([], []), ([], []), ([], []), ([1, 2], [1, 2]), ([3], [3]), ([0, 4], [0, 4]), ([5, 5], [5]), ([6], [6]), ([6], [6]), ([7, 8, 6], [6, 7, 8]), ([6], [6]), ([6], [6]), ([10, 11, 6], [6, 10, 11]), ([12, 6], [6, 12]), ([9, 13, 6, 6], [6, 9, 13]), ([14, 6], [6, 14]), ([6, 15], [6, 15])])
def cls.B35 : List Nat := [0, 0, 0, 6, 14, 31, 63, 127, 127, 511, 127, 127, 3199, 7295, 16383, 32767, 65535]
theorem cls.tab35 : rtab .any (opsOf Tryz.f5 35) = cls.T35 := by kernel_rfl
theorem cls.bits35 : waitsOk cls.T35.2 cls.B35 = true := by kernel_rfl
def cls.T37 : Bool × List (List Nat × List Nat) := (true, [([], []), ([0], [0]), ([], []), ([], []), ([2, 3], [2, 3]), ([4], [4]), ([5], [5]), ([1, 6], [1, 6]), ([7], [7]), ([8], [8]), ([], []), ([], []), ([10, 11], [10, 11]), ([12], [12]), ([13], [13]), ([9, 14], [9, 14]), ([15], [15]), ([16, 15], [16]), ([17], [17]), ([17], [17]), ([18, 19, 17], [17, 18, 19]), ([20, 17], [17, 20]), ([21, 17], [17, 21]), ([22, 17, 17], [17, 22]), ([23], [23]), ([23], [23]), ([24, 25, 23], [23, 24, 25]), ([26, 23], [23, 26]), ([27, 23], [23, 27]), ([23], [23]), ([23], [23]), ([29, 30, 23], [23, 29, 30]), ([31, 23], [23, 31]), ([32, 23], [23, 32]), ([28, 33, 23, 23], [23, 28, 33]), ([34, 23], [23, 34]), ([23, 35, 17], [17, 23, 35]), ([17, 36], [17, 36])])
def cls.B37 : List Nat := [0, 1, 0, 0, 12, 28, 60, 127, 255, 511, 0, 0, 3072, 7168, 15360, 32767, 65535, 131071, 262143, 262143, 1048575, 2097151, 4194303, 8388607, 16777215, 16777215, 67108863, 134217727, 268435455, 16777215, 16777215, 1627389951, 3774873599, 8069840895, 17179869183, 34359738367, 68719476735, 137438953471]
theorem cls.tab37 : rtab .any (opsOf Tryz.f5 37) = cls.T37 := by kernel_rfl
theorem cls.bits37 : waitsOk cls.T37.2 cls.B37 = true := by kernel_rfl
abbrev csv (A0 A1 A2 A3 : Option Addr) (n0 n1 n2 n3 c0 c1 c2 c3 : Nat) : Array Value := #[.slice A0 n0 c0, .slice A1 n1 c1, .slice A2 n2 c2, .slice A3 n3 c3]
/-- The case in its box, and whatever was handed in. -/
structure ClB (w W : World) (v : Array Value) : Prop where
  base : Below w.heap.size w W
  q : W.heap[w.heap.size]? = some (.cells v 42 (0, 0))
theorem ClB.below {w W W' : World} {v : Array Value} (h : ClB w W v) (hb : Below W.heap.size W W') : ClB w W' v := ⟨below_step h.base hb, blk_below h.q hb⟩
theorem ClB.cells {w W : World} {A0 A1 A2 A3 : Option Addr} {n0 n1 n2 n3 c0 c1 c2 c3 : Nat} (h : ClB w W (csv A0 A1 A2 A3 n0 n1 n2 n3 c0 c1 c2 c3)) : W.cell? ⟨w.heap.size, 0, none⟩ = some (.slice A0 n0 c0) ∧ W.cell? ⟨w.heap.size, 1, none⟩ = some (.slice A1 n1 c1) ∧ W.cell? ⟨w.heap.size, 2, none⟩ = some (.slice A2 n2 c2) ∧ W.cell? ⟨w.heap.size, 3, none⟩ = some (.slice A3 n3 c3) :=
  ⟨(blk_cell h.q 0).trans rfl, (blk_cell h.q 1).trans rfl, (blk_cell h.q 2).trans rfl, (blk_cell h.q 3).trans rfl⟩
theorem int_cell {W : World} {a : Addr} {l : List Int} {n k : Nat} {x : Int} (h : Kd.C (Kd.int .i64) W (some a) n l) (hx : l[k]? = some x) (hn : k < n) : W.cell? (a.add k) = some (.int .i64 x) := by
  obtain ⟨a2, ha2, h⟩ := Kd.at_int h (k : Int) (by omega) (by omega)
  obtain rfl := Option.some.inj ha2
  have e : rd l (k : Int) = x := by unfold rd; rw [Int.toNat_natCast, List.getD_eq_getElem?_getD, hx]; rfl
  rw [e, Int.toNat_natCast] at h
  exact h
theorem want_cell {W : World} {a : Addr} {l : List WtR} {n k : Nat} {x : WtR} (h : Kd.C k61 W (some a) n l) (hx : l[k]? = some x) (hn : k < n) : W.cell? (a.add (k * 2)) = some (.string x.f0) := by
  obtain ⟨a2, ha2, h, _⟩ := at_T61 h (k : Int) (by omega) (by omega)
  obtain rfl := Option.some.inj ha2
  have e : rd_T61 l (k : Int) = x := by unfold rd_T61; rw [Int.toNat_natCast, List.getD_eq_getElem?_getD, hx]; rfl
  rw [e, Int.toNat_natCast] at h
  exact h
theorem mod_cell {W : World} {a : Addr} {l : List Md} {n k : Nat} {x : Md} (h : Kd.C k63 W (some a) n l) (hx : l[k]? = some x) (hn : k < n) : W.cell? ⟨(a.add (k * 3)).block, (a.add (k * 3)).off + 1, none⟩ = some (.string x.f1) := by
  obtain ⟨a2, A2, c2, ha2, _, h, _⟩ := at_T63 h (k : Int) (by omega) (by omega)
  obtain rfl := Option.some.inj ha2
  have e : rd_T63 l (k : Int) = x := by unfold rd_T63; rw [Int.toNat_natCast, List.getD_eq_getElem?_getD, hx]; rfl
  rw [e, Int.toNat_natCast] at h
  exact h
set_option maxRecDepth 100000 in
set_option maxHeartbeats 2000000 in
theorem closed_no (A0 : Option Addr) (c0 : Nat) (l0 : List Md) (A1 : Option Addr) (c1 : Nat) (l1 : List Tg) (A2 : Option Addr) (c2 : Nat) (l2 : List Int) (A3 : Option Addr) (c3 : Nat) (l3 : List WtR) (w : World) (hr0 : Kd.C k63 w A0 l0.length l0) (hc0 : l0.length ≤ c0) (hr1 : Kd.C k71 w A1 l1.length l1) (hc1 : l1.length ≤ c1) (hr2 : Kd.C (Kd.int .i64) w A2 l2.length l2) (hc2 : l2.length ≤ c2) (hr3 : Kd.C k61 w A3 l3.length l3) (hc3 : l3.length ≤ c3) (hG : GW w) {K : Nat} (hK : armadalaw18_small.f K l0 l1 l2 l3 = some false) :
    Calls Tryz.prog 5 #[.agg #[.slice A0 l0.length c0, .slice A1 l1.length c1, .slice A2 l2.length c2, .slice A3 l3.length c3]] w fun e w' => e = .returned (.bool true) ∧ Below w.heap.size w w' := by
  have HSM := Aside0.mk (fun (W : World) (hb : Below w.heap.size w W) => armadalaw18_small.calls K A0 c0 l0 A1 c1 l1 A2 c2 l2 A3 c3 l3 false W (Kd.C_below hr0 hb) hc0 (Kd.C_below hr1 hb) hc1 (Kd.C_below hr2 hb) hc2 (Kd.C_below hr3 hb) hc3 hK)
  have HLV := Aside0.mk (fun (W : World) (hb : Below w.heap.size w W) => live_walk W (hG.below hb))
  generalize l0.length = n0 at *
  generalize l1.length = n1 at *
  generalize l2.length = n2 at *
  generalize l3.length = n3 at *
  clear hr0 hr1 hr2 hr3 hc0 hc1 hc2 hc3 hK hG
  go_enter Tryz.func5, Tryz.ntmps5
  go_wp2_with (first
    | (go_at_call 14; with_reducible refine (HSM.out _ (below_alloc (Below.refl _ _) _)).mono ?_; rintro e w1 ⟨rfl, hb⟩; have HB1 := Aside0.mk (below_step (below_alloc (Below.refl w.heap.size w) (.cells (csv A0 A1 A2 A3 n0 n1 n2 n3 c0 c1 c2 c3) 42)) hb); have HC1 := Aside0.mk (ClB.mk HB1.out (blk_below (heap_alloc_new w (.cells (csv A0 A1 A2 A3 n0 n1 n2 n3 c0 c1 c2 c3) 42)) hb)); clear hb)
    | (go_at_call 9; with_reducible refine (HLV.out _ HB1.out).mono ?_; rintro e w2 ⟨rfl, hb⟩; have HB2 := Aside0.mk (below_step HB1.out hb); clear hb))
  go_ret
  exact ⟨rfl, HB2.out⟩
set_option maxRecDepth 100000 in
set_option maxHeartbeats 2000000 in
theorem closed_bad (A0 : Option Addr) (c0 : Nat) (l0 : List Md) (A1 : Option Addr) (c1 : Nat) (l1 : List Tg) (A2 : Option Addr) (c2 : Nat) (l2 : List Int) (A3 : Option Addr) (c3 : Nat) (l3 : List WtR) (w : World) (hr0 : Kd.C k63 w A0 l0.length l0) (hc0 : l0.length ≤ c0) (hr1 : Kd.C k71 w A1 l1.length l1) (hc1 : l1.length ≤ c1) (hr2 : Kd.C (Kd.int .i64) w A2 l2.length l2) (hc2 : l2.length ≤ c2) (hr3 : Kd.C k61 w A3 l3.length l3) (hc3 : l3.length ≤ c3) (hG : GW w) {K K2 : Nat} (hK : armadalaw18_small.f K l0 l1 l2 l3 = some true) (hK2 : armadalaw18_own.f K2 l3 = some (l3.map toWt)) (b0 : l0.length ≤ 20) (bR : ∀ x ∈ l0, x.f2.length ≤ 30) (b1 : l1.length ≤ 60) (b2 : l2.length ≤ 30) (b3 : l3.length ≤ 20) (hbad : (relOf l0 l1 l2 (l3.map toWt)).2 ≠ 0) :
    Calls Tryz.prog 5 #[.agg #[.slice A0 l0.length c0, .slice A1 l1.length c1, .slice A2 l2.length c2, .slice A3 l3.length c3]] w fun e w' => e = .returned (.bool true) ∧ Below w.heap.size w w' := by
  have HSM := Aside0.mk (fun (W : World) (hb : Below w.heap.size w W) => armadalaw18_small.calls K A0 c0 l0 A1 c1 l1 A2 c2 l2 A3 c3 l3 true W (Kd.C_below hr0 hb) hc0 (Kd.C_below hr1 hb) hc1 (Kd.C_below hr2 hb) hc2 (Kd.C_below hr3 hb) hc3 hK)
  have HLV := Aside0.mk (fun (W : World) (hb : Below w.heap.size w W) => live_walk W (hG.below hb))
  have HOW := Aside0.mk (fun (W : World) (hb : Below w.heap.size w W) => armadalaw18_own.calls K2 A3 c3 l3 (l3.map toWt) W (Kd.C_below hr3 hb) hc3 hK2)
  have hwl : (l3.map toWt).length ≤ 20 := by rw [List.length_map]; exact b3
  have hRL : ∀ (W : World) (hb : Below w.heap.size w W) (Aw : Option Addr) (cw : Nat), Kd.C k72 W Aw (l3.map toWt).length (l3.map toWt) → (l3.map toWt).length ≤ cw → Calls Tryz.prog 15 #[.slice A0 l0.length c0, .slice A1 l1.length c1, .slice A2 l2.length c2, .slice Aw (l3.map toWt).length cw] W fun e w' => ∃ (B : Option Addr) (d : Nat), e = .returned (.tuple #[.slice B (relOf l0 l1 l2 (l3.map toWt)).1.length d, .int .i64 (relOf l0 l1 l2 (l3.map toWt)).2]) ∧ (relOf l0 l1 l2 (l3.map toWt)).1.length ≤ d ∧ Kd.C k30 w' B (relOf l0 l1 l2 (l3.map toWt)).1.length (relOf l0 l1 l2 (l3.map toWt)).1 ∧ Below W.heap.size W w' := fun W hb Aw cw hw hcw => by
    refine (releases_calls A0 A1 A2 Aw c0 c1 c2 cw l0 l1 l2 (l3.map toWt) W (hG.below hb) (Kd.C_below hr0 hb) hc0 (Kd.C_below hr1 hb) hc1 (Kd.C_below hr2 hb) hc2 hw hcw (by omega) (by omega) (by omega) (by omega)).mono ?_
    rintro e w' ⟨v, rfl, hR, hb'⟩
    obtain ⟨B, d, rfl, h1, h2⟩ := Kd.R_reads hR
    exact ⟨B, d, rfl, h1, h2, hb'⟩
  have HRL := Aside0.mk hRL
  clear hRL
  have hz := relOf_bad hbad
  generalize (relOf l0 l1 l2 (l3.map toWt)).2 = z at HRL hbad
  rw [hz] at HRL
  clear hz
  have hbz : (z == 0) = false := by simpa using hbad
  have hbn : (z != 0) = true := by simpa using hbad
  clear hbad hr0 hr1 hr2 hr3 hc0 hc1 hc2 hc3 hK hK2 hG hwl b0 bR b1 b2 b3
  go_enter Tryz.func5, Tryz.ntmps5
  go_wp2_with ((go_at_call 14; with_reducible refine (HSM.out _ (below_alloc (Below.refl _ _) _)).mono ?_; rintro e w1 ⟨rfl, hb⟩; have HB1 := Aside0.mk (below_step (below_alloc (Below.refl w.heap.size w) (.cells (csv A0 A1 A2 A3 l0.length l1.length l2.length l3.length c0 c1 c2 c3) 42)) hb); have HC1 := Aside0.mk (ClB.mk HB1.out (blk_below (heap_alloc_new w (.cells (csv A0 A1 A2 A3 l0.length l1.length l2.length l3.length c0 c1 c2 c3) 42)) hb)); clear hb))
  refine sX (ds := []) (S := fun w' => w'.cell? ⟨w.heap.size, 0, none⟩ = some (.slice A0 l0.length c0) ∧ w'.cell? ⟨w.heap.size, 1, none⟩ = some (.slice A1 l1.length c1) ∧ w'.cell? ⟨w.heap.size, 2, none⟩ = some (.slice A2 l2.length c2) ∧ w'.cell? ⟨w.heap.size, 3, none⟩ = some (.slice A3 l3.length c3)) cls.tab3 cls.bits3 (HC1.out.below (below_drew1 (Below.refl _ _))).cells (fun HT_ HW_ hHeld => ?_)
  have HC2 := Aside0.mk (HC1.out.below (below_drew1 (Below.refl _ _)))
  clear HC1 HB1
  generalize w1.drew = w2 at HC2 hHeld ⊢
  refine pX HT_ 0 1 20 ?_
  refine pX HT_ 2 5 22 ?_
  refine pX HT_ 4 21 24 ?_
  refine pX HT_ 6 85 26 ?_
  refine tX HT_ HW_ hHeld 1 87 21 ?_
  refine tX HT_ HW_ hHeld 3 95 23 ?_
  refine tX HT_ HW_ hHeld 5 127 25 ?_
  refine tX HT_ HW_ hHeld 7 255 27 ?_
  refine gX HT_ 8 511 28 Tryz.func16 (HOW.out _ HC2.out.base) ?_
  rintro e w3 ⟨v3, rfl, hR, hb⟩
  obtain ⟨Aw, cw, rfl, hcw, hw⟩ := Kd.R_reads hR
  have HC3 := Aside0.mk (HC2.out.below hb)
  have HW3 := Aside0.mk hw
  have HCW := Aside0.mk hcw
  clear hR hb hw hcw HC2
  refine ⟨_, rfl, _, nX, HC3.out.cells, fun hHeld => ?_⟩
  refine gX HT_ 9 1023 29 Tryz.func15 (HRL.out _ HC3.out.base Aw cw HW3.out HCW.out) ?_
  rintro e w4 ⟨B4, d4, rfl, hd4, hC4, hb⟩
  have HC4 := Aside0.mk (HC3.out.below hb)
  have HR4 := Aside0.mk hC4
  have HD4 := Aside0.mk hd4
  clear hb hC4 hd4 HC3 HW3 HCW
  refine ⟨_, rfl, _, nX, HC4.out.cells, fun hHeld => ?_⟩
  refine pX HT_ 10 2047 19 ?_
  refine pX HT_ 11 4095 30 ?_
  refine pX HT_ 12 8191 31 ?_
  refine pX HT_ 13 16383 3 ?_
  refine pX HT_ 14 32767 4 ?_
  refine eX HT_ ?_
  clear HT_ HW_ hHeld
  go_wp2_with (first
    | (go_at_call 9; with_reducible refine (HLV.out _ HC4.out.base).mono ?_; rintro e w5 ⟨rfl, hb⟩; have HB5 := Aside0.mk (below_step HC4.out.base hb); clear hb))
  go_ret
  exact ⟨rfl, HB5.out⟩
set_option maxRecDepth 100000 in
set_option maxHeartbeats 4000000 in
theorem closed_ok (A0 : Option Addr) (c0 : Nat) (l0 : List Md) (A1 : Option Addr) (c1 : Nat) (l1 : List Tg) (A2 : Option Addr) (c2 : Nat) (l2 : List Int) (A3 : Option Addr) (c3 : Nat) (l3 : List WtR) (w : World) (hr0 : Kd.C k63 w A0 l0.length l0) (hc0 : l0.length ≤ c0) (hr1 : Kd.C k71 w A1 l1.length l1) (hc1 : l1.length ≤ c1) (hr2 : Kd.C (Kd.int .i64) w A2 l2.length l2) (hc2 : l2.length ≤ c2) (hr3 : Kd.C k61 w A3 l3.length l3) (hc3 : l3.length ≤ c3) (hG : GW w) {K K2 : Nat} (hK : armadalaw18_small.f K l0 l1 l2 l3 = some true) (hK2 : armadalaw18_own.f K2 l3 = some (l3.map toWt)) (b0 : l0.length ≤ 20) (bR : ∀ x ∈ l0, x.f2.length ≤ 30) (b1 : l1.length ≤ 60) (b2 : l2.length ≤ 30) (b3 : l3.length ≤ 20) (hs : Sm.Short l0) {rs : List Rl} (hok : relOf l0 l1 l2 (l3.map toWt) = (rs, 0)) :
    Calls Tryz.prog 5 #[.agg #[.slice A0 l0.length c0, .slice A1 l1.length c1, .slice A2 l2.length c2, .slice A3 l3.length c3]] w fun e w' => e = .returned (.bool true) ∧ Below w.heap.size w w' := by
  have HSM := Aside0.mk (fun (W : World) (hb : Below w.heap.size w W) => armadalaw18_small.calls K A0 c0 l0 A1 c1 l1 A2 c2 l2 A3 c3 l3 true W (Kd.C_below hr0 hb) hc0 (Kd.C_below hr1 hb) hc1 (Kd.C_below hr2 hb) hc2 (Kd.C_below hr3 hb) hc3 hK)
  have HLV := Aside0.mk (fun (W : World) (hb : Below w.heap.size w W) => live_walk W (hG.below hb))
  have HOW := Aside0.mk (fun (W : World) (hb : Below w.heap.size w W) => armadalaw18_own.calls K2 A3 c3 l3 (l3.map toWt) W (Kd.C_below hr3 hb) hc3 hK2)
  have hwl : (l3.map toWt).length ≤ 20 := by rw [List.length_map]; exact b3
  have hRL : ∀ (W : World) (hb : Below w.heap.size w W) (Aw : Option Addr) (cw : Nat), Kd.C k72 W Aw (l3.map toWt).length (l3.map toWt) → (l3.map toWt).length ≤ cw → Calls Tryz.prog 15 #[.slice A0 l0.length c0, .slice A1 l1.length c1, .slice A2 l2.length c2, .slice Aw (l3.map toWt).length cw] W fun e w' => ∃ (B : Option Addr) (d : Nat), e = .returned (.tuple #[.slice B (relOf l0 l1 l2 (l3.map toWt)).1.length d, .int .i64 (relOf l0 l1 l2 (l3.map toWt)).2]) ∧ (relOf l0 l1 l2 (l3.map toWt)).1.length ≤ d ∧ Kd.C k30 w' B (relOf l0 l1 l2 (l3.map toWt)).1.length (relOf l0 l1 l2 (l3.map toWt)).1 ∧ Below W.heap.size W w' := fun W hb Aw cw hw hcw => by
    refine (releases_calls A0 A1 A2 Aw c0 c1 c2 cw l0 l1 l2 (l3.map toWt) W (hG.below hb) (Kd.C_below hr0 hb) hc0 (Kd.C_below hr1 hb) hc1 (Kd.C_below hr2 hb) hc2 hw hcw (by omega) (by omega) (by omega) (by omega)).mono ?_
    rintro e w' ⟨v, rfl, hR, hb'⟩
    obtain ⟨B, d, rfl, h1, h2⟩ := Kd.R_reads hR
    exact ⟨B, d, rfl, h1, h2, hb'⟩
  have HRL := Aside0.mk hRL
  clear hRL
  have hF := clF (rel_is hok)
  have hrl := relOf_len l0 l1 l2 (l3.map toWt)
  rw [hok] at HRL hrl
  obtain ⟨out, hout⟩ : ∃ out, rs.map (·.f0) = out := ⟨_, rfl⟩
  rw [hout] at hF
  have HWANT := Aside0.mk (fun (i : Nat) (m : Md) (hm : l0[i]? = some m) => (show out.contains (i : Int) = ((l2.contains (i : Int) || l3.any (fun w => w.f0.toList == m.f1.toList)) || (edgesG l0 (i : Int)).any (fun d => out.contains d)) from by rw [hF.want i m hm, List.any_map]; rfl))
  have HF := Aside0.mk hF
  have hrl2 : rs.length ≤ 12 := hrl
  clear hrl hout hF hok hK2
  generalize l3.map toWt = ws at *
  have HM := Aside0.mk (fun (W : World) (hb : Below w.heap.size w W) => Kd.C_below hr0 hb)
  have HCH := Aside0.mk (fun (W : World) (hb : Below w.heap.size w W) => Kd.C_below hr2 hb)
  have HWT := Aside0.mk (fun (W : World) (hb : Below w.heap.size w W) => Kd.C_below hr3 hb)
  have HED := Aside0.mk (fun (W : World) (hb : Below w.heap.size w W) (z : Int) => ed18 (Kd.C_below hr0 hb) hc0 hs z)
  have HICH := Aside0.mk (fun (W : World) (hb : Below w.heap.size w W) (z : Int) => in18 (Kd.C_below hr2 hb) hc2 z)
  have HEL := Aside0.mk (fun (z : Int) => edG_len l0 z)
  clear hr0 hr1 hr2 hr3 hc0 hc1 hc2 hc3 hK hG hwl bR hs
  go_enter Tryz.func5, Tryz.ntmps5
  go_wp2_with ((go_at_call 14; with_reducible refine (HSM.out _ (below_alloc (Below.refl _ _) _)).mono ?_; rintro e w1 ⟨rfl, hb⟩; have HB1 := Aside0.mk (below_step (below_alloc (Below.refl w.heap.size w) (.cells (csv A0 A1 A2 A3 l0.length l1.length l2.length l3.length c0 c1 c2 c3) 42)) hb); have HC1 := Aside0.mk (ClB.mk HB1.out (blk_below (heap_alloc_new w (.cells (csv A0 A1 A2 A3 l0.length l1.length l2.length l3.length c0 c1 c2 c3) 42)) hb)); clear hb))
  refine sX (ds := []) (S := fun w' => w'.cell? ⟨w.heap.size, 0, none⟩ = some (.slice A0 l0.length c0) ∧ w'.cell? ⟨w.heap.size, 1, none⟩ = some (.slice A1 l1.length c1) ∧ w'.cell? ⟨w.heap.size, 2, none⟩ = some (.slice A2 l2.length c2) ∧ w'.cell? ⟨w.heap.size, 3, none⟩ = some (.slice A3 l3.length c3)) cls.tab3 cls.bits3 (HC1.out.below (below_drew1 (Below.refl _ _))).cells (fun HT_ HW_ hHeld => ?_)
  have HC2 := Aside0.mk (HC1.out.below (below_drew1 (Below.refl _ _)))
  clear HC1 HB1
  generalize w1.drew = w2 at HC2 hHeld ⊢
  refine pX HT_ 0 1 20 ?_
  refine pX HT_ 2 5 22 ?_
  refine pX HT_ 4 21 24 ?_
  refine pX HT_ 6 85 26 ?_
  refine tX HT_ HW_ hHeld 1 87 21 ?_
  refine tX HT_ HW_ hHeld 3 95 23 ?_
  refine tX HT_ HW_ hHeld 5 127 25 ?_
  refine tX HT_ HW_ hHeld 7 255 27 ?_
  refine gX HT_ 8 511 28 Tryz.func16 (HOW.out _ HC2.out.base) ?_
  rintro e w3 ⟨v3, rfl, hR, hb⟩
  obtain ⟨Aw, cw, rfl, hcw, hw⟩ := Kd.R_reads hR
  have HC3 := Aside0.mk (HC2.out.below hb)
  have HW3 := Aside0.mk hw
  have HCW := Aside0.mk hcw
  clear hR hb hw hcw HC2
  refine ⟨_, rfl, _, nX, HC3.out.cells, fun hHeld => ?_⟩
  refine gX HT_ 9 1023 29 Tryz.func15 (HRL.out _ HC3.out.base Aw cw HW3.out HCW.out) ?_
  rintro e w4 ⟨B4, d4, rfl, hd4, hC4, hb⟩
  have HC4 := Aside0.mk (HC3.out.below hb)
  have HR4 := Aside0.mk hC4
  have HD4 := Aside0.mk hd4
  clear hb hC4 hd4 HC3 HW3 HCW
  refine ⟨_, rfl, _, nX, HC4.out.cells, fun hHeld => ?_⟩
  refine pX HT_ 10 2047 19 ?_
  refine pX HT_ 11 4095 30 ?_
  refine pX HT_ 12 8191 31 ?_
  refine pX HT_ 13 16383 3 ?_
  refine pX HT_ 14 32767 4 ?_
  refine eX HT_ ?_
  clear HT_ HW_ hHeld
  go_wp2
  go_loopg [5, 6] rs.length (fun gg v5 v6 wr => ∃ kk : Nat, kk ≤ rs.length ∧ rs.length - kk ≤ gg ∧ v6 = .int .i64 kk ∧ Aside0 (Kd.R (Kd.int .i64) 3 wr w4.heap.size (fun _ => True) v5 (out.take kk)) ∧ Aside0 (Below w4.heap.size w4 wr))
  case atStart => exact ⟨0, Nat.zero_le _, by omega, rfl, ⟨Kd.R_nil _ _ _ _ _⟩, ⟨Below.refl _ _⟩⟩
  case round =>
    obtain ⟨kk, hkk, hg, rfl, HO, HB⟩ := hrel
    by_cases hlt : kk < rs.length
    · have hltz : (kk : Int) < (rs.length : Int) := by omega
      obtain ⟨r, hr⟩ : ∃ r, rs[kk]? = some r := ⟨_, List.getElem?_eq_getElem hlt⟩
      obtain ⟨ad, hA, _⟩ := at_T30 HR4.out (kk : Int) (by omega) hltz
      subst hA
      obtain ⟨h0, _⟩ := rel_cells (Kd.C_below HR4.out HB.out) hr hlt
      have HTK : Aside0 (out.take kk ++ [r.f0] = out.take (kk + 1)) := ⟨by rw [List.take_add_one, HF.out.at_ kk r hr]; rfl⟩
      have HLN : Aside0 ((out.take kk).length ≤ 12) := ⟨by rw [List.length_take]; omega⟩
      clear hr
      go_wp2_with (first | ((with_reducible refine gate_builtin (b := .append) (xs := #[.tmp 46, .tmp 52]) rfl ?_); at_builtin; refine Kd.R_append (Kd.int .i64) (w0 := w4) w4.heap.size rfl (.tmp 46) (.tmp 52) 39 3 (.int .i64 0) 8 rfl Tryz.underlying39 info3 rfl (by decide) (by omega) u5 (out.take kk) r.f0 [.int .i64 r.f0] (fun _ => True) (fun _ => False) rfl rfl ?aP (fun _ hk => hk.elim) ?aF ?aO ?aB ?aS ?aL ?_; (case aP => exact rfl); (case aB => exact HB.out); (case aF => exact (fun _ _ => trivial)); (case aO => exact HO.out); (case aS => exact below_size HB.out); (case aL => have := HLN.out; omega); intro v1 w5 ho hb hg hat; rw [HTK.out] at ho; have HO1 := Aside0.mk ho; have HB1 := Aside0.mk hb; clear ho hb hg hat))
      go_roundg (rs.length - (kk + 1))
      case measure => omega
      case rel => exact ⟨kk + 1, by omega, by omega, by go_num, HO1, HB1⟩
    · have hltz : ¬ (kk : Int) < (rs.length : Int) := by omega
      have : kk = rs.length := by omega
      subst this
      have hte : out.take rs.length = out := List.take_of_length_le (by rw [HF.out.len]; exact Nat.le_refl _)
      have ho := HO.out
      rw [hte] at ho
      obtain ⟨Ao, co, hu, hco, hCo⟩ := Kd.R_reads ho
      subst hu
      have HCO := Aside0.mk hco
      have HOC := Aside0.mk hCo
      have HC5 := Aside0.mk (HC4.out.below HB.out)
      have HR5 := Aside0.mk (Kd.C_below HR4.out HB.out)
      have HIO := Aside0.mk (fun (W : World) (hb : Below wr.heap.size wr W) (z : Int) => in18 (Kd.C_below HOC.out hb) HCO.out z)
      clear hte ho hco hCo HO HR4 HC4 HB hkk hg hltz
      go_wp2
      go_loopg [7, 8, 9, 10, 11] l0.length (fun gg v7 v8 v9 v10 v11 wr2 => ∃ i : Nat, i ≤ l0.length ∧ l0.length - i ≤ gg ∧ v7 = .int .i64 i ∧ Aside0 (Below wr.heap.size wr wr2))
      case atStart => exact ⟨0, Nat.zero_le _, by omega, rfl, ⟨Below.refl _ _⟩⟩
      case round =>
        obtain ⟨i, hi, hg, rfl, HB2⟩ := hrel
        have HC6 := Aside0.mk (HC5.out.below HB2.out)
        obtain ⟨x0, x1, x2, x3⟩ := HC6.out.cells
        by_cases hlt : i < l0.length
        · have hltz : (i : Int) < (l0.length : Int) := by omega
          obtain ⟨m, hm⟩ : ∃ m, l0[i]? = some m := ⟨_, List.getElem?_eq_getElem hlt⟩
          have HWI := Aside0.mk (HWANT.out i m hm)
          have HMI := Aside0.mk hm
          clear hm
          go_wp2_with (go_at_call 23; with_reducible refine (HICH.out _ HC6.out.base (i : Int)).mono ?_; rintro e w6 ⟨rfl, hb⟩; generalize hb8 : l2.contains (i : Int) = b8; have HB8 := Aside0.mk hb8; have HC7 := Aside0.mk (HC6.out.below hb); have HB7 := Aside0.mk (below_step HB2.out hb); clear hb hb8 HC6)
          clear x0 x1 x2 x3
          go_loopg [8, 9] l3.length (fun gg v8 v9 wr3 => ∃ (k : Nat) (bb : Bool), k ≤ l3.length ∧ l3.length - k ≤ gg ∧ v9 = .int .i64 k ∧ v8 = .bool bb ∧ Aside0 (bb = (b8 || (l3.take k).any (fun x => x.f0.toList == m.f1.toList))) ∧ Aside0 (Below w6.heap.size w6 wr3))
          case atStart => exact ⟨0, b8, Nat.zero_le _, by omega, rfl, rfl, ⟨by simp⟩, ⟨Below.refl _ _⟩⟩
          case round =>
            obtain ⟨k, bb, hk, hg3, rfl, rfl, HBB, HB3⟩ := hrel
            have HC8 := Aside0.mk (HC7.out.below HB3.out)
            obtain ⟨x0, x1, x2, x3⟩ := HC8.out.cells
            by_cases hlk : k < l3.length
            · have hlkz : (k : Int) < (l3.length : Int) := by omega
              obtain ⟨x, hx⟩ : ∃ x, l3[k]? = some x := ⟨_, List.getElem?_eq_getElem hlk⟩
              have HBN := Aside0.mk (any_snoc (fun x : WtR => x.f0.toList == m.f1.toList) hx)
              cases bb with
              | true =>
                clear hx
                go_wp2
                refine sX (ds := []) (S := fun _ => True) cls.tab18 cls.bits18 trivial (fun HT_ HW_ hHeld => ?_)
                have HB4 := Aside0.mk (below_drew1 HB3.out)
                generalize World.drew _ = w8 at HB4 hHeld ⊢
                refine pX HT_ 0 1 72 ?_
                refine pX HT_ 1 3 73 ?_
                refine fX HT_ 2 7 74 ?_
                refine fX HT_ 3 15 75 ?_
                refine fX HT_ 4 31 76 ?_
                refine fX HT_ 5 63 77 ?_
                refine fX HT_ 6 127 78 ?_
                refine fX HT_ 7 255 79 ?_
                refine fX HT_ 8 511 80 ?_
                refine fX HT_ 9 1023 81 ?_
                refine fX HT_ 10 2047 82 ?_
                refine fX HT_ 11 4095 83 ?_
                refine fX HT_ 12 8191 84 ?_
                refine fX HT_ 13 16383 85 ?_
                refine fX HT_ 14 32767 86 ?_
                refine pX HT_ 15 65535 87 ?_
                refine pX HT_ 16 131071 8 ?_
                refine eX HT_ ?_
                clear HT_ HW_ hHeld
                go_wp2
                go_roundg (l3.length - (k + 1))
                case measure => omega
                case rel => exact ⟨k + 1, true, by omega, by omega, by go_num, rfl, ⟨by rw [HBN.out, ← Bool.or_assoc, ← HBB.out]; rfl⟩, HB4⟩
              | false =>
                obtain ⟨a3, hA3, _⟩ := at_T61 (HWT.out w (Below.refl _ _)) (k : Int) (by omega) hlkz
                obtain ⟨a0, A2', c2', hA0, _⟩ := at_T63 (HM.out w (Below.refl _ _)) (i : Int) (by omega) hltz
                subst hA3 hA0
                have HS8 := Aside0.mk (fun (W : World) (hb : Below wr.heap.size wr W) => (⟨(HC8.out.below hb).cells.2.2.2, (HC8.out.below hb).cells.1, want_cell (HWT.out W (HC8.out.below hb).base) hx hlk, mod_cell (HM.out W (HC8.out.below hb).base) HMI.out hlt⟩ : W.cell? ⟨w.heap.size, 3, none⟩ = some (.slice (some a3) l3.length c3) ∧ W.cell? ⟨w.heap.size, 0, none⟩ = some (.slice (some a0) l0.length c0) ∧ W.cell? (a3.add (k * 2)) = some (.string x.f0) ∧ W.cell? ⟨(a0.add (i * 3)).block, (a0.add (i * 3)).off + 1, none⟩ = some (.string m.f1)))
                clear hx
                go_wp2
                refine sX (ds := []) (S := fun w' => w'.cell? ⟨w.heap.size, 3, none⟩ = some (.slice (some a3) l3.length c3) ∧ w'.cell? ⟨w.heap.size, 0, none⟩ = some (.slice (some a0) l0.length c0) ∧ w'.cell? (a3.add (k * 2)) = some (.string x.f0) ∧ w'.cell? ⟨(a0.add (i * 3)).block, (a0.add (i * 3)).off + 1, none⟩ = some (.string m.f1)) cls.tab18 cls.bits18 (HS8.out _ (below_drew1 (Below.refl _ _))) (fun HT_ HW_ hHeld => ?_)
                have HB4 := Aside0.mk (below_drew1 HB3.out)
                generalize World.drew _ = w8 at HB4 hHeld ⊢
                refine pX HT_ 0 1 72 ?_
                refine pX HT_ 1 3 73 ?_
                refine pX HT_ 2 7 74 ?_
                refine pX HT_ 4 23 76 ?_
                refine pX HT_ 8 279 80 ?_
                refine pX HT_ 10 1303 82 ?_
                refine tX HT_ HW_ hHeld 3 1311 75 ?_
                refine pX HT_ 5 1343 77 ?_
                refine pX HT_ 6 1407 78 ?_
                refine tX HT_ HW_ hHeld 7 1535 79 ?_
                refine tX HT_ HW_ hHeld 9 2047 81 ?_
                refine pX HT_ 11 4095 83 ?_
                refine pX HT_ 12 8191 84 ?_
                refine tX HT_ HW_ hHeld 13 16383 85 ?_
                refine pX HT_ 14 32767 86 ?_
                refine pX HT_ 15 65535 87 ?_
                refine pX HT_ 16 131071 8 ?_
                refine eX HT_ ?_
                clear HT_ HW_ hHeld
                go_wp2
                go_roundg (l3.length - (k + 1))
                case measure => omega
                case rel => exact ⟨k + 1, _, by omega, by omega, by go_num, rfl, ⟨by rw [HBN.out, ← Bool.or_assoc, ← HBB.out]; rfl⟩, HB4⟩
            · have hlkz : ¬ (k : Int) < (l3.length : Int) := by omega
              have hke : k = l3.length := by omega
              subst hke
              have HBC : Aside0 (bb = (b8 || l3.any (fun x => x.f0.toList == m.f1.toList))) := ⟨by rw [HBB.out, List.take_length]⟩
              have HB8' := Aside0.mk (below_step HB7.out HB3.out)
              clear HBB hk hg3
              go_wp2_with (go_at_call 24; with_reducible refine (HED.out _ HC8.out.base (i : Int)).mono ?_; rintro e w9 ⟨Bd, dd, rfl, hdd, hCd, hb⟩; generalize hds : edgesG l0 (i : Int) = ds at hdd hCd ⊢; have HDS := Aside0.mk hds; have HC9 := Aside0.mk (HC8.out.below hb); have HD9 := Aside0.mk hCd; have HDD := Aside0.mk hdd; have HB9 := Aside0.mk (below_step HB8'.out hb); clear hds hCd hdd hb HC8)
              clear x0 x1 x2 x3
              have HWJ := Aside0.mk (HDS.out ▸ HWI.out)
              have hdl : ds.length ≤ l0.length := HDS.out ▸ HEL.out (i : Int)
              go_loopg [8, 11] ds.length (fun gg v8 v11 wr4 => ∃ (k : Nat) (b5 : Bool), k ≤ ds.length ∧ ds.length - k ≤ gg ∧ v11 = .int .i64 k ∧ v8 = .bool b5 ∧ Aside0 (b5 = (bb || (ds.take k).any (fun d => out.contains d))) ∧ Aside0 (Below w9.heap.size w9 wr4))
              case atStart => exact ⟨0, bb, Nat.zero_le _, by omega, rfl, rfl, ⟨by simp⟩, ⟨Below.refl _ _⟩⟩
              case round =>
                obtain ⟨k, b5, hk, hg5, rfl, rfl, HB5, HB4⟩ := hrel
                have HC10 := Aside0.mk (HC9.out.below HB4.out)
                have HB10 := Aside0.mk (below_step HB9.out HB4.out)
                by_cases hlk : k < ds.length
                · have hlkz : (k : Int) < (ds.length : Int) := by omega
                  obtain ⟨d, hd⟩ : ∃ d, ds[k]? = some d := ⟨_, List.getElem?_eq_getElem hlk⟩
                  have HBN := Aside0.mk (any_snoc (fun d : Int => out.contains d) hd)
                  cases b5 with
                  | true =>
                    clear hd
                    go_wp2
                    go_roundg (ds.length - (k + 1))
                    case measure => omega
                    case rel => exact ⟨k + 1, true, by omega, by omega, by go_num, rfl, ⟨by rw [HBN.out, ← Bool.or_assoc, ← HB5.out]; rfl⟩, HB4⟩
                  | false =>
                    obtain ⟨a9, hA9, hxd⟩ := Kd.at_int (Kd.C_below HD9.out HB4.out) (k : Int) (by omega) hlkz
                    subst hA9
                    have hdv : rd ds (k : Int) = d := by unfold rd; rw [Int.toNat_natCast, List.getD_eq_getElem?_getD, hd]; rfl
                    rw [hdv, Int.toNat_natCast] at hxd
                    clear hdv hd
                    go_wp2_with (go_at_call 23; with_reducible refine (HIO.out _ HB10.out d).mono ?_; rintro e w11 ⟨rfl, hb⟩; generalize hb11 : out.contains d = b11; have HB11 := Aside0.mk hb11; have HB4' := Aside0.mk (below_step HB4.out hb); clear hb11 hb)
                    go_roundg (ds.length - (k + 1))
                    case measure => omega
                    case rel => exact ⟨k + 1, b11, by omega, by omega, by go_num, rfl, ⟨by rw [HBN.out, ← Bool.or_assoc, ← HB5.out, ← HB11.out]; rfl⟩, HB4'⟩
                · have hlkz : ¬ (k : Int) < (ds.length : Int) := by omega
                  have hke : k = ds.length := by omega
                  subst hke
                  have HBE : Aside0 (out.contains (i : Int) = b5) := ⟨by rw [HWJ.out, HB8.out, ← HBC.out, HB5.out, List.take_length]⟩
                  clear HB5 hk hg5
                  go_wp2_with (go_at_call 23; with_reducible refine (HIO.out _ HB10.out (i : Int)).mono ?_; rw [HBE.out]; rintro e w12 ⟨rfl, hb⟩; have HB12 := Aside0.mk (below_step HB10.out hb); clear hb)
                  go_roundg (l0.length - (i + 1))
                  case measure => omega
                  case rel => exact ⟨i + 1, by omega, by omega, by go_num, HB12⟩
        · have hltz : ¬ (i : Int) < (l0.length : Int) := by omega
          have hie : i = l0.length := by omega
          subst hie
          clear hi hg
          go_wp2
          clear x0 x1 x2 x3
          go_loopg [12, 13, 14] rs.length (fun gg v12 v13 v14 wr5 => ∃ kk : Nat, kk ≤ rs.length ∧ rs.length - kk ≤ gg ∧ v12 = .int .i64 kk ∧ Aside0 (Below wr.heap.size wr wr5))
          case atStart => exact ⟨0, Nat.zero_le _, by omega, rfl, ⟨Below.refl _ _⟩⟩
          case round =>
            obtain ⟨kk, hkk, hg, rfl, HL⟩ := hrel
            have HC7 := Aside0.mk (HC6.out.below HL.out)
            have HBW := Aside0.mk (below_step HB2.out HL.out)
            by_cases hlt : kk < rs.length
            · have hltr : (kk : Int) < (rs.length : Int) := by omega
              obtain ⟨r, hr⟩ : ∃ r, rs[kk]? = some r := ⟨_, List.getElem?_eq_getElem hlt⟩
              obtain ⟨f0, ⟨m, hm, hfit⟩, hnot, hall, hcmp⟩ := HF.out.each kk r hr
              have hor := HF.out.at_ kk r hr
              have hol : out.length = rs.length := HF.out.len
              obtain ⟨ad, hAd, _⟩ := at_T30 HR5.out (kk : Int) (by omega) hltr
              obtain ⟨ao, hAo, _⟩ := Kd.at_int HOC.out (kk : Int) (by omega) (by omega)
              subst hAd hAo
              obtain ⟨j, hj⟩ : ∃ j : Nat, r.f0 = (j : Int) := ⟨r.f0.toNat, by omega⟩
              rw [hj] at f0 hm hnot hall hor
              rw [Int.toNat_natCast] at hm
              have hjl := (List.getElem?_eq_some_iff.1 hm).1
              have hjz : (j : Int) < (l0.length : Int) := by omega
              have hnl : (l0.length ≤ j) = False := eq_false (by omega)
              have hnz : ((l0.length : Int) ≤ (j : Int)) = False := eq_false (by omega)
              have hjn : ((j : Int) < 0) = False := eq_false (by omega)
              have hkc : kk ≤ co := by have := HCO.out; omega
              have hkcz : (kk : Int) ≤ (co : Int) := by omega
              have hkl : (kk : Int) < (out.length : Int) := by omega
              have htl : (out.take kk).length = kk := by rw [List.length_take]; omega
              have HRC := Aside0.mk (fun (W : World) (hb : Below wr.heap.size wr W) => (hj ▸ rel_cells (Kd.C_below HR5.out (below_step HBW.out hb)) hr hlt))
              have HOE := Aside0.mk (fun (W : World) (hb : Below wr.heap.size wr W) => int_cell (Kd.C_below HOC.out (below_step HBW.out hb)) hor (by omega))
              have HTI := Aside0.mk (fun (W : World) (hb : Below wr.heap.size wr W) (z : Int) => (show Calls Tryz.prog 23 #[.slice (some ao) kk co, .int .i64 z] W fun e w' => e = .returned (.bool ((out.take kk).contains z)) ∧ Below W.heap.size W w' from by
                have := in18 (Kd.C_take (Kd.C_below HOC.out (below_step HBW.out hb)) (by omega : kk ≤ out.length)) (by rw [htl]; exact hkc) z
                rwa [htl] at this))
              have HMI := Aside0.mk hm
              have HFIT := Aside0.mk hfit
              have HNOT := Aside0.mk hnot
              have HALL := Aside0.mk hall
              have HCMP := Aside0.mk hcmp
              clear hr hm hfit hnot hall hcmp hor hol htl hj
              go_wp2
              refine sX (ds := []) (S := fun w' => w'.cell? ⟨w.heap.size, 0, none⟩ = some (.slice A0 l0.length c0) ∧ w'.cell? (ad.add (kk * 13)) = some (.int .i64 (j : Int)) ∧ w'.cell? (ao.add kk) = some (.int .i64 (j : Int))) cls.tab29 cls.bits29 ⟨(HC7.out.below (below_drew1 (Below.refl _ _))).cells.1, (HRC.out _ (below_drew1 (Below.refl _ _))).1, HOE.out _ (below_drew1 (Below.refl _ _))⟩ (fun HT_ HW_ hHeld => ?_)
              have HD := Aside0.mk (below_drew1 (Below.refl wr.heap.size wr))
              generalize World.drew _ = w8 at HD hHeld ⊢
              have C9 := HTI.out _ HD.out (j : Int)
              rw [HNOT.out] at C9
              refine pX HT_ 0 1 118 ?_
              refine pX HT_ 1 3 119 ?_
              refine pX HT_ 2 7 120 ?_
              refine pX HT_ 3 15 121 ?_
              refine tX HT_ HW_ hHeld 4 31 122 ?_
              refine pX HT_ 5 63 123 ?_
              refine pX HT_ 6 127 124 ?_
              refine pX HT_ 7 255 125 ?_
              refine pX HT_ 8 511 126 ?_
              refine pX HT_ 9 1023 127 ?_
              refine pX HT_ 10 2047 128 ?_
              refine pX HT_ 12 6143 130 ?_
              refine tX HT_ HW_ hHeld 11 8191 129 ?_
              refine tX HT_ HW_ hHeld 13 16383 131 ?_
              refine pX HT_ 14 32767 132 ?_
              refine pX HT_ 15 65535 133 ?_
              refine pX HT_ 16 131071 134 ?_
              refine pX HT_ 17 262143 135 ?_
              refine pX HT_ 18 524287 136 ?_
              refine pX HT_ 19 1048575 137 ?_
              refine pX HT_ 20 2097151 138 ?_
              refine pX HT_ 21 4194303 139 ?_
              refine pX HT_ 22 8388607 140 ?_
              refine pX HT_ 23 16777215 141 ?_
              refine tX HT_ HW_ hHeld 24 33554431 142 ?_
              refine gX HT_ 25 67108863 143 Tryz.func23 C9 ?_
              rintro e w9 ⟨rfl, hb⟩
              have HD9 := Aside0.mk (below_step HD.out hb)
              clear hb C9
              refine ⟨_, rfl, _, nX, ⟨(HC7.out.below HD9.out).cells.1, (HRC.out _ HD9.out).1, HOE.out _ HD9.out⟩, fun hHeld => ?_⟩
              refine pX HT_ 26 134217727 144 ?_
              refine eX HT_ ?_
              clear HT_ HW_ hHeld
              go_wp2
              refine sX (ds := []) (S := fun w' => w'.cell? ⟨w.heap.size, 0, none⟩ = some (.slice A0 l0.length c0) ∧ w'.cell? (ad.add (kk * 13)) = some (.int .i64 (j : Int))) cls.tab31 cls.bits31 ⟨(HC7.out.below (below_drew1 HD9.out)).cells.1, (HRC.out _ (below_drew1 HD9.out)).1⟩ (fun HT_ HW_ hHeld => ?_)
              have HE := Aside0.mk (below_drew1 HD9.out)
              generalize World.drew _ = w10 at HE hHeld ⊢
              refine pX HT_ 0 1 145 ?_
              refine pX HT_ 2 5 147 ?_
              refine pX HT_ 3 13 148 ?_
              refine pX HT_ 4 29 149 ?_
              refine pX HT_ 5 61 150 ?_
              refine tX HT_ HW_ hHeld 1 63 146 ?_
              refine tX HT_ HW_ hHeld 6 127 151 ?_
              refine gX HT_ 7 255 152 Tryz.func24 (HED.out _ (HC7.out.below HE.out).base (j : Int)) ?_
              rintro e w11 ⟨Bd, dd, rfl, hdd, hCd, hb⟩
              generalize hds : edgesG l0 (j : Int) = ds at hdd hCd ⊢
              have HDS := Aside0.mk hds
              have HD11 := Aside0.mk (below_step HE.out hb)
              have HCD := Aside0.mk hCd
              clear hds hdd hCd hb
              refine ⟨_, rfl, _, nX, ⟨(HC7.out.below HD11.out).cells.1, (HRC.out _ HD11.out).1⟩, fun hHeld => ?_⟩
              refine pX HT_ 8 511 13 ?_
              refine eX HT_ ?_
              clear HT_ HW_ hHeld
              have HAL := Aside0.mk (HDS.out ▸ HALL.out)
              have hdl : ds.length ≤ l0.length := HDS.out ▸ HEL.out (j : Int)
              go_wp2
              go_loopg [14] ds.length (fun gg v14 wr6 => ∃ k : Nat, k ≤ ds.length ∧ ds.length - k ≤ gg ∧ v14 = .int .i64 k ∧ Aside0 (Below w11.heap.size w11 wr6))
              case atStart => exact ⟨0, Nat.zero_le _, by omega, rfl, ⟨Below.refl _ _⟩⟩
              case round =>
                obtain ⟨k, hk, hg6, rfl, HB4⟩ := hrel
                have HE2 := Aside0.mk (below_step HD11.out HB4.out)
                by_cases hlk : k < ds.length
                · have hlkz : (k : Int) < (ds.length : Int) := by omega
                  obtain ⟨d, hd⟩ : ∃ d, ds[k]? = some d := ⟨_, List.getElem?_eq_getElem hlk⟩
                  obtain ⟨a9, hA9, _⟩ := Kd.at_int HCD.out (k : Int) (by omega) hlkz
                  subst hA9
                  have HDC := Aside0.mk (fun (W : World) (hb : Below w11.heap.size w11 W) => int_cell (Kd.C_below HCD.out hb) hd hlk)
                  have hall := HAL.out d (List.mem_of_getElem? hd)
                  clear hd
                  go_wp2
                  refine sX (ds := []) (S := fun w' => w'.cell? (a9.add k) = some (.int .i64 d)) cls.tab35 cls.bits35 (HDC.out _ (below_drew1 HB4.out)) (fun HT_ HW_ hHeld => ?_)
                  have HX := Aside0.mk (below_drew1 HB4.out)
                  generalize World.drew _ = w12 at HX hHeld ⊢
                  have C5 := HIO.out _ (below_step HBW.out (below_step HD11.out HX.out)) d
                  cases hc : out.contains d with
                  | false =>
                    rw [hc] at C5
                    clear hc hall
                    refine pX HT_ 0 1 159 ?_
                    refine pX HT_ 1 3 160 ?_
                    refine pX HT_ 2 7 161 ?_
                    refine pX HT_ 3 15 162 ?_
                    refine tX HT_ HW_ hHeld 4 31 163 ?_
                    refine gX HT_ 5 63 164 Tryz.func23 C5 ?_
                    rintro e w13 ⟨rfl, hb⟩
                    have HX5 := Aside0.mk (below_step HX.out hb)
                    clear hb C5
                    refine ⟨_, rfl, _, nX, HDC.out _ HX5.out, fun hHeld => ?_⟩
                    refine pX HT_ 6 127 165 ?_
                    refine fX HT_ 7 255 166 ?_
                    refine fX HT_ 8 511 167 ?_
                    refine fX HT_ 9 1023 168 ?_
                    refine fX HT_ 10 2047 169 ?_
                    refine fX HT_ 11 4095 170 ?_
                    refine fX HT_ 12 8191 171 ?_
                    refine fX HT_ 13 16383 172 ?_
                    refine fX HT_ 14 32767 173 ?_
                    refine fX HT_ 15 65535 174 ?_
                    refine pX HT_ 16 131071 175 ?_
                    refine eX HT_ ?_
                    clear HT_ HW_ hHeld
                    go_wp2
                    go_roundg (ds.length - (k + 1))
                    case measure => omega
                    case rel => exact ⟨k + 1, by omega, by omega, by go_num, HX5⟩
                  | true =>
                    rw [hc] at C5
                    have hal := hall hc
                    have C14 := fun (W : World) (hb : Below w11.heap.size w11 W) => HTI.out W (below_step HD11.out hb) d
                    rw [hal] at C14
                    have HC14 := Aside0.mk C14
                    clear hc hall hal C14
                    refine pX HT_ 0 1 159 ?_
                    refine pX HT_ 1 3 160 ?_
                    refine pX HT_ 2 7 161 ?_
                    refine pX HT_ 3 15 162 ?_
                    refine tX HT_ HW_ hHeld 4 31 163 ?_
                    refine gX HT_ 5 63 164 Tryz.func23 C5 ?_
                    rintro e w13 ⟨rfl, hb⟩
                    have HX5 := Aside0.mk (below_step HX.out hb)
                    clear hb C5
                    refine ⟨_, rfl, _, nX, HDC.out _ HX5.out, fun hHeld => ?_⟩
                    refine pX HT_ 6 127 165 ?_
                    refine pX HT_ 7 255 166 ?_
                    refine pX HT_ 8 511 167 ?_
                    refine pX HT_ 9 1023 168 ?_
                    refine pX HT_ 10 2047 169 ?_
                    refine pX HT_ 11 4095 170 ?_
                    refine pX HT_ 12 8191 171 ?_
                    refine tX HT_ HW_ hHeld 13 16383 172 ?_
                    refine gX HT_ 14 32767 173 Tryz.func23 (HC14.out _ HX5.out) ?_
                    rintro e w14 ⟨rfl, hb⟩
                    have HX14 := Aside0.mk (below_step HX5.out hb)
                    clear hb
                    refine ⟨_, rfl, _, nX, HDC.out _ HX14.out, fun hHeld => ?_⟩
                    refine pX HT_ 15 65535 174 ?_
                    refine pX HT_ 16 131071 175 ?_
                    refine eX HT_ ?_
                    clear HT_ HW_ hHeld
                    go_wp2
                    go_roundg (ds.length - (k + 1))
                    case measure => omega
                    case rel => exact ⟨k + 1, by omega, by omega, by go_num, HX14⟩
                · have hlkz : ¬ (k : Int) < (ds.length : Int) := by omega
                  obtain ⟨a0, A2', c2', hA0, _⟩ := at_T63 (HM.out w (Below.refl _ _)) (j : Int) (by omega) hjz
                  subst hA0
                  have HRD := HRC
                  have HCM := HCMP
                  clear HRC HCMP
                  generalize r.f1 = hv at HRD HCM
                  cases hv with
                  | false =>
                    go_wp2
                    have HSY := Aside0.mk (fun (w' : World) (hb : Below wr.heap.size wr w') => (⟨(HC7.out.below (below_step HE2.out hb)).cells.1, mod_cell (HM.out w' (HC7.out.below (below_step HE2.out hb)).base) HMI.out hjl, HRD.out w' (below_step HE2.out hb)⟩ : w'.cell? ⟨w.heap.size, 0, none⟩ = some (.slice (some a0) l0.length c0) ∧ w'.cell? ⟨(a0.add (j * 3)).block, (a0.add (j * 3)).off + 1, none⟩ = some (.string m.f1) ∧ w'.cell? (ad.add (kk * 13)) = some (.int .i64 (j : Int)) ∧ w'.cell? ⟨(ad.add (kk * 13)).block, (ad.add (kk * 13)).off + 1, none⟩ = some (.bool false) ∧ w'.cell? ⟨(ad.add (kk * 13)).block, (ad.add (kk * 13)).off + 2, none⟩ = some (.int .i64 r.f2.f0) ∧ w'.cell? ⟨(ad.add (kk * 13)).block, (ad.add (kk * 13)).off + 3, none⟩ = some (.int .i64 r.f2.f1) ∧ w'.cell? ⟨(ad.add (kk * 13)).block, (ad.add (kk * 13)).off + 4, none⟩ = some (.int .i64 r.f2.f2) ∧ w'.cell? ⟨(ad.add (kk * 13)).block, (ad.add (kk * 13)).off + 5, none⟩ = some (.string r.f2.f3) ∧ w'.cell? ⟨(ad.add (kk * 13)).block, (ad.add (kk * 13)).off + 6, none⟩ = some (.string r.f2.f4) ∧ w'.cell? ⟨(ad.add (kk * 13)).block, (ad.add (kk * 13)).off + 7, none⟩ = some (.int .i64 r.f3.f0) ∧ w'.cell? ⟨(ad.add (kk * 13)).block, (ad.add (kk * 13)).off + 8, none⟩ = some (.int .i64 r.f3.f1) ∧ w'.cell? ⟨(ad.add (kk * 13)).block, (ad.add (kk * 13)).off + 9, none⟩ = some (.int .i64 r.f3.f2) ∧ w'.cell? ⟨(ad.add (kk * 13)).block, (ad.add (kk * 13)).off + 10, none⟩ = some (.string r.f3.f3) ∧ w'.cell? ⟨(ad.add (kk * 13)).block, (ad.add (kk * 13)).off + 11, none⟩ = some (.string r.f3.f4) ∧ w'.cell? ⟨(ad.add (kk * 13)).block, (ad.add (kk * 13)).off + 12, none⟩ = some (.int .i64 r.f4)))
                    refine sX (ds := []) (S := fun w' => w'.cell? ⟨w.heap.size, 0, none⟩ = some (.slice (some a0) l0.length c0) ∧ w'.cell? ⟨(a0.add (j * 3)).block, (a0.add (j * 3)).off + 1, none⟩ = some (.string m.f1) ∧ w'.cell? (ad.add (kk * 13)) = some (.int .i64 (j : Int)) ∧ w'.cell? ⟨(ad.add (kk * 13)).block, (ad.add (kk * 13)).off + 1, none⟩ = some (.bool false) ∧ w'.cell? ⟨(ad.add (kk * 13)).block, (ad.add (kk * 13)).off + 2, none⟩ = some (.int .i64 r.f2.f0) ∧ w'.cell? ⟨(ad.add (kk * 13)).block, (ad.add (kk * 13)).off + 3, none⟩ = some (.int .i64 r.f2.f1) ∧ w'.cell? ⟨(ad.add (kk * 13)).block, (ad.add (kk * 13)).off + 4, none⟩ = some (.int .i64 r.f2.f2) ∧ w'.cell? ⟨(ad.add (kk * 13)).block, (ad.add (kk * 13)).off + 5, none⟩ = some (.string r.f2.f3) ∧ w'.cell? ⟨(ad.add (kk * 13)).block, (ad.add (kk * 13)).off + 6, none⟩ = some (.string r.f2.f4) ∧ w'.cell? ⟨(ad.add (kk * 13)).block, (ad.add (kk * 13)).off + 7, none⟩ = some (.int .i64 r.f3.f0) ∧ w'.cell? ⟨(ad.add (kk * 13)).block, (ad.add (kk * 13)).off + 8, none⟩ = some (.int .i64 r.f3.f1) ∧ w'.cell? ⟨(ad.add (kk * 13)).block, (ad.add (kk * 13)).off + 9, none⟩ = some (.int .i64 r.f3.f2) ∧ w'.cell? ⟨(ad.add (kk * 13)).block, (ad.add (kk * 13)).off + 10, none⟩ = some (.string r.f3.f3) ∧ w'.cell? ⟨(ad.add (kk * 13)).block, (ad.add (kk * 13)).off + 11, none⟩ = some (.string r.f3.f4) ∧ w'.cell? ⟨(ad.add (kk * 13)).block, (ad.add (kk * 13)).off + 12, none⟩ = some (.int .i64 r.f4)) cls.tab37 cls.bits37 (HSY.out _ (below_drew1 (Below.refl _ _))) (fun HT_ HW_ hHeld => ?_)
                    have HY := Aside0.mk (below_drew1 (Below.refl wr.heap.size wr))
                    generalize World.drew _ = w15 at HY hHeld ⊢
                    have C15 := fit18 w15 m.f1 r.f3
                    rw [HFIT.out] at C15
                    refine pX HT_ 0 1 176 ?_
                    refine pX HT_ 2 5 178 ?_
                    refine pX HT_ 3 13 179 ?_
                    refine pX HT_ 4 29 180 ?_
                    refine pX HT_ 5 61 181 ?_
                    refine pX HT_ 10 1085 186 ?_
                    refine pX HT_ 11 3133 187 ?_
                    refine pX HT_ 12 7229 188 ?_
                    refine pX HT_ 13 15421 189 ?_
                    refine tX HT_ HW_ hHeld 1 15423 177 ?_
                    refine tX HT_ HW_ hHeld 6 15487 182 ?_
                    refine pX HT_ 7 15615 183 ?_
                    refine pX HT_ 8 15871 184 ?_
                    refine tX HT_ HW_ hHeld 9 16383 185 ?_
                    refine tX HT_ HW_ hHeld 14 32767 190 ?_
                    refine gX HT_ 15 65535 191 Tryz.func25 C15 ?_
                    rintro e w16 ⟨rfl, hb⟩
                    have HZ := Aside0.mk (below_step HY.out hb)
                    have HY15 := Aside0.mk (below_step HE2.out HZ.out)
                    clear hb C15
                    refine ⟨_, rfl, _, nX, HSY.out _ HZ.out, fun hHeld => ?_⟩
                    refine pX HT_ 16 131071 192 ?_
                    refine pX HT_ 17 262143 193 ?_
                    refine pX HT_ 18 524287 194 ?_
                    refine pX HT_ 19 1048575 195 ?_
                    refine pX HT_ 20 2097151 196 ?_
                    refine pX HT_ 21 4194303 197 ?_
                    refine tX HT_ HW_ hHeld 22 8388607 198 ?_
                    refine pX HT_ 23 16777215 199 ?_
                    refine fX HT_ 24 33554431 200 ?_
                    refine fX HT_ 25 67108863 201 ?_
                    refine fX HT_ 26 134217727 202 ?_
                    refine fX HT_ 27 268435455 203 ?_
                    refine fX HT_ 28 536870911 204 ?_
                    refine fX HT_ 29 1073741823 205 ?_
                    refine fX HT_ 30 2147483647 206 ?_
                    refine fX HT_ 31 4294967295 207 ?_
                    refine fX HT_ 32 8589934591 208 ?_
                    refine fX HT_ 33 17179869183 209 ?_
                    refine fX HT_ 34 34359738367 210 ?_
                    refine fX HT_ 35 68719476735 211 ?_
                    refine pX HT_ 36 137438953471 212 ?_
                    refine pX HT_ 37 274877906943 213 ?_
                    refine eX HT_ ?_
                    clear HT_ HW_ hHeld
                    go_wp2
                    go_roundg (rs.length - (kk + 1))
                    case measure => omega
                    case rel => exact ⟨kk + 1, by omega, by omega, by go_num, ⟨below_step HL.out HY15.out⟩⟩
                  | true =>
                    go_wp2
                    have HSY := Aside0.mk (fun (w' : World) (hb : Below wr.heap.size wr w') => (⟨(HC7.out.below (below_step HE2.out hb)).cells.1, mod_cell (HM.out w' (HC7.out.below (below_step HE2.out hb)).base) HMI.out hjl, HRD.out w' (below_step HE2.out hb)⟩ : w'.cell? ⟨w.heap.size, 0, none⟩ = some (.slice (some a0) l0.length c0) ∧ w'.cell? ⟨(a0.add (j * 3)).block, (a0.add (j * 3)).off + 1, none⟩ = some (.string m.f1) ∧ w'.cell? (ad.add (kk * 13)) = some (.int .i64 (j : Int)) ∧ w'.cell? ⟨(ad.add (kk * 13)).block, (ad.add (kk * 13)).off + 1, none⟩ = some (.bool true) ∧ w'.cell? ⟨(ad.add (kk * 13)).block, (ad.add (kk * 13)).off + 2, none⟩ = some (.int .i64 r.f2.f0) ∧ w'.cell? ⟨(ad.add (kk * 13)).block, (ad.add (kk * 13)).off + 3, none⟩ = some (.int .i64 r.f2.f1) ∧ w'.cell? ⟨(ad.add (kk * 13)).block, (ad.add (kk * 13)).off + 4, none⟩ = some (.int .i64 r.f2.f2) ∧ w'.cell? ⟨(ad.add (kk * 13)).block, (ad.add (kk * 13)).off + 5, none⟩ = some (.string r.f2.f3) ∧ w'.cell? ⟨(ad.add (kk * 13)).block, (ad.add (kk * 13)).off + 6, none⟩ = some (.string r.f2.f4) ∧ w'.cell? ⟨(ad.add (kk * 13)).block, (ad.add (kk * 13)).off + 7, none⟩ = some (.int .i64 r.f3.f0) ∧ w'.cell? ⟨(ad.add (kk * 13)).block, (ad.add (kk * 13)).off + 8, none⟩ = some (.int .i64 r.f3.f1) ∧ w'.cell? ⟨(ad.add (kk * 13)).block, (ad.add (kk * 13)).off + 9, none⟩ = some (.int .i64 r.f3.f2) ∧ w'.cell? ⟨(ad.add (kk * 13)).block, (ad.add (kk * 13)).off + 10, none⟩ = some (.string r.f3.f3) ∧ w'.cell? ⟨(ad.add (kk * 13)).block, (ad.add (kk * 13)).off + 11, none⟩ = some (.string r.f3.f4) ∧ w'.cell? ⟨(ad.add (kk * 13)).block, (ad.add (kk * 13)).off + 12, none⟩ = some (.int .i64 r.f4)))
                    refine sX (ds := []) (S := fun w' => w'.cell? ⟨w.heap.size, 0, none⟩ = some (.slice (some a0) l0.length c0) ∧ w'.cell? ⟨(a0.add (j * 3)).block, (a0.add (j * 3)).off + 1, none⟩ = some (.string m.f1) ∧ w'.cell? (ad.add (kk * 13)) = some (.int .i64 (j : Int)) ∧ w'.cell? ⟨(ad.add (kk * 13)).block, (ad.add (kk * 13)).off + 1, none⟩ = some (.bool true) ∧ w'.cell? ⟨(ad.add (kk * 13)).block, (ad.add (kk * 13)).off + 2, none⟩ = some (.int .i64 r.f2.f0) ∧ w'.cell? ⟨(ad.add (kk * 13)).block, (ad.add (kk * 13)).off + 3, none⟩ = some (.int .i64 r.f2.f1) ∧ w'.cell? ⟨(ad.add (kk * 13)).block, (ad.add (kk * 13)).off + 4, none⟩ = some (.int .i64 r.f2.f2) ∧ w'.cell? ⟨(ad.add (kk * 13)).block, (ad.add (kk * 13)).off + 5, none⟩ = some (.string r.f2.f3) ∧ w'.cell? ⟨(ad.add (kk * 13)).block, (ad.add (kk * 13)).off + 6, none⟩ = some (.string r.f2.f4) ∧ w'.cell? ⟨(ad.add (kk * 13)).block, (ad.add (kk * 13)).off + 7, none⟩ = some (.int .i64 r.f3.f0) ∧ w'.cell? ⟨(ad.add (kk * 13)).block, (ad.add (kk * 13)).off + 8, none⟩ = some (.int .i64 r.f3.f1) ∧ w'.cell? ⟨(ad.add (kk * 13)).block, (ad.add (kk * 13)).off + 9, none⟩ = some (.int .i64 r.f3.f2) ∧ w'.cell? ⟨(ad.add (kk * 13)).block, (ad.add (kk * 13)).off + 10, none⟩ = some (.string r.f3.f3) ∧ w'.cell? ⟨(ad.add (kk * 13)).block, (ad.add (kk * 13)).off + 11, none⟩ = some (.string r.f3.f4) ∧ w'.cell? ⟨(ad.add (kk * 13)).block, (ad.add (kk * 13)).off + 12, none⟩ = some (.int .i64 r.f4)) cls.tab37 cls.bits37 (HSY.out _ (below_drew1 (Below.refl _ _))) (fun HT_ HW_ hHeld => ?_)
                    have HY := Aside0.mk (below_drew1 (Below.refl wr.heap.size wr))
                    generalize World.drew _ = w15 at HY hHeld ⊢
                    have C15 := fit18 w15 m.f1 r.f3
                    rw [HFIT.out] at C15
                    refine pX HT_ 0 1 176 ?_
                    refine pX HT_ 2 5 178 ?_
                    refine pX HT_ 3 13 179 ?_
                    refine pX HT_ 4 29 180 ?_
                    refine pX HT_ 5 61 181 ?_
                    refine pX HT_ 10 1085 186 ?_
                    refine pX HT_ 11 3133 187 ?_
                    refine pX HT_ 12 7229 188 ?_
                    refine pX HT_ 13 15421 189 ?_
                    refine tX HT_ HW_ hHeld 1 15423 177 ?_
                    refine tX HT_ HW_ hHeld 6 15487 182 ?_
                    refine pX HT_ 7 15615 183 ?_
                    refine pX HT_ 8 15871 184 ?_
                    refine tX HT_ HW_ hHeld 9 16383 185 ?_
                    refine tX HT_ HW_ hHeld 14 32767 190 ?_
                    refine gX HT_ 15 65535 191 Tryz.func25 C15 ?_
                    rintro e w16 ⟨rfl, hb⟩
                    have HZ := Aside0.mk (below_step HY.out hb)
                    have HY15 := Aside0.mk (below_step HE2.out HZ.out)
                    clear hb C15
                    refine ⟨_, rfl, _, nX, HSY.out _ HZ.out, fun hHeld => ?_⟩
                    have C34 := cmp18 w16 r.f2 r.f3
                    rw [HCM.out (by trivial)] at C34
                    refine pX HT_ 16 131071 192 ?_
                    refine pX HT_ 17 262143 193 ?_
                    refine pX HT_ 18 524287 194 ?_
                    refine pX HT_ 19 1048575 195 ?_
                    refine pX HT_ 20 2097151 196 ?_
                    refine pX HT_ 21 4194303 197 ?_
                    refine tX HT_ HW_ hHeld 22 8388607 198 ?_
                    refine pX HT_ 23 16777215 199 ?_
                    refine pX HT_ 24 33554431 200 ?_
                    refine pX HT_ 25 67108863 201 ?_
                    refine pX HT_ 26 134217727 202 ?_
                    refine pX HT_ 27 268435455 203 ?_
                    refine pX HT_ 29 805306367 205 ?_
                    refine pX HT_ 30 1879048191 206 ?_
                    refine pX HT_ 31 4026531839 207 ?_
                    refine pX HT_ 32 8321499135 208 ?_
                    refine tX HT_ HW_ hHeld 28 8589934591 204 ?_
                    refine tX HT_ HW_ hHeld 33 17179869183 209 ?_
                    refine gX HT_ 34 34359738367 210 Tryz.func26 C34 ?_
                    rintro e w17 ⟨rfl, hb⟩
                    have HZ34 := Aside0.mk (below_step HZ.out hb)
                    have HY34 := Aside0.mk (below_step HE2.out HZ34.out)
                    clear hb C34
                    refine ⟨_, rfl, _, nX, HSY.out _ HZ34.out, fun hHeld => ?_⟩
                    refine pX HT_ 35 68719476735 211 ?_
                    refine pX HT_ 36 137438953471 212 ?_
                    refine pX HT_ 37 274877906943 213 ?_
                    refine eX HT_ ?_
                    clear HT_ HW_ hHeld
                    go_wp2
                    go_roundg (rs.length - (kk + 1))
                    case measure => omega
                    case rel => exact ⟨kk + 1, by omega, by omega, by go_num, ⟨below_step HL.out HY34.out⟩⟩
            · have hltr : ¬ (kk : Int) < (rs.length : Int) := by omega
              go_wp2_with (go_at_call 9; with_reducible refine (HLV.out _ HC7.out.base).mono ?_; rintro e w20 ⟨rfl, hb⟩; have HB20 := Aside0.mk (below_step HC7.out.base hb); clear hb)
              go_ret
              exact ⟨rfl, HB20.out⟩
end Go.Proofs.YtillhaipemengaaGreatDoor
end
