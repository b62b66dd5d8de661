/- The texts Down, Gcheck in one file, without what these claims do not use (put together by prune2.py). -/
import Derived.Test.YtillhaipemengaaGreatDoorZC13
import Derived.Test.YtillhaipemengaaGreatDoorZC12
import Derived.Shelf.Slices.In.SortNone
import Derived.Sort.OwnSorted
import Derived.Sort.Grow
import Derived.Lib.OwnBridge
import Derived.Sort.EveryDepth
section
namespace Go.Proofs.YtillhaipemengaaGreatDoor
open Go Go.RowKit Go.Sort Go.Proofs Go.Proofs.YtillhaipemengaaGreatDoorW.PrintWords Go.Proofs.YtillhaipemengaaGreatDoor.K0
set_option linter.unusedVariables false
set_option linter.unusedSimpArgs false
/-- All that was there, but for one block, is as it was. -/
structure But (B : Nat) (w w' : World) : Prop where
  os : w'.os = w.os
  tape : w'.tape = w.tape
  output : w'.output = w.output
  size : w.heap.size ≤ w'.heap.size
  block : ∀ k, k < w.heap.size → k ≠ B → w'.heap[k]? = w.heap[k]?
theorem But.refl (B : Nat) (w : World) : But B w w := ⟨rfl, rfl, rfl, Nat.le_refl _, fun _ _ _ => rfl⟩
theorem But.trans {B : Nat} {a b c : World} (h : But B a b) (k : But B b c) : But B a c :=
  ⟨k.os.trans h.os, k.tape.trans h.tape, k.output.trans h.output, Nat.le_trans h.size k.size, fun i hi hn => (k.block i (Nat.lt_of_lt_of_le hi h.size) hn).trans (h.block i hi hn)⟩
theorem But.of {B : Nat} {w w' : World} (h : Below w.heap.size w w') : But B w w' := ⟨h.os, h.tape, h.output, h.size, fun k hk _ => h.block k hk⟩
theorem But.set {B : Nat} {w w' : World} (h : But B w w') (o : Nat) (u : Value) : But B w (w'.setCell ⟨B, o, none⟩ u) :=
  h.trans ⟨rfl, rfl, rfl, by simp [World.setCell], fun k _ hn => Below.heap_setCell _ _ _ _ hn⟩
theorem But.below {B C : Nat} {w w' : World} (h : But B w w') (hC : C ≤ B) (hs : C ≤ w.heap.size) : Below C w w' := ⟨h.os, h.tape, h.output, h.size, fun k hk => h.block k (by omega) (by omega)⟩
theorem But.row {B e base : Nat} {w w' : World} {v : Value} {xs : List Int} (h : But B w w') (hr : Kd.R (Kd.int .i64) e w base (fun k => k ≠ B) v xs) : Kd.R (Kd.int .i64) e w' base (fun k => k ≠ B) v xs :=
  Kd.R_step hr (fun k hk hl => h.block k hl hk)
theorem below_cell {w W : World} {q : Addr} {v : Value} (hb : Below w.heap.size w W) (h : w.cell? q = some v) : W.cell? q = some v := (hb.cell (World.block_lt_of_cell? w _ h)).trans h
/-- Block B holds who was met. -/
def MetIs (B : Nat) (m : List Bool) (w : World) : Prop := w.heap[B]? = some (.cells (m.map Value.bool).toArray 114 (0, 0))
theorem MetIs.lt {B : Nat} {m : List Bool} {w : World} (h : MetIs B m w) : B < w.heap.size := by
  rcases Nat.lt_or_ge B w.heap.size with h' | h'
  · exact h'
  · unfold MetIs at h; simp [Array.getElem?_eq_none h'] at h
theorem MetIs.cell {B : Nat} {m : List Bool} {w : World} (h : MetIs B m w) {k : Nat} (hk : k < m.length) : w.cell? ⟨B, k, none⟩ = some (.bool (m.getD k false)) := by
  unfold MetIs at h
  unfold World.cell?
  simp only [h]
  simp [List.getD_eq_getElem?_getD, List.getElem?_eq_getElem hk]
theorem MetIs.free {B : Nat} {m : List Bool} {w : World} (h : MetIs B m w) (k : Nat) : w.frozen? ⟨B, k, none⟩ = false := by
  unfold MetIs at h
  simp [World.frozen?, h]
theorem MetIs.below {B : Nat} {m : List Bool} {w w' : World} (h : MetIs B m w) (hb : Below w.heap.size w w') : MetIs B m w' := (hb.block B h.lt).trans h
theorem MetIs.set {B : Nat} {m : List Bool} {w : World} (h : MetIs B m w) (k : Nat) : MetIs B (m.set k true) (w.setCell ⟨B, k, none⟩ (.bool true)) := by
  have hlt := h.lt
  unfold MetIs at h ⊢
  have h' : w.heap[B] = .cells (m.map Value.bool).toArray 114 (0, 0) := by simpa [Array.getElem?_eq_getElem hlt] using h
  show (w.heap.modify B _)[B]? = _
  rw [Array.getElem?_eq_getElem (by simpa using hlt), Array.getElem_modify_self, h']
  simp [List.map_set]
theorem MetIs.put {B : Nat} {m : List Bool} {w : World} (h : MetIs B m w) (k : Nat) (b : Bool) : MetIs B (m.set k b) (w.setCell ⟨B, k, none⟩ (.bool b)) := by
  have hlt := h.lt
  unfold MetIs at h ⊢
  have h' : w.heap[B] = .cells (m.map Value.bool).toArray 114 (0, 0) := by simpa [Array.getElem?_eq_getElem hlt] using h
  show (w.heap.modify B _)[B]? = _
  rw [Array.getElem?_eq_getElem (by simpa using hlt), Array.getElem_modify_self, h']
  simp [List.map_set]
/-- Whom a module requires, by its place. -/
def edgesOf (l : List S63) (i : Nat) : List Int := match l[i]? with | some x => edgesFrom x 0 l | none => []
theorem edgesOf_at {l : List S63} {i : Nat} {x : S63} (h : l[i]? = some x) : edgesOf l i = edgesFrom x 0 l := by unfold edgesOf; rw [h]
theorem mem_edgesFrom {x : S63} {z : Int} : ∀ {l : List S63} {k : Nat}, z ∈ edgesFrom x k l ↔ ∃ j m, l[j]? = some m ∧ z = ((k + j : Nat) : Int) ∧ needs x m.f1 = true
  | [], k => by simp [edgesFrom]
  | y :: l, k => by
    rw [edgesFrom_at x k _ y l rfl, List.mem_append, mem_edgesFrom (l := l)]
    constructor
    · rintro (h | ⟨j, m, h1, h2, h3⟩)
      · split at h
        · rename_i hn
          obtain rfl := List.mem_singleton.1 h
          exact ⟨0, y, rfl, by simp, hn⟩
        · cases h
      · exact ⟨j + 1, m, by simpa using h1, by omega, h3⟩
    · rintro ⟨j, m, h1, h2, h3⟩
      cases j with
      | zero =>
        obtain rfl : y = m := by simpa using h1
        left; rw [if_pos h3]; simp [h2]
      | succ j => right; exact ⟨j, m, by simpa using h1, by omega, h3⟩
theorem edgesOf_nn (l : List S63) (i : Nat) (z : Int) (h : z ∈ edgesOf l i) : 0 ≤ z ∧ z.toNat < l.length := by
  unfold edgesOf at h
  split at h
  · obtain ⟨j, m, h1, rfl, _⟩ := mem_edgesFrom.1 h
    have := (List.getElem?_eq_some_iff.1 h1).1
    omega
  · cases h
theorem foldl_take {α β : Type} (s : α → β → α) (l : List β) (k : Nat) (z : β) (h : l[k]? = some z) (m : α) : (l.take (k + 1)).foldl s m = s ((l.take k).foldl s m) z := by
  rw [List.take_add_one, h, List.foldl_append]
  rfl
set_option maxRecDepth 100000 in
set_option maxHeartbeats 4000000 in
theorem down_calls (A : Option Addr) (c : Nat) (xs : List S63) (w0 : World) (hr0 : Kd.C k63 w0 A xs.length xs) (hl : xs.length ≤ 12) (B : Nat) (hB : w0.heap.size ≤ B) :
    ∀ (f i : Nat) (m : List Bool) (w : World), i < xs.length → m.length = 12 → m.count false < f → Below w0.heap.size w0 w → MetIs B m w →
    Calls Tryz.prog 116 #[.slice A xs.length c, .int .i64 i, .pointer (some ⟨B, 0, none⟩)] w fun e w' => e = .returned (.tuple #[]) ∧ But B w w' ∧ MetIs B (dn (edgesOf xs) f i m) w' := by
  intro f
  induction f with
  | zero => intro i m w _ _ h; omega
  | succ f ih =>
    intro i m w hi hm hc hb hM
    obtain ⟨x, hx⟩ : ∃ x, xs[i]? = some x := ⟨_, List.getElem?_eq_getElem hi⟩
    have hE : ∀ i z, z ∈ edgesOf xs i → z.toNat < 12 := fun i z hz => by have := (edgesOf_nn xs i z hz).2; omega
    have hfold := fold_ok hE f (dn_ok hE f) i
    have hcall := edges_calls A c xs i x w (Kd.C_below hr0 hb) hx (by omega)
    rw [dn_succ]
    rw [← edgesOf_at hx] at hcall
    obtain ⟨n, hn⟩ : ∃ n, n = xs.length := ⟨_, rfl⟩
    rw [← hn] at hcall hi hl ih ⊢
    obtain ⟨es, hes⟩ : ∃ es, edgesOf xs i = es := ⟨_, rfl⟩
    rw [hes] at hcall ⊢
    have hel : ∀ z ∈ es, 0 ≤ z ∧ z.toNat < n := fun z hz => hn ▸ edgesOf_nn xs i z (hes ▸ hz)
    have IH := Aside0.mk ih
    have HF := Aside0.mk hfold
    have HM := Aside0.mk hM
    have HEL := Aside0.mk hel
    have HES := Aside0.mk hes
    have H0 := Aside0.mk hb
    have HC0 := Aside0.mk hc
    have HML := Aside0.mk hm
    have HE := Aside0.mk hE
    have HN := Aside0.mk hn
    have HX := Aside0.mk hx
    clear ih hfold hM hel hes hb hc hm hE hn hr0 hx
    go_enter Tryz.func116, Tryz.ntmps116
    go_wp2_with (go_at_call 76; refine hcall.mono ?_; rintro e w1 ⟨v0, rfl, hR, hb1⟩; obtain ⟨Av, cv, rfl⟩ := Kd.R_slice hR; have HRW := Aside0.mk hR; have HB1 := Aside0.mk hb1; clear hR hb1)
    have hrow := But.row (But.refl B w1) (Kd.R_mono (Kd.R_bound HRW.out) (fun k hk => (by have := hk.2.1; have := HM.out.lt; omega : k ≠ B)))
    have hM1 := HM.out.below HB1.out
    obtain ⟨len, hlen⟩ : ∃ len, len = es.length := ⟨_, rfl⟩
    rw [← hlen] at hrow ⊢
    have hlen63 : (len : Int) ≤ 4294967290 := by
      have := edgesFrom_len x 0 xs
      have h1 := HES.out
      rw [edgesOf_at HX.out] at h1
      rw [h1] at this
      have := HN.out
      omega
    have HROW := Aside0.mk hrow
    have HM1 := Aside0.mk hM1
    have HLN := Aside0.mk hlen
    clear hrow hM1 hlen HRW
    go_loopg [12] len (fun gg v12 wr => ∃ kk : Nat, kk ≤ len ∧ len - kk ≤ gg ∧ v12 = .int .i64 kk ∧ Aside0 (But B w wr) ∧ Aside0 (Kd.R (Kd.int .i64) 3 wr w.heap.size (fun k => k ≠ B) (.slice Av len cv) es) ∧ Aside0 (MetIs B ((es.take kk).foldl (stepD (edgesOf xs) f) m) wr))
    case atStart => exact ⟨0, Nat.zero_le _, by omega, rfl, ⟨But.of HB1.out⟩, HROW, HM1⟩
    case round =>
      obtain ⟨kk, hkk, hg, rfl, HBW, HRR, HMM⟩ := hrel
      by_cases hlt : kk < len
      · have hltz : (kk : Int) < (len : Int) := by omega
        have hdn := HF.out (es.take kk) m (fun z hz => HES.out ▸ List.mem_of_mem_take hz) HML.out HC0.out
        obtain ⟨z, hz⟩ : ∃ z, es[kk]? = some z := ⟨_, List.getElem?_eq_getElem (by have := HLN.out; omega)⟩
        have hfold := foldl_take (stepD (edgesOf xs) f) es kk z hz m
        obtain ⟨hz0, hzn⟩ := HEL.out z (List.mem_of_getElem? hz)
        have hR2 := HRR.out
        have hR3 := (Kd.R_reads' hR2).2.2
        rw [← HLN.out] at hR3
        obtain ⟨ad, cs, hA, _, hK, hcell⟩ := Kd.C_get hR3 (0 : Int) (kk : Int) (by omega) (by omega)
        have hxe : es.getD (kk : Int).toNat 0 = z := by
          rw [Int.toNat_natCast, List.getD_eq_getElem?_getD, hz]; rfl
        rw [hxe] at hK
        obtain rfl : cs = [.int .i64 z] := hK
        have h0 : wr.cell? (ad.add kk) = some (.int .i64 z) := by
          have := hcell 0 _ rfl
          rw [Int.toNat_natCast, show (Kd.int .i64).sz = 1 from rfl] at this
          simpa using this
        subst hA
        obtain ⟨k, rfl⟩ : ∃ k : Nat, z = (k : Int) := ⟨z.toNat, by omega⟩
        rw [Int.toNat_natCast] at hzn
        have hM2 := HMM.out
        obtain ⟨mj, hmj⟩ : ∃ mj, (es.take kk).foldl (stepD (edgesOf xs) f) m = mj := ⟨_, rfl⟩
        rw [hmj] at hdn hfold hM2
        have hmjl : mj.length = 12 := hdn.len.trans HML.out
        have hk12 : k < 12 := by omega
        have hkz : (k : Int) < 12 := by omega
        have hcB := hM2.cell (k := k) (by omega)
        have hfB := hM2.free k
        have HM2 := Aside0.mk hM2
        have HDN := Aside0.mk hdn
        have HMJL := Aside0.mk hmjl
        have HFO := Aside0.mk hfold
        clear hR2 hR3 hxe hcell hz hmj HMM hM2 hdn hfold hmjl
        cases hq : mj.getD k false with
        | true =>
          rw [hq] at hcB
          go_wp2
          go_roundg (len - (kk + 1))
          case measure => omega
          case rel =>
            refine ⟨kk + 1, by omega, by omega, by go_num, HBW, HRR, ⟨?_⟩⟩
            rw [HFO.out]
            unfold stepD
            rw [Int.toNat_natCast, if_pos hq]
            exact HM2.out
        | false =>
          rw [hq] at hcB
          have hcalls := IH.out k (mj.set k true) (wr.setCell ⟨B, k, none⟩ (.bool true)) hzn (by rw [List.length_set]; exact HMJL.out) (by have := count_set mj k (by rw [HMJL.out]; omega) hq; have := HDN.out.cnt; have := HC0.out; omega) (H0.out.trans (HBW.out.below hB (by have := H0.out.size; omega)) |>.trans ((But.refl B wr).set k (.bool true) |>.below hB (by have := H0.out.size; have := HBW.out.size; omega))) (HM2.out.set k)
          go_wp2_with (go_at_call 116; refine hcalls.mono ?_; rintro e w2 ⟨rfl, hb2, hm2⟩; have HB2 := Aside0.mk hb2; have HM3 := Aside0.mk hm2; clear hb2 hm2)
          go_roundg (len - (kk + 1))
          case measure => omega
          case rel =>
            refine ⟨kk + 1, by omega, by omega, by go_num, ⟨(HBW.out.set k (.bool true)).trans HB2.out⟩, ⟨(((But.refl B wr).set k (.bool true)).trans HB2.out).row HRR.out⟩, ⟨?_⟩⟩
            rw [HFO.out]
            unfold stepD
            rw [Int.toNat_natCast, if_neg (by rw [hq]; simp)]
            exact HM3.out
      · have hltz : ¬ (kk : Int) < (len : Int) := by omega
        have : kk = len := by omega
        subst this
        go_wp2
        go_end0
        refine ⟨rfl, HBW.out, ?_⟩
        have h := HMM.out
        rwa [List.take_of_length_le (by have := HLN.out; omega)] at h
theorem twelve {α : Type} {l : List α} (h : l.length = 12) : ∃ b0 b1 b2 b3 b4 b5 b6 b7 b8 b9 b10 b11, l = [b0, b1, b2, b3, b4, b5, b6, b7, b8, b9, b10, b11] := by
  match l, h with
  | [b0, b1, b2, b3, b4, b5, b6, b7, b8, b9, b10, b11], _ => exact ⟨b0, b1, b2, b3, b4, b5, b6, b7, b8, b9, b10, b11, rfl⟩
def met0 : List Bool := List.replicate 12 false
theorem met_kept (w w2 : World) (h : But (w.heap.size + 1) ((w.alloc (.cells #[.bool false, .bool false, .bool false, .bool false, .bool false, .bool false, .bool false, .bool false, .bool false, .bool false, .bool false, .bool false] 114)).alloc (.cells #[.bool false, .bool false, .bool false, .bool false, .bool false, .bool false, .bool false, .bool false, .bool false, .bool false, .bool false, .bool false] 114)) w2) :
    MetIs w.heap.size [false, false, false, false, false, false, false, false, false, false, false, false] w2 := by
  unfold MetIs
  rw [h.block w.heap.size (by simp; omega) (by omega), Below.heap_alloc _ _ _ (by simp)]
  exact heap_alloc_new w _
set_option maxHeartbeats 1000000 in
theorem below_calls (A : Option Addr) (c : Nat) (xs : List S63) (i : Nat) (w : World) (hr : Kd.C k63 w A xs.length xs) (hl : xs.length ≤ 12) (hi : i < xs.length) :
    Calls Tryz.prog 86 #[.slice A xs.length c, .int .i64 i] w fun e w' => e = .returned (.agg ((belowOf (edgesOf xs) i).map Value.bool).toArray) ∧ Below w.heap.size w w' := by
  have hd : Calls Tryz.prog 116 #[.slice A xs.length c, .int .i64 i, .pointer (some ⟨w.heap.size + 1, 0, none⟩)] ((w.alloc (.cells (met0.map Value.bool).toArray 114)).alloc (.cells (met0.map Value.bool).toArray 114)) fun e w' => e = .returned (.tuple #[]) ∧ But (w.heap.size + 1) ((w.alloc (.cells (met0.map Value.bool).toArray 114)).alloc (.cells (met0.map Value.bool).toArray 114)) w' ∧ MetIs (w.heap.size + 1) (belowOf (edgesOf xs) i) w' :=
    down_calls A c xs w hr hl (w.heap.size + 1) (by omega) 13 i met0 _ hi rfl (by decide) (below_alloc (below_alloc (Below.refl _ _) _) _) (by
      unfold MetIs
      have : (w.alloc (.cells (met0.map Value.bool).toArray 114)).heap.size = w.heap.size + 1 := by simp
      rw [← this]
      exact heap_alloc_new _ _)
  have hlen : (belowOf (edgesOf xs) i).length = 12 := belowOf_len (fun i z hz => by have := (edgesOf_nn xs i z hz).2; omega) i
  obtain ⟨m, hm⟩ : ∃ m, belowOf (edgesOf xs) i = m := ⟨_, rfl⟩
  rw [hm] at hd hlen ⊢
  obtain ⟨b0, b1, b2, b3, b4, b5, b6, b7, b8, b9, b10, b11, rfl⟩ := twelve hlen
  simp only [met0, List.replicate, List.map_cons, List.map_nil] at hd ⊢
  generalize xs.length = n at hl hi hd ⊢
  clear hm hr hlen
  go_enter Tryz.func86, Tryz.ntmps86
  go_wp2_with (go_at_call 116; go_loud (refine hd.mono ?_); rintro e w2 ⟨rfl, hb2, hm2⟩; have hz := met_kept w w2 hb2; have c0 := hm2.cell (k := 0) (by simp); have c1 := hm2.cell (k := 1) (by simp); have c2 := hm2.cell (k := 2) (by simp); have c3 := hm2.cell (k := 3) (by simp); have c4 := hm2.cell (k := 4) (by simp); have c5 := hm2.cell (k := 5) (by simp); have c6 := hm2.cell (k := 6) (by simp); have c7 := hm2.cell (k := 7) (by simp); have c8 := hm2.cell (k := 8) (by simp); have c9 := hm2.cell (k := 9) (by simp); have c10 := hm2.cell (k := 10) (by simp); have c11 := hm2.cell (k := 11) (by simp); have d0 := hz.cell (k := 0) (by simp); have d1 := hz.cell (k := 1) (by simp); have d2 := hz.cell (k := 2) (by simp); have d3 := hz.cell (k := 3) (by simp); have d4 := hz.cell (k := 4) (by simp); have d5 := hz.cell (k := 5) (by simp); have d6 := hz.cell (k := 6) (by simp); have d7 := hz.cell (k := 7) (by simp); have d8 := hz.cell (k := 8) (by simp); have d9 := hz.cell (k := 9) (by simp); have d10 := hz.cell (k := 10) (by simp); have d11 := hz.cell (k := 11) (by simp); have f0 := hz.free 0; have f1 := hz.free 1; have f2 := hz.free 2; have f3 := hz.free 3; have f4 := hz.free 4; have f5 := hz.free 5; have f6 := hz.free 6; have f7 := hz.free 7; have f8 := hz.free 8; have f9 := hz.free 9; have f10 := hz.free 10; have f11 := hz.free 11)
  have hfin := ((((((((((((hz.put 0 b0).put 1 b1).put 2 b2).put 3 b3).put 4 b4).put 5 b5).put 6 b6).put 7 b7).put 8 b8).put 9 b9).put 10 b10).put 11 b11)
  (try simp only [Exit.inBlock, Exit.then])
  refine bodyPost_ret (results_cell_row rfl _ _ w.heap.size 114 _ (0, 0) (.array 12 4) rfl hfin Tryz.underlying114 rfl (by kernel_rfl)) rfl ⟨rfl, ?_⟩
  have hb3 := hb2.below (C := w.heap.size) (by omega) (by simp; omega)
  have hb4 := (below_alloc (below_alloc (Below.refl w.heap.size w) _) _).trans hb3
  exact ((((((((((((hb4.setCell (p := ⟨w.heap.size, 0, none⟩) (Nat.le_refl _) (.bool b0)).setCell (p := ⟨w.heap.size, 1, none⟩) (Nat.le_refl _) (.bool b1)).setCell (p := ⟨w.heap.size, 2, none⟩) (Nat.le_refl _) (.bool b2)).setCell (p := ⟨w.heap.size, 3, none⟩) (Nat.le_refl _) (.bool b3)).setCell (p := ⟨w.heap.size, 4, none⟩) (Nat.le_refl _) (.bool b4)).setCell (p := ⟨w.heap.size, 5, none⟩) (Nat.le_refl _) (.bool b5)).setCell (p := ⟨w.heap.size, 6, none⟩) (Nat.le_refl _) (.bool b6)).setCell (p := ⟨w.heap.size, 7, none⟩) (Nat.le_refl _) (.bool b7)).setCell (p := ⟨w.heap.size, 8, none⟩) (Nat.le_refl _) (.bool b8)).setCell (p := ⟨w.heap.size, 9, none⟩) (Nat.le_refl _) (.bool b9)).setCell (p := ⟨w.heap.size, 10, none⟩) (Nat.le_refl _) (.bool b10)).setCell (p := ⟨w.heap.size, 11, none⟩) (Nat.le_refl _) (.bool b11))
end Go.Proofs.YtillhaipemengaaGreatDoor
end

section
namespace Go.Proofs.YtillhaipemengaaGreatDoor
open Go Go.RowKit Go.Sort Go.Proofs Go.Proofs.YtillhaipemengaaGreatDoorW.PrintWords Go.Proofs.YtillhaipemengaaGreatDoor.K0 Go.Proofs.YtillhaipemengaaGreatDoor.R1 Go.Proofs.YtillhaipemengaaGreatDoor.R2
set_option linter.unusedVariables false
set_option linter.unusedSimpArgs false
def pathsOf (xs : List S63) : List Str := xs.map fun x => x.f1.data.toList
def gcheck (xs : List S63) : Int := if 12 < xs.length then 1 else if (xs.all fun x => checkOk x.f1) = true then (if (pathsOf xs).Nodup then 0 else 11) else 6
theorem mcheck_calls (s : ByteArray) (w : World) (hG : GW w) : Calls Tryz.prog 55 #[.string s] w fun e w' => e = .returned (.bool (checkOk s)) ∧ Below w.heap.size w w' :=
  mpath_Check.calls 101 s _ w hG (mpath_Check_f s 101 (by decide))
theorem sort_none (p : Option Addr) (cap : Nat) (w : World) : Calls Tryz.prog 108 #[.slice p 0 cap] w fun e w' => e = .returned (.tuple #[]) ∧ w' = w := Any.slices_Sort_string_none Tryz.lays190 p cap w
/-- Sorted, and its runs made one: how many are left. -/
theorem sort_row (l : List ByteArray) (g cap : Nat) (base : Nat) (w : World) (hb : base ≤ g) (hg : g < w.heap.size) (hl : l.length ≤ 12) (hH : Holds encStr w g 0 (l.map fun x => x.data.toList).toArray) :
    Calls Tryz.prog 108 #[.slice (some ⟨g, 0, none⟩) l.length cap] w fun e w' => e = .returned (.tuple #[]) ∧ Holds encStr w' g 0 (srt (l.map fun x => x.data.toList)).toArray ∧ Below base w w' := by
  have hsort := Tryz.slices_Sort_string g 0 cap (l.map fun x => x.data.toList) w hH hg (by rw [List.length_map]; omega)
  rw [List.length_map] at hsort
  refine hsort.mono ?_
  rintro e w' ⟨rfl, nn, os, rfl⟩
  refine ⟨rfl, ?_, (Below.refl base w).grown (grownBy_sorted _) (by omega) (fun j hj => by cases hj; exact hb)⟩
  exact holds_grow encStr _ os g 0 _ (by simpa [putRow, mapBlock, Sort.ahead] using hg) (holds_putRow encStr _ g 0 _ _ (holds_ahead encStr w nn g 0 _ hH) (by simp))
theorem compact_row (zs : List Str) (g cap : Nat) (base : Nat) (w : World) (hb : base ≤ g) (hl : zs.length ≤ 12) (hc : zs.length ≤ cap) (hH : Holds encStr w g 0 zs.toArray) :
    Calls Tryz.prog 109 #[.slice (some ⟨g, 0, none⟩) zs.length cap] w fun e w' => e = .returned (.slice (some ⟨g, 0, none⟩) (Lib.compact zs).length cap) ∧ Below base w w' := by
  refine (Tryz.slices_Compact_string g 0 cap zs w hH (by omega) hc).mono ?_
  rintro e w' ⟨rfl, q, rfl⟩
  exact ⟨rfl, Lib.below_putRow (Below.refl base w) hb⟩
theorem all_take {xs : List S63} {p : S63 → Bool} {k : Nat} {m : S63} (h : xs[k]? = some m) : (xs.take (k + 1)).all p = ((xs.take k).all p && p m) := by
  rw [List.take_add_one, h, List.all_append]
  simp
theorem gcheck_big {xs : List S63} (h : 12 < xs.length) : gcheck xs = 1 := by unfold gcheck; rw [if_pos h]
theorem gcheck_bad {xs : List S63} (h : ¬ 12 < xs.length) {m : S63} (hm : m ∈ xs) (hc : checkOk m.f1 = false) : gcheck xs = 6 := by
  unfold gcheck
  rw [if_neg h, if_neg]
  intro e
  rw [List.all_eq_true.1 e m hm] at hc; cases hc
theorem gcheck_end {xs : List S63} (h : ¬ 12 < xs.length) (hc : (xs.all fun x => checkOk x.f1) = true) : gcheck xs = if (Lib.compact (srt ((xs.map fun x => x.f1).map fun x => x.data.toList))).length < xs.length then 11 else 0 := by
  unfold gcheck
  have e : (xs.map fun x => x.f1).map (fun x => x.data.toList) = pathsOf xs := by unfold pathsOf; rw [List.map_map]; rfl
  have hc2 := compact_lt (pathsOf xs)
  have hl : (pathsOf xs).length = xs.length := by simp [pathsOf]
  rw [if_neg h, if_pos hc, e]
  rw [hl] at hc2
  by_cases hn : (pathsOf xs).Nodup
  · rw [decide_eq_true hn] at hc2
    rw [if_pos hn, if_neg (by simpa using hc2)]
  · rw [decide_eq_false hn] at hc2
    rw [if_neg hn, if_pos (by simpa using hc2)]
set_option maxRecDepth 100000 in
set_option maxHeartbeats 4000000 in
theorem gcheck_calls (A : Option Addr) (c : Nat) (xs : List S63) (w : World) (hG : GW w) (hr : Kd.C k63 w A xs.length xs) :
    Calls Tryz.prog 71 #[.slice A xs.length c] w fun e w' => e = .returned (.int .i64 (gcheck xs)) ∧ Below w.heap.size w w' := by
  have hbig := hr.2.1
  obtain ⟨n, hn⟩ : ∃ n, n = xs.length := ⟨_, rfl⟩
  by_cases h12 : 12 < n
  · rw [gcheck_big (hn ▸ h12), ← hn]
    rw [← hn] at hbig
    have h12z : (12 : Int) < (n : Int) := by omega
    clear hr hn
    go_enter Tryz.func71, Tryz.ntmps71
    go_wp2
    go_ret
    exact ⟨rfl, Below.refl _ _⟩
  · have h12z : ¬ (12 : Int) < (n : Int) := by omega
    obtain ⟨z, hz⟩ : ∃ z, z = gcheck xs := ⟨_, rfl⟩
    rw [← hz, ← hn]
    rw [← hn] at hr
    have HN := Aside0.mk hn
    have HZ := Aside0.mk hz
    have HR := Aside0.mk hr
    have HG := Aside0.mk hG
    clear hr hn hz hG hbig
    go_enter Tryz.func71, Tryz.ntmps71
    go_wp2
    go_loopg [3, 11] n (fun gg v3 v11 wr => ∃ kk : Nat, kk ≤ n ∧ n - kk ≤ gg ∧ v11 = .int .i64 kk ∧ Aside0 (Kd.R Kd.string 9 wr w.heap.size (fun _ => True) v3 ((xs.take kk).map fun x => x.f1)) ∧ Aside0 (((xs.take kk).all fun x => checkOk x.f1) = true) ∧ Aside0 (Below w.heap.size w wr))
    case atStart => exact ⟨0, Nat.zero_le _, by omega, rfl, ⟨Kd.R_nil _ _ _ _ _⟩, ⟨rfl⟩, ⟨Below.refl _ _⟩⟩
    case round =>
      obtain ⟨kk, hkk, hg, rfl, HO, HA, HB⟩ := hrel
      by_cases hlt : kk < n
      · have hltz : (kk : Int) < (n : Int) := by omega
        have HR1 := Kd.C_below HR.out HB.out
        obtain ⟨m, hm⟩ : ∃ m, xs[kk]? = some m := ⟨_, List.getElem?_eq_getElem (by have := HN.out; omega)⟩
        have hme : rd_T63 xs (kk : Int) = m := by
          unfold rd_T63
          rw [Int.toNat_natCast, List.getD_eq_getElem?_getD, hm]; rfl
        obtain ⟨ad, A2, c2, hA, h0, h1, h2, hc2, hC2⟩ := at_T63 HR1 (kk : Int) (by omega) (by omega)
        subst hA
        rw [hme] at h0 h1 h2
        rw [Int.toNat_natCast] at h0 h1 h2
        have hmp : (xs.take (kk + 1)).map (fun x => x.f1) = (xs.take kk).map (fun x => x.f1) ++ [m.f1] := by rw [List.take_add_one, hm]; simp
        have hall := all_take (p := fun x => checkOk x.f1) hm
        have hchk := mcheck_calls m.f1 (wr.alloc (.cells #[.string m.f0, .string m.f1, .slice A2 m.f2.length c2] 63)) (GW.below HG.out (below_alloc HB.out _))
        have hpath : ∀ w', Below (wr.alloc (.cells #[.string m.f0, .string m.f1, .slice A2 m.f2.length c2] 63)).heap.size (wr.alloc (.cells #[.string m.f0, .string m.f1, .slice A2 m.f2.length c2] 63)) w' → w'.cell? ⟨wr.heap.size, 1, none⟩ = some (.string m.f1) := fun w' hb => below_cell hb (by unfold World.cell?; rw [heap_alloc_new]; rfl)
        have HM := Aside0.mk hm
        have HMP := Aside0.mk hmp
        have HPA := Aside0.mk hpath
        have hlen : ((xs.take kk).map fun x => x.f1).length ≤ 12 := by rw [List.length_map, List.length_take]; omega
        have HLE := Aside0.mk hlen
        clear HR1 hme hm hC2 hmp hpath hlen
        cases hq : checkOk m.f1 with
        | true =>
          rw [hq] at hchk hall
          rw [HA.out] at hall
          have HAL := Aside0.mk hall
          clear hq hall HA
          generalize ((xs.take kk).map fun x => x.f1) = acc at HO HMP HLE
          go_wp2_with (first | (go_at_call 55; refine hchk.mono ?_; rintro e w2 ⟨rfl, hb2⟩; have cP := HPA.out w2 hb2; have HB2 := Aside0.mk (below_step (below_alloc HB.out _) hb2); have HO2 := Aside0.mk (Kd.R_below (Kd.R_alloc HO.out _) hb2); clear hb2) | ((with_reducible refine gate_builtin (b := .append) (xs := #[.tmp 19, .tmp 22]) rfl ?_); at_builtin; refine Kd.R_append Kd.string (w0 := w) w.heap.size rfl (.tmp 19) (.tmp 22) 103 9 (.string ⟨#[]⟩) 16 rfl Tryz.underlying103 info9 rfl (by decide) (by decide) u3 acc m.f1 [.string m.f1] (fun _ => True) (fun _ => False) rfl rfl ?aP (fun _ hk => hk.elim) ?aF ?aO ?aB ?aS ?aL ?_; (case aP => exact rfl); (case aB => exact HB2.out); (case aF => exact (fun _ _ => trivial)); (case aO => exact HO2.out); (case aS => exact below_size HB2.out); (case aL => have := HLE.out; omega); intro v103 w9 ho hb hg hat; have HO3 := Aside0.mk ho; have HB3 := Aside0.mk hb; clear ho hb hg hat))
          go_roundg (n - (kk + 1))
          case measure => omega
          case rel => exact ⟨kk + 1, by omega, by omega, by go_num, ⟨by rw [HMP.out]; exact HO3.out⟩, ⟨by rw [HAL.out]; rfl⟩, HB3⟩
        | false =>
          rw [hq] at hchk
          have hz := HZ.out
          rw [gcheck_bad (by have := HN.out; omega) (List.mem_of_getElem? HM.out) hq] at hz
          subst hz
          clear hq hall
          go_wp2_with (go_at_call 55; refine hchk.mono ?_; rintro e w2 ⟨rfl, hb2⟩; have HB2 := Aside0.mk (below_step (below_alloc HB.out _) hb2); clear hb2)
          go_ret
          exact ⟨rfl, HB2.out⟩
      · have hltz : ¬ (kk : Int) < (n : Int) := by omega
        have : kk = n := by omega
        subst this
        have htake : xs.take kk = xs := List.take_of_length_le (by have := HN.out; omega)
        rw [htake] at HO HA
        have hz := HZ.out
        rw [gcheck_end (by have := HN.out; omega) HA.out, ← HN.out] at hz
        have hl : (xs.map fun x => x.f1).length = kk := by rw [List.length_map]; exact HN.out.symm
        obtain ⟨l, hle⟩ : ∃ l, xs.map (fun x => x.f1) = l := ⟨_, rfl⟩
        have hO := HO.out
        rw [hle] at hl hO hz
        clear hle htake HO
        rcases Nat.eq_zero_or_pos kk with h0 | hp
        · subst h0
          obtain rfl : l = [] := List.length_eq_zero_iff.1 hl
          obtain ⟨A3, c3, rfl⟩ := Kd.R_slice hO
          rw [if_neg (by omega)] at hz
          subst hz
          clear hO hl
          have hs := fun w' => sort_none A3 c3 w'
          have hc := fun w' => Tryz.slices_Compact_string_empty A3 c3 w'
          have HS := Aside0.mk hs
          have HCM := Aside0.mk hc
          clear hs hc
          go_wp2_with (first | (go_at_call 108; refine (HS.out _).mono ?_; rintro e w2 ⟨rfl, rfl⟩) | (go_at_call 109; refine (HCM.out _).mono ?_; rintro e w3 ⟨rfl, rfl⟩))
          go_ret
          exact ⟨rfl, HB.out⟩
        · obtain ⟨g0, cap0, hv0, _⟩ := Kd.R_form hO (by omega)
          have hown := Kd.own_of_R hO
          rw [show encs Value.string l = (l.map fun x => x.data.toList).map encStr from (Lib.map_encStr l).symm] at hown
          obtain ⟨g, cap, rfl, hbg, hgs, hnc, hcm, _, hH⟩ := Lib.holds_of_ownsRow hown (by rw [hv0]; simp)
          have hs := sort_row l g cap w.heap.size wr hbg hgs (by omega) hH
          have hsl : (srt (l.map fun x => x.data.toList)).length = kk := by unfold srt; rw [List.length_mergeSort, List.length_map]; exact hl
          have hcp := fun w' (hH2 : Holds encStr w' g 0 (srt (l.map fun x => x.data.toList)).toArray) => compact_row (srt (l.map fun x => x.data.toList)) g cap w.heap.size w' hbg (by omega) (by omega) hH2
          rw [hsl] at hcp
          rw [hl] at hs
          rw [hl] at *
          generalize srt (l.map fun x => x.data.toList) = zs at hs hcp hz hsl
          have hq : (Lib.compact zs).length ≤ kk := hsl ▸ Lib.compact_length_le zs
          generalize (Lib.compact zs).length = q at hcp hz hq
          have HS := Aside0.mk hs
          have HCM := Aside0.mk hcp
          clear hs hcp hO hown hH hv0
          by_cases hqk : q < kk
          · have hqz : (q : Int) < (kk : Int) := by omega
            rw [if_pos hqk] at hz
            subst hz
            go_wp2_with (first | (go_at_call 108; refine (HS.out).mono ?_; rintro e w2 ⟨rfl, hH2, hb2⟩; have HH2 := Aside0.mk hH2; have HB2 := Aside0.mk hb2; clear hH2 hb2) | (go_at_call 109; refine (HCM.out _ HH2.out).mono ?_; rintro e w3 ⟨rfl, hb3⟩; have HB3 := Aside0.mk hb3; clear hb3))
            go_ret
            exact ⟨rfl, (HB.out.trans HB2.out).trans HB3.out⟩
          · have hqz : ¬ (q : Int) < (kk : Int) := by omega
            rw [if_neg hqk] at hz
            subst hz
            go_wp2_with (first | (go_at_call 108; refine (HS.out).mono ?_; rintro e w2 ⟨rfl, hH2, hb2⟩; have HH2 := Aside0.mk hH2; have HB2 := Aside0.mk hb2; clear hH2 hb2) | (go_at_call 109; refine (HCM.out _ HH2.out).mono ?_; rintro e w3 ⟨rfl, hb3⟩; have HB3 := Aside0.mk hb3; clear hb3))
            go_ret
            exact ⟨rfl, (HB.out.trans HB2.out).trans HB3.out⟩
end Go.Proofs.YtillhaipemengaaGreatDoor
end
