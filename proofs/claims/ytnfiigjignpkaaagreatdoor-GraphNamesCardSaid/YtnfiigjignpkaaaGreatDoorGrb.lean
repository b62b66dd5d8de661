/- graph.down and graph.below: on whom a module depends. -/
import Derived.Test.YtnfiigjignpkaaaGreatDoorGra
import Derived.Test.YtnfiigjignpkaaaGreatDoorRea
namespace Go.Proofs.YtnfiigjignpkaaaGreatDoor
open Go Go.RowKit Go.Sort Go.Proofs Go.Proofs.YtnfiigjignpkaaaGreatDoorW.PrintWords Go.Proofs.YtnfiigjignpkaaaGreatDoor.K0
set_option linter.unusedVariables false
set_option linter.unusedSimpArgs false

/-- All that was there, but for one block, is as it was. -/
structure But (B : Nat) (w w' : World) : Prop where
  os : w'.os = w.os
  tape : w'.tape = w.tape
  output : w'.output = w.output
  size : w.heap.size ≤ w'.heap.size
  block : ∀ k, k < w.heap.size → k ≠ B → w'.heap[k]? = w.heap[k]?
theorem But.refl (B : Nat) (w : World) : But B w w := ⟨rfl, rfl, rfl, Nat.le_refl _, fun _ _ _ => rfl⟩
theorem But.trans {B : Nat} {a b c : World} (h : But B a b) (k : But B b c) : But B a c :=
  ⟨k.os.trans h.os, k.tape.trans h.tape, k.output.trans h.output, Nat.le_trans h.size k.size, fun i hi hn => (k.block i (Nat.lt_of_lt_of_le hi h.size) hn).trans (h.block i hi hn)⟩
theorem But.of {B : Nat} {w w' : World} (h : Below w.heap.size w w') : But B w w' := ⟨h.os, h.tape, h.output, h.size, fun k hk _ => h.block k hk⟩
theorem But.set {B : Nat} {w w' : World} (h : But B w w') (o : Nat) (u : Value) : But B w (w'.setCell ⟨B, o, none⟩ u) :=
  h.trans ⟨rfl, rfl, rfl, by simp [World.setCell], fun k _ hn => Below.heap_setCell _ _ _ _ hn⟩
theorem But.draw {B : Nat} {w w' : World} (h : But B w w') (n : Nat) : But B w (w'.drewN n) := h.trans (But.of (pw_below_drewN (Below.refl _ _) n))
theorem But.below {B C : Nat} {w w' : World} (h : But B w w') (hC : C ≤ B) (hs : C ≤ w.heap.size) : Below C w w' := ⟨h.os, h.tape, h.output, h.size, fun k hk => h.block k (by omega) (by omega)⟩
theorem But.row {B e base : Nat} {w w' : World} {v : Value} {xs : List Int} (h : But B w w') (hr : Kd.R (Kd.int .i64) e w base (fun k => k ≠ B) v xs) : Kd.R (Kd.int .i64) e w' base (fun k => k ≠ B) v xs :=
  Kd.R_step hr (fun k hk hl => h.block k hl hk)

theorem below_cell {w W : World} {q : Addr} {v : Value} (hb : Below w.heap.size w W) (h : w.cell? q = some v) : W.cell? q = some v := (hb.cell (World.block_lt_of_cell? w _ h)).trans h

/-- Block B holds who was met. -/
def MetIs (B : Nat) (m : List Bool) (w : World) : Prop := w.heap[B]? = some (.cells (m.map Value.bool).toArray 48 (0, 0))
theorem MetIs.lt {B : Nat} {m : List Bool} {w : World} (h : MetIs B m w) : B < w.heap.size := by
  rcases Nat.lt_or_ge B w.heap.size with h' | h'
  · exact h'
  · unfold MetIs at h; simp [Array.getElem?_eq_none h'] at h
theorem MetIs.cell {B : Nat} {m : List Bool} {w : World} (h : MetIs B m w) {k : Nat} (hk : k < m.length) : w.cell? ⟨B, k, none⟩ = some (.bool (m.getD k false)) := by
  unfold MetIs at h
  unfold World.cell?
  simp only [h]
  simp [List.getD_eq_getElem?_getD, List.getElem?_eq_getElem hk]
theorem MetIs.free {B : Nat} {m : List Bool} {w : World} (h : MetIs B m w) (k : Nat) : w.frozen? ⟨B, k, none⟩ = false := by
  unfold MetIs at h
  simp [World.frozen?, h]
theorem MetIs.below {B : Nat} {m : List Bool} {w w' : World} (h : MetIs B m w) (hb : Below w.heap.size w w') : MetIs B m w' := (hb.block B h.lt).trans h
theorem MetIs.set {B : Nat} {m : List Bool} {w : World} (h : MetIs B m w) (k : Nat) : MetIs B (m.set k true) (w.setCell ⟨B, k, none⟩ (.bool true)) := by
  have hlt := h.lt
  unfold MetIs at h ⊢
  have h' : w.heap[B] = .cells (m.map Value.bool).toArray 48 (0, 0) := by simpa [Array.getElem?_eq_getElem hlt] using h
  show (w.heap.modify B _)[B]? = _
  rw [Array.getElem?_eq_getElem (by simpa using hlt), Array.getElem_modify_self, h']
  simp [List.map_set]
theorem MetIs.put {B : Nat} {m : List Bool} {w : World} (h : MetIs B m w) (k : Nat) (b : Bool) : MetIs B (m.set k b) (w.setCell ⟨B, k, none⟩ (.bool b)) := by
  have hlt := h.lt
  unfold MetIs at h ⊢
  have h' : w.heap[B] = .cells (m.map Value.bool).toArray 48 (0, 0) := by simpa [Array.getElem?_eq_getElem hlt] using h
  show (w.heap.modify B _)[B]? = _
  rw [Array.getElem?_eq_getElem (by simpa using hlt), Array.getElem_modify_self, h']
  simp [List.map_set]
theorem MetIs.draw {B : Nat} {m : List Bool} {w : World} (h : MetIs B m w) (n : Nat) : MetIs B m (w.drewN n) := h

/-- Whom a module requires, by its place. -/
def edgesOf (l : List S40) (i : Nat) : List Int := match l[i]? with | some x => edgesFrom x 0 l | none => []
theorem edgesOf_at {l : List S40} {i : Nat} {x : S40} (h : l[i]? = some x) : edgesOf l i = edgesFrom x 0 l := by unfold edgesOf; rw [h]
theorem mem_edgesFrom {x : S40} {z : Int} : ∀ {l : List S40} {k : Nat}, z ∈ edgesFrom x k l ↔ ∃ j m, l[j]? = some m ∧ z = ((k + j : Nat) : Int) ∧ needs x m.f1 = true
  | [], k => by simp [edgesFrom]
  | y :: l, k => by
    rw [edgesFrom_at x k _ y l rfl, List.mem_append, mem_edgesFrom (l := l)]
    constructor
    · rintro (h | ⟨j, m, h1, h2, h3⟩)
      · split at h
        · rename_i hn
          obtain rfl := List.mem_singleton.1 h
          exact ⟨0, y, rfl, by simp, hn⟩
        · cases h
      · exact ⟨j + 1, m, by simpa using h1, by omega, h3⟩
    · rintro ⟨j, m, h1, h2, h3⟩
      cases j with
      | zero =>
        obtain rfl : y = m := by simpa using h1
        left; rw [if_pos h3]; simp [h2]
      | succ j => right; exact ⟨j, m, by simpa using h1, by omega, h3⟩
theorem edgesOf_nn (l : List S40) (i : Nat) (z : Int) (h : z ∈ edgesOf l i) : 0 ≤ z ∧ z.toNat < l.length := by
  unfold edgesOf at h
  split at h
  · obtain ⟨j, m, h1, rfl, _⟩ := mem_edgesFrom.1 h
    have := (List.getElem?_eq_some_iff.1 h1).1
    omega
  · cases h
theorem foldl_take {α β : Type} (s : α → β → α) (l : List β) (k : Nat) (z : β) (h : l[k]? = some z) (m : α) : (l.take (k + 1)).foldl s m = s ((l.take k).foldl s m) z := by
  rw [List.take_add_one, h, List.foldl_append]
  rfl

set_option maxRecDepth 100000 in
set_option maxHeartbeats 4000000 in
theorem down_calls (A : Option Addr) (c : Nat) (xs : List S40) (w0 : World) (hr0 : Kd.C k40 w0 A xs.length xs) (hl : xs.length ≤ 12) (B : Nat) (hB : w0.heap.size ≤ B) :
    ∀ (f i : Nat) (m : List Bool) (w : World), i < xs.length → m.length = 12 → m.count false < f → Below w0.heap.size w0 w → MetIs B m w →
    Calls Tryz.prog 53 #[.slice A xs.length c, .int .i64 i, .pointer (some ⟨B, 0, none⟩)] w fun e w' => e = .returned (.tuple #[]) ∧ But B w w' ∧ MetIs B (dn (edgesOf xs) f i m) w' := by
  intro f
  induction f with
  | zero => intro i m w _ _ h; omega
  | succ f ih =>
    intro i m w hi hm hc hb hM
    obtain ⟨x, hx⟩ : ∃ x, xs[i]? = some x := ⟨_, List.getElem?_eq_getElem hi⟩
    have hE : ∀ i z, z ∈ edgesOf xs i → z.toNat < 12 := fun i z hz => by have := (edgesOf_nn xs i z hz).2; omega
    have hfold := fold_ok hE f (dn_ok hE f) i
    have hcall := edges_calls A c xs i x w (Kd.C_below hr0 hb) hx (by omega)
    rw [dn_succ]
    rw [← edgesOf_at hx] at hcall
    obtain ⟨n, hn⟩ : ∃ n, n = xs.length := ⟨_, rfl⟩
    rw [← hn] at hcall hi hl ih ⊢
    obtain ⟨es, hes⟩ : ∃ es, edgesOf xs i = es := ⟨_, rfl⟩
    rw [hes] at hcall ⊢
    have hel : ∀ z ∈ es, 0 ≤ z ∧ z.toNat < n := fun z hz => hn ▸ edgesOf_nn xs i z (hes ▸ hz)
    have IH := Aside0.mk ih
    have HF := Aside0.mk hfold
    have HM := Aside0.mk hM
    have HEL := Aside0.mk hel
    have HES := Aside0.mk hes
    have H0 := Aside0.mk hb
    have HC0 := Aside0.mk hc
    have HML := Aside0.mk hm
    have HE := Aside0.mk hE
    have HN := Aside0.mk hn
    have HX := Aside0.mk hx
    clear ih hfold hM hel hes hb hc hm hE hn hr0 hx
    go_enter Tryz.func53, Tryz.ntmps53
    go_wp2_with (go_at_call 26; refine hcall.mono ?_; rintro e w1 ⟨v0, rfl, hR, hb1⟩; obtain ⟨Av, cv, rfl⟩ := Kd.R_slice hR; have HRW := Aside0.mk hR; have HB1 := Aside0.mk hb1; clear hR hb1)
    have hrow := But.row (But.refl B w1) (Kd.R_mono (Kd.R_bound HRW.out) (fun k hk => (by have := hk.2.1; have := HM.out.lt; omega : k ≠ B)))
    have hM1 := HM.out.below HB1.out
    obtain ⟨len, hlen⟩ : ∃ len, len = es.length := ⟨_, rfl⟩
    rw [← hlen] at hrow ⊢
    have hlen63 : (len : Int) ≤ 4294967290 := by
      have := edgesFrom_len x 0 xs
      have h1 := HES.out
      rw [edgesOf_at HX.out] at h1
      rw [h1] at this
      have := HN.out
      omega
    have HROW := Aside0.mk hrow
    have HM1 := Aside0.mk hM1
    have HLN := Aside0.mk hlen
    clear hrow hM1 hlen HRW
    go_loopg [12] len (fun gg v12 wr => ∃ kk : Nat, kk ≤ len ∧ len - kk ≤ gg ∧ v12 = .int .i64 kk ∧ Aside0 (But B w wr) ∧ Aside0 (Kd.R (Kd.int .i64) 3 wr w.heap.size (fun k => k ≠ B) (.slice Av len cv) es) ∧ Aside0 (MetIs B ((es.take kk).foldl (stepD (edgesOf xs) f) m) wr))
    case atStart => exact ⟨0, Nat.zero_le _, by omega, rfl, ⟨But.of HB1.out⟩, HROW, HM1⟩
    case round =>
      obtain ⟨kk, hkk, hg, rfl, HBW, HRR, HMM⟩ := hrel
      by_cases hlt : kk < len
      · have hltz : (kk : Int) < (len : Int) := by omega
        have hdn := HF.out (es.take kk) m (fun z hz => HES.out ▸ List.mem_of_mem_take hz) HML.out HC0.out
        obtain ⟨z, hz⟩ : ∃ z, es[kk]? = some z := ⟨_, List.getElem?_eq_getElem (by have := HLN.out; omega)⟩
        have hfold := foldl_take (stepD (edgesOf xs) f) es kk z hz m
        obtain ⟨hz0, hzn⟩ := HEL.out z (List.mem_of_getElem? hz)
        have hR2 := HRR.out
        have hR3 := (Kd.R_reads' hR2).2.2
        rw [← HLN.out] at hR3
        obtain ⟨ad, cs, hA, _, hK, hcell⟩ := Kd.C_get hR3 (0 : Int) (kk : Int) (by omega) (by omega)
        have hxe : es.getD (kk : Int).toNat 0 = z := by
          rw [Int.toNat_natCast, List.getD_eq_getElem?_getD, hz]; rfl
        rw [hxe] at hK
        obtain rfl : cs = [.int .i64 z] := hK
        have h0 : wr.cell? (ad.add kk) = some (.int .i64 z) := by
          have := hcell 0 _ rfl
          rw [Int.toNat_natCast, show (Kd.int .i64).sz = 1 from rfl] at this
          simpa using this
        subst hA
        obtain ⟨k, rfl⟩ : ∃ k : Nat, z = (k : Int) := ⟨z.toNat, by omega⟩
        rw [Int.toNat_natCast] at hzn
        have hM2 := HMM.out
        obtain ⟨mj, hmj⟩ : ∃ mj, (es.take kk).foldl (stepD (edgesOf xs) f) m = mj := ⟨_, rfl⟩
        rw [hmj] at hdn hfold hM2
        have hmjl : mj.length = 12 := hdn.len.trans HML.out
        have hk12 : k < 12 := by omega
        have hkz : (k : Int) < 12 := by omega
        have hcB := hM2.cell (k := k) (by omega)
        have hfB := hM2.free k
        have HM2 := Aside0.mk hM2
        have HDN := Aside0.mk hdn
        have HMJL := Aside0.mk hmjl
        have HFO := Aside0.mk hfold
        clear hR2 hR3 hxe hcell hz hmj HMM hM2 hdn hfold hmjl
        cases hq : mj.getD k false with
        | true =>
          rw [hq] at hcB
          go_wp2
          go_roundg (len - (kk + 1))
          case measure => omega
          case rel =>
            refine ⟨kk + 1, by omega, by omega, by go_num, HBW, HRR, ⟨?_⟩⟩
            rw [HFO.out]
            unfold stepD
            rw [Int.toNat_natCast, if_pos hq]
            exact HM2.out
        | false =>
          rw [hq] at hcB
          have hcalls := IH.out k (mj.set k true) (wr.setCell ⟨B, k, none⟩ (.bool true)) hzn (by rw [List.length_set]; exact HMJL.out) (by have := count_set mj k (by rw [HMJL.out]; omega) hq; have := HDN.out.cnt; have := HC0.out; omega) (H0.out.trans (HBW.out.below hB (by have := H0.out.size; omega)) |>.trans ((But.refl B wr).set k (.bool true) |>.below hB (by have := H0.out.size; have := HBW.out.size; omega))) (HM2.out.set k)
          go_wp2_with (go_at_call 53; refine hcalls.mono ?_; rintro e w2 ⟨rfl, hb2, hm2⟩; have HB2 := Aside0.mk hb2; have HM3 := Aside0.mk hm2; clear hb2 hm2)
          go_roundg (len - (kk + 1))
          case measure => omega
          case rel =>
            refine ⟨kk + 1, by omega, by omega, by go_num, ⟨(HBW.out.set k (.bool true)).trans HB2.out⟩, ⟨(((But.refl B wr).set k (.bool true)).trans HB2.out).row HRR.out⟩, ⟨?_⟩⟩
            rw [HFO.out]
            unfold stepD
            rw [Int.toNat_natCast, if_neg (by rw [hq]; simp)]
            exact HM3.out
      · have hltz : ¬ (kk : Int) < (len : Int) := by omega
        have : kk = len := by omega
        subst this
        go_wp2
        go_end0
        refine ⟨rfl, HBW.out, ?_⟩
        have h := HMM.out
        rwa [List.take_of_length_le (by have := HLN.out; omega)] at h

theorem twelve {α : Type} {l : List α} (h : l.length = 12) : ∃ b0 b1 b2 b3 b4 b5 b6 b7 b8 b9 b10 b11, l = [b0, b1, b2, b3, b4, b5, b6, b7, b8, b9, b10, b11] := by
  match l, h with
  | [b0, b1, b2, b3, b4, b5, b6, b7, b8, b9, b10, b11], _ => exact ⟨b0, b1, b2, b3, b4, b5, b6, b7, b8, b9, b10, b11, rfl⟩
def met0 : List Bool := List.replicate 12 false
theorem met_kept (w w2 : World) (h : But (w.heap.size + 1) ((w.alloc (.cells #[.bool false, .bool false, .bool false, .bool false, .bool false, .bool false, .bool false, .bool false, .bool false, .bool false, .bool false, .bool false] 48)).alloc (.cells #[.bool false, .bool false, .bool false, .bool false, .bool false, .bool false, .bool false, .bool false, .bool false, .bool false, .bool false, .bool false] 48)) w2) :
    MetIs w.heap.size [false, false, false, false, false, false, false, false, false, false, false, false] w2 := by
  unfold MetIs
  rw [h.block w.heap.size (by simp; omega) (by omega), Below.heap_alloc _ _ _ (by simp)]
  exact heap_alloc_new w _
set_option maxHeartbeats 1000000 in
theorem below_calls (A : Option Addr) (c : Nat) (xs : List S40) (i : Nat) (w : World) (hr : Kd.C k40 w A xs.length xs) (hl : xs.length ≤ 12) (hi : i < xs.length) :
    Calls Tryz.prog 36 #[.slice A xs.length c, .int .i64 i] w fun e w' => e = .returned (.agg ((belowOf (edgesOf xs) i).map Value.bool).toArray) ∧ Below w.heap.size w w' := by
  have hd : Calls Tryz.prog 53 #[.slice A xs.length c, .int .i64 i, .pointer (some ⟨w.heap.size + 1, 0, none⟩)] ((w.alloc (.cells (met0.map Value.bool).toArray 48)).alloc (.cells (met0.map Value.bool).toArray 48)) fun e w' => e = .returned (.tuple #[]) ∧ But (w.heap.size + 1) ((w.alloc (.cells (met0.map Value.bool).toArray 48)).alloc (.cells (met0.map Value.bool).toArray 48)) w' ∧ MetIs (w.heap.size + 1) (belowOf (edgesOf xs) i) w' :=
    down_calls A c xs w hr hl (w.heap.size + 1) (by omega) 13 i met0 _ hi rfl (by decide) (below_alloc (below_alloc (Below.refl _ _) _) _) (by
      unfold MetIs
      have : (w.alloc (.cells (met0.map Value.bool).toArray 48)).heap.size = w.heap.size + 1 := by simp
      rw [← this]
      exact heap_alloc_new _ _)
  have hlen : (belowOf (edgesOf xs) i).length = 12 := belowOf_len (fun i z hz => by have := (edgesOf_nn xs i z hz).2; omega) i
  obtain ⟨m, hm⟩ : ∃ m, belowOf (edgesOf xs) i = m := ⟨_, rfl⟩
  rw [hm] at hd hlen ⊢
  obtain ⟨b0, b1, b2, b3, b4, b5, b6, b7, b8, b9, b10, b11, rfl⟩ := twelve hlen
  simp only [met0, List.replicate, List.map_cons, List.map_nil] at hd ⊢
  generalize xs.length = n at hl hi hd ⊢
  clear hm hr hlen
  go_enter Tryz.func36, Tryz.ntmps36
  go_wp2_with (go_at_call 53; go_loud (refine hd.mono ?_); rintro e w2 ⟨rfl, hb2, hm2⟩; have hz := met_kept w w2 hb2; have c0 := hm2.cell (k := 0) (by simp); have c1 := hm2.cell (k := 1) (by simp); have c2 := hm2.cell (k := 2) (by simp); have c3 := hm2.cell (k := 3) (by simp); have c4 := hm2.cell (k := 4) (by simp); have c5 := hm2.cell (k := 5) (by simp); have c6 := hm2.cell (k := 6) (by simp); have c7 := hm2.cell (k := 7) (by simp); have c8 := hm2.cell (k := 8) (by simp); have c9 := hm2.cell (k := 9) (by simp); have c10 := hm2.cell (k := 10) (by simp); have c11 := hm2.cell (k := 11) (by simp); have d0 := hz.cell (k := 0) (by simp); have d1 := hz.cell (k := 1) (by simp); have d2 := hz.cell (k := 2) (by simp); have d3 := hz.cell (k := 3) (by simp); have d4 := hz.cell (k := 4) (by simp); have d5 := hz.cell (k := 5) (by simp); have d6 := hz.cell (k := 6) (by simp); have d7 := hz.cell (k := 7) (by simp); have d8 := hz.cell (k := 8) (by simp); have d9 := hz.cell (k := 9) (by simp); have d10 := hz.cell (k := 10) (by simp); have d11 := hz.cell (k := 11) (by simp); have f0 := hz.free 0; have f1 := hz.free 1; have f2 := hz.free 2; have f3 := hz.free 3; have f4 := hz.free 4; have f5 := hz.free 5; have f6 := hz.free 6; have f7 := hz.free 7; have f8 := hz.free 8; have f9 := hz.free 9; have f10 := hz.free 10; have f11 := hz.free 11)
  have hfin := ((((((((((((hz.put 0 b0).put 1 b1).put 2 b2).put 3 b3).put 4 b4).put 5 b5).put 6 b6).put 7 b7).put 8 b8).put 9 b9).put 10 b10).put 11 b11)
  (try simp only [Exit.inBlock, Exit.then])
  refine bodyPost_ret (results_cell_row rfl _ _ w.heap.size 48 _ (0, 0) (.array 12 4) rfl hfin Tryz.underlying48 rfl (by kernel_rfl)) rfl ⟨rfl, ?_⟩
  have hb3 := hb2.below (C := w.heap.size) (by omega) (by simp; omega)
  have hb4 := (below_alloc (below_alloc (Below.refl w.heap.size w) _) _).trans hb3
  exact ((((((((((((hb4.setCell (p := ⟨w.heap.size, 0, none⟩) (Nat.le_refl _) (.bool b0)).setCell (p := ⟨w.heap.size, 1, none⟩) (Nat.le_refl _) (.bool b1)).setCell (p := ⟨w.heap.size, 2, none⟩) (Nat.le_refl _) (.bool b2)).setCell (p := ⟨w.heap.size, 3, none⟩) (Nat.le_refl _) (.bool b3)).setCell (p := ⟨w.heap.size, 4, none⟩) (Nat.le_refl _) (.bool b4)).setCell (p := ⟨w.heap.size, 5, none⟩) (Nat.le_refl _) (.bool b5)).setCell (p := ⟨w.heap.size, 6, none⟩) (Nat.le_refl _) (.bool b6)).setCell (p := ⟨w.heap.size, 7, none⟩) (Nat.le_refl _) (.bool b7)).setCell (p := ⟨w.heap.size, 8, none⟩) (Nat.le_refl _) (.bool b8)).setCell (p := ⟨w.heap.size, 9, none⟩) (Nat.le_refl _) (.bool b9)).setCell (p := ⟨w.heap.size, 10, none⟩) (Nat.le_refl _) (.bool b10)).setCell (p := ⟨w.heap.size, 11, none⟩) (Nat.le_refl _) (.bool b11))
end Go.Proofs.YtnfiigjignpkaaaGreatDoor

/- graph.those: the places of which something holds. -/
namespace Go.Proofs.YtnfiigjignpkaaaGreatDoor
open Go Go.RowKit Go.Sort Go.Proofs Go.Proofs.YtnfiigjignpkaaaGreatDoorW.PrintWords Go.Proofs.YtnfiigjignpkaaaGreatDoor.K0
set_option linter.unusedVariables false
set_option linter.unusedSimpArgs false

theorem places_succ (n : Nat) (p : Nat → Bool) : placesOf (n + 1) p = placesOf n p ++ (if p n = true then [(n : Int)] else []) := by
  unfold placesOf
  rw [List.range_succ, List.filter_append, List.map_append]
  congr 1
  cases h : p n <;> simp [h]

set_option maxRecDepth 100000 in
set_option maxHeartbeats 4000000 in
theorem those_calls (A : Option Addr) (c n : Nat) (z : Int) (p : Nat → Bool) (g : Nat) (lb : Array Value) (eg : ∀ args w, (callFunc g args).run Tryz.prog w = .ok (.enter g args) w) (w : World) (hl : n ≤ 4294967290)
    (hchk : Calls Tryz.prog 12 #[.slice A n c] w fun e w' => e = .returned (.int .i64 z) ∧ Below w.heap.size w w')
    (hp : ∀ (i : Nat), i < n → ∀ (W : World), Below w.heap.size w W → z = 0 → Calls Tryz.prog g (#[.int .i64 i] ++ lb) W fun e w' => e = .returned (.bool (p i)) ∧ Below W.heap.size W w') :
    Calls Tryz.prog 34 #[.slice A n c, .func (.func g) #[] lb] w fun e w' => ∃ v0_ : Value, e = .returned v0_ ∧ Kd.R (Kd.int .i64) 3 w' w.heap.size (fun _ => True) v0_ (if z = 0 then placesOf n p else []) ∧ Below w.heap.size w w' := by
  by_cases hz : z = 0
  · rw [if_pos hz]
    subst hz
    have HP := Aside0.mk hp
    clear hp
    go_enter Tryz.func34, Tryz.ntmps34
    go_wp2_with (go_at_call 12; refine hchk.mono ?_; rintro e w1 ⟨rfl, hb1⟩; have HB1 := Aside0.mk hb1; clear hb1)
    go_loopg [5, 12] n (fun gg v5 v12 wr => ∃ kk : Nat, kk ≤ n ∧ n - kk ≤ gg ∧ v12 = .int .i64 kk ∧ Aside0 (Kd.R (Kd.int .i64) 3 wr w.heap.size (fun _ => True) v5 (placesOf kk p)) ∧ Aside0 (Below w.heap.size w wr))
    case atStart => exact ⟨0, Nat.zero_le _, by omega, rfl, Aside0.mk (Kd.R_nil _ _ _ _ _), HB1⟩
    case round =>
      obtain ⟨kk, hkk, hg, rfl, HO, HB⟩ := hrel
      by_cases hlt : kk < n
      · have hltz : (kk : Int) < (n : Int) := by omega
        have hC := HP.out kk hlt wr HB.out (by first | rfl | trivial)
        have hps := places_succ kk p
        have hpl := places_len kk p
        cases hq : p kk with
        | true =>
          rw [hq] at hC hps
          rw [if_pos rfl] at hps
          have HPS := Aside0.mk hps
          have HLE := Aside0.mk hpl
          clear hps hq hpl
          generalize placesOf kk p = acc at HO HPS HLE
          go_wp2_with (first | (go_at_fn g; refine hC.mono ?_; rintro e w' ⟨rfl, hb'⟩; have HB2 := Aside0.mk (below_step HB.out hb'); have HO2 := Aside0.mk (Kd.R_below HO.out hb'); clear hb') | ((with_reducible refine gate_builtin (b := .append) (xs := #[.tmp 18, .tmp 20]) rfl ?_); at_builtin; refine Kd.R_append (Kd.int .i64) (w0 := w) w.heap.size rfl (.tmp 18) (.tmp 20) 23 3 (.int .i64 0) 8 rfl Tryz.underlying23 info3 rfl (by decide) (by decide) u5 acc (kk : Int) [.int .i64 kk] (fun _ => True) (fun _ => False) rfl rfl ?aP (fun _ hk => hk.elim) ?aF ?aO ?aB ?aS ?aL ?_; (case aP => exact rfl); (case aB => exact HB2.out); (case aF => exact (fun _ _ => trivial)); (case aO => exact HO2.out); (case aS => exact below_size HB2.out); (case aL => have := HLE.out; omega); intro v103 w9 ho hb hg hat; have HO3 := Aside0.mk ho; have HB3 := Aside0.mk hb; clear ho hb hg hat HB2 HO2))
          go_roundg (n - (kk + 1))
          case measure => omega
          case rel => exact ⟨kk + 1, by omega, by omega, by go_num, ⟨by rw [HPS.out]; exact HO3.out⟩, HB3⟩
        | false =>
          rw [hq] at hC hps
          rw [if_neg (by simp), List.append_nil] at hps
          have HPS := Aside0.mk hps
          clear hps hq hpl
          go_wp2_with (go_at_fn g; refine hC.mono ?_; rintro e w' ⟨rfl, hb'⟩)
          go_roundg (n - (kk + 1))
          case measure => omega
          case rel => exact ⟨kk + 1, by omega, by omega, by go_num, ⟨by rw [HPS.out]; exact Kd.R_below HO.out hb'⟩, ⟨below_step HB.out hb'⟩⟩
      · have hltz : ¬ (kk : Int) < (n : Int) := by omega
        have : kk = n := by omega
        subst this
        go_wp2
        go_ret
        exact ⟨_, rfl, HO.out, HB.out⟩
  · rw [if_neg hz]
    have hzb : (z != 0) = true := by simp [hz]
    clear hp
    go_enter Tryz.func34, Tryz.ntmps34
    go_wp2_with (go_at_call 12; refine hchk.mono ?_; rintro e w1 ⟨rfl, hb1⟩; have HB1 := Aside0.mk hb1; clear hb1)
    go_ret
    exact ⟨_, rfl, Kd.R_nil _ _ _ _ _, HB1.out⟩
end Go.Proofs.YtnfiigjignpkaaaGreatDoor

/- graph.Cyclic: who depends on himself. -/
namespace Go.Proofs.YtnfiigjignpkaaaGreatDoor
open Go Go.RowKit Go.Sort Go.Proofs Go.Proofs.YtnfiigjignpkaaaGreatDoorW.PrintWords Go.Proofs.YtnfiigjignpkaaaGreatDoor.K0
set_option linter.unusedVariables false
set_option linter.unusedSimpArgs false

theorem met_index (cs : Array Value) (i : Nat) (b : Bool) (hg : cs.size = 12) (hi : (i : Int) < 12) (hv : cs[i]? = some (.bool b)) (w : World) : (Instr.index 48 (.agg cs) (.int .i64 i)).run Tryz.prog w = .ok (.bool b) w := by
  have h12 : 0 ≤ (i : Int) ∧ (i : Int) < ((12 : Nat) : Int) := by omega
  have hi2 : i < cs.size := by omega
  have hv2 : cs[i] = .bool b := by
    rw [Array.getElem?_eq_getElem hi2] at hv
    exact Option.some.inj hv
  simp only [Instr.index, asIntOf, part, Sem.run_bind, Sem.run_pure, Result.andThen_ok, run_underlying Tryz.underlying48, if_pos h12, Tryz.sizeOf4, Tryz.isAgg4, Int.toNat_natCast, Nat.mul_one, hv]
  rfl
set_option maxRecDepth 100000 in
set_option maxHeartbeats 2000000 in
theorem cyc_clo (A : Option Addr) (c : Nat) (xs : List S40) (i : Nat) (q : Addr) (W : World) (hr : Kd.C k40 W A xs.length xs) (hl : xs.length ≤ 12) (hi : i < xs.length) (hq : W.cell? q = some (.slice A xs.length c)) :
    Calls Tryz.prog 35 #[.int .i64 i, .pointer (some q)] W fun e w' => e = .returned (.bool ((belowOf (edgesOf xs) i).getD i false)) ∧ Below W.heap.size W w' := by
  have hb := below_calls A c xs i W hr hl hi
  have hlen : (belowOf (edgesOf xs) i).length = 12 := belowOf_len (fun i z hz => by have := (edgesOf_nn xs i z hz).2; omega) i
  have hlt : q.block < W.heap.size := World.block_lt_of_cell? W _ hq
  generalize belowOf (edgesOf xs) i = m at hb hlen
  generalize xs.length = n at hl hi hb hq
  have hi12 : (i : Int) < 12 := by omega
  have hg : (m.map Value.bool).toArray.size = 12 := by simp [hlen]
  have hv : (m.map Value.bool).toArray[i]? = some (.bool (m.getD i false)) := by
    simp [List.getD_eq_getElem?_getD, List.getElem?_eq_getElem (show i < m.length by omega)]
  generalize (m.map Value.bool).toArray = cs at hb hg hv
  clear hr hlen
  go_enter Tryz.func35, Tryz.ntmps35
  have hix := met_index cs i _ hg hi12 hv
  go_wp2_with (go_at_call 36; refine hb.mono ?_; rintro e w2 ⟨rfl, hb2⟩)
  go_ret
  exact ⟨rfl, hb2⟩

theorem slice_cell (w : World) (A : Option Addr) (n c : Nat) (t : TypeId) : (w.alloc (.cells #[.slice A n c] t)).cell? ⟨w.heap.size, 0, none⟩ = some (.slice A n c) := by
  unfold World.cell?; rw [heap_alloc_new]; rfl

set_option maxRecDepth 100000 in
set_option maxHeartbeats 2000000 in
theorem Cyclic_calls (A : Option Addr) (c : Nat) (xs : List S40) (z : Int) (w : World) (hr : Kd.C k40 w A xs.length xs) (hl : xs.length ≤ 4294967290) (hz : z = 0 → xs.length ≤ 12)
    (hchk : ∀ W, Below w.heap.size w W → Calls Tryz.prog 12 #[.slice A xs.length c] W fun e w' => e = .returned (.int .i64 z) ∧ Below W.heap.size W w') :
    Calls Tryz.prog 17 #[.slice A xs.length c] w fun e w' => ∃ v0_ : Value, e = .returned v0_ ∧ Kd.R (Kd.int .i64) 3 w' w.heap.size (fun _ => True) v0_ (if z = 0 then cycOf (edgesOf xs) xs.length else []) ∧ Below w.heap.size w w' := by
  have hth := those_calls A c xs.length z (fun i => (belowOf (edgesOf xs) i).getD i false) 35 #[.pointer (some ⟨w.heap.size, 0, none⟩)] (enters_of Tryz.func35 (by kernel_rfl) rfl) (w.alloc (.cells #[.slice A xs.length c] 22)) hl
    (hchk _ (below_alloc (Below.refl _ _) _)) (fun i hi W hb h0 => cyc_clo A c xs i _ W (Kd.C_below (Kd.C_alloc hr _) hb) (hz h0) hi (below_cell hb (slice_cell w A _ c _)))
  rw [cycOf_places]
  generalize (if z = 0 then placesOf xs.length (fun i => (belowOf (edgesOf xs) i).getD i false) else []) = r at hth ⊢
  generalize xs.length = n at hth ⊢
  clear hr hz hchk hl
  have hmf : ∀ (fn : Fn) (first cap : Array Value) (w : World), (Instr.makeFunc fn first cap).run Tryz.prog w = .ok (.func fn first cap) w := fun _ _ _ _ => rfl
  go_enter Tryz.func17, Tryz.ntmps17
  go_wp2_with (go_at_call 34; refine hth.mono ?_; rintro e w2 ⟨v0, rfl, hR, hb2⟩; have HR := Aside0.mk hR; have HB := Aside0.mk hb2; clear hR hb2)
  go_ret
  exact ⟨_, rfl, Kd.R_lower HR.out (by simp), below_step (below_alloc (Below.refl _ _) _) HB.out⟩
end Go.Proofs.YtnfiigjignpkaaaGreatDoor

/- graph.Up: who depends on any of some. -/
namespace Go.Proofs.YtnfiigjignpkaaaGreatDoor
open Go Go.RowKit Go.Sort Go.Proofs Go.Proofs.YtnfiigjignpkaaaGreatDoorW.PrintWords Go.Proofs.YtnfiigjignpkaaaGreatDoor.K0
set_option linter.unusedVariables false
set_option linter.unusedSimpArgs false

set_option maxRecDepth 100000 in
set_option maxHeartbeats 2000000 in
theorem up_inner (A : Option Addr) (c n : Nat) (z : Int) (q : Addr) (B : Nat) (m : List Bool) (W : World) (hl : n ≤ 12) (hm : m.length = 12) (hq : W.cell? q = some (.slice A n c)) (hM : MetIs B m W) :
    Calls Tryz.prog 40 #[.int .i64 z, .pointer (some q), .pointer (some ⟨B, 0, none⟩)] W fun e w' => e = .returned (.bool (decide (0 ≤ z) && (decide (z < n) && m.getD z.toNat false))) ∧ Below W.heap.size W w' := by
  by_cases h0 : 0 ≤ z
  · by_cases h1 : z < (n : Int)
    · obtain ⟨k, rfl⟩ : ∃ k : Nat, z = (k : Int) := ⟨z.toNat, by omega⟩
      have hk : k < 12 := by omega
      have hkz : (k : Int) < 12 := by omega
      have hcB := hM.cell (k := k) (by omega)
      rw [decide_eq_true h0, decide_eq_true h1, Int.toNat_natCast, Bool.true_and, Bool.true_and]
      generalize m.getD k false = b at hcB ⊢
      clear hM
      go_enter Tryz.func40, Tryz.ntmps40
      go_wp2
      go_ret
      exact ⟨rfl, Below.refl _ _⟩
    · rw [decide_eq_true h0, decide_eq_false h1, Bool.true_and, Bool.false_and]
      clear hM
      go_enter Tryz.func40, Tryz.ntmps40
      go_wp2
      go_ret
      exact ⟨rfl, Below.refl _ _⟩
  · rw [decide_eq_false h0, Bool.false_and]
    clear hM
    go_enter Tryz.func40, Tryz.ntmps40
    go_wp2
    go_ret
    exact ⟨rfl, Below.refl _ _⟩

set_option maxRecDepth 100000 in
set_option maxHeartbeats 4000000 in
theorem up_clo (A Af : Option Addr) (c cf : Nat) (xs : List S40) (fr : List Int) (i : Nat) (q qf : Addr) (W : World) (hr : Kd.C k40 W A xs.length xs) (hf : Kd.C (Kd.int .i64) W Af fr.length fr) (hl : xs.length ≤ 12) (hi : i < xs.length) (hq : W.cell? q = some (.slice A xs.length c)) (hqf : W.cell? qf = some (.slice Af fr.length cf)) :
    Calls Tryz.prog 38 #[.int .i64 i, .pointer (some q), .pointer (some qf)] W fun e w' => e = .returned (.bool (isUp (edgesOf xs) xs.length fr i)) ∧ Below W.heap.size W w' := by
  have hb := below_calls A c xs i W hr hl hi
  have hlen : (belowOf (edgesOf xs) i).length = 12 := belowOf_len (fun i z hz => by have := (edgesOf_nn xs i z hz).2; omega) i
  unfold isUp
  generalize belowOf (edgesOf xs) i = m at hb hlen ⊢
  have hqlt : q.block < W.heap.size := World.block_lt_of_cell? W _ hq
  have hqflt : qf.block < W.heap.size := World.block_lt_of_cell? W _ hqf
  have hcont := fun w' (hw : Below W.heap.size W w') => Contains_Int Af cf fr i w' (Kd.C_below hf hw)
  have hcf := fun w' (hw : Below W.heap.size W w') (B : Nat) (hM : MetIs B m w') => ContainsFunc_Int Af cf fr (fun z => decide (0 ≤ z) && (decide (z < (xs.length : Int)) && m.getD z.toNat false)) 40 #[.pointer (some q), .pointer (some ⟨B, 0, none⟩)] (enters_of Tryz.func40 (by kernel_rfl) rfl) w' (Kd.C_below hf hw)
    (fun j z hz W2 hb2 => up_inner A c xs.length z q B m W2 hl hlen (below_cell hb2 (below_cell hw hq)) (hM.below hb2))
  generalize xs.length = n at hl hi hb hq hcf ⊢
  generalize (fr.any fun z => decide (0 ≤ z) && (decide (z < (n : Int)) && m.getD z.toNat false)) = r at hcf ⊢
  generalize fr.contains (i : Int) = s at hcont ⊢
  generalize fr.length = nf at hf hqf hcont hcf
  have HCN := Aside0.mk hcont
  have HCF := Aside0.mk hcf
  clear hr hf hcont hcf
  have hmf : ∀ (fn : Fn) (first cap : Array Value) (w : World), (Instr.makeFunc fn first cap).run Tryz.prog w = .ok (.func fn first cap) w := fun _ _ _ _ => rfl
  obtain ⟨b0, b1, b2, b3, b4, b5, b6, b7, b8, b9, b10, b11, rfl⟩ := twelve hlen
  simp only [List.map_cons, List.map_nil] at hb
  cases s with
  | true =>
    rw [Bool.true_or]
    go_enter Tryz.func38, Tryz.ntmps38
    go_wp2_with (first | (go_at_call 36; refine hb.mono ?_; rintro e w2 ⟨rfl, hb2⟩; have gq := below_cell hb2 hq; have gf := below_cell hb2 hqf; have gf2 := below_cell (below_alloc (Below.refl _ w2) (.cells #[.bool b0, .bool b1, .bool b2, .bool b3, .bool b4, .bool b5, .bool b6, .bool b7, .bool b8, .bool b9, .bool b10, .bool b11] 48)) gf; have HB2 := Aside0.mk hb2; clear hb2) | (go_at_call 39; refine (HCN.out _ (below_alloc HB2.out (.cells #[.bool b0, .bool b1, .bool b2, .bool b3, .bool b4, .bool b5, .bool b6, .bool b7, .bool b8, .bool b9, .bool b10, .bool b11] 48))).mono ?_; rintro e w3 ⟨rfl, hb3⟩; have gf3 := below_cell hb3 gf2; have HB3 := Aside0.mk hb3; clear hb3))
    go_ret
    exact ⟨rfl, below_step (below_alloc HB2.out _) HB3.out⟩
  | false =>
    rw [Bool.false_or]
    go_enter Tryz.func38, Tryz.ntmps38
    go_wp2_with (first | (go_at_call 36; refine hb.mono ?_; rintro e w2 ⟨rfl, hb2⟩; have gq := below_cell hb2 hq; have gf := below_cell hb2 hqf; have gf2 := below_cell (below_alloc (Below.refl _ w2) (.cells #[.bool b0, .bool b1, .bool b2, .bool b3, .bool b4, .bool b5, .bool b6, .bool b7, .bool b8, .bool b9, .bool b10, .bool b11] 48)) gf; have HB2 := Aside0.mk hb2; clear hb2) | (go_at_call 39; refine (HCN.out _ (below_alloc HB2.out (.cells #[.bool b0, .bool b1, .bool b2, .bool b3, .bool b4, .bool b5, .bool b6, .bool b7, .bool b8, .bool b9, .bool b10, .bool b11] 48))).mono ?_; rintro e w3 ⟨rfl, hb3⟩; have gf3 := below_cell hb3 gf2; have HB3 := Aside0.mk hb3; clear hb3) | (go_at_call 25; refine (HCF.out _ (below_step (below_alloc HB2.out _) HB3.out) w2.heap.size (MetIs.below (show MetIs w2.heap.size [b0, b1, b2, b3, b4, b5, b6, b7, b8, b9, b10, b11] (w2.alloc (.cells #[.bool b0, .bool b1, .bool b2, .bool b3, .bool b4, .bool b5, .bool b6, .bool b7, .bool b8, .bool b9, .bool b10, .bool b11] 48)) from heap_alloc_new w2 (.cells #[.bool b0, .bool b1, .bool b2, .bool b3, .bool b4, .bool b5, .bool b6, .bool b7, .bool b8, .bool b9, .bool b10, .bool b11] 48)) HB3.out)).mono ?_; rintro e w4 ⟨rfl, hb4⟩; have HB4 := Aside0.mk hb4; clear hb4))
    go_ret
    exact ⟨rfl, below_step (below_step (below_alloc HB2.out _) HB3.out) HB4.out⟩

set_option maxRecDepth 100000 in
set_option maxHeartbeats 2000000 in
theorem Up_calls (A Af : Option Addr) (c cf : Nat) (xs : List S40) (fr : List Int) (z : Int) (w : World) (hr : Kd.C k40 w A xs.length xs) (hf : Kd.C (Kd.int .i64) w Af fr.length fr) (hl : xs.length ≤ 4294967290) (hz : z = 0 → xs.length ≤ 12)
    (hchk : ∀ W, Below w.heap.size w W → Calls Tryz.prog 12 #[.slice A xs.length c] W fun e w' => e = .returned (.int .i64 z) ∧ Below W.heap.size W w') :
    Calls Tryz.prog 19 #[.slice A xs.length c, .slice Af fr.length cf] w fun e w' => ∃ v0_ : Value, e = .returned v0_ ∧ Kd.R (Kd.int .i64) 3 w' w.heap.size (fun _ => True) v0_ (if z = 0 then upOf (edgesOf xs) xs.length fr else []) ∧ Below w.heap.size w w' := by
  have g1 := slice_cell w A xs.length c 22
  have g2 := slice_cell (w.alloc (.cells #[.slice A xs.length c] 22)) Af fr.length cf 23
  have hs : (w.alloc (.cells #[.slice A xs.length c] 22)).heap.size = w.heap.size + 1 := by simp
  rw [hs] at g2
  have g1' := below_cell (below_alloc (Below.refl _ _) (.cells #[.slice Af fr.length cf] 23)) g1
  have hth := those_calls A c xs.length z (isUp (edgesOf xs) xs.length fr) 38 #[.pointer (some ⟨w.heap.size, 0, none⟩), .pointer (some ⟨w.heap.size + 1, 0, none⟩)] (enters_of Tryz.func38 (by kernel_rfl) rfl) ((w.alloc (.cells #[.slice A xs.length c] 22)).alloc (.cells #[.slice Af fr.length cf] 23)) hl
    (hchk _ (below_alloc (below_alloc (Below.refl _ _) _) _)) (fun i hi W hb h0 => up_clo A Af c cf xs fr i _ _ W (Kd.C_below (Kd.C_alloc (Kd.C_alloc hr _) _) hb) (Kd.C_below (Kd.C_alloc (Kd.C_alloc hf _) _) hb) (hz h0) hi (below_cell hb g1') (below_cell hb g2))
  unfold upOf
  generalize (if z = 0 then placesOf xs.length (isUp (edgesOf xs) xs.length fr) else []) = r at hth ⊢
  generalize xs.length = n at hth ⊢
  generalize fr.length = nf at hth ⊢
  clear hr hz hchk hl hf g1 g2 g1' hs
  have hmf : ∀ (fn : Fn) (first cap : Array Value) (w : World), (Instr.makeFunc fn first cap).run Tryz.prog w = .ok (.func fn first cap) w := fun _ _ _ _ => rfl
  go_enter Tryz.func19, Tryz.ntmps19
  go_wp2_with (go_at_call 34; refine hth.mono ?_; rintro e w2 ⟨v0, rfl, hR, hb2⟩; have HR := Aside0.mk hR; have HB := Aside0.mk hb2; clear hR hb2)
  go_ret
  exact ⟨_, rfl, Kd.R_lower HR.out (by simp; omega), below_step (below_alloc (below_alloc (Below.refl _ _) _) _) HB.out⟩
end Go.Proofs.YtnfiigjignpkaaaGreatDoor

/- graph.Order's closures: who may be next. -/
namespace Go.Proofs.YtnfiigjignpkaaaGreatDoor
open Go Go.RowKit Go.Sort Go.Proofs Go.Proofs.YtnfiigjignpkaaaGreatDoorW.PrintWords Go.Proofs.YtnfiigjignpkaaaGreatDoor.K0
set_option linter.unusedVariables false
set_option linter.unusedSimpArgs false

theorem ord_clo1 (B : Nat) (path : ByteArray) (s p : ByteArray) (v : Value) (W : World) (h : W.cell? ⟨B, 1, none⟩ = some (.string path)) :
    Calls Tryz.prog 24 #[.agg #[.string s, .string p, v], .pointer (some ⟨B, 0, none⟩)] W fun e w' => e = .returned (.bool (p.toList == path.toList)) ∧ Below W.heap.size W w' := by
  have hlt : B < W.heap.size := World.block_lt_of_cell? W _ h
  have h2 : ∀ o, (W.alloc o).cell? ⟨B, 1, none⟩ = some (.string path) := fun o => (World.cell?_alloc_old W o _ (show B ≠ W.heap.size by omega)).trans h
  clear hlt
  go_enter Tryz.func24, Tryz.ntmps24
  go_wp2
  go_ret
  exact ⟨rfl, by repeat (first | exact Below.refl _ _ | apply below_alloc | apply pw_below_drewN | apply below_drew1)⟩

theorem ord_clo2 (z : Int) (B : Nat) (m : List Bool) (W : World) (hm : m.length = 12) (hM : MetIs B m W) (h0 : 0 ≤ z) (h1 : z < 12) :
    Calls Tryz.prog 27 #[.int .i64 z, .pointer (some ⟨B, 0, none⟩)] W fun e w' => e = .returned (.bool (!m.getD z.toNat false)) ∧ Below W.heap.size W w' := by
  obtain ⟨k, rfl⟩ : ∃ k : Nat, z = (k : Int) := ⟨z.toNat, by omega⟩
  have hcB := hM.cell (k := k) (by omega)
  rw [Int.toNat_natCast]
  generalize m.getD k false = b at hcB ⊢
  clear hM
  go_enter Tryz.func27, Tryz.ntmps27
  go_wp2
  go_ret
  exact ⟨rfl, Below.refl _ _⟩

/-- The first module of a path. -/
def placeOf (xs : List S40) (path : ByteArray) : Int := idxFrom (fun y => y.f1.toList == path.toList) 0 xs
def mayNext (E : Nat → List Int) (m : List Bool) (i : Nat) : Bool := !m.getD i false && !(E i).any fun z => !m.getD z.toNat false
theorem placeOf_in {xs : List S40} {x : S40} {j : Nat} (h : xs[j]? = some x) : ∃ k, k < xs.length ∧ placeOf xs x.f1 = (k : Int) := by
  rcases idxFrom_cases (fun y : S40 => y.f1.toList == x.f1.toList) xs 0 with ⟨k, y, h1, _, h3, _⟩ | ⟨_, h2⟩
  · exact ⟨k, (List.getElem?_eq_some_iff.1 h1).1, by rw [placeOf, h3]; simp⟩
  · have := h2 x (List.mem_of_getElem? h)
    simp at this

theorem ord_find (A : Option Addr) (c : Nat) (xs : List S40) (path : ByteArray) (B : Nat) (w : World) (hr : Kd.C k40 w A xs.length xs) (h : w.cell? ⟨B, 1, none⟩ = some (.string path)) :
    Calls Tryz.prog 22 #[.slice A xs.length c, .func (.func 24) #[] #[.pointer (some ⟨B, 0, none⟩)]] w fun e w' => e = .returned (.int .i64 (placeOf xs path)) ∧ Below w.heap.size w w' := by
  refine IndexFunc_Mod A c xs (fun y => y.f1.toList == path.toList) 24 _ (enters_of Tryz.func24 (by kernel_rfl) rfl) w hr ?_
  intro j y _ W hb cs hK
  obtain ⟨_, _, rfl, _, _⟩ := k40_open hK
  exact ord_clo1 B path _ _ _ W ((hb.cell (p := ⟨B, 1, none⟩) (World.block_lt_of_cell? w _ h)).trans h)

set_option maxRecDepth 100000 in
set_option maxHeartbeats 4000000 in
theorem ord_clo (A : Option Addr) (c : Nat) (xs : List S40) (x : S40) (j : Nat) (q : Addr) (D : Nat) (m : List Bool) (A2 : Option Addr) (c2 : Nat) (W : World) (hr : Kd.C k40 W A xs.length xs) (hl : xs.length ≤ 12) (hx : xs[j]? = some x) (hq : W.cell? q = some (.slice A xs.length c)) (hm : m.length = 12) (hM : MetIs D m W) :
    Calls Tryz.prog 23 #[.agg #[.string x.f0, .string x.f1, .slice A2 x.f2.length c2], .pointer (some q), .pointer (some ⟨D, 0, none⟩)] W fun e w' => e = .returned (.bool (mayNext (edgesOf xs) m (placeOf xs x.f1).toNat)) ∧ Below W.heap.size W w' := by
  obtain ⟨k, hk, hp⟩ := placeOf_in hx
  obtain ⟨y, hy⟩ : ∃ y, xs[k]? = some y := ⟨_, List.getElem?_eq_getElem hk⟩
  have hf := ord_find A c xs x.f1 W.heap.size (W.alloc (.cells #[.string x.f0, .string x.f1, .slice A2 x.f2.length c2] 40)) (Kd.C_alloc hr _) (by unfold World.cell?; rw [heap_alloc_new]; rfl)
  have hg : ∀ w', Below W.heap.size W w' → _ := fun w' hb => edges_calls A c xs k y w' (Kd.C_below hr hb) hy (by omega)
  have hcf : ∀ (w' : World) (Av : Option Addr) (cv : Nat), Below W.heap.size W w' → Kd.C (Kd.int .i64) w' Av (edgesOf xs k).length (edgesOf xs k) → _ := fun w' Av cv hb hC => ContainsFunc_Int Av cv (edgesOf xs k) (fun z => !m.getD z.toNat false) 27 #[.pointer (some ⟨D, 0, none⟩)] (enters_of Tryz.func27 (by kernel_rfl) rfl) w' hC
    (fun i z hz W2 hb2 => ord_clo2 z D m W2 hm ((hM.below hb).below hb2) (edgesOf_nn xs k z (List.mem_of_getElem? hz)).1 (by have := (edgesOf_nn xs k z (List.mem_of_getElem? hz)).2; have := (edgesOf_nn xs k z (List.mem_of_getElem? hz)).1; omega))
  rw [← edgesOf_at hy] at hg
  rw [hp] at hf ⊢
  rw [Int.toNat_natCast]
  unfold mayNext
  generalize edgesOf xs k = es at hg hcf ⊢
  have hk12 : (k : Int) < 12 := by omega
  have hcB := fun w' (hb : Below W.heap.size W w') => (hM.below hb).cell (k := k) (by omega)
  generalize (es.any fun z => !m.getD z.toNat false) = r at hcf ⊢
  generalize m.getD k false = b at hcB ⊢
  generalize xs.length = n at *
  have hql := below_cell (below_alloc (Below.refl _ W) (.cells #[.string x.f0, .string x.f1, .slice A2 x.f2.length c2] 40)) hq
  have HG := Aside0.mk hg
  have HCF := Aside0.mk hcf
  have HCB := Aside0.mk hcB
  clear hr hx hy hp hM hg hcf hcB
  have hmf : ∀ (fn : Fn) (first cap : Array Value) (w : World), (Instr.makeFunc fn first cap).run Tryz.prog w = .ok (.func fn first cap) w := fun _ _ _ _ => rfl
  cases b with
  | true =>
    go_enter Tryz.func23, Tryz.ntmps23
    go_wp2_with (go_at_call 22; refine hf.mono ?_; rintro e w2 ⟨rfl, hb2⟩; have c2 := HCB.out _ (below_step (below_alloc (Below.refl _ _) _) hb2); have q2 := below_cell hb2 hql; have HB2 := Aside0.mk hb2; clear hb2)
    go_ret
    exact ⟨rfl, below_step (below_alloc (Below.refl _ _) _) HB2.out⟩
  | false =>
    go_enter Tryz.func23, Tryz.ntmps23
    go_wp2_with (first | (go_at_call 22; refine hf.mono ?_; rintro e w2 ⟨rfl, hb2⟩; have c2 := HCB.out _ (below_step (below_alloc (Below.refl _ _) _) hb2); have q2 := below_cell hb2 hql; have HB2 := Aside0.mk hb2; clear hb2) | (go_at_call 26; refine (HG.out _ (below_step (below_alloc (Below.refl _ _) _) HB2.out)).mono ?_; rintro e w3 ⟨v0, rfl, hR, hb3⟩; obtain ⟨Av, cv, rfl⟩ := Kd.R_slice hR; have HR3 := Aside0.mk (Kd.R_reads' hR).2.2; have HB3 := Aside0.mk hb3; clear hR hb3) | (go_at_call 25; refine (HCF.out _ _ _ (below_step (below_step (below_alloc (Below.refl _ _) _) HB2.out) HB3.out) HR3.out).mono ?_; rintro e w4 ⟨rfl, hb4⟩; have HB4 := Aside0.mk hb4; clear hb4))
    go_ret
    exact ⟨rfl, below_step (below_step (below_step (below_alloc (Below.refl _ _) _) HB2.out) HB3.out) HB4.out⟩
end Go.Proofs.YtnfiigjignpkaaaGreatDoor

/- graph.Order. -/
namespace Go.Proofs.YtnfiigjignpkaaaGreatDoor
open Go Go.RowKit Go.Sort Go.Proofs Go.Proofs.YtnfiigjignpkaaaGreatDoorW.PrintWords Go.Proofs.YtnfiigjignpkaaaGreatDoor.K0
set_option linter.unusedVariables false
set_option linter.unusedSimpArgs false

def doneOf (o : List Int) : List Bool := (List.range 12).map fun (k : Nat) => o.contains (k : Int)
theorem doneOf_len (o : List Int) : (doneOf o).length = 12 := by simp [doneOf]
theorem doneOf_get (o : List Int) (k : Nat) (hk : k < 12) : (doneOf o).getD k false = o.contains (k : Int) := by
  unfold doneOf
  rw [List.getD_eq_getElem?_getD, List.getElem?_map, List.getElem?_range hk]
  rfl
theorem doneOf_set (o : List Int) (k : Nat) (hk : k < 12) : doneOf (o ++ [(k : Int)]) = (doneOf o).set k true := by
  apply List.ext_getElem
  · simp [doneOf]
  · intro i h1 h2
    have hi : i < 12 := by simpa [doneOf] using h1
    rw [List.getElem_set]
    unfold doneOf
    simp only [List.getElem_map, List.getElem_range]
    by_cases h : k = i
    · subst h; simp
    · rw [if_neg h]
      rw [Bool.eq_iff_iff]
      simp
      intro e; omega
theorem idxFrom_range {α : Type} (p : α → Bool) (q : Nat → Bool) : ∀ (l : List α) (n : Nat), (∀ j x, l[j]? = some x → p x = q (n + j)) → idxFrom p n l = idxFrom q n (List.range' n l.length)
  | [], n, _ => rfl
  | x :: l, n, h => by
    have h0 : p x = q n := h 0 x rfl
    rw [List.length_cons, List.range'_succ]
    unfold idxFrom
    rw [h0, idxFrom_range p q l (n + 1) (fun j y hy => by rw [h (j + 1) y (by simpa using hy)]; congr 1; omega)]
theorem mayNext_eq {E : Nat → List Int} {o : List Int} {i : Nat} (hi : i < 12) (hE : ∀ z ∈ E i, 0 ≤ z ∧ z.toNat < 12) : mayNext E (doneOf o) i = canNext E o i := by
  unfold mayNext canNext
  rw [doneOf_get o i hi, List.not_any_eq_all_not]
  congr 1
  rw [Bool.eq_iff_iff, List.all_eq_true, List.all_eq_true]
  refine forall_congr' fun z => forall_congr' fun hz => ?_
  obtain ⟨h0, h1⟩ := hE z hz
  rw [doneOf_get o _ h1, Int.toNat_of_nonneg h0, Bool.not_not]
theorem next_eq {xs : List S40} (o : List Int) (hl : xs.length ≤ 12) (hd : ∀ (j : Nat) (x : S40), xs[j]? = some x → placeOf xs x.f1 = (j : Int)) :
    idxFrom (fun x => mayNext (edgesOf xs) (doneOf o) (placeOf xs x.f1).toNat) 0 xs = nextOf (edgesOf xs) xs.length o := by
  unfold nextOf
  rw [List.range_eq_range']
  refine idxFrom_range _ _ xs 0 fun j x hx => ?_
  have hj := (List.getElem?_eq_some_iff.1 hx).1
  rw [hd j x hx, Int.toNat_natCast, Nat.zero_add]
  exact mayNext_eq (by omega) (fun z hz => by have := edgesOf_nn xs j z hz; omega)
theorem orderGo_stop {E : Nat → List Int} {n f : Nat} {o : List Int} (h : ¬ o.length < n) : orderGo E n (f + 1) o = (o, 0) := by
  rw [orderGo, if_neg h]
theorem orderGo_stuck {E : Nat → List Int} {n f : Nat} {o : List Int} (h : o.length < n) (hz : nextOf E n o = -1) : orderGo E n (f + 1) o = ([], 12) := by
  rw [orderGo, if_pos h, hz, if_pos (by omega)]
theorem orderGo_on {E : Nat → List Int} {n f k : Nat} {o : List Int} (h : o.length < n) (hz : nextOf E n o = (k : Int)) : orderGo E n (f + 1) o = orderGo E n f (o ++ [(k : Int)]) := by
  rw [orderGo, if_pos h, hz, if_neg (by omega)]

theorem ord_next (A : Option Addr) (c : Nat) (xs : List S40) (o : List Int) (q : Addr) (D : Nat) (w : World) (hr : Kd.C k40 w A xs.length xs) (hl : xs.length ≤ 12) (hd : ∀ (j : Nat) (x : S40), xs[j]? = some x → placeOf xs x.f1 = (j : Int)) (hq : w.cell? q = some (.slice A xs.length c)) (hM : MetIs D (doneOf o) w) :
    Calls Tryz.prog 22 #[.slice A xs.length c, .func (.func 23) #[] #[.pointer (some q), .pointer (some ⟨D, 0, none⟩)]] w fun e w' => e = .returned (.int .i64 (nextOf (edgesOf xs) xs.length o)) ∧ Below w.heap.size w w' := by
  rw [← next_eq o hl hd]
  refine IndexFunc_Mod A c xs _ 23 _ (enters_of Tryz.func23 (by kernel_rfl) rfl) w hr ?_
  intro j y hy W hb cs hK
  obtain ⟨A2, c2, rfl, _, _⟩ := k40_open hK
  exact ord_clo A c xs y j q D (doneOf o) A2 c2 W (Kd.C_below hr hb) hl hy (below_cell hb hq) (doneOf_len o) (hM.below hb)

set_option maxRecDepth 100000 in
set_option maxHeartbeats 4000000 in
theorem Order_calls (A : Option Addr) (c : Nat) (xs : List S40) (z : Int) (w : World) (hr : Kd.C k40 w A xs.length xs) (hl : xs.length ≤ 4294967290) (hz : z = 0 → xs.length ≤ 12) (hd : z = 0 → ∀ (j : Nat) (x : S40), xs[j]? = some x → placeOf xs x.f1 = (j : Int))
    (hchk : ∀ W, Below w.heap.size w W → Calls Tryz.prog 12 #[.slice A xs.length c] W fun e w' => e = .returned (.int .i64 z) ∧ Below W.heap.size W w') :
    Calls Tryz.prog 10 #[.slice A xs.length c] w fun e w' => ∃ v0_ : Value, e = .returned (.tuple #[v0_, .int .i64 (if z = 0 then orderOf (edgesOf xs) xs.length else ([], z)).2]) ∧ Kd.R (Kd.int .i64) 3 w' w.heap.size (fun _ => True) v0_ (if z = 0 then orderOf (edgesOf xs) xs.length else ([], z)).1 ∧ Below w.heap.size w w' := by
  have hc := hchk _ (below_alloc (Below.refl w.heap.size w) (.cells #[.slice A xs.length c] 22))
  have hq := slice_cell w A xs.length c 22
  have hmf : ∀ (fn : Fn) (first cap : Array Value) (w : World), (Instr.makeFunc fn first cap).run Tryz.prog w = .ok (.func fn first cap) w := fun _ _ _ _ => rfl
  by_cases h0 : z = 0
  · simp only [if_pos h0]
    have hl12 := hz h0
    have hd0 := hd h0
    subst h0
    have hnext := fun (o : List Int) (D : Nat) (q : Addr) (W : World) (hb : Below w.heap.size w W) => ord_next A c xs o q D W (Kd.C_below hr hb) hl12 hd0
    have hcases := fun o => nextOf_cases (E := edgesOf xs) xs.length o
    have hord : orderGo (edgesOf xs) xs.length (xs.length + 1) [] = orderOf (edgesOf xs) xs.length := rfl
    generalize orderOf (edgesOf xs) xs.length = r at hord ⊢
    generalize edgesOf xs = E at hnext hcases hord ⊢
    generalize xs.length = n at *
    have HNX := Aside0.mk hnext
    have HCS := Aside0.mk hcases
    have HORD := Aside0.mk hord
    clear hr hl hz hd hchk hd0 hnext hcases hord
    go_enter Tryz.func10, Tryz.ntmps10
    go_wp2_with (go_at_call 12; refine hc.mono ?_; rintro e w1 ⟨rfl, hb1⟩; have q1 := below_cell hb1 hq; have HB1 := Aside0.mk hb1; clear hb1)
    obtain ⟨D, hD⟩ : ∃ D, D = w1.heap.size := ⟨_, rfl⟩
    have hdone : MetIs D (doneOf []) (w1.alloc (.cells #[.bool false, .bool false, .bool false, .bool false, .bool false, .bool false, .bool false, .bool false, .bool false, .bool false, .bool false, .bool false] 48)) := by
      rw [hD]; exact heap_alloc_new w1 _
    have q2 := below_cell (below_alloc (Below.refl _ w1) (.cells #[.bool false, .bool false, .bool false, .bool false, .bool false, .bool false, .bool false, .bool false, .bool false, .bool false, .bool false, .bool false] 48)) q1
    have hwD : w.heap.size < D := by have := HB1.out.size; have : (w.alloc (.cells #[.slice A n c] 22)).heap.size = w.heap.size + 1 := by simp
                                     omega
    have hDs : D < (w1.alloc (.cells #[.bool false, .bool false, .bool false, .bool false, .bool false, .bool false, .bool false, .bool false, .bool false, .bool false, .bool false, .bool false] 48)).heap.size := by simp [hD]
    have hbw : Below w.heap.size w (w1.alloc (.cells #[.bool false, .bool false, .bool false, .bool false, .bool false, .bool false, .bool false, .bool false, .bool false, .bool false, .bool false, .bool false] 48)) := below_alloc (below_step (below_alloc (Below.refl _ _) _) HB1.out) _
    rw [← hD]
    generalize (w1.alloc (.cells #[.bool false, .bool false, .bool false, .bool false, .bool false, .bool false, .bool false, .bool false, .bool false, .bool false, .bool false, .bool false] 48)) = wa at hdone q2 hDs hbw ⊢
    have HDONE := Aside0.mk hdone
    have HQ := Aside0.mk q2
    have HBW := Aside0.mk hbw
    have HWD := Aside0.mk hwD
    have HDS := Aside0.mk hDs
    clear hD hdone q2 q1 hc hq HB1 hbw hwD hDs
    go_loopg [5] n (fun gg v5 wr => ∃ o : List Int, o.length ≤ n ∧ n - o.length ≤ gg ∧ Aside0 (orderGo E n (n + 1 - o.length) o = r) ∧ Aside0 (Kd.R (Kd.int .i64) 3 wr (D + 1) (fun k => k ≠ D) v5 o) ∧ Aside0 (Below w.heap.size w wr) ∧ Aside0 (MetIs D (doneOf o) wr) ∧ Aside0 (wr.cell? ⟨w.heap.size, 0, none⟩ = some (.slice A n c)))
    case atStart => exact ⟨[], Nat.zero_le _, by simp, HORD, ⟨Kd.R_nil _ _ _ _ _⟩, HBW, HDONE, HQ⟩
    case round =>
      obtain ⟨o, hol, hg, HO, HR, HB, HM, HC⟩ := hrel
      obtain ⟨A5, c5, rfl⟩ := Kd.R_slice HR.out
      have hcell := HC.out
      obtain ⟨ol, holn⟩ : ∃ ol, ol = o.length := ⟨_, rfl⟩
      have HOL := Aside0.mk holn
      have hR0 := HR.out
      rw [← holn] at hol hg hR0 ⊢
      have HRR := Aside0.mk hR0
      clear holn hR0 HR
      by_cases hlt : ol < n
      · have hltz : (ol : Int) < (n : Int) := by omega
        have hcall := HNX.out o D ⟨w.heap.size, 0, none⟩ wr HB.out hcell HM.out
        have hlt' : o.length < n := HOL.out ▸ hlt
        rcases HCS.out o with ⟨k, hk, hzk, _⟩ | ⟨hzk, _⟩
        · rw [hzk] at hcall
          have hO := HO.out
          rw [show n + 1 - o.length = (n - o.length) + 1 by omega, orderGo_on hlt' hzk] at hO
          have HO1 := Aside0.mk hO
          clear hO hzk hlt'
          have hkz : ¬ ((k : Int) < 0) := by omega
          have hk12 : (k : Int) < 12 := by omega
          have hcb := fun w' (hb : Below wr.heap.size wr w') => (HM.out.below hb).cell (k := k) (by rw [doneOf_len]; omega)
          have hfb := fun w' (hb : Below wr.heap.size wr w') => (HM.out.below hb).free k
          have HCB := Aside0.mk hcb
          have HFB := Aside0.mk hfb
          clear hcb hfb
          go_wp2_with (first | (go_at_call 22; refine hcall.mono ?_; rintro e w2 ⟨rfl, hb2⟩; have cD := HCB.out w2 hb2; have fD := HFB.out w2 hb2; have HR2 := Aside0.mk (Kd.R_far (Kd.R_below HRR.out hb2) (p := ⟨D, k, none⟩) (fun j hj => hj) (.bool true)); have HM2 := Aside0.mk ((HM.out.below hb2).set k); have HB2 := Aside0.mk hb2; clear hb2) | ((with_reducible refine gate_builtin (b := .append) (xs := #[.tmp 25, .tmp 27]) rfl ?_); at_builtin; refine Kd.R_append (Kd.int .i64) (w0 := w2.setCell ⟨D, k, none⟩ (.bool true)) (D + 1) rfl (.tmp 25) (.tmp 27) 23 3 (.int .i64 0) 8 rfl Tryz.underlying23 info3 rfl (by decide) (by decide) (.slice A5 ol c5) o (k : Int) [.int .i64 k] (fun j => j ≠ D) (fun _ => False) rfl ?aX ?aP (fun _ hk => hk.elim) ?aF ?aO ?aB ?aS ?aL ?_; (case aX => simp [Act.eval, World.setCell]); (case aP => exact rfl); (case aB => exact Below.refl _ _); (case aF => exact (fun j hj => by have := HM2.out.lt; omega)); (case aO => exact HR2.out); (case aS => have := HM2.out.lt; omega); (case aL => have := HOL.out; omega); intro v103 w9 ho hb hg hat; have HR3 := Aside0.mk ho; have HB3 := Aside0.mk hb; clear ho hb hg hat))
          go_roundg (n - (ol + 1))
          case measure => omega
          case rel =>
            have hD1 := HWD.out
            refine ⟨o ++ [(k : Int)], by rw [List.length_append, ← HOL.out]; simp; omega, by rw [List.length_append, ← HOL.out]; simp, ⟨?_⟩, HR3, ⟨?_⟩, ⟨?_⟩, ⟨?_⟩⟩
            · rw [List.length_append, show n + 1 - (o.length + [(k : Int)].length) = n - o.length by simp]
              exact HO1.out
            · exact ((below_step HB.out HB2.out).setCell (p := ⟨D, k, none⟩) (Nat.le_of_lt hD1) (.bool true)).trans (HB3.out.mono (by omega))
            · rw [doneOf_set o k (by omega)]
              exact (HB3.out.block D (by omega)).trans HM2.out
            · rw [HB3.out.cell (p := ⟨w.heap.size, 0, none⟩) (show w.heap.size < D + 1 by omega)]
              refine (World.cell?_setCell_other w2 _ _ _ ?_).trans (below_cell HB2.out hcell)
              intro e
              have := congrArg Addr.block e
              simp at this; omega
        · rw [hzk] at hcall
          have hO := HO.out
          rw [show n + 1 - o.length = (n - o.length) + 1 by omega, orderGo_stuck hlt' hzk] at hO
          have HO1 := Aside0.mk hO
          clear hO hzk hlt'
          go_wp2_with (go_at_call 22; refine hcall.mono ?_; rintro e w2 ⟨rfl, hb2⟩; have HB2 := Aside0.mk hb2; clear hb2)
          obtain rfl := HO1.out
          go_ret2
          exact ⟨_, rfl, Kd.R_nil _ _ _ _ _, below_step HB.out HB2.out⟩
      · have hltz : ¬ (ol : Int) < (n : Int) := by omega
        have hO := HO.out
        rw [show n + 1 - o.length = (n - o.length) + 1 by have := HOL.out; omega, orderGo_stop (by rw [← HOL.out]; exact hlt)] at hO
        have HO1 := Aside0.mk hO
        clear hO
        go_wp2
        obtain rfl := HO1.out
        go_ret2
        exact ⟨_, rfl, Kd.R_mono (Kd.R_lower HRR.out (by have := HWD.out; omega)) (fun _ _ => trivial), HB.out⟩
  · simp only [if_neg h0]
    have hzb : (z != 0) = true := by simp [h0]
    clear hr hl hz hd hchk
    generalize xs.length = n at *
    go_enter Tryz.func10, Tryz.ntmps10
    go_wp2_with (go_at_call 12; refine hc.mono ?_; rintro e w1 ⟨rfl, hb1⟩; have q1 := below_cell hb1 hq; have HB1 := Aside0.mk hb1; clear hb1)
    go_ret2
    exact ⟨_, rfl, Kd.R_nil _ _ _ _ _, below_step (below_alloc (Below.refl _ _) _) HB1.out⟩
end Go.Proofs.YtnfiigjignpkaaaGreatDoor
