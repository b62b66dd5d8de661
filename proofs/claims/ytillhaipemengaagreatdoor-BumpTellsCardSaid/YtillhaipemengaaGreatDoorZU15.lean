/- The texts Up, Ord, Ord2, Graph in one file, without what these claims do not use (put together by prune2.py). -/
import Derived.Test.YtillhaipemengaaGreatDoorZU14
import Derived.Test.YtillhaipemengaaGreatDoorZU13
section
namespace Go.Proofs.YtillhaipemengaaGreatDoor
open Go Go.RowKit Go.Sort Go.Proofs Go.Proofs.YtillhaipemengaaGreatDoorW.PrintWords Go.Proofs.YtillhaipemengaaGreatDoor.K0
set_option linter.unusedVariables false
set_option linter.unusedSimpArgs false
set_option maxRecDepth 100000 in
set_option maxHeartbeats 2000000 in
theorem up_inner (A : Option Addr) (c n : Nat) (z : Int) (q : Addr) (B : Nat) (m : List Bool) (W : World) (hl : n ≤ 12) (hm : m.length = 12) (hq : W.cell? q = some (.slice A n c)) (hM : MetIs B m W) :
    Calls Tryz.prog 87 #[.int .i64 z, .pointer (some q), .pointer (some ⟨B, 0, none⟩)] W fun e w' => e = .returned (.bool (decide (0 ≤ z) && (decide (z < n) && m.getD z.toNat false))) ∧ Below W.heap.size W w' := by
  by_cases h0 : 0 ≤ z
  · by_cases h1 : z < (n : Int)
    · obtain ⟨k, rfl⟩ : ∃ k : Nat, z = (k : Int) := ⟨z.toNat, by omega⟩
      have hk : k < 12 := by omega
      have hkz : (k : Int) < 12 := by omega
      have hcB := hM.cell (k := k) (by omega)
      rw [decide_eq_true h0, decide_eq_true h1, Int.toNat_natCast, Bool.true_and, Bool.true_and]
      generalize m.getD k false = b at hcB ⊢
      clear hM
      go_enter Tryz.func87, Tryz.ntmps87
      go_wp2
      go_ret
      exact ⟨rfl, Below.refl _ _⟩
    · rw [decide_eq_true h0, decide_eq_false h1, Bool.true_and, Bool.false_and]
      clear hM
      go_enter Tryz.func87, Tryz.ntmps87
      go_wp2
      go_ret
      exact ⟨rfl, Below.refl _ _⟩
  · rw [decide_eq_false h0, Bool.false_and]
    clear hM
    go_enter Tryz.func87, Tryz.ntmps87
    go_wp2
    go_ret
    exact ⟨rfl, Below.refl _ _⟩
set_option maxRecDepth 100000 in
set_option maxHeartbeats 4000000 in
theorem up_clo (A Af : Option Addr) (c cf : Nat) (xs : List S63) (fr : List Int) (i : Nat) (q qf : Addr) (W : World) (hr : Kd.C k63 W A xs.length xs) (hf : Kd.C (Kd.int .i64) W Af fr.length fr) (hl : xs.length ≤ 12) (hi : i < xs.length) (hq : W.cell? q = some (.slice A xs.length c)) (hqf : W.cell? qf = some (.slice Af fr.length cf)) :
    Calls Tryz.prog 85 #[.int .i64 i, .pointer (some q), .pointer (some qf)] W fun e w' => e = .returned (.bool (isUp (edgesOf xs) xs.length fr i)) ∧ Below W.heap.size W w' := by
  have hb := below_calls A c xs i W hr hl hi
  have hlen : (belowOf (edgesOf xs) i).length = 12 := belowOf_len (fun i z hz => by have := (edgesOf_nn xs i z hz).2; omega) i
  unfold isUp
  generalize belowOf (edgesOf xs) i = m at hb hlen ⊢
  have hqlt : q.block < W.heap.size := World.block_lt_of_cell? W _ hq
  have hqflt : qf.block < W.heap.size := World.block_lt_of_cell? W _ hqf
  have hcont := fun w' (hw : Below W.heap.size W w') => Contains_Int Af cf fr i w' (Kd.C_below hf hw)
  have hcf := fun w' (hw : Below W.heap.size W w') (B : Nat) (hM : MetIs B m w') => ContainsFunc_Int Af cf fr (fun z => decide (0 ≤ z) && (decide (z < (xs.length : Int)) && m.getD z.toNat false)) 87 #[.pointer (some q), .pointer (some ⟨B, 0, none⟩)] (enters_of Tryz.func87 (by kernel_rfl) rfl) w' (Kd.C_below hf hw)
    (fun j z hz W2 hb2 => up_inner A c xs.length z q B m W2 hl hlen (below_cell hb2 (below_cell hw hq)) (hM.below hb2))
  generalize xs.length = n at hl hi hb hq hcf ⊢
  generalize (fr.any fun z => decide (0 ≤ z) && (decide (z < (n : Int)) && m.getD z.toNat false)) = r at hcf ⊢
  generalize fr.contains (i : Int) = s at hcont ⊢
  generalize fr.length = nf at hf hqf hcont hcf
  have HCN := Aside0.mk hcont
  have HCF := Aside0.mk hcf
  clear hr hf hcont hcf
  have hmf : ∀ (fn : Fn) (first cap : Array Value) (w : World), (Instr.makeFunc fn first cap).run Tryz.prog w = .ok (.func fn first cap) w := fun _ _ _ _ => rfl
  obtain ⟨b0, b1, b2, b3, b4, b5, b6, b7, b8, b9, b10, b11, rfl⟩ := twelve hlen
  simp only [List.map_cons, List.map_nil] at hb
  cases s with
  | true =>
    rw [Bool.true_or]
    go_enter Tryz.func85, Tryz.ntmps85
    go_wp2_with (first | (go_at_call 86; refine hb.mono ?_; rintro e w2 ⟨rfl, hb2⟩; have gq := below_cell hb2 hq; have gf := below_cell hb2 hqf; have gf2 := below_cell (below_alloc (Below.refl _ w2) (.cells #[.bool b0, .bool b1, .bool b2, .bool b3, .bool b4, .bool b5, .bool b6, .bool b7, .bool b8, .bool b9, .bool b10, .bool b11] 114)) gf; have HB2 := Aside0.mk hb2; clear hb2) | (go_at_call 82; refine (HCN.out _ (below_alloc HB2.out (.cells #[.bool b0, .bool b1, .bool b2, .bool b3, .bool b4, .bool b5, .bool b6, .bool b7, .bool b8, .bool b9, .bool b10, .bool b11] 114))).mono ?_; rintro e w3 ⟨rfl, hb3⟩; have gf3 := below_cell hb3 gf2; have HB3 := Aside0.mk hb3; clear hb3))
    go_ret
    exact ⟨rfl, below_step (below_alloc HB2.out _) HB3.out⟩
  | false =>
    rw [Bool.false_or]
    go_enter Tryz.func85, Tryz.ntmps85
    go_wp2_with (first | (go_at_call 86; refine hb.mono ?_; rintro e w2 ⟨rfl, hb2⟩; have gq := below_cell hb2 hq; have gf := below_cell hb2 hqf; have gf2 := below_cell (below_alloc (Below.refl _ w2) (.cells #[.bool b0, .bool b1, .bool b2, .bool b3, .bool b4, .bool b5, .bool b6, .bool b7, .bool b8, .bool b9, .bool b10, .bool b11] 114)) gf; have HB2 := Aside0.mk hb2; clear hb2) | (go_at_call 82; refine (HCN.out _ (below_alloc HB2.out (.cells #[.bool b0, .bool b1, .bool b2, .bool b3, .bool b4, .bool b5, .bool b6, .bool b7, .bool b8, .bool b9, .bool b10, .bool b11] 114))).mono ?_; rintro e w3 ⟨rfl, hb3⟩; have gf3 := below_cell hb3 gf2; have HB3 := Aside0.mk hb3; clear hb3) | (go_at_call 75; refine (HCF.out _ (below_step (below_alloc HB2.out _) HB3.out) w2.heap.size (MetIs.below (show MetIs w2.heap.size [b0, b1, b2, b3, b4, b5, b6, b7, b8, b9, b10, b11] (w2.alloc (.cells #[.bool b0, .bool b1, .bool b2, .bool b3, .bool b4, .bool b5, .bool b6, .bool b7, .bool b8, .bool b9, .bool b10, .bool b11] 114)) from heap_alloc_new w2 (.cells #[.bool b0, .bool b1, .bool b2, .bool b3, .bool b4, .bool b5, .bool b6, .bool b7, .bool b8, .bool b9, .bool b10, .bool b11] 114)) HB3.out)).mono ?_; rintro e w4 ⟨rfl, hb4⟩; have HB4 := Aside0.mk hb4; clear hb4))
    go_ret
    exact ⟨rfl, below_step (below_step (below_alloc HB2.out _) HB3.out) HB4.out⟩
set_option maxRecDepth 100000 in
set_option maxHeartbeats 2000000 in
theorem Up_calls (A Af : Option Addr) (c cf : Nat) (xs : List S63) (fr : List Int) (z : Int) (w : World) (hr : Kd.C k63 w A xs.length xs) (hf : Kd.C (Kd.int .i64) w Af fr.length fr) (hl : xs.length ≤ 4294967290) (hz : z = 0 → xs.length ≤ 12)
    (hchk : ∀ W, Below w.heap.size w W → Calls Tryz.prog 71 #[.slice A xs.length c] W fun e w' => e = .returned (.int .i64 z) ∧ Below W.heap.size W w') :
    Calls Tryz.prog 44 #[.slice A xs.length c, .slice Af fr.length cf] w fun e w' => ∃ v0_ : Value, e = .returned v0_ ∧ Kd.R (Kd.int .i64) 3 w' w.heap.size (fun _ => True) v0_ (if z = 0 then upOf (edgesOf xs) xs.length fr else []) ∧ Below w.heap.size w w' := by
  have g1 := slice_cell w A xs.length c 38
  have g2 := slice_cell (w.alloc (.cells #[.slice A xs.length c] 38)) Af fr.length cf 39
  have hs : (w.alloc (.cells #[.slice A xs.length c] 38)).heap.size = w.heap.size + 1 := by simp
  rw [hs] at g2
  have g1' := below_cell (below_alloc (Below.refl _ _) (.cells #[.slice Af fr.length cf] 39)) g1
  have hth := those_calls A c xs.length z (isUp (edgesOf xs) xs.length fr) 85 #[.pointer (some ⟨w.heap.size, 0, none⟩), .pointer (some ⟨w.heap.size + 1, 0, none⟩)] (enters_of Tryz.func85 (by kernel_rfl) rfl) ((w.alloc (.cells #[.slice A xs.length c] 38)).alloc (.cells #[.slice Af fr.length cf] 39)) hl
    (hchk _ (below_alloc (below_alloc (Below.refl _ _) _) _)) (fun i hi W hb h0 => up_clo A Af c cf xs fr i _ _ W (Kd.C_below (Kd.C_alloc (Kd.C_alloc hr _) _) hb) (Kd.C_below (Kd.C_alloc (Kd.C_alloc hf _) _) hb) (hz h0) hi (below_cell hb g1') (below_cell hb g2))
  unfold upOf
  generalize (if z = 0 then placesOf xs.length (isUp (edgesOf xs) xs.length fr) else []) = r at hth ⊢
  generalize xs.length = n at hth ⊢
  generalize fr.length = nf at hth ⊢
  clear hr hz hchk hl hf g1 g2 g1' hs
  have hmf : ∀ (fn : Fn) (first cap : Array Value) (w : World), (Instr.makeFunc fn first cap).run Tryz.prog w = .ok (.func fn first cap) w := fun _ _ _ _ => rfl
  go_enter Tryz.func44, Tryz.ntmps44
  go_wp2_with (go_at_call 84; refine hth.mono ?_; rintro e w2 ⟨v0, rfl, hR, hb2⟩; have HR := Aside0.mk hR; have HB := Aside0.mk hb2; clear hR hb2)
  go_ret
  exact ⟨_, rfl, Kd.R_lower HR.out (by simp; omega), below_step (below_alloc (below_alloc (Below.refl _ _) _) _) HB.out⟩
end Go.Proofs.YtillhaipemengaaGreatDoor
end

section
namespace Go.Proofs.YtillhaipemengaaGreatDoor
open Go Go.RowKit Go.Sort Go.Proofs Go.Proofs.YtillhaipemengaaGreatDoorW.PrintWords Go.Proofs.YtillhaipemengaaGreatDoor.K0
set_option linter.unusedVariables false
set_option linter.unusedSimpArgs false
theorem ord_clo1 (B : Nat) (path : ByteArray) (s p : ByteArray) (v : Value) (W : World) (h : W.cell? ⟨B, 1, none⟩ = some (.string path)) :
    Calls Tryz.prog 74 #[.agg #[.string s, .string p, v], .pointer (some ⟨B, 0, none⟩)] W fun e w' => e = .returned (.bool (p.toList == path.toList)) ∧ Below W.heap.size W w' := by
  have hlt : B < W.heap.size := World.block_lt_of_cell? W _ h
  have h2 : ∀ o, (W.alloc o).cell? ⟨B, 1, none⟩ = some (.string path) := fun o => (World.cell?_alloc_old W o _ (show B ≠ W.heap.size by omega)).trans h
  clear hlt
  go_enter Tryz.func74, Tryz.ntmps74
  go_wp2
  go_ret
  exact ⟨rfl, by repeat (first | exact Below.refl _ _ | apply below_alloc | apply pw_below_drewN | apply below_drew1)⟩
theorem ord_clo2 (z : Int) (B : Nat) (m : List Bool) (W : World) (hm : m.length = 12) (hM : MetIs B m W) (h0 : 0 ≤ z) (h1 : z < 12) :
    Calls Tryz.prog 77 #[.int .i64 z, .pointer (some ⟨B, 0, none⟩)] W fun e w' => e = .returned (.bool (!m.getD z.toNat false)) ∧ Below W.heap.size W w' := by
  obtain ⟨k, rfl⟩ : ∃ k : Nat, z = (k : Int) := ⟨z.toNat, by omega⟩
  have hcB := hM.cell (k := k) (by omega)
  rw [Int.toNat_natCast]
  generalize m.getD k false = b at hcB ⊢
  clear hM
  go_enter Tryz.func77, Tryz.ntmps77
  go_wp2
  go_ret
  exact ⟨rfl, Below.refl _ _⟩
/-- The first module of a path. -/
def placeOf (xs : List S63) (path : ByteArray) : Int := idxFrom (fun y => y.f1.toList == path.toList) 0 xs
def mayNext (E : Nat → List Int) (m : List Bool) (i : Nat) : Bool := !m.getD i false && !(E i).any fun z => !m.getD z.toNat false
theorem placeOf_in {xs : List S63} {x : S63} {j : Nat} (h : xs[j]? = some x) : ∃ k, k < xs.length ∧ placeOf xs x.f1 = (k : Int) := by
  rcases idxFrom_cases (fun y : S63 => y.f1.toList == x.f1.toList) xs 0 with ⟨k, y, h1, _, h3, _⟩ | ⟨_, h2⟩
  · exact ⟨k, (List.getElem?_eq_some_iff.1 h1).1, by rw [placeOf, h3]; simp⟩
  · have := h2 x (List.mem_of_getElem? h)
    simp at this
theorem ord_find (A : Option Addr) (c : Nat) (xs : List S63) (path : ByteArray) (B : Nat) (w : World) (hr : Kd.C k63 w A xs.length xs) (h : w.cell? ⟨B, 1, none⟩ = some (.string path)) :
    Calls Tryz.prog 72 #[.slice A xs.length c, .func (.func 74) #[] #[.pointer (some ⟨B, 0, none⟩)]] w fun e w' => e = .returned (.int .i64 (placeOf xs path)) ∧ Below w.heap.size w w' := by
  refine IndexFunc_Mod A c xs (fun y => y.f1.toList == path.toList) 74 _ (enters_of Tryz.func74 (by kernel_rfl) rfl) w hr ?_
  intro j y _ W hb cs hK
  obtain ⟨_, _, rfl, _, _⟩ := k63_open hK
  exact ord_clo1 B path _ _ _ W ((hb.cell (p := ⟨B, 1, none⟩) (World.block_lt_of_cell? w _ h)).trans h)
set_option maxRecDepth 100000 in
set_option maxHeartbeats 4000000 in
theorem ord_clo (A : Option Addr) (c : Nat) (xs : List S63) (x : S63) (j : Nat) (q : Addr) (D : Nat) (m : List Bool) (A2 : Option Addr) (c2 : Nat) (W : World) (hr : Kd.C k63 W A xs.length xs) (hl : xs.length ≤ 12) (hx : xs[j]? = some x) (hq : W.cell? q = some (.slice A xs.length c)) (hm : m.length = 12) (hM : MetIs D m W) :
    Calls Tryz.prog 73 #[.agg #[.string x.f0, .string x.f1, .slice A2 x.f2.length c2], .pointer (some q), .pointer (some ⟨D, 0, none⟩)] W fun e w' => e = .returned (.bool (mayNext (edgesOf xs) m (placeOf xs x.f1).toNat)) ∧ Below W.heap.size W w' := by
  obtain ⟨k, hk, hp⟩ := placeOf_in hx
  obtain ⟨y, hy⟩ : ∃ y, xs[k]? = some y := ⟨_, List.getElem?_eq_getElem hk⟩
  have hf := ord_find A c xs x.f1 W.heap.size (W.alloc (.cells #[.string x.f0, .string x.f1, .slice A2 x.f2.length c2] 63)) (Kd.C_alloc hr _) (by unfold World.cell?; rw [heap_alloc_new]; rfl)
  have hg : ∀ w', Below W.heap.size W w' → _ := fun w' hb => edges_calls A c xs k y w' (Kd.C_below hr hb) hy (by omega)
  have hcf : ∀ (w' : World) (Av : Option Addr) (cv : Nat), Below W.heap.size W w' → Kd.C (Kd.int .i64) w' Av (edgesOf xs k).length (edgesOf xs k) → _ := fun w' Av cv hb hC => ContainsFunc_Int Av cv (edgesOf xs k) (fun z => !m.getD z.toNat false) 77 #[.pointer (some ⟨D, 0, none⟩)] (enters_of Tryz.func77 (by kernel_rfl) rfl) w' hC
    (fun i z hz W2 hb2 => ord_clo2 z D m W2 hm ((hM.below hb).below hb2) (edgesOf_nn xs k z (List.mem_of_getElem? hz)).1 (by have := (edgesOf_nn xs k z (List.mem_of_getElem? hz)).2; have := (edgesOf_nn xs k z (List.mem_of_getElem? hz)).1; omega))
  rw [← edgesOf_at hy] at hg
  rw [hp] at hf ⊢
  rw [Int.toNat_natCast]
  unfold mayNext
  generalize edgesOf xs k = es at hg hcf ⊢
  have hk12 : (k : Int) < 12 := by omega
  have hcB := fun w' (hb : Below W.heap.size W w') => (hM.below hb).cell (k := k) (by omega)
  generalize (es.any fun z => !m.getD z.toNat false) = r at hcf ⊢
  generalize m.getD k false = b at hcB ⊢
  generalize xs.length = n at *
  have hql := below_cell (below_alloc (Below.refl _ W) (.cells #[.string x.f0, .string x.f1, .slice A2 x.f2.length c2] 63)) hq
  have HG := Aside0.mk hg
  have HCF := Aside0.mk hcf
  have HCB := Aside0.mk hcB
  clear hr hx hy hp hM hg hcf hcB
  have hmf : ∀ (fn : Fn) (first cap : Array Value) (w : World), (Instr.makeFunc fn first cap).run Tryz.prog w = .ok (.func fn first cap) w := fun _ _ _ _ => rfl
  cases b with
  | true =>
    go_enter Tryz.func73, Tryz.ntmps73
    go_wp2_with (go_at_call 72; refine hf.mono ?_; rintro e w2 ⟨rfl, hb2⟩; have c2 := HCB.out _ (below_step (below_alloc (Below.refl _ _) _) hb2); have q2 := below_cell hb2 hql; have HB2 := Aside0.mk hb2; clear hb2)
    go_ret
    exact ⟨rfl, below_step (below_alloc (Below.refl _ _) _) HB2.out⟩
  | false =>
    go_enter Tryz.func73, Tryz.ntmps73
    go_wp2_with (first | (go_at_call 72; refine hf.mono ?_; rintro e w2 ⟨rfl, hb2⟩; have c2 := HCB.out _ (below_step (below_alloc (Below.refl _ _) _) hb2); have q2 := below_cell hb2 hql; have HB2 := Aside0.mk hb2; clear hb2) | (go_at_call 76; refine (HG.out _ (below_step (below_alloc (Below.refl _ _) _) HB2.out)).mono ?_; rintro e w3 ⟨v0, rfl, hR, hb3⟩; obtain ⟨Av, cv, rfl⟩ := Kd.R_slice hR; have HR3 := Aside0.mk (Kd.R_reads' hR).2.2; have HB3 := Aside0.mk hb3; clear hR hb3) | (go_at_call 75; refine (HCF.out _ _ _ (below_step (below_step (below_alloc (Below.refl _ _) _) HB2.out) HB3.out) HR3.out).mono ?_; rintro e w4 ⟨rfl, hb4⟩; have HB4 := Aside0.mk hb4; clear hb4))
    go_ret
    exact ⟨rfl, below_step (below_step (below_step (below_alloc (Below.refl _ _) _) HB2.out) HB3.out) HB4.out⟩
end Go.Proofs.YtillhaipemengaaGreatDoor
end

section
namespace Go.Proofs.YtillhaipemengaaGreatDoor
open Go Go.RowKit Go.Sort Go.Proofs Go.Proofs.YtillhaipemengaaGreatDoorW.PrintWords Go.Proofs.YtillhaipemengaaGreatDoor.K0
set_option linter.unusedVariables false
set_option linter.unusedSimpArgs false
def doneOf (o : List Int) : List Bool := (List.range 12).map fun (k : Nat) => o.contains (k : Int)
theorem doneOf_len (o : List Int) : (doneOf o).length = 12 := by simp [doneOf]
theorem doneOf_get (o : List Int) (k : Nat) (hk : k < 12) : (doneOf o).getD k false = o.contains (k : Int) := by
  unfold doneOf
  rw [List.getD_eq_getElem?_getD, List.getElem?_map, List.getElem?_range hk]
  rfl
theorem doneOf_set (o : List Int) (k : Nat) (hk : k < 12) : doneOf (o ++ [(k : Int)]) = (doneOf o).set k true := by
  apply List.ext_getElem
  · simp [doneOf]
  · intro i h1 h2
    have hi : i < 12 := by simpa [doneOf] using h1
    rw [List.getElem_set]
    unfold doneOf
    simp only [List.getElem_map, List.getElem_range]
    by_cases h : k = i
    · subst h; simp
    · rw [if_neg h]
      rw [Bool.eq_iff_iff]
      simp
      intro e; omega
theorem idxFrom_range {α : Type} (p : α → Bool) (q : Nat → Bool) : ∀ (l : List α) (n : Nat), (∀ j x, l[j]? = some x → p x = q (n + j)) → idxFrom p n l = idxFrom q n (List.range' n l.length)
  | [], n, _ => rfl
  | x :: l, n, h => by
    have h0 : p x = q n := h 0 x rfl
    rw [List.length_cons, List.range'_succ]
    unfold idxFrom
    rw [h0, idxFrom_range p q l (n + 1) (fun j y hy => by rw [h (j + 1) y (by simpa using hy)]; congr 1; omega)]
theorem mayNext_eq {E : Nat → List Int} {o : List Int} {i : Nat} (hi : i < 12) (hE : ∀ z ∈ E i, 0 ≤ z ∧ z.toNat < 12) : mayNext E (doneOf o) i = canNext E o i := by
  unfold mayNext canNext
  rw [doneOf_get o i hi, List.not_any_eq_all_not]
  congr 1
  rw [Bool.eq_iff_iff, List.all_eq_true, List.all_eq_true]
  refine forall_congr' fun z => forall_congr' fun hz => ?_
  obtain ⟨h0, h1⟩ := hE z hz
  rw [doneOf_get o _ h1, Int.toNat_of_nonneg h0, Bool.not_not]
theorem next_eq {xs : List S63} (o : List Int) (hl : xs.length ≤ 12) (hd : ∀ (j : Nat) (x : S63), xs[j]? = some x → placeOf xs x.f1 = (j : Int)) :
    idxFrom (fun x => mayNext (edgesOf xs) (doneOf o) (placeOf xs x.f1).toNat) 0 xs = nextOf (edgesOf xs) xs.length o := by
  unfold nextOf
  rw [List.range_eq_range']
  refine idxFrom_range _ _ xs 0 fun j x hx => ?_
  have hj := (List.getElem?_eq_some_iff.1 hx).1
  rw [hd j x hx, Int.toNat_natCast, Nat.zero_add]
  exact mayNext_eq (by omega) (fun z hz => by have := edgesOf_nn xs j z hz; omega)
theorem orderGo_stop {E : Nat → List Int} {n f : Nat} {o : List Int} (h : ¬ o.length < n) : orderGo E n (f + 1) o = (o, 0) := by
  rw [orderGo, if_neg h]
theorem orderGo_stuck {E : Nat → List Int} {n f : Nat} {o : List Int} (h : o.length < n) (hz : nextOf E n o = -1) : orderGo E n (f + 1) o = ([], 12) := by
  rw [orderGo, if_pos h, hz, if_pos (by omega)]
theorem orderGo_on {E : Nat → List Int} {n f k : Nat} {o : List Int} (h : o.length < n) (hz : nextOf E n o = (k : Int)) : orderGo E n (f + 1) o = orderGo E n f (o ++ [(k : Int)]) := by
  rw [orderGo, if_pos h, hz, if_neg (by omega)]
theorem ord_next (A : Option Addr) (c : Nat) (xs : List S63) (o : List Int) (q : Addr) (D : Nat) (w : World) (hr : Kd.C k63 w A xs.length xs) (hl : xs.length ≤ 12) (hd : ∀ (j : Nat) (x : S63), xs[j]? = some x → placeOf xs x.f1 = (j : Int)) (hq : w.cell? q = some (.slice A xs.length c)) (hM : MetIs D (doneOf o) w) :
    Calls Tryz.prog 72 #[.slice A xs.length c, .func (.func 73) #[] #[.pointer (some q), .pointer (some ⟨D, 0, none⟩)]] w fun e w' => e = .returned (.int .i64 (nextOf (edgesOf xs) xs.length o)) ∧ Below w.heap.size w w' := by
  rw [← next_eq o hl hd]
  refine IndexFunc_Mod A c xs _ 73 _ (enters_of Tryz.func73 (by kernel_rfl) rfl) w hr ?_
  intro j y hy W hb cs hK
  obtain ⟨A2, c2, rfl, _, _⟩ := k63_open hK
  exact ord_clo A c xs y j q D (doneOf o) A2 c2 W (Kd.C_below hr hb) hl hy (below_cell hb hq) (doneOf_len o) (hM.below hb)
set_option maxRecDepth 100000 in
set_option maxHeartbeats 4000000 in
theorem Order_calls (A : Option Addr) (c : Nat) (xs : List S63) (z : Int) (w : World) (hr : Kd.C k63 w A xs.length xs) (hl : xs.length ≤ 4294967290) (hz : z = 0 → xs.length ≤ 12) (hd : z = 0 → ∀ (j : Nat) (x : S63), xs[j]? = some x → placeOf xs x.f1 = (j : Int))
    (hchk : ∀ W, Below w.heap.size w W → Calls Tryz.prog 71 #[.slice A xs.length c] W fun e w' => e = .returned (.int .i64 z) ∧ Below W.heap.size W w') :
    Calls Tryz.prog 39 #[.slice A xs.length c] w fun e w' => ∃ v0_ : Value, e = .returned (.tuple #[v0_, .int .i64 (if z = 0 then orderOf (edgesOf xs) xs.length else ([], z)).2]) ∧ Kd.R (Kd.int .i64) 3 w' w.heap.size (fun _ => True) v0_ (if z = 0 then orderOf (edgesOf xs) xs.length else ([], z)).1 ∧ Below w.heap.size w w' := by
  have hc := hchk _ (below_alloc (Below.refl w.heap.size w) (.cells #[.slice A xs.length c] 38))
  have hq := slice_cell w A xs.length c 38
  have hmf : ∀ (fn : Fn) (first cap : Array Value) (w : World), (Instr.makeFunc fn first cap).run Tryz.prog w = .ok (.func fn first cap) w := fun _ _ _ _ => rfl
  by_cases h0 : z = 0
  · simp only [if_pos h0]
    have hl12 := hz h0
    have hd0 := hd h0
    subst h0
    have hnext := fun (o : List Int) (D : Nat) (q : Addr) (W : World) (hb : Below w.heap.size w W) => ord_next A c xs o q D W (Kd.C_below hr hb) hl12 hd0
    have hcases := fun o => nextOf_cases (E := edgesOf xs) xs.length o
    have hord : orderGo (edgesOf xs) xs.length (xs.length + 1) [] = orderOf (edgesOf xs) xs.length := rfl
    generalize orderOf (edgesOf xs) xs.length = r at hord ⊢
    generalize edgesOf xs = E at hnext hcases hord ⊢
    generalize xs.length = n at *
    have HNX := Aside0.mk hnext
    have HCS := Aside0.mk hcases
    have HORD := Aside0.mk hord
    clear hr hl hz hd hchk hd0 hnext hcases hord
    go_enter Tryz.func39, Tryz.ntmps39
    go_wp2_with (go_at_call 71; refine hc.mono ?_; rintro e w1 ⟨rfl, hb1⟩; have q1 := below_cell hb1 hq; have HB1 := Aside0.mk hb1; clear hb1)
    obtain ⟨D, hD⟩ : ∃ D, D = w1.heap.size := ⟨_, rfl⟩
    have hdone : MetIs D (doneOf []) (w1.alloc (.cells #[.bool false, .bool false, .bool false, .bool false, .bool false, .bool false, .bool false, .bool false, .bool false, .bool false, .bool false, .bool false] 114)) := by
      rw [hD]; exact heap_alloc_new w1 _
    have q2 := below_cell (below_alloc (Below.refl _ w1) (.cells #[.bool false, .bool false, .bool false, .bool false, .bool false, .bool false, .bool false, .bool false, .bool false, .bool false, .bool false, .bool false] 114)) q1
    have hwD : w.heap.size < D := by have := HB1.out.size; have : (w.alloc (.cells #[.slice A n c] 38)).heap.size = w.heap.size + 1 := by simp
                                     omega
    have hDs : D < (w1.alloc (.cells #[.bool false, .bool false, .bool false, .bool false, .bool false, .bool false, .bool false, .bool false, .bool false, .bool false, .bool false, .bool false] 114)).heap.size := by simp [hD]
    have hbw : Below w.heap.size w (w1.alloc (.cells #[.bool false, .bool false, .bool false, .bool false, .bool false, .bool false, .bool false, .bool false, .bool false, .bool false, .bool false, .bool false] 114)) := below_alloc (below_step (below_alloc (Below.refl _ _) _) HB1.out) _
    rw [← hD]
    generalize (w1.alloc (.cells #[.bool false, .bool false, .bool false, .bool false, .bool false, .bool false, .bool false, .bool false, .bool false, .bool false, .bool false, .bool false] 114)) = wa at hdone q2 hDs hbw ⊢
    have HDONE := Aside0.mk hdone
    have HQ := Aside0.mk q2
    have HBW := Aside0.mk hbw
    have HWD := Aside0.mk hwD
    have HDS := Aside0.mk hDs
    clear hD hdone q2 q1 hc hq HB1 hbw hwD hDs
    go_loopg [5] n (fun gg v5 wr => ∃ o : List Int, o.length ≤ n ∧ n - o.length ≤ gg ∧ Aside0 (orderGo E n (n + 1 - o.length) o = r) ∧ Aside0 (Kd.R (Kd.int .i64) 3 wr (D + 1) (fun k => k ≠ D) v5 o) ∧ Aside0 (Below w.heap.size w wr) ∧ Aside0 (MetIs D (doneOf o) wr) ∧ Aside0 (wr.cell? ⟨w.heap.size, 0, none⟩ = some (.slice A n c)))
    case atStart => exact ⟨[], Nat.zero_le _, by simp, HORD, ⟨Kd.R_nil _ _ _ _ _⟩, HBW, HDONE, HQ⟩
    case round =>
      obtain ⟨o, hol, hg, HO, HR, HB, HM, HC⟩ := hrel
      obtain ⟨A5, c5, rfl⟩ := Kd.R_slice HR.out
      have hcell := HC.out
      obtain ⟨ol, holn⟩ : ∃ ol, ol = o.length := ⟨_, rfl⟩
      have HOL := Aside0.mk holn
      have hR0 := HR.out
      rw [← holn] at hol hg hR0 ⊢
      have HRR := Aside0.mk hR0
      clear holn hR0 HR
      by_cases hlt : ol < n
      · have hltz : (ol : Int) < (n : Int) := by omega
        have hcall := HNX.out o D ⟨w.heap.size, 0, none⟩ wr HB.out hcell HM.out
        have hlt' : o.length < n := HOL.out ▸ hlt
        rcases HCS.out o with ⟨k, hk, hzk, _⟩ | ⟨hzk, _⟩
        · rw [hzk] at hcall
          have hO := HO.out
          rw [show n + 1 - o.length = (n - o.length) + 1 by omega, orderGo_on hlt' hzk] at hO
          have HO1 := Aside0.mk hO
          clear hO hzk hlt'
          have hkz : ¬ ((k : Int) < 0) := by omega
          have hk12 : (k : Int) < 12 := by omega
          have hcb := fun w' (hb : Below wr.heap.size wr w') => (HM.out.below hb).cell (k := k) (by rw [doneOf_len]; omega)
          have hfb := fun w' (hb : Below wr.heap.size wr w') => (HM.out.below hb).free k
          have HCB := Aside0.mk hcb
          have HFB := Aside0.mk hfb
          clear hcb hfb
          go_wp2_with (first | (go_at_call 72; refine hcall.mono ?_; rintro e w2 ⟨rfl, hb2⟩; have cD := HCB.out w2 hb2; have fD := HFB.out w2 hb2; have HR2 := Aside0.mk (Kd.R_far (Kd.R_below HRR.out hb2) (p := ⟨D, k, none⟩) (fun j hj => hj) (.bool true)); have HM2 := Aside0.mk ((HM.out.below hb2).set k); have HB2 := Aside0.mk hb2; clear hb2) | ((with_reducible refine gate_builtin (b := .append) (xs := #[.tmp 25, .tmp 27]) rfl ?_); at_builtin; refine Kd.R_append (Kd.int .i64) (w0 := w2.setCell ⟨D, k, none⟩ (.bool true)) (D + 1) rfl (.tmp 25) (.tmp 27) 39 3 (.int .i64 0) 8 rfl Tryz.underlying39 info3 rfl (by decide) (by decide) (.slice A5 ol c5) o (k : Int) [.int .i64 k] (fun j => j ≠ D) (fun _ => False) rfl ?aX ?aP (fun _ hk => hk.elim) ?aF ?aO ?aB ?aS ?aL ?_; (case aX => simp [Act.eval, World.setCell]); (case aP => exact rfl); (case aB => exact Below.refl _ _); (case aF => exact (fun j hj => by have := HM2.out.lt; omega)); (case aO => exact HR2.out); (case aS => have := HM2.out.lt; omega); (case aL => have := HOL.out; omega); intro v103 w9 ho hb hg hat; have HR3 := Aside0.mk ho; have HB3 := Aside0.mk hb; clear ho hb hg hat))
          go_roundg (n - (ol + 1))
          case measure => omega
          case rel =>
            have hD1 := HWD.out
            refine ⟨o ++ [(k : Int)], by rw [List.length_append, ← HOL.out]; simp; omega, by rw [List.length_append, ← HOL.out]; simp, ⟨?_⟩, HR3, ⟨?_⟩, ⟨?_⟩, ⟨?_⟩⟩
            · rw [List.length_append, show n + 1 - (o.length + [(k : Int)].length) = n - o.length by simp]
              exact HO1.out
            · exact ((below_step HB.out HB2.out).setCell (p := ⟨D, k, none⟩) (Nat.le_of_lt hD1) (.bool true)).trans (HB3.out.mono (by omega))
            · rw [doneOf_set o k (by omega)]
              exact (HB3.out.block D (by omega)).trans HM2.out
            · rw [HB3.out.cell (p := ⟨w.heap.size, 0, none⟩) (show w.heap.size < D + 1 by omega)]
              refine (World.cell?_setCell_other w2 _ _ _ ?_).trans (below_cell HB2.out hcell)
              intro e
              have := congrArg Addr.block e
              simp at this; omega
        · rw [hzk] at hcall
          have hO := HO.out
          rw [show n + 1 - o.length = (n - o.length) + 1 by omega, orderGo_stuck hlt' hzk] at hO
          have HO1 := Aside0.mk hO
          clear hO hzk hlt'
          go_wp2_with (go_at_call 72; refine hcall.mono ?_; rintro e w2 ⟨rfl, hb2⟩; have HB2 := Aside0.mk hb2; clear hb2)
          obtain rfl := HO1.out
          go_ret2
          exact ⟨_, rfl, Kd.R_nil _ _ _ _ _, below_step HB.out HB2.out⟩
      · have hltz : ¬ (ol : Int) < (n : Int) := by omega
        have hO := HO.out
        rw [show n + 1 - o.length = (n - o.length) + 1 by have := HOL.out; omega, orderGo_stop (by rw [← HOL.out]; exact hlt)] at hO
        have HO1 := Aside0.mk hO
        clear hO
        go_wp2
        obtain rfl := HO1.out
        go_ret2
        exact ⟨_, rfl, Kd.R_mono (Kd.R_lower HRR.out (by have := HWD.out; omega)) (fun _ _ => trivial), HB.out⟩
  · simp only [if_neg h0]
    have hzb : (z != 0) = true := by simp [h0]
    clear hr hl hz hd hchk
    generalize xs.length = n at *
    go_enter Tryz.func39, Tryz.ntmps39
    go_wp2_with (go_at_call 71; refine hc.mono ?_; rintro e w1 ⟨rfl, hb1⟩; have q1 := below_cell hb1 hq; have HB1 := Aside0.mk hb1; clear hb1)
    go_ret2
    exact ⟨_, rfl, Kd.R_nil _ _ _ _ _, below_step (below_alloc (Below.refl _ _) _) HB1.out⟩
end Go.Proofs.YtillhaipemengaaGreatDoor
end

section
namespace Go.Proofs.YtillhaipemengaaGreatDoor
open Go Go.RowKit Go.Sort Go.Proofs Go.Proofs.YtillhaipemengaaGreatDoorW.PrintWords Go.Proofs.YtillhaipemengaaGreatDoor.K0
set_option linter.unusedVariables false
set_option linter.unusedSimpArgs false
theorem gcheck_len {xs : List S63} (h : gcheck xs = 0) : xs.length ≤ 12 := by
  refine Classical.byContradiction fun hn => ?_
  rw [gcheck_big (by omega)] at h
  cases h
theorem gcheck_nodup {xs : List S63} (h : gcheck xs = 0) : (pathsOf xs).Nodup := by
  refine Classical.byContradiction fun hn => ?_
  unfold gcheck at h
  rw [if_neg hn] at h
  split at h
  · cases h
  · split at h <;> cases h
theorem gcheck_place {xs : List S63} (h : gcheck xs = 0) (j : Nat) (x : S63) (hx : xs[j]? = some x) : placeOf xs x.f1 = (j : Int) := by
  have hn := gcheck_nodup h
  obtain ⟨hj, ej⟩ := List.getElem?_eq_some_iff.1 hx
  unfold placeOf
  rw [idxFrom_at _ xs 0 j x hx (by simp) ?_, Nat.zero_add]
  intro i y hi hy
  obtain ⟨hil, ei⟩ := List.getElem?_eq_some_iff.1 hy
  have := List.pairwise_iff_getElem.1 hn i j (by simpa [pathsOf] using hil) (by simpa [pathsOf] using hj) hi
  simp only [pathsOf, List.getElem_map, ei, ej] at this
  rw [ByteArray.toList_eq, ByteArray.toList_eq]
  simpa using this
theorem chk_later (A0 : Option Addr) (c0 : Nat) (l0 : List S63) (w : World) (hr0 : Kd.C k63 w A0 l0.length l0) (hG : GW w) :
    ∀ W, Below w.heap.size w W → Calls Tryz.prog 71 #[.slice A0 l0.length c0] W fun e w' => e = .returned (.int .i64 (gcheck l0)) ∧ Below W.heap.size W w' :=
  fun W hb => gcheck_calls A0 c0 l0 W (hG.below hb) (Kd.C_below hr0 hb)
def upG (l : List S63) (fr : List Int) : List Int := if gcheck l = 0 then upOf (edgesOf l) l.length fr else []
def ordG (l : List S63) : List Int × Int := if gcheck l = 0 then orderOf (edgesOf l) l.length else ([], gcheck l)
def graph_Up.f (l0 : List S63) (l1 : List Int) : Option (List Int) := if l0.length ≤ 4294967290 then some (upG l0 l1) else none
theorem graph_Up.calls (A0 : Option Addr) (c0 : Nat) (l0 : List S63) (A1 : Option Addr) (c1 : Nat) (l1 : List Int) (r : List Int) (w : World) (hr0 : Kd.C k63 w A0 l0.length l0) (hc0 : l0.length ≤ c0) (hr1 : Kd.C (Kd.int .i64) w A1 l1.length l1) (hc1 : l1.length ≤ c1) (hG : GW w) (h : graph_Up.f l0 l1 = some r) :
    Calls Tryz.prog 44 #[.slice A0 l0.length c0, .slice A1 l1.length c1] w fun e w' => ∃ v0_ : Value, e = .returned (v0_) ∧ Kd.R (Kd.int .i64) 3 w' w.heap.size (fun _ => True) v0_ r ∧ Below w.heap.size w w' := by
  unfold graph_Up.f at h
  split at h
  · rename_i hl
    obtain rfl := Option.some.inj h
    exact Up_calls A0 A1 c0 c1 l0 l1 (gcheck l0) w hr0 hr1 hl gcheck_len (chk_later A0 c0 l0 w hr0 hG)
  · cases h
def graph_Order.f (l0 : List S63) : Option (List Int × Int) := if l0.length ≤ 4294967290 then some (ordG l0) else none
theorem graph_Order.calls (A0 : Option Addr) (c0 : Nat) (l0 : List S63) (r1 : List Int) (r2 : Int) (w : World) (hr0 : Kd.C k63 w A0 l0.length l0) (hc0 : l0.length ≤ c0) (hG : GW w) (h : graph_Order.f l0 = some (r1, r2)) :
    Calls Tryz.prog 39 #[.slice A0 l0.length c0] w fun e w' => ∃ v0_ : Value, e = .returned (.tuple #[v0_, .int .i64 r2]) ∧ Kd.R (Kd.int .i64) 3 w' w.heap.size (fun _ => True) v0_ r1 ∧ Below w.heap.size w w' := by
  unfold graph_Order.f at h
  split at h
  · rename_i hl
    have e := Option.some.inj h
    have hc := Order_calls A0 c0 l0 (gcheck l0) w hr0 hl gcheck_len (fun h => gcheck_place h) (chk_later A0 c0 l0 w hr0 hG)
    unfold ordG at e
    rw [e] at hc
    exact hc
  · cases h
end Go.Proofs.YtillhaipemengaaGreatDoor
end
