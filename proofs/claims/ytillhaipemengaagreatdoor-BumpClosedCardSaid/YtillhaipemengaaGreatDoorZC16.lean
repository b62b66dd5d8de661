/- The texts Ord, Ord2, Graph, BpPl in one file, without what these claims do not use (put together by prune2.py). -/
import Derived.Test.YtillhaipemengaaGreatDoorZC14
import Derived.Test.YtillhaipemengaaGreatDoorZC15
import Derived.Test.YtillhaipemengaaGreatDoorZC9
import Derived.Test.YtillhaipemengaaGreatDoorZC12
section
namespace Go.Proofs.YtillhaipemengaaGreatDoor
open Go Go.RowKit Go.Sort Go.Proofs Go.Proofs.YtillhaipemengaaGreatDoorW.PrintWords Go.Proofs.YtillhaipemengaaGreatDoor.K0
set_option linter.unusedVariables false
set_option linter.unusedSimpArgs false
theorem ord_clo1 (B : Nat) (path : ByteArray) (s p : ByteArray) (v : Value) (W : World) (h : W.cell? ⟨B, 1, none⟩ = some (.string path)) :
    Calls Tryz.prog 74 #[.agg #[.string s, .string p, v], .pointer (some ⟨B, 0, none⟩)] W fun e w' => e = .returned (.bool (p.toList == path.toList)) ∧ Below W.heap.size W w' := by
  have hlt : B < W.heap.size := World.block_lt_of_cell? W _ h
  have h2 : ∀ o, (W.alloc o).cell? ⟨B, 1, none⟩ = some (.string path) := fun o => (World.cell?_alloc_old W o _ (show B ≠ W.heap.size by omega)).trans h
  clear hlt
  go_enter Tryz.func74, Tryz.ntmps74
  go_wp2
  go_ret
  exact ⟨rfl, by repeat (first | exact Below.refl _ _ | apply below_alloc | apply pw_below_drewN | apply below_drew1)⟩
theorem ord_clo2 (z : Int) (B : Nat) (m : List Bool) (W : World) (hm : m.length = 12) (hM : MetIs B m W) (h0 : 0 ≤ z) (h1 : z < 12) :
    Calls Tryz.prog 77 #[.int .i64 z, .pointer (some ⟨B, 0, none⟩)] W fun e w' => e = .returned (.bool (!m.getD z.toNat false)) ∧ Below W.heap.size W w' := by
  obtain ⟨k, rfl⟩ : ∃ k : Nat, z = (k : Int) := ⟨z.toNat, by omega⟩
  have hcB := hM.cell (k := k) (by omega)
  rw [Int.toNat_natCast]
  generalize m.getD k false = b at hcB ⊢
  clear hM
  go_enter Tryz.func77, Tryz.ntmps77
  go_wp2
  go_ret
  exact ⟨rfl, Below.refl _ _⟩
/-- The first module of a path. -/
def placeOf (xs : List S63) (path : ByteArray) : Int := idxFrom (fun y => y.f1.toList == path.toList) 0 xs
def mayNext (E : Nat → List Int) (m : List Bool) (i : Nat) : Bool := !m.getD i false && !(E i).any fun z => !m.getD z.toNat false
theorem placeOf_in {xs : List S63} {x : S63} {j : Nat} (h : xs[j]? = some x) : ∃ k, k < xs.length ∧ placeOf xs x.f1 = (k : Int) := by
  rcases idxFrom_cases (fun y : S63 => y.f1.toList == x.f1.toList) xs 0 with ⟨k, y, h1, _, h3, _⟩ | ⟨_, h2⟩
  · exact ⟨k, (List.getElem?_eq_some_iff.1 h1).1, by rw [placeOf, h3]; simp⟩
  · have := h2 x (List.mem_of_getElem? h)
    simp at this
theorem ord_find (A : Option Addr) (c : Nat) (xs : List S63) (path : ByteArray) (B : Nat) (w : World) (hr : Kd.C k63 w A xs.length xs) (h : w.cell? ⟨B, 1, none⟩ = some (.string path)) :
    Calls Tryz.prog 72 #[.slice A xs.length c, .func (.func 74) #[] #[.pointer (some ⟨B, 0, none⟩)]] w fun e w' => e = .returned (.int .i64 (placeOf xs path)) ∧ Below w.heap.size w w' := by
  refine IndexFunc_Mod A c xs (fun y => y.f1.toList == path.toList) 74 _ (enters_of Tryz.func74 (by kernel_rfl) rfl) w hr ?_
  intro j y _ W hb cs hK
  obtain ⟨_, _, rfl, _, _⟩ := k63_open hK
  exact ord_clo1 B path _ _ _ W ((hb.cell (p := ⟨B, 1, none⟩) (World.block_lt_of_cell? w _ h)).trans h)
set_option maxRecDepth 100000 in
set_option maxHeartbeats 4000000 in
theorem ord_clo (A : Option Addr) (c : Nat) (xs : List S63) (x : S63) (j : Nat) (q : Addr) (D : Nat) (m : List Bool) (A2 : Option Addr) (c2 : Nat) (W : World) (hr : Kd.C k63 W A xs.length xs) (hl : xs.length ≤ 12) (hx : xs[j]? = some x) (hq : W.cell? q = some (.slice A xs.length c)) (hm : m.length = 12) (hM : MetIs D m W) :
    Calls Tryz.prog 73 #[.agg #[.string x.f0, .string x.f1, .slice A2 x.f2.length c2], .pointer (some q), .pointer (some ⟨D, 0, none⟩)] W fun e w' => e = .returned (.bool (mayNext (edgesOf xs) m (placeOf xs x.f1).toNat)) ∧ Below W.heap.size W w' := by
  obtain ⟨k, hk, hp⟩ := placeOf_in hx
  obtain ⟨y, hy⟩ : ∃ y, xs[k]? = some y := ⟨_, List.getElem?_eq_getElem hk⟩
  have hf := ord_find A c xs x.f1 W.heap.size (W.alloc (.cells #[.string x.f0, .string x.f1, .slice A2 x.f2.length c2] 63)) (Kd.C_alloc hr _) (by unfold World.cell?; rw [heap_alloc_new]; rfl)
  have hg : ∀ w', Below W.heap.size W w' → _ := fun w' hb => edges_calls A c xs k y w' (Kd.C_below hr hb) hy (by omega)
  have hcf : ∀ (w' : World) (Av : Option Addr) (cv : Nat), Below W.heap.size W w' → Kd.C (Kd.int .i64) w' Av (edgesOf xs k).length (edgesOf xs k) → _ := fun w' Av cv hb hC => ContainsFunc_Int Av cv (edgesOf xs k) (fun z => !m.getD z.toNat false) 77 #[.pointer (some ⟨D, 0, none⟩)] (enters_of Tryz.func77 (by kernel_rfl) rfl) w' hC
    (fun i z hz W2 hb2 => ord_clo2 z D m W2 hm ((hM.below hb).below hb2) (edgesOf_nn xs k z (List.mem_of_getElem? hz)).1 (by have := (edgesOf_nn xs k z (List.mem_of_getElem? hz)).2; have := (edgesOf_nn xs k z (List.mem_of_getElem? hz)).1; omega))
  rw [← edgesOf_at hy] at hg
  rw [hp] at hf ⊢
  rw [Int.toNat_natCast]
  unfold mayNext
  generalize edgesOf xs k = es at hg hcf ⊢
  have hk12 : (k : Int) < 12 := by omega
  have hcB := fun w' (hb : Below W.heap.size W w') => (hM.below hb).cell (k := k) (by omega)
  generalize (es.any fun z => !m.getD z.toNat false) = r at hcf ⊢
  generalize m.getD k false = b at hcB ⊢
  generalize xs.length = n at *
  have hql := below_cell (below_alloc (Below.refl _ W) (.cells #[.string x.f0, .string x.f1, .slice A2 x.f2.length c2] 63)) hq
  have HG := Aside0.mk hg
  have HCF := Aside0.mk hcf
  have HCB := Aside0.mk hcB
  clear hr hx hy hp hM hg hcf hcB
  have hmf : ∀ (fn : Fn) (first cap : Array Value) (w : World), (Instr.makeFunc fn first cap).run Tryz.prog w = .ok (.func fn first cap) w := fun _ _ _ _ => rfl
  cases b with
  | true =>
    go_enter Tryz.func73, Tryz.ntmps73
    go_wp2_with (go_at_call 72; refine hf.mono ?_; rintro e w2 ⟨rfl, hb2⟩; have c2 := HCB.out _ (below_step (below_alloc (Below.refl _ _) _) hb2); have q2 := below_cell hb2 hql; have HB2 := Aside0.mk hb2; clear hb2)
    go_ret
    exact ⟨rfl, below_step (below_alloc (Below.refl _ _) _) HB2.out⟩
  | false =>
    go_enter Tryz.func73, Tryz.ntmps73
    go_wp2_with (first | (go_at_call 72; refine hf.mono ?_; rintro e w2 ⟨rfl, hb2⟩; have c2 := HCB.out _ (below_step (below_alloc (Below.refl _ _) _) hb2); have q2 := below_cell hb2 hql; have HB2 := Aside0.mk hb2; clear hb2) | (go_at_call 76; refine (HG.out _ (below_step (below_alloc (Below.refl _ _) _) HB2.out)).mono ?_; rintro e w3 ⟨v0, rfl, hR, hb3⟩; obtain ⟨Av, cv, rfl⟩ := Kd.R_slice hR; have HR3 := Aside0.mk (Kd.R_reads' hR).2.2; have HB3 := Aside0.mk hb3; clear hR hb3) | (go_at_call 75; refine (HCF.out _ _ _ (below_step (below_step (below_alloc (Below.refl _ _) _) HB2.out) HB3.out) HR3.out).mono ?_; rintro e w4 ⟨rfl, hb4⟩; have HB4 := Aside0.mk hb4; clear hb4))
    go_ret
    exact ⟨rfl, below_step (below_step (below_step (below_alloc (Below.refl _ _) _) HB2.out) HB3.out) HB4.out⟩
end Go.Proofs.YtillhaipemengaaGreatDoor
end

section
namespace Go.Proofs.YtillhaipemengaaGreatDoor
open Go Go.RowKit Go.Sort Go.Proofs Go.Proofs.YtillhaipemengaaGreatDoorW.PrintWords Go.Proofs.YtillhaipemengaaGreatDoor.K0
set_option linter.unusedVariables false
set_option linter.unusedSimpArgs false
def doneOf (o : List Int) : List Bool := (List.range 12).map fun (k : Nat) => o.contains (k : Int)
theorem doneOf_len (o : List Int) : (doneOf o).length = 12 := by simp [doneOf]
theorem doneOf_get (o : List Int) (k : Nat) (hk : k < 12) : (doneOf o).getD k false = o.contains (k : Int) := by
  unfold doneOf
  rw [List.getD_eq_getElem?_getD, List.getElem?_map, List.getElem?_range hk]
  rfl
theorem doneOf_set (o : List Int) (k : Nat) (hk : k < 12) : doneOf (o ++ [(k : Int)]) = (doneOf o).set k true := by
  apply List.ext_getElem
  · simp [doneOf]
  · intro i h1 h2
    have hi : i < 12 := by simpa [doneOf] using h1
    rw [List.getElem_set]
    unfold doneOf
    simp only [List.getElem_map, List.getElem_range]
    by_cases h : k = i
    · subst h; simp
    · rw [if_neg h]
      rw [Bool.eq_iff_iff]
      simp
      intro e; omega
theorem idxFrom_range {α : Type} (p : α → Bool) (q : Nat → Bool) : ∀ (l : List α) (n : Nat), (∀ j x, l[j]? = some x → p x = q (n + j)) → idxFrom p n l = idxFrom q n (List.range' n l.length)
  | [], n, _ => rfl
  | x :: l, n, h => by
    have h0 : p x = q n := h 0 x rfl
    rw [List.length_cons, List.range'_succ]
    unfold idxFrom
    rw [h0, idxFrom_range p q l (n + 1) (fun j y hy => by rw [h (j + 1) y (by simpa using hy)]; congr 1; omega)]
theorem mayNext_eq {E : Nat → List Int} {o : List Int} {i : Nat} (hi : i < 12) (hE : ∀ z ∈ E i, 0 ≤ z ∧ z.toNat < 12) : mayNext E (doneOf o) i = canNext E o i := by
  unfold mayNext canNext
  rw [doneOf_get o i hi, List.not_any_eq_all_not]
  congr 1
  rw [Bool.eq_iff_iff, List.all_eq_true, List.all_eq_true]
  refine forall_congr' fun z => forall_congr' fun hz => ?_
  obtain ⟨h0, h1⟩ := hE z hz
  rw [doneOf_get o _ h1, Int.toNat_of_nonneg h0, Bool.not_not]
theorem next_eq {xs : List S63} (o : List Int) (hl : xs.length ≤ 12) (hd : ∀ (j : Nat) (x : S63), xs[j]? = some x → placeOf xs x.f1 = (j : Int)) :
    idxFrom (fun x => mayNext (edgesOf xs) (doneOf o) (placeOf xs x.f1).toNat) 0 xs = nextOf (edgesOf xs) xs.length o := by
  unfold nextOf
  rw [List.range_eq_range']
  refine idxFrom_range _ _ xs 0 fun j x hx => ?_
  have hj := (List.getElem?_eq_some_iff.1 hx).1
  rw [hd j x hx, Int.toNat_natCast, Nat.zero_add]
  exact mayNext_eq (by omega) (fun z hz => by have := edgesOf_nn xs j z hz; omega)
theorem orderGo_stop {E : Nat → List Int} {n f : Nat} {o : List Int} (h : ¬ o.length < n) : orderGo E n (f + 1) o = (o, 0) := by
  rw [orderGo, if_neg h]
theorem orderGo_stuck {E : Nat → List Int} {n f : Nat} {o : List Int} (h : o.length < n) (hz : nextOf E n o = -1) : orderGo E n (f + 1) o = ([], 12) := by
  rw [orderGo, if_pos h, hz, if_pos (by omega)]
theorem orderGo_on {E : Nat → List Int} {n f k : Nat} {o : List Int} (h : o.length < n) (hz : nextOf E n o = (k : Int)) : orderGo E n (f + 1) o = orderGo E n f (o ++ [(k : Int)]) := by
  rw [orderGo, if_pos h, hz, if_neg (by omega)]
theorem ord_next (A : Option Addr) (c : Nat) (xs : List S63) (o : List Int) (q : Addr) (D : Nat) (w : World) (hr : Kd.C k63 w A xs.length xs) (hl : xs.length ≤ 12) (hd : ∀ (j : Nat) (x : S63), xs[j]? = some x → placeOf xs x.f1 = (j : Int)) (hq : w.cell? q = some (.slice A xs.length c)) (hM : MetIs D (doneOf o) w) :
    Calls Tryz.prog 72 #[.slice A xs.length c, .func (.func 73) #[] #[.pointer (some q), .pointer (some ⟨D, 0, none⟩)]] w fun e w' => e = .returned (.int .i64 (nextOf (edgesOf xs) xs.length o)) ∧ Below w.heap.size w w' := by
  rw [← next_eq o hl hd]
  refine IndexFunc_Mod A c xs _ 73 _ (enters_of Tryz.func73 (by kernel_rfl) rfl) w hr ?_
  intro j y hy W hb cs hK
  obtain ⟨A2, c2, rfl, _, _⟩ := k63_open hK
  exact ord_clo A c xs y j q D (doneOf o) A2 c2 W (Kd.C_below hr hb) hl hy (below_cell hb hq) (doneOf_len o) (hM.below hb)
set_option maxRecDepth 100000 in
set_option maxHeartbeats 4000000 in
theorem Order_calls (A : Option Addr) (c : Nat) (xs : List S63) (z : Int) (w : World) (hr : Kd.C k63 w A xs.length xs) (hl : xs.length ≤ 4294967290) (hz : z = 0 → xs.length ≤ 12) (hd : z = 0 → ∀ (j : Nat) (x : S63), xs[j]? = some x → placeOf xs x.f1 = (j : Int))
    (hchk : ∀ W, Below w.heap.size w W → Calls Tryz.prog 71 #[.slice A xs.length c] W fun e w' => e = .returned (.int .i64 z) ∧ Below W.heap.size W w') :
    Calls Tryz.prog 39 #[.slice A xs.length c] w fun e w' => ∃ v0_ : Value, e = .returned (.tuple #[v0_, .int .i64 (if z = 0 then orderOf (edgesOf xs) xs.length else ([], z)).2]) ∧ Kd.R (Kd.int .i64) 3 w' w.heap.size (fun _ => True) v0_ (if z = 0 then orderOf (edgesOf xs) xs.length else ([], z)).1 ∧ Below w.heap.size w w' := by
  have hc := hchk _ (below_alloc (Below.refl w.heap.size w) (.cells #[.slice A xs.length c] 38))
  have hq := slice_cell w A xs.length c 38
  have hmf : ∀ (fn : Fn) (first cap : Array Value) (w : World), (Instr.makeFunc fn first cap).run Tryz.prog w = .ok (.func fn first cap) w := fun _ _ _ _ => rfl
  by_cases h0 : z = 0
  · simp only [if_pos h0]
    have hl12 := hz h0
    have hd0 := hd h0
    subst h0
    have hnext := fun (o : List Int) (D : Nat) (q : Addr) (W : World) (hb : Below w.heap.size w W) => ord_next A c xs o q D W (Kd.C_below hr hb) hl12 hd0
    have hcases := fun o => nextOf_cases (E := edgesOf xs) xs.length o
    have hord : orderGo (edgesOf xs) xs.length (xs.length + 1) [] = orderOf (edgesOf xs) xs.length := rfl
    generalize orderOf (edgesOf xs) xs.length = r at hord ⊢
    generalize edgesOf xs = E at hnext hcases hord ⊢
    generalize xs.length = n at *
    have HNX := Aside0.mk hnext
    have HCS := Aside0.mk hcases
    have HORD := Aside0.mk hord
    clear hr hl hz hd hchk hd0 hnext hcases hord
    go_enter Tryz.func39, Tryz.ntmps39
    go_wp2_with (go_at_call 71; refine hc.mono ?_; rintro e w1 ⟨rfl, hb1⟩; have q1 := below_cell hb1 hq; have HB1 := Aside0.mk hb1; clear hb1)
    obtain ⟨D, hD⟩ : ∃ D, D = w1.heap.size := ⟨_, rfl⟩
    have hdone : MetIs D (doneOf []) (w1.alloc (.cells #[.bool false, .bool false, .bool false, .bool false, .bool false, .bool false, .bool false, .bool false, .bool false, .bool false, .bool false, .bool false] 114)) := by
      rw [hD]; exact heap_alloc_new w1 _
    have q2 := below_cell (below_alloc (Below.refl _ w1) (.cells #[.bool false, .bool false, .bool false, .bool false, .bool false, .bool false, .bool false, .bool false, .bool false, .bool false, .bool false, .bool false] 114)) q1
    have hwD : w.heap.size < D := by have := HB1.out.size; have : (w.alloc (.cells #[.slice A n c] 38)).heap.size = w.heap.size + 1 := by simp
                                     omega
    have hDs : D < (w1.alloc (.cells #[.bool false, .bool false, .bool false, .bool false, .bool false, .bool false, .bool false, .bool false, .bool false, .bool false, .bool false, .bool false] 114)).heap.size := by simp [hD]
    have hbw : Below w.heap.size w (w1.alloc (.cells #[.bool false, .bool false, .bool false, .bool false, .bool false, .bool false, .bool false, .bool false, .bool false, .bool false, .bool false, .bool false] 114)) := below_alloc (below_step (below_alloc (Below.refl _ _) _) HB1.out) _
    rw [← hD]
    generalize (w1.alloc (.cells #[.bool false, .bool false, .bool false, .bool false, .bool false, .bool false, .bool false, .bool false, .bool false, .bool false, .bool false, .bool false] 114)) = wa at hdone q2 hDs hbw ⊢
    have HDONE := Aside0.mk hdone
    have HQ := Aside0.mk q2
    have HBW := Aside0.mk hbw
    have HWD := Aside0.mk hwD
    have HDS := Aside0.mk hDs
    clear hD hdone q2 q1 hc hq HB1 hbw hwD hDs
    go_loopg [5] n (fun gg v5 wr => ∃ o : List Int, o.length ≤ n ∧ n - o.length ≤ gg ∧ Aside0 (orderGo E n (n + 1 - o.length) o = r) ∧ Aside0 (Kd.R (Kd.int .i64) 3 wr (D + 1) (fun k => k ≠ D) v5 o) ∧ Aside0 (Below w.heap.size w wr) ∧ Aside0 (MetIs D (doneOf o) wr) ∧ Aside0 (wr.cell? ⟨w.heap.size, 0, none⟩ = some (.slice A n c)))
    case atStart => exact ⟨[], Nat.zero_le _, by simp, HORD, ⟨Kd.R_nil _ _ _ _ _⟩, HBW, HDONE, HQ⟩
    case round =>
      obtain ⟨o, hol, hg, HO, HR, HB, HM, HC⟩ := hrel
      obtain ⟨A5, c5, rfl⟩ := Kd.R_slice HR.out
      have hcell := HC.out
      obtain ⟨ol, holn⟩ : ∃ ol, ol = o.length := ⟨_, rfl⟩
      have HOL := Aside0.mk holn
      have hR0 := HR.out
      rw [← holn] at hol hg hR0 ⊢
      have HRR := Aside0.mk hR0
      clear holn hR0 HR
      by_cases hlt : ol < n
      · have hltz : (ol : Int) < (n : Int) := by omega
        have hcall := HNX.out o D ⟨w.heap.size, 0, none⟩ wr HB.out hcell HM.out
        have hlt' : o.length < n := HOL.out ▸ hlt
        rcases HCS.out o with ⟨k, hk, hzk, _⟩ | ⟨hzk, _⟩
        · rw [hzk] at hcall
          have hO := HO.out
          rw [show n + 1 - o.length = (n - o.length) + 1 by omega, orderGo_on hlt' hzk] at hO
          have HO1 := Aside0.mk hO
          clear hO hzk hlt'
          have hkz : ¬ ((k : Int) < 0) := by omega
          have hk12 : (k : Int) < 12 := by omega
          have hcb := fun w' (hb : Below wr.heap.size wr w') => (HM.out.below hb).cell (k := k) (by rw [doneOf_len]; omega)
          have hfb := fun w' (hb : Below wr.heap.size wr w') => (HM.out.below hb).free k
          have HCB := Aside0.mk hcb
          have HFB := Aside0.mk hfb
          clear hcb hfb
          go_wp2_with (first | (go_at_call 72; refine hcall.mono ?_; rintro e w2 ⟨rfl, hb2⟩; have cD := HCB.out w2 hb2; have fD := HFB.out w2 hb2; have HR2 := Aside0.mk (Kd.R_far (Kd.R_below HRR.out hb2) (p := ⟨D, k, none⟩) (fun j hj => hj) (.bool true)); have HM2 := Aside0.mk ((HM.out.below hb2).set k); have HB2 := Aside0.mk hb2; clear hb2) | ((with_reducible refine gate_builtin (b := .append) (xs := #[.tmp 25, .tmp 27]) rfl ?_); at_builtin; refine Kd.R_append (Kd.int .i64) (w0 := w2.setCell ⟨D, k, none⟩ (.bool true)) (D + 1) rfl (.tmp 25) (.tmp 27) 39 3 (.int .i64 0) 8 rfl Tryz.underlying39 info3 rfl (by decide) (by decide) (.slice A5 ol c5) o (k : Int) [.int .i64 k] (fun j => j ≠ D) (fun _ => False) rfl ?aX ?aP (fun _ hk => hk.elim) ?aF ?aO ?aB ?aS ?aL ?_; (case aX => simp [Act.eval, World.setCell]); (case aP => exact rfl); (case aB => exact Below.refl _ _); (case aF => exact (fun j hj => by have := HM2.out.lt; omega)); (case aO => exact HR2.out); (case aS => have := HM2.out.lt; omega); (case aL => have := HOL.out; omega); intro v103 w9 ho hb hg hat; have HR3 := Aside0.mk ho; have HB3 := Aside0.mk hb; clear ho hb hg hat))
          go_roundg (n - (ol + 1))
          case measure => omega
          case rel =>
            have hD1 := HWD.out
            refine ⟨o ++ [(k : Int)], by rw [List.length_append, ← HOL.out]; simp; omega, by rw [List.length_append, ← HOL.out]; simp, ⟨?_⟩, HR3, ⟨?_⟩, ⟨?_⟩, ⟨?_⟩⟩
            · rw [List.length_append, show n + 1 - (o.length + [(k : Int)].length) = n - o.length by simp]
              exact HO1.out
            · exact ((below_step HB.out HB2.out).setCell (p := ⟨D, k, none⟩) (Nat.le_of_lt hD1) (.bool true)).trans (HB3.out.mono (by omega))
            · rw [doneOf_set o k (by omega)]
              exact (HB3.out.block D (by omega)).trans HM2.out
            · rw [HB3.out.cell (p := ⟨w.heap.size, 0, none⟩) (show w.heap.size < D + 1 by omega)]
              refine (World.cell?_setCell_other w2 _ _ _ ?_).trans (below_cell HB2.out hcell)
              intro e
              have := congrArg Addr.block e
              simp at this; omega
        · rw [hzk] at hcall
          have hO := HO.out
          rw [show n + 1 - o.length = (n - o.length) + 1 by omega, orderGo_stuck hlt' hzk] at hO
          have HO1 := Aside0.mk hO
          clear hO hzk hlt'
          go_wp2_with (go_at_call 72; refine hcall.mono ?_; rintro e w2 ⟨rfl, hb2⟩; have HB2 := Aside0.mk hb2; clear hb2)
          obtain rfl := HO1.out
          go_ret2
          exact ⟨_, rfl, Kd.R_nil _ _ _ _ _, below_step HB.out HB2.out⟩
      · have hltz : ¬ (ol : Int) < (n : Int) := by omega
        have hO := HO.out
        rw [show n + 1 - o.length = (n - o.length) + 1 by have := HOL.out; omega, orderGo_stop (by rw [← HOL.out]; exact hlt)] at hO
        have HO1 := Aside0.mk hO
        clear hO
        go_wp2
        obtain rfl := HO1.out
        go_ret2
        exact ⟨_, rfl, Kd.R_mono (Kd.R_lower HRR.out (by have := HWD.out; omega)) (fun _ _ => trivial), HB.out⟩
  · simp only [if_neg h0]
    have hzb : (z != 0) = true := by simp [h0]
    clear hr hl hz hd hchk
    generalize xs.length = n at *
    go_enter Tryz.func39, Tryz.ntmps39
    go_wp2_with (go_at_call 71; refine hc.mono ?_; rintro e w1 ⟨rfl, hb1⟩; have q1 := below_cell hb1 hq; have HB1 := Aside0.mk hb1; clear hb1)
    go_ret2
    exact ⟨_, rfl, Kd.R_nil _ _ _ _ _, below_step (below_alloc (Below.refl _ _) _) HB1.out⟩
end Go.Proofs.YtillhaipemengaaGreatDoor
end

section
namespace Go.Proofs.YtillhaipemengaaGreatDoor
open Go Go.RowKit Go.Sort Go.Proofs Go.Proofs.YtillhaipemengaaGreatDoorW.PrintWords Go.Proofs.YtillhaipemengaaGreatDoor.K0
set_option linter.unusedVariables false
set_option linter.unusedSimpArgs false
theorem gcheck_len {xs : List S63} (h : gcheck xs = 0) : xs.length ≤ 12 := by
  refine Classical.byContradiction fun hn => ?_
  rw [gcheck_big (by omega)] at h
  cases h
theorem gcheck_nodup {xs : List S63} (h : gcheck xs = 0) : (pathsOf xs).Nodup := by
  refine Classical.byContradiction fun hn => ?_
  unfold gcheck at h
  rw [if_neg hn] at h
  split at h
  · cases h
  · split at h <;> cases h
theorem gcheck_place {xs : List S63} (h : gcheck xs = 0) (j : Nat) (x : S63) (hx : xs[j]? = some x) : placeOf xs x.f1 = (j : Int) := by
  have hn := gcheck_nodup h
  obtain ⟨hj, ej⟩ := List.getElem?_eq_some_iff.1 hx
  unfold placeOf
  rw [idxFrom_at _ xs 0 j x hx (by simp) ?_, Nat.zero_add]
  intro i y hi hy
  obtain ⟨hil, ei⟩ := List.getElem?_eq_some_iff.1 hy
  have := List.pairwise_iff_getElem.1 hn i j (by simpa [pathsOf] using hil) (by simpa [pathsOf] using hj) hi
  simp only [pathsOf, List.getElem_map, ei, ej] at this
  rw [ByteArray.toList_eq, ByteArray.toList_eq]
  simpa using this
theorem chk_later (A0 : Option Addr) (c0 : Nat) (l0 : List S63) (w : World) (hr0 : Kd.C k63 w A0 l0.length l0) (hG : GW w) :
    ∀ W, Below w.heap.size w W → Calls Tryz.prog 71 #[.slice A0 l0.length c0] W fun e w' => e = .returned (.int .i64 (gcheck l0)) ∧ Below W.heap.size W w' :=
  fun W hb => gcheck_calls A0 c0 l0 W (hG.below hb) (Kd.C_below hr0 hb)
def upG (l : List S63) (fr : List Int) : List Int := if gcheck l = 0 then upOf (edgesOf l) l.length fr else []
def ordG (l : List S63) : List Int × Int := if gcheck l = 0 then orderOf (edgesOf l) l.length else ([], gcheck l)
def edgesG (l : List S63) (i : Int) : List Int := if gcheck l = 0 then (if 0 ≤ i then (if i < (l.length : Int) then edgesOf l i.toNat else []) else []) else []
def graph_Up.f (l0 : List S63) (l1 : List Int) : Option (List Int) := if l0.length ≤ 4294967290 then some (upG l0 l1) else none
theorem graph_Up.calls (A0 : Option Addr) (c0 : Nat) (l0 : List S63) (A1 : Option Addr) (c1 : Nat) (l1 : List Int) (r : List Int) (w : World) (hr0 : Kd.C k63 w A0 l0.length l0) (hc0 : l0.length ≤ c0) (hr1 : Kd.C (Kd.int .i64) w A1 l1.length l1) (hc1 : l1.length ≤ c1) (hG : GW w) (h : graph_Up.f l0 l1 = some r) :
    Calls Tryz.prog 44 #[.slice A0 l0.length c0, .slice A1 l1.length c1] w fun e w' => ∃ v0_ : Value, e = .returned (v0_) ∧ Kd.R (Kd.int .i64) 3 w' w.heap.size (fun _ => True) v0_ r ∧ Below w.heap.size w w' := by
  unfold graph_Up.f at h
  split at h
  · rename_i hl
    obtain rfl := Option.some.inj h
    exact Up_calls A0 A1 c0 c1 l0 l1 (gcheck l0) w hr0 hr1 hl gcheck_len (chk_later A0 c0 l0 w hr0 hG)
  · cases h
def graph_Order.f (l0 : List S63) : Option (List Int × Int) := if l0.length ≤ 4294967290 then some (ordG l0) else none
theorem graph_Order.calls (A0 : Option Addr) (c0 : Nat) (l0 : List S63) (r1 : List Int) (r2 : Int) (w : World) (hr0 : Kd.C k63 w A0 l0.length l0) (hc0 : l0.length ≤ c0) (hG : GW w) (h : graph_Order.f l0 = some (r1, r2)) :
    Calls Tryz.prog 39 #[.slice A0 l0.length c0] w fun e w' => ∃ v0_ : Value, e = .returned (.tuple #[v0_, .int .i64 r2]) ∧ Kd.R (Kd.int .i64) 3 w' w.heap.size (fun _ => True) v0_ r1 ∧ Below w.heap.size w w' := by
  unfold graph_Order.f at h
  split at h
  · rename_i hl
    have e := Option.some.inj h
    have hc := Order_calls A0 c0 l0 (gcheck l0) w hr0 hl gcheck_len (fun h => gcheck_place h) (chk_later A0 c0 l0 w hr0 hG)
    unfold ordG at e
    rw [e] at hc
    exact hc
  · cases h
end Go.Proofs.YtillhaipemengaaGreatDoor
end

section
namespace Go.Proofs.YtillhaipemengaaGreatDoor
open Go Go.RowKit Go.Proofs.YtillhaipemengaaGreatDoorW.PrintWords Go.Proofs.YtillhaipemengaaGreatDoor.K0 Go.Proofs.YtillhaipemengaaGreatDoor.R1
set_option linter.unusedVariables false
set_option linter.unusedSimpArgs false
abbrev Tg := S71
abbrev Vr := S26
abbrev Md := S63
abbrev Rq := S69
abbrev Wt := S72
abbrev Rl := S30
def vcmp (x y : Vr) : Int := verCmp x.f0 x.f1 x.f2 x.f3 x.f4 y.f0 y.f1 y.f2 y.f3 y.f4
def vok (v : Vr) : Bool := verOk v.f0 v.f1 v.f2 v.f3 v.f4
def vfits (p : ByteArray) (v : Vr) : Bool := fitsOk p v.f0 v.f1 v.f2 v.f3 v.f4
/-- The latest one of a path. -/
def latFrom (p : ByteArray) (b : Option Tg) : List Tg → Option Tg
  | [] => b
  | x :: l => latFrom p (if x.f0 = p then (match b with | none => some x | some y => if 0 < vcmp x.f1 y.f1 then some x else some y) else b) l
def latT (l : List Tg) (p : ByteArray) : Option Tg := latFrom p none l
def zv : Vr := ⟨0, 0, 0, ⟨#[]⟩, ⟨#[]⟩⟩
def zr : Rl := ⟨0, false, zv, zv, 0⟩
def plainV (a b c : Int) : Vr := ⟨a, b, c, ⟨#[]⟩, ⟨#[]⟩⟩
def lvlOk (n : Int) : Bool := decide (1 ≤ n) && decide (n ≤ 3)
def firstOf (p : ByteArray) : Vr × Bool :=
  if (majorsOf p).2.2 = true then (if (majorsOf p).2.1 = 0 then (plainV 0 1 0, true) else (plainV (majorsOf p).2.1 0 0, true)) else (zv, false)
def upV (a b c l : Int) : Vr × Int :=
  if l = 1 ∧ c < 999999999 then (plainV a b (c + 1), 0)
  else if l ≤ 2 ∧ b < 999999999 then (plainV a (b + 1) 0, 0)
  else if a < 999999999 then (plainV (a + 1) 0 0, 0) else (zv, 15)
def bumpOf (v : Vr) (l : Int) : Vr × Int :=
  if vok v = true then
    if lvlOk l = true then
      if v.f3.size ≠ 0 ∧ (l < 2 ∨ v.f2 = 0) ∧ (l < 3 ∨ v.f1 = 0) then (plainV v.f0 v.f1 v.f2, 0) else upV v.f0 v.f1 v.f2 l
    else (zv, 1)
  else (zv, 1)
def bNext (p : ByteArray) (l : List Tg) (n : Int) : Rl × Int :=
  if (firstOf p).2 = true then
    if lvlOk n = true then
      match latT l p with
      | none => (⟨0, false, zv, (firstOf p).1, n⟩, 0)
      | some t =>
        if vok t.f1 = true then
          if (bumpOf t.f1 n).2 = 0 then
            if vfits p (bumpOf t.f1 n).1 = true then (⟨0, true, t.f1, (bumpOf t.f1 n).1, n⟩, 0) else (zr, 8)
          else (zr, (bumpOf t.f1 n).2)
        else (zr, 7)
    else (zr, 1)
  else (zr, 6)
theorem ver_plain {a b c : Int} : vok (plainV a b c) = (numB a && (numB b && numB c)) := by
  unfold vok plainV verOk
  have h1 : decide ((⟨#[]⟩ : ByteArray).size ≤ 30) = true := by decide
  have h2 : preOk ⟨#[]⟩ = true := by unfold preOk; rfl
  have h3 : buildOk ⟨#[]⟩ = true := by unfold buildOk; rfl
  simp only [h1, h2, h3, Bool.and_true]
theorem numB_iff {z : Int} : numB z = true ↔ 0 ≤ z ∧ z ≤ 999999999 := by unfold numB; simp
theorem vok_nums {v : Vr} (h : vok v = true) : (0 ≤ v.f0 ∧ v.f0 ≤ 999999999) ∧ (0 ≤ v.f1 ∧ v.f1 ≤ 999999999) ∧ (0 ≤ v.f2 ∧ v.f2 ≤ 999999999) := by
  unfold vok verOk at h
  simp only [Bool.and_eq_true] at h
  exact ⟨numB_iff.1 h.1, numB_iff.1 h.2.1, numB_iff.1 h.2.2.1⟩
theorem ci_lt {x y : Int} (h : x < y) : Lib.compareInt x y = -1 := by unfold Lib.compareInt; rw [if_pos h]
theorem orr_lt (y : Int) : orr (-1) y = -1 := rfl
theorem orr_z (y : Int) : orr 0 y = y := rfl
theorem ci_self (x : Int) : Lib.compareInt x x = 0 := (ci_eq x x).2 rfl
theorem vcmp_of {v u : Vr} (h : vok v = true) (h2 : vok u = true) : vcmp v u = orr (Lib.compareInt v.f0 u.f0) (orr (Lib.compareInt v.f1 u.f1) (orr (Lib.compareInt v.f2 u.f2) (preCmp v.f3.data.toList u.f3.data.toList))) := by
  unfold vcmp verCmp
  rw [show verOk v.f0 v.f1 v.f2 v.f3 v.f4 = true from h, if_pos rfl, show verOk u.f0 u.f1 u.f2 u.f3 u.f4 = true from h2, if_pos rfl]
theorem bump_up {v u : Vr} {l : Int} (h : bumpOf v l = (u, 0)) : vok v = true ∧ vok u = true ∧ vcmp v u = -1 := by
  unfold bumpOf at h
  split at h
  case isFalse => cases h
  rename_i hv
  obtain ⟨⟨a0, a9⟩, ⟨b0, b9⟩, c0, c9⟩ := vok_nums hv
  split at h
  case isFalse => cases h
  refine ⟨hv, ?_⟩
  split at h
  · rename_i hp
    have := (Prod.mk.inj h).1
    subst this
    have hu : vok (plainV v.f0 v.f1 v.f2) = true := by
      rw [ver_plain, Bool.and_eq_true, Bool.and_eq_true]
      exact ⟨numB_iff.2 ⟨a0, a9⟩, numB_iff.2 ⟨b0, b9⟩, numB_iff.2 ⟨c0, c9⟩⟩
    refine ⟨hu, ?_⟩
    rw [vcmp_of hv hu]
    show orr (Lib.compareInt v.f0 v.f0) (orr (Lib.compareInt v.f1 v.f1) (orr (Lib.compareInt v.f2 v.f2) (preCmp v.f3.data.toList []))) = -1
    rw [ci_self, ci_self, ci_self, orr_z, orr_z, orr_z]
    unfold preCmp
    rw [if_neg, if_pos rfl]
    intro e
    exact hp.1 (by rw [Lib.size_eq, e]; rfl)
  · unfold upV at h
    split at h
    · rename_i hp
      have := (Prod.mk.inj h).1
      subst this
      have hu : vok (plainV v.f0 v.f1 (v.f2 + 1)) = true := by
        rw [ver_plain, Bool.and_eq_true, Bool.and_eq_true]
        exact ⟨numB_iff.2 ⟨a0, a9⟩, numB_iff.2 ⟨b0, b9⟩, numB_iff.2 ⟨by omega, by omega⟩⟩
      refine ⟨hu, ?_⟩
      rw [vcmp_of hv hu]
      show orr (Lib.compareInt v.f0 v.f0) (orr (Lib.compareInt v.f1 v.f1) (orr (Lib.compareInt v.f2 (v.f2 + 1)) _)) = -1
      rw [ci_self, ci_self, ci_lt (by omega), orr_z, orr_z, orr_lt]
    · split at h
      · rename_i hp
        have := (Prod.mk.inj h).1
        subst this
        have hu : vok (plainV v.f0 (v.f1 + 1) 0) = true := by
          rw [ver_plain, Bool.and_eq_true, Bool.and_eq_true]
          exact ⟨numB_iff.2 ⟨a0, a9⟩, numB_iff.2 ⟨by omega, by omega⟩, numB_iff.2 ⟨by omega, by omega⟩⟩
        refine ⟨hu, ?_⟩
        rw [vcmp_of hv hu]
        show orr (Lib.compareInt v.f0 v.f0) (orr (Lib.compareInt v.f1 (v.f1 + 1)) _) = -1
        rw [ci_self, ci_lt (by omega), orr_z, orr_lt]
      · split at h
        · rename_i hp
          have := (Prod.mk.inj h).1
          subst this
          have hu : vok (plainV (v.f0 + 1) 0 0) = true := by
            rw [ver_plain, Bool.and_eq_true, Bool.and_eq_true]
            exact ⟨numB_iff.2 ⟨by omega, by omega⟩, numB_iff.2 ⟨by omega, by omega⟩, numB_iff.2 ⟨by omega, by omega⟩⟩
          refine ⟨hu, ?_⟩
          rw [vcmp_of hv hu]
          show orr (Lib.compareInt v.f0 (v.f0 + 1)) _ = -1
          rw [ci_lt (by omega), orr_lt]
        · cases h
theorem num_small {l : List UInt8} (h : tellsOk l = true) : numOf l ≤ 999999999 := by
  unfold tellsOk at h
  rw [Bool.and_eq_true] at h
  have hv := val_lt _ h.2
  rw [List.length_drop] at hv
  unfold numOf
  split
  · decide
  · rename_i h1
    have : 10 ^ (l.length - 1) ≤ 10 ^ 9 := Nat.pow_le_pow_right (by decide) (by omega)
    split
    · decide
    · split
      · decide
      · omega
/-- A first version fits its path. -/
theorem first_fits {p : ByteArray} (h : (firstOf p).2 = true) : vfits p (firstOf p).1 = true := by
  unfold firstOf at h ⊢
  split at h
  case isFalse => cases h
  rename_i h2
  rw [if_pos h2]
  have hm : 0 ≤ (majorsOf p).2.1 ∧ (majorsOf p).2.1 ≤ 999999999 := by
    unfold majorsOf
    split
    · split
      · rename_i ht
        exact ⟨numOf_nonneg _, num_small ht⟩
      · exact ⟨Int.le_refl _, show (0 : Int) ≤ 999999999 by decide⟩
    · exact ⟨Int.le_refl _, show (0 : Int) ≤ 999999999 by decide⟩
  split
  · rename_i h3
    unfold vfits fitsOk
    rw [if_pos h2, show verOk (plainV 0 1 0).f0 (plainV 0 1 0).f1 (plainV 0 1 0).f2 (plainV 0 1 0).f3 (plainV 0 1 0).f4 = true from by rw [show verOk _ _ _ _ _ = vok (plainV 0 1 0) from rfl, ver_plain]; rfl, if_pos rfl, if_pos h3]
    rfl
  · rename_i h3
    unfold vfits fitsOk
    rw [if_pos h2, show verOk (plainV (majorsOf p).2.1 0 0).f0 (plainV (majorsOf p).2.1 0 0).f1 (plainV (majorsOf p).2.1 0 0).f2 (plainV (majorsOf p).2.1 0 0).f3 (plainV (majorsOf p).2.1 0 0).f4 = true from by
      rw [show verOk _ _ _ _ _ = vok (plainV (majorsOf p).2.1 0 0) from rfl, ver_plain, Bool.and_eq_true]
      exact ⟨numB_iff.2 hm, rfl⟩, if_pos rfl, if_neg h3]
    exact beq_self_eq_true _
/-- What a next version is. -/
theorem next_ok {p : ByteArray} {l : List Tg} {n : Int} {r : Rl} (h : bNext p l n = (r, 0)) : r.f0 = 0 ∧ r.f4 = n ∧ vfits p r.f3 = true ∧ (r.f1 = true → vcmp r.f2 r.f3 = -1) := by
  unfold bNext at h
  split at h
  case isFalse => cases h
  rename_i h1
  split at h
  case isFalse => cases h
  split at h
  · obtain rfl := (Prod.mk.inj h).1
    exact ⟨rfl, rfl, first_fits h1, fun e => by cases e⟩
  · split at h
    case isFalse => cases h
    rename_i t ht hv
    split at h
    case isFalse h3 => exact absurd (Prod.mk.inj h).2 h3
    rename_i h3
    split at h
    case isFalse => cases h
    rename_i hf
    obtain rfl := (Prod.mk.inj h).1
    refine ⟨rfl, rfl, hf, fun _ => ?_⟩
    exact (bump_up (u := (bumpOf t.f1 n).1) (Prod.ext rfl h3)).2.2
end Go.Proofs.YtillhaipemengaaGreatDoor
end
