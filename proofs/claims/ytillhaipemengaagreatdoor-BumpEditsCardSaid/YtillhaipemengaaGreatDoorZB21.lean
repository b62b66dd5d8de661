/- The texts Those, Cyc, Cont, Up, Ord in one file, without what these claims do not use (put together by prune2.py). -/
import Derived.Test.YtillhaipemengaaGreatDoorZB19
import Derived.Test.YtillhaipemengaaGreatDoorZB20
import Derived.Test.YtillhaipemengaaGreatDoorZB17
section
namespace Go.Proofs.YtillhaipemengaaGreatDoor
open Go Go.RowKit Go.Sort Go.Proofs Go.Proofs.YtillhaipemengaaGreatDoorW.PrintWords Go.Proofs.YtillhaipemengaaGreatDoor.K0
set_option linter.unusedVariables false
set_option linter.unusedSimpArgs false
theorem places_succ (n : Nat) (p : Nat → Bool) : placesOf (n + 1) p = placesOf n p ++ (if p n = true then [(n : Int)] else []) := by
  unfold placesOf
  rw [List.range_succ, List.filter_append, List.map_append]
  congr 1
  cases h : p n <;> simp [h]
set_option maxRecDepth 100000 in
set_option maxHeartbeats 4000000 in
theorem those_calls (A : Option Addr) (c n : Nat) (z : Int) (p : Nat → Bool) (g : Nat) (lb : Array Value) (eg : ∀ args w, (callFunc g args).run Tryz.prog w = .ok (.enter g args) w) (w : World) (hl : n ≤ 4294967290)
    (hchk : Calls Tryz.prog 71 #[.slice A n c] w fun e w' => e = .returned (.int .i64 z) ∧ Below w.heap.size w w')
    (hp : ∀ (i : Nat), i < n → ∀ (W : World), Below w.heap.size w W → z = 0 → Calls Tryz.prog g (#[.int .i64 i] ++ lb) W fun e w' => e = .returned (.bool (p i)) ∧ Below W.heap.size W w') :
    Calls Tryz.prog 84 #[.slice A n c, .func (.func g) #[] lb] w fun e w' => ∃ v0_ : Value, e = .returned v0_ ∧ Kd.R (Kd.int .i64) 3 w' w.heap.size (fun _ => True) v0_ (if z = 0 then placesOf n p else []) ∧ Below w.heap.size w w' := by
  by_cases hz : z = 0
  · rw [if_pos hz]
    subst hz
    have HP := Aside0.mk hp
    clear hp
    go_enter Tryz.func84, Tryz.ntmps84
    go_wp2_with (go_at_call 71; refine hchk.mono ?_; rintro e w1 ⟨rfl, hb1⟩; have HB1 := Aside0.mk hb1; clear hb1)
    go_loopg [5, 12] n (fun gg v5 v12 wr => ∃ kk : Nat, kk ≤ n ∧ n - kk ≤ gg ∧ v12 = .int .i64 kk ∧ Aside0 (Kd.R (Kd.int .i64) 3 wr w.heap.size (fun _ => True) v5 (placesOf kk p)) ∧ Aside0 (Below w.heap.size w wr))
    case atStart => exact ⟨0, Nat.zero_le _, by omega, rfl, Aside0.mk (Kd.R_nil _ _ _ _ _), HB1⟩
    case round =>
      obtain ⟨kk, hkk, hg, rfl, HO, HB⟩ := hrel
      by_cases hlt : kk < n
      · have hltz : (kk : Int) < (n : Int) := by omega
        have hC := HP.out kk hlt wr HB.out (by first | rfl | trivial)
        have hps := places_succ kk p
        have hpl := places_len kk p
        cases hq : p kk with
        | true =>
          rw [hq] at hC hps
          rw [if_pos rfl] at hps
          have HPS := Aside0.mk hps
          have HLE := Aside0.mk hpl
          clear hps hq hpl
          generalize placesOf kk p = acc at HO HPS HLE
          go_wp2_with (first | (go_at_fn g; refine hC.mono ?_; rintro e w' ⟨rfl, hb'⟩; have HB2 := Aside0.mk (below_step HB.out hb'); have HO2 := Aside0.mk (Kd.R_below HO.out hb'); clear hb') | ((with_reducible refine gate_builtin (b := .append) (xs := #[.tmp 18, .tmp 20]) rfl ?_); at_builtin; refine Kd.R_append (Kd.int .i64) (w0 := w) w.heap.size rfl (.tmp 18) (.tmp 20) 39 3 (.int .i64 0) 8 rfl Tryz.underlying39 info3 rfl (by decide) (by decide) u5 acc (kk : Int) [.int .i64 kk] (fun _ => True) (fun _ => False) rfl rfl ?aP (fun _ hk => hk.elim) ?aF ?aO ?aB ?aS ?aL ?_; (case aP => exact rfl); (case aB => exact HB2.out); (case aF => exact (fun _ _ => trivial)); (case aO => exact HO2.out); (case aS => exact below_size HB2.out); (case aL => have := HLE.out; omega); intro v103 w9 ho hb hg hat; have HO3 := Aside0.mk ho; have HB3 := Aside0.mk hb; clear ho hb hg hat HB2 HO2))
          go_roundg (n - (kk + 1))
          case measure => omega
          case rel => exact ⟨kk + 1, by omega, by omega, by go_num, ⟨by rw [HPS.out]; exact HO3.out⟩, HB3⟩
        | false =>
          rw [hq] at hC hps
          rw [if_neg (by simp), List.append_nil] at hps
          have HPS := Aside0.mk hps
          clear hps hq hpl
          go_wp2_with (go_at_fn g; refine hC.mono ?_; rintro e w' ⟨rfl, hb'⟩)
          go_roundg (n - (kk + 1))
          case measure => omega
          case rel => exact ⟨kk + 1, by omega, by omega, by go_num, ⟨by rw [HPS.out]; exact Kd.R_below HO.out hb'⟩, ⟨below_step HB.out hb'⟩⟩
      · have hltz : ¬ (kk : Int) < (n : Int) := by omega
        have : kk = n := by omega
        subst this
        go_wp2
        go_ret
        exact ⟨_, rfl, HO.out, HB.out⟩
  · rw [if_neg hz]
    have hzb : (z != 0) = true := by simp [hz]
    clear hp
    go_enter Tryz.func84, Tryz.ntmps84
    go_wp2_with (go_at_call 71; refine hchk.mono ?_; rintro e w1 ⟨rfl, hb1⟩; have HB1 := Aside0.mk hb1; clear hb1)
    go_ret
    exact ⟨_, rfl, Kd.R_nil _ _ _ _ _, HB1.out⟩
end Go.Proofs.YtillhaipemengaaGreatDoor
end

section
namespace Go.Proofs.YtillhaipemengaaGreatDoor
open Go Go.RowKit Go.Sort Go.Proofs Go.Proofs.YtillhaipemengaaGreatDoorW.PrintWords Go.Proofs.YtillhaipemengaaGreatDoor.K0
set_option linter.unusedVariables false
set_option linter.unusedSimpArgs false
theorem slice_cell (w : World) (A : Option Addr) (n c : Nat) (t : TypeId) : (w.alloc (.cells #[.slice A n c] t)).cell? ⟨w.heap.size, 0, none⟩ = some (.slice A n c) := by
  unfold World.cell?; rw [heap_alloc_new]; rfl
end Go.Proofs.YtillhaipemengaaGreatDoor
end

section
namespace Go.Proofs.YtillhaipemengaaGreatDoor
open Go Go.RowKit Go.Sort Go.Proofs Go.Proofs.YtillhaipemengaaGreatDoorW.PrintWords Go.Proofs.YtillhaipemengaaGreatDoor.K0
set_option linter.unusedVariables false
set_option linter.unusedSimpArgs false
set_option maxHeartbeats 2000000 in
theorem Index_Int (A : Option Addr) (c : Nat) (xs : List Int) (z : Int) (w : World) (hr : Kd.C (Kd.int .i64) w A xs.length xs) :
    Calls Tryz.prog 114 #[.slice A xs.length c, .int .i64 z] w fun e w' => e = .returned (.int .i64 (idxFrom (fun y => decide (z = y)) 0 xs)) ∧ Below w.heap.size w w' := by
  obtain ⟨n, hn⟩ : ∃ n, n = xs.length := ⟨_, rfl⟩
  rw [← hn] at hr ⊢
  have hbig := hr.2.1
  have HN := Aside0.mk hn
  clear hn
  have HR := Aside0.mk hr
  clear hr
  go_enter Tryz.func114, Tryz.ntmps114
  go_wp2
  go_loopg [5, 8] n (fun gg _ s8 wr => ∃ kk : Nat, kk ≤ n ∧ n - kk ≤ gg ∧ s8 = .int .i64 kk ∧ Aside0 (Below w.heap.size w wr) ∧ Aside0 (∀ (j : Nat) (y : Int), j < kk → xs[j]? = some y → (decide (z = y)) = false))
  case atStart => exact ⟨0, Nat.zero_le _, by omega, rfl, Aside0.mk (Below.refl _ w), Aside0.mk (fun j y hj => absurd hj (Nat.not_lt_zero _))⟩
  case round =>
    obtain ⟨kk, hkk, hg, rfl, BW, AS⟩ := hrel
    by_cases hlt : kk < n
    · have hltz : (kk : Int) < (n : Int) := by omega
      have HB := Kd.C_below HR.out BW.out
      obtain ⟨x, hx⟩ : ∃ x, xs[kk]? = some x := ⟨_, List.getElem?_eq_getElem (by have := HN.out; omega)⟩
      obtain ⟨ad, cs, hA, _, hK, hcell⟩ := Kd.C_get HB (0 : Int) (kk : Int) (by omega) (by omega)
      have hxe : xs.getD (kk : Int).toNat 0 = x := by
        rw [Int.toNat_natCast, List.getD_eq_getElem?_getD, hx]; rfl
      rw [hxe] at hK
      obtain rfl : cs = [.int .i64 x] := hK
      have h0 : wr.cell? (ad.add kk) = some (.int .i64 x) := by
        have := hcell 0 _ rfl
        rw [Int.toNat_natCast, show (Kd.int .i64).sz = 1 from rfl] at this
        simpa using this
      subst hA
      clear HB hxe hcell
      have HX := Aside0.mk hx
      clear hx
      by_cases hq : z = x
      · subst hq
        go_wp2
        go_ret
        refine ⟨?_, by repeat (first | exact BW.out | apply pw_below_drewN | apply below_drew1)⟩
        rw [idxFrom_at (fun y => decide (z = y)) xs 0 kk z HX.out (by simp) AS.out, Nat.zero_add]
        rfl
      · go_wp2
        go_roundg (n - (kk + 1))
        case measure => omega
        case rel =>
          refine ⟨kk + 1, by omega, by omega, by go_num, Aside0.mk (by repeat (first | exact BW.out | apply pw_below_drewN | apply below_drew1)), Aside0.mk (fun j y hj hy => ?_)⟩
          by_cases e : j = kk
          · subst e
            obtain rfl := Option.some.inj (HX.out.symm.trans hy)
            exact decide_eq_false hq
          · exact AS.out j y (by omega) hy
    · have hltz : ¬ (kk : Int) < (n : Int) := by omega
      have : kk = n := by omega
      subst this
      go_wp2
      go_ret
      refine ⟨?_, by repeat (first | exact BW.out | apply pw_below_drewN | apply below_drew1)⟩
      rw [idxFrom_none (fun y => decide (z = y)) xs 0 (fun j y hy => AS.out j y (by have := (List.getElem?_eq_some_iff.1 hy).1; have := HN.out; omega) hy)]
      rfl
theorem Contains_Int (A : Option Addr) (c : Nat) (xs : List Int) (z : Int) (w : World) (hr : Kd.C (Kd.int .i64) w A xs.length xs) :
    Calls Tryz.prog 82 #[.slice A xs.length c, .int .i64 z] w fun e w' => e = .returned (.bool (xs.contains z)) ∧ Below w.heap.size w w' := by
  have hcon := Index_Int A c xs z w hr
  have hge : decide (idxFrom (fun y => decide (z = y)) 0 xs ≥ 0) = xs.contains z := by
    rw [idxFrom_nonneg]
    rw [Bool.eq_iff_iff]
    simp
  generalize idxFrom (fun y => decide (z = y)) 0 xs = q at hcon hge
  rw [← hge]
  clear hge hr
  generalize xs.length = n at hcon ⊢
  go_enter Tryz.func82, Tryz.ntmps82
  go_wp2_with (go_at_call 114; refine hcon.mono ?_; rintro e w' ⟨rfl, hb'⟩)
  go_ret
  exact ⟨rfl, by repeat (first | exact hb' | apply pw_below_drewN | apply below_drew1)⟩
end Go.Proofs.YtillhaipemengaaGreatDoor
end

section
namespace Go.Proofs.YtillhaipemengaaGreatDoor
open Go Go.RowKit Go.Sort Go.Proofs Go.Proofs.YtillhaipemengaaGreatDoorW.PrintWords Go.Proofs.YtillhaipemengaaGreatDoor.K0
set_option linter.unusedVariables false
set_option linter.unusedSimpArgs false
set_option maxRecDepth 100000 in
set_option maxHeartbeats 2000000 in
theorem up_inner (A : Option Addr) (c n : Nat) (z : Int) (q : Addr) (B : Nat) (m : List Bool) (W : World) (hl : n ≤ 12) (hm : m.length = 12) (hq : W.cell? q = some (.slice A n c)) (hM : MetIs B m W) :
    Calls Tryz.prog 87 #[.int .i64 z, .pointer (some q), .pointer (some ⟨B, 0, none⟩)] W fun e w' => e = .returned (.bool (decide (0 ≤ z) && (decide (z < n) && m.getD z.toNat false))) ∧ Below W.heap.size W w' := by
  by_cases h0 : 0 ≤ z
  · by_cases h1 : z < (n : Int)
    · obtain ⟨k, rfl⟩ : ∃ k : Nat, z = (k : Int) := ⟨z.toNat, by omega⟩
      have hk : k < 12 := by omega
      have hkz : (k : Int) < 12 := by omega
      have hcB := hM.cell (k := k) (by omega)
      rw [decide_eq_true h0, decide_eq_true h1, Int.toNat_natCast, Bool.true_and, Bool.true_and]
      generalize m.getD k false = b at hcB ⊢
      clear hM
      go_enter Tryz.func87, Tryz.ntmps87
      go_wp2
      go_ret
      exact ⟨rfl, Below.refl _ _⟩
    · rw [decide_eq_true h0, decide_eq_false h1, Bool.true_and, Bool.false_and]
      clear hM
      go_enter Tryz.func87, Tryz.ntmps87
      go_wp2
      go_ret
      exact ⟨rfl, Below.refl _ _⟩
  · rw [decide_eq_false h0, Bool.false_and]
    clear hM
    go_enter Tryz.func87, Tryz.ntmps87
    go_wp2
    go_ret
    exact ⟨rfl, Below.refl _ _⟩
set_option maxRecDepth 100000 in
set_option maxHeartbeats 4000000 in
theorem up_clo (A Af : Option Addr) (c cf : Nat) (xs : List S63) (fr : List Int) (i : Nat) (q qf : Addr) (W : World) (hr : Kd.C k63 W A xs.length xs) (hf : Kd.C (Kd.int .i64) W Af fr.length fr) (hl : xs.length ≤ 12) (hi : i < xs.length) (hq : W.cell? q = some (.slice A xs.length c)) (hqf : W.cell? qf = some (.slice Af fr.length cf)) :
    Calls Tryz.prog 85 #[.int .i64 i, .pointer (some q), .pointer (some qf)] W fun e w' => e = .returned (.bool (isUp (edgesOf xs) xs.length fr i)) ∧ Below W.heap.size W w' := by
  have hb := below_calls A c xs i W hr hl hi
  have hlen : (belowOf (edgesOf xs) i).length = 12 := belowOf_len (fun i z hz => by have := (edgesOf_nn xs i z hz).2; omega) i
  unfold isUp
  generalize belowOf (edgesOf xs) i = m at hb hlen ⊢
  have hqlt : q.block < W.heap.size := World.block_lt_of_cell? W _ hq
  have hqflt : qf.block < W.heap.size := World.block_lt_of_cell? W _ hqf
  have hcont := fun w' (hw : Below W.heap.size W w') => Contains_Int Af cf fr i w' (Kd.C_below hf hw)
  have hcf := fun w' (hw : Below W.heap.size W w') (B : Nat) (hM : MetIs B m w') => ContainsFunc_Int Af cf fr (fun z => decide (0 ≤ z) && (decide (z < (xs.length : Int)) && m.getD z.toNat false)) 87 #[.pointer (some q), .pointer (some ⟨B, 0, none⟩)] (enters_of Tryz.func87 (by kernel_rfl) rfl) w' (Kd.C_below hf hw)
    (fun j z hz W2 hb2 => up_inner A c xs.length z q B m W2 hl hlen (below_cell hb2 (below_cell hw hq)) (hM.below hb2))
  generalize xs.length = n at hl hi hb hq hcf ⊢
  generalize (fr.any fun z => decide (0 ≤ z) && (decide (z < (n : Int)) && m.getD z.toNat false)) = r at hcf ⊢
  generalize fr.contains (i : Int) = s at hcont ⊢
  generalize fr.length = nf at hf hqf hcont hcf
  have HCN := Aside0.mk hcont
  have HCF := Aside0.mk hcf
  clear hr hf hcont hcf
  have hmf : ∀ (fn : Fn) (first cap : Array Value) (w : World), (Instr.makeFunc fn first cap).run Tryz.prog w = .ok (.func fn first cap) w := fun _ _ _ _ => rfl
  obtain ⟨b0, b1, b2, b3, b4, b5, b6, b7, b8, b9, b10, b11, rfl⟩ := twelve hlen
  simp only [List.map_cons, List.map_nil] at hb
  cases s with
  | true =>
    rw [Bool.true_or]
    go_enter Tryz.func85, Tryz.ntmps85
    go_wp2_with (first | (go_at_call 86; refine hb.mono ?_; rintro e w2 ⟨rfl, hb2⟩; have gq := below_cell hb2 hq; have gf := below_cell hb2 hqf; have gf2 := below_cell (below_alloc (Below.refl _ w2) (.cells #[.bool b0, .bool b1, .bool b2, .bool b3, .bool b4, .bool b5, .bool b6, .bool b7, .bool b8, .bool b9, .bool b10, .bool b11] 114)) gf; have HB2 := Aside0.mk hb2; clear hb2) | (go_at_call 82; refine (HCN.out _ (below_alloc HB2.out (.cells #[.bool b0, .bool b1, .bool b2, .bool b3, .bool b4, .bool b5, .bool b6, .bool b7, .bool b8, .bool b9, .bool b10, .bool b11] 114))).mono ?_; rintro e w3 ⟨rfl, hb3⟩; have gf3 := below_cell hb3 gf2; have HB3 := Aside0.mk hb3; clear hb3))
    go_ret
    exact ⟨rfl, below_step (below_alloc HB2.out _) HB3.out⟩
  | false =>
    rw [Bool.false_or]
    go_enter Tryz.func85, Tryz.ntmps85
    go_wp2_with (first | (go_at_call 86; refine hb.mono ?_; rintro e w2 ⟨rfl, hb2⟩; have gq := below_cell hb2 hq; have gf := below_cell hb2 hqf; have gf2 := below_cell (below_alloc (Below.refl _ w2) (.cells #[.bool b0, .bool b1, .bool b2, .bool b3, .bool b4, .bool b5, .bool b6, .bool b7, .bool b8, .bool b9, .bool b10, .bool b11] 114)) gf; have HB2 := Aside0.mk hb2; clear hb2) | (go_at_call 82; refine (HCN.out _ (below_alloc HB2.out (.cells #[.bool b0, .bool b1, .bool b2, .bool b3, .bool b4, .bool b5, .bool b6, .bool b7, .bool b8, .bool b9, .bool b10, .bool b11] 114))).mono ?_; rintro e w3 ⟨rfl, hb3⟩; have gf3 := below_cell hb3 gf2; have HB3 := Aside0.mk hb3; clear hb3) | (go_at_call 75; refine (HCF.out _ (below_step (below_alloc HB2.out _) HB3.out) w2.heap.size (MetIs.below (show MetIs w2.heap.size [b0, b1, b2, b3, b4, b5, b6, b7, b8, b9, b10, b11] (w2.alloc (.cells #[.bool b0, .bool b1, .bool b2, .bool b3, .bool b4, .bool b5, .bool b6, .bool b7, .bool b8, .bool b9, .bool b10, .bool b11] 114)) from heap_alloc_new w2 (.cells #[.bool b0, .bool b1, .bool b2, .bool b3, .bool b4, .bool b5, .bool b6, .bool b7, .bool b8, .bool b9, .bool b10, .bool b11] 114)) HB3.out)).mono ?_; rintro e w4 ⟨rfl, hb4⟩; have HB4 := Aside0.mk hb4; clear hb4))
    go_ret
    exact ⟨rfl, below_step (below_step (below_alloc HB2.out _) HB3.out) HB4.out⟩
set_option maxRecDepth 100000 in
set_option maxHeartbeats 2000000 in
theorem Up_calls (A Af : Option Addr) (c cf : Nat) (xs : List S63) (fr : List Int) (z : Int) (w : World) (hr : Kd.C k63 w A xs.length xs) (hf : Kd.C (Kd.int .i64) w Af fr.length fr) (hl : xs.length ≤ 4294967290) (hz : z = 0 → xs.length ≤ 12)
    (hchk : ∀ W, Below w.heap.size w W → Calls Tryz.prog 71 #[.slice A xs.length c] W fun e w' => e = .returned (.int .i64 z) ∧ Below W.heap.size W w') :
    Calls Tryz.prog 44 #[.slice A xs.length c, .slice Af fr.length cf] w fun e w' => ∃ v0_ : Value, e = .returned v0_ ∧ Kd.R (Kd.int .i64) 3 w' w.heap.size (fun _ => True) v0_ (if z = 0 then upOf (edgesOf xs) xs.length fr else []) ∧ Below w.heap.size w w' := by
  have g1 := slice_cell w A xs.length c 38
  have g2 := slice_cell (w.alloc (.cells #[.slice A xs.length c] 38)) Af fr.length cf 39
  have hs : (w.alloc (.cells #[.slice A xs.length c] 38)).heap.size = w.heap.size + 1 := by simp
  rw [hs] at g2
  have g1' := below_cell (below_alloc (Below.refl _ _) (.cells #[.slice Af fr.length cf] 39)) g1
  have hth := those_calls A c xs.length z (isUp (edgesOf xs) xs.length fr) 85 #[.pointer (some ⟨w.heap.size, 0, none⟩), .pointer (some ⟨w.heap.size + 1, 0, none⟩)] (enters_of Tryz.func85 (by kernel_rfl) rfl) ((w.alloc (.cells #[.slice A xs.length c] 38)).alloc (.cells #[.slice Af fr.length cf] 39)) hl
    (hchk _ (below_alloc (below_alloc (Below.refl _ _) _) _)) (fun i hi W hb h0 => up_clo A Af c cf xs fr i _ _ W (Kd.C_below (Kd.C_alloc (Kd.C_alloc hr _) _) hb) (Kd.C_below (Kd.C_alloc (Kd.C_alloc hf _) _) hb) (hz h0) hi (below_cell hb g1') (below_cell hb g2))
  unfold upOf
  generalize (if z = 0 then placesOf xs.length (isUp (edgesOf xs) xs.length fr) else []) = r at hth ⊢
  generalize xs.length = n at hth ⊢
  generalize fr.length = nf at hth ⊢
  clear hr hz hchk hl hf g1 g2 g1' hs
  have hmf : ∀ (fn : Fn) (first cap : Array Value) (w : World), (Instr.makeFunc fn first cap).run Tryz.prog w = .ok (.func fn first cap) w := fun _ _ _ _ => rfl
  go_enter Tryz.func44, Tryz.ntmps44
  go_wp2_with (go_at_call 84; refine hth.mono ?_; rintro e w2 ⟨v0, rfl, hR, hb2⟩; have HR := Aside0.mk hR; have HB := Aside0.mk hb2; clear hR hb2)
  go_ret
  exact ⟨_, rfl, Kd.R_lower HR.out (by simp; omega), below_step (below_alloc (below_alloc (Below.refl _ _) _) _) HB.out⟩
end Go.Proofs.YtillhaipemengaaGreatDoor
end

section
namespace Go.Proofs.YtillhaipemengaaGreatDoor
open Go Go.RowKit Go.Sort Go.Proofs Go.Proofs.YtillhaipemengaaGreatDoorW.PrintWords Go.Proofs.YtillhaipemengaaGreatDoor.K0
set_option linter.unusedVariables false
set_option linter.unusedSimpArgs false
theorem ord_clo1 (B : Nat) (path : ByteArray) (s p : ByteArray) (v : Value) (W : World) (h : W.cell? ⟨B, 1, none⟩ = some (.string path)) :
    Calls Tryz.prog 74 #[.agg #[.string s, .string p, v], .pointer (some ⟨B, 0, none⟩)] W fun e w' => e = .returned (.bool (p.toList == path.toList)) ∧ Below W.heap.size W w' := by
  have hlt : B < W.heap.size := World.block_lt_of_cell? W _ h
  have h2 : ∀ o, (W.alloc o).cell? ⟨B, 1, none⟩ = some (.string path) := fun o => (World.cell?_alloc_old W o _ (show B ≠ W.heap.size by omega)).trans h
  clear hlt
  go_enter Tryz.func74, Tryz.ntmps74
  go_wp2
  go_ret
  exact ⟨rfl, by repeat (first | exact Below.refl _ _ | apply below_alloc | apply pw_below_drewN | apply below_drew1)⟩
theorem ord_clo2 (z : Int) (B : Nat) (m : List Bool) (W : World) (hm : m.length = 12) (hM : MetIs B m W) (h0 : 0 ≤ z) (h1 : z < 12) :
    Calls Tryz.prog 77 #[.int .i64 z, .pointer (some ⟨B, 0, none⟩)] W fun e w' => e = .returned (.bool (!m.getD z.toNat false)) ∧ Below W.heap.size W w' := by
  obtain ⟨k, rfl⟩ : ∃ k : Nat, z = (k : Int) := ⟨z.toNat, by omega⟩
  have hcB := hM.cell (k := k) (by omega)
  rw [Int.toNat_natCast]
  generalize m.getD k false = b at hcB ⊢
  clear hM
  go_enter Tryz.func77, Tryz.ntmps77
  go_wp2
  go_ret
  exact ⟨rfl, Below.refl _ _⟩
/-- The first module of a path. -/
def placeOf (xs : List S63) (path : ByteArray) : Int := idxFrom (fun y => y.f1.toList == path.toList) 0 xs
def mayNext (E : Nat → List Int) (m : List Bool) (i : Nat) : Bool := !m.getD i false && !(E i).any fun z => !m.getD z.toNat false
theorem placeOf_in {xs : List S63} {x : S63} {j : Nat} (h : xs[j]? = some x) : ∃ k, k < xs.length ∧ placeOf xs x.f1 = (k : Int) := by
  rcases idxFrom_cases (fun y : S63 => y.f1.toList == x.f1.toList) xs 0 with ⟨k, y, h1, _, h3, _⟩ | ⟨_, h2⟩
  · exact ⟨k, (List.getElem?_eq_some_iff.1 h1).1, by rw [placeOf, h3]; simp⟩
  · have := h2 x (List.mem_of_getElem? h)
    simp at this
theorem ord_find (A : Option Addr) (c : Nat) (xs : List S63) (path : ByteArray) (B : Nat) (w : World) (hr : Kd.C k63 w A xs.length xs) (h : w.cell? ⟨B, 1, none⟩ = some (.string path)) :
    Calls Tryz.prog 72 #[.slice A xs.length c, .func (.func 74) #[] #[.pointer (some ⟨B, 0, none⟩)]] w fun e w' => e = .returned (.int .i64 (placeOf xs path)) ∧ Below w.heap.size w w' := by
  refine IndexFunc_Mod A c xs (fun y => y.f1.toList == path.toList) 74 _ (enters_of Tryz.func74 (by kernel_rfl) rfl) w hr ?_
  intro j y _ W hb cs hK
  obtain ⟨_, _, rfl, _, _⟩ := k63_open hK
  exact ord_clo1 B path _ _ _ W ((hb.cell (p := ⟨B, 1, none⟩) (World.block_lt_of_cell? w _ h)).trans h)
set_option maxRecDepth 100000 in
set_option maxHeartbeats 4000000 in
theorem ord_clo (A : Option Addr) (c : Nat) (xs : List S63) (x : S63) (j : Nat) (q : Addr) (D : Nat) (m : List Bool) (A2 : Option Addr) (c2 : Nat) (W : World) (hr : Kd.C k63 W A xs.length xs) (hl : xs.length ≤ 12) (hx : xs[j]? = some x) (hq : W.cell? q = some (.slice A xs.length c)) (hm : m.length = 12) (hM : MetIs D m W) :
    Calls Tryz.prog 73 #[.agg #[.string x.f0, .string x.f1, .slice A2 x.f2.length c2], .pointer (some q), .pointer (some ⟨D, 0, none⟩)] W fun e w' => e = .returned (.bool (mayNext (edgesOf xs) m (placeOf xs x.f1).toNat)) ∧ Below W.heap.size W w' := by
  obtain ⟨k, hk, hp⟩ := placeOf_in hx
  obtain ⟨y, hy⟩ : ∃ y, xs[k]? = some y := ⟨_, List.getElem?_eq_getElem hk⟩
  have hf := ord_find A c xs x.f1 W.heap.size (W.alloc (.cells #[.string x.f0, .string x.f1, .slice A2 x.f2.length c2] 63)) (Kd.C_alloc hr _) (by unfold World.cell?; rw [heap_alloc_new]; rfl)
  have hg : ∀ w', Below W.heap.size W w' → _ := fun w' hb => edges_calls A c xs k y w' (Kd.C_below hr hb) hy (by omega)
  have hcf : ∀ (w' : World) (Av : Option Addr) (cv : Nat), Below W.heap.size W w' → Kd.C (Kd.int .i64) w' Av (edgesOf xs k).length (edgesOf xs k) → _ := fun w' Av cv hb hC => ContainsFunc_Int Av cv (edgesOf xs k) (fun z => !m.getD z.toNat false) 77 #[.pointer (some ⟨D, 0, none⟩)] (enters_of Tryz.func77 (by kernel_rfl) rfl) w' hC
    (fun i z hz W2 hb2 => ord_clo2 z D m W2 hm ((hM.below hb).below hb2) (edgesOf_nn xs k z (List.mem_of_getElem? hz)).1 (by have := (edgesOf_nn xs k z (List.mem_of_getElem? hz)).2; have := (edgesOf_nn xs k z (List.mem_of_getElem? hz)).1; omega))
  rw [← edgesOf_at hy] at hg
  rw [hp] at hf ⊢
  rw [Int.toNat_natCast]
  unfold mayNext
  generalize edgesOf xs k = es at hg hcf ⊢
  have hk12 : (k : Int) < 12 := by omega
  have hcB := fun w' (hb : Below W.heap.size W w') => (hM.below hb).cell (k := k) (by omega)
  generalize (es.any fun z => !m.getD z.toNat false) = r at hcf ⊢
  generalize m.getD k false = b at hcB ⊢
  generalize xs.length = n at *
  have hql := below_cell (below_alloc (Below.refl _ W) (.cells #[.string x.f0, .string x.f1, .slice A2 x.f2.length c2] 63)) hq
  have HG := Aside0.mk hg
  have HCF := Aside0.mk hcf
  have HCB := Aside0.mk hcB
  clear hr hx hy hp hM hg hcf hcB
  have hmf : ∀ (fn : Fn) (first cap : Array Value) (w : World), (Instr.makeFunc fn first cap).run Tryz.prog w = .ok (.func fn first cap) w := fun _ _ _ _ => rfl
  cases b with
  | true =>
    go_enter Tryz.func73, Tryz.ntmps73
    go_wp2_with (go_at_call 72; refine hf.mono ?_; rintro e w2 ⟨rfl, hb2⟩; have c2 := HCB.out _ (below_step (below_alloc (Below.refl _ _) _) hb2); have q2 := below_cell hb2 hql; have HB2 := Aside0.mk hb2; clear hb2)
    go_ret
    exact ⟨rfl, below_step (below_alloc (Below.refl _ _) _) HB2.out⟩
  | false =>
    go_enter Tryz.func73, Tryz.ntmps73
    go_wp2_with (first | (go_at_call 72; refine hf.mono ?_; rintro e w2 ⟨rfl, hb2⟩; have c2 := HCB.out _ (below_step (below_alloc (Below.refl _ _) _) hb2); have q2 := below_cell hb2 hql; have HB2 := Aside0.mk hb2; clear hb2) | (go_at_call 76; refine (HG.out _ (below_step (below_alloc (Below.refl _ _) _) HB2.out)).mono ?_; rintro e w3 ⟨v0, rfl, hR, hb3⟩; obtain ⟨Av, cv, rfl⟩ := Kd.R_slice hR; have HR3 := Aside0.mk (Kd.R_reads' hR).2.2; have HB3 := Aside0.mk hb3; clear hR hb3) | (go_at_call 75; refine (HCF.out _ _ _ (below_step (below_step (below_alloc (Below.refl _ _) _) HB2.out) HB3.out) HR3.out).mono ?_; rintro e w4 ⟨rfl, hb4⟩; have HB4 := Aside0.mk hb4; clear hb4))
    go_ret
    exact ⟨rfl, below_step (below_step (below_step (below_alloc (Below.refl _ _) _) HB2.out) HB3.out) HB4.out⟩
end Go.Proofs.YtillhaipemengaaGreatDoor
end
