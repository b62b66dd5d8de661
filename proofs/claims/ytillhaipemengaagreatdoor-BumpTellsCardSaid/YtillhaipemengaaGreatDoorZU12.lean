/- The texts Cmp, Idx, Edges, Edges2 in one file, without what these claims do not use (put together by prune2.py). -/
import Derived.Test.YtillhaipemengaaGreatDoorZU4
import Derived.Lib.SlicesCompact
import Derived.Shelf.Abstract
section
namespace Go.Proofs.YtillhaipemengaaGreatDoor
open Go
set_option linter.unusedVariables false
set_option linter.unusedSimpArgs false
theorem filter_len_all {α : Type} (p : α → Bool) : ∀ (l : List α), l.length ≤ (l.filter p).length → ∀ x ∈ l, p x = true
  | [], _, x, h => by cases h
  | y :: l, h, x, hx => by
    cases hy : p y with
    | false =>
      rw [List.filter_cons_of_neg (by rw [hy]; simp)] at h
      have := List.length_filter_le p l
      simp at h; omega
    | true =>
      rw [List.filter_cons_of_pos hy] at h
      rcases List.mem_cons.1 hx with rfl | hx
      · exact hy
      · exact filter_len_all p l (by simpa using h) x hx
abbrev Str := List UInt8
def srt (zs : List Str) : List Str := zs.mergeSort fun x y => decide (x ≤ y)
theorem srt_sorted (zs : List Str) : (srt zs).Pairwise (· ≤ ·) := by
  have := List.pairwise_mergeSort (le := fun (x y : Str) => decide (x ≤ y)) (fun a b c h1 h2 => by simp only [decide_eq_true_eq] at *; exact List.le_trans h1 h2) (fun a b => by simp only [Bool.or_eq_true, decide_eq_true_eq]; exact List.le_total a b) zs
  exact this.imp (fun h => by simpa using h)
theorem compact_sorted (l : List Str) (hs : l.Pairwise (· ≤ ·)) : decide ((Lib.compact l).length < l.length) = !decide l.Nodup := by
  by_cases h : l.Nodup
  · rw [decide_eq_true h, Lib.compact_all l ?_]
    · simp
    · intro j hj
      unfold Lib.keeps
      rw [decide_eq_true_eq]
      by_cases h0 : j = 0
      · exact .inl h0
      · refine .inr fun e => ?_
        have e' : l[j]'hj = l[j - 1]'(by omega) := by simpa [getElem!_pos, hj, show j - 1 < l.length by omega] using e
        exact List.pairwise_iff_getElem.1 h (j - 1) j (by omega) hj (by omega) e'.symm
  · rw [decide_eq_false h]
    simp only [Bool.not_false, decide_eq_true_eq]
    refine Classical.byContradiction fun hlt => h ?_
    have hall := filter_len_all (Lib.keeps l.toArray) (List.range l.length) (by
      have : (Lib.compact l).length = ((List.range l.length).filter (Lib.keeps l.toArray)).length := by simp [Lib.compact, Lib.compactUpTo]
      rw [List.length_range]; omega)
    have hne : ∀ j, (hj : j + 1 < l.length) → l[j + 1] ≠ l[j] := by
      intro j hj e
      have := hall (j + 1) (List.mem_range.2 hj)
      unfold Lib.keeps at this
      rw [decide_eq_true_eq] at this
      rcases this with h | h
      · omega
      · exact h (by simpa [getElem!_pos, hj, show j < l.length by omega] using e)
    have hle : ∀ (i j : Nat) (hij : i ≤ j) (hj : j < l.length), l[i]'(by omega) ≤ l[j] := by
      intro i j hij hj
      rcases Nat.lt_or_ge i j with h | h
      · exact List.pairwise_iff_getElem.1 hs i j (by omega) hj h
      · have : i = j := by omega
        subst this; exact List.le_refl _
    refine List.pairwise_iff_getElem.2 fun i j hi hj hij e => ?_
    have h1 := hle i (i + 1) (by omega) (by omega)
    have h2 := hle (i + 1) j (by omega) hj
    rw [← e] at h2
    exact hne i (by omega) (List.le_antisymm h2 h1)
/-- A sorted list of texts, its runs made one, is as long as before just if no text stands twice. -/
theorem compact_lt (zs : List Str) : decide ((Lib.compact (srt zs)).length < zs.length) = !decide zs.Nodup := by
  have hp : (srt zs).Perm zs := List.mergeSort_perm zs _
  have hnd : decide (srt zs).Nodup = decide zs.Nodup := decide_eq_decide.2 hp.nodup_iff
  have h := compact_sorted (srt zs) (srt_sorted zs)
  rw [hnd, hp.length_eq] at h
  exact h
end Go.Proofs.YtillhaipemengaaGreatDoor
end

section
namespace Go.Proofs.YtillhaipemengaaGreatDoor
open Go Go.RowKit Go.Sort Go.Proofs Go.Proofs.YtillhaipemengaaGreatDoorW.PrintWords Go.Proofs.YtillhaipemengaaGreatDoor.K0
set_option linter.unusedVariables false
set_option linter.unusedSimpArgs false
/-- The first place of which p holds, or -1. -/
def idxFrom {α : Type} (p : α → Bool) : Nat → List α → Int
  | _, [] => -1
  | n, x :: l => if p x = true then (n : Int) else idxFrom p (n + 1) l
theorem idxFrom_at {α : Type} (p : α → Bool) : ∀ (l : List α) (n k : Nat) (x : α), l[k]? = some x → p x = true → (∀ j y, j < k → l[j]? = some y → p y = false) → idxFrom p n l = ((n + k : Nat) : Int)
  | [], n, k, x, h, _, _ => by simp at h
  | y :: l, n, 0, x, h, hp, _ => by
    obtain rfl : y = x := by simpa using h
    simp [idxFrom, hp]
  | y :: l, n, k + 1, x, h, hp, hn => by
    have hy := hn 0 y (by omega) rfl
    unfold idxFrom
    rw [if_neg (by rw [hy]; simp), idxFrom_at p l (n + 1) k x (by simpa using h) hp (fun j z hj hz => hn (j + 1) z (by omega) (by simpa using hz))]
    congr 1; omega
theorem idxFrom_none {α : Type} (p : α → Bool) : ∀ (l : List α) (n : Nat), (∀ (j : Nat) (y : α), l[j]? = some y → p y = false) → idxFrom p n l = -1
  | [], n, _ => rfl
  | y :: l, n, hn => by
    have hy := hn 0 y rfl
    unfold idxFrom
    rw [if_neg (by rw [hy]; simp)]
    exact idxFrom_none p l (n + 1) (fun j z hz => hn (j + 1) z (by simpa using hz))
theorem idxFrom_nonneg {α : Type} (p : α → Bool) : ∀ (l : List α) (n : Nat), decide (idxFrom p n l ≥ 0) = l.any p
  | [], n => rfl
  | y :: l, n => by
    unfold idxFrom
    cases h : p y
    · simp [h, idxFrom_nonneg p l (n + 1)]
    · simp [h]
set_option maxHeartbeats 2000000 in
/-- slices.IndexFunc over modules. -/
theorem IndexFunc_Mod (A : Option Addr) (c : Nat) (xs : List S63) (p : S63 → Bool) (g : Nat) (lb : Array Value) (eg : ∀ args w, (callFunc g args).run Tryz.prog w = .ok (.enter g args) w) (w : World)
    (hr : Kd.C k63 w A xs.length xs)
    (hp : ∀ (j : Nat) (x : S63), xs[j]? = some x → ∀ (W : World), Below w.heap.size w W → ∀ cs, k63.K W x cs → Calls Tryz.prog g (#[.agg cs.toArray] ++ lb) W fun e w' => e = .returned (.bool (p x)) ∧ Below W.heap.size W w') :
    Calls Tryz.prog 72 #[.slice A xs.length c, .func (.func g) #[] lb] w fun e w' => e = .returned (.int .i64 (idxFrom p 0 xs)) ∧ Below w.heap.size w w' := by
  obtain ⟨n, hn⟩ : ∃ n, n = xs.length := ⟨_, rfl⟩
  rw [← hn] at hr ⊢
  have hbig := hr.2.1
  have HN := Aside0.mk hn
  clear hn
  have HR := Aside0.mk hr
  clear hr
  go_enter Tryz.func72, Tryz.ntmps72
  go_wp2
  go_loopg [5, 8] n (fun gg _ s8 wr => ∃ kk : Nat, kk ≤ n ∧ n - kk ≤ gg ∧ s8 = .int .i64 kk ∧ Aside0 (Below w.heap.size w wr) ∧ Aside0 (∀ j y, j < kk → xs[j]? = some y → p y = false))
  case atStart => exact ⟨0, Nat.zero_le _, by omega, rfl, Aside0.mk (Below.refl _ w), Aside0.mk (fun j y hj => absurd hj (Nat.not_lt_zero _))⟩
  case round =>
    obtain ⟨kk, hkk, hg, rfl, BW, AS⟩ := hrel
    by_cases hlt : kk < n
    · have hltz : (kk : Int) < (n : Int) := by omega
      have HB := Kd.C_below HR.out BW.out
      obtain ⟨x, hx⟩ : ∃ x, xs[kk]? = some x := ⟨_, List.getElem?_eq_getElem (by have := HN.out; omega)⟩
      have hxe : rd_T63 xs (kk : Int) = x := by
        unfold rd_T63
        rw [Int.toNat_natCast, List.getD_eq_getElem?_getD, hx]; rfl
      obtain ⟨ad, A2, c2, hA, h0, h1, h2, hc2, hC2⟩ := at_T63 HB (kk : Int) (by omega) (by omega)
      rw [hxe] at h0 h1 h2 hc2 hC2
      subst hA
      have hcall := hp kk x hx wr BW.out _ (k63_mk wr x hc2 hC2)
      clear HB hxe hp
      have HX := Aside0.mk hx
      have HP2 := Aside0.mk hC2
      clear hx hC2
      rw [Int.toNat_natCast] at h0 h1 h2
      cases hq : p x with
      | true =>
        rw [hq] at hcall
        go_wp2_with (go_at_fn g; refine hcall.mono ?_; rintro e w' ⟨rfl, hb'⟩)
        go_ret
        refine ⟨?_, below_step BW.out hb'⟩
        rw [idxFrom_at p xs 0 kk x HX.out hq AS.out, Nat.zero_add]
        rfl
      | false =>
        rw [hq] at hcall
        go_wp2_with (go_at_fn g; refine hcall.mono ?_; rintro e w' ⟨rfl, hb'⟩)
        go_roundg (n - (kk + 1))
        case measure => omega
        case rel =>
          refine ⟨kk + 1, by omega, by omega, by go_num, Aside0.mk (below_step BW.out hb'), Aside0.mk (fun j y hj hy => ?_)⟩
          by_cases e : j = kk
          · subst e
            obtain rfl := Option.some.inj (HX.out.symm.trans hy)
            exact hq
          · exact AS.out j y (by omega) hy
    · have hltz : ¬ (kk : Int) < (n : Int) := by omega
      have : kk = n := by omega
      subst this
      go_wp2
      go_ret
      refine ⟨?_, BW.out⟩
      rw [idxFrom_none p xs 0 (fun j y hy => AS.out j y (by have := (List.getElem?_eq_some_iff.1 hy).1; have := HN.out; omega) hy)]
      rfl
set_option maxHeartbeats 2000000 in
/-- slices.IndexFunc over requirements. -/
theorem IndexFunc_Req (A : Option Addr) (c : Nat) (xs : List S69) (p : S69 → Bool) (g : Nat) (lb : Array Value) (eg : ∀ args w, (callFunc g args).run Tryz.prog w = .ok (.enter g args) w) (w : World)
    (hr : Kd.C k69 w A xs.length xs)
    (hp : ∀ (j : Nat) (x : S69), xs[j]? = some x → ∀ (W : World), Below w.heap.size w W → ∀ cs, k69.K W x cs → Calls Tryz.prog g (#[.agg cs.toArray] ++ lb) W fun e w' => e = .returned (.bool (p x)) ∧ Below W.heap.size W w') :
    Calls Tryz.prog 140 #[.slice A xs.length c, .func (.func g) #[] lb] w fun e w' => e = .returned (.int .i64 (idxFrom p 0 xs)) ∧ Below w.heap.size w w' := by
  obtain ⟨n, hn⟩ : ∃ n, n = xs.length := ⟨_, rfl⟩
  rw [← hn] at hr ⊢
  have hbig := hr.2.1
  have HN := Aside0.mk hn
  clear hn
  have HR := Aside0.mk hr
  clear hr
  go_enter Tryz.func140, Tryz.ntmps140
  go_wp2
  go_loopg [5, 8] n (fun gg _ s8 wr => ∃ kk : Nat, kk ≤ n ∧ n - kk ≤ gg ∧ s8 = .int .i64 kk ∧ Aside0 (Below w.heap.size w wr) ∧ Aside0 (∀ j y, j < kk → xs[j]? = some y → p y = false))
  case atStart => exact ⟨0, Nat.zero_le _, by omega, rfl, Aside0.mk (Below.refl _ w), Aside0.mk (fun j y hj => absurd hj (Nat.not_lt_zero _))⟩
  case round =>
    obtain ⟨kk, hkk, hg, rfl, BW, AS⟩ := hrel
    by_cases hlt : kk < n
    · have hltz : (kk : Int) < (n : Int) := by omega
      have HB := Kd.C_below HR.out BW.out
      obtain ⟨x, hx⟩ : ∃ x, xs[kk]? = some x := ⟨_, List.getElem?_eq_getElem (by have := HN.out; omega)⟩
      have hxe : rd_T69 xs (kk : Int) = x := by
        unfold rd_T69
        rw [Int.toNat_natCast, List.getD_eq_getElem?_getD, hx]; rfl
      obtain ⟨ad, hA, h0, h1, h2, h3, h4, h5⟩ := at_T69 HB (kk : Int) (by omega) (by omega)
      rw [hxe] at h0 h1 h2 h3 h4 h5
      subst hA
      have hcall := hp kk x hx wr BW.out _ (k69_mk wr x)
      clear HB hxe hp
      have HX := Aside0.mk hx
      clear hx
      rw [Int.toNat_natCast] at h0 h1 h2 h3 h4 h5
      cases hq : p x with
      | true =>
        rw [hq] at hcall
        go_wp2_with (go_at_fn g; refine hcall.mono ?_; rintro e w' ⟨rfl, hb'⟩)
        go_ret
        refine ⟨?_, below_step BW.out hb'⟩
        rw [idxFrom_at p xs 0 kk x HX.out hq AS.out, Nat.zero_add]
        rfl
      | false =>
        rw [hq] at hcall
        go_wp2_with (go_at_fn g; refine hcall.mono ?_; rintro e w' ⟨rfl, hb'⟩)
        go_roundg (n - (kk + 1))
        case measure => omega
        case rel =>
          refine ⟨kk + 1, by omega, by omega, by go_num, Aside0.mk (below_step BW.out hb'), Aside0.mk (fun j y hj hy => ?_)⟩
          by_cases e : j = kk
          · subst e
            obtain rfl := Option.some.inj (HX.out.symm.trans hy)
            exact hq
          · exact AS.out j y (by omega) hy
    · have hltz : ¬ (kk : Int) < (n : Int) := by omega
      have : kk = n := by omega
      subst this
      go_wp2
      go_ret
      refine ⟨?_, BW.out⟩
      rw [idxFrom_none p xs 0 (fun j y hy => AS.out j y (by have := (List.getElem?_eq_some_iff.1 hy).1; have := HN.out; omega) hy)]
      rfl
/-- slices.ContainsFunc over requirements. -/
theorem ContainsFunc_Req (A : Option Addr) (c : Nat) (xs : List S69) (p : S69 → Bool) (g : Nat) (lb : Array Value) (eg : ∀ args w, (callFunc g args).run Tryz.prog w = .ok (.enter g args) w) (w : World)
    (hr : Kd.C k69 w A xs.length xs)
    (hp : ∀ (j : Nat) (x : S69), xs[j]? = some x → ∀ (W : World), Below w.heap.size w W → ∀ cs, k69.K W x cs → Calls Tryz.prog g (#[.agg cs.toArray] ++ lb) W fun e w' => e = .returned (.bool (p x)) ∧ Below W.heap.size W w') :
    Calls Tryz.prog 111 #[.slice A xs.length c, .func (.func g) #[] lb] w fun e w' => e = .returned (.bool (xs.any p)) ∧ Below w.heap.size w w' := by
  have hcon := IndexFunc_Req A c xs p g lb eg w hr hp
  have hge : decide (idxFrom p 0 xs ≥ 0) = xs.any p := idxFrom_nonneg p xs 0
  generalize idxFrom p 0 xs = z at hcon hge
  rw [← hge]
  clear hge hr hp
  generalize xs.length = n at hcon ⊢
  go_enter Tryz.func111, Tryz.ntmps111
  go_wp2_with (go_at_call 140; refine hcon.mono ?_; rintro e w' ⟨rfl, hb'⟩)
  go_ret
  exact ⟨rfl, hb'⟩
set_option maxHeartbeats 2000000 in
/-- slices.IndexFunc over numbers. -/
theorem IndexFunc_Int (A : Option Addr) (c : Nat) (xs : List Int) (p : Int → Bool) (g : Nat) (lb : Array Value) (eg : ∀ args w, (callFunc g args).run Tryz.prog w = .ok (.enter g args) w) (w : World)
    (hr : Kd.C (Kd.int .i64) w A xs.length xs)
    (hp : ∀ (j : Nat) (x : Int), xs[j]? = some x → ∀ (W : World), Below w.heap.size w W → Calls Tryz.prog g (#[.int .i64 x] ++ lb) W fun e w' => e = .returned (.bool (p x)) ∧ Below W.heap.size W w') :
    Calls Tryz.prog 110 #[.slice A xs.length c, .func (.func g) #[] lb] w fun e w' => e = .returned (.int .i64 (idxFrom p 0 xs)) ∧ Below w.heap.size w w' := by
  obtain ⟨n, hn⟩ : ∃ n, n = xs.length := ⟨_, rfl⟩
  rw [← hn] at hr ⊢
  have hbig := hr.2.1
  have HN := Aside0.mk hn
  clear hn
  have HR := Aside0.mk hr
  clear hr
  go_enter Tryz.func110, Tryz.ntmps110
  go_wp2
  go_loopg [5, 8] n (fun gg _ s8 wr => ∃ kk : Nat, kk ≤ n ∧ n - kk ≤ gg ∧ s8 = .int .i64 kk ∧ Aside0 (Below w.heap.size w wr) ∧ Aside0 (∀ j y, j < kk → xs[j]? = some y → p y = false))
  case atStart => exact ⟨0, Nat.zero_le _, by omega, rfl, Aside0.mk (Below.refl _ w), Aside0.mk (fun j y hj => absurd hj (Nat.not_lt_zero _))⟩
  case round =>
    obtain ⟨kk, hkk, hg, rfl, BW, AS⟩ := hrel
    by_cases hlt : kk < n
    · have hltz : (kk : Int) < (n : Int) := by omega
      have HB := Kd.C_below HR.out BW.out
      obtain ⟨x, hx⟩ : ∃ x, xs[kk]? = some x := ⟨_, List.getElem?_eq_getElem (by have := HN.out; omega)⟩
      obtain ⟨ad, cs, hA, _, hK, hcell⟩ := Kd.C_get HB (0 : Int) (kk : Int) (by omega) (by omega)
      have hxe : xs.getD (kk : Int).toNat 0 = x := by
        rw [Int.toNat_natCast, List.getD_eq_getElem?_getD, hx]; rfl
      rw [hxe] at hK
      obtain rfl : cs = [.int .i64 x] := hK
      have h0 : wr.cell? (ad.add kk) = some (.int .i64 x) := by
        have := hcell 0 _ rfl
        rw [Int.toNat_natCast, show (Kd.int .i64).sz = 1 from rfl] at this
        simpa using this
      subst hA
      have hcall := hp kk x hx wr BW.out
      clear HB hxe hp hcell
      have HX := Aside0.mk hx
      clear hx
      cases hq : p x with
      | true =>
        rw [hq] at hcall
        go_wp2_with (go_at_fn g; refine hcall.mono ?_; rintro e w' ⟨rfl, hb'⟩)
        go_ret
        refine ⟨?_, below_step BW.out hb'⟩
        rw [idxFrom_at p xs 0 kk x HX.out hq AS.out, Nat.zero_add]
        rfl
      | false =>
        rw [hq] at hcall
        go_wp2_with (go_at_fn g; refine hcall.mono ?_; rintro e w' ⟨rfl, hb'⟩)
        go_roundg (n - (kk + 1))
        case measure => omega
        case rel =>
          refine ⟨kk + 1, by omega, by omega, by go_num, Aside0.mk (below_step BW.out hb'), Aside0.mk (fun j y hj hy => ?_)⟩
          by_cases e : j = kk
          · subst e
            obtain rfl := Option.some.inj (HX.out.symm.trans hy)
            exact hq
          · exact AS.out j y (by omega) hy
    · have hltz : ¬ (kk : Int) < (n : Int) := by omega
      have : kk = n := by omega
      subst this
      go_wp2
      go_ret
      refine ⟨?_, BW.out⟩
      rw [idxFrom_none p xs 0 (fun j y hy => AS.out j y (by have := (List.getElem?_eq_some_iff.1 hy).1; have := HN.out; omega) hy)]
      rfl
/-- slices.ContainsFunc over numbers. -/
theorem ContainsFunc_Int (A : Option Addr) (c : Nat) (xs : List Int) (p : Int → Bool) (g : Nat) (lb : Array Value) (eg : ∀ args w, (callFunc g args).run Tryz.prog w = .ok (.enter g args) w) (w : World)
    (hr : Kd.C (Kd.int .i64) w A xs.length xs)
    (hp : ∀ (j : Nat) (x : Int), xs[j]? = some x → ∀ (W : World), Below w.heap.size w W → Calls Tryz.prog g (#[.int .i64 x] ++ lb) W fun e w' => e = .returned (.bool (p x)) ∧ Below W.heap.size W w') :
    Calls Tryz.prog 75 #[.slice A xs.length c, .func (.func g) #[] lb] w fun e w' => e = .returned (.bool (xs.any p)) ∧ Below w.heap.size w w' := by
  have hcon := IndexFunc_Int A c xs p g lb eg w hr hp
  have hge : decide (idxFrom p 0 xs ≥ 0) = xs.any p := idxFrom_nonneg p xs 0
  generalize idxFrom p 0 xs = z at hcon hge
  rw [← hge]
  clear hge hr hp
  generalize xs.length = n at hcon ⊢
  go_enter Tryz.func75, Tryz.ntmps75
  go_wp2_with (go_at_call 110; refine hcon.mono ?_; rintro e w' ⟨rfl, hb'⟩)
  go_ret
  exact ⟨rfl, hb'⟩
set_option maxHeartbeats 2000000 in
/-- slices.IndexFunc over wants. -/
theorem IndexFunc_Want (A : Option Addr) (c : Nat) (xs : List S72) (p : S72 → Bool) (g : Nat) (lb : Array Value) (eg : ∀ args w, (callFunc g args).run Tryz.prog w = .ok (.enter g args) w) (w : World)
    (hr : Kd.C k72 w A xs.length xs)
    (hp : ∀ (j : Nat) (x : S72), xs[j]? = some x → ∀ (W : World), Below w.heap.size w W → ∀ cs, k72.K W x cs → Calls Tryz.prog g (#[.agg cs.toArray] ++ lb) W fun e w' => e = .returned (.bool (p x)) ∧ Below W.heap.size W w') :
    Calls Tryz.prog 113 #[.slice A xs.length c, .func (.func g) #[] lb] w fun e w' => e = .returned (.int .i64 (idxFrom p 0 xs)) ∧ Below w.heap.size w w' := by
  obtain ⟨n, hn⟩ : ∃ n, n = xs.length := ⟨_, rfl⟩
  rw [← hn] at hr ⊢
  have hbig := hr.2.1
  have HN := Aside0.mk hn
  clear hn
  have HR := Aside0.mk hr
  clear hr
  go_enter Tryz.func113, Tryz.ntmps113
  go_wp2
  go_loopg [5, 8] n (fun gg _ s8 wr => ∃ kk : Nat, kk ≤ n ∧ n - kk ≤ gg ∧ s8 = .int .i64 kk ∧ Aside0 (Below w.heap.size w wr) ∧ Aside0 (∀ j y, j < kk → xs[j]? = some y → p y = false))
  case atStart => exact ⟨0, Nat.zero_le _, by omega, rfl, Aside0.mk (Below.refl _ w), Aside0.mk (fun j y hj => absurd hj (Nat.not_lt_zero _))⟩
  case round =>
    obtain ⟨kk, hkk, hg, rfl, BW, AS⟩ := hrel
    by_cases hlt : kk < n
    · have hltz : (kk : Int) < (n : Int) := by omega
      have HB := Kd.C_below HR.out BW.out
      obtain ⟨x, hx⟩ : ∃ x, xs[kk]? = some x := ⟨_, List.getElem?_eq_getElem (by have := HN.out; omega)⟩
      have hxe : rd_T72 xs (kk : Int) = x := by
        unfold rd_T72
        rw [Int.toNat_natCast, List.getD_eq_getElem?_getD, hx]; rfl
      obtain ⟨ad, hA, h0, h1⟩ := at_T72 HB (kk : Int) (by omega) (by omega)
      rw [hxe] at h0 h1
      subst hA
      have hcall := hp kk x hx wr BW.out _ (k72_mk wr x)
      clear HB hxe hp
      have HX := Aside0.mk hx
      clear hx
      rw [Int.toNat_natCast] at h0 h1
      cases hq : p x with
      | true =>
        rw [hq] at hcall
        go_wp2_with (go_at_fn g; refine hcall.mono ?_; rintro e w' ⟨rfl, hb'⟩)
        go_ret
        refine ⟨?_, below_step BW.out hb'⟩
        rw [idxFrom_at p xs 0 kk x HX.out hq AS.out, Nat.zero_add]
        rfl
      | false =>
        rw [hq] at hcall
        go_wp2_with (go_at_fn g; refine hcall.mono ?_; rintro e w' ⟨rfl, hb'⟩)
        go_roundg (n - (kk + 1))
        case measure => omega
        case rel =>
          refine ⟨kk + 1, by omega, by omega, by go_num, Aside0.mk (below_step BW.out hb'), Aside0.mk (fun j y hj hy => ?_)⟩
          by_cases e : j = kk
          · subst e
            obtain rfl := Option.some.inj (HX.out.symm.trans hy)
            exact hq
          · exact AS.out j y (by omega) hy
    · have hltz : ¬ (kk : Int) < (n : Int) := by omega
      have : kk = n := by omega
      subst this
      go_wp2
      go_ret
      refine ⟨?_, BW.out⟩
      rw [idxFrom_none p xs 0 (fun j y hy => AS.out j y (by have := (List.getElem?_eq_some_iff.1 hy).1; have := HN.out; omega) hy)]
      rfl
/-- slices.ContainsFunc over wants. -/
theorem ContainsFunc_Want (A : Option Addr) (c : Nat) (xs : List S72) (p : S72 → Bool) (g : Nat) (lb : Array Value) (eg : ∀ args w, (callFunc g args).run Tryz.prog w = .ok (.enter g args) w) (w : World)
    (hr : Kd.C k72 w A xs.length xs)
    (hp : ∀ (j : Nat) (x : S72), xs[j]? = some x → ∀ (W : World), Below w.heap.size w W → ∀ cs, k72.K W x cs → Calls Tryz.prog g (#[.agg cs.toArray] ++ lb) W fun e w' => e = .returned (.bool (p x)) ∧ Below W.heap.size W w') :
    Calls Tryz.prog 78 #[.slice A xs.length c, .func (.func g) #[] lb] w fun e w' => e = .returned (.bool (xs.any p)) ∧ Below w.heap.size w w' := by
  have hcon := IndexFunc_Want A c xs p g lb eg w hr hp
  have hge : decide (idxFrom p 0 xs ≥ 0) = xs.any p := idxFrom_nonneg p xs 0
  generalize idxFrom p 0 xs = z at hcon hge
  rw [← hge]
  clear hge hr hp
  generalize xs.length = n at hcon ⊢
  go_enter Tryz.func78, Tryz.ntmps78
  go_wp2_with (go_at_call 113; refine hcon.mono ?_; rintro e w' ⟨rfl, hb'⟩)
  go_ret
  exact ⟨rfl, hb'⟩
set_option maxHeartbeats 2000000 in
/-- slices.IndexFunc over releases. -/
theorem IndexFunc_Rel (A : Option Addr) (c : Nat) (xs : List S30) (p : S30 → Bool) (g : Nat) (lb : Array Value) (eg : ∀ args w, (callFunc g args).run Tryz.prog w = .ok (.enter g args) w) (w : World)
    (hr : Kd.C k30 w A xs.length xs)
    (hp : ∀ (j : Nat) (x : S30), xs[j]? = some x → ∀ (W : World), Below w.heap.size w W → ∀ cs, k30.K W x cs → Calls Tryz.prog g (#[.agg cs.toArray] ++ lb) W fun e w' => e = .returned (.bool (p x)) ∧ Below W.heap.size W w') :
    Calls Tryz.prog 49 #[.slice A xs.length c, .func (.func g) #[] lb] w fun e w' => e = .returned (.int .i64 (idxFrom p 0 xs)) ∧ Below w.heap.size w w' := by
  obtain ⟨n, hn⟩ : ∃ n, n = xs.length := ⟨_, rfl⟩
  rw [← hn] at hr ⊢
  have hbig := hr.2.1
  have HN := Aside0.mk hn
  clear hn
  have HR := Aside0.mk hr
  clear hr
  go_enter Tryz.func49, Tryz.ntmps49
  go_wp2
  go_loopg [5, 8] n (fun gg _ s8 wr => ∃ kk : Nat, kk ≤ n ∧ n - kk ≤ gg ∧ s8 = .int .i64 kk ∧ Aside0 (Below w.heap.size w wr) ∧ Aside0 (∀ j y, j < kk → xs[j]? = some y → p y = false))
  case atStart => exact ⟨0, Nat.zero_le _, by omega, rfl, Aside0.mk (Below.refl _ w), Aside0.mk (fun j y hj => absurd hj (Nat.not_lt_zero _))⟩
  case round =>
    obtain ⟨kk, hkk, hg, rfl, BW, AS⟩ := hrel
    by_cases hlt : kk < n
    · have hltz : (kk : Int) < (n : Int) := by omega
      have HB := Kd.C_below HR.out BW.out
      obtain ⟨x, hx⟩ : ∃ x, xs[kk]? = some x := ⟨_, List.getElem?_eq_getElem (by have := HN.out; omega)⟩
      have hxe : rd_T30 xs (kk : Int) = x := by
        unfold rd_T30
        rw [Int.toNat_natCast, List.getD_eq_getElem?_getD, hx]; rfl
      obtain ⟨ad, hA, h0, h1, h2, h3, h4, h5, h6, h7, h8, h9, h10, h11, h12⟩ := at_T30 HB (kk : Int) (by omega) (by omega)
      rw [hxe] at h0 h1 h2 h3 h4 h5 h6 h7 h8 h9 h10 h11 h12
      subst hA
      have hcall := hp kk x hx wr BW.out _ (k30_mk wr x)
      clear HB hxe hp
      have HX := Aside0.mk hx
      clear hx
      rw [Int.toNat_natCast] at h0 h1 h2 h3 h4 h5 h6 h7 h8 h9 h10 h11 h12
      cases hq : p x with
      | true =>
        rw [hq] at hcall
        go_wp2_with (go_at_fn g; refine hcall.mono ?_; rintro e w' ⟨rfl, hb'⟩)
        go_ret
        refine ⟨?_, below_step BW.out hb'⟩
        rw [idxFrom_at p xs 0 kk x HX.out hq AS.out, Nat.zero_add]
        rfl
      | false =>
        rw [hq] at hcall
        go_wp2_with (go_at_fn g; refine hcall.mono ?_; rintro e w' ⟨rfl, hb'⟩)
        go_roundg (n - (kk + 1))
        case measure => omega
        case rel =>
          refine ⟨kk + 1, by omega, by omega, by go_num, Aside0.mk (below_step BW.out hb'), Aside0.mk (fun j y hj hy => ?_)⟩
          by_cases e : j = kk
          · subst e
            obtain rfl := Option.some.inj (HX.out.symm.trans hy)
            exact hq
          · exact AS.out j y (by omega) hy
    · have hltz : ¬ (kk : Int) < (n : Int) := by omega
      have : kk = n := by omega
      subst this
      go_wp2
      go_ret
      refine ⟨?_, BW.out⟩
      rw [idxFrom_none p xs 0 (fun j y hy => AS.out j y (by have := (List.getElem?_eq_some_iff.1 hy).1; have := HN.out; omega) hy)]
      rfl
end Go.Proofs.YtillhaipemengaaGreatDoor
end

section
namespace Go.Proofs.YtillhaipemengaaGreatDoor
open Go Go.RowKit Go.Sort Go.Proofs Go.Proofs.YtillhaipemengaaGreatDoorW.PrintWords Go.Proofs.YtillhaipemengaaGreatDoor.K0
set_option linter.unusedVariables false
set_option linter.unusedSimpArgs false
theorem edges_clo (B : Nat) (path : ByteArray) (a b c : Int) (s p q : ByteArray) (W : World) (h : W.cell? ⟨B, 1, none⟩ = some (.string path)) :
    Calls Tryz.prog 112 #[.agg #[.string s, .int .i64 a, .int .i64 b, .int .i64 c, .string p, .string q], .pointer (some ⟨B, 0, none⟩)] W fun e w' => e = .returned (.bool (s.toList == path.toList)) ∧ Below W.heap.size W w' := by
  have hlt : B < W.heap.size := World.block_lt_of_cell? W _ h
  have h2 : ∀ o, (W.alloc o).cell? ⟨B, 1, none⟩ = some (.string path) := fun o => (World.cell?_alloc_old W o _ (show B ≠ W.heap.size by omega)).trans h
  clear hlt
  go_enter Tryz.func112, Tryz.ntmps112
  go_wp2
  go_ret
  exact ⟨rfl, by repeat (first | exact Below.refl _ _ | apply below_alloc | apply pw_below_drewN | apply below_drew1)⟩
/-- Does a module require a path? -/
def needs (x : S63) (path : ByteArray) : Bool := x.f2.any fun r => r.f0.data.toList == path.data.toList
def edgesFrom (x : S63) : Nat → List S63 → List Int
  | _, [] => []
  | k, m :: l => if needs x m.f1 = true then (k : Int) :: edgesFrom x (k + 1) l else edgesFrom x (k + 1) l
theorem needs_call (A : Option Addr) (c : Nat) (x : S63) (path : ByteArray) (B : Nat) (w : World) (hr : Kd.C k69 w A x.f2.length x.f2) (h : w.cell? ⟨B, 1, none⟩ = some (.string path)) :
    Calls Tryz.prog 111 #[.slice A x.f2.length c, .func (.func 112) #[] #[.pointer (some ⟨B, 0, none⟩)]] w fun e w' => e = .returned (.bool (needs x path)) ∧ Below w.heap.size w w' := by
  refine ContainsFunc_Req A c x.f2 (fun r => r.f0.data.toList == path.data.toList) 112 _ (enters_of Tryz.func112 (by kernel_rfl) rfl) w hr ?_
  intro j r _ W hb cs hK
  obtain rfl := k69_open hK
  rw [← ByteArray.toList_eq, ← ByteArray.toList_eq]
  exact edges_clo B path _ _ _ _ _ _ W ((hb.cell (p := ⟨B, 1, none⟩) (World.block_lt_of_cell? w _ h)).trans h)
theorem edgesFrom_at (x : S63) : ∀ (k : Nat) (l : List S63) (m : S63) (rest : List S63), l = m :: rest → edgesFrom x k l = (if needs x m.f1 = true then [(k : Int)] else []) ++ edgesFrom x (k + 1) rest
  | k, _, m, rest, rfl => by
    show (if needs x m.f1 = true then (k : Int) :: edgesFrom x (k + 1) rest else edgesFrom x (k + 1) rest) = _
    split <;> rfl
theorem edgesFrom_len (x : S63) : ∀ (k : Nat) (l : List S63), (edgesFrom x k l).length ≤ l.length
  | _, [] => Nat.le_refl _
  | k, m :: l => by
    have := edgesFrom_len x (k + 1) l
    unfold edgesFrom
    split <;> simp <;> omega
end Go.Proofs.YtillhaipemengaaGreatDoor
end

section
namespace Go.Proofs.YtillhaipemengaaGreatDoor
open Go Go.RowKit Go.Sort Go.Proofs Go.Proofs.YtillhaipemengaaGreatDoorW.PrintWords Go.Proofs.YtillhaipemengaaGreatDoor.K0
set_option linter.unusedVariables false
set_option linter.unusedSimpArgs false
set_option maxRecDepth 100000 in
set_option maxHeartbeats 4000000 in
theorem edges_calls (A : Option Addr) (c : Nat) (xs : List S63) (i : Nat) (x : S63) (w : World) (hr : Kd.C k63 w A xs.length xs) (hx : xs[i]? = some x) (hl : xs.length ≤ 4294967290) :
    Calls Tryz.prog 76 #[.slice A xs.length c, .int .i64 i] w fun e w' => ∃ v0_ : Value, e = .returned v0_ ∧ Kd.R (Kd.int .i64) 3 w' w.heap.size (fun _ => True) v0_ (edgesFrom x 0 xs) ∧ Below w.heap.size w w' := by
  obtain ⟨n, hn⟩ : ∃ n, n = xs.length := ⟨_, rfl⟩
  rw [← hn] at hr hl ⊢
  have HN := Aside0.mk hn
  clear hn
  have HR := Aside0.mk hr
  have HX := Aside0.mk hx
  clear hr hx
  go_enter Tryz.func76, Tryz.ntmps76
  go_wp2
  go_loopg [5, 10] n (fun gg v5 v10 wr => ∃ (kk : Nat) (acc : List Int), kk ≤ n ∧ n - kk ≤ gg ∧ v10 = .int .i64 kk ∧ Aside0 (acc ++ edgesFrom x kk (xs.drop kk) = edgesFrom x 0 xs) ∧ Aside0 (Kd.R (Kd.int .i64) 3 wr w.heap.size (fun _ => True) v5 acc) ∧ Aside0 (Below w.heap.size w wr))
  case atStart => exact ⟨0, [], Nat.zero_le _, by omega, rfl, Aside0.mk (by simp), Aside0.mk (Kd.R_nil _ _ _ _ _), Aside0.mk (Below.refl _ w)⟩
  case round =>
    obtain ⟨kk, acc, hkk, hg, rfl, HE, HO, HB⟩ := hrel
    by_cases hlt : kk < n
    · have hltz : (kk : Int) < (n : Int) := by omega
      have HR1 := Kd.C_below HR.out HB.out
      obtain ⟨m, hm⟩ : ∃ m, xs[kk]? = some m := ⟨_, List.getElem?_eq_getElem (by have := HN.out; omega)⟩
      have hi : i < n := by have := (List.getElem?_eq_some_iff.1 HX.out).1; have := HN.out; omega
      have hiz : (i : Int) < (n : Int) := by omega
      have hme : rd_T63 xs (kk : Int) = m := by
        unfold rd_T63
        rw [Int.toNat_natCast, List.getD_eq_getElem?_getD, hm]; rfl
      have hxe : rd_T63 xs (i : Int) = x := by
        unfold rd_T63
        rw [Int.toNat_natCast, List.getD_eq_getElem?_getD, HX.out]; rfl
      obtain ⟨ad, A2, c2, hA, h0, h1, h2, hc2, hC2⟩ := at_T63 HR1 (kk : Int) (by omega) (by omega)
      obtain ⟨ad', Ai, ci, hA', g0, g1, g2, gc, gC⟩ := at_T63 HR1 (i : Int) (by omega) (by omega)
      obtain rfl : ad = ad' := by rw [hA] at hA'; injection hA'
      subst hA
      rw [hme] at h0 h1 h2 hc2 hC2
      rw [hxe] at g0 g1 g2 gc gC
      rw [Int.toNat_natCast] at h0 h1 h2 g0 g1 g2
      have HGC := Aside0.mk gC
      have HM := Aside0.mk hm
      clear HR1 hme hxe hA' gC hm hC2
      have hbi : (ad.add (i * 3)).block < wr.heap.size := World.block_lt_of_cell? _ (ad.add (i * 3)) g0
      have g2' : ∀ o, (wr.alloc o).cell? ⟨(ad.add (i * 3)).block, (ad.add (i * 3)).off + 2, none⟩ = some (.slice Ai x.f2.length ci) := fun o => (World.cell?_alloc_old wr o ⟨(ad.add (i * 3)).block, (ad.add (i * 3)).off + 2, none⟩ (show (ad.add (i * 3)).block ≠ wr.heap.size by omega)).trans g2
      have hmf : ∀ (fn : Fn) (first cap : Array Value) (w : World), (Instr.makeFunc fn first cap).run Tryz.prog w = .ok (.func fn first cap) w := fun _ _ _ _ => rfl
      have hC : Calls Tryz.prog 111 #[.slice Ai x.f2.length ci, .func (.func 112) #[] #[.pointer (some ⟨wr.heap.size, 0, none⟩)]] (wr.alloc (.cells #[.string m.f0, .string m.f1, .slice A2 m.f2.length c2] 63)) fun e w' => e = .returned (.bool (needs x m.f1)) ∧ Below (wr.alloc (.cells #[.string m.f0, .string m.f1, .slice A2 m.f2.length c2] 63)).heap.size (wr.alloc (.cells #[.string m.f0, .string m.f1, .slice A2 m.f2.length c2] 63)) w' :=
        needs_call Ai ci x m.f1 wr.heap.size _ (Kd.C_alloc HGC.out _) (by unfold World.cell?; rw [heap_alloc_new]; rfl)
      have hdrop : xs.drop kk = m :: xs.drop (kk + 1) := by
        obtain ⟨h, e⟩ := List.getElem?_eq_some_iff.1 HM.out
        rw [List.drop_eq_getElem_cons h, e]
      have hE := HE.out
      rw [edgesFrom_at x kk _ m _ hdrop, ← List.append_assoc] at hE
      have HLE : Aside0 (acc.length ≤ 4294967290) := ⟨by
        have h := congrArg List.length hE
        have h2 := edgesFrom_len x 0 xs
        simp only [List.length_append] at h
        have := HN.out
        omega⟩
      clear hdrop
      cases hq : needs x m.f1 with
      | true =>
        rw [hq] at hC hE
        rw [if_pos rfl] at hE
        have HE1 := Aside0.mk hE
        clear hE hq
        go_wp2_with (first | (go_at_call 111; refine hC.mono ?_; rintro e w' ⟨rfl, hb'⟩; have HB1 := Aside0.mk (below_step (below_alloc HB.out _) hb'); have HO1 := Aside0.mk (Kd.R_below (Kd.R_alloc HO.out _) hb'); clear hb') | ((with_reducible refine gate_builtin (b := .append) (xs := #[.tmp 22, .tmp 24]) rfl ?_); at_builtin; refine Kd.R_append (Kd.int .i64) (w0 := w) w.heap.size rfl (.tmp 22) (.tmp 24) 39 3 (.int .i64 0) 8 rfl Tryz.underlying39 info3 rfl (by decide) (by decide) u5 acc (kk : Int) [.int .i64 kk] (fun _ => True) (fun _ => False) rfl rfl ?aP (fun _ hk => hk.elim) ?aF ?aO ?aB ?aS ?aL ?_; (case aP => exact rfl); (case aB => exact HB1.out); (case aF => exact (fun _ _ => trivial)); (case aO => exact HO1.out); (case aS => exact below_size HB1.out); (case aL => have := HLE.out; omega); intro v103 w9 ho hb hg hat; have HO2 := Aside0.mk ho; have HB2 := Aside0.mk hb; clear ho hb hg hat HB1 HO1))
        go_roundg (n - (kk + 1))
        case measure => omega
        case rel => exact ⟨kk + 1, acc ++ [(kk : Int)], by omega, by omega, by go_num, HE1, HO2, HB2⟩
      | false =>
        rw [hq] at hC hE
        rw [if_neg (by simp)] at hE
        have HE1 := Aside0.mk hE
        clear hE hq
        go_wp2_with (go_at_call 111; refine hC.mono ?_; rintro e w' ⟨rfl, hb'⟩)
        go_roundg (n - (kk + 1))
        case measure => omega
        case rel => exact ⟨kk + 1, acc, by omega, by omega, by go_num, ⟨by simpa using HE1.out⟩, ⟨Kd.R_below (Kd.R_alloc HO.out _) hb'⟩, ⟨below_step (below_alloc HB.out _) hb'⟩⟩
    · have hltz : ¬ (kk : Int) < (n : Int) := by omega
      go_wp2
      go_ret
      exact ⟨_, rfl, by have h := HE.out; rw [List.drop_eq_nil_of_le (by have := HN.out; omega)] at h; rw [show edgesFrom x 0 xs = acc from by rw [← h]; simp [edgesFrom]]; exact HO.out, HB.out⟩
end Go.Proofs.YtillhaipemengaaGreatDoor
end
