/- slices.IndexFunc and slices.ContainsFunc over modules, requirements and numbers, whatever predicate: the premise speaks of the row's own elements alone. -/
import Derived.Test.YtnfiigjignpkaaaGreatDoorGw
import Derived.Shelf.Abstract
namespace Go.Proofs.YtnfiigjignpkaaaGreatDoor
open Go Go.RowKit Go.Sort Go.Proofs Go.Proofs.YtnfiigjignpkaaaGreatDoorW.PrintWords Go.Proofs.YtnfiigjignpkaaaGreatDoor.K0
set_option linter.unusedVariables false
set_option linter.unusedSimpArgs false

/-- The first place of which p holds, or -1. -/
def idxFrom {α : Type} (p : α → Bool) : Nat → List α → Int
  | _, [] => -1
  | n, x :: l => if p x = true then (n : Int) else idxFrom p (n + 1) l
theorem idxFrom_at {α : Type} (p : α → Bool) : ∀ (l : List α) (n k : Nat) (x : α), l[k]? = some x → p x = true → (∀ j y, j < k → l[j]? = some y → p y = false) → idxFrom p n l = ((n + k : Nat) : Int)
  | [], n, k, x, h, _, _ => by simp at h
  | y :: l, n, 0, x, h, hp, _ => by
    obtain rfl : y = x := by simpa using h
    simp [idxFrom, hp]
  | y :: l, n, k + 1, x, h, hp, hn => by
    have hy := hn 0 y (by omega) rfl
    unfold idxFrom
    rw [if_neg (by rw [hy]; simp), idxFrom_at p l (n + 1) k x (by simpa using h) hp (fun j z hj hz => hn (j + 1) z (by omega) (by simpa using hz))]
    congr 1; omega
theorem idxFrom_none {α : Type} (p : α → Bool) : ∀ (l : List α) (n : Nat), (∀ (j : Nat) (y : α), l[j]? = some y → p y = false) → idxFrom p n l = -1
  | [], n, _ => rfl
  | y :: l, n, hn => by
    have hy := hn 0 y rfl
    unfold idxFrom
    rw [if_neg (by rw [hy]; simp)]
    exact idxFrom_none p l (n + 1) (fun j z hz => hn (j + 1) z (by simpa using hz))
theorem idxFrom_nonneg {α : Type} (p : α → Bool) : ∀ (l : List α) (n : Nat), decide (idxFrom p n l ≥ 0) = l.any p
  | [], n => rfl
  | y :: l, n => by
    unfold idxFrom
    cases h : p y
    · simp [h, idxFrom_nonneg p l (n + 1)]
    · simp [h]

set_option maxHeartbeats 2000000 in
/-- slices.IndexFunc over modules. -/
theorem IndexFunc_Mod (A : Option Addr) (c : Nat) (xs : List S40) (p : S40 → Bool) (g : Nat) (lb : Array Value) (eg : ∀ args w, (callFunc g args).run Tryz.prog w = .ok (.enter g args) w) (w : World)
    (hr : Kd.C k40 w A xs.length xs)
    (hp : ∀ (j : Nat) (x : S40), xs[j]? = some x → ∀ (W : World), Below w.heap.size w W → ∀ cs, k40.K W x cs → Calls Tryz.prog g (#[.agg cs.toArray] ++ lb) W fun e w' => e = .returned (.bool (p x)) ∧ Below W.heap.size W w') :
    Calls Tryz.prog 22 #[.slice A xs.length c, .func (.func g) #[] lb] w fun e w' => e = .returned (.int .i64 (idxFrom p 0 xs)) ∧ Below w.heap.size w w' := by
  obtain ⟨n, hn⟩ : ∃ n, n = xs.length := ⟨_, rfl⟩
  rw [← hn] at hr ⊢
  have hbig := hr.2.1
  have HN := Aside0.mk hn
  clear hn
  have HR := Aside0.mk hr
  clear hr
  go_enter Tryz.func22, Tryz.ntmps22
  go_wp2
  go_loopg [5, 8] n (fun gg _ s8 wr => ∃ kk : Nat, kk ≤ n ∧ n - kk ≤ gg ∧ s8 = .int .i64 kk ∧ Aside0 (Below w.heap.size w wr) ∧ Aside0 (∀ j y, j < kk → xs[j]? = some y → p y = false))
  case atStart => exact ⟨0, Nat.zero_le _, by omega, rfl, Aside0.mk (Below.refl _ w), Aside0.mk (fun j y hj => absurd hj (Nat.not_lt_zero _))⟩
  case round =>
    obtain ⟨kk, hkk, hg, rfl, BW, AS⟩ := hrel
    by_cases hlt : kk < n
    · have hltz : (kk : Int) < (n : Int) := by omega
      have HB := Kd.C_below HR.out BW.out
      obtain ⟨x, hx⟩ : ∃ x, xs[kk]? = some x := ⟨_, List.getElem?_eq_getElem (by have := HN.out; omega)⟩
      have hxe : rd_T40 xs (kk : Int) = x := by
        unfold rd_T40
        rw [Int.toNat_natCast, List.getD_eq_getElem?_getD, hx]; rfl
      obtain ⟨ad, A2, c2, hA, h0, h1, h2, hc2, hC2⟩ := at_T40 HB (kk : Int) (by omega) (by omega)
      rw [hxe] at h0 h1 h2 hc2 hC2
      subst hA
      have hcall := hp kk x hx wr BW.out _ (k40_mk wr x hc2 hC2)
      clear HB hxe hp
      have HX := Aside0.mk hx
      have HP2 := Aside0.mk hC2
      clear hx hC2
      rw [Int.toNat_natCast] at h0 h1 h2
      cases hq : p x with
      | true =>
        rw [hq] at hcall
        go_wp2_with (go_at_fn g; refine hcall.mono ?_; rintro e w' ⟨rfl, hb'⟩)
        go_ret
        refine ⟨?_, below_step BW.out hb'⟩
        rw [idxFrom_at p xs 0 kk x HX.out hq AS.out, Nat.zero_add]
        rfl
      | false =>
        rw [hq] at hcall
        go_wp2_with (go_at_fn g; refine hcall.mono ?_; rintro e w' ⟨rfl, hb'⟩)
        go_roundg (n - (kk + 1))
        case measure => omega
        case rel =>
          refine ⟨kk + 1, by omega, by omega, by go_num, Aside0.mk (below_step BW.out hb'), Aside0.mk (fun j y hj hy => ?_)⟩
          by_cases e : j = kk
          · subst e
            obtain rfl := Option.some.inj (HX.out.symm.trans hy)
            exact hq
          · exact AS.out j y (by omega) hy
    · have hltz : ¬ (kk : Int) < (n : Int) := by omega
      have : kk = n := by omega
      subst this
      go_wp2
      go_ret
      refine ⟨?_, BW.out⟩
      rw [idxFrom_none p xs 0 (fun j y hy => AS.out j y (by have := (List.getElem?_eq_some_iff.1 hy).1; have := HN.out; omega) hy)]
      rfl
set_option maxHeartbeats 2000000 in
/-- slices.IndexFunc over requirements. -/
theorem IndexFunc_Req (A : Option Addr) (c : Nat) (xs : List S44) (p : S44 → Bool) (g : Nat) (lb : Array Value) (eg : ∀ args w, (callFunc g args).run Tryz.prog w = .ok (.enter g args) w) (w : World)
    (hr : Kd.C k44 w A xs.length xs)
    (hp : ∀ (j : Nat) (x : S44), xs[j]? = some x → ∀ (W : World), Below w.heap.size w W → ∀ cs, k44.K W x cs → Calls Tryz.prog g (#[.agg cs.toArray] ++ lb) W fun e w' => e = .returned (.bool (p x)) ∧ Below W.heap.size W w') :
    Calls Tryz.prog 55 #[.slice A xs.length c, .func (.func g) #[] lb] w fun e w' => e = .returned (.int .i64 (idxFrom p 0 xs)) ∧ Below w.heap.size w w' := by
  obtain ⟨n, hn⟩ : ∃ n, n = xs.length := ⟨_, rfl⟩
  rw [← hn] at hr ⊢
  have hbig := hr.2.1
  have HN := Aside0.mk hn
  clear hn
  have HR := Aside0.mk hr
  clear hr
  go_enter Tryz.func55, Tryz.ntmps55
  go_wp2
  go_loopg [5, 8] n (fun gg _ s8 wr => ∃ kk : Nat, kk ≤ n ∧ n - kk ≤ gg ∧ s8 = .int .i64 kk ∧ Aside0 (Below w.heap.size w wr) ∧ Aside0 (∀ j y, j < kk → xs[j]? = some y → p y = false))
  case atStart => exact ⟨0, Nat.zero_le _, by omega, rfl, Aside0.mk (Below.refl _ w), Aside0.mk (fun j y hj => absurd hj (Nat.not_lt_zero _))⟩
  case round =>
    obtain ⟨kk, hkk, hg, rfl, BW, AS⟩ := hrel
    by_cases hlt : kk < n
    · have hltz : (kk : Int) < (n : Int) := by omega
      have HB := Kd.C_below HR.out BW.out
      obtain ⟨x, hx⟩ : ∃ x, xs[kk]? = some x := ⟨_, List.getElem?_eq_getElem (by have := HN.out; omega)⟩
      have hxe : rd_T44 xs (kk : Int) = x := by
        unfold rd_T44
        rw [Int.toNat_natCast, List.getD_eq_getElem?_getD, hx]; rfl
      obtain ⟨ad, hA, h0, h1, h2, h3, h4, h5⟩ := at_T44 HB (kk : Int) (by omega) (by omega)
      rw [hxe] at h0 h1 h2 h3 h4 h5
      subst hA
      have hcall := hp kk x hx wr BW.out _ (k44_mk wr x)
      clear HB hxe hp
      have HX := Aside0.mk hx
      clear hx
      rw [Int.toNat_natCast] at h0 h1 h2 h3 h4 h5
      cases hq : p x with
      | true =>
        rw [hq] at hcall
        go_wp2_with (go_at_fn g; refine hcall.mono ?_; rintro e w' ⟨rfl, hb'⟩)
        go_ret
        refine ⟨?_, below_step BW.out hb'⟩
        rw [idxFrom_at p xs 0 kk x HX.out hq AS.out, Nat.zero_add]
        rfl
      | false =>
        rw [hq] at hcall
        go_wp2_with (go_at_fn g; refine hcall.mono ?_; rintro e w' ⟨rfl, hb'⟩)
        go_roundg (n - (kk + 1))
        case measure => omega
        case rel =>
          refine ⟨kk + 1, by omega, by omega, by go_num, Aside0.mk (below_step BW.out hb'), Aside0.mk (fun j y hj hy => ?_)⟩
          by_cases e : j = kk
          · subst e
            obtain rfl := Option.some.inj (HX.out.symm.trans hy)
            exact hq
          · exact AS.out j y (by omega) hy
    · have hltz : ¬ (kk : Int) < (n : Int) := by omega
      have : kk = n := by omega
      subst this
      go_wp2
      go_ret
      refine ⟨?_, BW.out⟩
      rw [idxFrom_none p xs 0 (fun j y hy => AS.out j y (by have := (List.getElem?_eq_some_iff.1 hy).1; have := HN.out; omega) hy)]
      rfl

/-- slices.ContainsFunc over requirements. -/
theorem ContainsFunc_Req (A : Option Addr) (c : Nat) (xs : List S44) (p : S44 → Bool) (g : Nat) (lb : Array Value) (eg : ∀ args w, (callFunc g args).run Tryz.prog w = .ok (.enter g args) w) (w : World)
    (hr : Kd.C k44 w A xs.length xs)
    (hp : ∀ (j : Nat) (x : S44), xs[j]? = some x → ∀ (W : World), Below w.heap.size w W → ∀ cs, k44.K W x cs → Calls Tryz.prog g (#[.agg cs.toArray] ++ lb) W fun e w' => e = .returned (.bool (p x)) ∧ Below W.heap.size W w') :
    Calls Tryz.prog 42 #[.slice A xs.length c, .func (.func g) #[] lb] w fun e w' => e = .returned (.bool (xs.any p)) ∧ Below w.heap.size w w' := by
  have hcon := IndexFunc_Req A c xs p g lb eg w hr hp
  have hge : decide (idxFrom p 0 xs ≥ 0) = xs.any p := idxFrom_nonneg p xs 0
  generalize idxFrom p 0 xs = z at hcon hge
  rw [← hge]
  clear hge hr hp
  generalize xs.length = n at hcon ⊢
  go_enter Tryz.func42, Tryz.ntmps42
  go_wp2_with (go_at_call 55; refine hcon.mono ?_; rintro e w' ⟨rfl, hb'⟩)
  go_ret
  exact ⟨rfl, hb'⟩
set_option maxHeartbeats 2000000 in
/-- slices.IndexFunc over numbers. -/
theorem IndexFunc_Int (A : Option Addr) (c : Nat) (xs : List Int) (p : Int → Bool) (g : Nat) (lb : Array Value) (eg : ∀ args w, (callFunc g args).run Tryz.prog w = .ok (.enter g args) w) (w : World)
    (hr : Kd.C (Kd.int .i64) w A xs.length xs)
    (hp : ∀ (j : Nat) (x : Int), xs[j]? = some x → ∀ (W : World), Below w.heap.size w W → Calls Tryz.prog g (#[.int .i64 x] ++ lb) W fun e w' => e = .returned (.bool (p x)) ∧ Below W.heap.size W w') :
    Calls Tryz.prog 41 #[.slice A xs.length c, .func (.func g) #[] lb] w fun e w' => e = .returned (.int .i64 (idxFrom p 0 xs)) ∧ Below w.heap.size w w' := by
  obtain ⟨n, hn⟩ : ∃ n, n = xs.length := ⟨_, rfl⟩
  rw [← hn] at hr ⊢
  have hbig := hr.2.1
  have HN := Aside0.mk hn
  clear hn
  have HR := Aside0.mk hr
  clear hr
  go_enter Tryz.func41, Tryz.ntmps41
  go_wp2
  go_loopg [5, 8] n (fun gg _ s8 wr => ∃ kk : Nat, kk ≤ n ∧ n - kk ≤ gg ∧ s8 = .int .i64 kk ∧ Aside0 (Below w.heap.size w wr) ∧ Aside0 (∀ j y, j < kk → xs[j]? = some y → p y = false))
  case atStart => exact ⟨0, Nat.zero_le _, by omega, rfl, Aside0.mk (Below.refl _ w), Aside0.mk (fun j y hj => absurd hj (Nat.not_lt_zero _))⟩
  case round =>
    obtain ⟨kk, hkk, hg, rfl, BW, AS⟩ := hrel
    by_cases hlt : kk < n
    · have hltz : (kk : Int) < (n : Int) := by omega
      have HB := Kd.C_below HR.out BW.out
      obtain ⟨x, hx⟩ : ∃ x, xs[kk]? = some x := ⟨_, List.getElem?_eq_getElem (by have := HN.out; omega)⟩
      obtain ⟨ad, cs, hA, _, hK, hcell⟩ := Kd.C_get HB (0 : Int) (kk : Int) (by omega) (by omega)
      have hxe : xs.getD (kk : Int).toNat 0 = x := by
        rw [Int.toNat_natCast, List.getD_eq_getElem?_getD, hx]; rfl
      rw [hxe] at hK
      obtain rfl : cs = [.int .i64 x] := hK
      have h0 : wr.cell? (ad.add kk) = some (.int .i64 x) := by
        have := hcell 0 _ rfl
        rw [Int.toNat_natCast, show (Kd.int .i64).sz = 1 from rfl] at this
        simpa using this
      subst hA
      have hcall := hp kk x hx wr BW.out
      clear HB hxe hp hcell
      have HX := Aside0.mk hx
      clear hx
      cases hq : p x with
      | true =>
        rw [hq] at hcall
        go_wp2_with (go_at_fn g; refine hcall.mono ?_; rintro e w' ⟨rfl, hb'⟩)
        go_ret
        refine ⟨?_, below_step BW.out hb'⟩
        rw [idxFrom_at p xs 0 kk x HX.out hq AS.out, Nat.zero_add]
        rfl
      | false =>
        rw [hq] at hcall
        go_wp2_with (go_at_fn g; refine hcall.mono ?_; rintro e w' ⟨rfl, hb'⟩)
        go_roundg (n - (kk + 1))
        case measure => omega
        case rel =>
          refine ⟨kk + 1, by omega, by omega, by go_num, Aside0.mk (below_step BW.out hb'), Aside0.mk (fun j y hj hy => ?_)⟩
          by_cases e : j = kk
          · subst e
            obtain rfl := Option.some.inj (HX.out.symm.trans hy)
            exact hq
          · exact AS.out j y (by omega) hy
    · have hltz : ¬ (kk : Int) < (n : Int) := by omega
      have : kk = n := by omega
      subst this
      go_wp2
      go_ret
      refine ⟨?_, BW.out⟩
      rw [idxFrom_none p xs 0 (fun j y hy => AS.out j y (by have := (List.getElem?_eq_some_iff.1 hy).1; have := HN.out; omega) hy)]
      rfl

/-- slices.ContainsFunc over numbers. -/
theorem ContainsFunc_Int (A : Option Addr) (c : Nat) (xs : List Int) (p : Int → Bool) (g : Nat) (lb : Array Value) (eg : ∀ args w, (callFunc g args).run Tryz.prog w = .ok (.enter g args) w) (w : World)
    (hr : Kd.C (Kd.int .i64) w A xs.length xs)
    (hp : ∀ (j : Nat) (x : Int), xs[j]? = some x → ∀ (W : World), Below w.heap.size w W → Calls Tryz.prog g (#[.int .i64 x] ++ lb) W fun e w' => e = .returned (.bool (p x)) ∧ Below W.heap.size W w') :
    Calls Tryz.prog 25 #[.slice A xs.length c, .func (.func g) #[] lb] w fun e w' => e = .returned (.bool (xs.any p)) ∧ Below w.heap.size w w' := by
  have hcon := IndexFunc_Int A c xs p g lb eg w hr hp
  have hge : decide (idxFrom p 0 xs ≥ 0) = xs.any p := idxFrom_nonneg p xs 0
  generalize idxFrom p 0 xs = z at hcon hge
  rw [← hge]
  clear hge hr hp
  generalize xs.length = n at hcon ⊢
  go_enter Tryz.func25, Tryz.ntmps25
  go_wp2_with (go_at_call 41; refine hcon.mono ?_; rintro e w' ⟨rfl, hb'⟩)
  go_ret
  exact ⟨rfl, hb'⟩
end Go.Proofs.YtnfiigjignpkaaaGreatDoor

/- slices.Index and slices.Contains over numbers. -/
namespace Go.Proofs.YtnfiigjignpkaaaGreatDoor
open Go Go.RowKit Go.Sort Go.Proofs Go.Proofs.YtnfiigjignpkaaaGreatDoorW.PrintWords Go.Proofs.YtnfiigjignpkaaaGreatDoor.K0
set_option linter.unusedVariables false
set_option linter.unusedSimpArgs false

set_option maxHeartbeats 2000000 in
theorem Index_Int (A : Option Addr) (c : Nat) (xs : List Int) (z : Int) (w : World) (hr : Kd.C (Kd.int .i64) w A xs.length xs) :
    Calls Tryz.prog 54 #[.slice A xs.length c, .int .i64 z] w fun e w' => e = .returned (.int .i64 (idxFrom (fun y => decide (z = y)) 0 xs)) ∧ Below w.heap.size w w' := by
  obtain ⟨n, hn⟩ : ∃ n, n = xs.length := ⟨_, rfl⟩
  rw [← hn] at hr ⊢
  have hbig := hr.2.1
  have HN := Aside0.mk hn
  clear hn
  have HR := Aside0.mk hr
  clear hr
  go_enter Tryz.func54, Tryz.ntmps54
  go_wp2
  go_loopg [5, 8] n (fun gg _ s8 wr => ∃ kk : Nat, kk ≤ n ∧ n - kk ≤ gg ∧ s8 = .int .i64 kk ∧ Aside0 (Below w.heap.size w wr) ∧ Aside0 (∀ (j : Nat) (y : Int), j < kk → xs[j]? = some y → (decide (z = y)) = false))
  case atStart => exact ⟨0, Nat.zero_le _, by omega, rfl, Aside0.mk (Below.refl _ w), Aside0.mk (fun j y hj => absurd hj (Nat.not_lt_zero _))⟩
  case round =>
    obtain ⟨kk, hkk, hg, rfl, BW, AS⟩ := hrel
    by_cases hlt : kk < n
    · have hltz : (kk : Int) < (n : Int) := by omega
      have HB := Kd.C_below HR.out BW.out
      obtain ⟨x, hx⟩ : ∃ x, xs[kk]? = some x := ⟨_, List.getElem?_eq_getElem (by have := HN.out; omega)⟩
      obtain ⟨ad, cs, hA, _, hK, hcell⟩ := Kd.C_get HB (0 : Int) (kk : Int) (by omega) (by omega)
      have hxe : xs.getD (kk : Int).toNat 0 = x := by
        rw [Int.toNat_natCast, List.getD_eq_getElem?_getD, hx]; rfl
      rw [hxe] at hK
      obtain rfl : cs = [.int .i64 x] := hK
      have h0 : wr.cell? (ad.add kk) = some (.int .i64 x) := by
        have := hcell 0 _ rfl
        rw [Int.toNat_natCast, show (Kd.int .i64).sz = 1 from rfl] at this
        simpa using this
      subst hA
      clear HB hxe hcell
      have HX := Aside0.mk hx
      clear hx
      by_cases hq : z = x
      · subst hq
        go_wp2
        go_ret
        refine ⟨?_, by repeat (first | exact BW.out | apply pw_below_drewN | apply below_drew1)⟩
        rw [idxFrom_at (fun y => decide (z = y)) xs 0 kk z HX.out (by simp) AS.out, Nat.zero_add]
        rfl
      · go_wp2
        go_roundg (n - (kk + 1))
        case measure => omega
        case rel =>
          refine ⟨kk + 1, by omega, by omega, by go_num, Aside0.mk (by repeat (first | exact BW.out | apply pw_below_drewN | apply below_drew1)), Aside0.mk (fun j y hj hy => ?_)⟩
          by_cases e : j = kk
          · subst e
            obtain rfl := Option.some.inj (HX.out.symm.trans hy)
            exact decide_eq_false hq
          · exact AS.out j y (by omega) hy
    · have hltz : ¬ (kk : Int) < (n : Int) := by omega
      have : kk = n := by omega
      subst this
      go_wp2
      go_ret
      refine ⟨?_, by repeat (first | exact BW.out | apply pw_below_drewN | apply below_drew1)⟩
      rw [idxFrom_none (fun y => decide (z = y)) xs 0 (fun j y hy => AS.out j y (by have := (List.getElem?_eq_some_iff.1 hy).1; have := HN.out; omega) hy)]
      rfl

theorem Contains_Int (A : Option Addr) (c : Nat) (xs : List Int) (z : Int) (w : World) (hr : Kd.C (Kd.int .i64) w A xs.length xs) :
    Calls Tryz.prog 39 #[.slice A xs.length c, .int .i64 z] w fun e w' => e = .returned (.bool (xs.contains z)) ∧ Below w.heap.size w w' := by
  have hcon := Index_Int A c xs z w hr
  have hge : decide (idxFrom (fun y => decide (z = y)) 0 xs ≥ 0) = xs.contains z := by
    rw [idxFrom_nonneg]
    rw [Bool.eq_iff_iff]
    simp
  generalize idxFrom (fun y => decide (z = y)) 0 xs = q at hcon hge
  rw [← hge]
  clear hge hr
  generalize xs.length = n at hcon ⊢
  go_enter Tryz.func39, Tryz.ntmps39
  go_wp2_with (go_at_call 54; refine hcon.mono ?_; rintro e w' ⟨rfl, hb'⟩)
  go_ret
  exact ⟨rfl, by repeat (first | exact hb' | apply pw_below_drewN | apply below_drew1)⟩
end Go.Proofs.YtnfiigjignpkaaaGreatDoor

/- graph.edges: whom a module requires. -/
namespace Go.Proofs.YtnfiigjignpkaaaGreatDoor
open Go Go.RowKit Go.Sort Go.Proofs Go.Proofs.YtnfiigjignpkaaaGreatDoorW.PrintWords Go.Proofs.YtnfiigjignpkaaaGreatDoor.K0
set_option linter.unusedVariables false
set_option linter.unusedSimpArgs false

theorem edges_clo (B : Nat) (path : ByteArray) (a b c : Int) (s p q : ByteArray) (W : World) (h : W.cell? ⟨B, 1, none⟩ = some (.string path)) :
    Calls Tryz.prog 43 #[.agg #[.string s, .int .i64 a, .int .i64 b, .int .i64 c, .string p, .string q], .pointer (some ⟨B, 0, none⟩)] W fun e w' => e = .returned (.bool (s.toList == path.toList)) ∧ Below W.heap.size W w' := by
  have hlt : B < W.heap.size := World.block_lt_of_cell? W _ h
  have h2 : ∀ o, (W.alloc o).cell? ⟨B, 1, none⟩ = some (.string path) := fun o => (World.cell?_alloc_old W o _ (show B ≠ W.heap.size by omega)).trans h
  clear hlt
  go_enter Tryz.func43, Tryz.ntmps43
  go_wp2
  go_ret
  exact ⟨rfl, by repeat (first | exact Below.refl _ _ | apply below_alloc | apply pw_below_drewN | apply below_drew1)⟩

/-- Does a module require a path? -/
def needs (x : S40) (path : ByteArray) : Bool := x.f2.any fun r => r.f0.data.toList == path.data.toList
def edgesFrom (x : S40) : Nat → List S40 → List Int
  | _, [] => []
  | k, m :: l => if needs x m.f1 = true then (k : Int) :: edgesFrom x (k + 1) l else edgesFrom x (k + 1) l
theorem needs_call (A : Option Addr) (c : Nat) (x : S40) (path : ByteArray) (B : Nat) (w : World) (hr : Kd.C k44 w A x.f2.length x.f2) (h : w.cell? ⟨B, 1, none⟩ = some (.string path)) :
    Calls Tryz.prog 42 #[.slice A x.f2.length c, .func (.func 43) #[] #[.pointer (some ⟨B, 0, none⟩)]] w fun e w' => e = .returned (.bool (needs x path)) ∧ Below w.heap.size w w' := by
  refine ContainsFunc_Req A c x.f2 (fun r => r.f0.data.toList == path.data.toList) 43 _ (enters_of Tryz.func43 (by kernel_rfl) rfl) w hr ?_
  intro j r _ W hb cs hK
  obtain rfl := k44_open hK
  rw [← ByteArray.toList_eq, ← ByteArray.toList_eq]
  exact edges_clo B path _ _ _ _ _ _ W ((hb.cell (p := ⟨B, 1, none⟩) (World.block_lt_of_cell? w _ h)).trans h)

theorem edgesFrom_at (x : S40) : ∀ (k : Nat) (l : List S40) (m : S40) (rest : List S40), l = m :: rest → edgesFrom x k l = (if needs x m.f1 = true then [(k : Int)] else []) ++ edgesFrom x (k + 1) rest
  | k, _, m, rest, rfl => by
    show (if needs x m.f1 = true then (k : Int) :: edgesFrom x (k + 1) rest else edgesFrom x (k + 1) rest) = _
    split <;> rfl
theorem edgesFrom_len (x : S40) : ∀ (k : Nat) (l : List S40), (edgesFrom x k l).length ≤ l.length
  | _, [] => Nat.le_refl _
  | k, m :: l => by
    have := edgesFrom_len x (k + 1) l
    unfold edgesFrom
    split <;> simp <;> omega
end Go.Proofs.YtnfiigjignpkaaaGreatDoor

/- graph.edges: the walk. -/
namespace Go.Proofs.YtnfiigjignpkaaaGreatDoor
open Go Go.RowKit Go.Sort Go.Proofs Go.Proofs.YtnfiigjignpkaaaGreatDoorW.PrintWords Go.Proofs.YtnfiigjignpkaaaGreatDoor.K0
set_option linter.unusedVariables false
set_option linter.unusedSimpArgs false

set_option maxRecDepth 100000 in
set_option maxHeartbeats 4000000 in
theorem edges_calls (A : Option Addr) (c : Nat) (xs : List S40) (i : Nat) (x : S40) (w : World) (hr : Kd.C k40 w A xs.length xs) (hx : xs[i]? = some x) (hl : xs.length ≤ 4294967290) :
    Calls Tryz.prog 26 #[.slice A xs.length c, .int .i64 i] w fun e w' => ∃ v0_ : Value, e = .returned v0_ ∧ Kd.R (Kd.int .i64) 3 w' w.heap.size (fun _ => True) v0_ (edgesFrom x 0 xs) ∧ Below w.heap.size w w' := by
  obtain ⟨n, hn⟩ : ∃ n, n = xs.length := ⟨_, rfl⟩
  rw [← hn] at hr hl ⊢
  have HN := Aside0.mk hn
  clear hn
  have HR := Aside0.mk hr
  have HX := Aside0.mk hx
  clear hr hx
  go_enter Tryz.func26, Tryz.ntmps26
  go_wp2
  go_loopg [5, 10] n (fun gg v5 v10 wr => ∃ (kk : Nat) (acc : List Int), kk ≤ n ∧ n - kk ≤ gg ∧ v10 = .int .i64 kk ∧ Aside0 (acc ++ edgesFrom x kk (xs.drop kk) = edgesFrom x 0 xs) ∧ Aside0 (Kd.R (Kd.int .i64) 3 wr w.heap.size (fun _ => True) v5 acc) ∧ Aside0 (Below w.heap.size w wr))
  case atStart => exact ⟨0, [], Nat.zero_le _, by omega, rfl, Aside0.mk (by simp), Aside0.mk (Kd.R_nil _ _ _ _ _), Aside0.mk (Below.refl _ w)⟩
  case round =>
    obtain ⟨kk, acc, hkk, hg, rfl, HE, HO, HB⟩ := hrel
    by_cases hlt : kk < n
    · have hltz : (kk : Int) < (n : Int) := by omega
      have HR1 := Kd.C_below HR.out HB.out
      obtain ⟨m, hm⟩ : ∃ m, xs[kk]? = some m := ⟨_, List.getElem?_eq_getElem (by have := HN.out; omega)⟩
      have hi : i < n := by have := (List.getElem?_eq_some_iff.1 HX.out).1; have := HN.out; omega
      have hiz : (i : Int) < (n : Int) := by omega
      have hme : rd_T40 xs (kk : Int) = m := by
        unfold rd_T40
        rw [Int.toNat_natCast, List.getD_eq_getElem?_getD, hm]; rfl
      have hxe : rd_T40 xs (i : Int) = x := by
        unfold rd_T40
        rw [Int.toNat_natCast, List.getD_eq_getElem?_getD, HX.out]; rfl
      obtain ⟨ad, A2, c2, hA, h0, h1, h2, hc2, hC2⟩ := at_T40 HR1 (kk : Int) (by omega) (by omega)
      obtain ⟨ad', Ai, ci, hA', g0, g1, g2, gc, gC⟩ := at_T40 HR1 (i : Int) (by omega) (by omega)
      obtain rfl : ad = ad' := by rw [hA] at hA'; injection hA'
      subst hA
      rw [hme] at h0 h1 h2 hc2 hC2
      rw [hxe] at g0 g1 g2 gc gC
      rw [Int.toNat_natCast] at h0 h1 h2 g0 g1 g2
      have HGC := Aside0.mk gC
      have HM := Aside0.mk hm
      clear HR1 hme hxe hA' gC hm hC2
      have hbi : (ad.add (i * 3)).block < wr.heap.size := World.block_lt_of_cell? _ (ad.add (i * 3)) g0
      have g2' : ∀ o, (wr.alloc o).cell? ⟨(ad.add (i * 3)).block, (ad.add (i * 3)).off + 2, none⟩ = some (.slice Ai x.f2.length ci) := fun o => (World.cell?_alloc_old wr o ⟨(ad.add (i * 3)).block, (ad.add (i * 3)).off + 2, none⟩ (show (ad.add (i * 3)).block ≠ wr.heap.size by omega)).trans g2
      have hmf : ∀ (fn : Fn) (first cap : Array Value) (w : World), (Instr.makeFunc fn first cap).run Tryz.prog w = .ok (.func fn first cap) w := fun _ _ _ _ => rfl
      have hC : Calls Tryz.prog 42 #[.slice Ai x.f2.length ci, .func (.func 43) #[] #[.pointer (some ⟨wr.heap.size, 0, none⟩)]] (wr.alloc (.cells #[.string m.f0, .string m.f1, .slice A2 m.f2.length c2] 40)) fun e w' => e = .returned (.bool (needs x m.f1)) ∧ Below (wr.alloc (.cells #[.string m.f0, .string m.f1, .slice A2 m.f2.length c2] 40)).heap.size (wr.alloc (.cells #[.string m.f0, .string m.f1, .slice A2 m.f2.length c2] 40)) w' :=
        needs_call Ai ci x m.f1 wr.heap.size _ (Kd.C_alloc HGC.out _) (by unfold World.cell?; rw [heap_alloc_new]; rfl)
      have hdrop : xs.drop kk = m :: xs.drop (kk + 1) := by
        obtain ⟨h, e⟩ := List.getElem?_eq_some_iff.1 HM.out
        rw [List.drop_eq_getElem_cons h, e]
      have hE := HE.out
      rw [edgesFrom_at x kk _ m _ hdrop, ← List.append_assoc] at hE
      have HLE : Aside0 (acc.length ≤ 4294967290) := ⟨by
        have h := congrArg List.length hE
        have h2 := edgesFrom_len x 0 xs
        simp only [List.length_append] at h
        have := HN.out
        omega⟩
      clear hdrop
      cases hq : needs x m.f1 with
      | true =>
        rw [hq] at hC hE
        rw [if_pos rfl] at hE
        have HE1 := Aside0.mk hE
        clear hE hq
        go_wp2_with (first | (go_at_call 42; refine hC.mono ?_; rintro e w' ⟨rfl, hb'⟩; have HB1 := Aside0.mk (below_step (below_alloc HB.out _) hb'); have HO1 := Aside0.mk (Kd.R_below (Kd.R_alloc HO.out _) hb'); clear hb') | ((with_reducible refine gate_builtin (b := .append) (xs := #[.tmp 22, .tmp 24]) rfl ?_); at_builtin; refine Kd.R_append (Kd.int .i64) (w0 := w) w.heap.size rfl (.tmp 22) (.tmp 24) 23 3 (.int .i64 0) 8 rfl Tryz.underlying23 info3 rfl (by decide) (by decide) u5 acc (kk : Int) [.int .i64 kk] (fun _ => True) (fun _ => False) rfl rfl ?aP (fun _ hk => hk.elim) ?aF ?aO ?aB ?aS ?aL ?_; (case aP => exact rfl); (case aB => exact HB1.out); (case aF => exact (fun _ _ => trivial)); (case aO => exact HO1.out); (case aS => exact below_size HB1.out); (case aL => have := HLE.out; omega); intro v103 w9 ho hb hg hat; have HO2 := Aside0.mk ho; have HB2 := Aside0.mk hb; clear ho hb hg hat HB1 HO1))
        go_roundg (n - (kk + 1))
        case measure => omega
        case rel => exact ⟨kk + 1, acc ++ [(kk : Int)], by omega, by omega, by go_num, HE1, HO2, HB2⟩
      | false =>
        rw [hq] at hC hE
        rw [if_neg (by simp)] at hE
        have HE1 := Aside0.mk hE
        clear hE hq
        go_wp2_with (go_at_call 42; refine hC.mono ?_; rintro e w' ⟨rfl, hb'⟩)
        go_roundg (n - (kk + 1))
        case measure => omega
        case rel => exact ⟨kk + 1, acc, by omega, by omega, by go_num, ⟨by simpa using HE1.out⟩, ⟨Kd.R_below (Kd.R_alloc HO.out _) hb'⟩, ⟨below_step (below_alloc HB.out _) hb'⟩⟩
    · have hltz : ¬ (kk : Int) < (n : Int) := by omega
      go_wp2
      go_ret
      exact ⟨_, rfl, by have h := HE.out; rw [List.drop_eq_nil_of_le (by have := HN.out; omega)] at h; rw [show edgesFrom x 0 xs = acc from by rw [← h]; simp [edgesFrom]]; exact HO.out, HB.out⟩
end Go.Proofs.YtnfiigjignpkaaaGreatDoor
