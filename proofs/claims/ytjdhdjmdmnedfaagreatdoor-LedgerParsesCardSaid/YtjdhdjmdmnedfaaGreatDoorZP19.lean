/- The texts Wrong, Clone, R5x0 in one file, without what these claims do not use (put together by prune2.py). -/
import Derived.Test.YtjdhdjmdmnedfaaGreatDoorZP9
import Derived.Test.YtjdhdjmdmnedfaaGreatDoorZP15
import Derived.Test.YtjdhdjmdmnedfaaGreatDoorZP18
import Derived.Shelf.Abstract
import Derived.Test.YtjdhdjmdmnedfaaGreatDoorZP4
import Derived.Lib.SliceRun
import Derived.Test.YtjdhdjmdmnedfaaGreatDoorZP6
import Derived.Test.YtjdhdjmdmnedfaaGreatDoorZP12
import Derived.Test.YtjdhdjmdmnedfaaGreatDoorZP17
section
namespace Go.Proofs.YtjdhdjmdmnedfaaGreatDoor
open Go Go.RowKit Go.Sort Go.Proofs Go.Proofs.YtjdhdjmdmnedfaaGreatDoorW.PrintWords Go.Proofs.YtjdhdjmdmnedfaaGreatDoor.K0 Go.Proofs.YtjdhdjmdmnedfaaGreatDoor.R1 Go.Proofs.YtjdhdjmdmnedfaaGreatDoor.R2 Go.Proofs.YtjdhdjmdmnedfaaGreatDoor.R3 Go.Proofs.YtjdhdjmdmnedfaaGreatDoor.R4
set_option linter.unusedVariables false
set_option linter.unusedSimpArgs false
/-- The first place of which p holds, or -1. -/
def idxFrom {α : Type} (p : α → Bool) : Nat → List α → Int
  | _, [] => -1
  | n, x :: l => if p x = true then (n : Int) else idxFrom p (n + 1) l
theorem idxFrom_at {α : Type} (p : α → Bool) : ∀ (l : List α) (n k : Nat) (x : α), l[k]? = some x → p x = true → (∀ j y, j < k → l[j]? = some y → p y = false) → idxFrom p n l = ((n + k : Nat) : Int)
  | [], n, k, x, h, _, _ => by simp at h
  | y :: l, n, 0, x, h, hp, _ => by
    obtain rfl : y = x := by simpa using h
    simp [idxFrom, hp]
  | y :: l, n, k + 1, x, h, hp, hn => by
    have hy := hn 0 y (by omega) rfl
    unfold idxFrom
    rw [if_neg (by rw [hy]; simp), idxFrom_at p l (n + 1) k x (by simpa using h) hp (fun j z hj hz => hn (j + 1) z (by omega) (by simpa using hz))]
    congr 1; omega
theorem idxFrom_none {α : Type} (p : α → Bool) : ∀ (l : List α) (n : Nat), (∀ (j : Nat) (y : α), l[j]? = some y → p y = false) → idxFrom p n l = -1
  | [], n, _ => rfl
  | y :: l, n, hn => by
    have hy := hn 0 y rfl
    unfold idxFrom
    rw [if_neg (by rw [hy]; simp)]
    exact idxFrom_none p l (n + 1) (fun j z hz => hn (j + 1) z (by simpa using hz))
theorem idxFrom_nonneg {α : Type} (p : α → Bool) : ∀ (l : List α) (n : Nat), decide (idxFrom p n l ≥ 0) = l.any p
  | [], n => rfl
  | y :: l, n => by
    unfold idxFrom
    cases h : p y
    · simp [h, idxFrom_nonneg p l (n + 1)]
    · simp [h]
set_option maxHeartbeats 2000000 in
/-- slices.IndexFunc over tags. -/
theorem IndexFunc_Tag (A : Option Addr) (c : Nat) (xs : List S32) (p : S32 → Bool) (g : Nat) (lb : Array Value) (eg : ∀ args w, (callFunc g args).run Tryz.prog w = .ok (.enter g args) w) (w : World)
    (hr : Kd.C k32 w A xs.length xs)
    (hp : ∀ (j : Nat) (x : S32), xs[j]? = some x → ∀ (W : World), Below w.heap.size w W → ∀ cs, k32.K W x cs → Calls Tryz.prog g (#[.agg cs.toArray] ++ lb) W fun e w' => e = .returned (.bool (p x)) ∧ Below W.heap.size W w') :
    Calls Tryz.prog 66 #[.slice A xs.length c, .func (.func g) #[] lb] w fun e w' => e = .returned (.int .i64 (idxFrom p 0 xs)) ∧ Below w.heap.size w w' := by
  obtain ⟨n, hn⟩ : ∃ n, n = xs.length := ⟨_, rfl⟩
  rw [← hn] at hr ⊢
  have hbig := hr.2.1
  have HN := Aside0.mk hn
  clear hn
  have HR := Aside0.mk hr
  clear hr
  go_enter Tryz.func66, Tryz.ntmps66
  go_wp2
  go_loopg [5, 8] n (fun gg _ s8 wr => ∃ kk : Nat, kk ≤ n ∧ n - kk ≤ gg ∧ s8 = .int .i64 kk ∧ Aside0 (Below w.heap.size w wr) ∧ Aside0 (∀ j y, j < kk → xs[j]? = some y → p y = false))
  case atStart => exact ⟨0, Nat.zero_le _, by omega, rfl, Aside0.mk (Below.refl _ w), Aside0.mk (fun j y hj => absurd hj (Nat.not_lt_zero _))⟩
  case round =>
    obtain ⟨kk, hkk, hg, rfl, BW, AS⟩ := hrel
    by_cases hlt : kk < n
    · have hltz : (kk : Int) < (n : Int) := by omega
      have HB := Kd.C_below HR.out BW.out
      obtain ⟨x, hx⟩ : ∃ x, xs[kk]? = some x := ⟨_, List.getElem?_eq_getElem (by have := HN.out; omega)⟩
      have hxe : rd_T32 xs (kk : Int) = x := by
        unfold rd_T32
        rw [Int.toNat_natCast, List.getD_eq_getElem?_getD, hx]; rfl
      obtain ⟨ad, hA, h0, h1, h2, h3, h4, h5, h6⟩ := at_T32 HB (kk : Int) (by omega) (by omega)
      rw [hxe] at h0 h1 h2 h3 h4 h5 h6
      subst hA
      have hcall := hp kk x hx wr BW.out _ (k32_mk wr x)
      clear HB hxe hp
      have HX := Aside0.mk hx
      clear hx
      rw [Int.toNat_natCast] at h0 h1 h2 h3 h4 h5 h6
      cases hq : p x with
      | true =>
        rw [hq] at hcall
        go_wp2_with (go_at_fn g; refine hcall.mono ?_; rintro e w' ⟨rfl, hb'⟩)
        go_ret
        refine ⟨?_, below_step BW.out hb'⟩
        rw [idxFrom_at p xs 0 kk x HX.out hq AS.out, Nat.zero_add]
        rfl
      | false =>
        rw [hq] at hcall
        go_wp2_with (go_at_fn g; refine hcall.mono ?_; rintro e w' ⟨rfl, hb'⟩)
        go_roundg (n - (kk + 1))
        case measure => omega
        case rel =>
          refine ⟨kk + 1, by omega, by omega, by go_num, Aside0.mk (below_step BW.out hb'), Aside0.mk (fun j y hj hy => ?_)⟩
          by_cases e : j = kk
          · subst e
            obtain rfl := Option.some.inj (HX.out.symm.trans hy)
            exact hq
          · exact AS.out j y (by omega) hy
    · have hltz : ¬ (kk : Int) < (n : Int) := by omega
      have : kk = n := by omega
      subst this
      go_wp2
      go_ret
      refine ⟨?_, BW.out⟩
      rw [idxFrom_none p xs 0 (fun j y hy => AS.out j y (by have := (List.getElem?_eq_some_iff.1 hy).1; have := HN.out; omega) hy)]
      rfl
/-- slices.ContainsFunc over tags. -/
theorem ContainsFunc_Tag (A : Option Addr) (c : Nat) (xs : List S32) (p : S32 → Bool) (g : Nat) (lb : Array Value) (eg : ∀ args w, (callFunc g args).run Tryz.prog w = .ok (.enter g args) w) (w : World)
    (hr : Kd.C k32 w A xs.length xs)
    (hp : ∀ (j : Nat) (x : S32), xs[j]? = some x → ∀ (W : World), Below w.heap.size w W → ∀ cs, k32.K W x cs → Calls Tryz.prog g (#[.agg cs.toArray] ++ lb) W fun e w' => e = .returned (.bool (p x)) ∧ Below W.heap.size W w') :
    Calls Tryz.prog 36 #[.slice A xs.length c, .func (.func g) #[] lb] w fun e w' => e = .returned (.bool (xs.any p)) ∧ Below w.heap.size w w' := by
  have hcon := IndexFunc_Tag A c xs p g lb eg w hr hp
  have hge : decide (idxFrom p 0 xs ≥ 0) = xs.any p := idxFrom_nonneg p xs 0
  generalize idxFrom p 0 xs = z at hcon hge
  rw [← hge]
  clear hge hr hp
  generalize xs.length = n at hcon ⊢
  go_enter Tryz.func36, Tryz.ntmps36
  go_wp2_with (go_at_call 66; refine hcon.mono ?_; rintro e w' ⟨rfl, hb'⟩)
  go_ret
  exact ⟨rfl, hb'⟩
theorem mcheck_calls (s : ByteArray) (w : World) (hG : GW w) : Calls Tryz.prog 32 #[.string s] w fun e w' => e = .returned (.bool (checkOk s)) ∧ Below w.heap.size w w' :=
  mpath_Check.calls 101 s _ w hG (mpath_Check_f s 101 (by decide))
theorem mfits_calls (s : ByteArray) (a b c : Int) (p q : ByteArray) (w : World) (hG : GW w) : Calls Tryz.prog 34 #[.string s, .agg #[.int .i64 a, .int .i64 b, .int .i64 c, .string p, .string q]] w fun e w' => e = .returned (.bool (fitsOk s a b c p q)) ∧ Below w.heap.size w w' :=
  mpath_Fits.calls 101 s a b c p q _ w hG (mpath_Fits_f s a b c p q 101 (by decide))
theorem vcheck_calls (a b c : Int) (p q : ByteArray) (w : World) : Calls Tryz.prog 33 #[.agg #[.int .i64 a, .int .i64 b, .int .i64 c, .string p, .string q]] w fun e w' => e = .returned (.bool (verOk a b c p q)) ∧ Below w.heap.size w w' :=
  ver_Check.calls 101 a b c p q _ w (ver_Check_f a b c p q 101 (by decide))
theorem isHash_f (s : ByteArray) (hs : s.size ≤ 140737488355328) : tree_IsHash.f s = some (hashOk s.data.toList) := by
  unfold tree_IsHash.f strings_CutPrefix.f hashOk
  simp only [Option.bind_some]
  by_cases h : Lib.hasPrefix s.data.toList (⟨#[104, 49, 58]⟩ : ByteArray).data.toList = true
  · have h' : Lib.hasPrefix s.data.toList [104, 49, 58] = true := h
    have e : s.data.toList.take 3 = [104, 49, 58] := by
      unfold Lib.hasPrefix at h'
      have := List.prefix_iff_eq_take.1 (List.isPrefixOf_iff_prefix.1 h')
      exact this.symm
    have e2 : Lib.trimPrefix s.data.toList (⟨#[104, 49, 58]⟩ : ByteArray).data.toList = s.data.toList.drop 3 := by
      show Lib.trimPrefix s.data.toList [104, 49, 58] = _
      unfold Lib.trimPrefix
      rw [if_pos h']; rfl
    rw [if_pos h, e, e2]
    have hsz : (⟨(s.data.toList.drop 3).toArray⟩ : ByteArray).size ≤ 140737488355328 := by
      rw [Lib.size_eq] at hs ⊢
      simp only [List.length_drop]; omega
    unfold b64_Decode.f
    rw [if_pos hsz]
    simp only [Option.bind_some]
    cases hd : decOf (s.data.toList.drop 3) with
    | none => simp
    | some d =>
      simp only [Option.isSome, outD, if_true]
      have : ((ba d).size : Int) = (d.length : Int) := by rw [ba_size]
      rw [this]
      simp only [beq_self_eq_true, Bool.true_and]
      by_cases hl : d.length = 32
      · simp [hl]
      · have : ¬ ((d.length : Int) = 32) := by omega
        rw [beq_eq_false_iff_ne.2 this, beq_eq_false_iff_ne.2 hl]
  · have h' : ¬ Lib.hasPrefix s.data.toList [104, 49, 58] = true := h
    have e : ¬ s.data.toList.take 3 = [104, 49, 58] := fun e => h' (by
      unfold Lib.hasPrefix
      rw [List.isPrefixOf_iff_prefix, List.prefix_iff_eq_take]
      exact e.symm)
    rw [if_neg h]
    have : (s.data.toList.take 3 == [104, 49, 58]) = false := by simpa using e
    rw [this]; rfl
theorem isHash_calls (s : ByteArray) (hs : s.size ≤ 140737488355328) (w : World) : Calls Tryz.prog 35 #[.string s] w fun e w' => e = .returned (.bool (hashOk s.data.toList)) ∧ Below w.heap.size w w' :=
  tree_IsHash.calls s _ w (isHash_f s hs)
theorem compare_f (a b c : Int) (p q : ByteArray) (a2 b2 c2 : Int) (p2 q2 : ByteArray) (k : Nat) (hk : 101 < k) : ver_Compare.f k a b c p q a2 b2 c2 p2 q2 = some (verCmp a b c p q a2 b2 c2 p2 q2) := by
  obtain ⟨k, rfl⟩ : ∃ m, k = m + 1 := ⟨k - 1, by omega⟩
  unfold ver_Compare.f verCmp
  rw [ver_Check_f a b c p q (k + 1) (by omega), ver_Check_f a2 b2 c2 p2 q2 (k + 1) (by omega)]
  simp only [Option.bind_some, ver_Compare.j0, cmpInt_f]
  by_cases h1 : verOk a b c p q = true
  · by_cases h2 : verOk a2 b2 c2 p2 q2 = true
    · have s1 := (verIs h1).hp
      have s2 := (verIs h2).hp
      have hb : ver_byPre.f p p2 = some (preCmp p.data.toList p2.data.toList) := by
        unfold ver_byPre.f
        rw [if_pos (by omega), if_pos (by omega)]
      rw [hb]
      simp only [Option.bind_some]
      rw [or_f _ (by simp) k (by omega)]
      simp [h1, h2, orAll, orr_zero]
    · simp [h1, h2]
  · simp [h1]
theorem compare_calls (a b c : Int) (p q : ByteArray) (a2 b2 c2 : Int) (p2 q2 : ByteArray) (w : World) (hG : GW w) :
    Calls Tryz.prog 26 #[.agg #[.int .i64 a, .int .i64 b, .int .i64 c, .string p, .string q], .agg #[.int .i64 a2, .int .i64 b2, .int .i64 c2, .string p2, .string q2]] w fun e w' => e = .returned (.int .i64 (verCmp a b c p q a2 b2 c2 p2 q2)) ∧ Below w.heap.size w w' :=
  ver_Compare.calls 102 a b c p q a2 b2 c2 p2 q2 _ w hG (compare_f _ _ _ _ _ _ _ _ _ _ 102 (by decide))
abbrev tcells (t : Tg) : List Value := [.string t.f0, .int .i64 t.f1.f0, .int .i64 t.f1.f1, .int .i64 t.f1.f2, .string t.f1.f3, .string t.f1.f4, .string t.f2]
theorem cell_of_heap {W : World} {B : Nat} {cs : Array Value} {t : TypeId} (h : W.heap[B]? = some (.cells cs t (0, 0))) (k : Nat) : W.cell? ⟨B, k, none⟩ = cs[k]? := by
  unfold World.cell?
  simp only [h]
  simp
set_option maxRecDepth 100000 in
set_option maxHeartbeats 2000000 in
theorem late_calls (t x : Tg) (B : Nat) (w : World) (hB : w.heap[B]? = some (.cells (tcells t).toArray 32 (0, 0))) (hG : GW w) :
    Calls Tryz.prog 31 #[.agg #[.string x.f0, .int .i64 x.f1.f0, .int .i64 x.f1.f1, .int .i64 x.f1.f2, .string x.f1.f3, .string x.f1.f4, .string x.f2], .pointer (some ⟨B, 0, none⟩)] w fun e w' => e = .returned (.bool (late t x)) ∧ Below w.heap.size w w' := by
  have hlt : B < w.heap.size := (Array.getElem?_eq_some_iff.1 hB).1
  have hB2 : (w.alloc (.cells #[.string x.f0, .int .i64 x.f1.f0, .int .i64 x.f1.f1, .int .i64 x.f1.f2, .string x.f1.f3, .string x.f1.f4, .string x.f2] 32)).heap[B]? = some (.cells (tcells t).toArray 32 (0, 0)) := by
    rw [Below.heap_alloc _ _ _ hlt]; exact hB
  have c0 := cell_of_heap hB2 0
  have c1 := cell_of_heap hB2 1
  have c2 := cell_of_heap hB2 2
  have c3 := cell_of_heap hB2 3
  have c4 := cell_of_heap hB2 4
  have c5 := cell_of_heap hB2 5
  replace c0 : _ = some (Value.string t.f0) := c0
  replace c1 : _ = some (Value.int .i64 t.f1.f0) := c1
  replace c2 : _ = some (Value.int .i64 t.f1.f1) := c2
  replace c3 : _ = some (Value.int .i64 t.f1.f2) := c3
  replace c4 : _ = some (Value.string t.f1.f3) := c4
  replace c5 : _ = some (Value.string t.f1.f4) := c5
  have hcmp := fun W (h : Below (w.alloc (.cells #[.string x.f0, .int .i64 x.f1.f0, .int .i64 x.f1.f1, .int .i64 x.f1.f2, .string x.f1.f3, .string x.f1.f4, .string x.f2] 32)).heap.size (w.alloc (.cells #[.string x.f0, .int .i64 x.f1.f0, .int .i64 x.f1.f1, .int .i64 x.f1.f2, .string x.f1.f3, .string x.f1.f4, .string x.f2] 32)) W) => compare_calls x.f1.f0 x.f1.f1 x.f1.f2 x.f1.f3 x.f1.f4 t.f1.f0 t.f1.f1 t.f1.f2 t.f1.f3 t.f1.f4 W (hG.below (below_step (below_alloc (Below.refl _ _) _) h))
  have hl : late t x = (decide (x.f0 = t.f0) && decide (0 ≤ verCmp x.f1.f0 x.f1.f1 x.f1.f2 x.f1.f3 x.f1.f4 t.f1.f0 t.f1.f1 t.f1.f2 t.f1.f3 t.f1.f4)) := rfl
  have HC := Aside0.mk hcmp
  clear hcmp hB hB2
  rw [hl]
  clear hl
  generalize verCmp x.f1.f0 x.f1.f1 x.f1.f2 x.f1.f3 x.f1.f4 t.f1.f0 t.f1.f1 t.f1.f2 t.f1.f3 t.f1.f4 = z at HC ⊢
  by_cases hp : x.f0 = t.f0
  · have hp1 : x.f0.toList = t.f0.toList := by rw [hp]
    rw [decide_eq_true hp, Bool.true_and]
    clear hp
    by_cases hz : 0 ≤ z
    · rw [decide_eq_true hz]
      have hzd : decide (0 ≤ z) = true := decide_eq_true hz
      clear hz
      go_enter Tryz.func31, Tryz.ntmps31
      go_wp2_with (go_at_call 26; (with_reducible refine (HC.out _ (Below.refl _ _)).mono ?_); rintro e w2 ⟨rfl, hb⟩; have HB := Aside0.mk (below_step (below_alloc (Below.refl _ _) _) hb); clear hb)
      go_ret
      exact ⟨rfl, HB.out⟩
    · rw [decide_eq_false hz]
      have hzd : decide (0 ≤ z) = false := decide_eq_false hz
      clear hz
      go_enter Tryz.func31, Tryz.ntmps31
      go_wp2_with (go_at_call 26; (with_reducible refine (HC.out _ (Below.refl _ _)).mono ?_); rintro e w2 ⟨rfl, hb⟩; have HB := Aside0.mk (below_step (below_alloc (Below.refl _ _) _) hb); clear hb)
      go_ret
      exact ⟨rfl, HB.out⟩
  · have hp1 : ¬ x.f0.toList = t.f0.toList := fun e => hp (by_data (by rw [← ByteArray.toList_eq, ← ByteArray.toList_eq]; exact e))
    rw [decide_eq_false hp, Bool.false_and]
    clear hp
    go_enter Tryz.func31, Tryz.ntmps31
    go_wp2
    go_ret
    exact ⟨rfl, below_alloc (Below.refl _ _) _⟩
theorem tag_eta (t : Tg) : (⟨t.f0, ⟨t.f1.f0, t.f1.f1, t.f1.f2, t.f1.f3, t.f1.f4⟩, t.f2⟩ : Tg) = t := by cases t; rfl
set_option maxRecDepth 100000 in
set_option maxHeartbeats 4000000 in
theorem wrong_calls (A : Option Addr) (c : Nat) (l : List Tg) (t : Tg) (w : World) (hG : GW w) (hr : Kd.C k32 w A l.length l) (hs : t.f2.size ≤ 140737488355328) :
    Calls Tryz.prog 18 #[.slice A l.length c, .agg #[.string t.f0, .int .i64 t.f1.f0, .int .i64 t.f1.f1, .int .i64 t.f1.f2, .string t.f1.f3, .string t.f1.f4, .string t.f2]] w fun e w' => e = .returned (.int .i64 (wrongT l t)) ∧ Below w.heap.size w w' := by
  have hbox : (w.alloc (.cells (tcells t).toArray 32)).heap[w.heap.size]? = some (.cells (tcells t).toArray 32 (0, 0)) := heap_alloc_new w _
  have H0 : Below w.heap.size w (w.alloc (.cells (tcells t).toArray 32)) := below_alloc (Below.refl _ _) _
  have hbx : ∀ W, Below (w.alloc (.cells (tcells t).toArray 32)).heap.size (w.alloc (.cells (tcells t).toArray 32)) W → W.heap[w.heap.size]? = some (.cells (tcells t).toArray 32 (0, 0)) := fun W h => (h.block _ (by simp)).trans hbox
  have hcell : ∀ W, Below (w.alloc (.cells (tcells t).toArray 32)).heap.size (w.alloc (.cells (tcells t).toArray 32)) W → W.cell? ⟨w.heap.size, 0, none⟩ = some (.string t.f0) ∧ W.cell? ⟨w.heap.size, 1, none⟩ = some (.int .i64 t.f1.f0) ∧ W.cell? ⟨w.heap.size, 2, none⟩ = some (.int .i64 t.f1.f1) ∧ W.cell? ⟨w.heap.size, 3, none⟩ = some (.int .i64 t.f1.f2) ∧ W.cell? ⟨w.heap.size, 4, none⟩ = some (.string t.f1.f3) ∧ W.cell? ⟨w.heap.size, 5, none⟩ = some (.string t.f1.f4) ∧ W.cell? ⟨w.heap.size, 6, none⟩ = some (.string t.f2) := fun W h =>
    ⟨cell_of_heap (hbx W h) 0, cell_of_heap (hbx W h) 1, cell_of_heap (hbx W h) 2, cell_of_heap (hbx W h) 3, cell_of_heap (hbx W h) 4, cell_of_heap (hbx W h) 5, cell_of_heap (hbx W h) 6⟩
  have hcon : ∀ W, Below (w.alloc (.cells (tcells t).toArray 32)).heap.size (w.alloc (.cells (tcells t).toArray 32)) W → Calls Tryz.prog 36 #[.slice A l.length c, .func (.func 31) #[] #[.pointer (some ⟨w.heap.size, 0, none⟩)]] W fun e w' => e = .returned (.bool (l.any (late t))) ∧ Below W.heap.size W w' := fun W h =>
    ContainsFunc_Tag A c l (late t) 31 #[.pointer (some ⟨w.heap.size, 0, none⟩)] (enters_of Tryz.func31 (by kernel_rfl) rfl) W (Kd.C_below hr (below_step H0 h))
      (fun j x _ W2 hb2 cs hK => by
        obtain rfl := k32_open hK
        exact late_calls t x w.heap.size W2 (hbx W2 (below_step h hb2)) (hG.below (below_step (below_step H0 h) hb2)))
  have k1 := fun W hG => mcheck_calls t.f0 W hG
  have k2 := fun W => vcheck_calls t.f1.f0 t.f1.f1 t.f1.f2 t.f1.f3 t.f1.f4 W
  have k3 := fun W hG => mfits_calls t.f0 t.f1.f0 t.f1.f1 t.f1.f2 t.f1.f3 t.f1.f4 W hG
  have k4 := fun W => isHash_calls t.f2 hs W
  have HG := Aside0.mk (show ∀ W, Below (w.alloc (.cells (tcells t).toArray 32)).heap.size (w.alloc (.cells (tcells t).toArray 32)) W → GW W from fun W h => hG.below (below_step H0 h))
  have HW := Aside0.mk (show ∀ W, Below (w.alloc (.cells (tcells t).toArray 32)).heap.size (w.alloc (.cells (tcells t).toArray 32)) W → Below w.heap.size w W from fun W h => below_step H0 h)
  have HCE := Aside0.mk hcell
  unfold wrongT
  rw [show verOk t.f1.f0 t.f1.f1 t.f1.f2 t.f1.f3 t.f1.f4 = tver t from rfl] at k2
  rw [show fitsOk t.f0 t.f1.f0 t.f1.f1 t.f1.f2 t.f1.f3 t.f1.f4 = tfits t from rfl] at k3
  rw [show hashOk t.f2.data.toList = thash t from rfl] at k4
  generalize checkOk t.f0 = b1 at k1 ⊢
  generalize tver t = b2 at k2 ⊢
  generalize tfits t = b3 at k3 ⊢
  generalize thash t = b4 at k4 ⊢
  generalize l.any (late t) = b5 at hcon ⊢
  generalize l.length = n at hcon ⊢
  have K1 := Aside0.mk k1
  have K2 := Aside0.mk k2
  have K3 := Aside0.mk k3
  have K4 := Aside0.mk k4
  have K5 := Aside0.mk hcon
  clear hbox H0 hbx hcell hcon k1 k2 k3 k4 hr hG hs
  cases b1 with
  | false =>
    go_enter Tryz.func18, Tryz.ntmps18
    go_wp2_with (first
      | (go_at_call 32; (with_reducible refine (K1.out _ (HG.out _ (Below.refl _ _))).mono ?_); rintro e w1 ⟨rfl, hb⟩; have B1 := Aside0.mk hb; clear hb; obtain ⟨p10, p11, p12, p13, p14, p15, p16⟩ := HCE.out _ B1.out))
    go_ret
    exact ⟨rfl, HW.out _ B1.out⟩
  | true =>
    cases b2 with
    | false =>
      go_enter Tryz.func18, Tryz.ntmps18
      go_wp2_with (first
        | (go_at_call 32; (with_reducible refine (K1.out _ (HG.out _ (Below.refl _ _))).mono ?_); rintro e w1 ⟨rfl, hb⟩; have B1 := Aside0.mk hb; clear hb; obtain ⟨p10, p11, p12, p13, p14, p15, p16⟩ := HCE.out _ B1.out)
        | (go_at_call 33; (with_reducible refine (K2.out _ ).mono ?_); rintro e w2 ⟨rfl, hb⟩; have B2 := Aside0.mk (below_step B1.out hb); clear hb; clear p10 p11 p12 p13 p14 p15 p16; obtain ⟨p20, p21, p22, p23, p24, p25, p26⟩ := HCE.out _ B2.out))
      go_ret
      exact ⟨rfl, HW.out _ B2.out⟩
    | true =>
      cases b3 with
      | false =>
        go_enter Tryz.func18, Tryz.ntmps18
        go_wp2_with (first
          | (go_at_call 32; (with_reducible refine (K1.out _ (HG.out _ (Below.refl _ _))).mono ?_); rintro e w1 ⟨rfl, hb⟩; have B1 := Aside0.mk hb; clear hb; obtain ⟨p10, p11, p12, p13, p14, p15, p16⟩ := HCE.out _ B1.out)
          | (go_at_call 33; (with_reducible refine (K2.out _ ).mono ?_); rintro e w2 ⟨rfl, hb⟩; have B2 := Aside0.mk (below_step B1.out hb); clear hb; clear p10 p11 p12 p13 p14 p15 p16; obtain ⟨p20, p21, p22, p23, p24, p25, p26⟩ := HCE.out _ B2.out)
          | (go_at_call 34; (with_reducible refine (K3.out _ (HG.out _ B2.out)).mono ?_); rintro e w3 ⟨rfl, hb⟩; have B3 := Aside0.mk (below_step B2.out hb); clear hb; clear p20 p21 p22 p23 p24 p25 p26; obtain ⟨p30, p31, p32, p33, p34, p35, p36⟩ := HCE.out _ B3.out))
        go_ret
        exact ⟨rfl, HW.out _ B3.out⟩
      | true =>
        cases b4 with
        | false =>
          go_enter Tryz.func18, Tryz.ntmps18
          go_wp2_with (first
            | (go_at_call 32; (with_reducible refine (K1.out _ (HG.out _ (Below.refl _ _))).mono ?_); rintro e w1 ⟨rfl, hb⟩; have B1 := Aside0.mk hb; clear hb; obtain ⟨p10, p11, p12, p13, p14, p15, p16⟩ := HCE.out _ B1.out)
            | (go_at_call 33; (with_reducible refine (K2.out _ ).mono ?_); rintro e w2 ⟨rfl, hb⟩; have B2 := Aside0.mk (below_step B1.out hb); clear hb; clear p10 p11 p12 p13 p14 p15 p16; obtain ⟨p20, p21, p22, p23, p24, p25, p26⟩ := HCE.out _ B2.out)
            | (go_at_call 34; (with_reducible refine (K3.out _ (HG.out _ B2.out)).mono ?_); rintro e w3 ⟨rfl, hb⟩; have B3 := Aside0.mk (below_step B2.out hb); clear hb; clear p20 p21 p22 p23 p24 p25 p26; obtain ⟨p30, p31, p32, p33, p34, p35, p36⟩ := HCE.out _ B3.out)
            | (go_at_call 35; (with_reducible refine (K4.out _ ).mono ?_); rintro e w4 ⟨rfl, hb⟩; have B4 := Aside0.mk (below_step B3.out hb); clear hb; clear p30 p31 p32 p33 p34 p35 p36; obtain ⟨p40, p41, p42, p43, p44, p45, p46⟩ := HCE.out _ B4.out))
          go_ret
          exact ⟨rfl, HW.out _ B4.out⟩
        | true =>
          cases b5 with
          | true =>
            go_enter Tryz.func18, Tryz.ntmps18
            go_wp2_with (first
              | (go_at_call 32; (with_reducible refine (K1.out _ (HG.out _ (Below.refl _ _))).mono ?_); rintro e w1 ⟨rfl, hb⟩; have B1 := Aside0.mk hb; clear hb; obtain ⟨p10, p11, p12, p13, p14, p15, p16⟩ := HCE.out _ B1.out)
              | (go_at_call 33; (with_reducible refine (K2.out _ ).mono ?_); rintro e w2 ⟨rfl, hb⟩; have B2 := Aside0.mk (below_step B1.out hb); clear hb; clear p10 p11 p12 p13 p14 p15 p16; obtain ⟨p20, p21, p22, p23, p24, p25, p26⟩ := HCE.out _ B2.out)
              | (go_at_call 34; (with_reducible refine (K3.out _ (HG.out _ B2.out)).mono ?_); rintro e w3 ⟨rfl, hb⟩; have B3 := Aside0.mk (below_step B2.out hb); clear hb; clear p20 p21 p22 p23 p24 p25 p26; obtain ⟨p30, p31, p32, p33, p34, p35, p36⟩ := HCE.out _ B3.out)
              | (go_at_call 35; (with_reducible refine (K4.out _ ).mono ?_); rintro e w4 ⟨rfl, hb⟩; have B4 := Aside0.mk (below_step B3.out hb); clear hb; clear p30 p31 p32 p33 p34 p35 p36; obtain ⟨p40, p41, p42, p43, p44, p45, p46⟩ := HCE.out _ B4.out)
              | (go_at_call 36; (with_reducible refine (K5.out _ B4.out).mono ?_); rintro e w5 ⟨rfl, hb⟩; have B5 := Aside0.mk (below_step B4.out hb); clear hb; clear p40 p41 p42 p43 p44 p45 p46; skip))
            go_ret
            exact ⟨rfl, HW.out _ B5.out⟩
          | false =>
            go_enter Tryz.func18, Tryz.ntmps18
            go_wp2_with (first
              | (go_at_call 32; (with_reducible refine (K1.out _ (HG.out _ (Below.refl _ _))).mono ?_); rintro e w1 ⟨rfl, hb⟩; have B1 := Aside0.mk hb; clear hb; obtain ⟨p10, p11, p12, p13, p14, p15, p16⟩ := HCE.out _ B1.out)
              | (go_at_call 33; (with_reducible refine (K2.out _ ).mono ?_); rintro e w2 ⟨rfl, hb⟩; have B2 := Aside0.mk (below_step B1.out hb); clear hb; clear p10 p11 p12 p13 p14 p15 p16; obtain ⟨p20, p21, p22, p23, p24, p25, p26⟩ := HCE.out _ B2.out)
              | (go_at_call 34; (with_reducible refine (K3.out _ (HG.out _ B2.out)).mono ?_); rintro e w3 ⟨rfl, hb⟩; have B3 := Aside0.mk (below_step B2.out hb); clear hb; clear p20 p21 p22 p23 p24 p25 p26; obtain ⟨p30, p31, p32, p33, p34, p35, p36⟩ := HCE.out _ B3.out)
              | (go_at_call 35; (with_reducible refine (K4.out _ ).mono ?_); rintro e w4 ⟨rfl, hb⟩; have B4 := Aside0.mk (below_step B3.out hb); clear hb; clear p30 p31 p32 p33 p34 p35 p36; obtain ⟨p40, p41, p42, p43, p44, p45, p46⟩ := HCE.out _ B4.out)
              | (go_at_call 36; (with_reducible refine (K5.out _ B4.out).mono ?_); rintro e w5 ⟨rfl, hb⟩; have B5 := Aside0.mk (below_step B4.out hb); clear hb; clear p40 p41 p42 p43 p44 p45 p46; skip))
            go_ret
            exact ⟨rfl, HW.out _ B5.out⟩
def ledger_wrong.f (l0 : List Tg) (a1_0 : ByteArray) (a1_1 a1_2 a1_3 : Int) (a1_4 a1_5 a1_6 : ByteArray) : Option Int := if a1_6.size ≤ 140737488355328 then some (wrongT l0 ⟨a1_0, ⟨a1_1, a1_2, a1_3, a1_4, a1_5⟩, a1_6⟩) else none
theorem ledger_wrong.calls (A0 : Option Addr) (c0 : Nat) (l0 : List Tg) (a1_0 : ByteArray) (a1_1 a1_2 a1_3 : Int) (a1_4 a1_5 a1_6 : ByteArray) (r : Int) (w : World) (hr0 : Kd.C k32 w A0 l0.length l0) (hc0 : l0.length ≤ c0) (hG : GW w) (h : ledger_wrong.f l0 a1_0 a1_1 a1_2 a1_3 a1_4 a1_5 a1_6 = some r) :
    Calls Tryz.prog 18 #[.slice A0 l0.length c0, .agg #[.string a1_0, .int .i64 a1_1, .int .i64 a1_2, .int .i64 a1_3, .string a1_4, .string a1_5, .string a1_6]] w fun e w' => e = .returned (.int .i64 r) ∧ Below w.heap.size w w' := by
  unfold ledger_wrong.f at h
  split at h
  · rename_i hs
    obtain rfl := Option.some.inj h
    exact wrong_calls A0 c0 l0 ⟨a1_0, ⟨a1_1, a1_2, a1_3, a1_4, a1_5⟩, a1_6⟩ w hG hr0 hs
  · cases h
end Go.Proofs.YtjdhdjmdmnedfaaGreatDoor
end

section
namespace Go.Proofs.YtjdhdjmdmnedfaaGreatDoor
open Go Go.RowKit Go.Proofs Go.Proofs.YtjdhdjmdmnedfaaGreatDoorW.PrintWords Go.Proofs.YtjdhdjmdmnedfaaGreatDoor.K0
set_option linter.unusedVariables false
set_option linter.unusedSimpArgs false
def tcl (t : S32) : List Value := [.string t.f0, .int .i64 t.f1.f0, .int .i64 t.f1.f1, .int .i64 t.f1.f2, .string t.f1.f3, .string t.f1.f4, .string t.f2]
def tcs (l : List S32) : List Value := l.flatMap tcl
theorem tcs_len (l : List S32) : (tcs l).length = l.length * 7 := by
  induction l with
  | nil => rfl
  | cons t l ih => unfold tcs at ih ⊢; rw [List.flatMap_cons, List.length_append, ih, List.length_cons]; simp [tcl]; omega
theorem tcs_drop : ∀ (l : List S32) (j : Nat), (tcs l).drop (j * 7) = tcs (l.drop j)
  | [], j => by simp [tcs]
  | t :: l, 0 => rfl
  | t :: l, j + 1 => by
    have ih := tcs_drop l j
    have e : (j + 1) * 7 = (tcl t).length + j * 7 := by simp [tcl]; omega
    rw [List.drop_succ_cons, ← ih, e]
    show List.drop _ (tcl t ++ tcs l) = _
    rw [← List.drop_drop, List.drop_left]
theorem tcs_at {l : List S32} {j : Nat} {t : S32} (h : l[j]? = some t) : ((tcs l).drop (j * 7)).take 7 = tcl t := by
  obtain ⟨hj, e⟩ := List.getElem?_eq_some_iff.1 h
  rw [tcs_drop, List.drop_eq_getElem_cons hj, e]
  show List.take 7 (tcl t ++ tcs (l.drop (j + 1))) = _
  exact List.take_left' rfl
theorem tcs_row (l : List S32) (w : World) (b : Nat) (ok : Nat → Prop) : Reps (k32.M w b ok) 7 l (tcs l) :=
  ⟨tcs_len l, fun j p hp => by rw [tcs_at hp]; exact k32_mkM w b ok p⟩
theorem tcs_cells {w : World} {A : Option Addr} {l : List S32} {ad : Addr} (h : Kd.C k32 w (some ad) l.length l) (j : Nat) (u : Value) (hu : (tcs l)[j]? = some u) : w.cell? (ad.add j) = some u := by
  have hj : j < l.length * 7 := by rw [← tcs_len]; exact (List.getElem?_eq_some_iff.1 hu).1
  obtain ⟨t, ht⟩ : ∃ t, l[j / 7]? = some t := ⟨_, List.getElem?_eq_getElem (by omega)⟩
  obtain ⟨ad2, hA, hc⟩ := h.2.2 (by omega)
  obtain rfl := Option.some.inj hA
  obtain ⟨c, _, hK, hcell⟩ := hc (j / 7) t ht
  obtain rfl := k32_open hK
  have e : (tcs l)[j]? = (tcl t)[j % 7]? := by
    rw [← tcs_at ht, List.getElem?_take, if_pos (Nat.mod_lt _ (by decide)), List.getElem?_drop]
    congr 1; omega
  rw [e] at hu
  have := hcell (j % 7) u hu
  rwa [show j / 7 * k32.sz + j % 7 = j from by show j / 7 * 7 + j % 7 = j; omega] at this
def slices_Clone.f (l0 : List S32) : Option (List S32) := if l0.length * 88 ≤ 140737488355328 then some l0 else none
set_option maxRecDepth 100000 in
set_option maxHeartbeats 1000000 in
theorem slices_Clone.calls (A0 : Option Addr) (c0 : Nat) (l0 : List S32) (r : List S32) (w : World) (hr0 : Kd.C k32 w A0 l0.length l0) (hc0 : l0.length ≤ c0) (h : slices_Clone.f l0 = some r) :
    Calls Tryz.prog 25 #[.slice A0 l0.length c0] w fun e w' => ∃ v0_ : Value, e = .returned (v0_) ∧ Kd.R k32 32 w' w.heap.size (fun _ => True) v0_ r ∧ Below w.heap.size w w' := by
  unfold slices_Clone.f at h
  split at h
  · rename_i hs
    obtain rfl := Option.some.inj h
    clear h hc0
    have q := fun (w : World) (a : Option Addr) (n c n' c' : Nat) => Lib.run_eql_slice_nil w 23 32 a n c n' c' Tryz.underlying23
    cases A0 with
    | none =>
      have h0 : l0 = [] := by
        rcases l0 with _ | ⟨b, l⟩
        · rfl
        · obtain ⟨ad, hA, _⟩ := hr0.2.2 (by simp)
          cases hA
      subst h0
      clear hr0
      go_enter Tryz.func25, Tryz.ntmps25
      go_wp2
      go_ret
      exact ⟨_, rfl, Kd.R_nil _ _ _ _ _, Below.refl _ _⟩
    | some ad =>
      obtain ⟨i0, hi, hz0, hz1, hz2⟩ := info_parts info32
      have HC := Aside0.mk (tcs_cells (A := none) hr0)
      have hb := hr0.2.1
      have hlen := tcs_len l0
      have HROW := Aside0.mk (fun W b ok => tcs_row l0 W b ok)
      have hone : ∀ u ∈ tcs l0, u.oneCell' = true := by
        intro u hu
        obtain ⟨t, _, ht⟩ := List.mem_flatMap.1 hu
        simp only [tcl, List.mem_cons, List.not_mem_nil, or_false] at ht
        rcases ht with rfl | rfl | rfl | rfl | rfl | rfl | rfl <;> rfl
      have HONE := Aside0.mk hone
      obtain ⟨n, hn⟩ : ∃ n, n = l0.length := ⟨_, rfl⟩
      rw [← hn] at hb hlen hs ⊢
      have HL := Aside0.mk hlen
      have HN := Aside0.mk hn
      clear hr0 hone hlen hn
      go_enter Tryz.func25, Tryz.ntmps25
      go_wp2_with (at_builtin; refine wpList_append_own _ rfl _ _ 23 rfl w.heap.size 32 i0 _ 7 88 Tryz.underlying23 hi hz0 hz1 hz2 rfl (by decide) _ _ _ rfl (World.ownsRow_made w #[] 0 (Nat.le_refl _) (Nat.zero_le _) (by simp)) ad n c0 (tcs l0) rfl ?qc1 ?qc2 ?qc3 ?qc4 ?qc5 ?qc6 ?_)
      case qc1 => exact HL.out
      case qc2 => exact fun j u hj => Lib.cell?_alloc_some _ (HC.out j u hj)
      case qc3 => exact HONE.out
      case qc4 => rw [Nat.zero_add]; exact hb
      case qc5 => rw [Nat.zero_add]; exact hs
      case qc6 => simp
      intro v' w1 hown hgrow hnil
      go_wp2
      go_ret
      refine ⟨v', rfl, ⟨fun _ _ => trivial, tcs l0, ?_, HROW.out _ _ _⟩, ?_⟩
      · rw [← HN.out]
        exact hown
      · exact ((Below.refl _ w).alloc (Nat.le_refl _) _).grown hgrow (by simp) (by intro k hk; simp [Value.ownBlock] at hk; omega)
  · cases h
end Go.Proofs.YtjdhdjmdmnedfaaGreatDoor
end

section
namespace Go.Proofs.YtjdhdjmdmnedfaaGreatDoor.R5
open Go.RowKit Go.Proofs.YtjdhdjmdmnedfaaGreatDoor Go.Proofs.YtjdhdjmdmnedfaaGreatDoor.K0 Go.Proofs.YtjdhdjmdmnedfaaGreatDoor.R1 Go.Proofs.YtjdhdjmdmnedfaaGreatDoor.R2 Go.Proofs.YtjdhdjmdmnedfaaGreatDoor.R3 Go.Proofs.YtjdhdjmdmnedfaaGreatDoor.R4 Go.Proofs.YtjdhdjmdmnedfaaGreatDoorW.PrintWords Go.Proofs.YtjdhdjmdmnedfaaGreatDoorW.PrintLast Go.Proofs.YtjdhdjmdmnedfaaGreatDoorW.PrintMore
attribute [local go_sem] max2_int min2_int max_two min_two max_three min_three max_four min_four
set_option linter.unusedVariables false
set_option linter.unusedSimpArgs false
end Go.Proofs.YtjdhdjmdmnedfaaGreatDoor.R5
end
