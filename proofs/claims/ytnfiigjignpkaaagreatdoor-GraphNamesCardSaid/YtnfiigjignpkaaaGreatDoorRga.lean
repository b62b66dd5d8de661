/- The document's answers of layer 16, in plain words: In, Same, all, requires, Check, Edges. -/
import Derived.Test.YtnfiigjignpkaaaGreatDoorGrc
import Derived.Test.YtnfiigjignpkaaaGreatDoorR3x
import Derived.Test.YtnfiigjignpkaaaGreatDoorMpa
import Derived.Test.YtnfiigjignpkaaaGreatDoorLiv
namespace Go.Proofs.YtnfiigjignpkaaaGreatDoor
open Go Go.RowKit Go.Proofs.YtnfiigjignpkaaaGreatDoorW.PrintWords Go.Proofs.YtnfiigjignpkaaaGreatDoor.K0 Go.Proofs.YtnfiigjignpkaaaGreatDoor.R1 Go.Proofs.YtnfiigjignpkaaaGreatDoor.R3
set_option linter.unusedVariables false
set_option linter.unusedSimpArgs false

theorem wrap_up {n : Nat} (h : n < 9223372036854775807) : wrap64 ((n : Int) + 1) = ((n + 1 : Nat) : Int) := by
  rw [wrap_id (by omega) (by omega)]; omega
theorem rd_int {l : List Int} {n : Nat} (h : n < l.length) : ∃ x, rd l (n : Int) = x ∧ l.drop n = x :: l.drop (n + 1) ∧ l[n]? = some x := by
  refine ⟨l[n], ?_, List.drop_eq_getElem_cons h, List.getElem?_eq_getElem h⟩
  unfold rd
  rw [Int.toNat_natCast, List.getD_eq_getElem?_getD, List.getElem?_eq_getElem h]; rfl
theorem rd_mod {l : List S40} {n : Nat} (h : n < l.length) : ∃ x, rd_T40 l (n : Int) = x ∧ l.drop n = x :: l.drop (n + 1) ∧ l[n]? = some x := by
  refine ⟨l[n], ?_, List.drop_eq_getElem_cons h, List.getElem?_eq_getElem h⟩
  unfold rd_T40
  rw [Int.toNat_natCast, List.getD_eq_getElem?_getD, List.getElem?_eq_getElem h]; rfl
theorem rd_req {l : List S44} {n : Nat} (h : n < l.length) : ∃ x, rd_T44 l (n : Int) = x ∧ l.drop n = x :: l.drop (n + 1) ∧ l[n]? = some x := by
  refine ⟨l[n], ?_, List.drop_eq_getElem_cons h, List.getElem?_eq_getElem h⟩
  unfold rd_T44
  rw [Int.toNat_natCast, List.getD_eq_getElem?_getD, List.getElem?_eq_getElem h]; rfl
theorem drop_end {α : Type} {l : List α} {n : Nat} (h : ¬ n < l.length) : l.drop n = [] := List.drop_eq_nil_of_le (by omega)

theorem In_l0 (l : List Int) (z : Int) (hl : l.length ≤ 9223372036854775807) : ∀ (d n : Nat), l.length - n = d → Ev (fun k => armadaref16_In.l0 k l z (n : Int)) ((l.drop n).contains z) := by
  intro d
  induction d with
  | zero =>
    intro n hd
    refine Ev.step (f := fun _ => some ((l.drop n).contains z)) (fun k => ?_) (Ev.now _)
    rw [armadaref16_In.l0, if_neg (by omega), drop_end (by omega)]; rfl
  | succ d ih =>
    intro n hd
    obtain ⟨x, h1, h2, h3⟩ := rd_int (l := l) (n := n) (by omega)
    rw [h2, List.contains_cons]
    by_cases hx : x = z
    · refine Ev.step (f := fun _ => some (z == x || (l.drop (n + 1)).contains z)) (fun k => ?_) (Ev.now _)
      rw [armadaref16_In.l0, if_pos (by omega), if_pos (by omega), h1, if_pos hx, hx]; simp
    · have e : (z == x) = false := by simpa using fun h => hx h.symm
      rw [e, Bool.false_or]
      refine Ev.step (fun k => ?_) (ih (n + 1) (by omega))
      rw [armadaref16_In.l0, if_pos (by omega), if_pos (by omega), h1, if_neg hx, wrap_up (by omega)]
theorem In_ev (l : List Int) (z : Int) (hl : l.length ≤ 9223372036854775807) : Ev (fun k => armadaref16_In.f k l z) (l.contains z) := In_l0 l z hl _ 0 rfl

theorem Same_l0 (a b : List Int) (hb : a.length = b.length) (hl : a.length ≤ 9223372036854775807) : ∀ (d n : Nat), a.length - n = d → Ev (fun k => armadaref16_Same.l0 k a b (n : Int)) (decide (a.drop n = b.drop n)) := by
  intro d
  induction d with
  | zero =>
    intro n hd
    refine Ev.step (f := fun _ => some (decide (a.drop n = b.drop n))) (fun k => ?_) (Ev.now _)
    rw [armadaref16_Same.l0, if_neg (by omega), drop_end (by omega), drop_end (by omega)]; simp
  | succ d ih =>
    intro n hd
    obtain ⟨x, h1, h2, h3⟩ := rd_int (l := a) (n := n) (by omega)
    obtain ⟨y, g1, g2, g3⟩ := rd_int (l := b) (n := n) (by omega)
    rw [h2, g2]
    by_cases hx : x = y
    · have e : decide (x :: a.drop (n + 1) = y :: b.drop (n + 1)) = decide (a.drop (n + 1) = b.drop (n + 1)) := by simp [hx]
      rw [e]
      refine Ev.step (fun k => ?_) (ih (n + 1) (by omega))
      rw [armadaref16_Same.l0, if_pos (by omega), if_pos (by omega), if_pos (by omega), h1, g1, if_pos hx, wrap_up (by omega)]
    · have e : decide (x :: a.drop (n + 1) = y :: b.drop (n + 1)) = false := by simp [hx]
      rw [e]
      refine Ev.step (f := fun _ => some false) (fun k => ?_) (Ev.now _)
      rw [armadaref16_Same.l0, if_pos (by omega), if_pos (by omega), if_pos (by omega), h1, g1, if_neg hx]
theorem Same_ev (a b : List Int) (hl : a.length ≤ 9223372036854775807) : Ev (fun k => armadaref16_Same.f k a b) (decide (a = b)) := by
  by_cases h : a.length = b.length
  · have := Same_l0 a b h hl _ 0 rfl
    refine Ev.congr (fun k => ?_) this
    rw [armadaref16_Same.f, if_pos (by omega)]; rfl
  · have e : decide (a = b) = false := by simp; intro e; exact h (by rw [e])
    rw [e]
    refine Ev.congr (f := fun _ => some false) (fun k => ?_) (Ev.now _)
    rw [armadaref16_Same.f, if_neg (by omega)]

theorem all_l0 (a b : List Int) (ha : a.length ≤ 9223372036854775807) (hb : b.length ≤ 9223372036854775807) : ∀ (d n : Nat), a.length - n = d → Ev (fun k => armadaref16_all.l0 k a b (n : Int)) ((a.drop n).all fun z => b.contains z) := by
  intro d
  induction d with
  | zero =>
    intro n hd
    refine Ev.step (f := fun _ => some ((a.drop n).all fun z => b.contains z)) (fun k => ?_) (Ev.now _)
    rw [armadaref16_all.l0, if_neg (by omega), drop_end (by omega)]; rfl
  | succ d ih =>
    intro n hd
    obtain ⟨x, h1, h2, h3⟩ := rd_int (l := a) (n := n) (by omega)
    rw [h2, List.all_cons]
    refine Ev.step (f := fun k => (armadaref16_In.f k b x).bind fun t => if t = true then armadaref16_all.l0 k a b ((n + 1 : Nat) : Int) else some false) (fun k => ?_) ?_
    · rw [armadaref16_all.l0, if_pos (by omega), if_pos (by omega), h1, wrap_up (by omega)]
    · refine Ev.bind (In_ev b x hb) ?_
      cases b.contains x with
      | true => exact ih (n + 1) (by omega)
      | false => exact Ev.now _
theorem all_ev (a b : List Int) (ha : a.length ≤ 9223372036854775807) (hb : b.length ≤ 9223372036854775807) : Ev (fun k => armadaref16_all.f k a b) (a.all fun z => b.contains z) := all_l0 a b ha hb _ 0 rfl

theorem requires_l0 (p d0 d1 : ByteArray) (l : List S44) (hl : l.length ≤ 9223372036854775807) : ∀ (d n : Nat), l.length - n = d → Ev (fun k => armadaref16_requires.l0 k p (n : Int) d0 d1 l) ((l.drop n).any fun r => r.f0.data.toList == p.data.toList) := by
  intro d
  induction d with
  | zero =>
    intro n hd
    refine Ev.step (f := fun _ => some ((l.drop n).any fun r => r.f0.data.toList == p.data.toList)) (fun k => ?_) (Ev.now _)
    rw [armadaref16_requires.l0, if_neg (by omega), drop_end (by omega)]; rfl
  | succ d ih =>
    intro n hd
    obtain ⟨x, h1, h2, h3⟩ := rd_req (l := l) (n := n) (by omega)
    rw [h2, List.any_cons]
    by_cases hx : x.f0.data.toList = p.data.toList
    · refine Ev.step (f := fun _ => some ((x.f0.data.toList == p.data.toList) || (l.drop (n + 1)).any fun r => r.f0.data.toList == p.data.toList)) (fun k => ?_) (Ev.now _)
      rw [armadaref16_requires.l0, if_pos (by omega), if_pos (by omega), h1, ByteArray.toList_eq, ByteArray.toList_eq, if_pos hx, hx]; simp
    · rw [beq_eq_false_iff_ne.2 hx, Bool.false_or]
      refine Ev.step (fun k => ?_) (ih (n + 1) (by omega))
      rw [armadaref16_requires.l0, if_pos (by omega), if_pos (by omega), h1, ByteArray.toList_eq, ByteArray.toList_eq, if_neg hx, wrap_up (by omega)]
theorem requires_ev (x : S40) (p : ByteArray) (hl : x.f2.length ≤ 9223372036854775807) : Ev (fun k => armadaref16_requires.f k x.f0 x.f1 x.f2 p) (needs x p) := requires_l0 p x.f0 x.f1 x.f2 hl _ 0 rfl

theorem paths_get {l : List S40} {n : Nat} {x : S40} (h : l[n]? = some x) : (pathsOf l)[n]? = some x.f1.data.toList := by simp [pathsOf, h]
theorem paths_len (l : List S40) : (pathsOf l).length = l.length := by simp [pathsOf]
def dupCode (l : List S40) : Int := if (pathsOf l).Nodup then 0 else 11
theorem check_l1 (l : List S40) (hl : l.length ≤ 12) : ∀ (d n : Nat), l.length - n = d → ((pathsOf l).take n).Nodup → Ev (fun k => armadaref16_Check.l1 k l (n : Int)) (dupCode l) := by
  intro d
  induction d with
  | zero =>
    intro n hd hn
    rw [List.take_of_length_le (by rw [paths_len]; omega)] at hn
    refine Ev.step (f := fun _ => some (dupCode l)) (fun k => ?_) (Ev.now _)
    rw [armadaref16_Check.l1, if_neg (by omega), dupCode, if_pos hn]
  | succ d ih =>
    intro n hd hn
    obtain ⟨x, h1, h2, h3⟩ := rd_mod (l := l) (n := n) (by omega)
    have hxp := paths_get h3
    suffices H : ∀ (e j : Nat), n - j = e → j ≤ n → (∀ i y, i < j → l[i]? = some y → y.f1.data.toList ≠ x.f1.data.toList) → Ev (fun k => armadaref16_Check.l2 k l (n : Int) (j : Int)) (dupCode l) by
      refine Ev.step (fun k => ?_) (H n 0 rfl (by omega) (fun i y hi => absurd hi (Nat.not_lt_zero _)))
      rw [armadaref16_Check.l1, if_pos (by omega)]; rfl
    intro e
    induction e with
    | zero =>
      intro j he hj hne
      obtain rfl : j = n := by omega
      refine Ev.step (fun k => ?_) (ih (j + 1) (by omega) ?_)
      · rw [armadaref16_Check.l2, if_neg (by omega), wrap_up (by omega)]
      · rw [List.take_add_one, hxp, List.nodup_append]
        refine ⟨hn, by simp, fun a ha b hb => ?_⟩
        obtain rfl : b = x.f1.data.toList := by simpa using hb
        obtain ⟨i, hi, ei⟩ := List.getElem_of_mem ha
        have hi2 : i < j := by rw [List.length_take] at hi; omega
        rw [List.getElem_take] at ei
        obtain ⟨y, hy⟩ : ∃ y, l[i]? = some y := ⟨_, List.getElem?_eq_getElem (by omega)⟩
        have := hne i y hi2 hy
        have e2 : (pathsOf l)[i]? = some a := by rw [List.getElem?_eq_getElem (by rw [paths_len]; omega), ei]
        rw [paths_get hy] at e2
        rw [← Option.some.inj e2]
        exact this
    | succ e ih2 =>
      intro j he hj hne
      obtain ⟨y, g1, g2, g3⟩ := rd_mod (l := l) (n := j) (by omega)
      by_cases hq : y.f1.data.toList = x.f1.data.toList
      · refine Ev.step (f := fun _ => some (dupCode l)) (fun k => ?_) (Ev.now _)
        rw [armadaref16_Check.l2, if_pos (by omega), if_pos (by omega), if_pos (by omega), if_pos (by omega), if_pos (by omega), g1, h1, ByteArray.toList_eq, ByteArray.toList_eq, if_pos hq, dupCode, if_neg]
        intro hnd
        have := List.pairwise_iff_getElem.1 hnd j n (by rw [paths_len]; omega) (by rw [paths_len]; omega) (by omega)
        apply this
        have e1 := paths_get g3
        rw [List.getElem?_eq_getElem (by rw [paths_len]; omega)] at e1 hxp
        rw [Option.some.inj e1, Option.some.inj hxp, hq]
      · refine Ev.step (fun k => ?_) (ih2 (j + 1) (by omega) (by omega) ?_)
        · rw [armadaref16_Check.l2, if_pos (by omega), if_pos (by omega), if_pos (by omega), if_pos (by omega), if_pos (by omega), g1, h1, ByteArray.toList_eq, ByteArray.toList_eq, if_neg hq, wrap_up (by omega)]
        · intro i u hi hu
          by_cases e : i = j
          · subst e
            obtain rfl := Option.some.inj (g3.symm.trans hu)
            exact hq
          · exact hne i u (by omega) hu
theorem check_l0g (l : List S40) (hl : l.length ≤ 12) : ∀ (d n : Nat), l.length - n = d → Ev (fun k => armadaref16_Check.l0 k l (n : Int)) (if ((l.drop n).all fun x => checkOk x.f1) = true then dupCode l else 6) := by
  intro d
  induction d with
  | zero =>
    intro n hd
    rw [drop_end (by omega)]
    refine Ev.step (fun k => ?_) (check_l1 l hl _ 0 rfl (by simp))
    rw [armadaref16_Check.l0, if_neg (by omega)]; rfl
  | succ d ih =>
    intro n hd
    obtain ⟨x, h1, h2, h3⟩ := rd_mod (l := l) (n := n) (by omega)
    rw [h2, List.all_cons]
    refine Ev.step (f := fun k => (armadaref08_Check.f k x.f1).bind fun t => if t = true then armadaref16_Check.l0 k l ((n + 1 : Nat) : Int) else some 6) (fun k => ?_) ?_
    · rw [armadaref16_Check.l0, if_pos (by omega), if_pos (by omega), h1, wrap_up (by omega)]
    · refine Ev.bind (a := checkOk x.f1) ⟨401, fun k hk => ref_Check_f x.f1 k (by omega)⟩ ?_
      cases checkOk x.f1 with
      | true => simpa using ih (n + 1) (by omega)
      | false => simpa using Ev.now (6 : Int)
theorem Check_ev (l : List S40) : Ev (fun k => armadaref16_Check.f k l) (gcheck l) := by
  unfold gcheck
  by_cases h : 12 < l.length
  · rw [if_pos h]
    refine Ev.congr (f := fun _ => some 1) (fun k => ?_) (Ev.now _)
    rw [armadaref16_Check.f, if_pos (by omega)]
  · rw [if_neg h]
    refine Ev.congr (fun k => ?_) (check_l0g l (by omega) _ 0 rfl)
    rw [armadaref16_Check.f, if_neg (by omega)]; rfl

theorem edges_l0 (l : List S40) (hl : l.length ≤ 12) (i : Nat) (x : S40) (hx : l[i]? = some x) (hr : x.f2.length ≤ 9223372036854775807) : ∀ (d n : Nat) (acc : List Int), l.length - n = d → acc.length ≤ n →
    Ev (fun k => armadaref16_Edges.l0 k l (i : Int) acc (n : Int)) (acc ++ edgesFrom x n (l.drop n)) := by
  have hil := (List.getElem?_eq_some_iff.1 hx).1
  have hxe : rd_T40 l (i : Int) = x := by
    obtain ⟨y, h1, _, h3⟩ := rd_mod hil
    rw [h1]; exact Option.some.inj (h3.symm.trans hx)
  intro d
  induction d with
  | zero =>
    intro n acc hd ha
    rw [drop_end (by omega)]
    refine Ev.step (f := fun _ => some acc) (fun k => ?_) (by simpa [edgesFrom] using Ev.now acc)
    rw [armadaref16_Edges.l0, if_neg (by omega)]
  | succ d ih =>
    intro n acc hd ha
    obtain ⟨m, h1, h2, h3⟩ := rd_mod (l := l) (n := n) (by omega)
    rw [edgesFrom_at x n _ m _ h2, ← List.append_assoc]
    refine Ev.step (f := fun k => (armadaref16_requires.f k x.f0 x.f1 x.f2 m.f1).bind fun t => if t = true then armadaref16_Edges.l0 k l (i : Int) (acc ++ [(n : Int)]) ((n + 1 : Nat) : Int) else armadaref16_Edges.l0 k l (i : Int) acc ((n + 1 : Nat) : Int)) (fun k => ?_) ?_
    · rw [armadaref16_Edges.l0, if_pos (by omega), if_pos (by omega), if_pos (by omega), if_pos (by omega), hxe, h1, if_pos (by omega), wrap_up (by omega)]
    · refine Ev.bind (requires_ev x m.f1 hr) ?_
      cases needs x m.f1 with
      | true => simpa using ih (n + 1) (acc ++ [(n : Int)]) (by omega) (by simp; omega)
      | false => simpa using ih (n + 1) acc (by omega) (by omega)
def Short (l : List S40) : Prop := ∀ x ∈ l, x.f2.length ≤ 9223372036854775807
theorem Edges_ev (l : List S40) (hs : Short l) (i : Int) : Ev (fun k => armadaref16_Edges.f k l i) (edgesG l i) := by
  have out : ∀ b : Bool, b = true → Ev (fun k => armadaref16_Edges.j0 k l i ([] : List Int) b) ([] : List Int) := by
    rintro _ rfl
    refine Ev.step (f := fun _ => some []) (fun k => ?_) (Ev.now _)
    rw [armadaref16_Edges.j0, if_pos rfl]
  unfold armadaref16_Edges.f edgesG
  refine Ev.bind (Check_ev l) ?_
  by_cases h0 : gcheck l = 0
  · have hl := gcheck_len h0
    simp only [if_pos h0]
    by_cases hi : i < 0
    · simp only [if_pos hi, if_neg (show ¬ 0 ≤ i by omega)]
      exact out true rfl
    · simp only [if_neg hi, if_pos (show 0 ≤ i by omega)]
      by_cases hn : i < (l.length : Int)
      · simp only [if_pos hn, decide_eq_false (show ¬ i ≥ (l.length : Int) by omega)]
        obtain ⟨j, rfl⟩ : ∃ j : Nat, i = (j : Int) := ⟨i.toNat, by omega⟩
        obtain ⟨x, hx⟩ : ∃ x, l[j]? = some x := ⟨_, List.getElem?_eq_getElem (by omega)⟩
        have := edges_l0 l hl j x hx (hs x (List.mem_of_getElem? hx)) _ 0 [] rfl (by simp)
        rw [Int.toNat_natCast, edgesOf_at hx]
        refine Ev.step (fun k => ?_) (by simpa using this)
        rw [armadaref16_Edges.j0, if_neg (by simp)]
      · simp only [if_neg hn]
        exact out _ (by simp; omega)
  · simp only [if_neg h0]
    exact out true rfl
end Go.Proofs.YtnfiigjignpkaaaGreatDoor

/- The document's answers of layer 16, in plain words: Down, Cyclic, Order, Up. -/
namespace Go.Proofs.YtnfiigjignpkaaaGreatDoor
open Go Go.RowKit Go.Proofs.YtnfiigjignpkaaaGreatDoorW.PrintWords Go.Proofs.YtnfiigjignpkaaaGreatDoor.K0 Go.Proofs.YtnfiigjignpkaaaGreatDoor.R1 Go.Proofs.YtnfiigjignpkaaaGreatDoor.R3
set_option linter.unusedVariables false
set_option linter.unusedSimpArgs false

/-- Whom a module requires, of modules that may be. -/
def EG (l : List S40) (i : Nat) : List Int := edgesG l (i : Int)
theorem edgesFrom_sorted (x : S40) : ∀ (l : List S40) (k : Nat), (edgesFrom x k l).Nodup
  | [], k => by simp [edgesFrom]
  | m :: l, k => by
    rw [edgesFrom_at x k _ m l rfl]
    split
    · refine List.nodup_cons.2 ⟨fun h => ?_, edgesFrom_sorted x l (k + 1)⟩
      obtain ⟨j, _, _, h2, _⟩ := mem_edgesFrom.1 h
      omega
    · exact edgesFrom_sorted x l (k + 1)
theorem edgesOf_nodup (l : List S40) (i : Nat) : (edgesOf l i).Nodup := by
  unfold edgesOf; split
  · exact edgesFrom_sorted _ _ _
  · exact List.nodup_nil
theorem edgesOf_out {l : List S40} {i : Nat} (h : ¬ i < l.length) : edgesOf l i = [] := by
  unfold edgesOf; rw [List.getElem?_eq_none (by omega)]
theorem EG_ok {l : List S40} (h : gcheck l = 0) : EG l = edgesOf l := by
  funext i
  unfold EG edgesG
  rw [if_pos h, if_pos (by omega)]
  by_cases hi : i < l.length
  · rw [if_pos (by omega), Int.toNat_natCast]
  · rw [if_neg (by omega), edgesOf_out hi]
theorem EG_bad {l : List S40} (h : gcheck l ≠ 0) (i : Nat) : EG l i = [] := by
  unfold EG edgesG; rw [if_neg h]
theorem edgy (l : List S40) : Edgy (edgesOf l) l.length := ⟨fun i z hz => edgesOf_nn l i z hz⟩
theorem edgyG (l : List S40) : Edgy (EG l) l.length := by
  by_cases h : gcheck l = 0
  · rw [EG_ok h]; exact edgy l
  · exact ⟨fun i z hz => by rw [EG_bad h] at hz; cases hz⟩
theorem EG_nodup (l : List S40) (i : Nat) : (EG l i).Nodup := by
  by_cases h : gcheck l = 0
  · rw [EG_ok h]; exact edgesOf_nodup l i
  · rw [EG_bad h]; exact List.nodup_nil
theorem EG_len (l : List S40) (i : Nat) : (EG l i).length ≤ l.length := nodup_le (EG_nodup l i) (fun z hz => (edgyG l).nn i z hz)

theorem addAll_le (L o : List Int) : o.length ≤ (addAll o L).length := by
  obtain ⟨t, h, _⟩ := addAll_app L o
  rw [h]; simp
theorem downGo_le {E : Nat → List Int} : ∀ (f k : Nat) (o r : List Int), downGo E f k o = some r → o.length ≤ r.length
  | 0, _, _, _, h => by cases h
  | f + 1, k, o, r, h => by
    unfold downGo at h
    split at h
    · exact Nat.le_trans (addAll_le _ _) (downGo_le f (k + 1) _ r h)
    · obtain rfl := Option.some.inj h
      exact Nat.le_refl _
theorem downGo_nn {E : Nat → List Int} {n : Nat} (hE : Edgy E n) (L o : List Int) (hL : ∀ z ∈ L, 0 ≤ z) (ho : ∀ z ∈ o, 0 ≤ z) : ∀ z ∈ addAll o L, 0 ≤ z := by
  obtain ⟨t, h, hm⟩ := addAll_app L o
  rw [h]
  intro z hz
  rcases (hm z).1 hz with h | h
  · exact ho z h
  · exact hL z h
theorem Down_l0 (l : List S40) (hs : Short l) (r : List Int) (hr : r.length ≤ 4294967290) : ∀ (f n : Nat) (o : List Int), (∀ z ∈ o, 0 ≤ z) → downGo (EG l) f n o = some r → Ev (fun k => armadaref16_Down.l0 k l o (n : Int)) r := by
  intro f
  induction f with
  | zero => intro n o _ h; cases h
  | succ f ih =>
    intro n o ho h
    have hol := downGo_le _ _ _ _ h
    unfold downGo at h
    by_cases hn : n < o.length
    · rw [if_pos hn] at h
      obtain ⟨z, h1, _, h3⟩ := rd_int hn
      have hz0 := ho z (List.mem_of_getElem? h3)
      have hgz : o.getD n 0 = z := by rw [List.getD_eq_getElem?_getD, h3]; rfl
      rw [hgz] at h
      have hez : edgesG l z = EG l z.toNat := by unfold EG; rw [Int.toNat_of_nonneg hz0]
      have hlen : (EG l z.toNat).length ≤ l.length := EG_len l _
      have hnn : ∀ y ∈ EG l z.toNat, 0 ≤ y := fun y hy => ((edgyG l).nn _ _ hy).1
      have hml : (EG l z.toNat).length ≤ 9223372036854775807 := by
        by_cases hc : gcheck l = 0
        · have := gcheck_len hc; omega
        · rw [EG_bad hc]; decide
      refine Ev.step (f := fun k => (armadaref16_Edges.f k l z).bind fun t => armadaref16_Down.l1 k l o (n : Int) t 0) (fun k => ?_) ?_
      · rw [armadaref16_Down.l0, if_pos (by omega), if_pos (by omega), h1]
      · refine Ev.bind (Edges_ev l hs z) ?_
        rw [hez]
        generalize EG l z.toNat = L at h hnn hml
        suffices H : ∀ (d m : Nat) (o : List Int), L.length - m = d → n < o.length → (∀ z ∈ o, 0 ≤ z) → downGo (EG l) f (n + 1) (addAll o (L.drop m)) = some r → Ev (fun k => armadaref16_Down.l1 k l o (n : Int) L (m : Int)) r from H _ 0 o rfl hn ho h
        intro d
        induction d with
        | zero =>
          intro m o hd hno ho h
          rw [drop_end (by omega)] at h
          have hol := downGo_le _ _ _ _ h
          refine Ev.step (fun k => ?_) (ih (n + 1) o ho h)
          have : o.length ≤ r.length := hol
          rw [armadaref16_Down.l1, if_neg (by omega), wrap_up (by omega)]
        | succ d ih2 =>
          intro m o hd hno ho h
          obtain ⟨y, g1, g2, g3⟩ := rd_int (l := L) (n := m) (by omega)
          rw [g2] at h
          have hol := Nat.le_trans (addAll_le _ _) (downGo_le _ _ _ _ h)
          have hy0 := hnn y (List.mem_of_getElem? g3)
          refine Ev.step (f := fun k => (armadaref16_In.f k o y).bind fun t => if t = true then armadaref16_Down.l1 k l o (n : Int) L ((m + 1 : Nat) : Int) else armadaref16_Down.l1 k l (o ++ [y]) (n : Int) L ((m + 1 : Nat) : Int)) (fun k => ?_) ?_
          · rw [armadaref16_Down.l1, if_pos (by omega), if_pos (by omega), g1, if_pos (by omega), wrap_up (by omega)]
          · refine Ev.bind (In_ev o y (by omega)) ?_
            have hstep : addAll o (y :: L.drop (m + 1)) = addAll (if o.contains y = true then o else o ++ [y]) (L.drop (m + 1)) := rfl
            rw [hstep] at h
            cases hc : o.contains y with
            | true =>
              rw [hc, if_pos rfl] at h
              simpa using ih2 (m + 1) o (by omega) hno ho h
            | false =>
              rw [hc, if_neg (by simp)] at h
              simpa using ih2 (m + 1) (o ++ [y]) (by omega) (by simp; omega) (fun u hu => by
                rcases List.mem_append.1 hu with hu | hu
                · exact ho u hu
                · obtain rfl := List.mem_singleton.1 hu; exact hy0) h
    · rw [if_neg hn] at h
      obtain rfl := Option.some.inj h
      refine Ev.step (f := fun _ => some o) (fun k => ?_) (Ev.now _)
      rw [armadaref16_Down.l0, if_neg (by omega)]
theorem Down_ev (l : List S40) (hs : Short l) (hl : l.length ≤ 4294967290) (i : Nat) : ∃ r, Ev (fun k => armadaref16_Down.f k l (i : Int)) r ∧ (∀ z, z ∈ r ↔ 0 ≤ z ∧ Reach (EG l) i z.toNat) ∧ r.length ≤ l.length := by
  obtain ⟨r, h1, h2, h3⟩ := downGo_edges (edgyG l) (EG_nodup l) i (l.length + 1) (by omega)
  refine ⟨r, ?_, h2, h3⟩
  unfold armadaref16_Down.f
  refine Ev.bind (Edges_ev l hs (i : Int)) ?_
  exact Down_l0 l hs r (by omega) (l.length + 1) 0 (EG l i) (fun z hz => ((edgyG l).nn i z hz).1) h1

theorem reach_bad {l : List S40} (h : gcheck l ≠ 0) {i x : Nat} (r : Reach (EG l) i x) : False := by
  obtain ⟨c, z, hz, _⟩ := r.last
  rw [EG_bad h] at hz; cases hz
def cycB (l : List S40) (i : Nat) : Bool := if gcheck l = 0 then (belowOf (edgesOf l) i).getD i false else false
theorem cycB_iff {l : List S40} (i : Nat) : cycB l i = true ↔ Reach (EG l) i i := by
  unfold cycB
  by_cases h : gcheck l = 0
  · have hl := gcheck_len h
    rw [if_pos h, EG_ok h]
    exact below_iff (fun i z hz => by have := (edgy l).lt i z hz; omega) i i
  · rw [if_neg h]
    exact ⟨fun e => (by cases e), fun r => (reach_bad h r).elim⟩
theorem cycG_places (l : List S40) : placesOf l.length (cycB l) = cycG l := by
  unfold cycG
  by_cases h : gcheck l = 0
  · rw [if_pos h, cycOf_places]
    refine places_congr fun i _ => ?_
    unfold cycB; rw [if_pos h]
  · rw [if_neg h]
    unfold placesOf
    rw [List.filter_eq_nil_iff.2 (fun i _ => by unfold cycB; rw [if_neg h]; simp)]; rfl
theorem Cyclic_l0 (l : List S40) (hs : Short l) (hl : l.length ≤ 4294967290) : ∀ (d n : Nat), l.length - n = d → n ≤ l.length → Ev (fun k => armadaref16_Cyclic.l0 k l (placesOf n (cycB l)) (n : Int)) (placesOf l.length (cycB l)) := by
  intro d
  induction d with
  | zero =>
    intro n hd hn
    obtain rfl : n = l.length := by omega
    refine Ev.step (f := fun _ => some (placesOf l.length (cycB l))) (fun k => ?_) (Ev.now _)
    rw [armadaref16_Cyclic.l0, if_neg (by omega)]
  | succ d ih =>
    intro n hd hn
    obtain ⟨r, h1, h2, h3⟩ := Down_ev l hs hl n
    have hps := places_succ n (cycB l)
    have hpl := places_len n (cycB l)
    have hrc : r.contains (n : Int) = cycB l n := bool_ext (by
      rw [cycB_iff, List.contains_iff_mem, h2]
      simp)
    refine Ev.step (f := fun k => (armadaref16_Down.f k l (n : Int)).bind fun t => (armadaref16_In.f k t (n : Int)).bind fun u => if u = true then armadaref16_Cyclic.l0 k l (placesOf n (cycB l) ++ [(n : Int)]) ((n + 1 : Nat) : Int) else armadaref16_Cyclic.l0 k l (placesOf n (cycB l)) ((n + 1 : Nat) : Int)) (fun k => ?_) ?_
    · rw [armadaref16_Cyclic.l0, if_pos (by omega), if_pos (by omega), wrap_up (by omega)]
    · refine Ev.bind h1 (Ev.bind (In_ev r (n : Int) (by omega)) ?_)
      rw [hrc]
      have := ih (n + 1) (by omega) (by omega)
      rw [hps] at this
      cases hc : cycB l n with
      | true => rw [hc] at this; simpa using this
      | false => rw [hc] at this; simpa using this
theorem Cyclic_ev (l : List S40) (hs : Short l) (hl : l.length ≤ 4294967290) : Ev (fun k => armadaref16_Cyclic.f k l) (cycG l) := by
  have := Cyclic_l0 l hs hl _ 0 rfl (by omega)
  rw [cycG_places] at this
  exact this
end Go.Proofs.YtnfiigjignpkaaaGreatDoor

/- The document's answers of layer 16, in plain words: Order, Up, Small. -/
namespace Go.Proofs.YtnfiigjignpkaaaGreatDoor
open Go Go.RowKit Go.Proofs.YtnfiigjignpkaaaGreatDoorW.PrintWords Go.Proofs.YtnfiigjignpkaaaGreatDoor.K0 Go.Proofs.YtnfiigjignpkaaaGreatDoor.R1 Go.Proofs.YtnfiigjignpkaaaGreatDoor.R3
set_option linter.unusedVariables false
set_option linter.unusedSimpArgs false

theorem next_first {E : Nat → List Int} {n k : Nat} {o : List Int} (hz : nextOf E n o = (k : Int)) : canNext E o k = true ∧ ∀ j, j < k → canNext E o j = false := by
  rcases idxFrom_cases (canNext E o) (List.range n) 0 with ⟨m, x, h1, h2, h3, h4⟩ | ⟨h1, _⟩
  · have hm : m < n := by have := (List.getElem?_eq_some_iff.1 h1).1; simpa using this
    obtain rfl : m = x := by rw [List.getElem?_range hm] at h1; exact Option.some.inj h1
    rw [nextOf, h3] at hz
    obtain rfl : m = k := by omega
    refine ⟨h2, fun j hj => h4 j j hj (by rw [List.getElem?_range (by omega)])⟩
  · rw [nextOf, h1] at hz; omega
theorem Order_l0 (l : List S40) (hs : Short l) (h0 : gcheck l = 0) (hac : ∀ i, i < l.length → ¬ Reach (EG l) i i) : ∀ (f : Nat) (o : List Int), OrdOk (EG l) l.length o → l.length < f + o.length → Ev (fun k => armadaref16_Order.l0 k l o) (orderGo (EG l) l.length f o) := by
  have hl := gcheck_len h0
  intro f
  induction f with
  | zero => intro o ho h; have := nodup_le ho.nodup ho.sub; omega
  | succ f ih =>
    intro o ho hf
    have hol := nodup_le ho.nodup ho.sub
    have hcs := orderGo_cases (edgyG l) (f + 1) o ho hf
    by_cases hlt : o.length < l.length
    · rcases nextOf_cases (E := EG l) l.length o with ⟨k, hk, hz, hc⟩ | ⟨hz, _⟩
      · rw [orderGo_on hlt hz]
        obtain ⟨hck, hfirst⟩ := next_first hz
        obtain ⟨c1, c2⟩ := canNext_iff.1 hck
        have hnext := ih (o ++ [(k : Int)]) (.snoc ho (by omega) (by simpa using hk) c1 (by simpa using c2)) (by simp; omega)
        suffices H : ∀ (d j : Nat), k - j = d → j ≤ k → Ev (fun m => armadaref16_Order.l1 m l o (j : Int)) (orderGo (EG l) l.length f (o ++ [(k : Int)])) by
          refine Ev.step (fun m => ?_) (H k 0 rfl (by omega))
          rw [armadaref16_Order.l0, if_pos (by omega)]; rfl
        have hstep : ∀ (m j : Nat), j < l.length → armadaref16_Order.l1 (m + 1) l o (j : Int) = ((armadaref16_In.f m o (j : Int)).bind fun t => if t = true then armadaref16_Order.l1 m l o ((j + 1 : Nat) : Int) else (armadaref16_Edges.f m l (j : Int)).bind fun u => (armadaref16_all.f m u o).bind fun v => if v = true then armadaref16_Order.l0 m l (o ++ [(j : Int)]) else armadaref16_Order.l1 m l o ((j + 1 : Nat) : Int)) := by
          intro m j hj
          rw [armadaref16_Order.l1, if_pos (by omega), if_pos (by omega), wrap_up (by omega)]
        intro d
        induction d with
        | zero =>
          intro j hd hj
          obtain rfl : j = k := by omega
          refine Ev.step (fun m => hstep m j hk) (Ev.bind (In_ev o (j : Int) (by omega)) ?_)
          have e1 : o.contains (j : Int) = false := by simpa using c1
          rw [e1]
          simp only [Bool.false_eq_true, if_false]
          refine Ev.bind (Edges_ev l hs (j : Int)) (Ev.bind (all_ev _ o (by have := EG_len l j; unfold EG at this; omega) (by omega)) ?_)
          have e2 : ((edgesG l (j : Int)).all fun z => o.contains z) = true := by
            rw [List.all_eq_true]; intro z hz; simpa using c2 z hz
          rw [e2]
          simpa using hnext
        | succ d ih2 =>
          intro j hd hj
          have hjn : j < l.length := by omega
          have hno := hfirst j (by omega)
          have hrest := ih2 (j + 1) (by omega) (by omega)
          refine Ev.step (fun m => hstep m j hjn) (Ev.bind (In_ev o (j : Int) (by omega)) ?_)
          cases hc : o.contains (j : Int) with
          | true => simpa using hrest
          | false =>
            simp only [Bool.false_eq_true, if_false]
            refine Ev.bind (Edges_ev l hs (j : Int)) (Ev.bind (all_ev _ o (by have := EG_len l j; unfold EG at this; omega) (by omega)) ?_)
            have e2 : ((edgesG l (j : Int)).all fun z => o.contains z) = false := by
              unfold canNext at hno
              rw [hc] at hno
              simpa [EG] using hno
            rw [e2]
            simpa using hrest
      · exfalso
        rw [orderGo_stuck hlt hz] at hcs
        rcases hcs with ⟨o', e, _, hlen, _⟩ | ⟨_, i, hi, hr⟩
        · have := congrArg Prod.snd e
          cases this
        · exact hac i hi hr
    · rw [orderGo_stop hlt]
      refine Ev.step (f := fun _ => some (o, 0)) (fun k => ?_) (Ev.now _)
      rw [armadaref16_Order.l0, if_neg (by omega)]
theorem Order_ev (l : List S40) (hs : Short l) (hl : l.length ≤ 4294967290) : Ev (fun k => armadaref16_Order.f k l) (ordG l) := by
  unfold armadaref16_Order.f ordG
  refine Ev.bind (Check_ev l) ?_
  by_cases h0 : gcheck l = 0
  · have h12 := gcheck_len h0
    simp only [if_pos h0]
    refine Ev.bind (Cyclic_ev l hs hl) ?_
    unfold cycG
    rw [if_pos h0, ← EG_ok h0]
    rcases orderOf_cases (edgyG l) with ⟨o', e, ho, hlen, hac⟩ | ⟨e, i, hi, hr⟩
    · have hnil : cycOf (EG l) l.length = [] := by
        refine List.eq_nil_iff_forall_not_mem.2 fun z hz => ?_
        obtain ⟨_, hr⟩ := (mem_cycOf (edgyG l) h12).1 hz
        exact hac _ ((edgyG l).reach hr) hr
      rw [hnil]
      have hz : ¬ ((([] : List Int).length : Nat) : Int) > 0 := by simp
      simp only [if_neg hz]
      exact Order_l0 l hs h0 hac (l.length + 1) [] .nil (by simp)
    · have hne : (i : Int) ∈ cycOf (EG l) l.length := (mem_cycOf (edgyG l) h12).2 ⟨by omega, by simpa using hr⟩
      have hpos : ((cycOf (EG l) l.length).length : Int) > 0 := by have := List.length_pos_of_mem hne; omega
      simp only [if_pos hpos, e]
      exact Ev.now _
  · simp only [if_neg h0]
    exact Ev.now _

theorem Up_yes (l : List S40) (fr acc r : List Int) (n : Nat) (hfr : fr.length ≤ 9223372036854775807) (hr : r.length ≤ 4294967290) (hn : n ≤ 4294967290) (hac : acc.length ≤ n) (R : List Int)
    (hT : Ev (fun k => armadaref16_Up.l0 k l fr (acc ++ [(n : Int)]) ((n + 1 : Nat) : Int)) R) : ∀ (d m : Nat) (b : Bool), r.length - m = d → (b || (r.drop m).any fun z => fr.contains z) = true →
    Ev (fun k => armadaref16_Up.l1 k l fr acc (n : Int) r b (m : Int)) R := by
  intro d
  induction d with
  | zero =>
    intro m b hd hF
    rw [drop_end (by omega)] at hF
    obtain rfl : b = true := by simpa using hF
    refine Ev.step (fun k => ?_) hT
    rw [armadaref16_Up.l1, if_neg (by omega), if_pos rfl, if_pos (by omega), wrap_up (by omega)]
  | succ d ih =>
    intro m b hd hF
    obtain ⟨y, g1, g2, g3⟩ := rd_int (l := r) (n := m) (by omega)
    rw [g2, List.any_cons] at hF
    cases b with
    | true =>
      refine Ev.step (fun k => ?_) (ih (m + 1) true (by omega) rfl)
      rw [armadaref16_Up.l1, if_pos (by omega), if_pos rfl, wrap_up (by omega)]
    | false =>
      refine Ev.step (f := fun k => (armadaref16_In.f k fr y).bind fun t => armadaref16_Up.l1 k l fr acc (n : Int) r t ((m + 1 : Nat) : Int)) (fun k => ?_) (Ev.bind (In_ev fr y hfr) (ih (m + 1) (fr.contains y) (by omega) hF))
      rw [armadaref16_Up.l1, if_pos (by omega), if_neg (by simp), if_pos (by omega), g1, wrap_up (by omega)]
theorem Up_no (l : List S40) (fr acc r : List Int) (n : Nat) (hfr : fr.length ≤ 9223372036854775807) (hr : r.length ≤ 4294967290) (hn : n ≤ 4294967290) (R : List Int)
    (hT : Ev (fun k => armadaref16_Up.l0 k l fr acc ((n + 1 : Nat) : Int)) R) : ∀ (d m : Nat), r.length - m = d → ((r.drop m).any fun z => fr.contains z) = false →
    Ev (fun k => armadaref16_Up.l1 k l fr acc (n : Int) r false (m : Int)) R := by
  intro d
  induction d with
  | zero =>
    intro m hd hF
    refine Ev.step (fun k => ?_) hT
    rw [armadaref16_Up.l1, if_neg (by omega), if_neg (by simp), wrap_up (by omega)]
  | succ d ih =>
    intro m hd hF
    obtain ⟨y, g1, g2, g3⟩ := rd_int (l := r) (n := m) (by omega)
    rw [g2, List.any_cons, Bool.or_eq_false_iff] at hF
    have := ih (m + 1) (by omega) hF.2
    refine Ev.step (f := fun k => (armadaref16_In.f k fr y).bind fun t => armadaref16_Up.l1 k l fr acc (n : Int) r t ((m + 1 : Nat) : Int)) (fun k => ?_) (Ev.bind (In_ev fr y hfr) (by rw [hF.1]; exact this))
    rw [armadaref16_Up.l1, if_pos (by omega), if_neg (by simp), if_pos (by omega), g1, wrap_up (by omega)]
theorem Up_l0 (l : List S40) (hs : Short l) (h0 : gcheck l = 0) (fr : List Int) (hfr : fr.length ≤ 9223372036854775807) : ∀ (d n : Nat), l.length - n = d → n ≤ l.length → Ev (fun k => armadaref16_Up.l0 k l fr (placesOf n (isUp (EG l) l.length fr)) (n : Int)) (placesOf l.length (isUp (EG l) l.length fr)) := by
  have hl := gcheck_len h0
  intro d
  induction d with
  | zero =>
    intro n hd hn
    obtain rfl : n = l.length := by omega
    refine Ev.step (f := fun _ => some (placesOf l.length (isUp (EG l) l.length fr))) (fun k => ?_) (Ev.now _)
    rw [armadaref16_Up.l0, if_neg (by omega)]
  | succ d ih =>
    intro n hd hn
    obtain ⟨r, h1, h2, h3⟩ := Down_ev l hs (by omega) n
    have hps := places_succ n (isUp (EG l) l.length fr)
    have hpl := places_len n (isUp (EG l) l.length fr)
    have hnext := ih (n + 1) (by omega) (by omega)
    rw [hps] at hnext
    have hup : isUp (EG l) l.length fr n = (fr.contains (n : Int) || r.any fun z => fr.contains z) := bool_ext (by
      rw [isUp_iff (edgyG l) hl]
      simp only [Bool.or_eq_true, List.contains_iff_mem, List.any_eq_true, h2]
      constructor
      · rintro (h | ⟨z, hz, h, hr⟩)
        · exact .inl h
        · exact .inr ⟨z, ⟨h, hr⟩, hz⟩
      · rintro (h | ⟨z, ⟨h, hr⟩, hz⟩)
        · exact .inl h
        · exact .inr ⟨z, hz, h, hr⟩)
    refine Ev.step (f := fun k => (armadaref16_Down.f k l (n : Int)).bind fun t => (armadaref16_In.f k fr (n : Int)).bind fun u => armadaref16_Up.l1 k l fr (placesOf n (isUp (EG l) l.length fr)) (n : Int) t u 0) (fun k => ?_) (Ev.bind h1 (Ev.bind (In_ev fr (n : Int) hfr) ?_))
    · rw [armadaref16_Up.l0, if_pos (by omega)]
    · cases hu : isUp (EG l) l.length fr n with
      | true =>
        rw [hu, if_pos rfl] at hnext
        rw [hu] at hup
        exact Up_yes l fr _ r n hfr (by omega) (by omega) hpl _ hnext _ 0 _ rfl hup.symm
      | false =>
        rw [hu, if_neg (by simp), List.append_nil] at hnext
        rw [hu] at hup
        have hb : fr.contains (n : Int) = false := by
          have := hup.symm
          rw [Bool.or_eq_false_iff] at this; exact this.1
        have hany : (r.any fun z => fr.contains z) = false := by
          have := hup.symm
          rw [Bool.or_eq_false_iff] at this; exact this.2
        rw [hb]
        exact Up_no l fr _ r n hfr (by omega) (by omega) _ hnext _ 0 rfl hany
theorem Up_ev (l : List S40) (hs : Short l) (fr : List Int) (hfr : fr.length ≤ 9223372036854775807) : Ev (fun k => armadaref16_Up.f k l fr) (upG l fr) := by
  unfold armadaref16_Up.f upG
  refine Ev.bind (Check_ev l) ?_
  by_cases h0 : gcheck l = 0
  · simp only [if_pos h0]
    rw [← EG_ok h0]
    exact Up_l0 l hs h0 fr hfr _ 0 rfl (by omega)
  · simp only [if_neg h0]
    exact Ev.now _
end Go.Proofs.YtnfiigjignpkaaaGreatDoor

/- What the laws of layer 16 want in plain words: Small, the program's own answers, their lengths. -/
namespace Go.Proofs.YtnfiigjignpkaaaGreatDoor
open Go Go.RowKit Go.Proofs.YtnfiigjignpkaaaGreatDoorW.PrintWords Go.Proofs.YtnfiigjignpkaaaGreatDoor.K0 Go.Proofs.YtnfiigjignpkaaaGreatDoor.R1 Go.Proofs.YtnfiigjignpkaaaGreatDoor.R3
set_option linter.unusedVariables false
set_option linter.unusedSimpArgs false

theorem Ev.then {α : Type} {g : Nat → Option α} {r : α} {f : Nat → α → Option Bool} (h : Ev g r) (k : Ev (fun n => f n r) true) : Ev (fun n => (g n).bind (f n)) true := Ev.bind h k
theorem Same_self (a : List Int) (hl : a.length ≤ 9223372036854775807) : Ev (fun k => armadaref16_Same.f k a a) true := by
  have := Same_ev a a hl
  rwa [decide_eq_true rfl] at this
theorem Same_eq {a b : List Int} (h : a = b) (hl : a.length ≤ 9223372036854775807) : Ev (fun k => armadaref16_Same.f k a b) true := by
  subst h; exact Same_self a hl
theorem live_ev : Ev (fun _ => armadalaw16_live.f) true := Ev.now true
theorem live_end : Ev (fun _ => (armadalaw16_live.f).bind fun t => some t) true := Ev.now true
theorem gCheck_ev (l : List S40) : Ev (fun _ => graph_Check.f l) (gcheck l) := Ev.now _
theorem gOrder_ev {l : List S40} (hl : l.length ≤ 4294967290) : Ev (fun _ => graph_Order.f l) (ordG l) := by unfold graph_Order.f; rw [if_pos hl]; exact Ev.now _
theorem gCyclic_ev {l : List S40} (hl : l.length ≤ 4294967290) : Ev (fun _ => graph_Cyclic.f l) (cycG l) := by unfold graph_Cyclic.f; rw [if_pos hl]; exact Ev.now _
theorem gUp_ev {l : List S40} (hl : l.length ≤ 4294967290) (fr : List Int) : Ev (fun _ => graph_Up.f l fr) (upG l fr) := by unfold graph_Up.f; rw [if_pos hl]; exact Ev.now _
theorem gEdges_ev {l : List S40} (hl : l.length ≤ 4294967290) (i : Int) : Ev (fun _ => graph_Edges.f l i) (edgesG l i) := by unfold graph_Edges.f; rw [if_pos hl]; exact Ev.now _

theorem edgesG_len (l : List S40) (i : Int) : (edgesG l i).length ≤ l.length := by
  unfold edgesG
  split
  · split
    · split
      · exact nodup_le (edgesOf_nodup l _) (fun z hz => edgesOf_nn l _ z hz)
      · exact Nat.zero_le _
    · exact Nat.zero_le _
  · exact Nat.zero_le _
theorem cycG_len (l : List S40) : (cycG l).length ≤ l.length := by
  rw [← cycG_places]; exact places_len _ _
theorem upG_len (l : List S40) (fr : List Int) : (upG l fr).length ≤ l.length := by
  unfold upG
  split
  · exact places_len _ _
  · exact Nat.zero_le _
theorem ordG_len (l : List S40) : (ordG l).1.length ≤ l.length := by
  unfold ordG
  split
  · rcases orderOf_cases (edgy l) with ⟨o, e, _, h, _⟩ | ⟨e, _⟩
    · rw [e]; exact Nat.le_of_eq h
    · rw [e]; exact Nat.zero_le _
  · exact Nat.zero_le _

def Little (l : List S40) (b : Bool) : Prop := b = true → l.length ≤ 20 ∧ ∀ x ∈ l, x.f2.length ≤ 30
theorem small_no (l : List S40) (i : Int) : Ev (fun k => armadaref16_Small.j1 k l i true) false := by
  refine Ev.step (f := fun _ => some false) (fun k => ?_) (Ev.now _)
  rw [armadaref16_Small.j1, if_pos rfl]
theorem small_l0 (l : List S40) (hl : l.length ≤ 9223372036854775807) (hs : Short l) : ∀ (d n : Nat), l.length - n = d → ∃ b, Ev (fun k => armadaref16_Small.l0 k l (n : Int)) b ∧ (b = true → l.length ≤ 20 ∧ ∀ x ∈ l.drop n, x.f2.length ≤ 30) := by
  intro d
  induction d with
  | zero =>
    intro n hd
    refine ⟨decide ((l.length : Int) ≤ 20), Ev.step (f := fun _ => some (decide ((l.length : Int) ≤ 20))) (fun k => ?_) (Ev.now _), fun h => ⟨by have := of_decide_eq_true h; omega, ?_⟩⟩
    · rw [armadaref16_Small.l0, if_neg (by omega)]
    · rw [drop_end (by omega)]; intro x hx; cases hx
  | succ d ih =>
    intro n hd
    obtain ⟨x, h1, h2, h3⟩ := rd_mod (l := l) (n := n) (by omega)
    obtain ⟨b0, hb0, hB0⟩ := ih (n + 1) (by omega)
    have hxs := hs x (List.mem_of_getElem? h3)
    have hno : ∀ {g : Nat → Option Bool}, Ev g false → ∃ b, Ev g b ∧ (b = true → l.length ≤ 20 ∧ ∀ y ∈ l.drop n, y.f2.length ≤ 30) := fun h => ⟨false, h, fun e => by cases e⟩
    by_cases c1 : (x.f1.size : Int) > 200
    · refine hno (Ev.step (fun k => ?_) (small_no l (n : Int)))
      rw [armadaref16_Small.l0, if_pos (by omega), if_pos (by omega), h1, if_pos c1]
    by_cases c2 : (x.f0.size : Int) > 200
    · refine hno (Ev.step (fun k => ?_) (small_no l (n : Int)))
      rw [armadaref16_Small.l0, if_pos (by omega), if_pos (by omega), h1, if_neg c1, if_pos c2]
    by_cases c3 : (x.f2.length : Int) > 30
    · refine hno (Ev.step (fun k => ?_) (small_no l (n : Int)))
      rw [armadaref16_Small.l0, if_pos (by omega), if_pos (by omega), h1, if_neg c1, if_neg c2, decide_eq_true c3]
    suffices H : ∀ (e m : Nat), x.f2.length - m = e → ∃ b, Ev (fun k => armadaref16_Small.l1 k l (n : Int) (m : Int)) b ∧ (b = true → b0 = true) by
      obtain ⟨b, hb, hB⟩ := H _ 0 rfl
      refine ⟨b, Ev.step (f := fun k => armadaref16_Small.j1 k l (n : Int) false) (fun k => ?_) (Ev.step (fun k => ?_) hb), fun e => ?_⟩
      · rw [armadaref16_Small.l0, if_pos (by omega), if_pos (by omega), h1, if_neg c1, if_neg c2, decide_eq_false c3]
      · rw [armadaref16_Small.j1, if_neg (by simp)]; rfl
      · obtain ⟨g1, g2⟩ := hB0 (hB e)
        refine ⟨g1, fun y hy => ?_⟩
        rw [h2] at hy
        rcases List.mem_cons.1 hy with rfl | hy
        · omega
        · exact g2 y hy
    intro e
    induction e with
    | zero =>
      intro m hm
      refine ⟨b0, Ev.step (fun k => ?_) hb0, id⟩
      rw [armadaref16_Small.l1, if_pos (by omega), if_pos (by omega), h1, if_neg (by omega), wrap_up (by omega)]
    | succ e ih2 =>
      intro m hm
      obtain ⟨y, g1, g2, g3⟩ := rd_req (l := x.f2) (n := m) (by omega)
      obtain ⟨b, hb, hB⟩ := ih2 (m + 1) (by omega)
      have hstep : ∀ k, armadaref16_Small.l1 (k + 1) l (n : Int) (m : Int) = if (y.f0.size : Int) > 200 then some false else if (y.f1.f3.size : Int) > 200 then some false else if (y.f1.f4.size : Int) > 200 then some false else armadaref16_Small.l1 k l (n : Int) ((m + 1 : Nat) : Int) := by
        intro k
        rw [armadaref16_Small.l1, if_pos (by omega), if_pos (by omega), h1, if_pos (by omega), if_pos (by omega), g1, wrap_up (by omega)]
      by_cases d1 : (y.f0.size : Int) > 200
      · exact ⟨false, Ev.step (f := fun _ => some false) (fun k => by rw [hstep, if_pos d1]) (Ev.now _), fun e => by cases e⟩
      by_cases d2 : (y.f1.f3.size : Int) > 200
      · exact ⟨false, Ev.step (f := fun _ => some false) (fun k => by rw [hstep, if_neg d1, if_pos d2]) (Ev.now _), fun e => by cases e⟩
      by_cases d3 : (y.f1.f4.size : Int) > 200
      · exact ⟨false, Ev.step (f := fun _ => some false) (fun k => by rw [hstep, if_neg d1, if_neg d2, if_pos d3]) (Ev.now _), fun e => by cases e⟩
      exact ⟨b, Ev.step (fun k => by rw [hstep, if_neg d1, if_neg d2, if_neg d3]) hb, hB⟩
theorem Small_ev (l : List S40) (hl : l.length ≤ 9223372036854775807) (hs : Short l) : ∃ b, Ev (fun k => armadaref16_Small.f k l) b ∧ (b = true → l.length ≤ 20 ∧ ∀ x ∈ l, x.f2.length ≤ 30) := small_l0 l hl hs _ 0 rfl
end Go.Proofs.YtnfiigjignpkaaaGreatDoor
