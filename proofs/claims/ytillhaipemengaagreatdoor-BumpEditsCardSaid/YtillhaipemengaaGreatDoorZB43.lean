/- The texts BpSm, BpPr in one file, without what these claims do not use (put together by prune2.py). -/
import Derived.Test.YtillhaipemengaaGreatDoorZB42
section
namespace Go.Proofs.YtillhaipemengaaGreatDoor.Sm
open Go Go.RowKit Go.Proofs Go.Proofs.YtillhaipemengaaGreatDoor Go.Proofs.YtillhaipemengaaGreatDoorW.PrintWords Go.Proofs.YtillhaipemengaaGreatDoor.K0 Go.Proofs.YtillhaipemengaaGreatDoor.RS
set_option linter.unusedVariables false
set_option linter.unusedSimpArgs false
theorem wrap_up {n : Nat} (h : n < 9223372036854775807) : wrap64 ((n : Int) + 1) = ((n + 1 : Nat) : Int) := by
  rw [wrap_id (by omega) (by omega)]; omega
theorem drop_end {α : Type} {l : List α} {n : Nat} (h : ¬ n < l.length) : l.drop n = [] := List.drop_eq_nil_of_le (by omega)
theorem rd_mod {l : List S63} {n : Nat} (h : n < l.length) : ∃ x, rd_T63 l (n : Int) = x ∧ l.drop n = x :: l.drop (n + 1) ∧ l[n]? = some x := by
  refine ⟨l[n], ?_, List.drop_eq_getElem_cons h, List.getElem?_eq_getElem h⟩
  unfold rd_T63
  rw [Int.toNat_natCast, List.getD_eq_getElem?_getD, List.getElem?_eq_getElem h]; rfl
theorem rd_req {l : List S69} {n : Nat} (h : n < l.length) : ∃ x, rd_T69 l (n : Int) = x ∧ l.drop n = x :: l.drop (n + 1) ∧ l[n]? = some x := by
  refine ⟨l[n], ?_, List.drop_eq_getElem_cons h, List.getElem?_eq_getElem h⟩
  unfold rd_T69
  rw [Int.toNat_natCast, List.getD_eq_getElem?_getD, List.getElem?_eq_getElem h]; rfl
def Short (l : List S63) : Prop := ∀ x ∈ l, x.f2.length ≤ 9223372036854775807
theorem small_no (l : List S63) (i : Int) : Ev (fun k => armadaref16_Small.j1 k l i true) false := by
  refine Ev.step (f := fun _ => some false) (fun k => ?_) (Ev.now _)
  rw [armadaref16_Small.j1, if_pos rfl]
theorem small_l0 (l : List S63) (hl : l.length ≤ 9223372036854775807) (hs : Short l) : ∀ (d n : Nat), l.length - n = d → ∃ b, Ev (fun k => armadaref16_Small.l0 k l (n : Int)) b ∧ (b = true → l.length ≤ 20 ∧ ∀ x ∈ l.drop n, x.f2.length ≤ 30) := by
  intro d
  induction d with
  | zero =>
    intro n hd
    refine ⟨decide ((l.length : Int) ≤ 20), Ev.step (f := fun _ => some (decide ((l.length : Int) ≤ 20))) (fun k => ?_) (Ev.now _), fun h => ⟨by have := of_decide_eq_true h; omega, ?_⟩⟩
    · rw [armadaref16_Small.l0, if_neg (by omega)]
    · rw [drop_end (by omega)]; intro x hx; cases hx
  | succ d ih =>
    intro n hd
    obtain ⟨x, h1, h2, h3⟩ := rd_mod (l := l) (n := n) (by omega)
    obtain ⟨b0, hb0, hB0⟩ := ih (n + 1) (by omega)
    have hxs := hs x (List.mem_of_getElem? h3)
    have hno : ∀ {g : Nat → Option Bool}, Ev g false → ∃ b, Ev g b ∧ (b = true → l.length ≤ 20 ∧ ∀ y ∈ l.drop n, y.f2.length ≤ 30) := fun h => ⟨false, h, fun e => by cases e⟩
    by_cases c1 : (x.f1.size : Int) > 200
    · refine hno (Ev.step (fun k => ?_) (small_no l (n : Int)))
      rw [armadaref16_Small.l0, if_pos (by omega), if_pos (by omega), h1, if_pos c1]
    by_cases c2 : (x.f0.size : Int) > 200
    · refine hno (Ev.step (fun k => ?_) (small_no l (n : Int)))
      rw [armadaref16_Small.l0, if_pos (by omega), if_pos (by omega), h1, if_neg c1, if_pos c2]
    by_cases c3 : (x.f2.length : Int) > 30
    · refine hno (Ev.step (fun k => ?_) (small_no l (n : Int)))
      rw [armadaref16_Small.l0, if_pos (by omega), if_pos (by omega), h1, if_neg c1, if_neg c2, decide_eq_true c3]
    suffices H : ∀ (e m : Nat), x.f2.length - m = e → ∃ b, Ev (fun k => armadaref16_Small.l1 k l (n : Int) (m : Int)) b ∧ (b = true → b0 = true) by
      obtain ⟨b, hb, hB⟩ := H _ 0 rfl
      refine ⟨b, Ev.step (f := fun k => armadaref16_Small.j1 k l (n : Int) false) (fun k => ?_) (Ev.step (fun k => ?_) hb), fun e => ?_⟩
      · rw [armadaref16_Small.l0, if_pos (by omega), if_pos (by omega), h1, if_neg c1, if_neg c2, decide_eq_false c3]
      · rw [armadaref16_Small.j1, if_neg (by simp)]; rfl
      · obtain ⟨g1, g2⟩ := hB0 (hB e)
        refine ⟨g1, fun y hy => ?_⟩
        rw [h2] at hy
        rcases List.mem_cons.1 hy with rfl | hy
        · omega
        · exact g2 y hy
    intro e
    induction e with
    | zero =>
      intro m hm
      refine ⟨b0, Ev.step (fun k => ?_) hb0, id⟩
      rw [armadaref16_Small.l1, if_pos (by omega), if_pos (by omega), h1, if_neg (by omega), wrap_up (by omega)]
    | succ e ih2 =>
      intro m hm
      obtain ⟨y, g1, g2, g3⟩ := rd_req (l := x.f2) (n := m) (by omega)
      obtain ⟨b, hb, hB⟩ := ih2 (m + 1) (by omega)
      have hstep : ∀ k, armadaref16_Small.l1 (k + 1) l (n : Int) (m : Int) = if (y.f0.size : Int) > 200 then some false else if (y.f1.f3.size : Int) > 200 then some false else if (y.f1.f4.size : Int) > 200 then some false else armadaref16_Small.l1 k l (n : Int) ((m + 1 : Nat) : Int) := by
        intro k
        rw [armadaref16_Small.l1, if_pos (by omega), if_pos (by omega), h1, if_pos (by omega), if_pos (by omega), g1, wrap_up (by omega)]
      by_cases d1 : (y.f0.size : Int) > 200
      · exact ⟨false, Ev.step (f := fun _ => some false) (fun k => by rw [hstep, if_pos d1]) (Ev.now _), fun e => by cases e⟩
      by_cases d2 : (y.f1.f3.size : Int) > 200
      · exact ⟨false, Ev.step (f := fun _ => some false) (fun k => by rw [hstep, if_neg d1, if_pos d2]) (Ev.now _), fun e => by cases e⟩
      by_cases d3 : (y.f1.f4.size : Int) > 200
      · exact ⟨false, Ev.step (f := fun _ => some false) (fun k => by rw [hstep, if_neg d1, if_neg d2, if_pos d3]) (Ev.now _), fun e => by cases e⟩
      exact ⟨b, Ev.step (fun k => by rw [hstep, if_neg d1, if_neg d2, if_neg d3]) hb, hB⟩
theorem Small_ev (l : List S63) (hl : l.length ≤ 9223372036854775807) (hs : Short l) : ∃ b, Ev (fun k => armadaref16_Small.f k l) b ∧ (b = true → l.length ≤ 20 ∧ ∀ x ∈ l, x.f2.length ≤ 30) := small_l0 l hl hs _ 0 rfl
theorem wrap_s {n : Nat} (h : n < 9223372036854775807) : wrap64 ((n : Int) + 1) = ((n + 1 : Nat) : Int) := by unfold wrap64; omega
/-- Is a tag of little? -/
def littleT (t : Tg) : Bool := decide (t.f0.size ≤ 200) && (decide (t.f2.size ≤ 200) && (decide (t.f1.f3.size ≤ 200) && decide (t.f1.f4.size ≤ 200)))
theorem few_l0 (l : List Tg) (hl : l.length ≤ 9223372036854775807) : ∀ (d n k : Nat), l.length - n = d → n ≤ l.length → d < k → armadaref15_Few.l0 k l (n : Int) = some ((l.drop n).all littleT && decide (l.length ≤ 60)) := by
  intro d
  induction d with
  | zero =>
    intro n k hd hn hk
    obtain ⟨k, rfl⟩ : ∃ m, k = m + 1 := ⟨k - 1, by omega⟩
    simp only [armadaref15_Few.l0]
    rw [if_neg (by omega), List.drop_eq_nil_of_le (by omega)]
    simp
    omega
  | succ d ih =>
    intro n k hd hn hk
    obtain ⟨k, rfl⟩ : ∃ m, k = m + 1 := ⟨k - 1, by omega⟩
    obtain ⟨x, h1, h2, h3⟩ := rdT_at (l := l) (n := n) (by omega)
    simp only [armadaref15_Few.l0]
    rw [if_pos (by omega), if_pos (by omega), h1, wrap_s (by omega), ih (n + 1) k (by omega) (by omega) (by omega), h2, List.all_cons]
    unfold littleT
    by_cases a1 : x.f0.size ≤ 200
    · rw [if_neg (by omega), decide_eq_true a1]
      by_cases a2 : x.f2.size ≤ 200
      · rw [if_neg (by omega), decide_eq_true a2]
        by_cases a3 : x.f1.f3.size ≤ 200
        · rw [if_neg (by omega), decide_eq_true a3]
          by_cases a4 : x.f1.f4.size ≤ 200
          · rw [if_neg (by omega), decide_eq_true a4]; simp
          · rw [if_pos (by omega), decide_eq_false a4]; simp
        · rw [if_pos (by omega), decide_eq_false a3]; simp
      · rw [if_pos (by omega), decide_eq_false a2]; simp
    · rw [if_pos (by omega), decide_eq_false a1]; simp
def fewT (l : List Tg) : Bool := l.all littleT && decide (l.length ≤ 60)
theorem few_f (l : List Tg) (hl : l.length ≤ 9223372036854775807) (k : Nat) (hk : l.length < k) : armadaref15_Few.f k l = some (fewT l) := by
  have := few_l0 l hl _ 0 k rfl (by omega) (by omega)
  rw [List.drop_zero] at this
  exact this
theorem few_len {l : List Tg} (h : fewT l = true) : l.length ≤ 60 ∧ ∀ t ∈ l, t.f2.size ≤ 200 := by
  unfold fewT at h
  rw [Bool.and_eq_true, decide_eq_true_eq] at h
  refine ⟨h.2, fun t ht => ?_⟩
  have := List.all_eq_true.1 h.1 t ht
  unfold littleT at this
  simp only [Bool.and_eq_true, decide_eq_true_eq] at this
  exact this.2.1
end Go.Proofs.YtillhaipemengaaGreatDoor.Sm
end

section
namespace Go.Proofs.YtillhaipemengaaGreatDoor
open Go Go.RowKit Go.Proofs Go.Proofs.YtillhaipemengaaGreatDoorW.PrintWords Go.Proofs.YtillhaipemengaaGreatDoor.K0 Go.Proofs.YtillhaipemengaaGreatDoor.RS Go.Proofs.YtillhaipemengaaGreatDoor.Sm
set_option linter.unusedVariables false
set_option linter.unusedSimpArgs false
abbrev WtR := S61
theorem ev_from {β : Type} (N : Nat) (G : Nat → Nat → Option β) (r : Nat → β) (h0 : Ev (fun k => G k N) (r N)) (hs : ∀ n, n < N → Ev (fun k => G k (n + 1)) (r (n + 1)) → Ev (fun k => G k n) (r n)) (n : Nat) (hn : n ≤ N) : Ev (fun k => G k n) (r n) := by
  obtain ⟨d, hd⟩ : ∃ d, d = N - n := ⟨_, rfl⟩
  induction d generalizing n with
  | zero => have : n = N := by omega
            subst this; exact h0
  | succ d ih => exact hs n (by omega) (ih (n + 1) (by omega) (by omega))
theorem ev_some {α : Type} {r s : α} (h : r = s) : Ev (fun _ => some r) s := by subst h; exact Ev.now r
theorem rdWt_at {l : List WtR} {n : Nat} (h : n < l.length) : ∃ x, rd_T61 l (n : Int) = x ∧ l.drop n = x :: l.drop (n + 1) ∧ l[n]? = some x :=
  ⟨l[n], by unfold rd_T61; rw [Int.toNat_natCast, List.getD_eq_getElem?_getD, List.getElem?_eq_getElem h]; rfl, List.drop_eq_getElem_cons h, List.getElem?_eq_getElem h⟩
theorem rdL_at {l : List Rl} {n : Nat} (h : n < l.length) : ∃ x, rd_T30 l (n : Int) = x ∧ l.drop n = x :: l.drop (n + 1) ∧ l[n]? = some x :=
  ⟨l[n], by unfold rd_T30; rw [Int.toNat_natCast, List.getD_eq_getElem?_getD, List.getElem?_eq_getElem h]; rfl, List.drop_eq_getElem_cons h, List.getElem?_eq_getElem h⟩
theorem few18_ev (l : List WtR) (hl : l.length ≤ 9223372036854775807) : Ev (fun k => armadaref18_Few.f k l) (l.all (fun x => decide (x.f0.size ≤ 200)) && decide (l.length ≤ 20)) := by
  refine ev_from l.length (fun k n => armadaref18_Few.l0 k l (n : Int)) (fun n => (l.drop n).all (fun x => decide (x.f0.size ≤ 200)) && decide (l.length ≤ 20)) ?_ ?_ 0 (Nat.zero_le _)
  · refine Ev.step (f := fun k => some (decide ((l.length : Int) ≤ 20))) (fun k => by simp only [armadaref18_Few.l0]; rw [if_neg (by omega)]) (ev_some ?_)
    rw [List.drop_eq_nil_of_le (Nat.le_refl _), List.all_nil, Bool.true_and]
    exact decide_eq_decide.2 (by omega)
  · intro n hn hi
    obtain ⟨x, h1, h2, h3⟩ := rdWt_at hn
    refine Ev.step (f := fun k => if x.f0.size ≤ 200 then armadaref18_Few.l0 k l ((n + 1 : Nat) : Int) else some false) (fun k => ?_) ?_
    · simp only [armadaref18_Few.l0]
      rw [if_pos (by omega), if_pos (by omega), h1, wrap_s (by omega)]
      by_cases a1 : x.f0.size ≤ 200
      · rw [if_neg (by omega), if_pos a1]
      · rw [if_pos (by omega), if_neg a1]
    · simp only [h2, List.all_cons]
      by_cases a1 : x.f0.size ≤ 200
      · simpa only [a1, decide_true, Bool.true_and, if_true] using hi
      · simp only [a1, decide_false, Bool.false_and, if_false]; exact Ev.now false
theorem small18 (l0 : List Md) (l1 : List Tg) (l2 : List Int) (l3 : List WtR) (h0 : l0.length ≤ 9223372036854775807) (hs : Short l0) (h1 : l1.length ≤ 9223372036854775807) (h3 : l3.length ≤ 9223372036854775807) :
    ∃ b, Ev (fun k => armadalaw18_small.f k l0 l1 l2 l3) b ∧ (b = true → l0.length ≤ 20 ∧ (∀ x ∈ l0, x.f2.length ≤ 30) ∧ l1.length ≤ 60 ∧ l2.length ≤ 30 ∧ l3.length ≤ 20) := by
  obtain ⟨b0, hb0, hB0⟩ := Small_ev l0 h0 hs
  have hf : Ev (fun k => armadaref15_Few.f k l1) (fewT l1) := ⟨l1.length + 1, fun k hk => few_f l1 h1 k (by omega)⟩
  have hw := few18_ev l3 h3
  unfold armadalaw18_small.f
  cases b0 with
  | false => exact ⟨false, Ev.bind hb0 (Ev.now false), fun e => by cases e⟩
  | true =>
    cases hb : fewT l1 with
    | false =>
      rw [hb] at hf
      exact ⟨false, Ev.bind hb0 (Ev.bind hf (Ev.now false)), fun e => by cases e⟩
    | true =>
      have hb' := few_len hb
      rw [hb] at hf
      by_cases hc : (l2.length : Int) ≤ 30
      · refine ⟨l3.all (fun x => decide (x.f0.size ≤ 200)) && decide (l3.length ≤ 20), Ev.bind hb0 (Ev.bind hf ?_), fun e => ?_⟩
        · simp only [if_true, if_pos hc]
          exact Ev.bind hw (Ev.now _)
        · rw [Bool.and_eq_true, decide_eq_true_eq] at e
          exact ⟨(hB0 rfl).1, (hB0 rfl).2, hb'.1, by omega, e.2⟩
      · refine ⟨false, Ev.bind hb0 (Ev.bind hf ?_), fun e => by cases e⟩
        simp only [if_true, if_neg hc]
        exact Ev.now false
def toWt (x : WtR) : Wt := ⟨x.f0, x.f1⟩
theorem own18 (l : List WtR) (hl : l.length ≤ 1000000) : Ev (fun k => armadalaw18_own.f k l) (l.map toWt) := by
  refine ev_from l.length (fun k n => armadalaw18_own.l0 k l ((l.take n).map toWt) (n : Int)) (fun n => l.map toWt) ?_ ?_ 0 (Nat.zero_le _)
  · refine Ev.step (f := fun k => some ((l.take l.length).map toWt)) (fun k => by simp only [armadalaw18_own.l0]; rw [if_neg (by omega)]) (ev_some (by rw [List.take_length]))
  · intro n hn h
    obtain ⟨x, h1, h2, h3⟩ := rdWt_at hn
    refine Ev.step (f := fun k => armadalaw18_own.l0 k l ((l.take (n + 1)).map toWt) ((n + 1 : Nat) : Int)) (fun k => ?_) h
    simp only [armadalaw18_own.l0]
    rw [if_pos (by omega), if_pos (by omega), if_pos (by rw [List.length_map, List.length_take]; omega), h1, wrap_s (by omega), List.take_add_one, h3, List.map_append]
    rfl
theorem rel18 {l0 : List Md} {l1 : List Tg} {l2 : List Int} {l3 : List Wt} (h0 : l0.length ≤ 20) (h1 : l1.length ≤ 60) (h2 : l2.length ≤ 31) (h3 : l3.length ≤ 20) : bump_Releases.f l0 l1 l2 l3 = some (relOf l0 l1 l2 l3) := by
  unfold bump_Releases.f; rw [if_pos ⟨by omega, by omega, by omega, by omega⟩]
theorem live18 : Ev (fun _ => (armadalaw18_live.f).bind fun t => some t) true := Ev.now true
theorem ba_list {a b : ByteArray} : a.toList = b.toList ↔ a = b := by
  rw [ByteArray.toList_eq, ByteArray.toList_eq]
  exact ⟨fun h => by_data h, fun h => by rw [h]⟩
end Go.Proofs.YtillhaipemengaaGreatDoor
end
