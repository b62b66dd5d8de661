/- The texts MvPr in one file, without what these claims do not use (put together by prune2.py). -/
import Derived.Test.YtkidfclnakbgiaaGreatDoorZT39
import Derived.Test.YtkidfclnakbgiaaGreatDoorZT41
section
namespace Go.Proofs.YtkidfclnakbgiaaGreatDoor
open Go Go.RowKit Go.Proofs Go.Proofs.YtkidfclnakbgiaaGreatDoorW.PrintWords Go.Proofs.YtkidfclnakbgiaaGreatDoor.K0 Go.Proofs.YtkidfclnakbgiaaGreatDoor.RD Go.Proofs.YtkidfclnakbgiaaGreatDoor.RS Go.Proofs.YtkidfclnakbgiaaGreatDoor.RO
set_option linter.unusedVariables false
set_option linter.unusedSimpArgs false
theorem ev_from {β : Type} (N : Nat) (G : Nat → Nat → Option β) (r : Nat → β) (h0 : Ev (fun k => G k N) (r N)) (hs : ∀ n, n < N → Ev (fun k => G k (n + 1)) (r (n + 1)) → Ev (fun k => G k n) (r n)) (n : Nat) (hn : n ≤ N) : Ev (fun k => G k n) (r n) := by
  obtain ⟨d, hd⟩ : ∃ d, d = N - n := ⟨_, rfl⟩
  induction d generalizing n with
  | zero => have : n = N := by omega
            subst this; exact h0
  | succ d ih => exact hs n (by omega) (ih (n + 1) (by omega) (by omega))
theorem ev_some {α : Type} {r s : α} (h : r = s) : Ev (fun _ => some r) s := by subst h; exact Ev.now r
theorem wrap_s {n : Nat} (h : n < 9223372036854775807) : wrap64 ((n : Int) + 1) = ((n + 1 : Nat) : Int) := by unfold wrap64; omega
theorem rdR_at {l : List Rq} {n : Nat} (h : n < l.length) : ∃ x, rd_T27 l (n : Int) = x ∧ l.drop n = x :: l.drop (n + 1) ∧ l[n]? = some x :=
  ⟨l[n], by unfold rd_T27; rw [Int.toNat_natCast, List.getD_eq_getElem?_getD, List.getElem?_eq_getElem h]; rfl, List.drop_eq_getElem_cons h, List.getElem?_eq_getElem h⟩
theorem rdN_at {l : List NdR} {n : Nat} (h : n < l.length) : ∃ x, rd_T46 l (n : Int) = x ∧ l.drop n = x :: l.drop (n + 1) ∧ l[n]? = some x :=
  ⟨l[n], by unfold rd_T46; rw [Int.toNat_natCast, List.getD_eq_getElem?_getD, List.getElem?_eq_getElem h]; rfl, List.drop_eq_getElem_cons h, List.getElem?_eq_getElem h⟩
theorem ba_list {a b : ByteArray} : a.toList = b.toList ↔ a = b := by
  rw [ByteArray.toList_eq, ByteArray.toList_eq]
  exact ⟨fun h => by_data h, fun h => by rw [h]⟩
/-- Is a requirement of little? -/
def litR (x : Rq) : Bool := decide (x.f0.size ≤ 200) && (decide (x.f1.f3.size ≤ 200) && decide (x.f1.f4.size ≤ 200))
def fewB (l : List Rq) : Bool := l.all litR && decide (l.length ≤ 12)
theorem few_f (l : List Rq) (hl : l.length ≤ 9223372036854775807) : Ev (fun k => armadaref17_few.f k l) (fewB l) := by
  refine ev_from l.length (fun k n => armadaref17_few.l0 k l (n : Int)) (fun n => (l.drop n).all litR && decide (l.length ≤ 12)) ?_ ?_ 0 (Nat.zero_le _)
  · refine Ev.step (f := fun k => some (decide ((l.length : Int) ≤ 12))) (fun k => by simp only [armadaref17_few.l0]; rw [if_neg (by omega)]) (ev_some ?_)
    rw [List.drop_eq_nil_of_le (Nat.le_refl _), List.all_nil, Bool.true_and]
    exact decide_eq_decide.2 (by omega)
  · intro n hn hi
    obtain ⟨x, h1, h2, h3⟩ := rdR_at hn
    refine Ev.step (f := fun k => if litR x = true then armadaref17_few.l0 k l ((n + 1 : Nat) : Int) else some false) (fun k => ?_) ?_
    · simp only [armadaref17_few.l0]
      rw [if_pos (by omega), if_pos (by omega), h1, wrap_s (by omega)]
      unfold litR
      by_cases a1 : x.f0.size ≤ 200
      · rw [if_neg (by omega), decide_eq_true a1]
        by_cases a2 : x.f1.f3.size ≤ 200
        · rw [if_neg (by omega), decide_eq_true a2]
          by_cases a3 : x.f1.f4.size ≤ 200
          · rw [if_neg (by omega), decide_eq_true a3]; simp
          · rw [if_pos (by omega), decide_eq_false a3]; simp
        · rw [if_pos (by omega), decide_eq_false a2]; simp
      · rw [if_pos (by omega), decide_eq_false a1]; simp
    · simp only [h2, List.all_cons]
      cases hx : litR x
      · simp only [Bool.false_and]; exact Ev.now false
      · simpa only [Bool.true_and, if_true] using hi
def smallB (l0 : List Rq) (l1 : List NdR) : Bool := l1.all (fun x => fewB x.f1 && fewB [x.f0]) && (fewB l0 && decide (l1.length ≤ 20))
theorem small_f (l0 : List Rq) (l1 : List NdR) (hl : l0.length ≤ 9223372036854775807) (hl1 : l1.length ≤ 9223372036854775807) (hi : ∀ x ∈ l1, x.f1.length ≤ 9223372036854775807) : Ev (fun k => armadaref17_Small.f k l0 l1) (smallB l0 l1) := by
  refine ev_from l1.length (fun k n => armadaref17_Small.l0 k l0 l1 (n : Int)) (fun n => (l1.drop n).all (fun x => fewB x.f1 && fewB [x.f0]) && (fewB l0 && decide (l1.length ≤ 20))) ?_ ?_ 0 (Nat.zero_le _)
  · refine Ev.step (f := fun k => (armadaref17_few.f k l0).bind fun t => if t = true then some (decide ((l1.length : Int) ≤ 20)) else some false) (fun k => by simp only [armadaref17_Small.l0]; rw [if_neg (by omega)]) (Ev.bind (few_f l0 hl) ?_)
    simp only [List.drop_eq_nil_of_le (Nat.le_refl _), List.all_nil, Bool.true_and]
    cases hx : fewB l0
    · exact Ev.now false
    · simp only [if_true, Bool.true_and]; exact ev_some (decide_eq_decide.2 (by omega))
  · intro n hn h
    obtain ⟨x, h1, h2, h3⟩ := rdN_at hn
    have hx := List.mem_of_getElem? h3
    refine Ev.step (f := fun k => (armadaref17_few.f k x.f1).bind fun t => if t = true then ((armadaref17_few.f k [x.f0]).bind fun t => if t = true then armadaref17_Small.l0 k l0 l1 ((n + 1 : Nat) : Int) else some false) else some false) (fun k => ?_) (Ev.bind (few_f _ (hi x hx)) ?_)
    · simp only [armadaref17_Small.l0]
      rw [if_pos (by omega), if_pos (by omega), h1, wrap_s (by omega)]
    · simp only [h2, List.all_cons]
      cases hb : fewB x.f1
      · simp only [Bool.false_and]; exact Ev.now false
      · simp only [if_true, Bool.true_and]
        refine Ev.bind (few_f [x.f0] (by simp)) ?_
        cases hc : fewB [x.f0]
        · simp only [Bool.false_and]; exact Ev.now false
        · simpa only [Bool.true_and, if_true] using h
def toNd (n : NdR) : Nd := ⟨n.f0, n.f1⟩
theorem own_f (l : List NdR) (hl : l.length ≤ 1000000) : Ev (fun k => armadalaw17_own.f k l) (l.map toNd) := by
  refine ev_from l.length (fun k n => armadalaw17_own.l0 k l ((l.take n).map toNd) (n : Int)) (fun n => l.map toNd) ?_ ?_ 0 (Nat.zero_le _)
  · refine Ev.step (f := fun k => some ((l.take l.length).map toNd)) (fun k => by simp only [armadalaw17_own.l0]; rw [if_neg (by omega)]) (ev_some (by rw [List.take_length]))
  · intro n hn h
    obtain ⟨x, h1, h2, h3⟩ := rdN_at hn
    refine Ev.step (f := fun k => armadalaw17_own.l0 k l ((l.take (n + 1)).map toNd) ((n + 1 : Nat) : Int)) (fun k => ?_) h
    simp only [armadalaw17_own.l0]
    rw [if_pos (by omega), if_pos (by omega), if_pos (by rw [List.length_map, List.length_take]; omega), h1, wrap_s (by omega), List.take_add_one, h3, List.map_append]
    rfl
theorem own_ndP (l : List NdR) : (l.map toNd).map ndP = l.map ndR := by rw [List.map_map]; rfl
theorem eq_cond (x y : Rq) : (x.f0.toList == y.f0.toList && (x.f1.f0 == y.f1.f0 && (x.f1.f1 == y.f1.f1 && (x.f1.f2 == y.f1.f2 && (x.f1.f3.toList == y.f1.f3.toList && x.f1.f4.toList == y.f1.f4.toList))))) = decide (x = y) := by
  obtain ⟨a0, ⟨a1, a2, a3, a4, a5⟩⟩ := x
  obtain ⟨b0, ⟨b1, b2, b3, b4, b5⟩⟩ := y
  rw [Bool.eq_iff_iff]
  simp only [Bool.and_eq_true, beq_iff_eq, ba_list, decide_eq_true_eq, S27.mk.injEq, S25.mk.injEq]
theorem In_f (l : List Rq) (y : Rq) (hl : l.length ≤ 9223372036854775807) : Ev (fun k => armadaref17_In.f k l y.f0 y.f1.f0 y.f1.f1 y.f1.f2 y.f1.f3 y.f1.f4) (decide (y ∈ l)) := by
  refine ev_from l.length (fun k n => armadaref17_In.l0 k l (n : Int) y.f0 y.f1.f0 y.f1.f1 y.f1.f2 y.f1.f3 y.f1.f4) (fun n => decide (y ∈ l.drop n)) ?_ ?_ 0 (Nat.zero_le _)
  · refine Ev.step (f := fun k => some false) (fun k => by simp only [armadaref17_In.l0]; rw [if_neg (by omega)]) (ev_some (by rw [List.drop_eq_nil_of_le (Nat.le_refl _)]; simp))
  · intro n hn h
    obtain ⟨x, h1, h2, h3⟩ := rdR_at hn
    refine Ev.step (f := fun k => if decide (x = y) = true then some true else armadaref17_In.l0 k l ((n + 1 : Nat) : Int) y.f0 y.f1.f0 y.f1.f1 y.f1.f2 y.f1.f3 y.f1.f4) (fun k => ?_) ?_
    · simp only [armadaref17_In.l0]
      rw [if_pos (by omega), if_pos (by omega), h1, wrap_s (by omega), eq_cond]
    · by_cases hx : x = y
      · subst hx
        simp only [decide_true, if_true, h2]
        exact ev_some (by simp)
      · have hy : ¬ y = x := fun e => hx e.symm
        simp only [hx, h2, decide_false, Bool.false_eq_true, if_false, List.mem_cons, hy, false_or]
        exact h
theorem May_f (y : Rq) : Ev (fun k => armadaref17_May.f k y.f0 y.f1.f0 y.f1.f1 y.f1.f2 y.f1.f3 y.f1.f4) (mv.may y) := by
  unfold armadaref17_May.f
  exact Ev.bind (ref_Fits_f y.f0 y.f1.f0 y.f1.f1 y.f1.f2 y.f1.f3 y.f1.f4) (Ev.now _)
theorem cmp_f (x y : Rq) : Ev (fun k => armadaref07_Compare.f k x.f1.f0 x.f1.f1 x.f1.f2 x.f1.f3 x.f1.f4 y.f1.f0 y.f1.f1 y.f1.f2 y.f1.f3 y.f1.f4) (mv.cmp x y) := ref_Compare_f _ _ _ _ _ _ _ _ _ _
theorem path_list {x y : Rq} : x.f0.toList = y.f0.toList ↔ mv.path x = mv.path y := ba_list.trans path_eq.symm
theorem Same_f (l : List Rq) (hl : l.length ≤ 9223372036854775807) : Ev (fun k => armadaref17_Same.f k l l) true := by
  unfold armadaref17_Same.f
  simp only [if_true]
  refine ev_from l.length (fun k n => armadaref17_Same.l0 k l l (n : Int)) (fun n => true) ?_ ?_ 0 (Nat.zero_le _)
  · exact Ev.step (f := fun k => some true) (fun k => by simp only [armadaref17_Same.l0]; rw [if_neg (by omega)]) (Ev.now _)
  · intro n hn h
    refine Ev.step (f := fun k => armadaref17_Same.l0 k l l ((n + 1 : Nat) : Int)) (fun k => ?_) h
    simp only [armadaref17_Same.l0]
    rw [if_pos (by omega), if_pos (by omega), if_pos (by omega), wrap_s (by omega)]
    simp
theorem few_len {l : List Rq} (h : fewB l = true) : l.length ≤ 12 ∧ ∀ x ∈ l, x.f0.size ≤ 200 := by
  unfold fewB at h
  rw [Bool.and_eq_true, List.all_eq_true, decide_eq_true_eq] at h
  refine ⟨h.2, fun x hx => ?_⟩
  have := h.1 x hx
  unfold litR at this
  rw [Bool.and_eq_true, decide_eq_true_eq] at this
  exact this.1
theorem fl_len {l : List (Rq × List Rq)} (h : ∀ x ∈ l, x.2.length ≤ 12) : (l.flatMap (·.2)).length ≤ l.length * 12 := by
  induction l with
  | nil => simp
  | cons x l ih =>
    rw [List.flatMap_cons, List.length_append, List.length_cons]
    have := ih fun y hy => h y (List.mem_cons_of_mem _ hy)
    have := h x List.mem_cons_self
    omega
/-- What smallness gives. -/
structure IsSmall (root : List Rq) (l : List NdR) : Prop where
  rl : root.length ≤ 12
  ll : l.length ≤ 20
  fl : ((l.map ndR).flatMap (·.2)).length ≤ 240
  sz : ∀ x ∈ root, x.f0.size ≤ 200
theorem small_is {root : List Rq} {l : List NdR} (h : smallB root l = true) : IsSmall root l := by
  unfold smallB at h
  rw [Bool.and_eq_true, Bool.and_eq_true, List.all_eq_true, decide_eq_true_eq] at h
  obtain ⟨h1, h2, h3⟩ := h
  refine ⟨(few_len h2).1, h3, ?_, (few_len h2).2⟩
  have := fl_len (l := l.map ndR) fun x hx => by
    obtain ⟨n, hn, rfl⟩ := List.mem_map.1 hx
    have := h1 n hn
    rw [Bool.and_eq_true] at this
    exact (few_len this.1).1
  rw [List.length_map] at this
  omega
theorem univ_len (a : List Rq) (l : List (Rq × List Rq)) : (Mv.univ a l).length = a.length + (l.flatMap (·.2)).length := by unfold Mv.univ; rw [List.length_append]
theorem list_f {a : List Rq} {l : List NdR} (h : a.length + ((l.map ndR).flatMap (·.2)).length ≤ 1000000) : Ev (fun _ => mvs_List.f a (l.map toNd)) (mv.list a (l.map ndR)) := by
  unfold mvs_List.f
  rw [own_ndP, if_pos (by rw [univ_len]; exact h)]
  exact Ev.now _
theorem reached_f {a : List Rq} {l : List NdR} (h : a.length + ((l.map ndR).flatMap (·.2)).length ≤ 1000000) : Ev (fun _ => mvs_Reached.f a (l.map toNd)) (mv.reached a (l.map ndR)) := by
  unfold mvs_Reached.f
  rw [own_ndP, if_pos (by rw [univ_len]; exact h)]
  exact Ev.now _
theorem reached_len (a : List Rq) (l : List (Rq × List Rq)) : (mv.reached a l).length ≤ a.length + (l.flatMap (·.2)).length := by
  rw [← univ_len]
  exact nodup_len (mv.reached_nodup a l) fun x hx => mv.reach_univ (mv.reached_mem.1 hx)
theorem list_len (a : List Rq) (l : List (Rq × List Rq)) : (mv.list a l).length ≤ a.length + (l.flatMap (·.2)).length := Nat.le_trans (Mv.alone_len mv_good a l) (reached_len a l)
theorem live_ev : Ev (fun _ => armadalaw17_live.f.bind fun t => some t) true := Ev.now true
theorem ev_succ {α : Type} {g : Nat → Option α} {r : α} (h : Ev (fun k => g (k + 1)) r) : Ev g r := Ev.step (fun _ => rfl) h
theorem ev_eq {α : Type} {g : Nat → Option α} {a b : α} (h : Ev g a) (e : a = b) : Ev g b := by subst e; exact h
end Go.Proofs.YtkidfclnakbgiaaGreatDoor
end
