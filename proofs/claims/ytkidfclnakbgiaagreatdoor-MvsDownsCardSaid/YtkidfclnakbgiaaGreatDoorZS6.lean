/- The texts MvLaw in one file, without what these claims do not use (put together by prune2.py). -/
import Derived.Test.YtkidfclnakbgiaaGreatDoorZS5
section
namespace Go.Proofs.YtkidfclnakbgiaaGreatDoor
open Go
set_option linter.unusedVariables false
set_option linter.unusedSimpArgs false
set_option linter.unusedSectionVars false
namespace Mv
section
variable {R : Type} [DecidableEq R] (m : Mv R)
/-- The first one of a path. -/
def first (l : List R) (r : R) : Option R := l.find? fun x => decide (m.path x = m.path r)
def covers (l : List R) (r : R) : Bool := match m.first l r with | some x => decide (m.cmp x r ≥ 0) | none => false
def same (l : List R) (r : R) : Bool := match m.first l r with | some x => decide (m.cmp x r = 0) | none => false
variable {m}
theorem first_rising {l : List R} (h : m.Rising l) {x r : R} (hx : x ∈ l) (hp : m.path x = m.path r) : m.first l r = some x := by
  unfold first
  cases hf : l.find? (fun x => decide (m.path x = m.path r)) with
  | none => have := List.find?_eq_none.1 hf x hx; simp [hp] at this
  | some y =>
    have h1 := List.find?_some hf
    have h2 := List.mem_of_find?_eq_some hf
    simp only [decide_eq_true_eq] at h1
    rw [rising_path h h2 hx (h1.trans hp.symm)]
theorem covers_of (g : m.Good) {l : List R} (h : m.Rising l) {x r : R} (hx : x ∈ l) (hp : m.path x = m.path r) (hc : m.cmp r x ≤ 0) : m.covers l r = true := by
  unfold covers
  rw [first_rising h hx hp]
  have := g.anti x r
  simp only [decide_eq_true_eq]; omega
theorem same_of {l : List R} (h : m.Rising l) {x r : R} (hx : x ∈ l) (hp : m.path x = m.path r) (hc : m.cmp x r = 0) : m.same l r = true := by
  unfold same
  rw [first_rising h hx hp]
  simpa using hc
theorem refl_cmp (g : m.Good) (x : R) : m.cmp x x = 0 := by have := g.anti x x; omega
theorem covers_list (g : m.Good) {root : List R} {l : List (R × List R)} {r : R} (h : m.Reach root l r) : m.covers (m.list root l) r = true := by
  obtain ⟨x, hx, hp, hc⟩ := list_has g h
  exact covers_of g (list_rising g root l) hx hp hc
theorem covers_self (g : m.Good) {root : List R} {l : List (R × List R)} {r : R} (h : r ∈ m.list root l) : m.covers (m.list root l) r = true := covers_list g (list_is g h).1
theorem rising_paths : ∀ {l : List R}, m.Rising l → (l.map m.path).Nodup
  | [], _ => List.nodup_nil
  | a :: l, h => by
    have h1 := List.pairwise_cons.1 h
    rw [List.map_cons, List.nodup_cons]
    refine ⟨fun hm => ?_, rising_paths h1.2⟩
    obtain ⟨y, hy, e⟩ := List.mem_map.1 hm
    exact lt_ne (h1.1 y hy) e.symm
/-- A rising list of which each path is in another is no longer. -/
theorem rising_len {a b : List R} (h : m.Rising a) (hs : ∀ x ∈ a, ∃ y ∈ b, m.path y = m.path x) : a.length ≤ b.length := by
  have := nodup_len (rising_paths h) (m := b.map m.path) (fun p hp => by
    obtain ⟨x, hx, rfl⟩ := List.mem_map.1 hp
    obtain ⟨y, hy, e⟩ := hs x hx
    exact List.mem_map.2 ⟨y, hy, e⟩)
  simpa using this
theorem reach_mono {a b : List R} {l : List (R × List R)} (h : ∀ x ∈ a, m.may x = true → m.Reach b l x) {r : R} (hr : m.Reach a l r) : m.Reach b l r := by
  induction hr with
  | root h1 h2 => exact h _ h1 h2
  | step h1 h2 h3 ih => exact .step ih h2 h3
theorem reach_none {l : List (R × List R)} {r : R} (hr : m.Reach [] l r) : False := by
  induction hr with
  | root h1 h2 => cases h1
  | step h1 h2 h3 ih => exact ih
theorem reach_or {a b : List R} {l : List (R × List R)} {r : R} (hr : m.Reach (a ++ b) l r) : m.Reach a l r ∨ m.Reach b l r := by
  induction hr with
  | root h1 h2 => exact (List.mem_append.1 h1).imp (fun h => .root h h2) (fun h => .root h h2)
  | step h1 h2 h3 ih => exact ih.imp (fun h => .step h h2 h3) (fun h => .step h h2 h3)
theorem reach_one {a : List R} {l : List (R × List R)} {r : R} (hr : m.Reach a l r) : ∃ x ∈ a, m.may x = true ∧ m.Reach [x] l r := by
  induction hr with
  | root h1 h2 => exact ⟨_, h1, h2, .root List.mem_cons_self h2⟩
  | step h1 h2 h3 ih =>
    obtain ⟨x, hx, hm, h⟩ := ih
    exact ⟨x, hx, hm, .step h h2 h3⟩
theorem reach_list (g : m.Good) {root : List R} {l : List (R × List R)} {x : R} (h : m.Reach (m.list root l) l x) : m.Reach root l x := reach_mono (fun y hy _ => (list_is g hy).1) h
/-- MvsLeast. -/
theorem least_rises (g : m.Good) {root : List R} {l : List (R × List R)} {i : Nat} {x y : R} (hx : (m.list root l)[i]? = some x) (hy : (m.list root l)[i + 1]? = some y) : m.lt x y := by
  have h := list_rising g root l
  obtain ⟨h1, e1⟩ := List.getElem?_eq_some_iff.1 hx
  obtain ⟨h2, e2⟩ := List.getElem?_eq_some_iff.1 hy
  have := List.pairwise_iff_getElem.1 h i (i + 1) h1 h2 (by omega)
  rwa [e1, e2] at this
theorem least_in (g : m.Good) {root : List R} {l : List (R × List R)} {x : R} (hx : x ∈ m.list root l) : x ∈ m.reached root l := m.reached_mem.2 (list_is g hx).1
/-- MvsRoots. -/
theorem roots_same (g : m.Good) {a b : List R} {l : List (R × List R)} {z : R} (hz : z ∈ m.list (a ++ b) l) : m.same (m.list a l) z = true ∨ m.same (m.list b l) z = true := by
  obtain ⟨h1, h2⟩ := list_is g hz
  refine (reach_or h1).imp (fun h => ?_) (fun h => ?_)
  all_goals
    obtain ⟨x, hx, hp, hc⟩ := list_has g h
    refine same_of (list_rising g _ _) hx hp ?_
    have h3 := h2 x (reach_mono (fun y hy hm => .root (by simp [hy]) hm) (list_is g hx).1) hp
    have := g.anti x z
    omega
theorem roots_covers (g : m.Good) {a b c : List R} {l : List (R × List R)} (hs : ∀ x ∈ a, x ∈ c) {x : R} (hx : x ∈ m.list a l) : m.covers (m.list c l) x = true :=
  covers_list g (reach_mono (fun y hy hm => .root (hs y hy) hm) (list_is g hx).1)
/-- MvsAgain. -/
theorem again_same (g : m.Good) {root : List R} {l : List (R × List R)} {x : R} (hx : x ∈ m.list root l) : m.covers (m.list (m.list root l) l) x = true ∧ m.same (m.list (m.list root l) l) x = true := by
  obtain ⟨h1, h2⟩ := list_is g hx
  have hr : m.Reach (m.list root l) l x := .root hx (m.reach_may h1)
  refine ⟨covers_list g hr, ?_⟩
  obtain ⟨y, hy, hp, hc⟩ := list_has g hr
  refine same_of (list_rising g _ _) hy hp ?_
  have h3 := h2 y (reach_list g (list_is g hy).1) hp
  have := g.anti x y
  omega
theorem again_len (g : m.Good) (root : List R) (l : List (R × List R)) : (m.list (m.list root l) l).length = (m.list root l).length := by
  refine Nat.le_antisymm (rising_len (list_rising g _ _) fun y hy => ?_) (rising_len (list_rising g _ _) fun x hx => ?_)
  · obtain ⟨x, hx, hp, _⟩ := list_has g (reach_list g (list_is g hy).1)
    exact ⟨x, hx, hp⟩
  · obtain ⟨y, hy, hp, _⟩ := list_has g (.root hx (m.reach_may (list_is g hx).1) : m.Reach (m.list root l) l x)
    exact ⟨y, hy, hp⟩
/-- MvsFewer. -/
theorem fewer_len (g : m.Good) {a b : List R} {l : List (R × List R)} (hs : ∀ x ∈ a, x ∈ b) : (m.list a l).length ≤ (m.list b l).length :=
  rising_len (list_rising g _ _) fun x hx => by
    obtain ⟨y, hy, hp, _⟩ := list_has g (reach_mono (fun y hy hm => .root (hs y hy) hm) (list_is g hx).1)
    exact ⟨y, hy, hp⟩
theorem none_list (g : m.Good) (l : List (R × List R)) : m.list [] l = [] := List.eq_nil_iff_forall_not_mem.2 fun x hx => reach_none (list_is g hx).1
/-- MvsAlone. -/
theorem alone_iff {root : List R} {r : R} : m.Reach root [] r ↔ r ∈ root ∧ m.may r = true := by
  constructor
  · intro h
    cases h with
    | root h1 h2 => exact ⟨h1, h2⟩
    | step h1 h2 h3 => simp [reqsOf] at h2
  · rintro ⟨h1, h2⟩
    exact .root h1 h2
theorem rising_nodup {l : List R} (h : m.Rising l) : l.Nodup := h.imp fun hl e => by subst e; exact m.lt_irrefl _ hl
theorem alone_len (g : m.Good) (root : List R) (l : List (R × List R)) : (m.list root l).length ≤ (m.reached root l).length := nodup_len (rising_nodup (list_rising g _ _)) fun x hx => least_in g hx
theorem nodup_first {l : List R} (h : l.Nodup) {i : Nat} {x : R} (hx : l[i]? = some x) : x ∉ l.take i := by
  obtain ⟨hi, e⟩ := List.getElem?_eq_some_iff.1 hx
  intro hm
  obtain ⟨j, hj, e2⟩ := List.getElem_of_mem hm
  rw [List.getElem_take] at e2
  rw [List.length_take] at hj
  have := (List.pairwise_iff_getElem.1 h) j i (by omega) hi (by omega)
  exact this (e2.trans e.symm)
/-- MvsUps. -/
theorem up_path {r : R} : ∀ (l : List R), ∃ x ∈ m.upFrom r l, m.path x = m.path r ∧ (x = r ∨ (m.may x = true ∧ 0 ≤ m.cmp x r))
  | [] => ⟨r, List.mem_cons_self, rfl, Or.inl rfl⟩
  | y :: l => by
    unfold upFrom
    split
    · rename_i e
      split
      · exact ⟨r, List.mem_cons_self, rfl, Or.inl rfl⟩
      · rename_i h
        refine ⟨y, List.mem_cons_self, e, Or.inr ⟨?_, ?_⟩⟩
        · cases hm : m.may y
          · exact absurd (Or.inl hm) h
          · rfl
        · exact Int.not_lt.1 (fun h2 => h (Or.inr h2))
    · obtain ⟨x, hx, h⟩ := up_path (r := r) l
      exact ⟨x, List.mem_cons_of_mem _ hx, h⟩
theorem up_again (g : m.Good) {r : R} (hr : m.may r = true) : ∀ (l : List R), m.upFrom r (m.upFrom r l) = m.upFrom r l
  | [] => by simp [upFrom, hr, refl_cmp g]
  | y :: l => by
    by_cases e : m.path y = m.path r
    · by_cases h : m.may y = false ∨ m.cmp y r < 0
      · have : m.upFrom r (y :: l) = r :: l := by unfold upFrom; rw [if_pos e, if_pos h]
        rw [this]
        unfold upFrom
        simp [hr, refl_cmp g]
      · have : m.upFrom r (y :: l) = y :: l := by unfold upFrom; rw [if_pos e, if_neg h]
        rw [this, this]
    · have h2 : ∀ l, m.upFrom r (y :: l) = y :: m.upFrom r l := fun l => by rw [upFrom, if_neg e]
      rw [h2, h2, up_again g hr l]
theorem up_covers (g : m.Good) {root : List R} {l : List (R × List R)} {r : R} (hr : m.may r = true) : m.covers (m.list (m.upFrom r root) l) r = true := by
  obtain ⟨x, hx, hp, h⟩ := up_path (m := m) (r := r) root
  rcases h with rfl | ⟨h1, h2⟩
  · exact covers_list g (.root hx hr)
  · obtain ⟨y, hy, hp2, hc⟩ := list_has g (.root hx h1 : m.Reach (m.upFrom r root) l x)
    have hym := m.reach_may (list_is g hy).1
    exact covers_of g (list_rising g _ _) hy (hp2.trans hp) (g.trans r x y hr h1 hym (by have := g.anti r x; omega) hc)
/-- Who was asked for is there still, or was below what is there now. -/
theorem up_keeps {r x : R} : ∀ {l : List R}, x ∈ l → x ∈ m.upFrom r l ∨ (r ∈ m.upFrom r l ∧ m.path r = m.path x ∧ (m.may x = false ∨ m.cmp x r < 0))
  | y :: l, h => by
    unfold upFrom
    split
    · rename_i e
      split
      · rename_i h2
        rcases List.mem_cons.1 h with rfl | h
        · exact Or.inr ⟨List.mem_cons_self, e.symm, h2⟩
        · exact Or.inl (List.mem_cons_of_mem _ h)
      · exact Or.inl h
    · rcases List.mem_cons.1 h with rfl | h
      · exact Or.inl List.mem_cons_self
      · exact (up_keeps h).imp (List.mem_cons_of_mem _) (fun ⟨h1, h2⟩ => ⟨List.mem_cons_of_mem _ h1, h2⟩)
theorem up_was (g : m.Good) {root : List R} {l : List (R × List R)} {r x : R} (hr : m.may r = true) (hx : x ∈ root) (hm : m.may x = true) : m.covers (m.list (m.upFrom r root) l) x = true := by
  rcases up_keeps (m := m) (r := r) hx with h | ⟨h1, h2, h3⟩
  · exact covers_list g (.root h hm)
  · obtain ⟨y, hy, hp, hc⟩ := list_has g (.root h1 hr : m.Reach (m.upFrom r root) l r)
    have hym := m.reach_may (list_is g hy).1
    refine covers_of g (list_rising g _ _) hy (hp.trans h2) (g.trans x r y hm hr hym ?_ hc)
    rcases h3 with h3 | h3
    · rw [hm] at h3; cases h3
    · omega
/-- MvsDowns. -/
theorem out_is (g : m.Good) {l : List (R × List R)} {r x y : R} (ho : m.out l r x = false) (hy : m.Reach [x] l y) (hp : m.path y = m.path r) (hr : m.may r = true) : m.cmp y r ≤ 0 := by
  obtain ⟨z, hz, hp2, hc⟩ := list_has g hy
  have := List.any_eq_false.1 ho z hz
  simp only [Bool.and_eq_true, decide_eq_true_eq, not_and] at this
  have h1 := this (hp2.trans hp)
  have hzm := m.reach_may (list_is g hz).1
  exact g.trans y z r (m.reach_may hy) hzm hr hc (by omega)
theorem lower_is (g : m.Good) {l : List (R × List R)} {r x y : R} (h : m.lower l r x = some y) : y ∈ l.map (·.1) ∧ m.isLow l r x y = true := by
  have h2 : m.best ((l.map Prod.fst).filter (m.isLow l r x)) (m.path x) = some y := h
  have := best_some g (all := (l.map Prod.fst).filter (m.isLow l r x)) (fun z hz => by
    have := (List.mem_filter.1 hz).2
    unfold isLow at this
    simp only [Bool.and_eq_true] at this
    exact this.1.1.2) h2
  exact List.mem_filter.1 this.1
theorem down_out (g : m.Good) {l : List (R × List R)} {r x y : R} (h : m.down l r x = some y) : m.out l r y = false := by
  unfold down at h
  split at h
  · have := (lower_is g h).2
    unfold isLow at this
    simp only [Bool.and_eq_true, Bool.not_eq_true'] at this
    exact this.2
  · obtain rfl : x = y := by simpa using h
    rename_i h2
    simpa using h2
theorem downs_list (g : m.Good) {root : List R} {l : List (R × List R)} {r y : R} (hr : m.may r = true) (hy : y ∈ m.list (m.downgrade root l r) l) (hp : m.path y = m.path r) : m.cmp y r ≤ 0 := by
  obtain ⟨x, hx, _, h⟩ := reach_one (list_is g hy).1
  unfold downgrade at hx
  rw [if_pos hr] at hx
  obtain ⟨z, hz, e⟩ := List.mem_filterMap.1 hx
  exact out_is g (down_out g e) h hp hr
theorem downs_len (root : List R) (l : List (R × List R)) (r : R) : (m.downgrade root l r).length ≤ root.length := by
  unfold downgrade
  split
  · exact List.length_filterMap_le _ _
  · exact Nat.le_refl _
theorem filterMap_id {α : Type} {f : α → Option α} : ∀ {l : List α}, (∀ x ∈ l, f x = some x) → l.filterMap f = l
  | [], _ => rfl
  | a :: l, h => by rw [List.filterMap_cons, h a List.mem_cons_self, filterMap_id fun x hx => h x (List.mem_cons_of_mem _ hx)]
theorem downs_low (g : m.Good) {root : List R} {l : List (R × List R)} {r : R} (hr : m.may r = true) (h : ∀ y ∈ m.list root l, m.path y = m.path r → m.cmp y r ≤ 0) : m.downgrade root l r = root := by
  unfold downgrade
  rw [if_pos hr]
  refine filterMap_id fun x hx => ?_
  unfold down
  rw [if_neg]
  intro ho
  obtain ⟨y, hy, h2⟩ := List.any_eq_true.1 ho
  simp only [Bool.and_eq_true, decide_eq_true_eq] at h2
  have hR := (list_is g hy).1
  have hR2 : m.Reach root l y := reach_mono (fun z hz hm => by
    obtain rfl := List.mem_singleton.1 hz
    exact .root hx hm) hR
  obtain ⟨z, hz, hp, hc⟩ := list_has g hR2
  have h3 := h z hz (hp.trans h2.1)
  have h4 := g.trans y z r (m.reach_may hR2) (m.reach_may (list_is g hz).1) hr hc h3
  omega
end
end Mv
end Go.Proofs.YtkidfclnakbgiaaGreatDoor
end
