/- The texts MvPl, MvLaw in one file, without what these claims do not use (put together by prune2.py). -/
import Derived.Lib.Bytealg
section
namespace Go.Proofs.YtkidfclnakbgiaaGreatDoor
open Go
set_option linter.unusedVariables false
set_option linter.unusedSimpArgs false
set_option linter.unusedSectionVars false
/-- A list without repeats that lies in another is no longer. -/
theorem nodup_len {α : Type} [DecidableEq α] : ∀ {l m : List α}, l.Nodup → (∀ x ∈ l, x ∈ m) → l.length ≤ m.length
  | [], m, _, _ => Nat.zero_le _
  | a :: l, m, hn, hs => by
    have ha := hs a List.mem_cons_self
    have h1 := List.nodup_cons.1 hn
    have h2 := nodup_len (l := l) (m := m.erase a) h1.2 (fun x hx => (List.mem_erase_of_ne (fun e : x = a => h1.1 (by rw [← e]; exact hx))).2 (hs x (List.mem_cons_of_mem _ hx)))
    rw [List.length_erase_of_mem ha] at h2
    have := List.length_pos_of_mem ha
    simp only [List.length_cons]
    omega
/-- What a requirement is: a path, whether it may be, the order of versions. -/
structure Mv (R : Type) where
  path : R → List UInt8
  may : R → Bool
  cmp : R → R → Int
structure Mv.Good {R : Type} (m : Mv R) : Prop where
  anti : ∀ x y, m.cmp x y = - m.cmp y x
  trans : ∀ x y z, m.may x = true → m.may y = true → m.may z = true → m.cmp x y ≤ 0 → m.cmp y z ≤ 0 → m.cmp x z ≤ 0
namespace Mv
section
variable {R : Type} [DecidableEq R] (m : Mv R)
def add (all : List R) (r : R) : List R := if m.may r = true ∧ r ∉ all then all ++ [r] else all
def more (all l : List R) : List R := l.foldl m.add all
def reqsOf : List (R × List R) → R → List R
  | [], _ => []
  | n :: l, r => if n.1 = r then n.2 else reqsOf l r
def reachL (l : List (R × List R)) : Nat → Nat → List R → List R
  | 0, _, all => all
  | f + 1, i, all => match all[i]? with
    | none => all
    | some r => reachL l f (i + 1) (m.more all (reqsOf l r))
def univ (root : List R) (l : List (R × List R)) : List R := root ++ l.flatMap (·.2)
def reached (root : List R) (l : List (R × List R)) : List R := m.reachL l ((univ root l).length + 1) 0 (m.more [] root)
/-- Who is reached. -/
inductive Reach (root : List R) (l : List (R × List R)) : R → Prop
  | root {r : R} : r ∈ root → m.may r = true → Reach root l r
  | step {q r : R} : Reach root l q → r ∈ reqsOf l q → m.may r = true → Reach root l r
/-- The greatest one of a path. -/
def takeP (p : List UInt8) (b : Option R) (r : R) : Option R :=
  if m.path r = p then (match b with
    | none => some r
    | some x => if m.cmp r x > 0 then some r else some x) else b
def best (all : List R) (p : List UInt8) : Option R := all.foldl (m.takeP p) none
def lt (x y : R) : Prop := Lib.compareBytes (m.path x) (m.path y) = -1
instance (x y : R) : Decidable (m.lt x y) := by unfold lt; infer_instance
def put : List R → R → List R
  | [], r => [r]
  | x :: l, r => if m.path x = m.path r then x :: l else if m.lt r x then r :: x :: l else x :: put l r
def listed (all : List R) : List R := all.foldl (fun out r => m.put out ((m.best all (m.path r)).getD r)) []
def list (root : List R) (l : List (R × List R)) : List R := m.listed (m.reached root l)
def upFrom (r : R) : List R → List R
  | [] => [r]
  | x :: l => if m.path x = m.path r then (if m.may x = false ∨ m.cmp x r < 0 then r :: l else x :: l) else x :: upFrom r l
def upgrade (root : List R) (r : R) : List R := if m.may r = true then m.upFrom r root else root
def out (l : List (R × List R)) (r x : R) : Bool := (m.list [x] l).any fun y => decide (m.path y = m.path r) && decide (m.cmp y r > 0)
def isLow (l : List (R × List R)) (r x y : R) : Bool := decide (m.path y = m.path x) && m.may y && decide (m.cmp y x < 0) && !m.out l r y
def lower (l : List (R × List R)) (r x : R) : Option R := m.best ((l.map (·.1)).filter (m.isLow l r x)) (m.path x)
def down (l : List (R × List R)) (r x : R) : Option R := if m.out l r x = true then m.lower l r x else some x
def downgrade (root : List R) (l : List (R × List R)) (r : R) : List R := if m.may r = true then root.filterMap (m.down l r) else root
theorem add_mem {all : List R} {r x : R} : x ∈ m.add all r ↔ x ∈ all ∨ (x = r ∧ m.may r = true) := by
  unfold add
  split
  · rename_i h
    simp [h.1]
  · rename_i h
    constructor
    · exact Or.inl
    · rintro (h1 | ⟨rfl, h1⟩)
      · exact h1
      · exact Decidable.byContradiction fun h2 => h ⟨h1, h2⟩
theorem add_nodup {all : List R} (h : all.Nodup) (r : R) : (m.add all r).Nodup := by
  unfold add
  split
  · rename_i h1
    exact List.nodup_append.2 ⟨h, by simp, fun a ha b hb e => h1.2 (by rw [List.mem_singleton.1 hb] at e; exact e ▸ ha)⟩
  · exact h
theorem add_prefix (all : List R) (r : R) : ∃ t, m.add all r = all ++ t := by
  unfold add
  split
  · exact ⟨_, rfl⟩
  · exact ⟨[], (List.append_nil _).symm⟩
theorem more_mem : ∀ {l all : List R} {x : R}, x ∈ m.more all l ↔ x ∈ all ∨ (x ∈ l ∧ m.may x = true)
  | [], all, x => by simp [more]
  | r :: l, all, x => by
    show x ∈ m.more (m.add all r) l ↔ _
    rw [more_mem (l := l), add_mem]
    constructor
    · rintro ((h | ⟨rfl, h⟩) | ⟨h1, h2⟩)
      · exact Or.inl h
      · exact Or.inr ⟨List.mem_cons_self, h⟩
      · exact Or.inr ⟨List.mem_cons_of_mem _ h1, h2⟩
    · rintro (h | ⟨h1, h2⟩)
      · exact Or.inl (Or.inl h)
      · rcases List.mem_cons.1 h1 with rfl | h1
        · exact Or.inl (Or.inr ⟨rfl, h2⟩)
        · exact Or.inr ⟨h1, h2⟩
theorem more_nodup : ∀ {l all : List R}, all.Nodup → (m.more all l).Nodup
  | [], _, h => h
  | r :: l, all, h => more_nodup (l := l) (m.add_nodup h r)
theorem more_prefix : ∀ (l all : List R), ∃ t, m.more all l = all ++ t
  | [], all => ⟨[], (List.append_nil _).symm⟩
  | r :: l, all => by
    obtain ⟨t, h⟩ := m.add_prefix all r
    obtain ⟨u, h2⟩ := more_prefix l (m.add all r)
    exact ⟨t ++ u, by show m.more (m.add all r) l = _; rw [h2, h, List.append_assoc]⟩
theorem reqs_univ {root : List R} {l : List (R × List R)} {q r : R} (h : r ∈ reqsOf l q) : r ∈ univ root l := by
  refine List.mem_append_right _ (List.mem_flatMap.2 ?_)
  induction l with
  | nil => simp [reqsOf] at h
  | cons n l ih =>
    unfold reqsOf at h
    split at h
    · exact ⟨n, List.mem_cons_self, h⟩
    · obtain ⟨a, ha, hr⟩ := ih h
      exact ⟨a, List.mem_cons_of_mem _ ha, hr⟩
theorem reach_univ {root : List R} {l : List (R × List R)} {r : R} (h : m.Reach root l r) : r ∈ univ root l := by
  cases h with
  | root h1 h2 => exact List.mem_append_left _ h1
  | step h1 h2 h3 => exact reqs_univ h2
theorem reach_may {root : List R} {l : List (R × List R)} {r : R} (h : m.Reach root l r) : m.may r = true := by
  cases h with
  | root h1 h2 => exact h2
  | step h1 h2 h3 => exact h3
/-- What holds ahead of each round. -/
structure Inv (root : List R) (l : List (R × List R)) (i : Nat) (all : List R) : Prop where
  nd : all.Nodup
  sub : ∀ x ∈ all, m.Reach root l x
  rt : ∀ x ∈ root, m.may x = true → x ∈ all
  cl : ∀ (j : Nat) (q r : R), j < i → all[j]? = some q → r ∈ reqsOf l q → m.may r = true → r ∈ all
theorem Inv.start (root : List R) (l : List (R × List R)) : m.Inv root l 0 (m.more [] root) where
  nd := m.more_nodup List.nodup_nil
  sub x hx := by
    rcases m.more_mem.1 hx with h | ⟨h1, h2⟩
    · cases h
    · exact .root h1 h2
  rt x h1 h2 := m.more_mem.2 (Or.inr ⟨h1, h2⟩)
  cl j q r hj := by omega
variable {m}
theorem Inv.next {root : List R} {l : List (R × List R)} {i : Nat} {all : List R} {q : R} (h : m.Inv root l i all) (hq : all[i]? = some q) : m.Inv root l (i + 1) (m.more all (reqsOf l q)) where
  nd := m.more_nodup h.nd
  sub x hx := by
    rcases m.more_mem.1 hx with h1 | ⟨h1, h2⟩
    · exact h.sub x h1
    · exact .step (h.sub q (List.mem_of_getElem? hq)) h1 h2
  rt x h1 h2 := m.more_mem.2 (Or.inl (h.rt x h1 h2))
  cl j p r hj hp hr hm := by
    obtain ⟨t, ht⟩ := m.more_prefix (reqsOf l q) all
    have hi := (List.getElem?_eq_some_iff.1 hq).1
    rw [ht, List.getElem?_append_left (by omega)] at hp
    by_cases e : j = i
    · subst e
      obtain rfl : q = p := by rw [hq] at hp; simpa using hp
      exact m.more_mem.2 (Or.inr ⟨hr, hm⟩)
    · exact m.more_mem.2 (Or.inl (h.cl j p r (by omega) hp hr hm))
theorem Inv.len {root : List R} {l : List (R × List R)} {i : Nat} {all : List R} (h : m.Inv root l i all) : all.length ≤ (univ root l).length := nodup_len h.nd fun x hx => m.reach_univ (h.sub x hx)
theorem Inv.done {root : List R} {l : List (R × List R)} {i : Nat} {all : List R} (h : m.Inv root l i all) (hi : all.length ≤ i) (x : R) : x ∈ all ↔ m.Reach root l x := by
  refine ⟨h.sub x, fun hx => ?_⟩
  induction hx with
  | root h1 h2 => exact h.rt _ h1 h2
  | step h1 h2 h3 ih =>
    obtain ⟨j, hj, e⟩ := List.getElem_of_mem ih
    exact h.cl j _ _ (by omega) (by rw [List.getElem?_eq_getElem hj, e]) h2 h3
theorem reachL_inv {root : List R} {l : List (R × List R)} : ∀ (f i : Nat) (all : List R), m.Inv root l i all → (univ root l).length + 1 ≤ f + i →
    (m.reachL l f i all).Nodup ∧ ∀ x, x ∈ m.reachL l f i all ↔ m.Reach root l x
  | 0, i, all, h, hf => ⟨h.nd, h.done (by have := h.len; omega)⟩
  | f + 1, i, all, h, hf => by
    unfold reachL
    cases hq : all[i]? with
    | none => exact ⟨h.nd, h.done (by have := List.getElem?_eq_none_iff.1 hq; omega)⟩
    | some q => exact reachL_inv f (i + 1) _ (h.next hq) (by omega)
variable (m)
theorem reached_nodup (root : List R) (l : List (R × List R)) : (m.reached root l).Nodup := (reachL_inv _ 0 _ (Inv.start m root l) (by omega)).1
theorem reached_mem {root : List R} {l : List (R × List R)} {x : R} : x ∈ m.reached root l ↔ m.Reach root l x := (reachL_inv _ 0 _ (Inv.start m root l) (by omega)).2 x
theorem reached_may {root : List R} {l : List (R × List R)} {x : R} (h : x ∈ m.reached root l) : m.may x = true := m.reach_may (m.reached_mem.1 h)
theorem reachL_stop {l : List (R × List R)} {f i : Nat} {all : List R} (h : all.length ≤ i) : m.reachL l f i all = all := by
  cases f with
  | zero => rfl
  | succ f => unfold reachL; rw [List.getElem?_eq_none h]
theorem reachL_step {l : List (R × List R)} {f i : Nat} {all : List R} {q : R} (hq : all[i]? = some q) : m.reachL l (f + 1) i all = m.reachL l f (i + 1) (m.more all (reqsOf l q)) := by
  rw [reachL, hq]
theorem best_snoc (all : List R) (r : R) (p : List UInt8) : m.best (all ++ [r]) p = m.takeP p (m.best all p) r := by
  unfold best
  rw [List.foldl_append]; rfl
/-- What the greatest one is. -/
def IsBest (all : List R) (p : List UInt8) : Option R → Prop
  | none => ∀ r ∈ all, m.path r ≠ p
  | some x => x ∈ all ∧ m.path x = p ∧ ∀ r ∈ all, m.path r = p → m.cmp r x ≤ 0
variable {m}
theorem best_from (g : m.Good) (p : List UInt8) : ∀ (l all : List R) (b : Option R), (∀ r ∈ all ++ l, m.may r = true) → m.IsBest all p b → m.IsBest (all ++ l) p (l.foldl (m.takeP p) b)
  | [], all, b, _, h => by simpa using h
  | r :: l, all, b, hm, h => by
    have e : all ++ r :: l = (all ++ [r]) ++ l := by simp
    rw [e] at hm ⊢
    refine best_from g p l (all ++ [r]) _ hm ?_
    have hmr : m.may r = true := hm r (by simp)
    have hma : ∀ x ∈ all, m.may x = true := fun x hx => hm x (by simp [hx])
    unfold takeP
    split
    · rename_i hp
      cases b with
      | none =>
        refine ⟨by simp, hp, fun x hx hxp => ?_⟩
        rcases List.mem_append.1 hx with hx | hx
        · exact absurd hxp (h x hx)
        · obtain rfl := List.mem_singleton.1 hx
          have := g.anti x x
          omega
      | some y =>
        obtain ⟨h1, h2, h3⟩ := h
        by_cases hc : m.cmp r y > 0
        · simp only [if_pos hc]
          refine ⟨by simp, hp, fun x hx hxp => ?_⟩
          rcases List.mem_append.1 hx with hx | hx
          · refine g.trans x y r (hma x hx) (hma y h1) hmr (h3 x hx hxp) ?_
            have := g.anti r y
            have := hc
            omega
          · obtain rfl := List.mem_singleton.1 hx
            have := g.anti x x
            omega
        · simp only [if_neg hc]
          refine ⟨by simp [h1], h2, fun x hx hxp => ?_⟩
          rcases List.mem_append.1 hx with hx | hx
          · exact h3 x hx hxp
          · obtain rfl := List.mem_singleton.1 hx
            omega
    · rename_i hp
      cases b with
      | none =>
        intro x hx
        rcases List.mem_append.1 hx with hx | hx
        · exact h x hx
        · obtain rfl := List.mem_singleton.1 hx
          exact hp
      | some y =>
        obtain ⟨h1, h2, h3⟩ := h
        refine ⟨by simp [h1], h2, fun x hx hxp => ?_⟩
        rcases List.mem_append.1 hx with hx | hx
        · exact h3 x hx hxp
        · obtain rfl := List.mem_singleton.1 hx
          exact absurd hxp hp
theorem best_is (g : m.Good) {all : List R} (hm : ∀ r ∈ all, m.may r = true) (p : List UInt8) : m.IsBest all p (m.best all p) := by
  simpa [best] using best_from g p all [] none (by simpa using hm) (fun r hr => by cases hr)
theorem best_some (g : m.Good) {all : List R} (hm : ∀ r ∈ all, m.may r = true) {p : List UInt8} {x : R} (h : m.best all p = some x) : x ∈ all ∧ m.path x = p ∧ ∀ r ∈ all, m.path r = p → m.cmp r x ≤ 0 := by
  have := best_is g hm p
  rwa [h] at this
theorem best_has (g : m.Good) {all : List R} (hm : ∀ r ∈ all, m.may r = true) {r : R} (hr : r ∈ all) : ∃ x, m.best all (m.path r) = some x := by
  have := best_is g hm (m.path r)
  cases h : m.best all (m.path r) with
  | none => rw [h] at this; exact absurd rfl (this r hr)
  | some x => exact ⟨x, rfl⟩
variable (m)
theorem lt_irrefl (x : R) : ¬ m.lt x x := by
  unfold lt
  intro h
  have : ∀ l : List UInt8, Lib.compareBytes l l ≠ -1 := fun l => by
    induction l with
    | nil => simp [Lib.compareBytes]
    | cons a l ih => unfold Lib.compareBytes; simp [UInt8.lt_irrefl, ih]
  exact this _ h
end
end Mv
theorem bytes_trans : ∀ {a b c : List UInt8}, Lib.compareBytes a b = -1 → Lib.compareBytes b c = -1 → Lib.compareBytes a c = -1
  | [], [], _, h, _ => by simp [Lib.compareBytes] at h
  | _ :: _, [], _, h, _ => by simp [Lib.compareBytes] at h
  | [], _ :: _, [], _, h => by simp [Lib.compareBytes] at h
  | [], _ :: _, _ :: _, _, _ => rfl
  | _ :: _, _ :: _, [], _, h => by simp [Lib.compareBytes] at h
  | a :: x, b :: y, c :: z, h1, h2 => by
    unfold Lib.compareBytes at h1 h2 ⊢
    have u := @UInt8.lt_iff_toNat_lt
    by_cases p1 : a < b
    · by_cases p2 : b < c
      · rw [if_pos (u.2 (Nat.lt_trans (u.1 p1) (u.1 p2)))]
      · rw [if_neg p2] at h2
        by_cases p3 : c < b
        · rw [if_pos p3] at h2; exact absurd h2 (by decide)
        · have : b = c := UInt8.toNat_inj.1 (by
            have e1 : ¬ b.toNat < c.toNat := fun e => p2 (u.2 e)
            have e2 : ¬ c.toNat < b.toNat := fun e => p3 (u.2 e)
            omega)
          subst this
          rw [if_pos p1]
    · rw [if_neg p1] at h1
      by_cases q1 : b < a
      · rw [if_pos q1] at h1; exact absurd h1 (by decide)
      · rw [if_neg q1] at h1
        have : a = b := UInt8.toNat_inj.1 (by
          have e1 : ¬ a.toNat < b.toNat := fun e => p1 (u.2 e)
          have e2 : ¬ b.toNat < a.toNat := fun e => q1 (u.2 e)
          omega)
        subst this
        by_cases p2 : a < c
        · rw [if_pos p2]
        · rw [if_neg p2] at h2 ⊢
          by_cases p3 : c < a
          · rw [if_pos p3] at h2; exact absurd h2 (by decide)
          · rw [if_neg p3] at h2 ⊢
            exact bytes_trans h1 h2
theorem bytes_total : ∀ {a b : List UInt8}, a ≠ b → Lib.compareBytes a b ≠ -1 → Lib.compareBytes b a = -1
  | [], [], h, _ => absurd rfl h
  | [], _ :: _, _, h => absurd rfl h
  | _ :: _, [], _, _ => rfl
  | a :: x, b :: y, h, h1 => by
    unfold Lib.compareBytes at h1 ⊢
    by_cases p : a < b
    · rw [if_pos p] at h1; exact absurd rfl h1
    · rw [if_neg p] at h1
      by_cases q : b < a
      · rw [if_pos q]
      · rw [if_neg q] at h1 ⊢
        rw [if_neg p]
        have u := @UInt8.lt_iff_toNat_lt
        have : a = b := UInt8.toNat_inj.1 (by
          have e1 : ¬ a.toNat < b.toNat := fun e => p (u.2 e)
          have e2 : ¬ b.toNat < a.toNat := fun e => q (u.2 e)
          omega)
        subst this
        exact bytes_total (fun e => h (by rw [e])) h1
namespace Mv
section
variable {R : Type} [DecidableEq R] {m : Mv R}
theorem lt_trans {x y z : R} (h : m.lt x y) (k : m.lt y z) : m.lt x z := bytes_trans h k
theorem lt_total {x y : R} (h : m.path x ≠ m.path y) (k : ¬ m.lt x y) : m.lt y x := bytes_total h k
theorem lt_ne {x y : R} (h : m.lt x y) : m.path x ≠ m.path y := fun e => by
  have : m.lt x x := by unfold lt at h ⊢; rw [← e] at h; exact h
  exact m.lt_irrefl x this
variable (m)
/-- A list rises by path. -/
def Rising (l : List R) : Prop := l.Pairwise m.lt
theorem put_mem {r x : R} : ∀ {l : List R}, m.Rising l → (x ∈ m.put l r ↔ x ∈ l ∨ (x = r ∧ ∀ y ∈ l, m.path y ≠ m.path r))
  | [], _ => by simp [put]
  | a :: l, h => by
    have h1 := List.pairwise_cons.1 h
    unfold put
    split
    · rename_i e
      constructor
      · exact Or.inl
      · rintro (h2 | ⟨_, h2⟩)
        · exact h2
        · exact absurd e (h2 a List.mem_cons_self)
    · rename_i e
      split
      · rename_i hl
        have : ∀ y ∈ a :: l, m.path y ≠ m.path r := fun y hy => by
          rcases List.mem_cons.1 hy with rfl | hy
          · exact e
          · exact fun e2 => lt_ne (lt_trans hl (h1.1 y hy)) e2.symm
        rw [List.mem_cons]
        constructor
        · rintro (rfl | h2)
          · exact Or.inr ⟨rfl, this⟩
          · exact Or.inl h2
        · rintro (h2 | ⟨rfl, _⟩)
          · exact Or.inr h2
          · exact Or.inl rfl
      · rw [List.mem_cons, put_mem (l := l) h1.2, List.mem_cons]
        constructor
        · rintro (h2 | h2 | ⟨rfl, h2⟩)
          · exact Or.inl (Or.inl h2)
          · exact Or.inl (Or.inr h2)
          · refine Or.inr ⟨rfl, fun y hy => ?_⟩
            rcases List.mem_cons.1 hy with rfl | hy
            · exact e
            · exact h2 y hy
        · rintro ((h2 | h2) | ⟨rfl, h2⟩)
          · exact Or.inl h2
          · exact Or.inr (Or.inl h2)
          · exact Or.inr (Or.inr ⟨rfl, fun y hy => h2 y (List.mem_cons_of_mem _ hy)⟩)
theorem put_rising (r : R) : ∀ {l : List R}, m.Rising l → m.Rising (m.put l r)
  | [], _ => List.pairwise_singleton _ _
  | a :: l, h => by
    have h1 := List.pairwise_cons.1 h
    unfold put
    split
    · exact h
    · rename_i e
      split
      · rename_i hl
        refine List.pairwise_cons.2 ⟨fun y hy => ?_, h⟩
        rcases List.mem_cons.1 hy with rfl | hy
        · exact hl
        · exact lt_trans hl (h1.1 y hy)
      · rename_i hl
        refine List.pairwise_cons.2 ⟨fun y hy => ?_, put_rising r h1.2⟩
        rcases (m.put_mem h1.2).1 hy with hy | ⟨rfl, _⟩
        · exact h1.1 y hy
        · exact lt_total (fun e2 => e e2.symm) hl
variable {m}
theorem rising_unique : ∀ {a b : List R}, m.Rising a → m.Rising b → (∀ x, x ∈ a ↔ x ∈ b) → a = b
  | [], [], _, _, _ => rfl
  | [], y :: b, _, _, h => by have := (h y).2 List.mem_cons_self; cases this
  | x :: a, [], _, _, h => by have := (h x).1 List.mem_cons_self; cases this
  | x :: a, y :: b, ha, hb, h => by
    have h1 := List.pairwise_cons.1 ha
    have h2 := List.pairwise_cons.1 hb
    have e : x = y := by
      rcases List.mem_cons.1 ((h x).1 List.mem_cons_self) with e | e
      · exact e
      · rcases List.mem_cons.1 ((h y).2 List.mem_cons_self) with e2 | e2
        · exact e2.symm
        · exact absurd (lt_trans (h1.1 y e2) (h2.1 x e)) (m.lt_irrefl x)
    subst e
    have hx1 : x ∉ a := fun hx => m.lt_irrefl x (h1.1 x hx)
    have hx2 : x ∉ b := fun hx => m.lt_irrefl x (h2.1 x hx)
    rw [rising_unique h1.2 h2.2 (fun z => by
      constructor
      · intro hz
        rcases List.mem_cons.1 ((h z).1 (List.mem_cons_of_mem _ hz)) with e | e
        · exact absurd (e ▸ hz) hx1
        · exact e
      · intro hz
        rcases List.mem_cons.1 ((h z).2 (List.mem_cons_of_mem _ hz)) with e | e
        · exact absurd (e ▸ hz) hx2
        · exact e)]
/-- A rising list has one of each path at most. -/
theorem rising_path : ∀ {l : List R} (h : m.Rising l) {x y : R} (hx : x ∈ l) (hy : y ∈ l) (e : m.path x = m.path y), x = y
  | a :: l, h, x, y, hx, hy, e => by
    have h1 := List.pairwise_cons.1 h
    rcases List.mem_cons.1 hx with p | p <;> rcases List.mem_cons.1 hy with q | q
    · rw [p, q]
    · exact absurd e (by rw [p]; exact lt_ne (h1.1 y q))
    · exact absurd e.symm (by rw [q]; exact lt_ne (h1.1 x p))
    · exact rising_path h1.2 p q e
theorem listed_from (g : m.Good) {all : List R} (hm : ∀ r ∈ all, m.may r = true) : ∀ (l out : List R), (∀ r ∈ l, r ∈ all) → m.Rising out → (∀ x ∈ out, m.best all (m.path x) = some x) →
    m.Rising (l.foldl (fun out r => m.put out ((m.best all (m.path r)).getD r)) out) ∧
    ∀ x, x ∈ l.foldl (fun out r => m.put out ((m.best all (m.path r)).getD r)) out ↔ x ∈ out ∨ (m.best all (m.path x) = some x ∧ ∃ r ∈ l, m.path r = m.path x)
  | [], out, _, h, _ => ⟨h, fun x => by simp⟩
  | r :: l, out, hs, h, ho => by
    obtain ⟨b, hb⟩ := best_has g hm (hs r List.mem_cons_self)
    have hbp : m.path b = m.path r := (best_some g hm hb).2.1
    have hbb : m.best all (m.path b) = some b := by rw [hbp]; exact hb
    obtain ⟨i1, i2⟩ := listed_from g hm l (m.put out b) (fun x hx => hs x (List.mem_cons_of_mem _ hx)) (m.put_rising b h) (fun x hx => by
      rcases (m.put_mem h).1 hx with hx | ⟨rfl, _⟩
      · exact ho x hx
      · exact hbb)
    simp only [List.foldl_cons, hb, Option.getD_some]
    refine ⟨i1, fun x => ?_⟩
    rw [i2, m.put_mem h]
    constructor
    · rintro ((h1 | ⟨rfl, h1⟩) | ⟨h1, q, hq, h2⟩)
      · exact Or.inl h1
      · exact Or.inr ⟨hbb, r, List.mem_cons_self, hbp.symm⟩
      · exact Or.inr ⟨h1, q, List.mem_cons_of_mem _ hq, h2⟩
    · rintro (h1 | ⟨h1, q, hq, h2⟩)
      · exact Or.inl (Or.inl h1)
      · rcases List.mem_cons.1 hq with rfl | hq
        · have : b = x := by rw [← h2, hb] at h1; simpa using h1
          subst this
          by_cases e : ∃ y ∈ out, m.path y = m.path b
          · obtain ⟨y, hy, e⟩ := e
            have h3 := ho y hy
            rw [e, hbb] at h3
            obtain rfl : b = y := by simpa using h3
            exact Or.inl (Or.inl hy)
          · exact Or.inl (Or.inr ⟨rfl, fun y hy e2 => e ⟨y, hy, e2⟩⟩)
        · exact Or.inr ⟨h1, q, hq, h2⟩
theorem listed_rising (g : m.Good) {all : List R} (hm : ∀ r ∈ all, m.may r = true) : m.Rising (m.listed all) := (listed_from g hm all [] (fun _ h => h) List.Pairwise.nil (fun x hx => by cases hx)).1
theorem listed_mem (g : m.Good) {all : List R} (hm : ∀ r ∈ all, m.may r = true) {x : R} : x ∈ m.listed all ↔ m.best all (m.path x) = some x := by
  unfold listed
  rw [(listed_from g hm all [] (fun _ h => h) List.Pairwise.nil (fun x hx => by cases hx)).2 x]
  constructor
  · rintro (h | ⟨h, _⟩)
    · cases h
    · exact h
  · intro h
    exact Or.inr ⟨h, x, (best_some g hm h).1, rfl⟩
theorem list_rising (g : m.Good) (root : List R) (l : List (R × List R)) : m.Rising (m.list root l) := listed_rising g fun _ h => m.reached_may h
theorem list_mem (g : m.Good) {root : List R} {l : List (R × List R)} {x : R} : x ∈ m.list root l ↔ m.best (m.reached root l) (m.path x) = some x := listed_mem g fun _ h => m.reached_may h
/-- Whoever is listed was reached; none of his path is above him. -/
theorem list_is (g : m.Good) {root : List R} {l : List (R × List R)} {x : R} (h : x ∈ m.list root l) : m.Reach root l x ∧ ∀ y, m.Reach root l y → m.path y = m.path x → m.cmp y x ≤ 0 := by
  obtain ⟨h1, _, h3⟩ := best_some g (fun _ h => m.reached_may h) ((list_mem g).1 h)
  exact ⟨m.reached_mem.1 h1, fun y hy e => h3 y (m.reached_mem.2 hy) e⟩
end
end Mv
end Go.Proofs.YtkidfclnakbgiaaGreatDoor
end

section
namespace Go.Proofs.YtkidfclnakbgiaaGreatDoor
open Go
set_option linter.unusedVariables false
set_option linter.unusedSimpArgs false
set_option linter.unusedSectionVars false
namespace Mv
section
variable {R : Type} [DecidableEq R] (m : Mv R)
/-- The first one of a path. -/
def first (l : List R) (r : R) : Option R := l.find? fun x => decide (m.path x = m.path r)
def same (l : List R) (r : R) : Bool := match m.first l r with | some x => decide (m.cmp x r = 0) | none => false
variable {m}
theorem least_in (g : m.Good) {root : List R} {l : List (R × List R)} {x : R} (hx : x ∈ m.list root l) : x ∈ m.reached root l := m.reached_mem.2 (list_is g hx).1
theorem rising_nodup {l : List R} (h : m.Rising l) : l.Nodup := h.imp fun hl e => by subst e; exact m.lt_irrefl _ hl
theorem alone_len (g : m.Good) (root : List R) (l : List (R × List R)) : (m.list root l).length ≤ (m.reached root l).length := nodup_len (rising_nodup (list_rising g _ _)) fun x hx => least_in g hx
theorem downs_len (root : List R) (l : List (R × List R)) (r : R) : (m.downgrade root l r).length ≤ root.length := by
  unfold downgrade
  split
  · exact List.length_filterMap_le _ _
  · exact Nat.le_refl _
end
end Mv
end Go.Proofs.YtkidfclnakbgiaaGreatDoor
end
