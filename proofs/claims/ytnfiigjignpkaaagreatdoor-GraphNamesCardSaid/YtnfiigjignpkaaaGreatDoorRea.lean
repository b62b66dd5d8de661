/- Who is reached from whom, by edges: going down with marks meets just those. Plain, no program in sight. -/
import Derived.Test.YtnfiigjignpkaaaGreatDoorGra
namespace Go.Proofs.YtnfiigjignpkaaaGreatDoor
open Go
set_option linter.unusedVariables false
set_option linter.unusedSimpArgs false

section
variable (E : Nat → List Int)
inductive Reach : Nat → Nat → Prop
  | one {i : Nat} {z : Int} : z ∈ E i → Reach i z.toNat
  | step {i j : Nat} {z : Int} : z ∈ E i → Reach z.toNat j → Reach i j
variable {E}
theorem Reach.trans {a b c : Nat} (h : Reach E a b) (g : Reach E b c) : Reach E a c := by
  induction h with
  | one hz => exact .step hz g
  | step hz _ ih => exact .step hz (ih g)
theorem Reach.last {a b : Nat} (h : Reach E a b) : ∃ c z, z ∈ E c ∧ b = z.toNat ∧ (c = a ∨ Reach E a c) := by
  induction h with
  | one hz => exact ⟨_, _, hz, rfl, .inl rfl⟩
  | step hz _ ih =>
    obtain ⟨c, z, h1, h2, h3⟩ := ih
    refine ⟨c, z, h1, h2, .inr ?_⟩
    rcases h3 with rfl | h3
    · exact .one hz
    · exact .step hz h3
variable (E)
/-- Going down from a place, with marks. -/
def dn : Nat → Nat → List Bool → List Bool
  | 0, _, m => m
  | f + 1, i, m => (E i).foldl (fun m z => if m.getD z.toNat false = true then m else dn f z.toNat (m.set z.toNat true)) m
def stepD (f : Nat) (m : List Bool) (z : Int) : List Bool := if m.getD z.toNat false = true then m else dn E f z.toNat (m.set z.toNat true)
theorem dn_succ (f i : Nat) (m : List Bool) : dn E (f + 1) i m = (E i).foldl (stepD E f) m := rfl

structure Dn (L : List Int) (i : Nat) (m m' : List Bool) : Prop where
  len : m'.length = m.length
  cnt : m'.count false ≤ m.count false
  mono : ∀ x : Nat, m.getD x false = true → m'.getD x false = true
  all : ∀ z ∈ L, m'.getD z.toNat false = true
  new : ∀ x : Nat, m'.getD x false = true → m.getD x false = false → Reach E i x ∧ ∀ z ∈ E x, m'.getD z.toNat false = true
variable {E}
theorem Dn.nil (i : Nat) (m : List Bool) : Dn E [] i m m where
  len := rfl
  cnt := Nat.le_refl _
  mono := fun _ h => h
  all := fun _ h => by cases h
  new := fun x h1 h2 => by rw [h2] at h1; cases h1
theorem Dn.app {L1 L2 : List Int} {i : Nat} {m m1 m2 : List Bool} (h1 : Dn E L1 i m m1) (h2 : Dn E L2 i m1 m2) : Dn E (L1 ++ L2) i m m2 where
  len := h2.len.trans h1.len
  cnt := Nat.le_trans h2.cnt h1.cnt
  mono := fun x h => h2.mono x (h1.mono x h)
  all := fun z hz => by
    rcases List.mem_append.1 hz with h | h
    · exact h2.mono _ (h1.all z h)
    · exact h2.all z h
  new := fun x hx hn => by
    cases hm : m1.getD x false with
    | true =>
      obtain ⟨a, b⟩ := h1.new x hm hn
      exact ⟨a, fun z hz => h2.mono _ (b z hz)⟩
    | false => exact h2.new x hx hm
theorem getD_set (m : List Bool) (k x : Nat) (hk : k < m.length) : (m.set k true).getD x false = (if x = k then true else m.getD x false) := by
  rw [List.getD_eq_getElem?_getD, List.getD_eq_getElem?_getD, List.getElem?_set]
  by_cases h : k = x
  · subst h
    simp [hk]
  · rw [if_neg h, if_neg (fun e => h e.symm)]
theorem count_set : ∀ (m : List Bool) (k : Nat), k < m.length → m.getD k false = false → (m.set k true).count false + 1 = m.count false
  | [], k, h, _ => by cases h
  | b :: m, 0, _, h => by
    obtain rfl : b = false := by simpa using h
    simp
  | b :: m, k + 1, h, h2 => by
    have := count_set m k (by simpa using h) (by simpa using h2)
    cases b <;> simp <;> omega
theorem fold_ok {N : Nat} (hE : ∀ i z, z ∈ E i → z.toNat < N) (f : Nat) (ok : ∀ (i : Nat) (m : List Bool), m.length = N → m.count false < f → Dn E (E i) i m (dn E f i m)) (i : Nat) :
    ∀ (L : List Int) (m : List Bool), (∀ z ∈ L, z ∈ E i) → m.length = N → m.count false < f + 1 → Dn E L i m (L.foldl (stepD E f) m) := by
    intro L
    induction L with
    | nil => intro m _ _ _; exact Dn.nil i m
    | cons z L ih =>
      intro m hL hl hc
      have hz := hL z (by simp)
      have hzN := hE i z hz
      have one : Dn E [z] i m (stepD E f m z) := by
        unfold stepD
        cases hm : m.getD z.toNat false with
        | true =>
          rw [if_pos rfl]
          exact { Dn.nil i m with all := fun y hy => by obtain rfl := List.mem_singleton.1 hy; exact hm }
        | false =>
          rw [if_neg (by simp)]
          have hcs := count_set m z.toNat (by omega) hm
          have D := ok z.toNat (m.set z.toNat true) (by simpa using hl) (by omega)
          have gs := fun x => getD_set m z.toNat x (by omega)
          have hself : (dn E f z.toNat (m.set z.toNat true)).getD z.toNat false = true := D.mono _ (by rw [gs]; simp)
          exact {
            len := by rw [D.len]; simp
            cnt := by have := D.cnt; omega
            mono := fun x hx => D.mono x (by rw [gs]; split <;> first | rfl | exact hx)
            all := fun y hy => by obtain rfl := List.mem_singleton.1 hy; exact hself
            new := fun x hx hn => by
              by_cases e : x = z.toNat
              · subst e
                exact ⟨.one hz, D.all⟩
              · obtain ⟨a, b⟩ := D.new x hx (by rw [gs, if_neg e]; exact hn)
                exact ⟨.step hz a, b⟩ }
      exact Dn.app one (ih _ (fun y hy => hL y (by simp [hy])) (by rw [one.len]; exact hl) (by have := one.cnt; omega))
theorem dn_ok {N : Nat} (hE : ∀ i z, z ∈ E i → z.toNat < N) : ∀ (f i : Nat) (m : List Bool), m.length = N → m.count false < f → Dn E (E i) i m (dn E f i m)
  | 0, _, _, _, h => by omega
  | f + 1, i, m, hl, hc => by
    rw [dn_succ]
    exact fold_ok hE f (dn_ok hE f) i (E i) m (fun _ h => h) hl hc

variable (E)
def belowOf (i : Nat) : List Bool := dn E 13 i (List.replicate 12 false)
variable {E}
theorem belowOf_len (hE : ∀ i z, z ∈ E i → z.toNat < 12) (i : Nat) : (belowOf E i).length = 12 := (dn_ok hE 13 i _ (by simp) (by decide)).len
theorem below_iff (hE : ∀ i z, z ∈ E i → z.toNat < 12) (i x : Nat) : (belowOf E i).getD x false = true ↔ Reach E i x := by
  have D := dn_ok hE 13 i (List.replicate 12 false) (by simp) (by decide)
  have h0 : ∀ x : Nat, (List.replicate 12 false).getD x false = false := fun x => by
    rw [List.getD_eq_getElem?_getD, List.getElem?_replicate]; split <;> rfl
  constructor
  · intro h; exact (D.new x h (h0 x)).1
  · intro h
    suffices H : ∀ a x, Reach E a x → (a = i ∨ (belowOf E i).getD a false = true) → (belowOf E i).getD x false = true from H i x h (.inl rfl)
    intro a x h
    induction h with
    | one hz =>
      rintro (rfl | h)
      · exact D.all _ hz
      · exact (D.new _ h (h0 _)).2 _ hz
    | step hz _ ih =>
      rintro (rfl | h)
      · exact ih (.inr (D.all _ hz))
      · exact ih (.inr ((D.new _ h (h0 _)).2 _ hz))

theorem countP_lt {p q : Nat → Bool} : ∀ (l : List Nat), (∀ x ∈ l, p x = true → q x = true) → (∃ y ∈ l, q y = true ∧ p y = false) → l.countP p < l.countP q
  | [], _, h => by obtain ⟨_, h, _⟩ := h; cases h
  | x :: l, hs, h => by
    have hle : l.countP p ≤ l.countP q := List.countP_mono_left (fun y hy => hs y (by simp [hy]))
    obtain ⟨y, hy, hq, hp⟩ := h
    rw [List.countP_cons, List.countP_cons]
    rcases List.mem_cons.1 hy with rfl | hy
    · rw [hq, hp]; simp; omega
    · have := countP_lt l (fun y hy => hs y (by simp [hy])) ⟨y, hy, hq, hp⟩
      have hx := hs x (by simp)
      cases hpx : p x
      · simp; split <;> omega
      · rw [hx hpx]; simp; omega
open Classical in
/-- Where nobody of a set depends on himself, somebody of it requires nobody of it. -/
theorem sink {n : Nat} (hE : ∀ i z, z ∈ E i → z.toNat < n) (U : Nat → Prop) (hac : ∀ u, U u → ¬ Reach E u u) : ∀ u, U u → ∃ v, U v ∧ ∀ z ∈ E v, ¬ U z.toNat := by
  suffices H : ∀ c u, U u → (List.range n).countP (fun x => decide (Reach E u x)) = c → ∃ v, U v ∧ ∀ z ∈ E v, ¬ U z.toNat from fun u hu => H _ u hu rfl
  intro c
  induction c using Nat.strongRecOn with
  | _ c ih =>
    intro u hu hc
    by_cases h : ∀ z ∈ E u, ¬ U z.toNat
    · exact ⟨u, hu, h⟩
    · obtain ⟨z, hz⟩ := Classical.not_forall.1 h
      obtain ⟨hzE, hzU⟩ : z ∈ E u ∧ U z.toNat := ⟨Classical.byContradiction fun e => hz fun h => absurd h e, Classical.byContradiction fun e => hz fun _ => e⟩
      refine ih _ ?_ z.toNat hzU rfl
      rw [← hc]
      refine countP_lt _ ?_ ⟨z.toNat, ?_, ?_, ?_⟩
      · intro x _ hx
        rw [decide_eq_true_eq] at hx ⊢
        exact .step hzE hx
      · rw [List.mem_range]; exact hE u z hzE
      · rw [decide_eq_true_eq]; exact .one hzE
      · rw [decide_eq_false_iff_not]; exact hac _ hzU
end
end Go.Proofs.YtnfiigjignpkaaaGreatDoor

/- Orders, and the lists of those who are reached: plain, no program in sight. -/
namespace Go.Proofs.YtnfiigjignpkaaaGreatDoor
open Go
set_option linter.unusedVariables false
set_option linter.unusedSimpArgs false

theorem len_le_of_sub : ∀ (o l : List Int), o.Nodup → (∀ z ∈ o, z ∈ l) → o.length ≤ l.length
  | [], _, _, _ => Nat.zero_le _
  | z :: o, l, hn, hs => by
    have hz := hs z (by simp)
    have := len_le_of_sub o (l.erase z) (List.nodup_cons.1 hn).2 (fun y hy => by
      have hne : y ≠ z := fun e => (List.nodup_cons.1 hn).1 (e ▸ hy)
      exact (List.mem_erase_of_ne hne).2 (hs y (by simp [hy])))
    rw [List.length_erase_of_mem hz] at this
    have := List.length_pos_of_mem hz
    simp only [List.length_cons]; omega
def ints (n : Nat) : List Int := (List.range n).map fun (k : Nat) => (k : Int)
theorem mem_ints {n : Nat} {z : Int} : z ∈ ints n ↔ 0 ≤ z ∧ z.toNat < n := by
  unfold ints
  simp only [List.mem_map, List.mem_range]
  constructor
  · rintro ⟨k, hk, rfl⟩; omega
  · intro ⟨h0, h1⟩; exact ⟨z.toNat, h1, by omega⟩
theorem ints_nodup (n : Nat) : (ints n).Nodup := by
  unfold ints
  exact List.Pairwise.map (R := (· ≠ ·)) (fun (k : Nat) => (k : Int)) (fun a b (h : a ≠ b) => by omega) List.nodup_range
theorem ints_len (n : Nat) : (ints n).length = n := by simp [ints]
theorem nodup_le {n : Nat} {o : List Int} (hn : o.Nodup) (hs : ∀ z ∈ o, 0 ≤ z ∧ z.toNat < n) : o.length ≤ n := by
  have := len_le_of_sub o (ints n) hn (fun z hz => mem_ints.2 (hs z hz))
  rwa [ints_len] at this
theorem nodup_full {n : Nat} {o : List Int} (hn : o.Nodup) (hs : ∀ z ∈ o, 0 ≤ z ∧ z.toNat < n) (hl : n ≤ o.length) (i : Nat) (hi : i < n) : (i : Int) ∈ o := by
  refine Classical.byContradiction fun h => ?_
  have := nodup_le (o := (i : Int) :: o) (n := n) (List.nodup_cons.2 ⟨h, hn⟩) (fun z hz => by
    rcases List.mem_cons.1 hz with rfl | hz
    · omega
    · exact hs z hz)
  simp at this; omega

section
variable (E : Nat → List Int)
/-- What edges are like: places below n. -/
structure Edgy (n : Nat) : Prop where
  nn : ∀ i z, z ∈ E i → 0 ≤ z ∧ z.toNat < n
variable {E}
theorem Edgy.lt {n : Nat} (h : Edgy E n) : ∀ i z, z ∈ E i → z.toNat < n := fun i z hz => (h.nn i z hz).2
theorem Edgy.reach {n : Nat} (h : Edgy E n) {i x : Nat} (r : Reach E i x) : x < n := by
  obtain ⟨c, z, hz, rfl, _⟩ := r.last
  exact h.lt _ _ hz
variable (E)
inductive OrdOk (n : Nat) : List Int → Prop
  | nil : OrdOk n []
  | snoc {o : List Int} {z : Int} : OrdOk n o → 0 ≤ z → z.toNat < n → z ∉ o → (∀ y ∈ E z.toNat, y ∈ o) → OrdOk n (o ++ [z])
variable {E}
theorem OrdOk.nodup {n : Nat} {o : List Int} (h : OrdOk E n o) : o.Nodup := by
  induction h with
  | nil => exact List.nodup_nil
  | snoc _ _ _ hz _ ih =>
    rw [List.nodup_append]
    exact ⟨ih, by simp, fun a ha b hb => by obtain rfl := List.mem_singleton.1 hb; exact fun e => hz (e ▸ ha)⟩
theorem OrdOk.sub {n : Nat} {o : List Int} (h : OrdOk E n o) : ∀ z ∈ o, 0 ≤ z ∧ z.toNat < n := by
  induction h with
  | nil => intro z hz; cases hz
  | snoc _ h0 h1 _ _ ih =>
    intro y hy
    rcases List.mem_append.1 hy with hy | hy
    · exact ih y hy
    · obtain rfl := List.mem_singleton.1 hy; exact ⟨h0, h1⟩
theorem OrdOk.down {n : Nat} {o : List Int} (hE : Edgy E n) (h : OrdOk E n o) : ∀ z ∈ o, (∀ x, Reach E z.toNat x → (x : Int) ∈ o) ∧ ¬ Reach E z.toNat z.toNat := by
  induction h with
  | nil => intro z hz; cases hz
  | @snoc o z _ h0 h1 hz hy ih =>
    have key : ∀ x, Reach E z.toNat x → (x : Int) ∈ o := by
      intro x hx
      cases hx with
      | one hw => have := hE.nn _ _ hw; rw [show ((_ : Nat) : Int) = _ from Int.toNat_of_nonneg this.1]; exact hy _ hw
      | step hw hx => exact (ih _ (hy _ hw)).1 x hx
    intro y hyo
    rcases List.mem_append.1 hyo with hyo | hyo
    · exact ⟨fun x hx => List.mem_append_left _ ((ih y hyo).1 x hx), (ih y hyo).2⟩
    · obtain rfl := List.mem_singleton.1 hyo
      refine ⟨fun x hx => List.mem_append_left _ (key x hx), fun hr => hz ?_⟩
      have := key _ hr
      rwa [Int.toNat_of_nonneg h0] at this

variable (E)
/-- Who is next: the first one who is not there yet, while all whom he requires are. -/
def canNext (o : List Int) (i : Nat) : Bool := !o.contains (i : Int) && (E i).all fun z => o.contains z
def nextOf (n : Nat) (o : List Int) : Int := idxFrom (canNext E o) 0 (List.range n)
def orderGo (n : Nat) : Nat → List Int → List Int × Int
  | 0, _ => ([], 12)
  | f + 1, o => if o.length < n then (if nextOf E n o < 0 then ([], 12) else orderGo n f (o ++ [nextOf E n o])) else (o, 0)
def orderOf (n : Nat) : List Int × Int := orderGo E n (n + 1) []
def cycOf (n : Nat) : List Int := ((List.range n).filter fun i => (belowOf E i).getD i false).map fun (i : Nat) => (i : Int)
variable {E}
theorem idxFrom_cases {α : Type} (p : α → Bool) : ∀ (l : List α) (n : Nat), (∃ k x, l[k]? = some x ∧ p x = true ∧ idxFrom p n l = ((n + k : Nat) : Int) ∧ ∀ j y, j < k → l[j]? = some y → p y = false) ∨ (idxFrom p n l = -1 ∧ ∀ x ∈ l, p x = false)
  | [], n => .inr ⟨rfl, fun _ h => by cases h⟩
  | x :: l, n => by
    cases h : p x with
    | true => exact .inl ⟨0, x, rfl, h, by simp [idxFrom, h], fun j y hj => absurd hj (Nat.not_lt_zero _)⟩
    | false =>
      rcases idxFrom_cases p l (n + 1) with ⟨k, y, h1, h2, h3, h4⟩ | ⟨h1, h2⟩
      · refine .inl ⟨k + 1, y, by simpa using h1, h2, ?_, ?_⟩
        · simp only [idxFrom, h, Bool.false_eq_true, if_false, h3]
          omega
        · intro j y hj hy
          cases j with
          | zero => obtain rfl : x = y := by simpa using hy
                    exact h
          | succ j => exact h4 j y (by omega) (by simpa using hy)
      · refine .inr ⟨by simp [idxFrom, h, h1], fun y hy => ?_⟩
        rcases List.mem_cons.1 hy with rfl | hy
        · exact h
        · exact h2 y hy
theorem nextOf_cases (n : Nat) (o : List Int) : (∃ k, k < n ∧ nextOf E n o = (k : Int) ∧ canNext E o k = true) ∨ (nextOf E n o = -1 ∧ ∀ k, k < n → canNext E o k = false) := by
  rcases idxFrom_cases (canNext E o) (List.range n) 0 with ⟨k, x, h1, h2, h3, _⟩ | ⟨h1, h2⟩
  · have hk : k < n := by have := (List.getElem?_eq_some_iff.1 h1).1; simpa using this
    obtain rfl : k = x := by rw [List.getElem?_range hk] at h1; exact Option.some.inj h1
    exact .inl ⟨k, hk, by rw [nextOf, h3]; simp, h2⟩
  · exact .inr ⟨h1, fun k hk => h2 k (List.mem_range.2 hk)⟩
theorem canNext_iff {o : List Int} {i : Nat} : canNext E o i = true ↔ (i : Int) ∉ o ∧ ∀ z ∈ E i, z ∈ o := by
  simp [canNext]
theorem mem_cycOf {n : Nat} {z : Int} (hE : Edgy E n) (h12 : n ≤ 12) : z ∈ cycOf E n ↔ 0 ≤ z ∧ Reach E z.toNat z.toNat := by
  have hb := below_iff (E := E) (fun i z hz => Nat.lt_of_lt_of_le (hE.lt i z hz) h12)
  unfold cycOf
  simp only [List.mem_map, List.mem_filter, List.mem_range, hb]
  constructor
  · rintro ⟨k, ⟨_, h⟩, rfl⟩; exact ⟨by omega, h⟩
  · intro ⟨h0, h⟩; exact ⟨z.toNat, ⟨hE.reach h, h⟩, by omega⟩
/-- An order goes on, or stands, or somebody depends on himself. -/
theorem orderGo_cases {n : Nat} (hE : Edgy E n) : ∀ (f : Nat) (o : List Int), OrdOk E n o → n < f + o.length →
    (∃ o', orderGo E n f o = (o', 0) ∧ OrdOk E n o' ∧ o'.length = n ∧ ∀ i, i < n → ¬ Reach E i i) ∨ (orderGo E n f o = ([], 12) ∧ ∃ i, i < n ∧ Reach E i i)
  | 0, o, ho, hf => by have := nodup_le ho.nodup ho.sub; omega
  | f + 1, o, ho, hf => by
    unfold orderGo
    by_cases hl : o.length < n
    · rw [if_pos hl]
      rcases nextOf_cases (E := E) n o with ⟨k, hk, hz, hc⟩ | ⟨hz, hc⟩
      · rw [hz, if_neg (by omega)]
        obtain ⟨c1, c2⟩ := canNext_iff.1 hc
        exact orderGo_cases hE f (o ++ [(k : Int)]) (.snoc ho (by omega) (by simpa using hk) c1 (by simpa using c2)) (by simp; omega)
      · rw [hz, if_pos (by omega)]
        refine .inr ⟨rfl, Classical.byContradiction fun hno => ?_⟩
        obtain ⟨u, hu⟩ : ∃ u, u < n ∧ (u : Int) ∉ o := Classical.byContradiction fun h => by
          have := len_le_of_sub (ints n) o (ints_nodup n) (fun z hz => Classical.byContradiction fun hzo => h ⟨z.toNat, (mem_ints.1 hz).2, by rwa [Int.toNat_of_nonneg (mem_ints.1 hz).1]⟩)
          rw [ints_len] at this; omega
        obtain ⟨v, ⟨hv, hvo⟩, hvE⟩ := sink (E := E) (n := n) hE.lt (fun u => u < n ∧ (u : Int) ∉ o) (fun u hu hr => hno ⟨u, hu.1, hr⟩) u hu
        have : canNext E o v = true := canNext_iff.2 ⟨hvo, fun z hz => Classical.byContradiction fun hzo => hvE z hz ⟨hE.lt v z hz, by rwa [Int.toNat_of_nonneg (hE.nn v z hz).1]⟩⟩
        rw [hc v hv] at this; cases this
    · rw [if_neg hl]
      have hle := nodup_le ho.nodup ho.sub
      refine .inl ⟨o, rfl, ho, by omega, fun i hi hr => ?_⟩
      have := nodup_full ho.nodup ho.sub (by omega) i hi
      exact (ho.down hE _ this).2 (by simpa using hr)
theorem orderOf_cases {n : Nat} (hE : Edgy E n) : (∃ o', orderOf E n = (o', 0) ∧ OrdOk E n o' ∧ o'.length = n ∧ ∀ i, i < n → ¬ Reach E i i) ∨ (orderOf E n = ([], 12) ∧ ∃ i, i < n ∧ Reach E i i) :=
  orderGo_cases hE (n + 1) [] .nil (by simp)

/-- The document's list of those on whom a module depends. -/
def addAll (o : List Int) (L : List Int) : List Int := L.foldl (fun o z => if o.contains z = true then o else o ++ [z]) o
theorem addAll_app : ∀ (L o : List Int), ∃ t, addAll o L = o ++ t ∧ ∀ z, z ∈ o ++ t ↔ z ∈ o ∨ z ∈ L
  | [], o => ⟨[], by simp [addAll], by simp⟩
  | z :: L, o => by
    unfold addAll
    rw [List.foldl_cons]
    by_cases h : o.contains z = true
    · rw [if_pos h]
      obtain ⟨t, h1, h2⟩ := addAll_app L o
      refine ⟨t, h1, fun y => ?_⟩
      rw [h2]
      constructor
      · rintro (h | h)
        · exact .inl h
        · exact .inr (by simp [h])
      · rintro (h3 | h3)
        · exact .inl h3
        · rcases List.mem_cons.1 h3 with rfl | h3
          · exact .inl (by simpa using h)
          · exact .inr h3
    · rw [if_neg h]
      obtain ⟨t, h1, h2⟩ := addAll_app L (o ++ [z])
      refine ⟨z :: t, by rw [show o ++ z :: t = o ++ [z] ++ t by simp]; exact h1, fun y => ?_⟩
      rw [show o ++ z :: t = o ++ [z] ++ t by simp, h2]
      simp [or_assoc]
theorem addAll_nodup : ∀ (L o : List Int), o.Nodup → (addAll o L).Nodup
  | [], o, h => h
  | z :: L, o, h => by
    unfold addAll
    rw [List.foldl_cons]
    by_cases hz : o.contains z = true
    · rw [if_pos hz]; exact addAll_nodup L o h
    · rw [if_neg hz]
      refine addAll_nodup L (o ++ [z]) ?_
      rw [List.nodup_append]
      exact ⟨h, by simp, fun a ha b hb => by obtain rfl := List.mem_singleton.1 hb; exact fun e => hz (by simpa using e ▸ ha)⟩
variable (E)
def downGo : Nat → Nat → List Int → Option (List Int)
  | 0, _, _ => none
  | f + 1, k, o => if k < o.length then downGo f (k + 1) (addAll o (E (o.getD k 0).toNat)) else some o
variable {E}
theorem downGo_ok {n : Nat} (hE : Edgy E n) (i : Nat) : ∀ (f k : Nat) (o : List Int), o.Nodup → (∀ z ∈ o, 0 ≤ z ∧ Reach E i z.toNat) → (∀ z ∈ E i, z ∈ o) → (∀ j z, j < k → o[j]? = some z → ∀ y ∈ E z.toNat, y ∈ o) → k ≤ o.length → n < f + k →
    ∃ r, downGo E f k o = some r ∧ (∀ z, z ∈ r ↔ 0 ≤ z ∧ Reach E i z.toNat) ∧ r.length ≤ n
  | 0, k, o, hn, h1, h2, h3, hk, hf => by
    have := nodup_le (n := n) hn (fun z hz => ⟨(h1 z hz).1, hE.reach (h1 z hz).2⟩)
    omega
  | f + 1, k, o, hn, h1, h2, h3, hk, hf => by
    unfold downGo
    by_cases hlt : k < o.length
    · rw [if_pos hlt]
      have hg : o[k]? = some (o.getD k 0) := by rw [List.getD_eq_getElem?_getD, List.getElem?_eq_getElem hlt]; rfl
      generalize o.getD k 0 = w at hg
      have hw : w ∈ o := List.mem_of_getElem? hg
      obtain ⟨t, e, hm⟩ := addAll_app (E w.toNat) o
      have hnd := addAll_nodup (E w.toNat) o hn
      rw [e] at hnd ⊢
      refine downGo_ok hE i f (k + 1) (o ++ t) hnd ?_ ?_ ?_ (by simp; omega) (by omega)
      · intro z hz
        rcases (hm z).1 hz with hz | hz
        · exact h1 z hz
        · exact ⟨(hE.nn _ _ hz).1, (h1 w hw).2.trans (.one hz)⟩
      · intro z hz; exact List.mem_append_left _ (h2 z hz)
      · intro j z hj hz y hy
        have hj2 : j < o.length := by omega
        rw [List.getElem?_append_left hj2] at hz
        by_cases ej : j = k
        · subst ej
          obtain rfl := Option.some.inj (hg.symm.trans hz)
          exact (hm y).2 (.inr hy)
        · exact List.mem_append_left _ (h3 j z (by omega) hz y hy)
    · rw [if_neg hlt]
      refine ⟨o, rfl, fun z => ⟨h1 z, fun ⟨h0, hr⟩ => ?_⟩, nodup_le (n := n) hn (fun z hz => ⟨(h1 z hz).1, hE.reach (h1 z hz).2⟩)⟩
      have hcl : ∀ w ∈ o, ∀ y ∈ E w.toNat, y ∈ o := by
        intro w hw y hy
        obtain ⟨j, hj, e⟩ := List.getElem_of_mem hw
        exact h3 j w (by omega) (by rw [List.getElem?_eq_getElem hj, e]) y hy
      suffices H : ∀ a x, Reach E a x → (a = i ∨ (a : Int) ∈ o) → (x : Int) ∈ o by
        have := H i z.toNat hr (.inl rfl)
        rwa [Int.toNat_of_nonneg h0] at this
      intro a x hx
      induction hx with
      | one hz =>
        have hnz := (hE.nn _ _ hz).1
        rintro (rfl | h)
        · rw [Int.toNat_of_nonneg hnz]; exact h2 _ hz
        · rw [Int.toNat_of_nonneg hnz]; exact hcl _ h _ (by simpa using hz)
      | step hz _ ih =>
        have hnz := (hE.nn _ _ hz).1
        rintro (rfl | h)
        · exact ih (.inr (by rw [Int.toNat_of_nonneg hnz]; exact h2 _ hz))
        · exact ih (.inr (by rw [Int.toNat_of_nonneg hnz]; exact hcl _ h _ (by simpa using hz)))
theorem downGo_edges {n : Nat} (hE : Edgy E n) (hnd : ∀ i, (E i).Nodup) (i f : Nat) (hf : n < f) : ∃ r, downGo E f 0 (E i) = some r ∧ (∀ z, z ∈ r ↔ 0 ≤ z ∧ Reach E i z.toNat) ∧ r.length ≤ n :=
  downGo_ok hE i f 0 (E i) (hnd i) (fun z hz => ⟨(hE.nn i z hz).1, .one hz⟩) (fun _ h => h) (fun j z hj => absurd hj (Nat.not_lt_zero _)) (Nat.zero_le _) (by omega)
end
end Go.Proofs.YtnfiigjignpkaaaGreatDoor

/- Who is up: plain laws, no program in sight. -/
namespace Go.Proofs.YtnfiigjignpkaaaGreatDoor
open Go
set_option linter.unusedVariables false
set_option linter.unusedSimpArgs false

section
variable (E : Nat → List Int)
def isUp (n : Nat) (fr : List Int) (i : Nat) : Bool := fr.contains (i : Int) || fr.any fun z => decide (0 ≤ z) && (decide (z < n) && (belowOf E i).getD z.toNat false)
def placesOf (n : Nat) (p : Nat → Bool) : List Int := ((List.range n).filter p).map fun (i : Nat) => (i : Int)
def upOf (n : Nat) (fr : List Int) : List Int := placesOf n (isUp E n fr)
variable {E}
theorem cycOf_places (n : Nat) : cycOf E n = placesOf n fun i => (belowOf E i).getD i false := rfl
theorem mem_places {n : Nat} {p : Nat → Bool} {z : Int} : z ∈ placesOf n p ↔ 0 ≤ z ∧ z.toNat < n ∧ p z.toNat = true := by
  unfold placesOf
  simp only [List.mem_map, List.mem_filter, List.mem_range]
  constructor
  · rintro ⟨k, ⟨h1, h2⟩, rfl⟩; exact ⟨by omega, by simpa using h1, by simpa using h2⟩
  · intro ⟨h0, h1, h2⟩; exact ⟨z.toNat, ⟨h1, h2⟩, by omega⟩
theorem places_congr {n : Nat} {p q : Nat → Bool} (h : ∀ i, i < n → p i = q i) : placesOf n p = placesOf n q := by
  unfold placesOf
  rw [List.filter_congr (fun i hi => h i (List.mem_range.1 hi))]
theorem places_len (n : Nat) (p : Nat → Bool) : (placesOf n p).length ≤ n := by
  unfold placesOf
  rw [List.length_map]
  exact Nat.le_trans (List.length_filter_le _ _) (by simp)
theorem bool_ext {a b : Bool} (h : a = true ↔ b = true) : a = b := by
  cases a <;> cases b <;> simp at h <;> rfl
theorem isUp_iff {n : Nat} (hE : Edgy E n) (h12 : n ≤ 12) {fr : List Int} {i : Nat} : isUp E n fr i = true ↔ (i : Int) ∈ fr ∨ ∃ z ∈ fr, 0 ≤ z ∧ Reach E i z.toNat := by
  have hb := below_iff (E := E) (fun i z hz => Nat.lt_of_lt_of_le (hE.lt i z hz) h12)
  unfold isUp
  simp only [Bool.or_eq_true, List.contains_iff_mem, List.any_eq_true, Bool.and_eq_true, decide_eq_true_eq, hb]
  constructor
  · rintro (h | ⟨z, h1, h2, _, h3⟩)
    · exact .inl h
    · exact .inr ⟨z, h1, h2, h3⟩
  · rintro (h | ⟨z, h1, h2, h3⟩)
    · exact .inl h
    · exact .inr ⟨z, h1, h2, by have := hE.reach h3; omega, h3⟩
theorem mem_upOf {n : Nat} (hE : Edgy E n) (h12 : n ≤ 12) {fr : List Int} {z : Int} : z ∈ upOf E n fr ↔ 0 ≤ z ∧ z.toNat < n ∧ (z ∈ fr ∨ ∃ y ∈ fr, 0 ≤ y ∧ Reach E z.toNat y.toNat) := by
  unfold upOf
  rw [mem_places]
  constructor
  · rintro ⟨h0, h1, h2⟩
    refine ⟨h0, h1, ?_⟩
    have := (isUp_iff hE h12).1 h2
    rwa [Int.toNat_of_nonneg h0] at this
  · rintro ⟨h0, h1, h2⟩
    refine ⟨h0, h1, (isUp_iff hE h12).2 ?_⟩
    rwa [Int.toNat_of_nonneg h0]
/-- Who requires one who is up is up; and who is up was asked for, or requires one who is up. -/
theorem up_step {n : Nat} (hE : Edgy E n) (h12 : n ≤ 12) {fr : List Int} {i : Nat} (hi : i < n) : (i : Int) ∈ upOf E n fr ↔ (i : Int) ∈ fr ∨ ∃ d ∈ E i, d ∈ upOf E n fr := by
  rw [mem_upOf hE h12]
  constructor
  · rintro ⟨_, _, h | ⟨y, hy, h0, hr⟩⟩
    · exact .inl h
    · have hyn := hE.reach hr
      rw [Int.toNat_natCast] at hr
      generalize hyt : y.toNat = t at hr
      cases hr with
      | @one _ z hz =>
        refine .inr ⟨z, hz, (mem_upOf hE h12).2 ⟨(hE.nn _ _ hz).1, (hE.nn _ _ hz).2, .inl ?_⟩⟩
        rwa [show z = y by have := (hE.nn _ _ hz).1; omega]
      | @step _ _ z hz hr =>
        exact .inr ⟨z, hz, (mem_upOf hE h12).2 ⟨(hE.nn _ _ hz).1, (hE.nn _ _ hz).2, .inr ⟨y, hy, h0, hyt ▸ hr⟩⟩⟩
  · rintro (h | ⟨d, hd, hu⟩)
    · exact ⟨by omega, by simpa using hi, .inl h⟩
    · refine ⟨by omega, by simpa using hi, .inr ?_⟩
      rw [Int.toNat_natCast]
      obtain ⟨h0, h1, h | ⟨y, hy, hy0, hr⟩⟩ := (mem_upOf hE h12).1 hu
      · exact ⟨d, h, h0, .one hd⟩
      · exact ⟨y, hy, hy0, .step hd hr⟩
theorem up_more {n : Nat} (hE : Edgy E n) (h12 : n ≤ 12) {fr gr : List Int} (h : ∀ z ∈ fr, z ∈ gr) {z : Int} (hz : z ∈ upOf E n fr) : z ∈ upOf E n gr := by
  rw [mem_upOf hE h12] at hz ⊢
  obtain ⟨h0, h1, h2 | ⟨y, hy, h3⟩⟩ := hz
  · exact ⟨h0, h1, .inl (h z h2)⟩
  · exact ⟨h0, h1, .inr ⟨y, h y hy, h3⟩⟩
theorem up_again {n : Nat} (hE : Edgy E n) (h12 : n ≤ 12) (fr : List Int) : upOf E n (upOf E n fr) = upOf E n fr := by
  refine places_congr fun i hi => bool_ext ?_
  have key : (i : Int) ∈ upOf E n fr ↔ isUp E n fr i = true := by
    unfold upOf; rw [mem_places]; simp [hi]
  rw [← key, isUp_iff hE h12]
  constructor
  · rintro (h | ⟨z, hz, h0, hr⟩)
    · exact h
    · rw [mem_upOf hE h12] at hz ⊢
      refine ⟨by omega, by simpa using hi, .inr ?_⟩
      rw [Int.toNat_natCast]
      obtain ⟨_, _, h | ⟨y, hy, hy0, hr2⟩⟩ := hz
      · exact ⟨z, h, h0, hr⟩
      · exact ⟨y, hy, hy0, hr.trans hr2⟩
  · intro h; exact .inl h

theorem Reach.mono {E E' : Nat → List Int} (h : ∀ i z, z ∈ E i → z ∈ E' i) {a b : Nat} (r : Reach E a b) : Reach E' a b := by
  induction r with
  | one hz => exact .one (h _ _ hz)
  | step hz _ ih => exact .step (h _ _ hz) ih
theorem Reach.mono_lt {E E' : Nat → List Int} {n : Nat} (hE : Edgy E n) (h : ∀ i z, i < n → z ∈ E i → z ∈ E' i) {a b : Nat} (ha : a < n) (r : Reach E a b) : Reach E' a b := by
  induction r with
  | one hz => exact .one (h _ _ ha hz)
  | step hz _ ih => exact .step (h _ _ ha hz) (ih (hE.lt _ _ hz))
theorem up_edges {E' : Nat → List Int} {n : Nat} (hE : Edgy E n) (hE' : Edgy E' n) (h12 : n ≤ 12) (h : ∀ i z, i < n → z ∈ E i → z ∈ E' i) {fr : List Int} {z : Int} (hz : z ∈ upOf E n fr) : z ∈ upOf E' n fr := by
  rw [mem_upOf hE h12] at hz
  rw [mem_upOf hE' h12]
  obtain ⟨h0, h1, h2 | ⟨y, hy, h3, h4⟩⟩ := hz
  · exact ⟨h0, h1, .inl h2⟩
  · exact ⟨h0, h1, .inr ⟨y, hy, h3, h4.mono_lt hE h h1⟩⟩
theorem cyc_edges {E' : Nat → List Int} {n : Nat} (hE : Edgy E n) (hE' : Edgy E' n) (h12 : n ≤ 12) (h : ∀ i z, i < n → z ∈ E i → z ∈ E' i) {z : Int} (hz : z ∈ cycOf E n) : z ∈ cycOf E' n := by
  rw [mem_cycOf hE h12] at hz
  rw [mem_cycOf hE' h12]
  exact ⟨hz.1, hz.2.mono_lt hE h (hE.reach hz.2)⟩
theorem belowOf_same {E' : Nat → List Int} {n : Nat} (hE : Edgy E n) (h12 : n ≤ 12) (h : ∀ i, i < n → E i = E' i) (hE' : Edgy E' n) (i x : Nat) (hi : i < n) : (belowOf E i).getD x false = (belowOf E' i).getD x false := by
  refine bool_ext ?_
  rw [below_iff (fun i z hz => Nat.lt_of_lt_of_le (hE.lt i z hz) h12), below_iff (fun i z hz => Nat.lt_of_lt_of_le (hE'.lt i z hz) h12)]
  exact ⟨fun r => r.mono_lt hE (fun i z hi hz => h i hi ▸ hz) hi, fun r => r.mono_lt hE' (fun i z hi hz => by rw [h i hi]; exact hz) hi⟩
end
end Go.Proofs.YtnfiigjignpkaaaGreatDoor
