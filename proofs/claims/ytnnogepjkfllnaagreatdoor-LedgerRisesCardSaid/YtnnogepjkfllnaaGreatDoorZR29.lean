/- The texts LedPl in one file, without what this claim does not use (put together by prune.py). -/
import Derived.Test.YtnnogepjkfllnaaGreatDoorZR22
import Derived.Test.YtnnogepjkfllnaaGreatDoorZR26
import Derived.Test.YtnnogepjkfllnaaGreatDoorZR28
import Derived.Test.YtnnogepjkfllnaaGreatDoorZR5
section
namespace Go.Proofs.YtnnogepjkfllnaaGreatDoor
open Go Go.RowKit Go.Proofs.YtnnogepjkfllnaaGreatDoorW.PrintWords Go.Proofs.YtnnogepjkfllnaaGreatDoor.K0 Go.Proofs.YtnnogepjkfllnaaGreatDoor.R1
set_option linter.unusedVariables false
set_option linter.unusedSimpArgs false
abbrev Tg := S32
def tcmp (x y : Tg) : Int := verCmp x.f1.f0 x.f1.f1 x.f1.f2 x.f1.f3 x.f1.f4 y.f1.f0 y.f1.f1 y.f1.f2 y.f1.f3 y.f1.f4
theorem tcmp_anti (x y : Tg) : tcmp x y = - tcmp y x := verCmp_anti _ _ _ _ _ _ _ _ _ _
theorem tcmp_range (x y : Tg) : tcmp x y = -1 ∨ tcmp x y = 0 ∨ tcmp x y = 1 := verCmp_range _ _ _ _ _ _ _ _ _ _
def tver (t : Tg) : Bool := verOk t.f1.f0 t.f1.f1 t.f1.f2 t.f1.f3 t.f1.f4
def tfits (t : Tg) : Bool := fitsOk t.f0 t.f1.f0 t.f1.f1 t.f1.f2 t.f1.f3 t.f1.f4
def thash (t : Tg) : Bool := hashOk t.f2.data.toList
/-- Has one of others that path, and a version that does not stand ahead? -/
def late (t x : Tg) : Bool := decide (x.f0 = t.f0) && decide (0 ≤ tcmp x t)
/-- Why a tag may not stand behind others. -/
def wrongT (l : List Tg) (t : Tg) : Int :=
  if checkOk t.f0 = true then (if tver t = true then (if tfits t = true then (if thash t = true then (if l.any (late t) = true then 13 else 0) else 4) else 8) else 7) else 6
theorem wrongT_ok {l : List Tg} {t : Tg} : wrongT l t = 0 ↔ checkOk t.f0 = true ∧ tver t = true ∧ tfits t = true ∧ thash t = true ∧ l.any (late t) = false := by
  unfold wrongT
  cases checkOk t.f0 <;> cases tver t <;> cases tfits t <;> cases thash t <;> cases l.any (late t) <;> simp
/-- The error of the first one that may not stand behind those ahead of it. -/
def firstWrong (acc : List Tg) : List Tg → Int
  | [] => 0
  | t :: l => if wrongT acc t = 0 then firstWrong (acc ++ [t]) l else wrongT acc t
theorem firstWrong_ok : ∀ {l acc : List Tg}, firstWrong acc l = 0 ↔ ∀ (a : List Tg) (t : Tg) (b : List Tg), l = a ++ t :: b → wrongT (acc ++ a) t = 0
  | [], acc => by simp [firstWrong]
  | x :: l, acc => by
    unfold firstWrong
    constructor
    · intro h a t b e
      split at h
      · rename_i hx
        cases a with
        | nil => obtain ⟨rfl, rfl⟩ := List.cons.inj e; rw [List.append_nil]; exact hx
        | cons y a =>
          obtain ⟨rfl, e2⟩ := List.cons.inj e
          have := (firstWrong_ok (l := l)).1 h a t b e2
          rwa [List.append_assoc] at this
      · rename_i hx; exact absurd h hx
    · intro h
      have hx := h [] x l rfl
      rw [List.append_nil] at hx
      rw [if_pos hx]
      refine (firstWrong_ok (l := l)).2 fun a t b e => ?_
      have := h (x :: a) t b (by rw [e]; rfl)
      rwa [List.append_assoc]
theorem firstWrong_app : ∀ {l acc : List Tg} {t : Tg}, firstWrong acc l = 0 → firstWrong acc (l ++ [t]) = wrongT (acc ++ l) t
  | [], acc, t, _ => by
    simp only [List.nil_append, firstWrong, List.append_nil]
    split <;> simp_all
  | x :: l, acc, t, h => by
    unfold firstWrong at h
    split at h
    · rename_i hx
      rw [List.cons_append]
      unfold firstWrong
      rw [if_pos hx, firstWrong_app h, List.append_assoc]; rfl
    · rename_i hx; exact absurd h hx
theorem firstWrong_mem {l : List Tg} (h : firstWrong [] l = 0) {t : Tg} (ht : t ∈ l) : ∃ m, wrongT m t = 0 := by
  obtain ⟨a, b, e⟩ := List.append_of_mem ht
  exact ⟨_, firstWrong_ok.1 h a t b e⟩
theorem path_clean {s : ByteArray} (h : checkOk s = true) : (32 : UInt8) ∉ s.data.toList ∧ (10 : UInt8) ∉ s.data.toList ∧ s.data.toList ≠ [] := by
  unfold checkOk at h
  rw [Bool.and_eq_true] at h
  have h1 := h.1
  unfold pathOk at h1
  rw [Bool.and_eq_true] at h1
  have h2 := List.all_eq_true.1 h1.2
  have key : ∀ d : UInt8, isPlain d = false → d ≠ 47 → d ∉ s.data.toList := fun d hd h47 hm => by
    rcases splitC_mem (c := 47) hm with e | ⟨p, hp, hx⟩
    · exact h47 e
    · have := h2 p hp
      unfold partOk at this
      rw [Bool.and_eq_true] at this
      have := List.all_eq_true.1 this.1 d hx
      rw [hd] at this; cases this
  refine ⟨key 32 (by decide) (by decide), key 10 (by decide) (by decide), fun e => ?_⟩
  rw [e] at h2
  have := h2 [] (by simp [splitC])
  simp [partOk, partFin] at this
theorem joinC (c : UInt8) : ∀ l : List UInt8, (splitC c l).flatMap (fun p => p ++ [c]) = l ++ [c]
  | [] => rfl
  | b :: t => by
    by_cases h : b = c
    · subst h
      rw [splitC, if_pos rfl, List.flatMap_cons, joinC b t]; rfl
    · obtain ⟨p, ps, e, e2⟩ := splitC_other h t
      have ih := joinC c t
      rw [e, List.flatMap_cons] at ih
      rw [e2, List.flatMap_cons, List.cons_append, List.cons_append, ih]; rfl
theorem splitC_snoc (c : UInt8) : ∀ l : List UInt8, splitC c (l ++ [c]) = splitC c l ++ [[]]
  | [] => by simp [splitC]
  | b :: t => by
    rw [List.cons_append]
    by_cases h : b = c
    · subst h; rw [splitC, if_pos rfl, splitC, if_pos rfl, splitC_snoc b t]; rfl
    · obtain ⟨p, ps, e, e2⟩ := splitC_other h t
      obtain ⟨p', ps', e', e2'⟩ := splitC_other h (t ++ [c])
      rw [e2, e2']
      rw [splitC_snoc c t, e] at e'
      obtain ⟨rfl, rfl⟩ := List.cons.inj e'
      rfl
theorem splitC_last (c : UInt8) (l : List UInt8) : (splitC c l).getLast? = some [] ↔ l = [] ∨ ∃ a, l = a ++ [c] := by
  constructor
  · intro h
    obtain ⟨ps, e⟩ : ∃ ps, splitC c l = ps ++ [[]] := List.getLast?_eq_some_iff.1 h
    have hj := joinC c l
    rw [e, List.flatMap_append] at hj
    have h2 : ps.flatMap (fun p => p ++ [c]) = l := by
      have : ps.flatMap (fun p => p ++ [c]) ++ [c] = l ++ [c] := by simpa using hj
      exact List.append_cancel_right this
    rcases List.eq_nil_or_concat ps with rfl | ⟨qs, q, rfl⟩
    · exact .inl h2.symm
    · refine .inr ⟨qs.flatMap (fun p => p ++ [c]) ++ q, ?_⟩
      rw [← h2, List.concat_eq_append, List.flatMap_append]; simp
  · rintro (rfl | ⟨a, rfl⟩)
    · rfl
    · rw [splitC_snoc]; simp
/-- The lines of a text. -/
def linesOf (s : List UInt8) : List (List UInt8) := if (splitC 10 s).getLast? = some [] then (splitC 10 s).dropLast else splitC 10 s
theorem lines_nil : linesOf [] = [] := rfl
theorem lines_snoc (a : List UInt8) : linesOf (a ++ [10]) = splitC 10 a := by
  unfold linesOf; rw [splitC_snoc]; simp
theorem lines_other {s : List UInt8} (h : s ≠ []) (h2 : ¬ ∃ a, s = a ++ [10]) : linesOf s = splitC 10 s := by
  unfold linesOf
  rw [if_neg]
  intro e
  rcases (splitC_last 10 s).1 e with e | e
  · exact h e
  · exact h2 e
theorem lines_join (s : List UInt8) : (linesOf s).flatMap (fun p => p ++ [10]) = s ∨ (linesOf s).flatMap (fun p => p ++ [10]) = s ++ [10] := by
  by_cases h : s = []
  · subst h; exact .inl rfl
  · by_cases h2 : ∃ a, s = a ++ [10]
    · obtain ⟨a, rfl⟩ := h2
      rw [lines_snoc, joinC]; exact .inl rfl
    · rw [lines_other h h2, joinC]; exact .inr rfl
/-- A tag as a line, without its end. -/
def lineT (t : Tg) : List UInt8 := t.f0.data.toList ++ 32 :: (bytesV t.f1.f0.toNat t.f1.f1.toNat t.f1.f2.toNat t.f1.f3.data.toList t.f1.f4.data.toList ++ 32 :: t.f2.data.toList)
def textB (l : List Tg) : List UInt8 := l.flatMap fun t => lineT t ++ [10]
theorem lineT_clean {l : List Tg} {t : Tg} (h : wrongT l t = 0) : (10 : UInt8) ∉ lineT t := by
  obtain ⟨h1, h2, h3, h4, _⟩ := wrongT_ok.1 h
  have c1 := path_clean h1
  have c2 := bytesV_clean h2
  have c3 := hashOk_clean h4
  unfold lineT
  intro hm
  simp only [List.mem_append, List.mem_cons] at hm
  rcases hm with hm | hm | hm | hm | hm
  · exact c1.2.1 hm
  · exact absurd hm (by decide)
  · exact c2.2 hm
  · exact absurd hm (by decide)
  · exact c3.2.1 hm
theorem splitC_text : ∀ {l : List Tg}, (∀ t ∈ l, ∃ m, wrongT m t = 0) → splitC 10 (textB l) = l.map lineT ++ [[]]
  | [], _ => rfl
  | t :: l, h => by
    obtain ⟨m, hm⟩ := h t List.mem_cons_self
    have ih := splitC_text (l := l) fun x hx => h x (List.mem_cons_of_mem _ hx)
    unfold textB at ih ⊢
    rw [List.flatMap_cons, List.append_assoc]
    show splitC 10 (lineT t ++ 10 :: (l.flatMap fun t => lineT t ++ [10])) = _
    rw [splitC_at _ (lineT_clean hm), ih]; rfl
theorem lines_text {l : List Tg} (h : firstWrong [] l = 0) : linesOf (textB l) = l.map lineT := by
  unfold linesOf
  rw [splitC_text fun t ht => firstWrong_mem h ht]
  simp
/-- The tag of a line. -/
def readT (x : List UInt8) : Option Tg := match splitC 32 x with
  | [p, v, h] => if p = [] then none else if h = [] then none else (parseV v).map fun r => ⟨ba p, ⟨r.1, r.2.1, r.2.2.1, ba r.2.2.2.1, ba r.2.2.2.2⟩, ba h⟩
  | _ => none
theorem readT_line {l : List Tg} {t : Tg} (h : wrongT l t = 0) : readT (lineT t) = some t := by
  obtain ⟨h1, h2, h3, h4, _⟩ := wrongT_ok.1 h
  have c1 := path_clean h1
  have c2 := bytesV_clean h2
  have c3 := hashOk_clean h4
  unfold readT lineT
  rw [splitC_at _ c1.1, splitC_at _ c2.1, splitC_none c3.1]
  simp only
  rw [if_neg c1.2.2, if_neg c3.2.2, parseV_of h2]
  simp [ba_of]
theorem readT_some {x : List UInt8} {t : Tg} (h : readT x = some t) : x = lineT t := by
  unfold readT at h
  split at h
  · rename_i p v hh e
    split at h
    · cases h
    · split at h
      · cases h
      · obtain ⟨⟨a, b, c, p2, q2⟩, hr, rfl⟩ := Option.map_eq_some_iff.1 h
        have hv := (parseV_some hr).2
        have hj := joinC 32 x
        rw [e] at hj
        simp only [List.flatMap_cons, List.flatMap_nil, List.append_nil] at hj
        have : p ++ 32 :: (v ++ 32 :: hh) = x := by
          have h2 : (p ++ 32 :: (v ++ 32 :: hh)) ++ [32] = x ++ [32] := by rw [← hj]; simp
          exact List.append_cancel_right h2
        rw [← this, hv]
        rfl
  · cases h
/-- The tags of lines, behind some. -/
def parseFrom (acc : List Tg) : List (List UInt8) → List Tg × Int × Int
  | [] => (acc, (acc.length : Int), 0)
  | x :: xs => match readT x with
    | none => ([], (acc.length : Int), 10)
    | some t => if wrongT acc t = 0 then parseFrom (acc ++ [t]) xs else ([], (acc.length : Int), wrongT acc t)
def parseT (s : List UInt8) : List Tg × Int × Int := parseFrom [] (linesOf s)
theorem parseFrom_lines : ∀ {l acc : List Tg}, firstWrong acc l = 0 → parseFrom acc (l.map lineT) = (acc ++ l, ((acc ++ l).length : Int), 0)
  | [], acc, _ => by simp [parseFrom]
  | t :: l, acc, h => by
    unfold firstWrong at h
    split at h
    · rename_i hx
      rw [List.map_cons]
      unfold parseFrom
      rw [readT_line hx]
      simp only
      rw [if_pos hx, parseFrom_lines h, List.append_assoc]; rfl
    · rename_i hx; exact absurd h hx
theorem parse_text {l : List Tg} (h : firstWrong [] l = 0) : parseT (textB l) = (l, (l.length : Int), 0) := by
  unfold parseT
  rw [lines_text h, parseFrom_lines h]; rfl
theorem parseFrom_ok : ∀ {ls : List (List UInt8)} {acc k : List Tg} {n e : Int}, firstWrong [] acc = 0 → parseFrom acc ls = (k, n, e) →
    (e = 0 ∧ ∃ m, k = acc ++ m ∧ firstWrong [] k = 0 ∧ ls = m.map lineT ∧ n = (k.length : Int)) ∨ (e ≠ 0 ∧ k = [] ∧ 0 ≤ n)
  | [], acc, k, n, e, hw, h => by
    unfold parseFrom at h
    simp only [Prod.mk.injEq] at h
    obtain ⟨rfl, rfl, rfl⟩ := h
    exact .inl ⟨rfl, [], by simp, hw, rfl, rfl⟩
  | x :: xs, acc, k, n, e, hw, h => by
    unfold parseFrom at h
    split at h
    · simp only [Prod.mk.injEq] at h
      obtain ⟨rfl, rfl, rfl⟩ := h
      exact .inr ⟨by decide, rfl, by omega⟩
    · rename_i t ht
      split at h
      · rename_i hx
        have hw2 : firstWrong [] (acc ++ [t]) = 0 := by rw [firstWrong_app hw]; exact hx
        rcases parseFrom_ok hw2 h with ⟨rfl, m, hk, h1, h2, h3⟩ | h4
        · refine .inl ⟨rfl, t :: m, by rw [hk]; simp, h1, ?_, h3⟩
          rw [List.map_cons, ← readT_some ht, ← h2]
        · exact .inr h4
      · rename_i hx
        simp only [Prod.mk.injEq] at h
        obtain ⟨rfl, rfl, rfl⟩ := h
        exact .inr ⟨hx, rfl, by omega⟩
theorem parse_ok {s : List UInt8} {k : List Tg} {n e : Int} (h : parseT s = (k, n, e)) :
    (e = 0 ∧ firstWrong [] k = 0 ∧ n = (k.length : Int) ∧ (textB k = s ∨ textB k = s ++ [10])) ∨ (e ≠ 0 ∧ k = [] ∧ 0 ≤ n) := by
  rcases parseFrom_ok (acc := []) rfl h with ⟨rfl, m, hk, h1, h2, h3⟩ | h4
  · rw [List.nil_append] at hk
    subst hk
    refine .inl ⟨rfl, h1, h3, ?_⟩
    have hj := lines_join s
    rw [h2] at hj
    unfold textB
    rw [List.flatMap_map] at hj
    exact hj
  · exact .inr h4
def latFrom (p : ByteArray) (b : Option Tg) : List Tg → Option Tg
  | [] => b
  | x :: l => latFrom p (if x.f0 = p then (match b with | none => some x | some y => if 0 < tcmp x y then some x else some y) else b) l
def latT (l : List Tg) (p : ByteArray) : Option Tg := latFrom p none l
theorem latFrom_app (p : ByteArray) : ∀ (l m : List Tg) (b : Option Tg), latFrom p b (l ++ m) = latFrom p (latFrom p b l) m
  | [], m, b => rfl
  | x :: l, m, b => by
    rw [List.cons_append]
    simp only [latFrom]
    exact latFrom_app p l m _
theorem latFrom_in (p : ByteArray) : ∀ (l : List Tg) (b : Option Tg) (y : Tg), latFrom p b l = some y → b = some y ∨ (y ∈ l ∧ y.f0 = p)
  | [], b, y, h => .inl h
  | x :: l, b, y, h => by
    unfold latFrom at h
    rcases latFrom_in p l _ y h with h | ⟨h, h2⟩
    · split at h
      · rename_i hx
        split at h
        · obtain rfl := Option.some.inj h; exact .inr ⟨List.mem_cons_self, hx⟩
        · split at h
          · obtain rfl := Option.some.inj h; exact .inr ⟨List.mem_cons_self, hx⟩
          · exact .inl h
      · exact .inl h
    · exact .inr ⟨List.mem_cons_of_mem _ h, h2⟩
theorem lat_new {l : List Tg} {t : Tg} (h : wrongT l t = 0) : latT (l ++ [t]) t.f0 = some t := by
  unfold latT
  rw [latFrom_app]
  obtain ⟨_, _, _, _, h5⟩ := wrongT_ok.1 h
  unfold latFrom latFrom
  rw [if_pos rfl]
  cases e : latFrom t.f0 none l with
  | none => rfl
  | some y =>
    simp only
    rcases latFrom_in _ _ _ _ e with e | ⟨hy, hp⟩
    · cases e
    · have := (List.any_eq_false.1 h5) y hy
      unfold late at this
      rw [decide_eq_true hp, Bool.true_and, decide_eq_true_eq] at this
      have ha := tcmp_anti t y
      rw [if_pos (by omega)]
theorem rises {l : List Tg} (h : firstWrong [] l = 0) {i k : Nat} {x y : Tg} (hx : l[k]? = some x) (hy : l[i]? = some y) (hk : k < i) (hp : x.f0 = y.f0) : tcmp x y = -1 := by
  have hi := (List.getElem?_eq_some_iff.1 hy).1
  have e : l = l.take i ++ y :: l.drop (i + 1) := by
    rw [← (List.getElem?_eq_some_iff.1 hy).2, ← List.drop_eq_getElem_cons hi, List.take_append_drop]
  have hw := firstWrong_ok.1 h _ _ _ e
  obtain ⟨_, _, _, _, h5⟩ := wrongT_ok.1 hw
  have hm : x ∈ l.take i := by
    refine List.mem_of_getElem? (i := k) ?_
    rw [List.getElem?_take, if_pos hk]; exact hx
  have := (List.any_eq_false.1 h5) x (by simpa using hm)
  unfold late at this
  rw [decide_eq_true hp, Bool.true_and, decide_eq_true_eq] at this
  rcases tcmp_range x y with h | h | h <;> omega
end Go.Proofs.YtnnogepjkfllnaaGreatDoor
end
