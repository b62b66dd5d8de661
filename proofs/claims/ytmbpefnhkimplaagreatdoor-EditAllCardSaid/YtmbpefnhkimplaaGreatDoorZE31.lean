/- The texts MnLx in one file, without what these claims do not use (put together by prune2.py). -/
import Derived.Test.YtmbpefnhkimplaaGreatDoorZE14
section
namespace Go.Proofs.YtmbpefnhkimplaaGreatDoor
open Go Go.RowKit Go.Proofs.YtmbpefnhkimplaaGreatDoorW.PrintWords
set_option linter.unusedVariables false
set_option linter.unusedSimpArgs false
/-- Signs, blanks, bytes that may not be. -/
def sgnB (c : UInt8) : Bool := c == 40 || c == 41 || c == 91 || c == 93 || c == 44
def blkB (c : UInt8) : Bool := c == 32 || c == 9
abbrev LW := List UInt8 × Nat
def finL : Option LW → List LW
  | none => []
  | some w => [w]
def addL (p : Nat) (c : UInt8) : Option LW → Option LW
  | none => some ([c], p)
  | some (w, q) => some (w ++ [c], q)
def remL (cur : Option LW) (l : List UInt8) : Bool := cur.isNone && [47, 47].isPrefixOf l
/-- The words of a line from a place on, and its remark. -/
def lexL : List UInt8 → Nat → Option LW → List LW × List UInt8
  | [], _, cur => (finL cur, [])
  | c :: l, p, cur =>
    if remL cur (c :: l) then ([], c :: l)
    else if sgnB c then (finL cur ++ ([c], p) :: (lexL l (p + 1) none).1, (lexL l (p + 1) none).2)
    else if blkB c then (finL cur ++ (lexL l (p + 1) none).1, (lexL l (p + 1) none).2)
    else lexL l (p + 1) (addL p c cur)
/-- The words ended in a, and the one that is open behind it; none: a remark begins in a. -/
def stL : List UInt8 → Nat → Option LW → Option (List LW × Option LW)
  | [], _, cur => some ([], cur)
  | c :: l, p, cur =>
    if remL cur (c :: l) then none
    else if sgnB c then (stL l (p + 1) none).map fun r => (finL cur ++ ([c], p) :: r.1, r.2)
    else if blkB c then (stL l (p + 1) none).map fun r => (finL cur ++ r.1, r.2)
    else stL l (p + 1) (addL p c cur)
theorem sgn_ne {c : UInt8} (h : sgnB c = true) : c ≠ 47 := by rintro rfl; revert h; decide
theorem blk_ne {c : UInt8} (h : blkB c = true) : c ≠ 47 := by rintro rfl; revert h; decide
theorem remL_cons {cur : Option LW} {c : UInt8} {l : List UInt8} (h : remL cur (c :: l) = true) : cur = none ∧ c = 47 ∧ ∃ l', l = 47 :: l' := by
  unfold remL at h
  rw [Bool.and_eq_true] at h
  obtain ⟨h1, h2⟩ := h
  match l, h2 with
  | [], h2 => simp [List.isPrefixOf] at h2
  | d :: l', h2 =>
    simp [List.isPrefixOf] at h2
    exact ⟨Option.isNone_iff_eq_none.1 h1, h2.1.symm, l', by rw [← h2.2]⟩
theorem remL_app {cur : Option LW} {c : UInt8} {l : List UInt8} (h : remL cur (c :: l) = true) (b : List UInt8) : remL cur (c :: (l ++ b)) = true := by
  obtain ⟨rfl, rfl, l', rfl⟩ := remL_cons h
  rfl
theorem remL_short {cur : Option LW} {c d : UInt8} {l b : List UInt8} (h : remL cur (c :: d :: l) = false) : remL cur (c :: (d :: l ++ b)) = false := by
  cases h2 : remL cur (c :: (d :: l ++ b)) with
  | false => rfl
  | true =>
    obtain ⟨rfl, rfl, l', h3⟩ := remL_cons h2
    obtain rfl : d = 47 := by simp at h3; exact h3.1
    revert h; rw [show remL none (47 :: 47 :: l) = true from rfl]; intro h; cases h
/-- Behind a part that ends no word. -/
theorem lex_app : ∀ (a b : List UInt8) (p : Nat) (cur : Option LW) (W : List LW), stL a p cur = some (W, none) → lexL (a ++ b) p cur = (W ++ (lexL b (p + a.length) none).1, (lexL b (p + a.length) none).2)
  | [], b, p, cur, W, h => by
    obtain ⟨rfl, rfl⟩ := Prod.mk.inj (Option.some.inj h); simp
  | c :: l, b, p, cur, W, h => by
    have hlen : p + (c :: l).length = p + 1 + l.length := by simp; omega
    unfold stL at h
    split at h
    · cases h
    · rename_i hr
      rw [Bool.not_eq_true] at hr
      have hr2 : remL cur (c :: (l ++ b)) = false := by
        cases l with
        | cons d l => exact remL_short hr
        | nil =>
          cases h2 : remL cur (c :: ([] ++ b)) with
          | false => rfl
          | true =>
            obtain ⟨rfl, rfl, _⟩ := remL_cons h2
            simp [sgnB, blkB, stL, addL] at h
      rw [List.cons_append, lexL, hr2, if_neg Bool.false_ne_true, hlen]
      split at h
      · rename_i hs
        obtain ⟨r, h1, h2⟩ := Option.map_eq_some_iff.1 h
        obtain ⟨rfl, h3⟩ := Prod.mk.inj h2
        rw [if_pos hs, lex_app l b (p + 1) none r.1 (by rw [h1, ← h3])]
        simp
      · rename_i hs
        rw [if_neg hs]
        split at h
        · rename_i hb
          obtain ⟨r, h1, h2⟩ := Option.map_eq_some_iff.1 h
          obtain ⟨rfl, h3⟩ := Prod.mk.inj h2
          rw [if_pos hb, lex_app l b (p + 1) none r.1 (by rw [h1, ← h3])]
          simp
        · rename_i hb
          rw [if_neg hb]
          exact lex_app l b (p + 1) _ W h
/-- A byte of a word. -/
def wdB (c : UInt8) : Bool := !sgnB c && !blkB c
/-- Words go on until a sign, a blank, the end. -/
theorem lex_more : ∀ (w b : List UInt8) (p q : Nat) (v : List UInt8), w.all wdB = true → lexL (w ++ b) p (some (v, q)) = lexL b (p + w.length) (some (v ++ w, q))
  | [], b, p, q, v, _ => by simp
  | c :: w, b, p, q, v, h => by
    obtain ⟨h1, h2⟩ := Bool.and_eq_true_iff.1 (List.all_cons ▸ h)
    obtain ⟨h3, h4⟩ := Bool.and_eq_true_iff.1 h1
    rw [List.cons_append, lexL, show remL (some (v, q)) (c :: (w ++ b)) = false from rfl, if_neg Bool.false_ne_true, if_neg (by simpa using h3), if_neg (by simpa using h4)]
    show lexL (w ++ b) (p + 1) (some (v ++ [c], q)) = _
    rw [lex_more w b (p + 1) q _ h2, List.append_assoc]
    simp; congr 1; omega
/-- What ends a word. -/
def endL : List UInt8 → Prop
  | [] => True
  | c :: _ => sgnB c = true ∨ blkB c = true
theorem lex_end (b : List UInt8) (p : Nat) (x : LW) (h : endL b) : lexL b p (some x) = (x :: (lexL b p none).1, (lexL b p none).2) := by
  match b, h with
  | [], _ => rfl
  | c :: b, h =>
    have hn : c ≠ 47 := h.elim sgn_ne blk_ne
    have hr : ∀ cur, remL cur (c :: b) = false := fun cur => by
      cases h2 : remL cur (c :: b) with
      | false => rfl
      | true => exact absurd (remL_cons h2).2.1 hn
    rw [lexL, lexL, hr, hr, if_neg Bool.false_ne_true, if_neg Bool.false_ne_true]
    cases hs : sgnB c with
    | true => simp [finL]
    | false =>
      have hb : blkB c = true := h.resolve_left (by rw [hs]; exact Bool.false_ne_true)
      simp [hb, finL]
/-- May a text stand as a word? -/
def wdOk (w : List UInt8) : Bool := !w.isEmpty && w.all wdB && !([47, 47].isPrefixOf w)
theorem lex_word (w b : List UInt8) (p : Nat) (h : wdOk w = true) (hb : endL b) : lexL (w ++ b) p none = ((w, p) :: (lexL b (p + w.length) none).1, (lexL b (p + w.length) none).2) := by
  unfold wdOk at h
  rw [Bool.and_eq_true, Bool.and_eq_true] at h
  obtain ⟨⟨h1, h2⟩, h3⟩ := h
  match w, h1, h2, h3 with
  | c :: w, _, h2, h3 =>
    have hr : remL none (c :: (w ++ b)) = false := by
      cases hr : remL none (c :: (w ++ b)) with
      | false => rfl
      | true =>
        obtain ⟨_, rfl, l', h4⟩ := remL_cons hr
        match w, h3, h4 with
        | [], _, h4 =>
          rw [List.nil_append] at h4
          subst h4
          exact absurd hb (by rintro (h | h) <;> revert h <;> decide)
        | d :: w, h3, h4 =>
          obtain rfl : d = 47 := by simp at h4; exact h4.1
          simp [List.isPrefixOf] at h3
    obtain ⟨h5, h6⟩ := Bool.and_eq_true_iff.1 (List.all_cons ▸ h2)
    obtain ⟨h7, h8⟩ := Bool.and_eq_true_iff.1 h5
    rw [List.cons_append, lexL, hr, if_neg Bool.false_ne_true, if_neg (by simpa using h7), if_neg (by simpa using h8)]
    show lexL (w ++ b) (p + 1) (some ([c], p)) = _
    rw [lex_more w b (p + 1) p _ h6, lex_end b _ _ hb, show p + 1 + w.length = p + (c :: w).length by simp; omega]
    rfl
/-- Places move. -/
def shL (k : Nat) (x : LW) : LW := (x.1, x.2 + k)
theorem shL_fin (k : Nat) (cur : Option LW) : finL (cur.map (shL k)) = (finL cur).map (shL k) := by cases cur <;> rfl
theorem shL_add (k p : Nat) (c : UInt8) (cur : Option LW) : addL (p + k) c (cur.map (shL k)) = (addL p c cur).map (shL k) := by cases cur <;> rfl
theorem lex_shift (k : Nat) : ∀ (l : List UInt8) (p : Nat) (cur : Option LW), lexL l (p + k) (cur.map (shL k)) = ((lexL l p cur).1.map (shL k), (lexL l p cur).2)
  | [], p, cur => by simp [lexL, shL_fin]
  | c :: l, p, cur => by
    have hr : remL (cur.map (shL k)) (c :: l) = remL cur (c :: l) := by unfold remL; cases cur <;> rfl
    have i0 := lex_shift k l (p + 1) none
    have i1 := lex_shift k l (p + 1) (addL p c cur)
    rw [show p + 1 + k = p + k + 1 by omega] at i0 i1
    rw [lexL, lexL, hr]
    split
    · simp
    · split
      · rw [show (none : Option LW) = Option.map (shL k) none from rfl, i0]; simp [shL_fin, shL]
      · split
        · rw [show (none : Option LW) = Option.map (shL k) none from rfl, i0]; simp [shL_fin]
        · rw [shL_add, i1]
def toWd (x : LW) : Wd := ⟨ba x.1, (x.2 : Int)⟩
def frL : Option LW → Int
  | none => -1
  | some x => (x.2 : Int)
theorem byte_all {p : UInt8 → Prop} (h : ∀ n, n < 256 → p (UInt8.ofNat n)) (c : UInt8) : p c := by
  have := h c.toNat c.toNat_lt
  rwa [UInt8.ofNat_toNat] at this
theorem sgn_eq (c : UInt8) : sgnC (c.toNat : Int) = sgnB c := byte_all (p := fun c => sgnC (c.toNat : Int) = sgnB c) (by decide +kernel) c
theorem blk_eq (c : UInt8) : blkC (c.toNat : Int) = blkB c := byte_all (p := fun c => blkC (c.toNat : Int) = blkB c) (by decide +kernel) c
def oddB (c : UInt8) : Bool := (decide (c.toNat < 32) && c != 9) || decide (126 < c.toNat)
theorem odd_eq (c : UInt8) : oddC (c.toNat : Int) = oddB c := byte_all (p := fun c => oddC (c.toNat : Int) = oddB c) (by decide +kernel) c
theorem bt_at {s : ByteArray} {i : Nat} {c : UInt8} (h : s.data.toList[i]? = some c) : bt s (i : Int) = (c.toNat : Int) := by
  obtain ⟨h1, h2⟩ := List.getElem?_eq_some_iff.1 h
  have h3 : i < s.size := by rw [Lib.size_eq]; exact h1
  unfold bt
  rw [Int.toNat_natCast, dif_pos h3, ← h2]
  rfl
theorem ext_list (s : ByteArray) (i j : Nat) : (s.extract i j).data.toList = (s.data.toList.take j).drop i := by
  rw [show (s.extract i j).data = s.data.extract i j by simp, Array.toList_extract, List.extract_eq_take_drop, List.drop_take]
theorem rem_eq (s : ByteArray) (i : Nat) (cur : Option LW) : remW s i (frL cur) = remL cur (s.data.toList.drop i) := by
  unfold remW remL
  rw [ext_list, Lib.size_eq, List.take_length]
  congr 1
  · cases cur with
    | none => rfl
    | some x => exact decide_eq_false (by show ¬ (x.2 : Int) < 0; omega)
theorem cutW_eq (s : ByteArray) (ws : List Wd) (i : Nat) (cur : Option LW) (hc : ∀ x, cur = some x → x.2 ≤ i ∧ x.1 = (s.data.toList.take i).drop x.2) : cutW s ws (frL cur) i = ws ++ (finL cur).map toWd := by
  cases cur with
  | none => unfold cutW frL; rw [if_neg (by decide)]; simp [finL]
  | some x =>
    obtain ⟨h1, h2⟩ := hc x rfl
    unfold cutW
    rw [show frL (some x) = (x.2 : Int) from rfl, if_pos (by omega)]
    show ws ++ [⟨s.extract (x.2 : Int).toNat i, (x.2 : Int)⟩] = ws ++ [⟨ba x.1, (x.2 : Int)⟩]
    congr 2
    rw [h2, Int.toNat_natCast, ← ext_list]
    rfl
theorem lexW_eq (s : ByteArray) : ∀ (n i : Nat) (ws : List Wd) (cur : Option LW), n + i = s.size → (∀ x, cur = some x → x.2 ≤ i ∧ x.1 = (s.data.toList.take i).drop x.2) →
    lexW s n i (ws, frL cur) = (ws ++ (lexL (s.data.toList.drop i) i cur).1.map toWd, ba (lexL (s.data.toList.drop i) i cur).2)
  | 0, i, ws, cur, h, hc => by
    rw [List.drop_of_length_le (by rw [← Lib.size_eq]; omega)]
    unfold lexW lexL
    rw [cutW_eq s ws i cur hc]
    rfl
  | n + 1, i, ws, cur, h, hc => by
    obtain ⟨c, hb⟩ : ∃ c, s.data.toList[i]? = some c := ⟨_, List.getElem?_eq_getElem (by rw [← Lib.size_eq]; omega)⟩
    have hd : s.data.toList.drop i = c :: s.data.toList.drop (i + 1) := by
      obtain ⟨h1, h2⟩ := List.getElem?_eq_some_iff.1 hb
      rw [← h2, List.drop_eq_getElem_cons h1]
    have hbt := bt_at hb
    have hsz : i + 1 ≤ s.data.toList.length := by rw [← Lib.size_eq]; omega
    unfold lexW
    simp only [rem_eq]
    rw [hd, lexL]
    cases hr : remL cur (c :: s.data.toList.drop (i + 1)) with
    | true =>
      rw [if_pos rfl, if_pos rfl]
      simp only [List.map_nil, List.append_nil]
      rw [← hd]
      congr 1
      apply by_data
      rw [ext_list, Lib.size_eq, List.take_length]
      rfl
    | false =>
      rw [if_neg Bool.false_ne_true, if_neg Bool.false_ne_true]
      unfold takeW
      simp only [hbt, sgn_eq, blk_eq]
      have hcut := cutW_eq s ws i cur hc
      have h1 := fun ws' => lexW_eq s n (i + 1) ws' none (by omega) (fun _ h => by cases h)
      rw [show frL none = -1 from rfl] at h1
      cases hs : sgnB c with
      | true =>
        rw [if_pos rfl, if_pos rfl, hcut, h1]
        simp only [List.map_append, List.map_cons, List.append_assoc, List.cons_append, List.nil_append]
        congr 4
        show (⟨s.extract i (i + 1), (i : Int)⟩ : Wd) = ⟨ba [c], (i : Int)⟩
        congr 1
        apply by_data
        rw [ext_list, ba_data, List.drop_take, hd]
        simp
      | false =>
        rw [if_neg Bool.false_ne_true, if_neg Bool.false_ne_true]
        cases hb2 : blkB c with
        | true =>
          rw [if_pos rfl, if_pos rfl, hcut, h1]
          simp only [List.map_append, List.append_assoc]
        | false =>
          rw [if_neg Bool.false_ne_true, if_neg Bool.false_ne_true]
          have h2 : (if frL cur < 0 then (i : Int) else frL cur) = frL (addL i c cur) := by
            cases cur with
            | none => rfl
            | some x => exact if_neg (show ¬ (x.2 : Int) < 0 by omega)
          rw [h2]
          refine lexW_eq s n (i + 1) ws (addL i c cur) (by omega) (fun x hx => ?_)
          cases cur with
          | none =>
            obtain rfl := Option.some.inj hx
            refine ⟨by show i ≤ i + 1; omega, ?_⟩
            show [c] = (s.data.toList.take (i + 1)).drop i
            rw [List.drop_take, hd, show i + 1 - i = 1 by omega]
            rfl
          | some y =>
            obtain ⟨g1, g2⟩ := hc y rfl
            obtain rfl := Option.some.inj hx
            refine ⟨by show y.2 ≤ i + 1; omega, ?_⟩
            show y.1 ++ [c] = (s.data.toList.take (i + 1)).drop y.2
            rw [List.take_add_one, hb, List.drop_append_of_le_length (by rw [List.length_take]; omega), ← g2]
            rfl
/-- A line, on lists. -/
def lineL (l : List UInt8) : Option (List LW × List UInt8) := if l.any oddB then none else some (lexL l 0 none)
theorem any_range (l : List UInt8) (p : UInt8 → Bool) (q : Nat → Bool) (h : ∀ i c, l[i]? = some c → q i = p c) : (List.range l.length).any q = l.any p := by
  rw [Bool.eq_iff_iff, List.any_eq_true, List.any_eq_true]
  constructor
  · rintro ⟨i, hi, hq⟩
    have hi := List.mem_range.1 hi
    exact ⟨l[i], List.getElem_mem hi, by rw [← h i _ (List.getElem?_eq_getElem hi)]; exact hq⟩
  · rintro ⟨c, hc, hp⟩
    obtain ⟨i, hi⟩ := List.getElem?_of_mem hc
    exact ⟨i, List.mem_range.2 (List.getElem?_eq_some_iff.1 hi).1, by rw [h i c hi]; exact hp⟩
theorem oneW_eq (s : ByteArray) : oneW s = (lineL s.data.toList).map fun r => (r.1.map toWd, ba r.2) := by
  have h1 := lexW_eq s s.size 0 [] none (by omega) (fun _ h => by cases h)
  have h2 : (List.range s.size).any (fun i => oddC (bt s i)) = s.data.toList.any oddB := by
    rw [Lib.size_eq]
    exact any_range _ _ _ fun i c h => by rw [bt_at h, odd_eq]
  unfold oneW lineL
  rw [h2]
  cases s.data.toList.any oddB with
  | true => rfl
  | false =>
    rw [if_neg Bool.false_ne_true, if_neg Bool.false_ne_true]
    show some (lexW s s.size 0 ([], frL none)) = _
    rw [h1]
    simp
end Go.Proofs.YtmbpefnhkimplaaGreatDoor
end
