/- The texts Pl, Pl2, CmpV in one file, without what this claim does not use (put together by prune.py). -/
import Derived.Test.YtnnogepjkfllnaaGreatDoorZR10
import Derived.Test.YtnnogepjkfllnaaGreatDoorZR3
import Derived.Test.YtnnogepjkfllnaaGreatDoorZR13
import Derived.Test.YtnnogepjkfllnaaGreatDoorZR14
import Derived.Lib.Bytealg
import Derived.Lib.Small
section
namespace Go.Proofs.YtnnogepjkfllnaaGreatDoor
open Go Go.RowKit Go.Proofs.YtnnogepjkfllnaaGreatDoorW.PrintWords Go.Proofs.YtnnogepjkfllnaaGreatDoor.K0 Go.Proofs.YtnnogepjkfllnaaGreatDoor.R1
set_option linter.unusedVariables false
set_option linter.unusedSimpArgs false
theorem scan {s : ByteArray} {n : Nat} (h : n < s.size) : ∃ b : UInt8, bt s (n : Int) = (b.toNat : Int) ∧ s.data.toList.drop n = b :: s.data.toList.drop (n + 1) := by
  have hl : n < s.data.toList.length := by rw [← Lib.size_eq]; exact h
  refine ⟨s.data.toList[n], ?_, List.drop_eq_getElem_cons hl⟩
  have h2 : ((n : Int)).toNat < s.size := h
  rw [bt, dif_pos h2]
  rfl
theorem scan_end {s : ByteArray} {n : Nat} (h : s.size ≤ n) : s.data.toList.drop n = [] := by
  apply List.drop_eq_nil_of_le
  rw [← Lib.size_eq]; exact h
theorem wrap_succ {n : Nat} (h : n ≤ 4294967296) : wrap64 ((n : Int) + 1) = ((n + 1 : Nat) : Int) := by
  unfold wrap64; omega
theorem wrap_id {z : Int} (h0 : -9223372036854775808 ≤ z) (h1 : z ≤ 9223372036854775807) : wrap64 z = z := by
  unfold wrap64; omega
theorem toList_ne (s : ByteArray) : (s.toList != ([] : List UInt8)) = !s.data.toList.isEmpty := by
  rw [ByteArray.toList_eq]
  cases s.data.toList <;> rfl
def digN (n : Nat) : Bool := decide (48 ≤ n) && decide (n ≤ 57)
def alnumN (n : Nat) : Bool := (decide (97 ≤ n) && decide (n ≤ 122)) || (decide (65 ≤ n) && decide (n ≤ 90)) || digN n
def plainN (n : Nat) : Bool := alnumN n || decide (n = 45) || decide (n = 95) || decide (n = 46)
def identN (n : Nat) : Bool := alnumN n || decide (n = 45)
def isDig (b : UInt8) : Bool := digN b.toNat
def isPlain (b : UInt8) : Bool := plainN b.toNat
def isIdent (b : UInt8) : Bool := identN b.toNat
def partFin (l : List UInt8) : Bool := !decide (l = []) && (!decide (l = [46]) && !decide (l = [46, 46]))
def partOk (l : List UInt8) : Bool := l.all isPlain && partFin l
def digitsOk (l : List UInt8) : Bool := l.all isDig && !l.isEmpty
def wordOk (l : List UInt8) : Bool := l.all isIdent && !l.isEmpty
def tightOk (l : List UInt8) : Bool := decide (l.length < 2) || !(l.head? == some 48) || !digitsOk l
theorem plain_nat : ∀ n : Nat, n < 256 → files_plain.f (n : Int) = some (plainN n) := by decide +kernel
theorem digit_nat : ∀ n : Nat, n < 256 → ver_digit.f (n : Int) = some (digN n) := by decide +kernel
theorem plain_f (b : UInt8) : files_plain.f (b.toNat : Int) = some (isPlain b) := plain_nat _ b.toNat_lt
theorem digit_f (b : UInt8) : ver_digit.f (b.toNat : Int) = some (isDig b) := digit_nat _ b.toNat_lt
theorem files_part_l0 (s : ByteArray) (hs : s.size ≤ 4294967290) : ∀ (d n k : Nat), s.size - n = d → n ≤ s.size → d < k →
    files_part.l0 k s (s.size : Int) (n : Int) = some ((s.data.toList.drop n).all isPlain && partFin s.data.toList) := by
  intro d
  induction d with
  | zero =>
    intro n k hd hn hk
    obtain ⟨k, rfl⟩ : ∃ m, k = m + 1 := ⟨k - 1, by omega⟩
    simp only [files_part.l0]
    rw [if_neg (by omega), scan_end (by omega), ByteArray.toList_eq]
    by_cases h1 : s.data.toList = []
    · rw [if_pos h1]; simp [h1, partFin]
    · rw [if_neg h1]
      by_cases h2 : s.data.toList = [46]
      · rw [if_pos h2]; simp [h2, partFin]
      · rw [if_neg h2]
        by_cases h3 : s.data.toList = [46, 46] <;> simp [h1, h2, h3, bne, partFin]
  | succ d ih =>
    intro n k hd hn hk
    obtain ⟨k, rfl⟩ : ∃ m, k = m + 1 := ⟨k - 1, by omega⟩
    obtain ⟨b, hb, hd2⟩ := scan (s := s) (n := n) (by omega)
    simp only [files_part.l0]
    rw [if_pos (by omega), if_pos (by omega), if_pos (by omega), hb, plain_f]
    simp only [Option.bind_some]
    rw [wrap_succ (by omega), ih (n + 1) k (by omega) (by omega) (by omega), hd2, List.all_cons]
    cases isPlain b <;> simp
theorem files_part_f (s : ByteArray) (hs : s.size ≤ 4294967290) (k : Nat) (hk : s.size < k) : files_part.f k s = some (partOk s.data.toList) := by
  unfold files_part.f partOk
  rw [show (0 : Int) = ((0 : Nat) : Int) from rfl, files_part_l0 s hs s.size 0 k (by omega) (by omega) hk]
  simp
theorem word_l0 (s : ByteArray) (hs : s.size ≤ 4294967290) : ∀ (d n k : Nat), s.size - n = d → n ≤ s.size → d < k →
    ver_word.l0 k s (s.size : Int) (n : Int) = some ((s.data.toList.drop n).all isIdent && !s.data.toList.isEmpty) := by
  intro d
  induction d with
  | zero =>
    intro n k hd hn hk
    obtain ⟨k, rfl⟩ : ∃ m, k = m + 1 := ⟨k - 1, by omega⟩
    simp only [ver_word.l0]
    rw [if_neg (by omega), scan_end (by omega), toList_ne]
    rfl
  | succ d ih =>
    intro n k hd hn hk
    obtain ⟨k, rfl⟩ : ∃ m, k = m + 1 := ⟨k - 1, by omega⟩
    obtain ⟨b, hb, hd2⟩ := scan (s := s) (n := n) (by omega)
    simp only [ver_word.l0]
    rw [if_pos (by omega), if_pos (by omega), if_pos (by omega), hb, digit_f, wrap_succ (by omega), ih (n + 1) k (by omega) (by omega) (by omega), hd2, List.all_cons, Bool.and_assoc]
    simp only [Option.bind_some]
    generalize ((s.data.toList.drop (n + 1)).all isIdent && !s.data.toList.isEmpty) = X
    have hm := b.toNat_lt
    clear ih hd2 hb hd hk hs hn
    unfold isIdent isDig
    generalize b.toNat = m at hm ⊢
    revert X
    revert m
    decide +kernel
theorem word_f (s : ByteArray) (hs : s.size ≤ 4294967290) (k : Nat) (hk : s.size < k) : ver_word.f k s = some (wordOk s.data.toList) := by
  unfold ver_word.f wordOk
  rw [show (0 : Int) = ((0 : Nat) : Int) from rfl, word_l0 s hs s.size 0 k (by omega) (by omega) hk]
  simp
theorem digits_l0 (s : ByteArray) (hs : s.size ≤ 4294967290) : ∀ (d n k : Nat), s.size - n = d → n ≤ s.size → d < k →
    ver_digits.l0 k s (s.size : Int) (n : Int) = some ((s.data.toList.drop n).all isDig && !s.data.toList.isEmpty) := by
  intro d
  induction d with
  | zero =>
    intro n k hd hn hk
    obtain ⟨k, rfl⟩ : ∃ m, k = m + 1 := ⟨k - 1, by omega⟩
    simp only [ver_digits.l0]
    rw [if_neg (by omega), scan_end (by omega), toList_ne]
    rfl
  | succ d ih =>
    intro n k hd hn hk
    obtain ⟨k, rfl⟩ : ∃ m, k = m + 1 := ⟨k - 1, by omega⟩
    obtain ⟨b, hb, hd2⟩ := scan (s := s) (n := n) (by omega)
    simp only [ver_digits.l0]
    rw [if_pos (by omega), if_pos (by omega), if_pos (by omega), hb, digit_f, wrap_succ (by omega), ih (n + 1) k (by omega) (by omega) (by omega), hd2, List.all_cons, Bool.and_assoc]
    simp only [Option.bind_some]
    cases isDig b <;> simp
theorem digits_f (s : ByteArray) (hs : s.size ≤ 4294967290) (k : Nat) (hk : s.size < k) : ver_digits.f k s = some (digitsOk s.data.toList) := by
  unfold ver_digits.f digitsOk
  rw [show (0 : Int) = ((0 : Nat) : Int) from rfl, digits_l0 s hs s.size 0 k (by omega) (by omega) hk]
  simp
theorem tight_f (s : ByteArray) (hs : s.size ≤ 4294967290) (k : Nat) (hk : s.size < k) : ver_tight.f k s = some (tightOk s.data.toList) := by
  unfold ver_tight.f tightOk
  have hsz : s.size = s.data.toList.length := Lib.size_eq s
  by_cases h1 : (s.size : Int) < 2
  · rw [if_pos h1]
    have : decide (s.data.toList.length < 2) = true := decide_eq_true (by omega)
    rw [this]; rfl
  · rw [if_neg h1, if_pos (by omega)]
    obtain ⟨b, hb, hd2⟩ := scan (s := s) (n := 0) (by omega)
    rw [List.drop_zero] at hd2
    have hb' : bt s 0 = (b.toNat : Int) := hb
    have : decide (s.data.toList.length < 2) = false := decide_eq_false (by omega)
    rw [this, hb', digits_f s hs k hk]
    have e : (s.data.toList.head? == some 48) = decide ((b.toNat : Int) = 48) := by
      rw [hd2]
      by_cases h : b = 48
      · subst h; rfl
      · have : ¬ ((b.toNat : Int) = 48) := fun e => h (UInt8.toNat_inj.1 (by show b.toNat = 48; omega))
        rw [decide_eq_false this]
        simp [h]
    rw [e]
    by_cases h : (b.toNat : Int) = 48
    · rw [if_pos h, decide_eq_true h]; simp
    · rw [if_neg h, decide_eq_false h]; simp
end Go.Proofs.YtnnogepjkfllnaaGreatDoor
end

section
namespace Go.Proofs.YtnnogepjkfllnaaGreatDoor
open Go Go.RowKit Go.Proofs.YtnnogepjkfllnaaGreatDoorW.PrintWords Go.Proofs.YtnnogepjkfllnaaGreatDoor.K0 Go.Proofs.YtnnogepjkfllnaaGreatDoor.R1
set_option linter.unusedVariables false
set_option linter.unusedSimpArgs false
theorem rd_at {l : List ByteArray} {n : Nat} (h : n < l.length) : ∃ x, rdOf ByteArray.empty l (n : Int) = x ∧ l.drop n = x :: l.drop (n + 1) ∧ l[n]? = some x := by
  refine ⟨l[n], ?_, List.drop_eq_getElem_cons h, List.getElem?_eq_getElem h⟩
  unfold rdOf
  show l.getD n _ = _
  rw [List.getD_eq_getElem?_getD, List.getElem?_eq_getElem h]; rfl
theorem allM_all {f : ByteArray → Option Bool} {p : ByteArray → Bool} : ∀ {l : List ByteArray}, (∀ x ∈ l, f x = some (p x)) → allM f l = some (l.all p)
  | [], _ => rfl
  | x :: xs, h => by
    unfold allM
    rw [h x List.mem_cons_self]
    simp only [Option.bind_some, List.all_cons]
    have ih := allM_all (fun y hy => h y (List.mem_cons_of_mem x hy))
    cases p x <;> simp [ih]
theorem split_size {c : UInt8} {s x : ByteArray} (h : x ∈ splitBy c s) : x.size ≤ s.size := by
  unfold splitBy at h
  obtain ⟨l, hl, rfl⟩ := List.mem_map.1 h
  rw [ba_size, Lib.size_eq]
  exact (splitC_parts hl).2
theorem all_split (c : UInt8) (s : ByteArray) (p : List UInt8 → Bool) : ((splitBy c s).all fun x => p x.data.toList) = (splitC c s.data.toList).all p := by
  unfold splitBy
  rw [List.all_map]
  rfl
def pathOk (s : ByteArray) : Bool := decide (s.size ≤ 60) && (splitC 47 s.data.toList).all partOk
theorem files_Path_f (s : ByteArray) (k : Nat) (hk : 60 < k) : files_Path.f k s = some (pathOk s) := by
  unfold files_Path.f pathOk
  by_cases h : (s.size : Int) > 60
  · rw [if_pos h, decide_eq_false (by omega)]; rfl
  · rw [if_neg h, decide_eq_true (by omega), ← all_split]
    exact allM_all fun x hx => files_part_f x (by have := split_size hx; omega) k (by have := split_size hx; omega)
theorem split_len (c : UInt8) (s : ByteArray) : (splitBy c s).length ≤ s.size + 1 := by
  unfold splitBy
  rw [List.length_map, splitC_length, Lib.size_eq]
  have := List.count_le_length (a := c) (l := s.data.toList)
  omega
def okId (z : Bool) (W : List UInt8) : Bool := wordOk W && (z || tightOk W)
def idsOk (z : Bool) (s : ByteArray) : Bool := (splitC 46 s.data.toList).all (okId z)
def preOk (s : ByteArray) : Bool := decide (s.size = 0) || idsOk false s
def buildOk (s : ByteArray) : Bool := decide (s.size = 0) || idsOk true s
def verOk (a b c : Int) (p q : ByteArray) : Bool := numB a && (numB b && (numB c && (decide (p.size ≤ 30) && (decide (q.size ≤ 30) && (preOk p && buildOk q)))))
theorem wordM_f (x : ByteArray) (z : Bool) (may : ByteArray → Option Bool) (k : Nat) (hs : x.size ≤ 4294967290) (hk : x.size < k) (hm : may x = some (z || tightOk x.data.toList)) : wordM k may x = some (okId z x.data.toList) := by
  unfold wordM okId
  rw [word_f x hs k hk, hm]
  simp only [Option.bind_some]
  cases wordOk x.data.toList <;> simp
theorem preM_f (s : ByteArray) (hs : s.size ≤ 30) (k : Nat) (hk : 30 < k) : preM k s = some (preOk s) := by
  unfold preM preOk
  by_cases h : s.size = 0
  · rw [if_pos h, decide_eq_true h]; rfl
  · rw [if_neg h, decide_eq_false h, Bool.false_or]
    unfold idsOk
    rw [← all_split]
    exact allM_all fun x hx => by
      have := split_size hx
      exact wordM_f x false _ k (by omega) (by omega) (by rw [Bool.false_or]; exact tight_f x (by omega) k (by omega))
theorem buildM_f (s : ByteArray) (hs : s.size ≤ 30) (k : Nat) (hk : 30 < k) : buildM k s = some (buildOk s) := by
  unfold buildM buildOk
  by_cases h : s.size = 0
  · rw [if_pos h, decide_eq_true h]; rfl
  · rw [if_neg h, decide_eq_false h, Bool.false_or]
    unfold idsOk
    rw [← all_split]
    exact allM_all fun x hx => by
      have := split_size hx
      exact wordM_f x true _ k (by omega) (by omega) rfl
theorem ver_Check_f (a b c : Int) (p q : ByteArray) (k : Nat) (hk : 30 < k) : ver_Check.f k a b c p q = some (verOk a b c p q) := by
  unfold ver_Check.f verOk
  cases numB a <;> cases numB b <;> cases numB c <;> simp only [if_true, if_false, Bool.false_eq_true, Bool.true_and, Bool.false_and]
  by_cases h3 : (p.size : Int) > 30
  · rw [if_pos h3, decide_eq_false (by omega)]; rfl
  · rw [if_neg h3, decide_eq_true (by omega)]
    by_cases h4 : (q.size : Int) > 30
    · rw [if_pos h4, decide_eq_false (by omega)]; rfl
    · rw [if_neg h4, decide_eq_true (by omega), preM_f p (by omega) k hk, buildM_f q (by omega) k hk]
      simp only [Option.bind_some]
      cases preOk p <;> simp
end Go.Proofs.YtnnogepjkfllnaaGreatDoor
end

section
namespace Go.Proofs.YtnnogepjkfllnaaGreatDoor
open Go Go.RowKit Go.Proofs.YtnnogepjkfllnaaGreatDoorW.PrintWords Go.Proofs.YtnnogepjkfllnaaGreatDoor.K0 Go.Proofs.YtnnogepjkfllnaaGreatDoor.R1
set_option linter.unusedVariables false
set_option linter.unusedSimpArgs false
theorem cb_anti : ∀ a b : List UInt8, Lib.compareBytes a b = - Lib.compareBytes b a
  | [], [] => rfl
  | [], _ :: _ => rfl
  | _ :: _, [] => rfl
  | a :: xs, b :: ys => by
    unfold Lib.compareBytes
    by_cases h : a < b
    · have h2 : ¬ b < a := fun e => by have h1 := UInt8.lt_iff_toNat_lt.1 h; have h2 := UInt8.lt_iff_toNat_lt.1 e; omega
      rw [if_pos h, if_neg h2, if_pos h]
    · by_cases h2 : b < a
      · rw [if_neg h, if_pos h2, if_pos h2]; rfl
      · rw [if_neg h, if_neg h2, if_neg h2, if_neg h]; exact cb_anti xs ys
theorem cb_range : ∀ a b : List UInt8, Lib.compareBytes a b = -1 ∨ Lib.compareBytes a b = 0 ∨ Lib.compareBytes a b = 1
  | [], [] => .inr (.inl rfl)
  | [], _ :: _ => .inl rfl
  | _ :: _, [] => .inr (.inr rfl)
  | a :: xs, b :: ys => by
    unfold Lib.compareBytes
    split
    · exact .inl rfl
    · split
      · exact .inr (.inr rfl)
      · exact cb_range xs ys
theorem ci_anti (x y : Int) : Lib.compareInt x y = - Lib.compareInt y x := by unfold Lib.compareInt; split <;> split <;> (try split) <;> omega
theorem ci_range (x y : Int) : Lib.compareInt x y = -1 ∨ Lib.compareInt x y = 0 ∨ Lib.compareInt x y = 1 := by unfold Lib.compareInt; split <;> (try split) <;> simp
theorem ci_eq (x y : Int) : Lib.compareInt x y = 0 ↔ x = y := by unfold Lib.compareInt; split <;> (try split) <;> omega
/-- The first of two that is not 0. -/
def orr (x y : Int) : Int := if x = 0 then y else x
theorem orr_neg (x y : Int) : orr (-x) (-y) = - orr x y := by unfold orr; split <;> split <;> omega
theorem orr_range {x y : Int} (hx : x = -1 ∨ x = 0 ∨ x = 1) (hy : y = -1 ∨ y = 0 ∨ y = 1) : orr x y = -1 ∨ orr x y = 0 ∨ orr x y = 1 := by unfold orr; split <;> assumption
def wordCmp (a b : List UInt8) : Int :=
  if digitsOk a = true then (if digitsOk b = true then orr (Lib.compareInt (a.length : Int) (b.length : Int)) (Lib.compareBytes a b) else -1) else (if digitsOk b = true then 1 else Lib.compareBytes a b)
theorem wordCmp_anti (a b : List UInt8) : wordCmp a b = - wordCmp b a := by
  unfold wordCmp
  cases digitsOk a <;> cases digitsOk b <;> simp
  · exact cb_anti a b
  · rw [ci_anti a.length, cb_anti a, orr_neg]
theorem wordCmp_range (a b : List UInt8) : wordCmp a b = -1 ∨ wordCmp a b = 0 ∨ wordCmp a b = 1 := by
  unfold wordCmp
  cases digitsOk a <;> cases digitsOk b <;> simp
  · exact cb_range a b
  · exact orr_range (ci_range _ _) (cb_range a b)
def listCmp : List (List UInt8) → List (List UInt8) → Int
  | [], [] => 0
  | [], _ :: _ => -1
  | _ :: _, [] => 1
  | x :: xs, y :: ys => orr (wordCmp x y) (listCmp xs ys)
theorem listCmp_anti : ∀ a b, listCmp a b = - listCmp b a
  | [], [] => rfl
  | [], _ :: _ => rfl
  | _ :: _, [] => rfl
  | x :: xs, y :: ys => by unfold listCmp; rw [wordCmp_anti x y, listCmp_anti xs ys, orr_neg]
theorem listCmp_refl (a : List (List UInt8)) : listCmp a a = 0 := by have := listCmp_anti a a; omega
theorem listCmp_range : ∀ a b, listCmp a b = -1 ∨ listCmp a b = 0 ∨ listCmp a b = 1
  | [], [] => .inr (.inl rfl)
  | [], _ :: _ => .inl rfl
  | _ :: _, [] => .inr (.inr rfl)
  | x :: xs, y :: ys => orr_range (wordCmp_range x y) (listCmp_range xs ys)
def preCmp (a b : List UInt8) : Int := if a = [] then (if b = [] then 0 else 1) else if b = [] then -1 else listCmp (splitC 46 a) (splitC 46 b)
theorem preCmp_anti (a b : List UInt8) : preCmp a b = - preCmp b a := by
  unfold preCmp
  by_cases ha : a = [] <;> by_cases hb : b = [] <;> simp [ha, hb]
  exact listCmp_anti _ _
theorem preCmp_range (a b : List UInt8) : preCmp a b = -1 ∨ preCmp a b = 0 ∨ preCmp a b = 1 := by
  unfold preCmp
  split
  · split <;> simp
  · split
    · simp
    · exact listCmp_range _ _
/-- The order of two versions. -/
def verCmp (a b c : Int) (p q : ByteArray) (a2 b2 c2 : Int) (p2 q2 : ByteArray) : Int :=
  if verOk a b c p q = true then (if verOk a2 b2 c2 p2 q2 = true then orr (Lib.compareInt a a2) (orr (Lib.compareInt b b2) (orr (Lib.compareInt c c2) (preCmp p.data.toList p2.data.toList))) else 0) else 0
theorem verCmp_anti (a b c : Int) (p q : ByteArray) (a2 b2 c2 : Int) (p2 q2 : ByteArray) : verCmp a b c p q a2 b2 c2 p2 q2 = - verCmp a2 b2 c2 p2 q2 a b c p q := by
  unfold verCmp
  cases verOk a b c p q <;> cases verOk a2 b2 c2 p2 q2 <;> simp
  rw [ci_anti a, ci_anti b, ci_anti c, preCmp_anti p.data.toList, orr_neg, orr_neg, orr_neg]
theorem verCmp_range (a b c : Int) (p q : ByteArray) (a2 b2 c2 : Int) (p2 q2 : ByteArray) : verCmp a b c p q a2 b2 c2 p2 q2 = -1 ∨ verCmp a b c p q a2 b2 c2 p2 q2 = 0 ∨ verCmp a b c p q a2 b2 c2 p2 q2 = 1 := by
  unfold verCmp
  split
  · split
    · exact orr_range (ci_range _ _) (orr_range (ci_range _ _) (orr_range (ci_range _ _) (preCmp_range _ _)))
    · simp
  · simp
end Go.Proofs.YtnnogepjkfllnaaGreatDoor
end
