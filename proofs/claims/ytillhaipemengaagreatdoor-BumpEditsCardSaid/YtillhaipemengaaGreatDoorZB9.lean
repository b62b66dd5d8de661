/- The texts Pl in one file, without what these claims do not use (put together by prune2.py). -/
import Derived.Test.YtillhaipemengaaGreatDoorZB8
import Derived.Test.YtillhaipemengaaGreatDoorZB3
section
namespace Go.Proofs.YtillhaipemengaaGreatDoor
open Go Go.RowKit Go.Proofs.YtillhaipemengaaGreatDoorW.PrintWords Go.Proofs.YtillhaipemengaaGreatDoor.K0 Go.Proofs.YtillhaipemengaaGreatDoor.R1
set_option linter.unusedVariables false
set_option linter.unusedSimpArgs false
theorem scan {s : ByteArray} {n : Nat} (h : n < s.size) : ∃ b : UInt8, bt s (n : Int) = (b.toNat : Int) ∧ s.data.toList.drop n = b :: s.data.toList.drop (n + 1) := by
  have hl : n < s.data.toList.length := by rw [← Lib.size_eq]; exact h
  refine ⟨s.data.toList[n], ?_, List.drop_eq_getElem_cons hl⟩
  have h2 : ((n : Int)).toNat < s.size := h
  rw [bt, dif_pos h2]
  rfl
theorem scan_end {s : ByteArray} {n : Nat} (h : s.size ≤ n) : s.data.toList.drop n = [] := by
  apply List.drop_eq_nil_of_le
  rw [← Lib.size_eq]; exact h
theorem wrap_succ {n : Nat} (h : n ≤ 4294967296) : wrap64 ((n : Int) + 1) = ((n + 1 : Nat) : Int) := by
  unfold wrap64; omega
theorem wrap_id {z : Int} (h0 : -9223372036854775808 ≤ z) (h1 : z ≤ 9223372036854775807) : wrap64 z = z := by
  unfold wrap64; omega
theorem toList_ne (s : ByteArray) : (s.toList != ([] : List UInt8)) = !s.data.toList.isEmpty := by
  rw [ByteArray.toList_eq]
  cases s.data.toList <;> rfl
def digN (n : Nat) : Bool := decide (48 ≤ n) && decide (n ≤ 57)
def alnumN (n : Nat) : Bool := (decide (97 ≤ n) && decide (n ≤ 122)) || (decide (65 ≤ n) && decide (n ≤ 90)) || digN n
def plainN (n : Nat) : Bool := alnumN n || decide (n = 45) || decide (n = 95) || decide (n = 46)
def identN (n : Nat) : Bool := alnumN n || decide (n = 45)
def isDig (b : UInt8) : Bool := digN b.toNat
def isPlain (b : UInt8) : Bool := plainN b.toNat
def isIdent (b : UInt8) : Bool := identN b.toNat
def partFin (l : List UInt8) : Bool := !decide (l = []) && (!decide (l = [46]) && !decide (l = [46, 46]))
def partOk (l : List UInt8) : Bool := l.all isPlain && partFin l
def digitsOk (l : List UInt8) : Bool := l.all isDig && !l.isEmpty
def wordOk (l : List UInt8) : Bool := l.all isIdent && !l.isEmpty
def tightOk (l : List UInt8) : Bool := decide (l.length < 2) || !(l.head? == some 48) || !digitsOk l
theorem plain_nat : ∀ n : Nat, n < 256 → files_plain.f (n : Int) = some (plainN n) := by decide +kernel
theorem digit_nat : ∀ n : Nat, n < 256 → ver_digit.f (n : Int) = some (digN n) := by decide +kernel
theorem plain_f (b : UInt8) : files_plain.f (b.toNat : Int) = some (isPlain b) := plain_nat _ b.toNat_lt
theorem digit_f (b : UInt8) : ver_digit.f (b.toNat : Int) = some (isDig b) := digit_nat _ b.toNat_lt
theorem files_part_l0 (s : ByteArray) (hs : s.size ≤ 4294967290) : ∀ (d n k : Nat), s.size - n = d → n ≤ s.size → d < k →
    files_part.l0 k s (s.size : Int) (n : Int) = some ((s.data.toList.drop n).all isPlain && partFin s.data.toList) := by
  intro d
  induction d with
  | zero =>
    intro n k hd hn hk
    obtain ⟨k, rfl⟩ : ∃ m, k = m + 1 := ⟨k - 1, by omega⟩
    simp only [files_part.l0]
    rw [if_neg (by omega), scan_end (by omega), ByteArray.toList_eq]
    by_cases h1 : s.data.toList = []
    · rw [if_pos h1]; simp [h1, partFin]
    · rw [if_neg h1]
      by_cases h2 : s.data.toList = [46]
      · rw [if_pos h2]; simp [h2, partFin]
      · rw [if_neg h2]
        by_cases h3 : s.data.toList = [46, 46] <;> simp [h1, h2, h3, bne, partFin]
  | succ d ih =>
    intro n k hd hn hk
    obtain ⟨k, rfl⟩ : ∃ m, k = m + 1 := ⟨k - 1, by omega⟩
    obtain ⟨b, hb, hd2⟩ := scan (s := s) (n := n) (by omega)
    simp only [files_part.l0]
    rw [if_pos (by omega), if_pos (by omega), if_pos (by omega), hb, plain_f]
    simp only [Option.bind_some]
    rw [wrap_succ (by omega), ih (n + 1) k (by omega) (by omega) (by omega), hd2, List.all_cons]
    cases isPlain b <;> simp
theorem files_part_f (s : ByteArray) (hs : s.size ≤ 4294967290) (k : Nat) (hk : s.size < k) : files_part.f k s = some (partOk s.data.toList) := by
  unfold files_part.f partOk
  rw [show (0 : Int) = ((0 : Nat) : Int) from rfl, files_part_l0 s hs s.size 0 k (by omega) (by omega) hk]
  simp
theorem word_l0 (s : ByteArray) (hs : s.size ≤ 4294967290) : ∀ (d n k : Nat), s.size - n = d → n ≤ s.size → d < k →
    ver_word.l0 k s (s.size : Int) (n : Int) = some ((s.data.toList.drop n).all isIdent && !s.data.toList.isEmpty) := by
  intro d
  induction d with
  | zero =>
    intro n k hd hn hk
    obtain ⟨k, rfl⟩ : ∃ m, k = m + 1 := ⟨k - 1, by omega⟩
    simp only [ver_word.l0]
    rw [if_neg (by omega), scan_end (by omega), toList_ne]
    rfl
  | succ d ih =>
    intro n k hd hn hk
    obtain ⟨k, rfl⟩ : ∃ m, k = m + 1 := ⟨k - 1, by omega⟩
    obtain ⟨b, hb, hd2⟩ := scan (s := s) (n := n) (by omega)
    simp only [ver_word.l0]
    rw [if_pos (by omega), if_pos (by omega), if_pos (by omega), hb, digit_f, wrap_succ (by omega), ih (n + 1) k (by omega) (by omega) (by omega), hd2, List.all_cons, Bool.and_assoc]
    simp only [Option.bind_some]
    generalize ((s.data.toList.drop (n + 1)).all isIdent && !s.data.toList.isEmpty) = X
    have hm := b.toNat_lt
    clear ih hd2 hb hd hk hs hn
    unfold isIdent isDig
    generalize b.toNat = m at hm ⊢
    revert X
    revert m
    decide +kernel
theorem word_f (s : ByteArray) (hs : s.size ≤ 4294967290) (k : Nat) (hk : s.size < k) : ver_word.f k s = some (wordOk s.data.toList) := by
  unfold ver_word.f wordOk
  rw [show (0 : Int) = ((0 : Nat) : Int) from rfl, word_l0 s hs s.size 0 k (by omega) (by omega) hk]
  simp
theorem digits_l0 (s : ByteArray) (hs : s.size ≤ 4294967290) : ∀ (d n k : Nat), s.size - n = d → n ≤ s.size → d < k →
    ver_digits.l0 k s (s.size : Int) (n : Int) = some ((s.data.toList.drop n).all isDig && !s.data.toList.isEmpty) := by
  intro d
  induction d with
  | zero =>
    intro n k hd hn hk
    obtain ⟨k, rfl⟩ : ∃ m, k = m + 1 := ⟨k - 1, by omega⟩
    simp only [ver_digits.l0]
    rw [if_neg (by omega), scan_end (by omega), toList_ne]
    rfl
  | succ d ih =>
    intro n k hd hn hk
    obtain ⟨k, rfl⟩ : ∃ m, k = m + 1 := ⟨k - 1, by omega⟩
    obtain ⟨b, hb, hd2⟩ := scan (s := s) (n := n) (by omega)
    simp only [ver_digits.l0]
    rw [if_pos (by omega), if_pos (by omega), if_pos (by omega), hb, digit_f, wrap_succ (by omega), ih (n + 1) k (by omega) (by omega) (by omega), hd2, List.all_cons, Bool.and_assoc]
    simp only [Option.bind_some]
    cases isDig b <;> simp
theorem digits_f (s : ByteArray) (hs : s.size ≤ 4294967290) (k : Nat) (hk : s.size < k) : ver_digits.f k s = some (digitsOk s.data.toList) := by
  unfold ver_digits.f digitsOk
  rw [show (0 : Int) = ((0 : Nat) : Int) from rfl, digits_l0 s hs s.size 0 k (by omega) (by omega) hk]
  simp
theorem tight_f (s : ByteArray) (hs : s.size ≤ 4294967290) (k : Nat) (hk : s.size < k) : ver_tight.f k s = some (tightOk s.data.toList) := by
  unfold ver_tight.f tightOk
  have hsz : s.size = s.data.toList.length := Lib.size_eq s
  by_cases h1 : (s.size : Int) < 2
  · rw [if_pos h1]
    have : decide (s.data.toList.length < 2) = true := decide_eq_true (by omega)
    rw [this]; rfl
  · rw [if_neg h1, if_pos (by omega)]
    obtain ⟨b, hb, hd2⟩ := scan (s := s) (n := 0) (by omega)
    rw [List.drop_zero] at hd2
    have hb' : bt s 0 = (b.toNat : Int) := hb
    have : decide (s.data.toList.length < 2) = false := decide_eq_false (by omega)
    rw [this, hb', digits_f s hs k hk]
    have e : (s.data.toList.head? == some 48) = decide ((b.toNat : Int) = 48) := by
      rw [hd2]
      by_cases h : b = 48
      · subst h; rfl
      · have : ¬ ((b.toNat : Int) = 48) := fun e => h (UInt8.toNat_inj.1 (by show b.toNat = 48; omega))
        rw [decide_eq_false this]
        simp [h]
    rw [e]
    by_cases h : (b.toNat : Int) = 48
    · rw [if_pos h, decide_eq_true h]; simp
    · rw [if_neg h, decide_eq_false h]; simp
end Go.Proofs.YtillhaipemengaaGreatDoor
end
