/- Plain laws of the printed functions of layers 5, 7, 8 and their references: what each loop comes to. -/
import Derived.Test.YtpkhemnngjmcjaaDoorR1x
import Derived.Test.YtpkhemnngjmcjaaDoorStr
namespace Go.Proofs.YtpkhemnngjmcjaaDoor
open Go Go.RowKit Go.Proofs.YtpkhemnngjmcjaaDoorW.PrintWords Go.Proofs.YtpkhemnngjmcjaaDoor.K0 Go.Proofs.YtpkhemnngjmcjaaDoor.R1
set_option linter.unusedVariables false
set_option linter.unusedSimpArgs false

theorem scan {s : ByteArray} {n : Nat} (h : n < s.size) : ∃ b : UInt8, bt s (n : Int) = (b.toNat : Int) ∧ s.data.toList.drop n = b :: s.data.toList.drop (n + 1) := by
  have hl : n < s.data.toList.length := by rw [← Lib.size_eq]; exact h
  refine ⟨s.data.toList[n], ?_, List.drop_eq_getElem_cons hl⟩
  have h2 : ((n : Int)).toNat < s.size := h
  rw [bt, dif_pos h2]
  rfl
theorem scan_end {s : ByteArray} {n : Nat} (h : s.size ≤ n) : s.data.toList.drop n = [] := by
  apply List.drop_eq_nil_of_le
  rw [← Lib.size_eq]; exact h
theorem wrap_succ {n : Nat} (h : n ≤ 4294967296) : wrap64 ((n : Int) + 1) = ((n + 1 : Nat) : Int) := by
  unfold wrap64; omega
theorem wrap_id {z : Int} (h0 : -9223372036854775808 ≤ z) (h1 : z ≤ 9223372036854775807) : wrap64 z = z := by
  unfold wrap64; omega
theorem byte_lt (b : UInt8) : (b.toNat : Int) < 256 := by
  have := b.toNat_lt
  omega
theorem toList_ne (s : ByteArray) : (s.toList != ([] : List UInt8)) = !s.data.toList.isEmpty := by
  rw [ByteArray.toList_eq]
  cases s.data.toList <;> rfl

def digN (n : Nat) : Bool := decide (48 ≤ n) && decide (n ≤ 57)
def alnumN (n : Nat) : Bool := (decide (97 ≤ n) && decide (n ≤ 122)) || (decide (65 ≤ n) && decide (n ≤ 90)) || digN n
def plainN (n : Nat) : Bool := alnumN n || decide (n = 45) || decide (n = 95) || decide (n = 46)
def identN (n : Nat) : Bool := alnumN n || decide (n = 45)
def isDig (b : UInt8) : Bool := digN b.toNat
def isPlain (b : UInt8) : Bool := plainN b.toNat
def isIdent (b : UInt8) : Bool := identN b.toNat
def partFin (l : List UInt8) : Bool := !decide (l = []) && (!decide (l = [46]) && !decide (l = [46, 46]))
def partOk (l : List UInt8) : Bool := l.all isPlain && partFin l
def digitsOk (l : List UInt8) : Bool := l.all isDig && !l.isEmpty
def wordOk (l : List UInt8) : Bool := l.all isIdent && !l.isEmpty
def tightOk (l : List UInt8) : Bool := decide (l.length < 2) || !(l.head? == some 48) || !digitsOk l

/-- Splitting: the reference's loop. -/
theorem ref_split_from (c : UInt8) (s : ByteArray) (hs : s.size ≤ 4294967295) : ∀ (d n fr k : Nat) (acc : List ByteArray), s.size + 1 - n = d → n ≤ s.size + 1 → fr ≤ n → (n ≤ s.size ∨ fr = n) → (n ≤ s.size → c ∉ (s.extract fr n).data.toList) → acc.length + d ≤ 4294967296 → d < k →
    armadaref05_Split.l0 k s (c.toNat : Int) acc (fr : Int) (n : Int) = some (if n ≤ s.size then acc ++ splitBy c (s.extract fr s.size) else acc) := by
  intro d
  induction d with
  | zero =>
    intro n fr k acc hd hn hf _ _ _ hk
    obtain ⟨k, rfl⟩ : ∃ m, k = m + 1 := ⟨k - 1, by omega⟩
    simp only [armadaref05_Split.l0]
    rw [if_neg (by omega), if_neg (by omega)]
  | succ d ih =>
    intro n fr k acc hd hn hf hor hc hacc hk
    obtain ⟨k, rfl⟩ : ∃ m, k = m + 1 := ⟨k - 1, by omega⟩
    have hns : n ≤ s.size := by omega
    simp only [armadaref05_Split.l0]
    rw [if_pos (by omega), if_pos hns]
    have hw := wrap_succ (n := n) (by omega)
    have hcn := hc hns
    by_cases he : n = s.size
    · rw [if_pos (by omega), if_pos (by omega), if_pos (by omega), if_pos (by omega), hw]
      rw [ih (n + 1) (n + 1) k _ (by omega) (by omega) (by omega) (.inr rfl) (fun h => by omega) (by rw [List.length_append]; simp; omega) (by omega)]
      rw [if_neg (by omega)]
      congr 2
      subst he
      have hx : (s.extract fr s.size) = s.extract ((fr : Int)).toNat ((s.size : Int)).toNat := rfl
      unfold splitBy
      rw [splitC_none hcn]
      rfl
    · have hlt : n < s.size := by omega
      obtain ⟨b, hb, hd2⟩ := scan hlt
      rw [if_neg (by omega), if_pos (by omega), if_pos (by omega), hb]
      have hext : (s.extract fr s.size).data.toList = (s.extract fr n).data.toList ++ b :: s.data.toList.drop (n + 1) := by
        rw [Lib.extract_data, Lib.extract_data, ← hd2]
        have e1 : List.take (s.size - fr) (List.drop fr s.data.toList) = List.drop fr s.data.toList := List.take_of_length_le (by rw [List.length_drop, ← Lib.size_eq]; omega)
        rw [e1]
        have e2 : s.data.toList.drop n = (s.data.toList.drop fr).drop (n - fr) := by rw [List.drop_drop]; congr 1; omega
        rw [e2, List.take_append_drop]
      by_cases hbc : b = c
      · subst hbc
        rw [if_pos rfl, if_pos (by omega), if_pos (by omega), if_pos (by omega), hw]
        rw [ih (n + 1) (n + 1) k _ (by omega) (by omega) (by omega) (.inr rfl) (fun h => by rw [Lib.extract_data]; simp) (by rw [List.length_append]; simp; omega) (by omega)]
        rw [if_pos (by omega)]
        congr 1
        rw [List.append_assoc]
        congr 1
        unfold splitBy
        rw [hext, splitC_at _ hcn, List.map_cons]
        have e3 : ba (s.extract fr n).data.toList = s.extract ((fr : Int)).toNat ((n : Int)).toNat := rfl
        rw [e3]
        have e4 : (s.extract (n + 1) s.size).data.toList = s.data.toList.drop (n + 1) := Lib.extract_to_end s (n + 1)
        rw [e4]
        rfl
      · have hne : ¬ ((b.toNat : Int) = (c.toNat : Int)) := fun e => hbc (UInt8.toNat_inj.1 (by omega))
        rw [if_neg hne, hw]
        rw [ih (n + 1) fr k _ (by omega) (by omega) (by omega) (.inl (by omega)) (fun h => by
          have e5 : (s.extract fr (n + 1)).data.toList = (s.extract fr n).data.toList ++ [b] := by
            rw [Lib.extract_data, Lib.extract_data]
            have e6 : n + 1 - fr = (n - fr) + 1 := by omega
            rw [e6]
            have e7 : (s.data.toList.drop fr)[n - fr]? = some b := by
              rw [List.getElem?_drop]
              have : s.data.toList[fr + (n - fr)]? = (s.data.toList.drop n)[0]? := by rw [List.getElem?_drop]; congr 1; omega
              rw [this, hd2]; rfl
            rw [List.take_add_one, e7]; rfl
          rw [e5]
          intro hm
          rcases List.mem_append.1 hm with hm | hm
          · exact hcn hm
          · exact hbc (List.mem_singleton.1 hm).symm) (by omega) (by omega)]
        rw [if_pos (by omega)]
theorem ref_split (c : UInt8) (s : ByteArray) (hs : s.size ≤ 4294967290) (k : Nat) (hk : s.size + 1 < k) : armadaref05_Split.f k s (c.toNat : Int) = some (splitBy c s) := by
  unfold armadaref05_Split.f
  have h := ref_split_from c s (by omega) (s.size + 1) 0 0 k [] (by omega) (by omega) (by omega) (.inr rfl) (fun _ => by rw [Lib.extract_data]; simp) (by simp; omega) hk
  rw [if_pos (by omega)] at h
  have e : s.extract 0 s.size = s := by
    apply by_data
    rw [Lib.extract_to_end]; rfl
  rw [e, List.nil_append] at h
  exact h

/-! ### Bytes -/
theorem plain_nat : ∀ n : Nat, n < 256 → files_plain.f (n : Int) = some (plainN n) := by decide +kernel
theorem digit_nat : ∀ n : Nat, n < 256 → ver_digit.f (n : Int) = some (digN n) := by decide +kernel
theorem plain_f (b : UInt8) : files_plain.f (b.toNat : Int) = some (isPlain b) := plain_nat _ b.toNat_lt
theorem digit_f (b : UInt8) : ver_digit.f (b.toNat : Int) = some (isDig b) := digit_nat _ b.toNat_lt

/-! ### Loops over bytes -/
theorem files_part_l0 (s : ByteArray) (hs : s.size ≤ 4294967290) : ∀ (d n k : Nat), s.size - n = d → n ≤ s.size → d < k →
    files_part.l0 k s (s.size : Int) (n : Int) = some ((s.data.toList.drop n).all isPlain && partFin s.data.toList) := by
  intro d
  induction d with
  | zero =>
    intro n k hd hn hk
    obtain ⟨k, rfl⟩ : ∃ m, k = m + 1 := ⟨k - 1, by omega⟩
    simp only [files_part.l0]
    rw [if_neg (by omega), scan_end (by omega), ByteArray.toList_eq]
    by_cases h1 : s.data.toList = []
    · rw [if_pos h1]; simp [h1, partFin]
    · rw [if_neg h1]
      by_cases h2 : s.data.toList = [46]
      · rw [if_pos h2]; simp [h2, partFin]
      · rw [if_neg h2]
        by_cases h3 : s.data.toList = [46, 46] <;> simp [h1, h2, h3, bne, partFin]
  | succ d ih =>
    intro n k hd hn hk
    obtain ⟨k, rfl⟩ : ∃ m, k = m + 1 := ⟨k - 1, by omega⟩
    obtain ⟨b, hb, hd2⟩ := scan (s := s) (n := n) (by omega)
    simp only [files_part.l0]
    rw [if_pos (by omega), if_pos (by omega), if_pos (by omega), hb, plain_f]
    simp only [Option.bind_some]
    rw [wrap_succ (by omega), ih (n + 1) k (by omega) (by omega) (by omega), hd2, List.all_cons]
    cases isPlain b <;> simp
theorem files_part_f (s : ByteArray) (hs : s.size ≤ 4294967290) (k : Nat) (hk : s.size < k) : files_part.f k s = some (partOk s.data.toList) := by
  unfold files_part.f partOk
  rw [show (0 : Int) = ((0 : Nat) : Int) from rfl, files_part_l0 s hs s.size 0 k (by omega) (by omega) hk]
  simp
theorem ref_part_l0 (s : ByteArray) (hs : s.size ≤ 4294967290) : ∀ (d n k : Nat), s.size - n = d → n ≤ s.size → d < k →
    armadaref05_part.l0 k s (n : Int) = some ((s.data.toList.drop n).all isPlain && partFin s.data.toList) := by
  intro d
  induction d with
  | zero =>
    intro n k hd hn hk
    obtain ⟨k, rfl⟩ : ∃ m, k = m + 1 := ⟨k - 1, by omega⟩
    simp only [armadaref05_part.l0]
    rw [if_neg (by omega), scan_end (by omega), ByteArray.toList_eq]
    by_cases h1 : s.data.toList = []
    · rw [if_pos h1]; simp [h1, partFin]
    · rw [if_neg h1]
      by_cases h2 : s.data.toList = [46]
      · rw [if_pos h2]; simp [h2, partFin]
      · rw [if_neg h2]
        by_cases h3 : s.data.toList = [46, 46] <;> simp [h1, h2, h3, bne, partFin]
  | succ d ih =>
    intro n k hd hn hk
    obtain ⟨k, rfl⟩ : ∃ m, k = m + 1 := ⟨k - 1, by omega⟩
    obtain ⟨b, hb, hd2⟩ := scan (s := s) (n := n) (by omega)
    simp only [armadaref05_part.l0]
    rw [if_pos (by omega), if_pos (by omega), hb, wrap_succ (by omega), ih (n + 1) k (by omega) (by omega) (by omega), hd2, List.all_cons, Bool.and_assoc]
    generalize ((s.data.toList.drop (n + 1)).all isPlain && partFin s.data.toList) = X
    have hm := b.toNat_lt
    clear ih hd2 hb hd hk hs hn
    unfold isPlain
    generalize b.toNat = m at hm ⊢
    revert X
    revert m
    decide +kernel
theorem ref_part_f (s : ByteArray) (hs : s.size ≤ 4294967290) (k : Nat) (hk : s.size < k) : armadaref05_part.f k s = some (partOk s.data.toList) := by
  unfold armadaref05_part.f partOk
  rw [show (0 : Int) = ((0 : Nat) : Int) from rfl, ref_part_l0 s hs s.size 0 k (by omega) (by omega) hk]
  simp

theorem word_l0 (s : ByteArray) (hs : s.size ≤ 4294967290) : ∀ (d n k : Nat), s.size - n = d → n ≤ s.size → d < k →
    ver_word.l0 k s (s.size : Int) (n : Int) = some ((s.data.toList.drop n).all isIdent && !s.data.toList.isEmpty) := by
  intro d
  induction d with
  | zero =>
    intro n k hd hn hk
    obtain ⟨k, rfl⟩ : ∃ m, k = m + 1 := ⟨k - 1, by omega⟩
    simp only [ver_word.l0]
    rw [if_neg (by omega), scan_end (by omega), toList_ne]
    rfl
  | succ d ih =>
    intro n k hd hn hk
    obtain ⟨k, rfl⟩ : ∃ m, k = m + 1 := ⟨k - 1, by omega⟩
    obtain ⟨b, hb, hd2⟩ := scan (s := s) (n := n) (by omega)
    simp only [ver_word.l0]
    rw [if_pos (by omega), if_pos (by omega), if_pos (by omega), hb, digit_f, wrap_succ (by omega), ih (n + 1) k (by omega) (by omega) (by omega), hd2, List.all_cons, Bool.and_assoc]
    simp only [Option.bind_some]
    generalize ((s.data.toList.drop (n + 1)).all isIdent && !s.data.toList.isEmpty) = X
    have hm := b.toNat_lt
    clear ih hd2 hb hd hk hs hn
    unfold isIdent isDig
    generalize b.toNat = m at hm ⊢
    revert X
    revert m
    decide +kernel
theorem word_f (s : ByteArray) (hs : s.size ≤ 4294967290) (k : Nat) (hk : s.size < k) : ver_word.f k s = some (wordOk s.data.toList) := by
  unfold ver_word.f wordOk
  rw [show (0 : Int) = ((0 : Nat) : Int) from rfl, word_l0 s hs s.size 0 k (by omega) (by omega) hk]
  simp
theorem digits_l0 (s : ByteArray) (hs : s.size ≤ 4294967290) : ∀ (d n k : Nat), s.size - n = d → n ≤ s.size → d < k →
    ver_digits.l0 k s (s.size : Int) (n : Int) = some ((s.data.toList.drop n).all isDig && !s.data.toList.isEmpty) := by
  intro d
  induction d with
  | zero =>
    intro n k hd hn hk
    obtain ⟨k, rfl⟩ : ∃ m, k = m + 1 := ⟨k - 1, by omega⟩
    simp only [ver_digits.l0]
    rw [if_neg (by omega), scan_end (by omega), toList_ne]
    rfl
  | succ d ih =>
    intro n k hd hn hk
    obtain ⟨k, rfl⟩ : ∃ m, k = m + 1 := ⟨k - 1, by omega⟩
    obtain ⟨b, hb, hd2⟩ := scan (s := s) (n := n) (by omega)
    simp only [ver_digits.l0]
    rw [if_pos (by omega), if_pos (by omega), if_pos (by omega), hb, digit_f, wrap_succ (by omega), ih (n + 1) k (by omega) (by omega) (by omega), hd2, List.all_cons, Bool.and_assoc]
    simp only [Option.bind_some]
    cases isDig b <;> simp
theorem digits_f (s : ByteArray) (hs : s.size ≤ 4294967290) (k : Nat) (hk : s.size < k) : ver_digits.f k s = some (digitsOk s.data.toList) := by
  unfold ver_digits.f digitsOk
  rw [show (0 : Int) = ((0 : Nat) : Int) from rfl, digits_l0 s hs s.size 0 k (by omega) (by omega) hk]
  simp
theorem tight_f (s : ByteArray) (hs : s.size ≤ 4294967290) (k : Nat) (hk : s.size < k) : ver_tight.f k s = some (tightOk s.data.toList) := by
  unfold ver_tight.f tightOk
  have hsz : s.size = s.data.toList.length := Lib.size_eq s
  by_cases h1 : (s.size : Int) < 2
  · rw [if_pos h1]
    have : decide (s.data.toList.length < 2) = true := decide_eq_true (by omega)
    rw [this]; rfl
  · rw [if_neg h1, if_pos (by omega)]
    obtain ⟨b, hb, hd2⟩ := scan (s := s) (n := 0) (by omega)
    rw [List.drop_zero] at hd2
    have hb' : bt s 0 = (b.toNat : Int) := hb
    have : decide (s.data.toList.length < 2) = false := decide_eq_false (by omega)
    rw [this, hb', digits_f s hs k hk]
    have e : (s.data.toList.head? == some 48) = decide ((b.toNat : Int) = 48) := by
      rw [hd2]
      by_cases h : b = 48
      · subst h; rfl
      · have : ¬ ((b.toNat : Int) = 48) := fun e => h (UInt8.toNat_inj.1 (by show b.toNat = 48; omega))
        rw [decide_eq_false this]
        simp [h]
    rw [e]
    by_cases h : (b.toNat : Int) = 48
    · rw [if_pos h, decide_eq_true h]; simp
    · rw [if_neg h, decide_eq_false h]; simp
end Go.Proofs.YtpkhemnngjmcjaaDoor
