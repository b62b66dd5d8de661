/- Plain laws of the printed functions of layers 5, 7, 8 and their references: what each loop comes to. -/
import Derived.Test.YtnfiigjignpkaaaGreatDoorR1x
import Derived.Test.YtnfiigjignpkaaaGreatDoorStr
import Derived.Test.YtnfiigjignpkaaaGreatDoorFil
import Derived.Test.YtnfiigjignpkaaaGreatDoorMaj
import Derived.Test.YtnfiigjignpkaaaGreatDoorR2x
namespace Go.Proofs.YtnfiigjignpkaaaGreatDoor
open Go Go.RowKit Go.Proofs.YtnfiigjignpkaaaGreatDoorW.PrintWords Go.Proofs.YtnfiigjignpkaaaGreatDoor.K0 Go.Proofs.YtnfiigjignpkaaaGreatDoor.R1
set_option linter.unusedVariables false
set_option linter.unusedSimpArgs false

theorem scan {s : ByteArray} {n : Nat} (h : n < s.size) : ∃ b : UInt8, bt s (n : Int) = (b.toNat : Int) ∧ s.data.toList.drop n = b :: s.data.toList.drop (n + 1) := by
  have hl : n < s.data.toList.length := by rw [← Lib.size_eq]; exact h
  refine ⟨s.data.toList[n], ?_, List.drop_eq_getElem_cons hl⟩
  have h2 : ((n : Int)).toNat < s.size := h
  rw [bt, dif_pos h2]
  rfl
theorem scan_end {s : ByteArray} {n : Nat} (h : s.size ≤ n) : s.data.toList.drop n = [] := by
  apply List.drop_eq_nil_of_le
  rw [← Lib.size_eq]; exact h
theorem wrap_succ {n : Nat} (h : n ≤ 4294967296) : wrap64 ((n : Int) + 1) = ((n + 1 : Nat) : Int) := by
  unfold wrap64; omega
theorem wrap_id {z : Int} (h0 : -9223372036854775808 ≤ z) (h1 : z ≤ 9223372036854775807) : wrap64 z = z := by
  unfold wrap64; omega
theorem byte_lt (b : UInt8) : (b.toNat : Int) < 256 := by
  have := b.toNat_lt
  omega
theorem toList_ne (s : ByteArray) : (s.toList != ([] : List UInt8)) = !s.data.toList.isEmpty := by
  rw [ByteArray.toList_eq]
  cases s.data.toList <;> rfl

def digN (n : Nat) : Bool := decide (48 ≤ n) && decide (n ≤ 57)
def alnumN (n : Nat) : Bool := (decide (97 ≤ n) && decide (n ≤ 122)) || (decide (65 ≤ n) && decide (n ≤ 90)) || digN n
def plainN (n : Nat) : Bool := alnumN n || decide (n = 45) || decide (n = 95) || decide (n = 46)
def identN (n : Nat) : Bool := alnumN n || decide (n = 45)
def isDig (b : UInt8) : Bool := digN b.toNat
def isPlain (b : UInt8) : Bool := plainN b.toNat
def isIdent (b : UInt8) : Bool := identN b.toNat
def partFin (l : List UInt8) : Bool := !decide (l = []) && (!decide (l = [46]) && !decide (l = [46, 46]))
def partOk (l : List UInt8) : Bool := l.all isPlain && partFin l
def digitsOk (l : List UInt8) : Bool := l.all isDig && !l.isEmpty
def wordOk (l : List UInt8) : Bool := l.all isIdent && !l.isEmpty
def tightOk (l : List UInt8) : Bool := decide (l.length < 2) || !(l.head? == some 48) || !digitsOk l

/-- Splitting: the reference's loop. -/
theorem ref_split_from (c : UInt8) (s : ByteArray) (hs : s.size ≤ 4294967295) : ∀ (d n fr k : Nat) (acc : List ByteArray), s.size + 1 - n = d → n ≤ s.size + 1 → fr ≤ n → (n ≤ s.size ∨ fr = n) → (n ≤ s.size → c ∉ (s.extract fr n).data.toList) → acc.length + d ≤ 4294967296 → d < k →
    armadaref05_Split.l0 k s (c.toNat : Int) acc (fr : Int) (n : Int) = some (if n ≤ s.size then acc ++ splitBy c (s.extract fr s.size) else acc) := by
  intro d
  induction d with
  | zero =>
    intro n fr k acc hd hn hf _ _ _ hk
    obtain ⟨k, rfl⟩ : ∃ m, k = m + 1 := ⟨k - 1, by omega⟩
    simp only [armadaref05_Split.l0]
    rw [if_neg (by omega), if_neg (by omega)]
  | succ d ih =>
    intro n fr k acc hd hn hf hor hc hacc hk
    obtain ⟨k, rfl⟩ : ∃ m, k = m + 1 := ⟨k - 1, by omega⟩
    have hns : n ≤ s.size := by omega
    simp only [armadaref05_Split.l0]
    rw [if_pos (by omega), if_pos hns]
    have hw := wrap_succ (n := n) (by omega)
    have hcn := hc hns
    by_cases he : n = s.size
    · rw [if_pos (by omega), if_pos (by omega), if_pos (by omega), if_pos (by omega), hw]
      rw [ih (n + 1) (n + 1) k _ (by omega) (by omega) (by omega) (.inr rfl) (fun h => by omega) (by rw [List.length_append]; simp; omega) (by omega)]
      rw [if_neg (by omega)]
      congr 2
      subst he
      have hx : (s.extract fr s.size) = s.extract ((fr : Int)).toNat ((s.size : Int)).toNat := rfl
      unfold splitBy
      rw [splitC_none hcn]
      rfl
    · have hlt : n < s.size := by omega
      obtain ⟨b, hb, hd2⟩ := scan hlt
      rw [if_neg (by omega), if_pos (by omega), if_pos (by omega), hb]
      have hext : (s.extract fr s.size).data.toList = (s.extract fr n).data.toList ++ b :: s.data.toList.drop (n + 1) := by
        rw [Lib.extract_data, Lib.extract_data, ← hd2]
        have e1 : List.take (s.size - fr) (List.drop fr s.data.toList) = List.drop fr s.data.toList := List.take_of_length_le (by rw [List.length_drop, ← Lib.size_eq]; omega)
        rw [e1]
        have e2 : s.data.toList.drop n = (s.data.toList.drop fr).drop (n - fr) := by rw [List.drop_drop]; congr 1; omega
        rw [e2, List.take_append_drop]
      by_cases hbc : b = c
      · subst hbc
        rw [if_pos rfl, if_pos (by omega), if_pos (by omega), if_pos (by omega), hw]
        rw [ih (n + 1) (n + 1) k _ (by omega) (by omega) (by omega) (.inr rfl) (fun h => by rw [Lib.extract_data]; simp) (by rw [List.length_append]; simp; omega) (by omega)]
        rw [if_pos (by omega)]
        congr 1
        rw [List.append_assoc]
        congr 1
        unfold splitBy
        rw [hext, splitC_at _ hcn, List.map_cons]
        have e3 : ba (s.extract fr n).data.toList = s.extract ((fr : Int)).toNat ((n : Int)).toNat := rfl
        rw [e3]
        have e4 : (s.extract (n + 1) s.size).data.toList = s.data.toList.drop (n + 1) := Lib.extract_to_end s (n + 1)
        rw [e4]
        rfl
      · have hne : ¬ ((b.toNat : Int) = (c.toNat : Int)) := fun e => hbc (UInt8.toNat_inj.1 (by omega))
        rw [if_neg hne, hw]
        rw [ih (n + 1) fr k _ (by omega) (by omega) (by omega) (.inl (by omega)) (fun h => by
          have e5 : (s.extract fr (n + 1)).data.toList = (s.extract fr n).data.toList ++ [b] := by
            rw [Lib.extract_data, Lib.extract_data]
            have e6 : n + 1 - fr = (n - fr) + 1 := by omega
            rw [e6]
            have e7 : (s.data.toList.drop fr)[n - fr]? = some b := by
              rw [List.getElem?_drop]
              have : s.data.toList[fr + (n - fr)]? = (s.data.toList.drop n)[0]? := by rw [List.getElem?_drop]; congr 1; omega
              rw [this, hd2]; rfl
            rw [List.take_add_one, e7]; rfl
          rw [e5]
          intro hm
          rcases List.mem_append.1 hm with hm | hm
          · exact hcn hm
          · exact hbc (List.mem_singleton.1 hm).symm) (by omega) (by omega)]
        rw [if_pos (by omega)]
theorem ref_split (c : UInt8) (s : ByteArray) (hs : s.size ≤ 4294967290) (k : Nat) (hk : s.size + 1 < k) : armadaref05_Split.f k s (c.toNat : Int) = some (splitBy c s) := by
  unfold armadaref05_Split.f
  have h := ref_split_from c s (by omega) (s.size + 1) 0 0 k [] (by omega) (by omega) (by omega) (.inr rfl) (fun _ => by rw [Lib.extract_data]; simp) (by simp; omega) hk
  rw [if_pos (by omega)] at h
  have e : s.extract 0 s.size = s := by
    apply by_data
    rw [Lib.extract_to_end]; rfl
  rw [e, List.nil_append] at h
  exact h

/-! ### Bytes -/
theorem plain_nat : ∀ n : Nat, n < 256 → files_plain.f (n : Int) = some (plainN n) := by decide +kernel
theorem plain_f (b : UInt8) : files_plain.f (b.toNat : Int) = some (isPlain b) := plain_nat _ b.toNat_lt
theorem files_part_l0 (s : ByteArray) (hs : s.size ≤ 4294967290) : ∀ (d n k : Nat), s.size - n = d → n ≤ s.size → d < k →
    files_part.l0 k s (s.size : Int) (n : Int) = some ((s.data.toList.drop n).all isPlain && partFin s.data.toList) := by
  intro d
  induction d with
  | zero =>
    intro n k hd hn hk
    obtain ⟨k, rfl⟩ : ∃ m, k = m + 1 := ⟨k - 1, by omega⟩
    simp only [files_part.l0]
    rw [if_neg (by omega), scan_end (by omega), ByteArray.toList_eq]
    by_cases h1 : s.data.toList = []
    · rw [if_pos h1]; simp [h1, partFin]
    · rw [if_neg h1]
      by_cases h2 : s.data.toList = [46]
      · rw [if_pos h2]; simp [h2, partFin]
      · rw [if_neg h2]
        by_cases h3 : s.data.toList = [46, 46] <;> simp [h1, h2, h3, bne, partFin]
  | succ d ih =>
    intro n k hd hn hk
    obtain ⟨k, rfl⟩ : ∃ m, k = m + 1 := ⟨k - 1, by omega⟩
    obtain ⟨b, hb, hd2⟩ := scan (s := s) (n := n) (by omega)
    simp only [files_part.l0]
    rw [if_pos (by omega), if_pos (by omega), if_pos (by omega), hb, plain_f]
    simp only [Option.bind_some]
    rw [wrap_succ (by omega), ih (n + 1) k (by omega) (by omega) (by omega), hd2, List.all_cons]
    cases isPlain b <;> simp
theorem files_part_f (s : ByteArray) (hs : s.size ≤ 4294967290) (k : Nat) (hk : s.size < k) : files_part.f k s = some (partOk s.data.toList) := by
  unfold files_part.f partOk
  rw [show (0 : Int) = ((0 : Nat) : Int) from rfl, files_part_l0 s hs s.size 0 k (by omega) (by omega) hk]
  simp
theorem ref_part_l0 (s : ByteArray) (hs : s.size ≤ 4294967290) : ∀ (d n k : Nat), s.size - n = d → n ≤ s.size → d < k →
    armadaref05_part.l0 k s (n : Int) = some ((s.data.toList.drop n).all isPlain && partFin s.data.toList) := by
  intro d
  induction d with
  | zero =>
    intro n k hd hn hk
    obtain ⟨k, rfl⟩ : ∃ m, k = m + 1 := ⟨k - 1, by omega⟩
    simp only [armadaref05_part.l0]
    rw [if_neg (by omega), scan_end (by omega), ByteArray.toList_eq]
    by_cases h1 : s.data.toList = []
    · rw [if_pos h1]; simp [h1, partFin]
    · rw [if_neg h1]
      by_cases h2 : s.data.toList = [46]
      · rw [if_pos h2]; simp [h2, partFin]
      · rw [if_neg h2]
        by_cases h3 : s.data.toList = [46, 46] <;> simp [h1, h2, h3, bne, partFin]
  | succ d ih =>
    intro n k hd hn hk
    obtain ⟨k, rfl⟩ : ∃ m, k = m + 1 := ⟨k - 1, by omega⟩
    obtain ⟨b, hb, hd2⟩ := scan (s := s) (n := n) (by omega)
    simp only [armadaref05_part.l0]
    rw [if_pos (by omega), if_pos (by omega), hb, wrap_succ (by omega), ih (n + 1) k (by omega) (by omega) (by omega), hd2, List.all_cons, Bool.and_assoc]
    generalize ((s.data.toList.drop (n + 1)).all isPlain && partFin s.data.toList) = X
    have hm := b.toNat_lt
    clear ih hd2 hb hd hk hs hn
    unfold isPlain
    generalize b.toNat = m at hm ⊢
    revert X
    revert m
    decide +kernel
theorem ref_part_f (s : ByteArray) (hs : s.size ≤ 4294967290) (k : Nat) (hk : s.size < k) : armadaref05_part.f k s = some (partOk s.data.toList) := by
  unfold armadaref05_part.f partOk
  rw [show (0 : Int) = ((0 : Nat) : Int) from rfl, ref_part_l0 s hs s.size 0 k (by omega) (by omega) hk]
  simp

end Go.Proofs.YtnfiigjignpkaaaGreatDoor

/- Plain laws, the second part: paths, versions. -/
namespace Go.Proofs.YtnfiigjignpkaaaGreatDoor
open Go Go.RowKit Go.Proofs.YtnfiigjignpkaaaGreatDoorW.PrintWords Go.Proofs.YtnfiigjignpkaaaGreatDoor.K0 Go.Proofs.YtnfiigjignpkaaaGreatDoor.R1
set_option linter.unusedVariables false
set_option linter.unusedSimpArgs false

theorem rd_at {l : List ByteArray} {n : Nat} (h : n < l.length) : ∃ x, rdOf ByteArray.empty l (n : Int) = x ∧ l.drop n = x :: l.drop (n + 1) ∧ l[n]? = some x := by
  refine ⟨l[n], ?_, List.drop_eq_getElem_cons h, List.getElem?_eq_getElem h⟩
  unfold rdOf
  show l.getD n _ = _
  rw [List.getD_eq_getElem?_getD, List.getElem?_eq_getElem h]; rfl
theorem allM_all {f : ByteArray → Option Bool} {p : ByteArray → Bool} : ∀ {l : List ByteArray}, (∀ x ∈ l, f x = some (p x)) → allM f l = some (l.all p)
  | [], _ => rfl
  | x :: xs, h => by
    unfold allM
    rw [h x List.mem_cons_self]
    simp only [Option.bind_some, List.all_cons]
    have ih := allM_all (fun y hy => h y (List.mem_cons_of_mem x hy))
    cases p x <;> simp [ih]
theorem split_size {c : UInt8} {s x : ByteArray} (h : x ∈ splitBy c s) : x.size ≤ s.size := by
  unfold splitBy at h
  obtain ⟨l, hl, rfl⟩ := List.mem_map.1 h
  rw [ba_size, Lib.size_eq]
  exact (splitC_parts hl).2
theorem all_split (c : UInt8) (s : ByteArray) (p : List UInt8 → Bool) : ((splitBy c s).all fun x => p x.data.toList) = (splitC c s.data.toList).all p := by
  unfold splitBy
  rw [List.all_map]
  rfl
def pathOk (s : ByteArray) : Bool := decide (s.size ≤ 60) && (splitC 47 s.data.toList).all partOk
theorem files_Path_f (s : ByteArray) (k : Nat) (hk : 60 < k) : files_Path.f k s = some (pathOk s) := by
  unfold files_Path.f pathOk
  by_cases h : (s.size : Int) > 60
  · rw [if_pos h, decide_eq_false (by omega)]; rfl
  · rw [if_neg h, decide_eq_true (by omega), ← all_split]
    exact allM_all fun x hx => files_part_f x (by have := split_size hx; omega) k (by have := split_size hx; omega)
theorem ref_Path_l0 (l : List ByteArray) (hl : l.length ≤ 4294967290) (B : Nat) (hB : B ≤ 4294967290) (hx : ∀ x ∈ l, x.size ≤ B) : ∀ (d n k : Nat), l.length - n = d → n ≤ l.length → d + B < k →
    armadaref05_Path.l0 k l (n : Int) = some ((l.drop n).all fun x => partOk x.data.toList) := by
  intro d
  induction d with
  | zero =>
    intro n k hd hn hk
    obtain ⟨k, rfl⟩ : ∃ m, k = m + 1 := ⟨k - 1, by omega⟩
    simp only [armadaref05_Path.l0]
    rw [if_neg (by omega), List.drop_eq_nil_of_le (by omega)]; rfl
  | succ d ih =>
    intro n k hd hn hk
    obtain ⟨k, rfl⟩ : ∃ m, k = m + 1 := ⟨k - 1, by omega⟩
    obtain ⟨x, h1, h2, h3⟩ := rd_at (l := l) (n := n) (by omega)
    have hm : x ∈ l := List.mem_of_getElem? h3
    have := hx x hm
    simp only [armadaref05_Path.l0]
    rw [if_pos (by omega), if_pos (by omega), h1, ref_part_f x (by omega) k (by omega), wrap_succ (by omega), ih (n + 1) k (by omega) (by omega) (by omega), h2, List.all_cons]
    simp only [Option.bind_some]
    cases partOk x.data.toList <;> simp
theorem split_len (c : UInt8) (s : ByteArray) : (splitBy c s).length ≤ s.size + 1 := by
  unfold splitBy
  rw [List.length_map, splitC_length, Lib.size_eq]
  have := List.count_le_length (a := c) (l := s.data.toList)
  omega
theorem ref_Path_f (s : ByteArray) (k : Nat) (hk : 200 < k) : armadaref05_Path.f k s = some (pathOk s) := by
  unfold armadaref05_Path.f pathOk
  by_cases h : (s.size : Int) > 60
  · rw [if_pos h, decide_eq_false (by omega)]; rfl
  · rw [if_neg h, decide_eq_true (by omega), ← all_split, show (47 : Int) = ((47 : UInt8).toNat : Int) from rfl, ref_split 47 s (by omega) k (by omega)]
    simp only [Option.bind_some, Bool.true_and]
    have hl := split_len 47 s
    rw [show (0 : Int) = ((0 : Nat) : Int) from rfl, ref_Path_l0 (splitBy 47 s) (by omega) 60 (by omega) (fun x hx => by have := split_size hx; omega) _ 0 k rfl (by omega) (by omega)]
    rfl

/-! ### Versions -/
end Go.Proofs.YtnfiigjignpkaaaGreatDoor

/- Numbers as digits: what mpath.major and the references tell (no program in sight). -/
namespace Go.Proofs.YtnfiigjignpkaaaGreatDoor
open Go Go.RowKit Go.Proofs.YtnfiigjignpkaaaGreatDoorW.PrintWords
set_option linter.unusedVariables false
set_option linter.unusedSimpArgs false

def valFrom : Nat → List UInt8 → Nat
  | acc, [] => acc
  | acc, b :: t => valFrom (acc * 10 + (b.toNat - 48)) t
def val (l : List UInt8) : Nat := valFrom 0 l
theorem valFrom_append : ∀ (l m : List UInt8) (acc : Nat), valFrom acc (l ++ m) = valFrom (valFrom acc l) m
  | [], _, _ => rfl
  | _ :: t, m, acc => valFrom_append t m _
theorem valFrom_ge : ∀ (l : List UInt8) (acc : Nat), acc * 10 ^ l.length ≤ valFrom acc l
  | [], acc => by show acc * 1 ≤ acc; omega
  | b :: t, acc => by
    have h := valFrom_ge t (acc * 10 + (b.toNat - 48))
    unfold valFrom
    refine Nat.le_trans ?_ h
    rw [List.length_cons, Nat.pow_succ, Nat.mul_comm (10 ^ t.length) 10, ← Nat.mul_assoc]
    generalize 10 ^ t.length = P
    have h3 : acc * 10 ≤ acc * 10 + (b.toNat - 48) := by omega
    exact Nat.mul_le_mul_right P h3
theorem valFrom_lt : ∀ (l : List UInt8) (acc : Nat), l.all isDig = true → valFrom acc l < (acc + 1) * 10 ^ l.length
  | [], acc, _ => by show acc < (acc + 1) * 1; omega
  | b :: t, acc, h => by
    rw [List.all_cons, Bool.and_eq_true] at h
    have h1 := valFrom_lt t (acc * 10 + (b.toNat - 48)) h.2
    have hb : b.toNat ≤ 57 := by
      have := h.1; unfold isDig digN at this; simp at this; omega
    unfold valFrom
    refine Nat.lt_of_lt_of_le h1 ?_
    rw [List.length_cons, Nat.pow_succ, Nat.mul_comm (10 ^ t.length) 10, ← Nat.mul_assoc]
    generalize 10 ^ t.length = P
    have h3 : acc * 10 + (b.toNat - 48) + 1 ≤ (acc + 1) * 10 := by omega
    exact Nat.mul_le_mul_right P h3
theorem val_snoc (d : List UInt8) (b : UInt8) : val (d ++ [b]) = val d * 10 + (b.toNat - 48) := by
  unfold val
  rw [valFrom_append]; rfl
theorem val_lt (d : List UInt8) (h : d.all isDig = true) : val d < 10 ^ d.length := by
  have := valFrom_lt d 0 h
  simpa [val] using this
theorem val_ge {b : UInt8} {t : List UInt8} (h : (b :: t).all isDig = true) (h0 : b ≠ 48) : 10 ^ t.length ≤ val (b :: t) := by
  rw [List.all_cons, Bool.and_eq_true] at h
  have hb : 49 ≤ b.toNat := by
    have h1 := h.1
    unfold isDig digN at h1
    simp at h1
    have : b.toNat ≠ 48 := fun e => h0 (UInt8.toNat_inj.1 e)
    omega
  have h2 := valFrom_ge t (0 * 10 + (b.toNat - 48))
  unfold val valFrom
  refine Nat.le_trans ?_ h2
  have : 1 ≤ 0 * 10 + (b.toNat - 48) := by omega
  calc 10 ^ t.length = 1 * 10 ^ t.length := by rw [Nat.one_mul]
    _ ≤ _ := Nat.mul_le_mul_right _ this
theorem dec_unfold (u : Nat) : Lib.decDigits u = if u < 10 then [UInt8.ofNat (48 + u)] else Lib.decDigits (u / 10) ++ [UInt8.ofNat (48 + u % 10)] := by
  rw [Lib.decDigits]
  split <;> rfl
theorem dig_back {b : UInt8} (h : isDig b = true) : UInt8.ofNat (48 + (b.toNat - 48)) = b := by
  unfold isDig digN at h
  simp at h
  rw [show 48 + (b.toNat - 48) = b.toNat by omega]
  exact UInt8.ofNat_toNat
theorem dec_val : ∀ (n : Nat) (d : List UInt8), d.length = n → d ≠ [] → d.all isDig = true → d.head? ≠ some 48 → Lib.decDigits (val d) = d := by
  intro n
  induction n with
  | zero => intro d h hn; exact absurd (List.eq_nil_of_length_eq_zero h) hn
  | succ n ih =>
    intro d hl hne hall hh
    obtain ⟨d', b, rfl⟩ : ∃ d' b, d = d' ++ [b] := ⟨d.dropLast, d.getLast hne, (List.dropLast_concat_getLast hne).symm⟩
    rw [List.all_append, Bool.and_eq_true] at hall
    have hb : isDig b = true := by simpa using hall.2
    have hb9 : b.toNat - 48 < 10 := by
      have h1 := hb; unfold isDig digN at h1; simp at h1; omega
    rw [val_snoc, dec_unfold]
    cases d' with
    | nil =>
      rw [show val [] * 10 + (b.toNat - 48) = b.toNat - 48 by show 0 * 10 + _ = _; omega, if_pos hb9, dig_back hb]; rfl
    | cons c t =>
      have hc : c ≠ 48 := fun e => hh (by rw [e]; rfl)
      have hv := val_ge hall.1 hc
      have h1 : 1 ≤ val (c :: t) := by
        have : 1 ≤ 10 ^ t.length := Nat.one_le_pow _ _ (by omega)
        generalize 10 ^ t.length = P at *
        omega
      generalize hV : val (c :: t) = V at *
      rw [if_neg (by omega), show (V * 10 + (b.toNat - 48)) / 10 = V by omega, show (V * 10 + (b.toNat - 48)) % 10 = b.toNat - 48 by omega, dig_back hb, ← hV]
      rw [ih (c :: t) (by simp at hl ⊢; omega) (by simp) hall.1 (by simpa using hc)]
theorem dec_head : ∀ (u : Nat), 1 ≤ u → (Lib.decDigits u).head? ≠ some 48 := by
  intro u
  induction u using Nat.strongRecOn with
  | _ u ih =>
    intro h
    rw [dec_unfold]
    split
    · rename_i h10
      intro e
      simp only [List.head?_cons, Option.some.injEq] at e
      have := congrArg UInt8.toNat e
      rw [UInt8.toNat_ofNat'] at this
      have h48 : (48 : UInt8).toNat = 48 := rfl
      rw [h48] at this
      omega
    · rename_i h10
      have hne : Lib.decDigits (u / 10) ≠ [] := by
        rw [dec_unfold]; split <;> simp
      cases hd : Lib.decDigits (u / 10) with
      | nil => exact absurd hd hne
      | cons c t =>
        have := ih (u / 10) (by omega) (by omega)
        rw [hd] at this
        simpa using this
theorem parse_digits : ∀ (l : List UInt8) (acc : Nat), l.all isDig = true → acc < 18446744073709551616 →
    (Lib.parseUint10 acc l = .ok (valFrom acc l) ∧ valFrom acc l < 18446744073709551616) ∨ (Lib.parseUint10 acc l = .range ∧ 18446744073709551616 ≤ valFrom acc l)
  | [], acc, _, h => .inl ⟨rfl, h⟩
  | b :: t, acc, hall, h => by
    rw [List.all_cons, Bool.and_eq_true] at hall
    have hb : 48 ≤ b.toNat ∧ b.toNat ≤ 57 := by
      have h1 := hall.1; unfold isDig digN at h1; simpa using h1
    have hge := valFrom_ge t (acc * 10 + (b.toNat - 48))
    have hp : 1 ≤ 10 ^ t.length := Nat.one_le_pow _ _ (by omega)
    have hge2 : acc * 10 + (b.toNat - 48) ≤ valFrom (acc * 10 + (b.toNat - 48)) t := Nat.le_trans (Nat.le_mul_of_pos_right _ hp) hge
    unfold Lib.parseUint10 valFrom
    rw [if_pos hb]
    by_cases h1 : 1844674407370955162 ≤ acc
    · rw [if_pos h1]; exact .inr ⟨rfl, by omega⟩
    · rw [if_neg h1]
      by_cases h2 : 18446744073709551616 ≤ acc * 10 + (b.toNat - 48)
      · rw [if_pos h2]; exact .inr ⟨rfl, by omega⟩
      · rw [if_neg h2]; exact parse_digits t _ hall.2 (by omega)
theorem atoi_digits (d : List UInt8) (hne : d ≠ []) (hall : d.all isDig = true) :
    (Lib.atoiAll d = .ok (val d : Int) ∧ val d < 9223372036854775808) ∨ (Lib.atoiAll d = .range ∧ 9223372036854775808 ≤ val d) := by
  cases d with
  | nil => exact absurd rfl hne
  | cons c r =>
    have h0 := hall
    rw [List.all_cons, Bool.and_eq_true] at hall
    have hc : 48 ≤ c.toNat ∧ c.toNat ≤ 57 := by
      have h1 := hall.1; unfold isDig digN at h1; simpa using h1
    unfold Lib.atoiAll
    simp only
    rw [if_neg (by omega)]
    unfold Lib.parseMag
    rw [if_neg (by simp)]
    rcases parse_digits (c :: r) 0 h0 (by omega) with ⟨h1, h2⟩ | ⟨h1, h2⟩
    · rw [h1]
      simp only
      have hneg : ¬ (c.toNat = 45) := by omega
      by_cases hb : 9223372036854775808 ≤ valFrom 0 (c :: r)
      · rw [if_pos ⟨hneg, hb⟩]; exact .inr ⟨rfl, hb⟩
      · rw [if_neg (by omega), if_neg (by omega), if_neg hneg]; exact .inl ⟨rfl, by unfold val; omega⟩
    · rw [h1]; exact .inr ⟨rfl, by unfold val; omega⟩
theorem mem_dropWhile {p : UInt8 → Bool} {x : UInt8} (hx : p x = false) : ∀ {l : List UInt8}, x ∈ l → x ∈ l.dropWhile p
  | [], h => by simp at h
  | a :: t, h => by
    rw [List.dropWhile_cons]
    split
    · rename_i hp
      rcases List.mem_cons.1 h with rfl | h
      · rw [hx] at hp; cases hp
      · exact mem_dropWhile hx h
    · exact h
theorem dropWhile_all {p : UInt8 → Bool} : ∀ {l : List UInt8}, (∀ x ∈ l, p x = true) → l.dropWhile p = []
  | [], _ => rfl
  | a :: t, h => by
    rw [List.dropWhile_cons, if_pos (h a List.mem_cons_self)]
    exact dropWhile_all fun x hx => h x (List.mem_cons_of_mem _ hx)
theorem digs_contains (b : UInt8) : digs.contains b = isDig b := by
  unfold isDig
  have : ∀ n : Nat, n < 256 → digs.contains (UInt8.ofNat n) = digN n := by decide +kernel
  have h := this b.toNat b.toNat_lt
  rwa [UInt8.ofNat_toNat] at h
theorem trim_nil (d : List UInt8) : Lib.trimS d digs = [] ↔ d.all isDig = true := by
  unfold Lib.trimS Lib.trimLeftS Lib.trimRightS
  constructor
  · intro h
    rw [List.all_eq_true]
    intro x hx
    cases hd : isDig x with
    | true => rfl
    | false =>
      exfalso
      have hc : (fun b => digs.contains b) x = false := by show digs.contains x = false; rw [digs_contains]; exact hd
      have h1 : x ∈ (d.reverse.dropWhile (fun b => digs.contains b)).reverse := List.mem_reverse.2 (mem_dropWhile hc (List.mem_reverse.2 hx))
      have h2 := mem_dropWhile hc h1
      rw [h] at h2
      simp at h2
  · intro h
    rw [List.all_eq_true] at h
    have e : d.reverse.dropWhile (fun b => digs.contains b) = [] := dropWhile_all fun x hx => by show digs.contains x = true; rw [digs_contains]; exact h x (List.mem_reverse.1 hx)
    rw [e]; rfl

/-- Does a part tell a major? -/
def tellsOk (l : List UInt8) : Bool := decide (1 < l.length) && (l.head? == some 118) && (l.drop 1).all isDig
/-- Its number; 0: it may not be. -/
def numOf (l : List UInt8) : Int := if 10 < l.length then 0 else if (l.drop 1).head? = some 48 then 0 else if val (l.drop 1) < 2 then 0 else (val (l.drop 1) : Int)
theorem majorOf_eq (l : List UInt8) : majorOf l = if tellsOk l = true then (numOf l, true) else (0, false) := by
  unfold majorOf tellsOk
  cases l with
  | nil => rfl
  | cons c d =>
    have hpre : Lib.hasPrefix (c :: d) [118] = (c == 118) := by
      unfold Lib.hasPrefix
      simp [List.isPrefixOf]
      rw [Bool.eq_iff_iff]; simp; exact eq_comm
    rw [hpre]
    by_cases hc : c = 118
    · subst hc
      simp only [beq_self_eq_true, if_true, List.drop_succ_cons, List.drop_zero, List.head?_cons, Bool.and_true, List.length_cons]
      by_cases hd : d = []
      · subst hd; rfl
      · rw [if_neg hd]
        have hlen : decide (1 < d.length + 1) = true := decide_eq_true (by have := List.length_pos_iff.2 hd; omega)
        rw [hlen, Bool.true_and]
        by_cases hall : d.all isDig = true
        · rw [if_pos ((trim_nil d).2 hall), if_pos hall]
          have hpos := List.length_pos_iff.2 hd
          unfold numOf
          simp only [List.length_cons, List.drop_succ_cons, List.drop_zero]
          obtain ⟨b, t, rfl⟩ : ∃ b t, d = b :: t := by cases d with | nil => exact absurd rfl hd | cons b t => exact ⟨b, t, rfl⟩
          have hlt := val_lt (b :: t) hall
          rcases atoi_digits (b :: t) hd hall with ⟨h1, h2⟩ | ⟨h1, h2⟩
          · rw [h1]
            simp only
            by_cases hb : b = 48
            · subst hb
              have e0 : (if 10 < (48 :: t : List UInt8).length + 1 then (0 : Int) else if (48 :: t : List UInt8).head? = some 48 then 0 else if val (48 :: t) < 2 then 0 else (val (48 :: t) : Int)) = 0 := by
                split
                · rfl
                · rw [if_pos (show (48 :: t : List UInt8).head? = some 48 from rfl)]
              rw [e0]
              split
              · rfl
              · split
                · rfl
                · rename_i h3 h4
                  rw [if_neg]
                  intro he
                  have := dec_head (val (48 :: t)) (by omega)
                  unfold Lib.itoa at he
                  rw [if_neg (by omega), Int.toNat_natCast] at he
                  rw [he] at this
                  exact this rfl
            · have hh : (b :: t : List UInt8).head? ≠ some 48 := by simpa using hb
              have hge := val_ge hall hb
              by_cases hlen2 : 10 < (b :: t : List UInt8).length + 1
              · rw [if_pos hlen2]
                have h9 : 9 ≤ t.length := by simp at hlen2; omega
                have : 10 ^ 9 ≤ 10 ^ t.length := Nat.pow_le_pow_right (by omega) h9
                rw [if_neg (by omega), if_pos (by omega)]
              · rw [if_neg hlen2, if_neg hh]
                have h9 : (b :: t : List UInt8).length ≤ 9 := by omega
                have : 10 ^ (b :: t : List UInt8).length ≤ 10 ^ 9 := Nat.pow_le_pow_right (by omega) h9
                by_cases hv : val (b :: t) < 2
                · rw [if_pos (by omega), if_pos hv]
                · rw [if_neg (by omega), if_neg hv, if_neg (by omega), if_pos]
                  unfold Lib.itoa
                  rw [if_neg (by omega), Int.toNat_natCast]
                  exact dec_val _ (b :: t) rfl hd hall hh
          · rw [h1]
            simp only
            by_cases hlen2 : 10 < (b :: t : List UInt8).length + 1
            · rw [if_pos hlen2]
            · exfalso
              have h9 : (b :: t : List UInt8).length ≤ 9 := by omega
              have : 10 ^ (b :: t : List UInt8).length ≤ 10 ^ 9 := Nat.pow_le_pow_right (by omega) h9
              omega
        · rw [if_neg (fun h => hall ((trim_nil d).1 h)), if_neg hall]
    · have : (c == 118) = false := by simpa using hc
      rw [this]
      simp [hc]
end Go.Proofs.YtnfiigjignpkaaaGreatDoor

/- Plain laws, the third part: mpath.Check, Base, Major, Fits, and the document's own answers. -/
namespace Go.Proofs.YtnfiigjignpkaaaGreatDoor
open Go Go.RowKit Go.Proofs.YtnfiigjignpkaaaGreatDoorW.PrintWords Go.Proofs.YtnfiigjignpkaaaGreatDoor.K0 Go.Proofs.YtnfiigjignpkaaaGreatDoor.R1 Go.Proofs.YtnfiigjignpkaaaGreatDoor.R2
set_option linter.unusedVariables false
set_option linter.unusedSimpArgs false

theorem head_bt {s : ByteArray} (h : 0 < s.size) : ∃ b : UInt8, bt s 0 = (b.toNat : Int) ∧ s.data.toList.head? = some b := by
  obtain ⟨b, hb, hd⟩ := scan (s := s) (n := 0) h
  rw [List.drop_zero] at hd
  exact ⟨b, hb, by rw [hd]; rfl⟩
theorem byte_eq (b : UInt8) (n : Nat) (hn : n < 256) : ((b.toNat : Int) == (n : Int)) = (some b == some (UInt8.ofNat n)) := by
  rw [Bool.eq_iff_iff]
  simp
  constructor
  · intro h
    apply UInt8.toNat_inj.1
    rw [UInt8.toNat_ofNat', Nat.mod_eq_of_lt hn]; omega
  · rintro rfl
    rw [UInt8.toNat_ofNat', Nat.mod_eq_of_lt hn]
/-- What P8.1 asks of the parts. -/
def lastOk (l : List ByteArray) : Bool := !tellsOk (l.getLastD ByteArray.empty).data.toList || (!decide (numOf (l.getLastD ByteArray.empty).data.toList = 0) && decide (1 < l.length))
def partsOk (l : List ByteArray) : Bool := (l.dropLast.all fun x => !tellsOk x.data.toList) && lastOk l
def checkOk (s : ByteArray) : Bool := pathOk s && partsOk (splitBy 47 s)
theorem numOf_nonneg (l : List UInt8) : 0 ≤ numOf l := by
  unfold numOf; split <;> first | omega | (split <;> first | omega | (split <;> omega))
theorem major_f (x : ByteArray) (hs : x.size ≤ 281474976710656) : mpath_major.f x = some (if tellsOk x.data.toList = true then (numOf x.data.toList, true) else (0, false)) := by
  unfold mpath_major.f; rw [if_pos hs, majorOf_eq]
theorem mpath_Check_l0 (l : List ByteArray) (y : ByteArray) (hy : y.size ≤ 4294967290) (hl : l.length ≤ 4294967290) (hx : ∀ x ∈ l, x.size ≤ 4294967290) : ∀ (d n k : Nat), l.length - n = d → n ≤ l.length → d < k →
    mpath_Check.l0 k l y l (l.length : Int) (n : Int) = some (((l.drop n).all fun x => !tellsOk x.data.toList) && (!tellsOk y.data.toList || (!decide (numOf y.data.toList = 0) && decide (0 < l.length)))) := by
  intro d
  induction d with
  | zero =>
    intro n k hd hn hk
    obtain ⟨k, rfl⟩ : ∃ m, k = m + 1 := ⟨k - 1, by omega⟩
    simp only [mpath_Check.l0]
    rw [if_neg (by omega), major_f y (by omega), List.drop_eq_nil_of_le (show l.length ≤ n by omega)]
    have h0 := numOf_nonneg y.data.toList
    cases tellsOk y.data.toList
    · simp
    · by_cases hz : numOf y.data.toList = 0
      · simp [hz]
      · simp [hz]; omega
  | succ d ih =>
    intro n k hd hn hk
    obtain ⟨k, rfl⟩ : ∃ m, k = m + 1 := ⟨k - 1, by omega⟩
    obtain ⟨x, h1, h2, h3⟩ := rd_at (l := l) (n := n) (by omega)
    have hm : x ∈ l := List.mem_of_getElem? h3
    have hxs := hx x hm
    simp only [mpath_Check.l0]
    rw [if_pos (by omega), if_pos (by omega), if_pos (by omega), h1, major_f x (by omega), wrap_succ (by omega), ih (n + 1) k (by omega) (by omega) (by omega), h2]
    simp only [Option.bind_some, List.all_cons]
    cases tellsOk x.data.toList <;> simp
theorem parts_eq {l : List ByteArray} (h : 0 < l.length) : partsOk l = ((l.dropLast.all fun x => !tellsOk x.data.toList) && (!tellsOk (l.getLastD ByteArray.empty).data.toList || (!decide (numOf (l.getLastD ByteArray.empty).data.toList = 0) && decide (0 < l.dropLast.length)))) := by
  unfold partsOk lastOk
  rw [List.length_dropLast, show decide (0 < l.length - 1) = decide (1 < l.length) from by congr 1; apply propext; omega]
theorem split_pos (c : UInt8) (s : ByteArray) : 0 < (splitBy c s).length := by
  unfold splitBy; rw [List.length_map]; exact List.length_pos_iff.2 (splitC_ne c _)
theorem last_mem {l : List ByteArray} (h : 0 < l.length) : l.getLastD ByteArray.empty ∈ l := by
  rw [List.getLastD_eq_getLast?, List.getLast?_eq_some_getLast (List.length_pos_iff.1 h)]
  exact List.getLast_mem _
theorem path_size {s : ByteArray} (h : pathOk s = true) : s.size ≤ 60 := by
  unfold pathOk at h; simp at h; exact h.1
theorem mpath_Check_f (s : ByteArray) (k : Nat) (hk : 100 < k) : mpath_Check.f k s = some (checkOk s) := by
  unfold mpath_Check.f checkOk
  rw [files_Path_f s k (by omega)]
  simp only [Option.bind_some]
  by_cases hp : pathOk s = true
  · have hs := path_size hp
    have hl := split_len 47 s
    have hpos := split_pos 47 s
    rw [hp, if_pos rfl]
    unfold mpath_split.f
    rw [if_pos (by omega)]
    simp only [Option.bind_some, Bool.true_and]
    have hd : (splitBy 47 s).dropLast.length ≤ 61 := by rw [List.length_dropLast]; omega
    have hb : ∀ x ∈ splitBy 47 s, x.size ≤ 60 := fun x hx => by have := split_size hx; omega
    rw [show (0 : Int) = ((0 : Nat) : Int) from rfl, mpath_Check_l0 _ _ (by have := hb _ (last_mem hpos); omega) (by omega) (fun x hx => by have := hb x (List.dropLast_subset _ hx); omega) _ 0 k rfl (by omega) (by omega), parts_eq hpos]
    rfl
  · have hp' : pathOk s = false := by simpa using hp
    rw [hp', if_neg (by simp)]; rfl

end Go.Proofs.YtnfiigjignpkaaaGreatDoor

/- Plain laws, the references of layers 7 and 8, and MpathTells. -/
namespace Go.Proofs.YtnfiigjignpkaaaGreatDoor
open Go Go.RowKit Go.Proofs.YtnfiigjignpkaaaGreatDoorW.PrintWords Go.Proofs.YtnfiigjignpkaaaGreatDoor.K0 Go.Proofs.YtnfiigjignpkaaaGreatDoor.R1 Go.Proofs.YtnfiigjignpkaaaGreatDoor.R2
set_option linter.unusedVariables false
set_option linter.unusedSimpArgs false

theorem tells_l0 (s : ByteArray) (hs : s.size ≤ 4294967290) : ∀ (d n k : Nat), s.size - n = d → n ≤ 4294967290 → d < k →
    armadaref08_tells.l0 k s (n : Int) = some ((s.data.toList.drop n).all isDig && (decide (1 < s.size) && (s.data.toList.head? == some 118))) := by
  intro d
  induction d with
  | zero =>
    intro n k hd hn hk
    obtain ⟨k, rfl⟩ : ∃ m, k = m + 1 := ⟨k - 1, by omega⟩
    simp only [armadaref08_tells.l0]
    rw [if_neg (by omega), scan_end (by omega)]
    by_cases h : 1 < s.size
    · obtain ⟨b, hb, hh⟩ := head_bt (s := s) (by omega)
      rw [if_pos (by omega), if_pos (by omega), decide_eq_true h, hb, hh, show (118 : Int) = ((118 : Nat) : Int) from rfl, byte_eq b 118 (by omega)]
      simp
    · rw [if_neg (by omega), decide_eq_false h]; simp
  | succ d ih =>
    intro n k hd hn hk
    obtain ⟨k, rfl⟩ : ∃ m, k = m + 1 := ⟨k - 1, by omega⟩
    obtain ⟨b, hb, hd2⟩ := scan (s := s) (n := n) (by omega)
    simp only [armadaref08_tells.l0]
    rw [if_pos (by omega), if_pos (by omega), hb, wrap_succ (by omega), ih (n + 1) k (by omega) (by omega) (by omega), hd2, List.all_cons, Bool.and_assoc]
    generalize ((s.data.toList.drop (n + 1)).all isDig && (decide (1 < s.size) && (s.data.toList.head? == some 118))) = X
    have hm := b.toNat_lt
    clear ih hd2 hb hd hk hs hn
    unfold isDig
    generalize b.toNat = m at hm ⊢
    revert X
    revert m
    decide +kernel
theorem tells_f (s : ByteArray) (hs : s.size ≤ 4294967290) (k : Nat) (hk : s.size < k) : armadaref08_tells.f k s = some (tellsOk s.data.toList) := by
  unfold armadaref08_tells.f tellsOk
  rw [show (1 : Int) = ((1 : Nat) : Int) from rfl, tells_l0 s hs _ 1 k rfl (by omega) (by omega), ← Lib.size_eq]
  congr 1
  cases (s.data.toList.drop 1).all isDig <;> cases decide (1 < s.size) <;> simp
theorem number_l0 (s : ByteArray) (hs : s.size ≤ 4294967290) : ∀ (d n x k : Nat), s.size - n = d → n ≤ 4294967290 → (s.data.toList.drop n).all isDig = true → valFrom x (s.data.toList.drop n) < 10000000000 → d < k →
    armadaref08_number.l0 k s (x : Int) (n : Int) = some (if valFrom x (s.data.toList.drop n) < 2 then 0 else (valFrom x (s.data.toList.drop n) : Int)) := by
  intro d
  induction d with
  | zero =>
    intro n x k hd hn hall hv hk
    obtain ⟨k, rfl⟩ : ∃ m, k = m + 1 := ⟨k - 1, by omega⟩
    simp only [armadaref08_number.l0]
    rw [if_neg (by omega), scan_end (by omega)]
    show _ = some (if x < 2 then (0 : Int) else (x : Int))
    by_cases h : x < 2
    · rw [if_pos (by omega), if_pos h]
    · rw [if_neg (by omega), if_neg h]
  | succ d ih =>
    intro n x k hd hn hall hv hk
    obtain ⟨k, rfl⟩ : ∃ m, k = m + 1 := ⟨k - 1, by omega⟩
    obtain ⟨b, hb, hd2⟩ := scan (s := s) (n := n) (by omega)
    rw [hd2] at hall hv ⊢
    rw [List.all_cons, Bool.and_eq_true] at hall
    have hbd : 48 ≤ b.toNat ∧ b.toNat ≤ 57 := by
      have h1 := hall.1; unfold isDig digN at h1; simpa using h1
    have hvv : valFrom x (b :: s.data.toList.drop (n + 1)) = valFrom (x * 10 + (b.toNat - 48)) (s.data.toList.drop (n + 1)) := rfl
    rw [hvv] at hv ⊢
    have hle : x * 10 + (b.toNat - 48) < 10000000000 := by
      have hge := valFrom_ge (s.data.toList.drop (n + 1)) (x * 10 + (b.toNat - 48))
      have hp : 1 ≤ 10 ^ (s.data.toList.drop (n + 1)).length := Nat.pow_pos (by decide)
      exact Nat.lt_of_le_of_lt (Nat.le_trans (Nat.le_mul_of_pos_right _ hp) hge) hv
    have hh := fun h1 h2 => ih (n + 1) (x * 10 + (b.toNat - 48)) k h1 h2 hall.2 hv
    clear ih hvv hall
    generalize valFrom (x * 10 + (b.toNat - 48)) (s.data.toList.drop (n + 1)) = V at hv hh ⊢
    simp only [armadaref08_number.l0]
    rw [if_pos (by omega), if_pos (by omega), hb, wrap_succ (by omega)]
    rw [wrap_id (z := 10 * (x : Int)) (by omega) (by omega), wrap_id (z := (b.toNat : Int)) (by omega) (by omega),
      wrap_id (z := 10 * (x : Int) + (b.toNat : Int)) (by omega) (by omega), wrap_id (z := 10 * (x : Int) + (b.toNat : Int) - 48) (by omega) (by omega),
      show 10 * (x : Int) + (b.toNat : Int) - 48 = ((x * 10 + (b.toNat - 48) : Nat) : Int) by omega]
    exact hh (by omega) (by omega) (by omega)
theorem number_f (s : ByteArray) (ht : tellsOk s.data.toList = true) (k : Nat) (hk : s.size + 2 < k) (hs : s.size ≤ 4294967290) : armadaref08_number.f k s = some (numOf s.data.toList) := by
  obtain ⟨k, rfl⟩ : ∃ m, k = m + 1 := ⟨k - 1, by omega⟩
  have hsz : s.size = s.data.toList.length := Lib.size_eq s
  unfold tellsOk at ht
  simp only [Bool.and_eq_true, decide_eq_true_eq] at ht
  obtain ⟨⟨h1, h2⟩, h3⟩ := ht
  unfold armadaref08_number.f numOf
  by_cases h10 : (s.size : Int) > 10
  · rw [if_pos h10, if_pos (by omega)]
    simp [armadaref08_number.j0]
  · rw [if_neg h10, if_neg (show ¬ 10 < s.data.toList.length by omega), if_pos (show (1 : Int) < (s.size : Int) by omega)]
    obtain ⟨b, hb, hd⟩ := scan (s := s) (n := 1) (by omega)
    have hb' : bt s 1 = (b.toNat : Int) := hb
    rw [hb', show (48 : Int) = ((48 : Nat) : Int) from rfl, byte_eq b 48 (by omega)]
    simp only [armadaref08_number.j0]
    have hh : (s.data.toList.drop 1).head? = some b := by rw [hd]; rfl
    rw [hh]
    by_cases h48 : b = 48
    · subst h48; rfl
    · have hf : (some b == some (UInt8.ofNat 48)) = false := by simpa using h48
      rw [hf, if_neg (by simp), if_neg (by simpa using h48)]
      have hlt := val_lt _ h3
      have hlen : (s.data.toList.drop 1).length ≤ 9 := by rw [List.length_drop]; omega
      have hpow : 10 ^ (s.data.toList.drop 1).length ≤ 10 ^ 9 := Nat.pow_le_pow_right (by omega) hlen
      have := number_l0 s hs _ 1 0 k rfl (by omega) h3 (by unfold val at hlt; omega) (by omega)
      rw [show (1 : Int) = ((1 : Nat) : Int) from rfl, show (0 : Int) = ((0 : Nat) : Int) from rfl, this]
      rfl

theorem check_l0 (l : List ByteArray) (hl : l.length ≤ 4294967290) (B : Nat) (hB : B ≤ 4294967290) (hx : ∀ x ∈ l, x.size ≤ B) : ∀ (d n k : Nat), l.length - n = d → n ≤ l.length → d + B + 3 < k →
    armadaref08_Check.l0 k l (n : Int) = some (if n < l.length then ((l.dropLast.drop n).all fun x => !tellsOk x.data.toList) && lastOk l else true) := by
  intro d
  induction d with
  | zero =>
    intro n k hd hn hk
    obtain ⟨k, rfl⟩ : ∃ m, k = m + 1 := ⟨k - 1, by omega⟩
    simp only [armadaref08_Check.l0]
    rw [if_neg (by omega), if_neg (by omega)]
  | succ d ih =>
    intro n k hd hn hk
    obtain ⟨k, rfl⟩ : ∃ m, k = m + 1 := ⟨k - 1, by omega⟩
    obtain ⟨x, h1, h2, h3⟩ := rd_at (l := l) (n := n) (by omega)
    have hm : x ∈ l := List.mem_of_getElem? h3
    have hxs := hx x hm
    simp only [armadaref08_Check.l0]
    rw [if_pos (by omega), if_pos (by omega), h1, tells_f x (by omega) k (by omega), wrap_succ (by omega), ih (n + 1) k (by omega) (by omega) (by omega), if_pos (show n < l.length by omega)]
    simp only [Option.bind_some]
    rw [wrap_id (z := (l.length : Int) - 1) (by omega) (by omega)]
    by_cases hlast : n + 1 = l.length
    · have hgl : l.getLastD ByteArray.empty = x := by
        rw [List.getLastD_eq_getLast?, List.getLast?_eq_getElem?, show l.length - 1 = n by omega, h3]; rfl
      have hdl : l.dropLast.drop n = [] := List.drop_eq_nil_of_le (by rw [List.length_dropLast]; omega)
      rw [hdl, if_neg (show ¬ (n + 1 < l.length) by omega), if_neg (show ¬ ((n : Int) < (l.length : Int) - 1) by omega)]
      unfold lastOk
      rw [hgl]
      by_cases ht : tellsOk x.data.toList = true
      · rw [ht, if_pos rfl, number_f x ht k (by omega) (by omega)]
        simp only [Option.bind_some]
        by_cases h0 : n = 0
        · rw [if_pos (by omega), decide_eq_false (show ¬ (1 < l.length) by omega)]; simp
        · rw [if_neg (by omega), decide_eq_true (show 1 < l.length by omega)]
          by_cases hz : numOf x.data.toList = 0
          · rw [if_pos hz, decide_eq_true hz]; simp
          · rw [if_neg hz, decide_eq_false hz]; simp
      · have ht' : tellsOk x.data.toList = false := by simpa using ht
        rw [ht']; simp
    · have hdl : l.dropLast.drop n = x :: l.dropLast.drop (n + 1) := by
        have hl2 : n < l.dropLast.length := by rw [List.length_dropLast]; omega
        rw [List.drop_eq_getElem_cons hl2]
        congr 1
        rw [List.getElem_dropLast]
        rw [List.getElem?_eq_getElem (by omega)] at h3
        exact Option.some.inj h3
      rw [hdl, List.all_cons, if_pos (show n + 1 < l.length by omega), if_pos (show (n : Int) < (l.length : Int) - 1 by omega)]
      cases tellsOk x.data.toList <;> simp
theorem ref_Check_f (s : ByteArray) (k : Nat) (hk : 400 < k) : armadaref08_Check.f k s = some (checkOk s) := by
  unfold armadaref08_Check.f checkOk
  rw [ref_Path_f s k (by omega)]
  simp only [Option.bind_some]
  by_cases hp : pathOk s = true
  · have hs : s.size ≤ 60 := by
      unfold pathOk at hp; simp at hp; exact hp.1
    have hl := split_len 47 s
    rw [hp, if_pos rfl, show (47 : Int) = ((47 : UInt8).toNat : Int) from rfl, ref_split 47 s (by omega) k (by omega)]
    simp only [Option.bind_some, Bool.true_and]
    have hpos : 0 < (splitBy 47 s).length := by
      unfold splitBy; rw [List.length_map]; exact List.length_pos_iff.2 (splitC_ne 47 _)
    rw [show (0 : Int) = ((0 : Nat) : Int) from rfl, check_l0 (splitBy 47 s) (by omega) 60 (by omega) (fun x hx => by have := split_size hx; omega) _ 0 k rfl (by omega) (by omega), if_pos hpos]
    rfl
  · have hp' : pathOk s = false := by simpa using hp
    rw [hp', if_neg (by simp)]; rfl
end Go.Proofs.YtnfiigjignpkaaaGreatDoor
