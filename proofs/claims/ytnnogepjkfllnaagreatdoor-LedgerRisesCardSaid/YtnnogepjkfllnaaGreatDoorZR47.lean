/- The texts RDx, PlD1, PlD2 in one file, without what this claim does not use (put together by prune.py). -/
import Derived.Test.YtnnogepjkfllnaaGreatDoorZR38
import Derived.Test.YtnnogepjkfllnaaGreatDoorZR39
import Derived.Test.YtnnogepjkfllnaaGreatDoorZR40
import Derived.Test.YtnnogepjkfllnaaGreatDoorZR41
import Derived.Test.YtnnogepjkfllnaaGreatDoorZR42
import Derived.Test.YtnnogepjkfllnaaGreatDoorZR43
import Derived.Test.YtnnogepjkfllnaaGreatDoorZR44
import Derived.Test.YtnnogepjkfllnaaGreatDoorZR45
import Derived.Test.YtnnogepjkfllnaaGreatDoorZR46
import Derived.Test.YtnnogepjkfllnaaGreatDoorZR22
import Derived.Test.YtnnogepjkfllnaaGreatDoorZR3
import Derived.Test.YtnnogepjkfllnaaGreatDoorZR13
import Derived.Test.YtnnogepjkfllnaaGreatDoorZR14
section
namespace Go.Proofs.YtnnogepjkfllnaaGreatDoor.RD
open Go.RowKit Go.Proofs.YtnnogepjkfllnaaGreatDoor Go.Proofs.YtnnogepjkfllnaaGreatDoor.K0 Go.Proofs.YtnnogepjkfllnaaGreatDoorW.PrintWords Go.Proofs.YtnnogepjkfllnaaGreatDoorW.PrintLast Go.Proofs.YtnnogepjkfllnaaGreatDoorW.PrintMore
attribute [local go_sem] max2_int min2_int max_two min_two max_three min_three max_four min_four
set_option linter.unusedVariables false
set_option linter.unusedSimpArgs false
end Go.Proofs.YtnnogepjkfllnaaGreatDoor.RD
end

section
namespace Go.Proofs.YtnnogepjkfllnaaGreatDoor
open Go Go.RowKit Go.Proofs.YtnnogepjkfllnaaGreatDoorW.PrintWords Go.Proofs.YtnnogepjkfllnaaGreatDoor.K0 Go.Proofs.YtnnogepjkfllnaaGreatDoor.R1 Go.Proofs.YtnnogepjkfllnaaGreatDoor.RD
set_option linter.unusedVariables false
set_option linter.unusedSimpArgs false
/-- Splitting: the reference's loop. -/
theorem ref_split_from (c : UInt8) (s : ByteArray) (hs : s.size ≤ 4294967295) : ∀ (d n fr k : Nat) (acc : List ByteArray), s.size + 1 - n = d → n ≤ s.size + 1 → fr ≤ n → (n ≤ s.size ∨ fr = n) → (n ≤ s.size → c ∉ (s.extract fr n).data.toList) → acc.length + d ≤ 4294967296 → d < k →
    armadaref05_Split.l0 k s (c.toNat : Int) acc (fr : Int) (n : Int) = some (if n ≤ s.size then acc ++ splitBy c (s.extract fr s.size) else acc) := by
  intro d
  induction d with
  | zero =>
    intro n fr k acc hd hn hf _ _ _ hk
    obtain ⟨k, rfl⟩ : ∃ m, k = m + 1 := ⟨k - 1, by omega⟩
    simp only [armadaref05_Split.l0]
    rw [if_neg (by omega), if_neg (by omega)]
  | succ d ih =>
    intro n fr k acc hd hn hf hor hc hacc hk
    obtain ⟨k, rfl⟩ : ∃ m, k = m + 1 := ⟨k - 1, by omega⟩
    have hns : n ≤ s.size := by omega
    simp only [armadaref05_Split.l0]
    rw [if_pos (by omega), if_pos hns]
    have hw := wrap_succ (n := n) (by omega)
    have hcn := hc hns
    by_cases he : n = s.size
    · rw [if_pos (by omega), if_pos (by omega), if_pos (by omega), if_pos (by omega), hw]
      rw [ih (n + 1) (n + 1) k _ (by omega) (by omega) (by omega) (.inr rfl) (fun h => by omega) (by rw [List.length_append]; simp; omega) (by omega)]
      rw [if_neg (by omega)]
      congr 2
      subst he
      have hx : (s.extract fr s.size) = s.extract ((fr : Int)).toNat ((s.size : Int)).toNat := rfl
      unfold splitBy
      rw [splitC_none hcn]
      rfl
    · have hlt : n < s.size := by omega
      obtain ⟨b, hb, hd2⟩ := scan hlt
      rw [if_neg (by omega), if_pos (by omega), if_pos (by omega), hb]
      have hext : (s.extract fr s.size).data.toList = (s.extract fr n).data.toList ++ b :: s.data.toList.drop (n + 1) := by
        rw [Lib.extract_data, Lib.extract_data, ← hd2]
        have e1 : List.take (s.size - fr) (List.drop fr s.data.toList) = List.drop fr s.data.toList := List.take_of_length_le (by rw [List.length_drop, ← Lib.size_eq]; omega)
        rw [e1]
        have e2 : s.data.toList.drop n = (s.data.toList.drop fr).drop (n - fr) := by rw [List.drop_drop]; congr 1; omega
        rw [e2, List.take_append_drop]
      by_cases hbc : b = c
      · subst hbc
        rw [if_pos rfl, if_pos (by omega), if_pos (by omega), if_pos (by omega), hw]
        rw [ih (n + 1) (n + 1) k _ (by omega) (by omega) (by omega) (.inr rfl) (fun h => by rw [Lib.extract_data]; simp) (by rw [List.length_append]; simp; omega) (by omega)]
        rw [if_pos (by omega)]
        congr 1
        rw [List.append_assoc]
        congr 1
        unfold splitBy
        rw [hext, splitC_at _ hcn, List.map_cons]
        have e3 : ba (s.extract fr n).data.toList = s.extract ((fr : Int)).toNat ((n : Int)).toNat := rfl
        rw [e3]
        have e4 : (s.extract (n + 1) s.size).data.toList = s.data.toList.drop (n + 1) := Lib.extract_to_end s (n + 1)
        rw [e4]
        rfl
      · have hne : ¬ ((b.toNat : Int) = (c.toNat : Int)) := fun e => hbc (UInt8.toNat_inj.1 (by omega))
        rw [if_neg hne, hw]
        rw [ih (n + 1) fr k _ (by omega) (by omega) (by omega) (.inl (by omega)) (fun h => by
          have e5 : (s.extract fr (n + 1)).data.toList = (s.extract fr n).data.toList ++ [b] := by
            rw [Lib.extract_data, Lib.extract_data]
            have e6 : n + 1 - fr = (n - fr) + 1 := by omega
            rw [e6]
            have e7 : (s.data.toList.drop fr)[n - fr]? = some b := by
              rw [List.getElem?_drop]
              have : s.data.toList[fr + (n - fr)]? = (s.data.toList.drop n)[0]? := by rw [List.getElem?_drop]; congr 1; omega
              rw [this, hd2]; rfl
            rw [List.take_add_one, e7]; rfl
          rw [e5]
          intro hm
          rcases List.mem_append.1 hm with hm | hm
          · exact hcn hm
          · exact hbc (List.mem_singleton.1 hm).symm) (by omega) (by omega)]
        rw [if_pos (by omega)]
theorem ref_split (c : UInt8) (s : ByteArray) (hs : s.size ≤ 4294967290) (k : Nat) (hk : s.size + 1 < k) : armadaref05_Split.f k s (c.toNat : Int) = some (splitBy c s) := by
  unfold armadaref05_Split.f
  have h := ref_split_from c s (by omega) (s.size + 1) 0 0 k [] (by omega) (by omega) (by omega) (.inr rfl) (fun _ => by rw [Lib.extract_data]; simp) (by simp; omega) hk
  rw [if_pos (by omega)] at h
  have e : s.extract 0 s.size = s := by
    apply by_data
    rw [Lib.extract_to_end]; rfl
  rw [e, List.nil_append] at h
  exact h
theorem ref_part_l0 (s : ByteArray) (hs : s.size ≤ 4294967290) : ∀ (d n k : Nat), s.size - n = d → n ≤ s.size → d < k →
    armadaref05_part.l0 k s (n : Int) = some ((s.data.toList.drop n).all isPlain && partFin s.data.toList) := by
  intro d
  induction d with
  | zero =>
    intro n k hd hn hk
    obtain ⟨k, rfl⟩ : ∃ m, k = m + 1 := ⟨k - 1, by omega⟩
    simp only [armadaref05_part.l0]
    rw [if_neg (by omega), scan_end (by omega), ByteArray.toList_eq]
    by_cases h1 : s.data.toList = []
    · rw [if_pos h1]; simp [h1, partFin]
    · rw [if_neg h1]
      by_cases h2 : s.data.toList = [46]
      · rw [if_pos h2]; simp [h2, partFin]
      · rw [if_neg h2]
        by_cases h3 : s.data.toList = [46, 46] <;> simp [h1, h2, h3, bne, partFin]
  | succ d ih =>
    intro n k hd hn hk
    obtain ⟨k, rfl⟩ : ∃ m, k = m + 1 := ⟨k - 1, by omega⟩
    obtain ⟨b, hb, hd2⟩ := scan (s := s) (n := n) (by omega)
    simp only [armadaref05_part.l0]
    rw [if_pos (by omega), if_pos (by omega), hb, wrap_succ (by omega), ih (n + 1) k (by omega) (by omega) (by omega), hd2, List.all_cons, Bool.and_assoc]
    generalize ((s.data.toList.drop (n + 1)).all isPlain && partFin s.data.toList) = X
    have hm := b.toNat_lt
    clear ih hd2 hb hd hk hs hn
    unfold isPlain
    generalize b.toNat = m at hm ⊢
    revert X
    revert m
    decide +kernel
theorem ref_part_f (s : ByteArray) (hs : s.size ≤ 4294967290) (k : Nat) (hk : s.size < k) : armadaref05_part.f k s = some (partOk s.data.toList) := by
  unfold armadaref05_part.f partOk
  rw [show (0 : Int) = ((0 : Nat) : Int) from rfl, ref_part_l0 s hs s.size 0 k (by omega) (by omega) hk]
  simp
end Go.Proofs.YtnnogepjkfllnaaGreatDoor
end

section
namespace Go.Proofs.YtnnogepjkfllnaaGreatDoor
open Go Go.RowKit Go.Proofs.YtnnogepjkfllnaaGreatDoorW.PrintWords Go.Proofs.YtnnogepjkfllnaaGreatDoor.K0 Go.Proofs.YtnnogepjkfllnaaGreatDoor.R1 Go.Proofs.YtnnogepjkfllnaaGreatDoor.RD
set_option linter.unusedVariables false
set_option linter.unusedSimpArgs false
theorem ref_Path_l0 (l : List ByteArray) (hl : l.length ≤ 4294967290) (B : Nat) (hB : B ≤ 4294967290) (hx : ∀ x ∈ l, x.size ≤ B) : ∀ (d n k : Nat), l.length - n = d → n ≤ l.length → d + B < k →
    armadaref05_Path.l0 k l (n : Int) = some ((l.drop n).all fun x => partOk x.data.toList) := by
  intro d
  induction d with
  | zero =>
    intro n k hd hn hk
    obtain ⟨k, rfl⟩ : ∃ m, k = m + 1 := ⟨k - 1, by omega⟩
    simp only [armadaref05_Path.l0]
    rw [if_neg (by omega), List.drop_eq_nil_of_le (by omega)]; rfl
  | succ d ih =>
    intro n k hd hn hk
    obtain ⟨k, rfl⟩ : ∃ m, k = m + 1 := ⟨k - 1, by omega⟩
    obtain ⟨x, h1, h2, h3⟩ := rd_at (l := l) (n := n) (by omega)
    have hm : x ∈ l := List.mem_of_getElem? h3
    have := hx x hm
    simp only [armadaref05_Path.l0]
    rw [if_pos (by omega), if_pos (by omega), h1, ref_part_f x (by omega) k (by omega), wrap_succ (by omega), ih (n + 1) k (by omega) (by omega) (by omega), h2, List.all_cons]
    simp only [Option.bind_some]
    cases partOk x.data.toList <;> simp
theorem ref_Path_f (s : ByteArray) (k : Nat) (hk : 200 < k) : armadaref05_Path.f k s = some (pathOk s) := by
  unfold armadaref05_Path.f pathOk
  by_cases h : (s.size : Int) > 60
  · rw [if_pos h, decide_eq_false (by omega)]; rfl
  · rw [if_neg h, decide_eq_true (by omega), ← all_split, show (47 : Int) = ((47 : UInt8).toNat : Int) from rfl, ref_split 47 s (by omega) k (by omega)]
    simp only [Option.bind_some, Bool.true_and]
    have hl := split_len 47 s
    rw [show (0 : Int) = ((0 : Nat) : Int) from rfl, ref_Path_l0 (splitBy 47 s) (by omega) 60 (by omega) (fun x hx => by have := split_size hx; omega) _ 0 k rfl (by omega) (by omega)]
    rfl
end Go.Proofs.YtnnogepjkfllnaaGreatDoor
end
