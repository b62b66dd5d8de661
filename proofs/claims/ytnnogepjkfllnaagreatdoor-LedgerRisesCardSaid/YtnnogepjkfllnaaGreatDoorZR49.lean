/- The texts RefC in one file, without what this claim does not use (put together by prune.py). -/
import Derived.Test.YtnnogepjkfllnaaGreatDoorZR48
import Derived.Test.YtnnogepjkfllnaaGreatDoorZR22
import Derived.Test.YtnnogepjkfllnaaGreatDoorZR26
section
namespace Go.Proofs.YtnnogepjkfllnaaGreatDoor
open Go Go.RowKit Go.Proofs.YtnnogepjkfllnaaGreatDoorW.PrintWords Go.Proofs.YtnnogepjkfllnaaGreatDoor.K0 Go.Proofs.YtnnogepjkfllnaaGreatDoor.R1 Go.Proofs.YtnnogepjkfllnaaGreatDoor.RD
set_option linter.unusedVariables false
set_option linter.unusedSimpArgs false
theorem split_data (c : UInt8) (s : ByteArray) : (splitBy c s).map (·.data.toList) = splitC c s.data.toList := by
  unfold splitBy
  rw [List.map_map]
  exact (List.map_congr_left fun x _ => ba_data x).trans (List.map_id _)
theorem bl_cb : ∀ a b : List UInt8, Op.bytesLess a b = decide (Lib.compareBytes a b = -1)
  | [], [] => rfl
  | [], _ :: _ => rfl
  | _ :: _, [] => rfl
  | a :: x, b :: y => by
    unfold Op.bytesLess Lib.compareBytes
    rw [bl_cb x y]
    by_cases h : a < b
    · rw [if_pos h, decide_eq_true h]; rfl
    · by_cases h2 : b < a
      · have hne : a ≠ b := by rintro rfl; exact h h2
        rw [if_neg h, if_pos h2, decide_eq_false h, beq_eq_false_iff_ne.mpr hne]; rfl
      · have he : a = b := UInt8.toNat_inj.1 (by
          have h1 : ¬ a.toNat < b.toNat := fun e => h (UInt8.lt_iff_toNat_lt.2 e)
          have h3 : ¬ b.toNat < a.toNat := fun e => h2 (UInt8.lt_iff_toNat_lt.2 e)
          omega)
        subst he
        rw [if_neg h, if_neg h2, decide_eq_false h]; simp
theorem ref_order_f (a b : Int) : armadaref07_order.f a b = some (Lib.compareInt a b) := by
  unfold armadaref07_order.f Lib.compareInt
  split
  · rfl
  · split <;> rfl
theorem less_val (a b : List UInt8) : (if Op.bytesLess a b = true then some (-1 : Int) else (if Op.bytesLess b a = true then some 1 else some 0)) = some (Lib.compareBytes a b) := by
  rw [bl_cb, bl_cb, cb_anti b a]
  rcases cb_range a b with h | h | h <;> rw [h] <;> rfl
theorem ref_words_f (a b : ByteArray) (ha : a.size ≤ 4294967280) (hb : b.size ≤ 4294967280) (k : Nat) (hk : a.size + b.size + 5 < k) : armadaref07_words.f k a b = some (wordCmp a.data.toList b.data.toList) := by
  obtain ⟨k, rfl⟩ : ∃ m, k = m + 3 := ⟨k - 3, by omega⟩
  unfold armadaref07_words.f wordCmp
  rw [ref_digits_f a (by omega) _ (by omega), ref_digits_f b (by omega) _ (by omega)]
  simp only [Option.bind_some]
  have hA := Lib.size_eq a
  have hB := Lib.size_eq b
  cases h1 : digitsOk a.data.toList <;> cases h2 : digitsOk b.data.toList <;>
    simp only [Bool.false_eq_true, if_false, if_true, armadaref07_words.j0, armadaref07_words.j1, armadaref07_words.j2, Bool.not_true, Bool.not_false]
  · rw [ByteArray.toList_eq, ByteArray.toList_eq, less_val]
  · by_cases hl : (a.size : Int) = (b.size : Int)
    · have e : ((a.size : Int) != (b.size : Int)) = false := bne_eq_false_iff_eq.mpr hl
      rw [e]
      simp only [Bool.false_eq_true, if_false]
      rw [ByteArray.toList_eq, ByteArray.toList_eq, less_val, ← hA, ← hB, (ci_eq _ _).2 hl]
      rfl
    · have e : ((a.size : Int) != (b.size : Int)) = true := bne_iff_ne.mpr hl
      rw [e]
      simp only [if_true]
      rw [ref_order_f, ← hA, ← hB]
      unfold orr
      rw [if_neg (fun h => hl ((ci_eq _ _).1 h))]
      rfl
/-- The order of lists of identifiers. -/
theorem ref_pre_l0 (l m : List ByteArray) (hl : l.length ≤ 4294967280) (hm : m.length ≤ 4294967280) (B : Nat) (hB : B ≤ 4294967280) (hx : ∀ x ∈ l, x.size ≤ B) (hy : ∀ x ∈ m, x.size ≤ B) : ∀ (d n k : Nat), l.length - n = d → n ≤ l.length → n ≤ m.length → 2 * d + 2 * B + 20 < k →
    armadaref07_pre.l0 k l m (n : Int) = some (listCmp ((l.drop n).map (·.data.toList)) ((m.drop n).map (·.data.toList))) := by
  intro d
  induction d with
  | zero =>
    intro n k hd hn hn2 hk
    obtain ⟨k, rfl⟩ : ∃ j, k = j + 2 := ⟨k - 2, by omega⟩
    simp only [armadaref07_pre.l0, armadaref07_pre.j2]
    rw [if_neg (by omega)]
    simp only [Bool.false_eq_true, if_false]
    rw [ref_order_f, List.drop_eq_nil_of_le (by omega)]
    by_cases h : n < m.length
    · obtain ⟨y, _, h2, _⟩ := rd_at (l := m) (n := n) h
      rw [h2]
      simp only [List.map_nil, List.map_cons, listCmp, Option.bind_some]
      unfold Lib.compareInt
      rw [if_pos (by omega)]
    · rw [List.drop_eq_nil_of_le (by omega)]
      simp only [List.map_nil, listCmp, Option.bind_some]
      rw [(ci_eq _ _).2 (by omega)]
  | succ d ih =>
    intro n k hd hn hn2 hk
    obtain ⟨k, rfl⟩ : ∃ j, k = j + 2 := ⟨k - 2, by omega⟩
    obtain ⟨x, h1, h2, h3⟩ := rd_at (l := l) (n := n) (by omega)
    have hxm : x ∈ l := List.mem_of_getElem? h3
    simp only [armadaref07_pre.l0, armadaref07_pre.j2]
    rw [if_pos (by omega), h2]
    by_cases h : n < m.length
    · obtain ⟨y, g1, g2, g3⟩ := rd_at (l := m) (n := n) h
      have hym : y ∈ m := List.mem_of_getElem? g3
      rw [decide_eq_true (by omega), if_pos rfl, if_pos (by omega), if_pos (by omega), if_pos (by omega), h1, g1, ref_words_f x y (by have := hx x hxm; omega) (by have := hy y hym; omega) k (by have := hx x hxm; have := hy y hym; omega), wrap_succ (by omega), ih (n + 1) k (by omega) (by omega) (by omega) (by omega), g2]
      simp only [Option.bind_some, List.map_cons, listCmp, orr]
      split <;> rfl
    · rw [decide_eq_false (by omega)]
      simp only [Bool.false_eq_true, if_false]
      rw [ref_order_f, List.drop_eq_nil_of_le (show m.length ≤ n by omega)]
      simp only [List.map_nil, List.map_cons, listCmp, Option.bind_some]
      unfold Lib.compareInt
      rw [if_neg (by omega), if_pos (by omega)]
theorem ref_pre_f (p q : ByteArray) (hp : p.size ≤ 30) (hq : q.size ≤ 30) (k : Nat) (hk : 300 < k) : armadaref07_pre.f k p q = some (preCmp p.data.toList q.data.toList) := by
  obtain ⟨k, rfl⟩ : ∃ j, k = j + 1 := ⟨k - 1, by omega⟩
  have hpe : (p.toList = ([] : List UInt8)) ↔ p.data.toList = [] := by rw [ByteArray.toList_eq]
  have hqe : (q.toList = ([] : List UInt8)) ↔ q.data.toList = [] := by rw [ByteArray.toList_eq]
  have e1 : (p.toList == ([] : List UInt8)) = decide (p.data.toList = []) := by rw [Bool.eq_iff_iff]; simp [hpe]
  have e2 : (q.toList == ([] : List UInt8)) = decide (q.data.toList = []) := by rw [Bool.eq_iff_iff]; simp [hqe]
  have hl := split_len 46 p
  have hl2 := split_len 46 q
  unfold armadaref07_pre.f preCmp
  by_cases h1 : p.data.toList = [] <;> by_cases h2 : q.data.toList = []
  · rw [if_pos (hpe.2 h1), if_pos h1, if_pos h2]
    simp only [armadaref07_pre.j0, if_true, e1, e2, h1, h2]
    rfl
  · rw [if_pos (hpe.2 h1), if_pos h1, if_neg h2]
    simp only [armadaref07_pre.j0, if_true, e1, e2, h1, decide_eq_false h2]
    rfl
  · rw [if_neg (fun h => h1 (hpe.1 h)), if_neg h1, if_pos h2]
    simp only [armadaref07_pre.j0, if_true, e1, e2, h2, decide_eq_false h1]
    rfl
  · rw [if_neg (fun h => h1 (hpe.1 h)), if_neg h1, if_neg h2, e2, decide_eq_false h2]
    simp only [armadaref07_pre.j0, Bool.false_eq_true, if_false]
    rw [show (46 : Int) = ((46 : UInt8).toNat : Int) from rfl, ref_split 46 p (by omega) k (by omega), ref_split 46 q (by omega) k (by omega)]
    simp only [Option.bind_some]
    rw [show (0 : Int) = ((0 : Nat) : Int) from rfl, ref_pre_l0 _ _ (by omega) (by omega) 30 (by omega) (fun x hx => by have := split_size hx; omega) (fun x hx => by have := split_size hx; omega) _ 0 k rfl (by omega) (by omega) (by omega)]
    rw [List.drop_zero, List.drop_zero, split_data, split_data]
theorem ref_Compare_f (a b c : Int) (p q : ByteArray) (a2 b2 c2 : Int) (p2 q2 : ByteArray) : Ev (fun k => armadaref07_Compare.f k a b c p q a2 b2 c2 p2 q2) (verCmp a b c p q a2 b2 c2 p2 q2) := by
  obtain ⟨K1, h1⟩ := ref_ver_Check_f a b c p q
  obtain ⟨K2, h2⟩ := ref_ver_Check_f a2 b2 c2 p2 q2
  refine ⟨max K1 K2 + 400, fun k hk => ?_⟩
  obtain ⟨k, rfl⟩ : ∃ j, k = j + 1 := ⟨k - 1, by omega⟩
  have e1 := h1 (k + 1) (by omega)
  have e2 := h2 (k + 1) (by omega)
  simp only at e1 e2
  show armadaref07_Compare.f (k + 1) a b c p q a2 b2 c2 p2 q2 = _
  unfold armadaref07_Compare.f verCmp
  simp only [e1, e2, Option.bind_some]
  cases v1 : verOk a b c p q
  · simp [armadaref07_Compare.j0]
  · cases v2 : verOk a2 b2 c2 p2 q2
    · simp [armadaref07_Compare.j0]
    · have s1 := (verIs v1).hp
      have s2 := (verIs v2).hp
      simp only [if_true, armadaref07_Compare.j0, Bool.not_true, Bool.false_eq_true, if_false, ref_order_f, ref_pre_f p p2 s1 s2 k (by omega), Option.bind_some]
      unfold orr
      by_cases x1 : a = a2
      · rw [if_pos x1, if_pos ((ci_eq _ _).2 x1)]
        by_cases x2 : b = b2
        · rw [if_pos x2, if_pos ((ci_eq _ _).2 x2)]
          by_cases x3 : c = c2
          · rw [if_pos x3, if_pos ((ci_eq _ _).2 x3)]
          · rw [if_neg x3, if_neg (fun h => x3 ((ci_eq _ _).1 h))]
        · rw [if_neg x2, if_neg (fun h => x2 ((ci_eq _ _).1 h))]
      · rw [if_neg x1, if_neg (fun h => x1 ((ci_eq _ _).1 h))]
end Go.Proofs.YtnnogepjkfllnaaGreatDoor
end
