/- The texts Str in one file, without what these claims do not use (put together by prune2.py). -/
import Derived.Lib.SplitLaws
import Derived.Lib.CutLaws
import Derived.Lib.IndexBytes
section
namespace Go.Proofs.YtkidfclnakbgiaaGreatDoor
open Go Go.Lib
/-- A list split at a byte: always one part at least. -/
def splitC (c : UInt8) : List UInt8 → List (List UInt8)
  | [] => [[]]
  | b :: t => if b = c then [] :: splitC c t else
    match splitC c t with
    | [] => [[b]]
    | p :: ps => (b :: p) :: ps
def ba (l : List UInt8) : ByteArray := ⟨l.toArray⟩
theorem ba_data (l : List UInt8) : (ba l).data.toList = l := rfl
theorem ba_size (l : List UInt8) : (ba l).size = l.length := by simp [ba, ByteArray.size]
theorem by_data {a b : ByteArray} (h : a.data.toList = b.data.toList) : a = b := by
  cases a; cases b; simp at h; subst h; rfl
/-- A text split at a byte. -/
def splitBy (c : UInt8) (s : ByteArray) : List ByteArray := (splitC c s.data.toList).map ba
theorem splitC_ne (c : UInt8) : ∀ l, splitC c l ≠ []
  | [] => by simp [splitC]
  | b :: t => by
    unfold splitC
    split
    · simp
    · split <;> simp
theorem splitC_other {c b : UInt8} (h : b ≠ c) (t : List UInt8) : ∃ p ps, splitC c t = p :: ps ∧ splitC c (b :: t) = (b :: p) :: ps := by
  cases e : splitC c t with
  | nil => exact absurd e (splitC_ne c t)
  | cons p ps => exact ⟨p, ps, rfl, by simp [splitC, h, e]⟩
theorem splitC_none {c : UInt8} : ∀ {l : List UInt8}, c ∉ l → splitC c l = [l]
  | [], _ => rfl
  | b :: t, h => by
    have h1 : b ≠ c := fun e => h (e ▸ List.mem_cons_self)
    have h2 : c ∉ t := fun e => h (List.mem_cons_of_mem _ e)
    simp [splitC, h1, splitC_none h2]
theorem splitC_at {c : UInt8} : ∀ {a : List UInt8} (t : List UInt8), c ∉ a → splitC c (a ++ c :: t) = a :: splitC c t
  | [], t, _ => by simp [splitC]
  | b :: a, t, h => by
    have h1 : b ≠ c := fun e => h (e ▸ List.mem_cons_self)
    have h2 : c ∉ a := fun e => h (List.mem_cons_of_mem _ e)
    simp [splitC, h1, splitC_at t h2]
theorem splitC_length (c : UInt8) : ∀ l : List UInt8, (splitC c l).length = l.count c + 1
  | [] => rfl
  | b :: t => by
    have ih := splitC_length c t
    by_cases h : b = c
    · subst h; simp [splitC, ih]
    · obtain ⟨p, ps, e, e2⟩ := splitC_other h t
      rw [e2]; rw [e] at ih
      simp at ih ⊢
      rw [List.count_cons, if_neg (by simpa using h)]; omega
/-- A part has none of the byte, and all parts lie in the list. -/
theorem splitC_parts {c : UInt8} : ∀ {l p : List UInt8}, p ∈ splitC c l → c ∉ p ∧ p.length ≤ l.length
  | [], p, h => by simp [splitC] at h; subst h; simp
  | b :: t, p, h => by
    by_cases hb : b = c
    · rw [splitC, if_pos hb] at h
      rcases List.mem_cons.1 h with rfl | h
      · simp
      · have := splitC_parts h; exact ⟨this.1, by simp; omega⟩
    · obtain ⟨q, qs, e, e2⟩ := splitC_other hb t
      rw [e2] at h
      have hq := @splitC_parts c t q (by rw [e]; exact List.mem_cons_self)
      rcases List.mem_cons.1 h with rfl | h
      · exact ⟨fun hm => by rcases List.mem_cons.1 hm with rfl | hm; exact hb rfl; exact hq.1 hm, by simpa using hq.2⟩
      · have := @splitC_parts c t p (by rw [e]; exact List.mem_cons_of_mem _ h)
        exact ⟨this.1, by simp; omega⟩
theorem idx_none : ∀ {l : List UInt8} {c : UInt8}, indexByte l c = -1 → c ∉ l
  | [], _, _ => by simp
  | b :: l, c, h => by
    unfold indexByte at h
    split at h
    · exact absurd h (by decide)
    · rename_i hb
      have hge := indexByte_ge l c
      split at h
      · rename_i h2
        have := idx_none (beq_iff_eq.1 h2)
        intro hm
        rcases List.mem_cons.1 hm with rfl | hm
        · exact hb (by simp)
        · exact this hm
      · omega
theorem idx_some : ∀ {l : List UInt8} {c : UInt8} {i : Nat}, indexByte l c = i → ∃ a t, l = a ++ c :: t ∧ c ∉ a ∧ a.length = i
  | [], _, i, h => by simp [indexByte] at h
  | b :: l, c, i, h => by
    unfold indexByte at h
    have hge := indexByte_ge l c
    split at h
    · rename_i hb
      have hb : b = c := by simpa using hb
      subst hb
      exact ⟨[], l, rfl, by simp, by simp; omega⟩
    · rename_i hb
      split at h
      · omega
      · rename_i h2
        have h2 : indexByte l c ≠ -1 := by simpa using h2
        obtain ⟨j, hj⟩ : ∃ j : Nat, indexByte l c = j := ⟨(indexByte l c).toNat, by omega⟩
        obtain ⟨a, t, rfl, hn, hl⟩ := idx_some hj
        refine ⟨b :: a, t, rfl, fun hm => ?_, by simp; omega⟩
        rcases List.mem_cons.1 hm with rfl | hm
        · exact hb (by simp)
        · exact hn hm
theorem splitBy_miss {c : UInt8} {s : ByteArray} (h : indexByte s.data.toList c = -1) : splitBy c s = [s] := by
  unfold splitBy
  rw [splitC_none (idx_none h)]
  rfl
theorem splitBy_hit {c : UInt8} {s : ByteArray} {i : Nat} (h : indexByte s.data.toList c = i) :
    i < s.size ∧ splitBy c s = s.extract 0 i :: splitBy c (s.extract (i + 1) s.size) := by
  obtain ⟨a, t, e, hn, hl⟩ := idx_some h
  have hs : s.size = a.length + 1 + t.length := by
    rw [size_eq, e, List.length_append, List.length_cons]; omega
  refine ⟨by omega, ?_⟩
  unfold splitBy
  rw [e, splitC_at t hn, List.map_cons]
  have e1 : ba a = s.extract 0 i := by
    apply by_data
    rw [ba_data, extract_data, e]
    simp [← hl]
  have e2 : t = (s.extract (i + 1) s.size).data.toList := by
    rw [extract_to_end, e, ← hl]
    simp
  rw [e1, ← e2]
theorem index_one (l : List UInt8) (c : UInt8) : index l [c] = indexByte l c := by
  induction l with
  | nil => rfl
  | cons b l ih =>
    unfold index indexByte
    rw [← ih]
    by_cases h : b = c
    · subst h; simp [List.isPrefixOf]
    · have h2 : ¬ (c = b) := fun e => h e.symm
      simp [List.isPrefixOf, h, h2]
/-- What strings.Split hands back at one byte. -/
theorem splitB_one (c : UInt8) : ∀ (k : Nat) (s : ByteArray), countB s ⟨#[c]⟩ = k → splitB ⟨#[c]⟩ 0 k s = splitBy c s
  | 0, s, hk => by
    rcases indexB_cases s ⟨#[c]⟩ with h | ⟨i, h, hr⟩
    · rw [splitB_zero]; exact (splitBy_miss (by rw [← index_one]; exact h)).symm
    · exfalso
      rw [countB_hit s ⟨#[c]⟩ i (Nat.le_refl 1) h] at hk
      omega
  | k + 1, s, hk => by
    rcases indexB_cases s ⟨#[c]⟩ with h | ⟨i, h, hr⟩
    · rw [countB_miss s _ h] at hk; omega
    · rw [splitB_hit _ _ _ _ i h]
      have h' : indexByte s.data.toList c = i := by rw [← index_one]; exact h
      rw [countB_hit s ⟨#[c]⟩ i (Nat.le_refl 1) h] at hk
      rw [(splitBy_hit h').2, splitB_one c k _ (by
        have : (⟨#[c]⟩ : ByteArray).size = 1 := rfl
        rw [this] at hk ⊢; omega)]
      rfl
end Go.Proofs.YtkidfclnakbgiaaGreatDoor
end
