/- Plain laws on paths put together of two with a slash between them, and on numbers as text. -/
import Derived.Test.YtpkhemnngjmcjaaDoorPl3
namespace Go.Proofs.YtpkhemnngjmcjaaDoor
open Go Go.RowKit Go.Proofs.YtpkhemnngjmcjaaDoorW.PrintWords Go.Proofs.YtpkhemnngjmcjaaDoor.K0 Go.Proofs.YtpkhemnngjmcjaaDoor.R1 Go.Proofs.YtpkhemnngjmcjaaDoor.R2
set_option linter.unusedVariables false
set_option linter.unusedSimpArgs false

theorem splitC_app (c : UInt8) : ∀ a b : List UInt8, splitC c (a ++ c :: b) = splitC c a ++ splitC c b
  | [], b => by simp [splitC]
  | x :: t, b => by
    have ih := splitC_app c t b
    by_cases h : x = c
    · subst h
      simp only [List.cons_append, splitC, if_true, ih]
    · obtain ⟨p, ps, h1, h2⟩ := splitC_other h t
      obtain ⟨p', ps', h3, h4⟩ := splitC_other h (t ++ c :: b)
      rw [ih, h1] at h3
      rw [List.cons_append, h4, h2]
      rw [List.cons_append] at h3
      obtain ⟨rfl, rfl⟩ := List.cons.inj h3
      rfl
theorem splitBy_app {c : UInt8} {s a b : ByteArray} (h : s.data.toList = a.data.toList ++ c :: b.data.toList) : splitBy c s = splitBy c a ++ splitBy c b := by
  unfold splitBy; rw [h, splitC_app, List.map_append]
theorem splitBy_one {c : UInt8} {s : ByteArray} (h : c ∉ s.data.toList) : splitBy c s = [s] := by
  unfold splitBy; rw [splitC_none h]; rfl
theorem at_bang {s : ByteArray} {j : Nat} (h : j < s.size) : s.data.toList[j]'(by rw [← Lib.size_eq]; exact h) = s.data[j]! := by
  rw [getElem!_pos s.data j h]; simp
theorem base_split {s : ByteArray} (h : 1 < (splitBy 47 s).length) : splitBy 47 s = splitBy 47 (baseOf s) ++ [lastPart s] ∧ s.data.toList = (baseOf s).data.toList ++ 47 :: (lastPart s).data.toList := by
  have hsz := Lib.size_eq s
  rcases Lib.lastIdx_spec s 47 s.size with ⟨e, hn⟩ | ⟨i, hi, e, hc, hn⟩
  · exfalso
    have : (47 : UInt8) ∉ s.data.toList := by
      intro hm
      obtain ⟨j, hj, hj2⟩ := List.getElem_of_mem hm
      have hj' : j < s.size := by omega
      refine hn j hj' ?_
      rw [← at_bang hj', hj2]; rfl
    rw [splitBy_one this] at h
    simp at h
  · have hat : s.data.toList[i]'(by omega) = 47 := by
      rw [at_bang hi]
      apply UInt8.toNat_inj.1
      exact Int.ofNat.inj hc
    have hb : (baseOf s).data.toList = s.data.toList.take i := by
      unfold baseOf cutAt
      rw [e, if_neg (by omega), Int.toNat_natCast, Lib.extract_data]
      simp
    have hno : (47 : UInt8) ∉ s.data.toList.drop (i + 1) := by
      intro hm
      obtain ⟨j, hj, hj2⟩ := List.getElem_of_mem hm
      rw [List.length_drop] at hj
      rw [List.getElem_drop] at hj2
      have hj' : i + 1 + j < s.size := by omega
      refine hn (i + 1 + j) (by omega) hj' ?_
      rw [← at_bang hj', hj2]; rfl
    have hd : s.data.toList = (baseOf s).data.toList ++ 47 :: (ba (s.data.toList.drop (i + 1))).data.toList := by
      rw [hb, ba_data, ← hat, ← List.drop_eq_getElem_cons (by omega), List.take_append_drop]
    have hs := splitBy_app hd
    rw [splitBy_one (s := ba (s.data.toList.drop (i + 1))) hno] at hs
    have hl : lastPart s = ba (s.data.toList.drop (i + 1)) := by
      unfold lastPart; rw [hs]; simp
    rw [hl]
    exact ⟨hs, hd⟩

def nt (l : List ByteArray) : Bool := l.all fun x => !tellsOk x.data.toList
theorem nt_app (l m : List ByteArray) : nt (l ++ m) = (nt l && nt m) := by unfold nt; rw [List.all_append]
theorem parts_snoc (l : List ByteArray) (x : ByteArray) : partsOk (l ++ [x]) = (nt l && (!tellsOk x.data.toList || (!decide (numOf x.data.toList = 0) && decide (0 < l.length)))) := by
  unfold partsOk lastOk nt
  rw [List.dropLast_concat, List.getLastD_concat, List.length_append]
  simp
theorem snoc_of {l : List ByteArray} (h : l ≠ []) : ∃ m x, l = m ++ [x] := ⟨l.dropLast, l.getLast h, (List.dropLast_concat_getLast h).symm⟩
theorem split_ne (c : UInt8) (s : ByteArray) : splitBy c s ≠ [] := List.length_pos_iff.1 (split_pos c s)
theorem parts_of_nt {l : List ByteArray} (hl : l ≠ []) (h : nt l = true) : partsOk l = true := by
  obtain ⟨m, x, rfl⟩ := snoc_of hl
  rw [nt_app] at h
  simp only [Bool.and_eq_true] at h
  have hx : tellsOk x.data.toList = false := by have := h.2; unfold nt at this; simpa using this
  rw [parts_snoc, h.1, hx]; rfl
theorem path_app {s a b : ByteArray} (h : s.data.toList = a.data.toList ++ 47 :: b.data.toList) : pathOk s = (decide (s.size ≤ 60) && ((splitC 47 a.data.toList).all partOk && (splitC 47 b.data.toList).all partOk)) := by
  unfold pathOk; rw [h, splitC_app, List.all_append]
theorem size_app {s a b : ByteArray} (h : s.data.toList = a.data.toList ++ 47 :: b.data.toList) : s.size = a.size + 1 + b.size := by
  rw [Lib.size_eq s, h, List.length_append, List.length_cons, ← Lib.size_eq, ← Lib.size_eq]; omega
theorem front_ok {s a b : ByteArray} (h : s.data.toList = a.data.toList ++ 47 :: b.data.toList) (hc : checkOk s = true) : checkOk a = true ∧ nt (splitBy 47 a) = true := by
  unfold checkOk at hc
  rw [path_app h, splitBy_app h] at hc
  have hz := size_app h
  obtain ⟨m, y, e⟩ := snoc_of (split_ne 47 b)
  rw [e, ← List.append_assoc, parts_snoc, nt_app] at hc
  simp only [Bool.and_eq_true, decide_eq_true_eq] at hc
  obtain ⟨⟨h1, h2, h3⟩, ⟨h4, h5⟩, h6⟩ := hc
  refine ⟨?_, h4⟩
  unfold checkOk pathOk
  rw [decide_eq_true (by omega), h2, parts_of_nt (split_ne 47 a) h4]; rfl
theorem last_of_app {s : ByteArray} {l : List ByteArray} {y : ByteArray} (h : splitBy 47 s = l ++ [y]) : lastPart s = y := by
  unfold lastPart; rw [h, List.getLastD_concat]
theorem majors_nt {a : ByteArray} (hc : checkOk a = true) (hn : nt (splitBy 47 a) = true) : majorsOf a = (a, 0, true) := by
  obtain ⟨m, x, e⟩ := snoc_of (split_ne 47 a)
  rw [e, nt_app] at hn
  simp only [Bool.and_eq_true] at hn
  have hx : tellsOk x.data.toList = false := by have := hn.2; unfold nt at this; simpa using this
  unfold majorsOf
  rw [if_pos hc, last_of_app e, hx]; rfl
/-- A path's last part either tells nothing, or a number behind the letter v. -/
theorem check_cases {s : ByteArray} (hc : checkOk s = true) : (nt (splitBy 47 s) = true ∧ majorsOf s = (s, 0, true)) ∨
    (tellsOk (lastPart s).data.toList = true ∧ numOf (lastPart s).data.toList ≠ 0 ∧ 1 < (splitBy 47 s).length ∧ majorsOf s = (baseOf s, numOf (lastPart s).data.toList, true)) := by
  obtain ⟨m, x, e⟩ := snoc_of (split_ne 47 s)
  have hl := last_of_app e
  have hc' := hc
  unfold checkOk at hc'
  rw [e, parts_snoc] at hc'
  simp only [Bool.and_eq_true] at hc'
  obtain ⟨h1, h2, h3⟩ := hc'
  cases ht : tellsOk x.data.toList with
  | false =>
    left
    have hn : nt (splitBy 47 s) = true := by
      rw [e, nt_app, h2]; unfold nt; simp [ht]
    exact ⟨hn, majors_nt hc hn⟩
  | true =>
    right
    rw [ht] at h3
    simp at h3
    rw [hl, e, List.length_append]
    refine ⟨ht, h3.1, by simp; exact h3.2, ?_⟩
    unfold majorsOf
    rw [if_pos hc, hl, if_pos ht]
end Go.Proofs.YtpkhemnngjmcjaaDoor
