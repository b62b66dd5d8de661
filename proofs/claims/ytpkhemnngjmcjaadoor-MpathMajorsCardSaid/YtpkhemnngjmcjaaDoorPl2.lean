/- Plain laws, the second part: paths, versions. -/
import Derived.Test.YtpkhemnngjmcjaaDoorPl
import Derived.Test.YtpkhemnngjmcjaaDoorPath
import Derived.Test.YtpkhemnngjmcjaaDoorVerCheck
namespace Go.Proofs.YtpkhemnngjmcjaaDoor
open Go Go.RowKit Go.Proofs.YtpkhemnngjmcjaaDoorW.PrintWords Go.Proofs.YtpkhemnngjmcjaaDoor.K0 Go.Proofs.YtpkhemnngjmcjaaDoor.R1
set_option linter.unusedVariables false
set_option linter.unusedSimpArgs false

theorem rd_at {l : List ByteArray} {n : Nat} (h : n < l.length) : ∃ x, rdOf ByteArray.empty l (n : Int) = x ∧ l.drop n = x :: l.drop (n + 1) ∧ l[n]? = some x := by
  refine ⟨l[n], ?_, List.drop_eq_getElem_cons h, List.getElem?_eq_getElem h⟩
  unfold rdOf
  show l.getD n _ = _
  rw [List.getD_eq_getElem?_getD, List.getElem?_eq_getElem h]; rfl
theorem allM_all {f : ByteArray → Option Bool} {p : ByteArray → Bool} : ∀ {l : List ByteArray}, (∀ x ∈ l, f x = some (p x)) → allM f l = some (l.all p)
  | [], _ => rfl
  | x :: xs, h => by
    unfold allM
    rw [h x List.mem_cons_self]
    simp only [Option.bind_some, List.all_cons]
    have ih := allM_all (fun y hy => h y (List.mem_cons_of_mem x hy))
    cases p x <;> simp [ih]
theorem split_size {c : UInt8} {s x : ByteArray} (h : x ∈ splitBy c s) : x.size ≤ s.size := by
  unfold splitBy at h
  obtain ⟨l, hl, rfl⟩ := List.mem_map.1 h
  rw [ba_size, Lib.size_eq]
  exact (splitC_parts hl).2
theorem all_split (c : UInt8) (s : ByteArray) (p : List UInt8 → Bool) : ((splitBy c s).all fun x => p x.data.toList) = (splitC c s.data.toList).all p := by
  unfold splitBy
  rw [List.all_map]
  rfl
def pathOk (s : ByteArray) : Bool := decide (s.size ≤ 60) && (splitC 47 s.data.toList).all partOk
theorem files_Path_f (s : ByteArray) (k : Nat) (hk : 60 < k) : files_Path.f k s = some (pathOk s) := by
  unfold files_Path.f pathOk
  by_cases h : (s.size : Int) > 60
  · rw [if_pos h, decide_eq_false (by omega)]; rfl
  · rw [if_neg h, decide_eq_true (by omega), ← all_split]
    exact allM_all fun x hx => files_part_f x (by have := split_size hx; omega) k (by have := split_size hx; omega)
theorem ref_Path_l0 (l : List ByteArray) (hl : l.length ≤ 4294967290) (B : Nat) (hB : B ≤ 4294967290) (hx : ∀ x ∈ l, x.size ≤ B) : ∀ (d n k : Nat), l.length - n = d → n ≤ l.length → d + B < k →
    armadaref05_Path.l0 k l (n : Int) = some ((l.drop n).all fun x => partOk x.data.toList) := by
  intro d
  induction d with
  | zero =>
    intro n k hd hn hk
    obtain ⟨k, rfl⟩ : ∃ m, k = m + 1 := ⟨k - 1, by omega⟩
    simp only [armadaref05_Path.l0]
    rw [if_neg (by omega), List.drop_eq_nil_of_le (by omega)]; rfl
  | succ d ih =>
    intro n k hd hn hk
    obtain ⟨k, rfl⟩ : ∃ m, k = m + 1 := ⟨k - 1, by omega⟩
    obtain ⟨x, h1, h2, h3⟩ := rd_at (l := l) (n := n) (by omega)
    have hm : x ∈ l := List.mem_of_getElem? h3
    have := hx x hm
    simp only [armadaref05_Path.l0]
    rw [if_pos (by omega), if_pos (by omega), h1, ref_part_f x (by omega) k (by omega), wrap_succ (by omega), ih (n + 1) k (by omega) (by omega) (by omega), h2, List.all_cons]
    simp only [Option.bind_some]
    cases partOk x.data.toList <;> simp
theorem split_len (c : UInt8) (s : ByteArray) : (splitBy c s).length ≤ s.size + 1 := by
  unfold splitBy
  rw [List.length_map, splitC_length, Lib.size_eq]
  have := List.count_le_length (a := c) (l := s.data.toList)
  omega
theorem ref_Path_f (s : ByteArray) (k : Nat) (hk : 200 < k) : armadaref05_Path.f k s = some (pathOk s) := by
  unfold armadaref05_Path.f pathOk
  by_cases h : (s.size : Int) > 60
  · rw [if_pos h, decide_eq_false (by omega)]; rfl
  · rw [if_neg h, decide_eq_true (by omega), ← all_split, show (47 : Int) = ((47 : UInt8).toNat : Int) from rfl, ref_split 47 s (by omega) k (by omega)]
    simp only [Option.bind_some, Bool.true_and]
    have hl := split_len 47 s
    rw [show (0 : Int) = ((0 : Nat) : Int) from rfl, ref_Path_l0 (splitBy 47 s) (by omega) 60 (by omega) (fun x hx => by have := split_size hx; omega) _ 0 k rfl (by omega) (by omega)]
    rfl

/-! ### Versions -/
def okId (z : Bool) (W : List UInt8) : Bool := wordOk W && (z || tightOk W)
def idsOk (z : Bool) (s : ByteArray) : Bool := (splitC 46 s.data.toList).all (okId z)
def preOk (s : ByteArray) : Bool := decide (s.size = 0) || idsOk false s
def buildOk (s : ByteArray) : Bool := decide (s.size = 0) || idsOk true s
def verOk (a b c : Int) (p q : ByteArray) : Bool := numB a && (numB b && (numB c && (decide (p.size ≤ 30) && (decide (q.size ≤ 30) && (preOk p && buildOk q)))))
theorem wordM_f (x : ByteArray) (z : Bool) (may : ByteArray → Option Bool) (k : Nat) (hs : x.size ≤ 4294967290) (hk : x.size < k) (hm : may x = some (z || tightOk x.data.toList)) : wordM k may x = some (okId z x.data.toList) := by
  unfold wordM okId
  rw [word_f x hs k hk, hm]
  simp only [Option.bind_some]
  cases wordOk x.data.toList <;> simp
theorem preM_f (s : ByteArray) (hs : s.size ≤ 30) (k : Nat) (hk : 30 < k) : preM k s = some (preOk s) := by
  unfold preM preOk
  by_cases h : s.size = 0
  · rw [if_pos h, decide_eq_true h]; rfl
  · rw [if_neg h, decide_eq_false h, Bool.false_or]
    unfold idsOk
    rw [← all_split]
    exact allM_all fun x hx => by
      have := split_size hx
      exact wordM_f x false _ k (by omega) (by omega) (by rw [Bool.false_or]; exact tight_f x (by omega) k (by omega))
theorem buildM_f (s : ByteArray) (hs : s.size ≤ 30) (k : Nat) (hk : 30 < k) : buildM k s = some (buildOk s) := by
  unfold buildM buildOk
  by_cases h : s.size = 0
  · rw [if_pos h, decide_eq_true h]; rfl
  · rw [if_neg h, decide_eq_false h, Bool.false_or]
    unfold idsOk
    rw [← all_split]
    exact allM_all fun x hx => by
      have := split_size hx
      exact wordM_f x true _ k (by omega) (by omega) rfl
theorem ver_Check_f (a b c : Int) (p q : ByteArray) (k : Nat) (hk : 30 < k) : ver_Check.f k a b c p q = some (verOk a b c p q) := by
  unfold ver_Check.f verOk
  cases numB a <;> cases numB b <;> cases numB c <;> simp only [if_true, if_false, Bool.false_eq_true, Bool.true_and, Bool.false_and]
  by_cases h3 : (p.size : Int) > 30
  · rw [if_pos h3, decide_eq_false (by omega)]; rfl
  · rw [if_neg h3, decide_eq_true (by omega)]
    by_cases h4 : (q.size : Int) > 30
    · rw [if_pos h4, decide_eq_false (by omega)]; rfl
    · rw [if_neg h4, decide_eq_true (by omega), preM_f p (by omega) k hk, buildM_f q (by omega) k hk]
      simp only [Option.bind_some]
      cases preOk p <;> simp
end Go.Proofs.YtpkhemnngjmcjaaDoor
