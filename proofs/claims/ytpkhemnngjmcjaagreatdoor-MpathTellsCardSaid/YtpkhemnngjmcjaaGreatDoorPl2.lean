/- Plain laws, the second part: paths, versions. -/
import Derived.Test.YtpkhemnngjmcjaaGreatDoorPl
import Derived.Test.YtpkhemnngjmcjaaGreatDoorPath
import Derived.Test.YtpkhemnngjmcjaaGreatDoorVerCheck
namespace Go.Proofs.YtpkhemnngjmcjaaGreatDoor
open Go Go.RowKit Go.Proofs.YtpkhemnngjmcjaaGreatDoorW.PrintWords Go.Proofs.YtpkhemnngjmcjaaGreatDoor.K0 Go.Proofs.YtpkhemnngjmcjaaGreatDoor.R1
set_option linter.unusedVariables false
set_option linter.unusedSimpArgs false

theorem rd_at {l : List ByteArray} {n : Nat} (h : n < l.length) : ∃ x, rdOf ByteArray.empty l (n : Int) = x ∧ l.drop n = x :: l.drop (n + 1) ∧ l[n]? = some x := by
  refine ⟨l[n], ?_, List.drop_eq_getElem_cons h, List.getElem?_eq_getElem h⟩
  unfold rdOf
  show l.getD n _ = _
  rw [List.getD_eq_getElem?_getD, List.getElem?_eq_getElem h]; rfl
theorem allM_all {f : ByteArray → Option Bool} {p : ByteArray → Bool} : ∀ {l : List ByteArray}, (∀ x ∈ l, f x = some (p x)) → allM f l = some (l.all p)
  | [], _ => rfl
  | x :: xs, h => by
    unfold allM
    rw [h x List.mem_cons_self]
    simp only [Option.bind_some, List.all_cons]
    have ih := allM_all (fun y hy => h y (List.mem_cons_of_mem x hy))
    cases p x <;> simp [ih]
theorem split_size {c : UInt8} {s x : ByteArray} (h : x ∈ splitBy c s) : x.size ≤ s.size := by
  unfold splitBy at h
  obtain ⟨l, hl, rfl⟩ := List.mem_map.1 h
  rw [ba_size, Lib.size_eq]
  exact (splitC_parts hl).2
theorem all_split (c : UInt8) (s : ByteArray) (p : List UInt8 → Bool) : ((splitBy c s).all fun x => p x.data.toList) = (splitC c s.data.toList).all p := by
  unfold splitBy
  rw [List.all_map]
  rfl
def pathOk (s : ByteArray) : Bool := decide (s.size ≤ 60) && (splitC 47 s.data.toList).all partOk
theorem files_Path_f (s : ByteArray) (k : Nat) (hk : 60 < k) : files_Path.f k s = some (pathOk s) := by
  unfold files_Path.f pathOk
  by_cases h : (s.size : Int) > 60
  · rw [if_pos h, decide_eq_false (by omega)]; rfl
  · rw [if_neg h, decide_eq_true (by omega), ← all_split]
    exact allM_all fun x hx => files_part_f x (by have := split_size hx; omega) k (by have := split_size hx; omega)
theorem ref_Path_l0 (l : List ByteArray) (hl : l.length ≤ 4294967290) (B : Nat) (hB : B ≤ 4294967290) (hx : ∀ x ∈ l, x.size ≤ B) : ∀ (d n k : Nat), l.length - n = d → n ≤ l.length → d + B < k →
    armadaref05_Path.l0 k l (n : Int) = some ((l.drop n).all fun x => partOk x.data.toList) := by
  intro d
  induction d with
  | zero =>
    intro n k hd hn hk
    obtain ⟨k, rfl⟩ : ∃ m, k = m + 1 := ⟨k - 1, by omega⟩
    simp only [armadaref05_Path.l0]
    rw [if_neg (by omega), List.drop_eq_nil_of_le (by omega)]; rfl
  | succ d ih =>
    intro n k hd hn hk
    obtain ⟨k, rfl⟩ : ∃ m, k = m + 1 := ⟨k - 1, by omega⟩
    obtain ⟨x, h1, h2, h3⟩ := rd_at (l := l) (n := n) (by omega)
    have hm : x ∈ l := List.mem_of_getElem? h3
    have := hx x hm
    simp only [armadaref05_Path.l0]
    rw [if_pos (by omega), if_pos (by omega), h1, ref_part_f x (by omega) k (by omega), wrap_succ (by omega), ih (n + 1) k (by omega) (by omega) (by omega), h2, List.all_cons]
    simp only [Option.bind_some]
    cases partOk x.data.toList <;> simp
theorem split_len (c : UInt8) (s : ByteArray) : (splitBy c s).length ≤ s.size + 1 := by
  unfold splitBy
  rw [List.length_map, splitC_length, Lib.size_eq]
  have := List.count_le_length (a := c) (l := s.data.toList)
  omega
theorem ref_Path_f (s : ByteArray) (k : Nat) (hk : 200 < k) : armadaref05_Path.f k s = some (pathOk s) := by
  unfold armadaref05_Path.f pathOk
  by_cases h : (s.size : Int) > 60
  · rw [if_pos h, decide_eq_false (by omega)]; rfl
  · rw [if_neg h, decide_eq_true (by omega), ← all_split, show (47 : Int) = ((47 : UInt8).toNat : Int) from rfl, ref_split 47 s (by omega) k (by omega)]
    simp only [Option.bind_some, Bool.true_and]
    have hl := split_len 47 s
    rw [show (0 : Int) = ((0 : Nat) : Int) from rfl, ref_Path_l0 (splitBy 47 s) (by omega) 60 (by omega) (fun x hx => by have := split_size hx; omega) _ 0 k rfl (by omega) (by omega)]
    rfl

/-! ### Versions -/
def okId (z : Bool) (W : List UInt8) : Bool := wordOk W && (z || tightOk W)
def idsOk (z : Bool) (s : ByteArray) : Bool := (splitC 46 s.data.toList).all (okId z)
def preOk (s : ByteArray) : Bool := decide (s.size = 0) || idsOk false s
def buildOk (s : ByteArray) : Bool := decide (s.size = 0) || idsOk true s
def verOk (a b c : Int) (p q : ByteArray) : Bool := numB a && (numB b && (numB c && (decide (p.size ≤ 30) && (decide (q.size ≤ 30) && (preOk p && buildOk q)))))
theorem wordM_f (x : ByteArray) (z : Bool) (may : ByteArray → Option Bool) (k : Nat) (hs : x.size ≤ 4294967290) (hk : x.size < k) (hm : may x = some (z || tightOk x.data.toList)) : wordM k may x = some (okId z x.data.toList) := by
  unfold wordM okId
  rw [word_f x hs k hk, hm]
  simp only [Option.bind_some]
  cases wordOk x.data.toList <;> simp
theorem preM_f (s : ByteArray) (hs : s.size ≤ 30) (k : Nat) (hk : 30 < k) : preM k s = some (preOk s) := by
  unfold preM preOk
  by_cases h : s.size = 0
  · rw [if_pos h, decide_eq_true h]; rfl
  · rw [if_neg h, decide_eq_false h, Bool.false_or]
    unfold idsOk
    rw [← all_split]
    exact allM_all fun x hx => by
      have := split_size hx
      exact wordM_f x false _ k (by omega) (by omega) (by rw [Bool.false_or]; exact tight_f x (by omega) k (by omega))
theorem buildM_f (s : ByteArray) (hs : s.size ≤ 30) (k : Nat) (hk : 30 < k) : buildM k s = some (buildOk s) := by
  unfold buildM buildOk
  by_cases h : s.size = 0
  · rw [if_pos h, decide_eq_true h]; rfl
  · rw [if_neg h, decide_eq_false h, Bool.false_or]
    unfold idsOk
    rw [← all_split]
    exact allM_all fun x hx => by
      have := split_size hx
      exact wordM_f x true _ k (by omega) (by omega) rfl
theorem ver_Check_f (a b c : Int) (p q : ByteArray) (k : Nat) (hk : 30 < k) : ver_Check.f k a b c p q = some (verOk a b c p q) := by
  unfold ver_Check.f verOk
  cases numB a <;> cases numB b <;> cases numB c <;> simp only [if_true, if_false, Bool.false_eq_true, Bool.true_and, Bool.false_and]
  by_cases h3 : (p.size : Int) > 30
  · rw [if_pos h3, decide_eq_false (by omega)]; rfl
  · rw [if_neg h3, decide_eq_true (by omega)]
    by_cases h4 : (q.size : Int) > 30
    · rw [if_pos h4, decide_eq_false (by omega)]; rfl
    · rw [if_neg h4, decide_eq_true (by omega), preM_f p (by omega) k hk, buildM_f q (by omega) k hk]
      simp only [Option.bind_some]
      cases preOk p <;> simp
theorem ident_l1 (z : Bool) (l : List ByteArray) (i : Nat) (W : ByteArray) (hi : i < l.length) (hl : l.length ≤ 4294967290) (hW : rdOf ByteArray.empty l (i : Int) = W) (hs : W.size ≤ 4294967290) (r0 : Bool)
    (hnext : Ev (fun k => armadaref07_identifiers.l0 k z l ((i + 1 : Nat) : Int)) r0) : ∀ (d n : Nat), W.size - n = d → n ≤ W.size →
    Ev (fun k => armadaref07_identifiers.l1 k z l (i : Int) (n : Int)) ((W.data.toList.drop n).all isIdent && (!W.data.toList.isEmpty && ((z || tightOk W.data.toList) && r0))) := by
  intro d
  induction d with
  | zero =>
    intro n hd hn
    obtain ⟨K, hK⟩ := hnext
    dsimp only at hK
    refine ⟨max K (W.size + 1) + 1, fun k hk => ?_⟩
    obtain ⟨k, rfl⟩ : ∃ m, k = m + 1 := ⟨k - 1, by omega⟩
    have hk' := hK k (by omega)
    simp only [armadaref07_identifiers.l1]
    rw [if_pos (by omega), if_pos (by omega), hW, if_neg (by omega), scan_end (by omega), wrap_succ (by omega), hk', ref_digits_f W hs k (by omega), ByteArray.toList_eq]
    simp only [Option.bind_some, List.all_nil, Bool.true_and]
    by_cases h1 : W.data.toList = []
    · rw [if_pos h1, h1]; rfl
    · rw [if_neg h1, show W.data.toList.isEmpty = false from by rw [List.isEmpty_eq_false_iff]; exact h1]
      cases z with
      | true => simp
      | false =>
        simp only [Bool.false_eq_true, if_false, Bool.false_or, Bool.not_false, Bool.true_and]
        have hsz : W.size = W.data.toList.length := Lib.size_eq W
        have hpos : 0 < W.size := by rw [hsz]; exact List.length_pos_iff.2 h1
        obtain ⟨b, hb, hd2⟩ := scan (s := W) (n := 0) hpos
        rw [List.drop_zero] at hd2
        have hb' : bt W 0 = (b.toNat : Int) := hb
        rw [hb']
        unfold tightOk
        by_cases hd3 : digitsOk W.data.toList = true
        · rw [hd3, if_pos rfl]
          by_cases h2 : (W.size : Int) > 1
          · rw [if_pos h2, if_pos (by omega), decide_eq_false (by omega)]
            rw [hd2]
            by_cases h : b = 48
            · subst h; simp
            · have : ¬ ((b.toNat : Int) = 48) := fun e => h (UInt8.toNat_inj.1 (by show b.toNat = 48; omega))
              rw [if_neg this]
              simp [h]
          · rw [if_neg h2, decide_eq_true (by omega)]; simp
        · have hd4 : digitsOk W.data.toList = false := by simpa using hd3
          rw [hd4]; simp
  | succ d ih =>
    intro n hd hn
    obtain ⟨K, hK⟩ := ih (n + 1) (by omega) (by omega)
    dsimp only at hK
    refine ⟨K + 1, fun k hk => ?_⟩
    obtain ⟨k, rfl⟩ : ∃ m, k = m + 1 := ⟨k - 1, by omega⟩
    have hk' := hK k (by omega)
    obtain ⟨b, hb, hd2⟩ := scan (s := W) (n := n) (by omega)
    simp only [armadaref07_identifiers.l1]
    rw [if_pos (by omega), if_pos (by omega), hW, if_pos (by omega), if_pos (by omega), hb, wrap_succ (by omega), hk', hd2, List.all_cons, Bool.and_assoc]
    generalize ((W.data.toList.drop (n + 1)).all isIdent && (!W.data.toList.isEmpty && ((z || tightOk W.data.toList) && r0))) = X
    have hm := b.toNat_lt
    clear ih hd2 hb hd hk hs hn hK hk' hnext hW
    unfold isIdent
    generalize b.toNat = m at hm ⊢
    revert X
    revert m
    decide +kernel
theorem ident_l0 (z : Bool) (l : List ByteArray) (hl : l.length ≤ 4294967290) (hx : ∀ x ∈ l, x.size ≤ 4294967290) : ∀ (d n : Nat), l.length - n = d → n ≤ l.length →
    Ev (fun k => armadaref07_identifiers.l0 k z l (n : Int)) ((l.drop n).all fun x => okId z x.data.toList) := by
  intro d
  induction d with
  | zero =>
    intro n hd hn
    refine ⟨1, fun k hk => ?_⟩
    obtain ⟨k, rfl⟩ : ∃ m, k = m + 1 := ⟨k - 1, by omega⟩
    simp only [armadaref07_identifiers.l0]
    rw [if_neg (by omega), List.drop_eq_nil_of_le (by omega)]; rfl
  | succ d ih =>
    intro n hd hn
    obtain ⟨x, h1, h2, h3⟩ := rd_at (l := l) (n := n) (by omega)
    have hm : x ∈ l := List.mem_of_getElem? h3
    obtain ⟨K, hK⟩ := ident_l1 z l n x (by omega) hl h1 (hx x hm) _ (ih (n + 1) (by omega) (by omega)) _ 0 rfl (by omega)
    dsimp only at hK
    refine ⟨K + 1, fun k hk => ?_⟩
    obtain ⟨k, rfl⟩ : ∃ m, k = m + 1 := ⟨k - 1, by omega⟩
    simp only [armadaref07_identifiers.l0]
    rw [if_pos (by omega), show (0 : Int) = ((0 : Nat) : Int) from rfl, hK k (by omega), h2, List.all_cons, List.drop_zero]
    unfold okId wordOk
    simp [Bool.and_assoc]
theorem ref_ident_f (z : Bool) (s : ByteArray) (hs : s.size ≤ 4294967280) : Ev (fun k => armadaref07_identifiers.f k s z) (idsOk z s) := by
  have hl := split_len 46 s
  obtain ⟨K, hK⟩ := ident_l0 z (splitBy 46 s) (by omega) (fun x hx => by have := split_size hx; omega) _ 0 rfl (by omega)
  refine ⟨max K (s.size + 2), fun k hk => ?_⟩
  show armadaref07_identifiers.f k s z = _
  unfold armadaref07_identifiers.f idsOk
  rw [show (46 : Int) = ((46 : UInt8).toNat : Int) from rfl, ref_split 46 s (by omega) k (by omega), ← all_split]
  exact hK k (by omega)
theorem ref_num_f (a : Int) : armadaref07_num.f a = some (numB a) := by
  unfold armadaref07_num.f numB
  split <;> rename_i h <;> simp <;> omega
theorem ref_ver_Check_f (a b c : Int) (p q : ByteArray) : Ev (fun k => armadaref07_Check.f k a b c p q) (verOk a b c p q) := by
  by_cases hp : p.size ≤ 30
  · by_cases hq : q.size ≤ 30
    · obtain ⟨K1, h1⟩ := ref_ident_f false p (by omega)
      obtain ⟨K2, h2⟩ := ref_ident_f true q (by omega)
      refine ⟨max K1 K2 + 2, fun k hk => ?_⟩
      obtain ⟨k, rfl⟩ : ∃ m, k = m + 1 := ⟨k - 1, by omega⟩
      have e1 := h1 k (by omega)
      have e2 := h2 k (by omega)
      simp only at e1 e2
      have hpe : (p.toList = ([] : List UInt8)) ↔ p.size = 0 := by rw [ByteArray.toList_eq, Lib.size_eq, List.length_eq_zero_iff]
      have hqe : (q.toList = ([] : List UInt8)) ↔ q.size = 0 := by rw [ByteArray.toList_eq, Lib.size_eq, List.length_eq_zero_iff]
      show armadaref07_Check.f (k + 1) a b c p q = _
      unfold armadaref07_Check.f verOk preOk buildOk
      simp only [ref_num_f, Option.bind_some, armadaref07_Check.j0, e1, e2]
      rw [if_neg (show ¬ ((p.size : Int) > 30) by omega), decide_eq_false (show ¬ ((q.size : Int) > 30) by omega), decide_eq_true hp, decide_eq_true hq]
      by_cases hp0 : p.size = 0 <;> by_cases hq0 : q.size = 0 <;> cases numB a <;> cases numB b <;> cases numB c <;> cases idsOk false p <;> cases idsOk true q <;> simp [hpe, hqe, hp0, hq0]
    · refine ⟨1, fun k hk => ?_⟩
      obtain ⟨k, rfl⟩ : ∃ m, k = m + 1 := ⟨k - 1, by omega⟩
      show armadaref07_Check.f (k + 1) a b c p q = _
      unfold armadaref07_Check.f verOk
      simp only [ref_num_f, Option.bind_some, armadaref07_Check.j0]
      rw [if_neg (show ¬ ((p.size : Int) > 30) by omega), decide_eq_true (show (q.size : Int) > 30 by omega), decide_eq_false hq]
      cases numB a <;> cases numB b <;> cases numB c <;> simp
  · refine ⟨1, fun k hk => ?_⟩
    obtain ⟨k, rfl⟩ : ∃ m, k = m + 1 := ⟨k - 1, by omega⟩
    show armadaref07_Check.f (k + 1) a b c p q = _
    unfold armadaref07_Check.f verOk
    simp only [ref_num_f, Option.bind_some, armadaref07_Check.j0]
    rw [if_pos (show (p.size : Int) > 30 by omega), decide_eq_false hp]
    cases numB a <;> cases numB b <;> cases numB c <;> simp
end Go.Proofs.YtpkhemnngjmcjaaGreatDoor
