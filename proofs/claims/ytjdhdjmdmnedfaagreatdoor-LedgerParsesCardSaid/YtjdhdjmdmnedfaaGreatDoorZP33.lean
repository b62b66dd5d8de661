/- The texts PlR, RefC, LRl in one file, without what these claims do not use (put together by prune2.py). -/
import Derived.Test.YtjdhdjmdmnedfaaGreatDoorZP18
import Derived.Test.YtjdhdjmdmnedfaaGreatDoorZP32
import Derived.Test.YtjdhdjmdmnedfaaGreatDoorZP14
import Derived.Test.YtjdhdjmdmnedfaaGreatDoorZP16
import Derived.Test.YtjdhdjmdmnedfaaGreatDoorZP31
section
namespace Go.Proofs.YtjdhdjmdmnedfaaGreatDoor
open Go Go.RowKit Go.Proofs.YtjdhdjmdmnedfaaGreatDoorW.PrintWords Go.Proofs.YtjdhdjmdmnedfaaGreatDoor.K0 Go.Proofs.YtjdhdjmdmnedfaaGreatDoor.R1 Go.Proofs.YtjdhdjmdmnedfaaGreatDoor.R2 Go.Proofs.YtjdhdjmdmnedfaaGreatDoor.RD
set_option linter.unusedVariables false
set_option linter.unusedSimpArgs false
theorem ref_digits_l0 (s : ByteArray) (hs : s.size ≤ 4294967290) : ∀ (d n k : Nat), s.size - n = d → n ≤ s.size → d < k →
    armadaref07_digits.l0 k s (n : Int) = some ((s.data.toList.drop n).all isDig && !s.data.toList.isEmpty) := by
  intro d
  induction d with
  | zero =>
    intro n k hd hn hk
    obtain ⟨k, rfl⟩ : ∃ m, k = m + 1 := ⟨k - 1, by omega⟩
    simp only [armadaref07_digits.l0]
    rw [if_neg (by omega), scan_end (by omega), toList_ne]
    rfl
  | succ d ih =>
    intro n k hd hn hk
    obtain ⟨k, rfl⟩ : ∃ m, k = m + 1 := ⟨k - 1, by omega⟩
    obtain ⟨b, hb, hd2⟩ := scan (s := s) (n := n) (by omega)
    simp only [armadaref07_digits.l0]
    rw [if_pos (by omega), if_pos (by omega), hb, wrap_succ (by omega), ih (n + 1) k (by omega) (by omega) (by omega), hd2, List.all_cons, Bool.and_assoc]
    generalize ((s.data.toList.drop (n + 1)).all isDig && !s.data.toList.isEmpty) = X
    have hm := b.toNat_lt
    clear ih hd2 hb hd hk hs hn
    unfold isDig
    generalize b.toNat = m at hm ⊢
    revert X
    revert m
    decide +kernel
theorem ref_digits_f (s : ByteArray) (hs : s.size ≤ 4294967290) (k : Nat) (hk : s.size < k) : armadaref07_digits.f k s = some (digitsOk s.data.toList) := by
  unfold armadaref07_digits.f digitsOk
  rw [show (0 : Int) = ((0 : Nat) : Int) from rfl, ref_digits_l0 s hs s.size 0 k (by omega) (by omega) hk]
  simp
theorem ident_l1 (z : Bool) (l : List ByteArray) (i : Nat) (W : ByteArray) (hi : i < l.length) (hl : l.length ≤ 4294967290) (hW : rdOf ByteArray.empty l (i : Int) = W) (hs : W.size ≤ 4294967290) (r0 : Bool)
    (hnext : Ev (fun k => armadaref07_identifiers.l0 k z l ((i + 1 : Nat) : Int)) r0) : ∀ (d n : Nat), W.size - n = d → n ≤ W.size →
    Ev (fun k => armadaref07_identifiers.l1 k z l (i : Int) (n : Int)) ((W.data.toList.drop n).all isIdent && (!W.data.toList.isEmpty && ((z || tightOk W.data.toList) && r0))) := by
  intro d
  induction d with
  | zero =>
    intro n hd hn
    obtain ⟨K, hK⟩ := hnext
    dsimp only at hK
    refine ⟨max K (W.size + 1) + 1, fun k hk => ?_⟩
    obtain ⟨k, rfl⟩ : ∃ m, k = m + 1 := ⟨k - 1, by omega⟩
    have hk' := hK k (by omega)
    simp only [armadaref07_identifiers.l1]
    rw [if_pos (by omega), if_pos (by omega), hW, if_neg (by omega), scan_end (by omega), wrap_succ (by omega), hk', ref_digits_f W hs k (by omega), ByteArray.toList_eq]
    simp only [Option.bind_some, List.all_nil, Bool.true_and]
    by_cases h1 : W.data.toList = []
    · rw [if_pos h1, h1]; rfl
    · rw [if_neg h1, show W.data.toList.isEmpty = false from by rw [List.isEmpty_eq_false_iff]; exact h1]
      cases z with
      | true => simp
      | false =>
        simp only [Bool.false_eq_true, if_false, Bool.false_or, Bool.not_false, Bool.true_and]
        have hsz : W.size = W.data.toList.length := Lib.size_eq W
        have hpos : 0 < W.size := by rw [hsz]; exact List.length_pos_iff.2 h1
        obtain ⟨b, hb, hd2⟩ := scan (s := W) (n := 0) hpos
        rw [List.drop_zero] at hd2
        have hb' : bt W 0 = (b.toNat : Int) := hb
        rw [hb']
        unfold tightOk
        by_cases hd3 : digitsOk W.data.toList = true
        · rw [hd3, if_pos rfl]
          by_cases h2 : (W.size : Int) > 1
          · rw [if_pos h2, if_pos (by omega), decide_eq_false (by omega)]
            rw [hd2]
            by_cases h : b = 48
            · subst h; simp
            · have : ¬ ((b.toNat : Int) = 48) := fun e => h (UInt8.toNat_inj.1 (by show b.toNat = 48; omega))
              rw [if_neg this]
              simp [h]
          · rw [if_neg h2, decide_eq_true (by omega)]; simp
        · have hd4 : digitsOk W.data.toList = false := by simpa using hd3
          rw [hd4]; simp
  | succ d ih =>
    intro n hd hn
    obtain ⟨K, hK⟩ := ih (n + 1) (by omega) (by omega)
    dsimp only at hK
    refine ⟨K + 1, fun k hk => ?_⟩
    obtain ⟨k, rfl⟩ : ∃ m, k = m + 1 := ⟨k - 1, by omega⟩
    have hk' := hK k (by omega)
    obtain ⟨b, hb, hd2⟩ := scan (s := W) (n := n) (by omega)
    simp only [armadaref07_identifiers.l1]
    rw [if_pos (by omega), if_pos (by omega), hW, if_pos (by omega), if_pos (by omega), hb, wrap_succ (by omega), hk', hd2, List.all_cons, Bool.and_assoc]
    generalize ((W.data.toList.drop (n + 1)).all isIdent && (!W.data.toList.isEmpty && ((z || tightOk W.data.toList) && r0))) = X
    have hm := b.toNat_lt
    clear ih hd2 hb hd hk hs hn hK hk' hnext hW
    unfold isIdent
    generalize b.toNat = m at hm ⊢
    revert X
    revert m
    decide +kernel
theorem ident_l0 (z : Bool) (l : List ByteArray) (hl : l.length ≤ 4294967290) (hx : ∀ x ∈ l, x.size ≤ 4294967290) : ∀ (d n : Nat), l.length - n = d → n ≤ l.length →
    Ev (fun k => armadaref07_identifiers.l0 k z l (n : Int)) ((l.drop n).all fun x => okId z x.data.toList) := by
  intro d
  induction d with
  | zero =>
    intro n hd hn
    refine ⟨1, fun k hk => ?_⟩
    obtain ⟨k, rfl⟩ : ∃ m, k = m + 1 := ⟨k - 1, by omega⟩
    simp only [armadaref07_identifiers.l0]
    rw [if_neg (by omega), List.drop_eq_nil_of_le (by omega)]; rfl
  | succ d ih =>
    intro n hd hn
    obtain ⟨x, h1, h2, h3⟩ := rd_at (l := l) (n := n) (by omega)
    have hm : x ∈ l := List.mem_of_getElem? h3
    obtain ⟨K, hK⟩ := ident_l1 z l n x (by omega) hl h1 (hx x hm) _ (ih (n + 1) (by omega) (by omega)) _ 0 rfl (by omega)
    dsimp only at hK
    refine ⟨K + 1, fun k hk => ?_⟩
    obtain ⟨k, rfl⟩ : ∃ m, k = m + 1 := ⟨k - 1, by omega⟩
    simp only [armadaref07_identifiers.l0]
    rw [if_pos (by omega), show (0 : Int) = ((0 : Nat) : Int) from rfl, hK k (by omega), h2, List.all_cons, List.drop_zero]
    unfold okId wordOk
    simp [Bool.and_assoc]
theorem ref_ident_f (z : Bool) (s : ByteArray) (hs : s.size ≤ 4294967280) : Ev (fun k => armadaref07_identifiers.f k s z) (idsOk z s) := by
  have hl := split_len 46 s
  obtain ⟨K, hK⟩ := ident_l0 z (splitBy 46 s) (by omega) (fun x hx => by have := split_size hx; omega) _ 0 rfl (by omega)
  refine ⟨max K (s.size + 2), fun k hk => ?_⟩
  show armadaref07_identifiers.f k s z = _
  unfold armadaref07_identifiers.f idsOk
  rw [show (46 : Int) = ((46 : UInt8).toNat : Int) from rfl, ref_split 46 s (by omega) k (by omega), ← all_split]
  exact hK k (by omega)
theorem ref_num_f (a : Int) : armadaref07_num.f a = some (numB a) := by
  unfold armadaref07_num.f numB
  split <;> rename_i h <;> simp <;> omega
theorem ref_ver_Check_f (a b c : Int) (p q : ByteArray) : Ev (fun k => armadaref07_Check.f k a b c p q) (verOk a b c p q) := by
  by_cases hp : p.size ≤ 30
  · by_cases hq : q.size ≤ 30
    · obtain ⟨K1, h1⟩ := ref_ident_f false p (by omega)
      obtain ⟨K2, h2⟩ := ref_ident_f true q (by omega)
      refine ⟨max K1 K2 + 2, fun k hk => ?_⟩
      obtain ⟨k, rfl⟩ : ∃ m, k = m + 1 := ⟨k - 1, by omega⟩
      have e1 := h1 k (by omega)
      have e2 := h2 k (by omega)
      simp only at e1 e2
      have hpe : (p.toList = ([] : List UInt8)) ↔ p.size = 0 := by rw [ByteArray.toList_eq, Lib.size_eq, List.length_eq_zero_iff]
      have hqe : (q.toList = ([] : List UInt8)) ↔ q.size = 0 := by rw [ByteArray.toList_eq, Lib.size_eq, List.length_eq_zero_iff]
      show armadaref07_Check.f (k + 1) a b c p q = _
      unfold armadaref07_Check.f verOk preOk buildOk
      simp only [ref_num_f, Option.bind_some, armadaref07_Check.j0, e1, e2]
      rw [if_neg (show ¬ ((p.size : Int) > 30) by omega), decide_eq_false (show ¬ ((q.size : Int) > 30) by omega), decide_eq_true hp, decide_eq_true hq]
      by_cases hp0 : p.size = 0 <;> by_cases hq0 : q.size = 0 <;> cases numB a <;> cases numB b <;> cases numB c <;> cases idsOk false p <;> cases idsOk true q <;> simp [hpe, hqe, hp0, hq0]
    · refine ⟨1, fun k hk => ?_⟩
      obtain ⟨k, rfl⟩ : ∃ m, k = m + 1 := ⟨k - 1, by omega⟩
      show armadaref07_Check.f (k + 1) a b c p q = _
      unfold armadaref07_Check.f verOk
      simp only [ref_num_f, Option.bind_some, armadaref07_Check.j0]
      rw [if_neg (show ¬ ((p.size : Int) > 30) by omega), decide_eq_true (show (q.size : Int) > 30 by omega), decide_eq_false hq]
      cases numB a <;> cases numB b <;> cases numB c <;> simp
  · refine ⟨1, fun k hk => ?_⟩
    obtain ⟨k, rfl⟩ : ∃ m, k = m + 1 := ⟨k - 1, by omega⟩
    show armadaref07_Check.f (k + 1) a b c p q = _
    unfold armadaref07_Check.f verOk
    simp only [ref_num_f, Option.bind_some, armadaref07_Check.j0]
    rw [if_pos (show (p.size : Int) > 30 by omega), decide_eq_false hp]
    cases numB a <;> cases numB b <;> cases numB c <;> simp
theorem tells_l0 (s : ByteArray) (hs : s.size ≤ 4294967290) : ∀ (d n k : Nat), s.size - n = d → n ≤ 4294967290 → d < k →
    armadaref08_tells.l0 k s (n : Int) = some ((s.data.toList.drop n).all isDig && (decide (1 < s.size) && (s.data.toList.head? == some 118))) := by
  intro d
  induction d with
  | zero =>
    intro n k hd hn hk
    obtain ⟨k, rfl⟩ : ∃ m, k = m + 1 := ⟨k - 1, by omega⟩
    simp only [armadaref08_tells.l0]
    rw [if_neg (by omega), scan_end (by omega)]
    by_cases h : 1 < s.size
    · obtain ⟨b, hb, hh⟩ := head_bt (s := s) (by omega)
      rw [if_pos (by omega), if_pos (by omega), decide_eq_true h, hb, hh, show (118 : Int) = ((118 : Nat) : Int) from rfl, byte_eq b 118 (by omega)]
      simp
    · rw [if_neg (by omega), decide_eq_false h]; simp
  | succ d ih =>
    intro n k hd hn hk
    obtain ⟨k, rfl⟩ : ∃ m, k = m + 1 := ⟨k - 1, by omega⟩
    obtain ⟨b, hb, hd2⟩ := scan (s := s) (n := n) (by omega)
    simp only [armadaref08_tells.l0]
    rw [if_pos (by omega), if_pos (by omega), hb, wrap_succ (by omega), ih (n + 1) k (by omega) (by omega) (by omega), hd2, List.all_cons, Bool.and_assoc]
    generalize ((s.data.toList.drop (n + 1)).all isDig && (decide (1 < s.size) && (s.data.toList.head? == some 118))) = X
    have hm := b.toNat_lt
    clear ih hd2 hb hd hk hs hn
    unfold isDig
    generalize b.toNat = m at hm ⊢
    revert X
    revert m
    decide +kernel
theorem tells_f (s : ByteArray) (hs : s.size ≤ 4294967290) (k : Nat) (hk : s.size < k) : armadaref08_tells.f k s = some (tellsOk s.data.toList) := by
  unfold armadaref08_tells.f tellsOk
  rw [show (1 : Int) = ((1 : Nat) : Int) from rfl, tells_l0 s hs _ 1 k rfl (by omega) (by omega), ← Lib.size_eq]
  congr 1
  cases (s.data.toList.drop 1).all isDig <;> cases decide (1 < s.size) <;> simp
theorem number_l0 (s : ByteArray) (hs : s.size ≤ 4294967290) : ∀ (d n x k : Nat), s.size - n = d → n ≤ 4294967290 → (s.data.toList.drop n).all isDig = true → valFrom x (s.data.toList.drop n) < 10000000000 → d < k →
    armadaref08_number.l0 k s (x : Int) (n : Int) = some (if valFrom x (s.data.toList.drop n) < 2 then 0 else (valFrom x (s.data.toList.drop n) : Int)) := by
  intro d
  induction d with
  | zero =>
    intro n x k hd hn hall hv hk
    obtain ⟨k, rfl⟩ : ∃ m, k = m + 1 := ⟨k - 1, by omega⟩
    simp only [armadaref08_number.l0]
    rw [if_neg (by omega), scan_end (by omega)]
    show _ = some (if x < 2 then (0 : Int) else (x : Int))
    by_cases h : x < 2
    · rw [if_pos (by omega), if_pos h]
    · rw [if_neg (by omega), if_neg h]
  | succ d ih =>
    intro n x k hd hn hall hv hk
    obtain ⟨k, rfl⟩ : ∃ m, k = m + 1 := ⟨k - 1, by omega⟩
    obtain ⟨b, hb, hd2⟩ := scan (s := s) (n := n) (by omega)
    rw [hd2] at hall hv ⊢
    rw [List.all_cons, Bool.and_eq_true] at hall
    have hbd : 48 ≤ b.toNat ∧ b.toNat ≤ 57 := by
      have h1 := hall.1; unfold isDig digN at h1; simpa using h1
    have hvv : valFrom x (b :: s.data.toList.drop (n + 1)) = valFrom (x * 10 + (b.toNat - 48)) (s.data.toList.drop (n + 1)) := rfl
    rw [hvv] at hv ⊢
    have hle : x * 10 + (b.toNat - 48) < 10000000000 := by
      have hge := valFrom_ge (s.data.toList.drop (n + 1)) (x * 10 + (b.toNat - 48))
      have hp : 1 ≤ 10 ^ (s.data.toList.drop (n + 1)).length := Nat.pow_pos (by decide)
      exact Nat.lt_of_le_of_lt (Nat.le_trans (Nat.le_mul_of_pos_right _ hp) hge) hv
    have hh := fun h1 h2 => ih (n + 1) (x * 10 + (b.toNat - 48)) k h1 h2 hall.2 hv
    clear ih hvv hall
    generalize valFrom (x * 10 + (b.toNat - 48)) (s.data.toList.drop (n + 1)) = V at hv hh ⊢
    simp only [armadaref08_number.l0]
    rw [if_pos (by omega), if_pos (by omega), hb, wrap_succ (by omega)]
    rw [wrap_id (z := 10 * (x : Int)) (by omega) (by omega), wrap_id (z := (b.toNat : Int)) (by omega) (by omega),
      wrap_id (z := 10 * (x : Int) + (b.toNat : Int)) (by omega) (by omega), wrap_id (z := 10 * (x : Int) + (b.toNat : Int) - 48) (by omega) (by omega),
      show 10 * (x : Int) + (b.toNat : Int) - 48 = ((x * 10 + (b.toNat - 48) : Nat) : Int) by omega]
    exact hh (by omega) (by omega) (by omega)
theorem number_f (s : ByteArray) (ht : tellsOk s.data.toList = true) (k : Nat) (hk : s.size + 2 < k) (hs : s.size ≤ 4294967290) : armadaref08_number.f k s = some (numOf s.data.toList) := by
  obtain ⟨k, rfl⟩ : ∃ m, k = m + 1 := ⟨k - 1, by omega⟩
  have hsz : s.size = s.data.toList.length := Lib.size_eq s
  unfold tellsOk at ht
  simp only [Bool.and_eq_true, decide_eq_true_eq] at ht
  obtain ⟨⟨h1, h2⟩, h3⟩ := ht
  unfold armadaref08_number.f numOf
  by_cases h10 : (s.size : Int) > 10
  · rw [if_pos h10, if_pos (by omega)]
    simp [armadaref08_number.j0]
  · rw [if_neg h10, if_neg (show ¬ 10 < s.data.toList.length by omega), if_pos (show (1 : Int) < (s.size : Int) by omega)]
    obtain ⟨b, hb, hd⟩ := scan (s := s) (n := 1) (by omega)
    have hb' : bt s 1 = (b.toNat : Int) := hb
    rw [hb', show (48 : Int) = ((48 : Nat) : Int) from rfl, byte_eq b 48 (by omega)]
    simp only [armadaref08_number.j0]
    have hh : (s.data.toList.drop 1).head? = some b := by rw [hd]; rfl
    rw [hh]
    by_cases h48 : b = 48
    · subst h48; rfl
    · have hf : (some b == some (UInt8.ofNat 48)) = false := by simpa using h48
      rw [hf, if_neg (by simp), if_neg (by simpa using h48)]
      have hlt := val_lt _ h3
      have hlen : (s.data.toList.drop 1).length ≤ 9 := by rw [List.length_drop]; omega
      have hpow : 10 ^ (s.data.toList.drop 1).length ≤ 10 ^ 9 := Nat.pow_le_pow_right (by omega) hlen
      have := number_l0 s hs _ 1 0 k rfl (by omega) h3 (by unfold val at hlt; omega) (by omega)
      rw [show (1 : Int) = ((1 : Nat) : Int) from rfl, show (0 : Int) = ((0 : Nat) : Int) from rfl, this]
      rfl
theorem check_l0 (l : List ByteArray) (hl : l.length ≤ 4294967290) (B : Nat) (hB : B ≤ 4294967290) (hx : ∀ x ∈ l, x.size ≤ B) : ∀ (d n k : Nat), l.length - n = d → n ≤ l.length → d + B + 3 < k →
    armadaref08_Check.l0 k l (n : Int) = some (if n < l.length then ((l.dropLast.drop n).all fun x => !tellsOk x.data.toList) && lastOk l else true) := by
  intro d
  induction d with
  | zero =>
    intro n k hd hn hk
    obtain ⟨k, rfl⟩ : ∃ m, k = m + 1 := ⟨k - 1, by omega⟩
    simp only [armadaref08_Check.l0]
    rw [if_neg (by omega), if_neg (by omega)]
  | succ d ih =>
    intro n k hd hn hk
    obtain ⟨k, rfl⟩ : ∃ m, k = m + 1 := ⟨k - 1, by omega⟩
    obtain ⟨x, h1, h2, h3⟩ := rd_at (l := l) (n := n) (by omega)
    have hm : x ∈ l := List.mem_of_getElem? h3
    have hxs := hx x hm
    simp only [armadaref08_Check.l0]
    rw [if_pos (by omega), if_pos (by omega), h1, tells_f x (by omega) k (by omega), wrap_succ (by omega), ih (n + 1) k (by omega) (by omega) (by omega), if_pos (show n < l.length by omega)]
    simp only [Option.bind_some]
    rw [wrap_id (z := (l.length : Int) - 1) (by omega) (by omega)]
    by_cases hlast : n + 1 = l.length
    · have hgl : l.getLastD ByteArray.empty = x := by
        rw [List.getLastD_eq_getLast?, List.getLast?_eq_getElem?, show l.length - 1 = n by omega, h3]; rfl
      have hdl : l.dropLast.drop n = [] := List.drop_eq_nil_of_le (by rw [List.length_dropLast]; omega)
      rw [hdl, if_neg (show ¬ (n + 1 < l.length) by omega), if_neg (show ¬ ((n : Int) < (l.length : Int) - 1) by omega)]
      unfold lastOk
      rw [hgl]
      by_cases ht : tellsOk x.data.toList = true
      · rw [ht, if_pos rfl, number_f x ht k (by omega) (by omega)]
        simp only [Option.bind_some]
        by_cases h0 : n = 0
        · rw [if_pos (by omega), decide_eq_false (show ¬ (1 < l.length) by omega)]; simp
        · rw [if_neg (by omega), decide_eq_true (show 1 < l.length by omega)]
          by_cases hz : numOf x.data.toList = 0
          · rw [if_pos hz, decide_eq_true hz]; simp
          · rw [if_neg hz, decide_eq_false hz]; simp
      · have ht' : tellsOk x.data.toList = false := by simpa using ht
        rw [ht']; simp
    · have hdl : l.dropLast.drop n = x :: l.dropLast.drop (n + 1) := by
        have hl2 : n < l.dropLast.length := by rw [List.length_dropLast]; omega
        rw [List.drop_eq_getElem_cons hl2]
        congr 1
        rw [List.getElem_dropLast]
        rw [List.getElem?_eq_getElem (by omega)] at h3
        exact Option.some.inj h3
      rw [hdl, List.all_cons, if_pos (show n + 1 < l.length by omega), if_pos (show (n : Int) < (l.length : Int) - 1 by omega)]
      cases tellsOk x.data.toList <;> simp
theorem ref_Check_f (s : ByteArray) (k : Nat) (hk : 400 < k) : armadaref08_Check.f k s = some (checkOk s) := by
  unfold armadaref08_Check.f checkOk
  rw [ref_Path_f s k (by omega)]
  simp only [Option.bind_some]
  by_cases hp : pathOk s = true
  · have hs : s.size ≤ 60 := by
      unfold pathOk at hp; simp at hp; exact hp.1
    have hl := split_len 47 s
    rw [hp, if_pos rfl, show (47 : Int) = ((47 : UInt8).toNat : Int) from rfl, ref_split 47 s (by omega) k (by omega)]
    simp only [Option.bind_some, Bool.true_and]
    have hpos : 0 < (splitBy 47 s).length := by
      unfold splitBy; rw [List.length_map]; exact List.length_pos_iff.2 (splitC_ne 47 _)
    rw [show (0 : Int) = ((0 : Nat) : Int) from rfl, check_l0 (splitBy 47 s) (by omega) 60 (by omega) (fun x hx => by have := split_size hx; omega) _ 0 k rfl (by omega) (by omega), if_pos hpos]
    rfl
  · have hp' : pathOk s = false := by simpa using hp
    rw [hp', if_neg (by simp)]; rfl
theorem ref_Base_l0 (s : ByteArray) (hs : s.size ≤ 4294967290) : ∀ (n k : Nat) (x : Int), n ≤ s.size → n < k → x = (n : Int) - 1 → armadaref08_Base.l0 k s x = some (cutAt s (Lib.lastIdx s 47 n)) := by
  intro n
  induction n with
  | zero =>
    intro k x hn hk hx
    obtain ⟨k, rfl⟩ : ∃ m, k = m + 1 := ⟨k - 1, by omega⟩
    simp only [armadaref08_Base.l0]
    rw [if_neg (by omega)]
    rfl
  | succ n ih =>
    intro k x hn hk hx
    obtain ⟨k, rfl⟩ : ∃ m, k = m + 1 := ⟨k - 1, by omega⟩
    obtain rfl : x = (n : Int) := by omega
    obtain ⟨b, hb, hd⟩ := scan (s := s) (n := n) (by omega)
    have hb2 : s.data[n]! = b := by
      have : s.data.toList[n]? = some b := by
        have := congrArg List.head? hd
        rw [List.head?_drop] at this; exact this
      rw [Array.getElem?_toList] at this
      rw [getElem!_def, this]
    simp only [armadaref08_Base.l0]
    rw [if_pos (by omega), if_pos (by omega), if_pos (by omega), hb]
    by_cases h : (b.toNat : Int) = 47
    · rw [if_pos h, if_pos (by omega), Lib.lastIdx_hit s 47 n (by rw [hb2]; exact h)]
      unfold cutAt
      rw [if_neg (by omega)]
    · rw [if_neg h, Lib.lastIdx_miss s 47 n (by rw [hb2]; exact h)]
      exact ih k _ (by omega) (by omega) (wrap_id (by omega) (by omega))
theorem ref_Base_f (s : ByteArray) (hs : s.size ≤ 4294967290) (k : Nat) (hk : s.size < k) : armadaref08_Base.f k s = some (baseOf s) := by
  unfold armadaref08_Base.f
  exact ref_Base_l0 s hs s.size k _ (by omega) hk (wrap_id (by omega) (by omega))
theorem ref_Major_f (s : ByteArray) (k : Nat) (hk : 400 < k) : armadaref08_Major.f k s = some (majorsOf s) := by
  unfold armadaref08_Major.f majorsOf
  rw [ref_Check_f s k hk]
  simp only [Option.bind_some]
  by_cases hc : checkOk s = true
  · have hs := check_size hc
    have hL := last_size s
    have hl := split_len 47 s
    have hpos := split_pos 47 s
    rw [if_pos hc, if_pos hc, show (47 : Int) = ((47 : UInt8).toNat : Int) from rfl, ref_split 47 s (by omega) k (by omega)]
    simp only [Option.bind_some]
    rw [wrap_id (z := ((splitBy 47 s).length : Int) - 1) (by omega) (by omega), if_pos (by omega), if_pos (by omega)]
    obtain ⟨x, h1, h2, h3⟩ := rd_at (l := splitBy 47 s) (n := (splitBy 47 s).length - 1) (by omega)
    have hx : x = lastPart s := by
      unfold lastPart
      rw [List.getLastD_eq_getLast?, List.getLast?_eq_getElem?, h3]; rfl
    rw [show ((splitBy 47 s).length : Int) - 1 = (((splitBy 47 s).length - 1 : Nat) : Int) by omega, h1, hx, tells_f _ (by omega) k (by omega)]
    simp only [Option.bind_some]
    by_cases ht : tellsOk (lastPart s).data.toList = true
    · rw [if_pos ht, if_pos ht, ref_Base_f s (by omega) k (by omega), number_f _ ht k (by omega) (by omega)]; rfl
    · rw [if_neg ht, if_neg ht]
  · rw [if_neg hc, if_neg hc]
theorem ver_nonneg {a b c : Int} {p q : ByteArray} (h : verOk a b c p q = true) : 0 ≤ a := by
  unfold verOk numB at h; simp at h; omega
theorem ref_Fits_f (s : ByteArray) (a b c : Int) (p q : ByteArray) : Ev (fun k => armadaref08_Fits.f k s a b c p q) (fitsOk s a b c p q) := by
  obtain ⟨K, hK⟩ := ref_ver_Check_f a b c p q
  refine ⟨max K 401, fun k hk => ?_⟩
  unfold armadaref08_Fits.f fitsOk
  simp only
  rw [ref_Major_f s k (by omega)]
  simp only [Option.bind_some]
  have hK' := hK k (by omega)
  simp only at hK'
  rw [hK']
  simp only [Option.bind_some]
  generalize majorsOf s = M
  obtain ⟨m1, m2, m3⟩ := M
  cases m3
  · rfl
  · have h0 := @ver_nonneg a b c p q
    revert h0
    cases verOk a b c p q
    · intro _; rfl
    · intro h0
      have := h0 rfl
      by_cases h : m2 = 0
      · subst h
        by_cases h1 : a = 0
        · subst h1; simp
        · by_cases h2 : a = 1
          · subst h2; simp
          · have : ¬ a < 2 := by omega
            simp [h1, h2, this]
      · by_cases h1 : a = m2 <;> simp [h, h1]
end Go.Proofs.YtjdhdjmdmnedfaaGreatDoor
end

section
namespace Go.Proofs.YtjdhdjmdmnedfaaGreatDoor
open Go Go.RowKit Go.Proofs.YtjdhdjmdmnedfaaGreatDoorW.PrintWords Go.Proofs.YtjdhdjmdmnedfaaGreatDoor.K0 Go.Proofs.YtjdhdjmdmnedfaaGreatDoor.R1 Go.Proofs.YtjdhdjmdmnedfaaGreatDoor.RD
set_option linter.unusedVariables false
set_option linter.unusedSimpArgs false
theorem split_data (c : UInt8) (s : ByteArray) : (splitBy c s).map (·.data.toList) = splitC c s.data.toList := by
  unfold splitBy
  rw [List.map_map]
  exact (List.map_congr_left fun x _ => ba_data x).trans (List.map_id _)
theorem bl_cb : ∀ a b : List UInt8, Op.bytesLess a b = decide (Lib.compareBytes a b = -1)
  | [], [] => rfl
  | [], _ :: _ => rfl
  | _ :: _, [] => rfl
  | a :: x, b :: y => by
    unfold Op.bytesLess Lib.compareBytes
    rw [bl_cb x y]
    by_cases h : a < b
    · rw [if_pos h, decide_eq_true h]; rfl
    · by_cases h2 : b < a
      · have hne : a ≠ b := by rintro rfl; exact h h2
        rw [if_neg h, if_pos h2, decide_eq_false h, beq_eq_false_iff_ne.mpr hne]; rfl
      · have he : a = b := UInt8.toNat_inj.1 (by
          have h1 : ¬ a.toNat < b.toNat := fun e => h (UInt8.lt_iff_toNat_lt.2 e)
          have h3 : ¬ b.toNat < a.toNat := fun e => h2 (UInt8.lt_iff_toNat_lt.2 e)
          omega)
        subst he
        rw [if_neg h, if_neg h2, decide_eq_false h]; simp
theorem ref_order_f (a b : Int) : armadaref07_order.f a b = some (Lib.compareInt a b) := by
  unfold armadaref07_order.f Lib.compareInt
  split
  · rfl
  · split <;> rfl
theorem less_val (a b : List UInt8) : (if Op.bytesLess a b = true then some (-1 : Int) else (if Op.bytesLess b a = true then some 1 else some 0)) = some (Lib.compareBytes a b) := by
  rw [bl_cb, bl_cb, cb_anti b a]
  rcases cb_range a b with h | h | h <;> rw [h] <;> rfl
theorem ref_words_f (a b : ByteArray) (ha : a.size ≤ 4294967280) (hb : b.size ≤ 4294967280) (k : Nat) (hk : a.size + b.size + 5 < k) : armadaref07_words.f k a b = some (wordCmp a.data.toList b.data.toList) := by
  obtain ⟨k, rfl⟩ : ∃ m, k = m + 3 := ⟨k - 3, by omega⟩
  unfold armadaref07_words.f wordCmp
  rw [ref_digits_f a (by omega) _ (by omega), ref_digits_f b (by omega) _ (by omega)]
  simp only [Option.bind_some]
  have hA := Lib.size_eq a
  have hB := Lib.size_eq b
  cases h1 : digitsOk a.data.toList <;> cases h2 : digitsOk b.data.toList <;>
    simp only [Bool.false_eq_true, if_false, if_true, armadaref07_words.j0, armadaref07_words.j1, armadaref07_words.j2, Bool.not_true, Bool.not_false]
  · rw [ByteArray.toList_eq, ByteArray.toList_eq, less_val]
  · by_cases hl : (a.size : Int) = (b.size : Int)
    · have e : ((a.size : Int) != (b.size : Int)) = false := bne_eq_false_iff_eq.mpr hl
      rw [e]
      simp only [Bool.false_eq_true, if_false]
      rw [ByteArray.toList_eq, ByteArray.toList_eq, less_val, ← hA, ← hB, (ci_eq _ _).2 hl]
      rfl
    · have e : ((a.size : Int) != (b.size : Int)) = true := bne_iff_ne.mpr hl
      rw [e]
      simp only [if_true]
      rw [ref_order_f, ← hA, ← hB]
      unfold orr
      rw [if_neg (fun h => hl ((ci_eq _ _).1 h))]
      rfl
/-- The order of lists of identifiers. -/
theorem ref_pre_l0 (l m : List ByteArray) (hl : l.length ≤ 4294967280) (hm : m.length ≤ 4294967280) (B : Nat) (hB : B ≤ 4294967280) (hx : ∀ x ∈ l, x.size ≤ B) (hy : ∀ x ∈ m, x.size ≤ B) : ∀ (d n k : Nat), l.length - n = d → n ≤ l.length → n ≤ m.length → 2 * d + 2 * B + 20 < k →
    armadaref07_pre.l0 k l m (n : Int) = some (listCmp ((l.drop n).map (·.data.toList)) ((m.drop n).map (·.data.toList))) := by
  intro d
  induction d with
  | zero =>
    intro n k hd hn hn2 hk
    obtain ⟨k, rfl⟩ : ∃ j, k = j + 2 := ⟨k - 2, by omega⟩
    simp only [armadaref07_pre.l0, armadaref07_pre.j2]
    rw [if_neg (by omega)]
    simp only [Bool.false_eq_true, if_false]
    rw [ref_order_f, List.drop_eq_nil_of_le (by omega)]
    by_cases h : n < m.length
    · obtain ⟨y, _, h2, _⟩ := rd_at (l := m) (n := n) h
      rw [h2]
      simp only [List.map_nil, List.map_cons, listCmp, Option.bind_some]
      unfold Lib.compareInt
      rw [if_pos (by omega)]
    · rw [List.drop_eq_nil_of_le (by omega)]
      simp only [List.map_nil, listCmp, Option.bind_some]
      rw [(ci_eq _ _).2 (by omega)]
  | succ d ih =>
    intro n k hd hn hn2 hk
    obtain ⟨k, rfl⟩ : ∃ j, k = j + 2 := ⟨k - 2, by omega⟩
    obtain ⟨x, h1, h2, h3⟩ := rd_at (l := l) (n := n) (by omega)
    have hxm : x ∈ l := List.mem_of_getElem? h3
    simp only [armadaref07_pre.l0, armadaref07_pre.j2]
    rw [if_pos (by omega), h2]
    by_cases h : n < m.length
    · obtain ⟨y, g1, g2, g3⟩ := rd_at (l := m) (n := n) h
      have hym : y ∈ m := List.mem_of_getElem? g3
      rw [decide_eq_true (by omega), if_pos rfl, if_pos (by omega), if_pos (by omega), if_pos (by omega), h1, g1, ref_words_f x y (by have := hx x hxm; omega) (by have := hy y hym; omega) k (by have := hx x hxm; have := hy y hym; omega), wrap_succ (by omega), ih (n + 1) k (by omega) (by omega) (by omega) (by omega), g2]
      simp only [Option.bind_some, List.map_cons, listCmp, orr]
      split <;> rfl
    · rw [decide_eq_false (by omega)]
      simp only [Bool.false_eq_true, if_false]
      rw [ref_order_f, List.drop_eq_nil_of_le (show m.length ≤ n by omega)]
      simp only [List.map_nil, List.map_cons, listCmp, Option.bind_some]
      unfold Lib.compareInt
      rw [if_neg (by omega), if_pos (by omega)]
theorem ref_pre_f (p q : ByteArray) (hp : p.size ≤ 30) (hq : q.size ≤ 30) (k : Nat) (hk : 300 < k) : armadaref07_pre.f k p q = some (preCmp p.data.toList q.data.toList) := by
  obtain ⟨k, rfl⟩ : ∃ j, k = j + 1 := ⟨k - 1, by omega⟩
  have hpe : (p.toList = ([] : List UInt8)) ↔ p.data.toList = [] := by rw [ByteArray.toList_eq]
  have hqe : (q.toList = ([] : List UInt8)) ↔ q.data.toList = [] := by rw [ByteArray.toList_eq]
  have e1 : (p.toList == ([] : List UInt8)) = decide (p.data.toList = []) := by rw [Bool.eq_iff_iff]; simp [hpe]
  have e2 : (q.toList == ([] : List UInt8)) = decide (q.data.toList = []) := by rw [Bool.eq_iff_iff]; simp [hqe]
  have hl := split_len 46 p
  have hl2 := split_len 46 q
  unfold armadaref07_pre.f preCmp
  by_cases h1 : p.data.toList = [] <;> by_cases h2 : q.data.toList = []
  · rw [if_pos (hpe.2 h1), if_pos h1, if_pos h2]
    simp only [armadaref07_pre.j0, if_true, e1, e2, h1, h2]
    rfl
  · rw [if_pos (hpe.2 h1), if_pos h1, if_neg h2]
    simp only [armadaref07_pre.j0, if_true, e1, e2, h1, decide_eq_false h2]
    rfl
  · rw [if_neg (fun h => h1 (hpe.1 h)), if_neg h1, if_pos h2]
    simp only [armadaref07_pre.j0, if_true, e1, e2, h2, decide_eq_false h1]
    rfl
  · rw [if_neg (fun h => h1 (hpe.1 h)), if_neg h1, if_neg h2, e2, decide_eq_false h2]
    simp only [armadaref07_pre.j0, Bool.false_eq_true, if_false]
    rw [show (46 : Int) = ((46 : UInt8).toNat : Int) from rfl, ref_split 46 p (by omega) k (by omega), ref_split 46 q (by omega) k (by omega)]
    simp only [Option.bind_some]
    rw [show (0 : Int) = ((0 : Nat) : Int) from rfl, ref_pre_l0 _ _ (by omega) (by omega) 30 (by omega) (fun x hx => by have := split_size hx; omega) (fun x hx => by have := split_size hx; omega) _ 0 k rfl (by omega) (by omega) (by omega)]
    rw [List.drop_zero, List.drop_zero, split_data, split_data]
theorem ref_Compare_f (a b c : Int) (p q : ByteArray) (a2 b2 c2 : Int) (p2 q2 : ByteArray) : Ev (fun k => armadaref07_Compare.f k a b c p q a2 b2 c2 p2 q2) (verCmp a b c p q a2 b2 c2 p2 q2) := by
  obtain ⟨K1, h1⟩ := ref_ver_Check_f a b c p q
  obtain ⟨K2, h2⟩ := ref_ver_Check_f a2 b2 c2 p2 q2
  refine ⟨max K1 K2 + 400, fun k hk => ?_⟩
  obtain ⟨k, rfl⟩ : ∃ j, k = j + 1 := ⟨k - 1, by omega⟩
  have e1 := h1 (k + 1) (by omega)
  have e2 := h2 (k + 1) (by omega)
  simp only at e1 e2
  show armadaref07_Compare.f (k + 1) a b c p q a2 b2 c2 p2 q2 = _
  unfold armadaref07_Compare.f verCmp
  simp only [e1, e2, Option.bind_some]
  cases v1 : verOk a b c p q
  · simp [armadaref07_Compare.j0]
  · cases v2 : verOk a2 b2 c2 p2 q2
    · simp [armadaref07_Compare.j0]
    · have s1 := (verIs v1).hp
      have s2 := (verIs v2).hp
      simp only [if_true, armadaref07_Compare.j0, Bool.not_true, Bool.false_eq_true, if_false, ref_order_f, ref_pre_f p p2 s1 s2 k (by omega), Option.bind_some]
      unfold orr
      by_cases x1 : a = a2
      · rw [if_pos x1, if_pos ((ci_eq _ _).2 x1)]
        by_cases x2 : b = b2
        · rw [if_pos x2, if_pos ((ci_eq _ _).2 x2)]
          by_cases x3 : c = c2
          · rw [if_pos x3, if_pos ((ci_eq _ _).2 x3)]
          · rw [if_neg x3, if_neg (fun h => x3 ((ci_eq _ _).1 h))]
        · rw [if_neg x2, if_neg (fun h => x2 ((ci_eq _ _).1 h))]
      · rw [if_neg x1, if_neg (fun h => x1 ((ci_eq _ _).1 h))]
end Go.Proofs.YtjdhdjmdmnedfaaGreatDoor
end

section
namespace Go.Proofs.YtjdhdjmdmnedfaaGreatDoor
open Go Go.RowKit Go.Sort Go.Maps Go.Proofs Go.Proofs.YtjdhdjmdmnedfaaGreatDoorW.PrintWords Go.Proofs.YtjdhdjmdmnedfaaGreatDoorW.PrintLast Go.Proofs.YtjdhdjmdmnedfaaGreatDoor.K0 Go.Proofs.YtjdhdjmdmnedfaaGreatDoor.RD
set_option linter.unusedVariables false
set_option linter.unusedSimpArgs false
abbrev tgc (t : Tg) : Array Value := #[.string t.f0, .int .i64 t.f1.f0, .int .i64 t.f1.f1, .int .i64 t.f1.f2, .string t.f1.f3, .string t.f1.f4, .string t.f2]
def TgAt (w : World) (B : Nat) (x : Tg) : Prop := w.heap[B]? = some (.cells (tgc x) 32 (0, 0))
abbrev TgC (w : World) (B : Nat) (x : Tg) : Prop := w.cell? ⟨B, 0, none⟩ = some (.string x.f0) ∧ w.cell? ⟨B, 1, none⟩ = some (.int .i64 x.f1.f0) ∧ w.cell? ⟨B, 2, none⟩ = some (.int .i64 x.f1.f1) ∧ w.cell? ⟨B, 3, none⟩ = some (.int .i64 x.f1.f2) ∧ w.cell? ⟨B, 4, none⟩ = some (.string x.f1.f3) ∧ w.cell? ⟨B, 5, none⟩ = some (.string x.f1.f4) ∧ w.cell? ⟨B, 6, none⟩ = some (.string x.f2)
theorem TgAt.cells {w : World} {B : Nat} {x : Tg} (h : TgAt w B x) : TgC w B x := ⟨(blk_cell h 0).trans rfl, (blk_cell h 1).trans rfl, (blk_cell h 2).trans rfl, (blk_cell h 3).trans rfl, (blk_cell h 4).trans rfl, (blk_cell h 5).trans rfl, (blk_cell h 6).trans rfl⟩
theorem rlcmp_calls (x y : Tg) (w : World) : Calls Tryz.prog 27 #[.agg #[.int .i64 x.f1.f0, .int .i64 x.f1.f1, .int .i64 x.f1.f2, .string x.f1.f3, .string x.f1.f4], .agg #[.int .i64 y.f1.f0, .int .i64 y.f1.f1, .int .i64 y.f1.f2, .string y.f1.f3, .string y.f1.f4]] w fun e w' => e = .returned (.int .i64 (tcmp x y)) ∧ Below w.heap.size w w' := by
  obtain ⟨K, hK⟩ := ref_Compare_f x.f1.f0 x.f1.f1 x.f1.f2 x.f1.f3 x.f1.f4 y.f1.f0 y.f1.f1 y.f1.f2 y.f1.f3 y.f1.f4
  exact armadaref07_Compare.calls K _ _ _ _ _ _ _ _ _ _ _ w (hK K (Nat.le_refl _))
/-- The variables of the document's of. -/
structure LtIs (w : World) (b : Tg) (W : World) : Prop where
  base : Below w.heap.size w W
  z : TgAt W w.heap.size tz
  b : TgAt W (w.heap.size + 1) b
theorem LtIs.step {w W W' : World} {b : Tg} (h : LtIs w b W) (hb : Below W.heap.size W W') : LtIs w b W' := ⟨below_step h.base hb, blk_below h.z hb, blk_below h.b hb⟩
theorem LtIs.put {w W W' : World} {b y : Tg} (h : LtIs w b W) (hr : TgAt W' (w.heap.size + 1) y) (hg : W.grownBy W' (some (w.heap.size + 1))) : LtIs w y W' :=
  ⟨h.base.grown hg h.base.size (fun k hk => by cases hk; omega), blk_grown h.z hg (by simp), hr⟩
end Go.Proofs.YtjdhdjmdmnedfaaGreatDoor
end
