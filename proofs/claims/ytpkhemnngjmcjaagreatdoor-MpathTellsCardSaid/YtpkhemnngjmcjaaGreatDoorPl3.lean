/- Plain laws, the third part: the reference of layer 8. -/
import Derived.Test.YtpkhemnngjmcjaaGreatDoorPl2
import Derived.Test.YtpkhemnngjmcjaaGreatDoorNum
namespace Go.Proofs.YtpkhemnngjmcjaaGreatDoor
open Go Go.RowKit Go.Proofs.YtpkhemnngjmcjaaGreatDoorW.PrintWords Go.Proofs.YtpkhemnngjmcjaaGreatDoor.K0 Go.Proofs.YtpkhemnngjmcjaaGreatDoor.R1
set_option linter.unusedVariables false
set_option linter.unusedSimpArgs false

theorem head_bt {s : ByteArray} (h : 0 < s.size) : ∃ b : UInt8, bt s 0 = (b.toNat : Int) ∧ s.data.toList.head? = some b := by
  obtain ⟨b, hb, hd⟩ := scan (s := s) (n := 0) h
  rw [List.drop_zero] at hd
  exact ⟨b, hb, by rw [hd]; rfl⟩
theorem byte_eq (b : UInt8) (n : Nat) (hn : n < 256) : ((b.toNat : Int) == (n : Int)) = (some b == some (UInt8.ofNat n)) := by
  rw [Bool.eq_iff_iff]
  simp
  constructor
  · intro h
    apply UInt8.toNat_inj.1
    rw [UInt8.toNat_ofNat', Nat.mod_eq_of_lt hn]; omega
  · rintro rfl
    rw [UInt8.toNat_ofNat', Nat.mod_eq_of_lt hn]
theorem tells_l0 (s : ByteArray) (hs : s.size ≤ 4294967290) : ∀ (d n k : Nat), s.size - n = d → n ≤ 4294967290 → d < k →
    armadaref08_tells.l0 k s (n : Int) = some ((s.data.toList.drop n).all isDig && (decide (1 < s.size) && (s.data.toList.head? == some 118))) := by
  intro d
  induction d with
  | zero =>
    intro n k hd hn hk
    obtain ⟨k, rfl⟩ : ∃ m, k = m + 1 := ⟨k - 1, by omega⟩
    simp only [armadaref08_tells.l0]
    rw [if_neg (by omega), scan_end (by omega)]
    by_cases h : 1 < s.size
    · obtain ⟨b, hb, hh⟩ := head_bt (s := s) (by omega)
      rw [if_pos (by omega), if_pos (by omega), decide_eq_true h, hb, hh, show (118 : Int) = ((118 : Nat) : Int) from rfl, byte_eq b 118 (by omega)]
      simp
    · rw [if_neg (by omega), decide_eq_false h]; simp
  | succ d ih =>
    intro n k hd hn hk
    obtain ⟨k, rfl⟩ : ∃ m, k = m + 1 := ⟨k - 1, by omega⟩
    obtain ⟨b, hb, hd2⟩ := scan (s := s) (n := n) (by omega)
    simp only [armadaref08_tells.l0]
    rw [if_pos (by omega), if_pos (by omega), hb, wrap_succ (by omega), ih (n + 1) k (by omega) (by omega) (by omega), hd2, List.all_cons, Bool.and_assoc]
    generalize ((s.data.toList.drop (n + 1)).all isDig && (decide (1 < s.size) && (s.data.toList.head? == some 118))) = X
    have hm := b.toNat_lt
    clear ih hd2 hb hd hk hs hn
    unfold isDig
    generalize b.toNat = m at hm ⊢
    revert X
    revert m
    decide +kernel
theorem tells_f (s : ByteArray) (hs : s.size ≤ 4294967290) (k : Nat) (hk : s.size < k) : armadaref08_tells.f k s = some (tellsOk s.data.toList) := by
  unfold armadaref08_tells.f tellsOk
  rw [show (1 : Int) = ((1 : Nat) : Int) from rfl, tells_l0 s hs _ 1 k rfl (by omega) (by omega), ← Lib.size_eq]
  congr 1
  cases (s.data.toList.drop 1).all isDig <;> cases decide (1 < s.size) <;> simp
theorem number_l0 (s : ByteArray) (hs : s.size ≤ 4294967290) : ∀ (d n x k : Nat), s.size - n = d → n ≤ 4294967290 → (s.data.toList.drop n).all isDig = true → valFrom x (s.data.toList.drop n) < 10000000000 → d < k →
    armadaref08_number.l0 k s (x : Int) (n : Int) = some (if valFrom x (s.data.toList.drop n) < 2 then 0 else (valFrom x (s.data.toList.drop n) : Int)) := by
  intro d
  induction d with
  | zero =>
    intro n x k hd hn hall hv hk
    obtain ⟨k, rfl⟩ : ∃ m, k = m + 1 := ⟨k - 1, by omega⟩
    simp only [armadaref08_number.l0]
    rw [if_neg (by omega), scan_end (by omega)]
    show _ = some (if x < 2 then (0 : Int) else (x : Int))
    by_cases h : x < 2
    · rw [if_pos (by omega), if_pos h]
    · rw [if_neg (by omega), if_neg h]
  | succ d ih =>
    intro n x k hd hn hall hv hk
    obtain ⟨k, rfl⟩ : ∃ m, k = m + 1 := ⟨k - 1, by omega⟩
    obtain ⟨b, hb, hd2⟩ := scan (s := s) (n := n) (by omega)
    rw [hd2] at hall hv ⊢
    rw [List.all_cons, Bool.and_eq_true] at hall
    have hbd : 48 ≤ b.toNat ∧ b.toNat ≤ 57 := by
      have h1 := hall.1; unfold isDig digN at h1; simpa using h1
    have hvv : valFrom x (b :: s.data.toList.drop (n + 1)) = valFrom (x * 10 + (b.toNat - 48)) (s.data.toList.drop (n + 1)) := rfl
    rw [hvv] at hv ⊢
    have hle : x * 10 + (b.toNat - 48) < 10000000000 := by
      have hge := valFrom_ge (s.data.toList.drop (n + 1)) (x * 10 + (b.toNat - 48))
      have hp : 1 ≤ 10 ^ (s.data.toList.drop (n + 1)).length := Nat.pow_pos (by decide)
      exact Nat.lt_of_le_of_lt (Nat.le_trans (Nat.le_mul_of_pos_right _ hp) hge) hv
    have hh := fun h1 h2 => ih (n + 1) (x * 10 + (b.toNat - 48)) k h1 h2 hall.2 hv
    clear ih hvv hall
    generalize valFrom (x * 10 + (b.toNat - 48)) (s.data.toList.drop (n + 1)) = V at hv hh ⊢
    simp only [armadaref08_number.l0]
    rw [if_pos (by omega), if_pos (by omega), hb, wrap_succ (by omega)]
    rw [wrap_id (z := 10 * (x : Int)) (by omega) (by omega), wrap_id (z := (b.toNat : Int)) (by omega) (by omega),
      wrap_id (z := 10 * (x : Int) + (b.toNat : Int)) (by omega) (by omega), wrap_id (z := 10 * (x : Int) + (b.toNat : Int) - 48) (by omega) (by omega),
      show 10 * (x : Int) + (b.toNat : Int) - 48 = ((x * 10 + (b.toNat - 48) : Nat) : Int) by omega]
    exact hh (by omega) (by omega) (by omega)
theorem number_f (s : ByteArray) (ht : tellsOk s.data.toList = true) (k : Nat) (hk : s.size + 2 < k) (hs : s.size ≤ 4294967290) : armadaref08_number.f k s = some (numOf s.data.toList) := by
  obtain ⟨k, rfl⟩ : ∃ m, k = m + 1 := ⟨k - 1, by omega⟩
  have hsz : s.size = s.data.toList.length := Lib.size_eq s
  unfold tellsOk at ht
  simp only [Bool.and_eq_true, decide_eq_true_eq] at ht
  obtain ⟨⟨h1, h2⟩, h3⟩ := ht
  unfold armadaref08_number.f numOf
  by_cases h10 : (s.size : Int) > 10
  · rw [if_pos h10, if_pos (by omega)]
    simp [armadaref08_number.j0]
  · rw [if_neg h10, if_neg (show ¬ 10 < s.data.toList.length by omega), if_pos (show (1 : Int) < (s.size : Int) by omega)]
    obtain ⟨b, hb, hd⟩ := scan (s := s) (n := 1) (by omega)
    have hb' : bt s 1 = (b.toNat : Int) := hb
    rw [hb', show (48 : Int) = ((48 : Nat) : Int) from rfl, byte_eq b 48 (by omega)]
    simp only [armadaref08_number.j0]
    have hh : (s.data.toList.drop 1).head? = some b := by rw [hd]; rfl
    rw [hh]
    by_cases h48 : b = 48
    · subst h48; rfl
    · have hf : (some b == some (UInt8.ofNat 48)) = false := by simpa using h48
      rw [hf, if_neg (by simp), if_neg (by simpa using h48)]
      have hlt := val_lt _ h3
      have hlen : (s.data.toList.drop 1).length ≤ 9 := by rw [List.length_drop]; omega
      have hpow : 10 ^ (s.data.toList.drop 1).length ≤ 10 ^ 9 := Nat.pow_le_pow_right (by omega) hlen
      have := number_l0 s hs _ 1 0 k rfl (by omega) h3 (by unfold val at hlt; omega) (by omega)
      rw [show (1 : Int) = ((1 : Nat) : Int) from rfl, show (0 : Int) = ((0 : Nat) : Int) from rfl, this]
      rfl

/-- What P8.1 asks of the parts. -/
def lastOk (l : List ByteArray) : Bool := !tellsOk (l.getLastD ByteArray.empty).data.toList || (!decide (numOf (l.getLastD ByteArray.empty).data.toList = 0) && decide (1 < l.length))
def partsOk (l : List ByteArray) : Bool := (l.dropLast.all fun x => !tellsOk x.data.toList) && lastOk l
def checkOk (s : ByteArray) : Bool := pathOk s && partsOk (splitBy 47 s)
theorem check_l0 (l : List ByteArray) (hl : l.length ≤ 4294967290) (B : Nat) (hB : B ≤ 4294967290) (hx : ∀ x ∈ l, x.size ≤ B) : ∀ (d n k : Nat), l.length - n = d → n ≤ l.length → d + B + 3 < k →
    armadaref08_Check.l0 k l (n : Int) = some (if n < l.length then ((l.dropLast.drop n).all fun x => !tellsOk x.data.toList) && lastOk l else true) := by
  intro d
  induction d with
  | zero =>
    intro n k hd hn hk
    obtain ⟨k, rfl⟩ : ∃ m, k = m + 1 := ⟨k - 1, by omega⟩
    simp only [armadaref08_Check.l0]
    rw [if_neg (by omega), if_neg (by omega)]
  | succ d ih =>
    intro n k hd hn hk
    obtain ⟨k, rfl⟩ : ∃ m, k = m + 1 := ⟨k - 1, by omega⟩
    obtain ⟨x, h1, h2, h3⟩ := rd_at (l := l) (n := n) (by omega)
    have hm : x ∈ l := List.mem_of_getElem? h3
    have hxs := hx x hm
    simp only [armadaref08_Check.l0]
    rw [if_pos (by omega), if_pos (by omega), h1, tells_f x (by omega) k (by omega), wrap_succ (by omega), ih (n + 1) k (by omega) (by omega) (by omega), if_pos (show n < l.length by omega)]
    simp only [Option.bind_some]
    rw [wrap_id (z := (l.length : Int) - 1) (by omega) (by omega)]
    by_cases hlast : n + 1 = l.length
    · have hgl : l.getLastD ByteArray.empty = x := by
        rw [List.getLastD_eq_getLast?, List.getLast?_eq_getElem?, show l.length - 1 = n by omega, h3]; rfl
      have hdl : l.dropLast.drop n = [] := List.drop_eq_nil_of_le (by rw [List.length_dropLast]; omega)
      rw [hdl, if_neg (show ¬ (n + 1 < l.length) by omega), if_neg (show ¬ ((n : Int) < (l.length : Int) - 1) by omega)]
      unfold lastOk
      rw [hgl]
      by_cases ht : tellsOk x.data.toList = true
      · rw [ht, if_pos rfl, number_f x ht k (by omega) (by omega)]
        simp only [Option.bind_some]
        by_cases h0 : n = 0
        · rw [if_pos (by omega), decide_eq_false (show ¬ (1 < l.length) by omega)]; simp
        · rw [if_neg (by omega), decide_eq_true (show 1 < l.length by omega)]
          by_cases hz : numOf x.data.toList = 0
          · rw [if_pos hz, decide_eq_true hz]; simp
          · rw [if_neg hz, decide_eq_false hz]; simp
      · have ht' : tellsOk x.data.toList = false := by simpa using ht
        rw [ht']; simp
    · have hdl : l.dropLast.drop n = x :: l.dropLast.drop (n + 1) := by
        have hl2 : n < l.dropLast.length := by rw [List.length_dropLast]; omega
        rw [List.drop_eq_getElem_cons hl2]
        congr 1
        rw [List.getElem_dropLast]
        rw [List.getElem?_eq_getElem (by omega)] at h3
        exact Option.some.inj h3
      rw [hdl, List.all_cons, if_pos (show n + 1 < l.length by omega), if_pos (show (n : Int) < (l.length : Int) - 1 by omega)]
      cases tellsOk x.data.toList <;> simp
theorem ref_Check_f (s : ByteArray) (k : Nat) (hk : 400 < k) : armadaref08_Check.f k s = some (checkOk s) := by
  unfold armadaref08_Check.f checkOk
  rw [ref_Path_f s k (by omega)]
  simp only [Option.bind_some]
  by_cases hp : pathOk s = true
  · have hs : s.size ≤ 60 := by
      unfold pathOk at hp; simp at hp; exact hp.1
    have hl := split_len 47 s
    rw [hp, if_pos rfl, show (47 : Int) = ((47 : UInt8).toNat : Int) from rfl, ref_split 47 s (by omega) k (by omega)]
    simp only [Option.bind_some, Bool.true_and]
    have hpos : 0 < (splitBy 47 s).length := by
      unfold splitBy; rw [List.length_map]; exact List.length_pos_iff.2 (splitC_ne 47 _)
    rw [show (0 : Int) = ((0 : Nat) : Int) from rfl, check_l0 (splitBy 47 s) (by omega) 60 (by omega) (fun x hx => by have := split_size hx; omega) _ 0 k rfl (by omega) (by omega), if_pos hpos]
    rfl
  · have hp' : pathOk s = false := by simpa using hp
    rw [hp', if_neg (by simp)]; rfl
end Go.Proofs.YtpkhemnngjmcjaaGreatDoor
