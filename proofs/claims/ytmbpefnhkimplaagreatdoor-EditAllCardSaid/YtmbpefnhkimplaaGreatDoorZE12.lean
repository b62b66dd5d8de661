/- The texts Num, VerPl, Msplit in one file, without what these claims do not use (put together by prune2.py). -/
import Derived.Test.YtmbpefnhkimplaaGreatDoorZE9
import Derived.Test.YtmbpefnhkimplaaGreatDoorZE11
import Derived.Lib.IndexMore
import Derived.Test.YtmbpefnhkimplaaGreatDoorZE7
import Derived.WalkKit
import Derived.WideLaws
import Derived.Outline
import Derived.Deep.QuietTactic
import Derived.BigQuiet
section
namespace Go.Proofs.YtmbpefnhkimplaaGreatDoor
open Go Go.RowKit Go.Proofs.YtmbpefnhkimplaaGreatDoorW.PrintWords
set_option linter.unusedVariables false
set_option linter.unusedSimpArgs false
def valFrom : Nat → List UInt8 → Nat
  | acc, [] => acc
  | acc, b :: t => valFrom (acc * 10 + (b.toNat - 48)) t
def val (l : List UInt8) : Nat := valFrom 0 l
theorem valFrom_append : ∀ (l m : List UInt8) (acc : Nat), valFrom acc (l ++ m) = valFrom (valFrom acc l) m
  | [], _, _ => rfl
  | _ :: t, m, acc => valFrom_append t m _
theorem valFrom_ge : ∀ (l : List UInt8) (acc : Nat), acc * 10 ^ l.length ≤ valFrom acc l
  | [], acc => by show acc * 1 ≤ acc; omega
  | b :: t, acc => by
    have h := valFrom_ge t (acc * 10 + (b.toNat - 48))
    unfold valFrom
    refine Nat.le_trans ?_ h
    rw [List.length_cons, Nat.pow_succ, Nat.mul_comm (10 ^ t.length) 10, ← Nat.mul_assoc]
    generalize 10 ^ t.length = P
    have h3 : acc * 10 ≤ acc * 10 + (b.toNat - 48) := by omega
    exact Nat.mul_le_mul_right P h3
theorem valFrom_lt : ∀ (l : List UInt8) (acc : Nat), l.all isDig = true → valFrom acc l < (acc + 1) * 10 ^ l.length
  | [], acc, _ => by show acc < (acc + 1) * 1; omega
  | b :: t, acc, h => by
    rw [List.all_cons, Bool.and_eq_true] at h
    have h1 := valFrom_lt t (acc * 10 + (b.toNat - 48)) h.2
    have hb : b.toNat ≤ 57 := by
      have := h.1; unfold isDig digN at this; simp at this; omega
    unfold valFrom
    refine Nat.lt_of_lt_of_le h1 ?_
    rw [List.length_cons, Nat.pow_succ, Nat.mul_comm (10 ^ t.length) 10, ← Nat.mul_assoc]
    generalize 10 ^ t.length = P
    have h3 : acc * 10 + (b.toNat - 48) + 1 ≤ (acc + 1) * 10 := by omega
    exact Nat.mul_le_mul_right P h3
theorem val_snoc (d : List UInt8) (b : UInt8) : val (d ++ [b]) = val d * 10 + (b.toNat - 48) := by
  unfold val
  rw [valFrom_append]; rfl
theorem val_lt (d : List UInt8) (h : d.all isDig = true) : val d < 10 ^ d.length := by
  have := valFrom_lt d 0 h
  simpa [val] using this
theorem val_ge {b : UInt8} {t : List UInt8} (h : (b :: t).all isDig = true) (h0 : b ≠ 48) : 10 ^ t.length ≤ val (b :: t) := by
  rw [List.all_cons, Bool.and_eq_true] at h
  have hb : 49 ≤ b.toNat := by
    have h1 := h.1
    unfold isDig digN at h1
    simp at h1
    have : b.toNat ≠ 48 := fun e => h0 (UInt8.toNat_inj.1 e)
    omega
  have h2 := valFrom_ge t (0 * 10 + (b.toNat - 48))
  unfold val valFrom
  refine Nat.le_trans ?_ h2
  have : 1 ≤ 0 * 10 + (b.toNat - 48) := by omega
  calc 10 ^ t.length = 1 * 10 ^ t.length := by rw [Nat.one_mul]
    _ ≤ _ := Nat.mul_le_mul_right _ this
theorem dec_unfold (u : Nat) : Lib.decDigits u = if u < 10 then [UInt8.ofNat (48 + u)] else Lib.decDigits (u / 10) ++ [UInt8.ofNat (48 + u % 10)] := by
  rw [Lib.decDigits]
  split <;> rfl
theorem dig_back {b : UInt8} (h : isDig b = true) : UInt8.ofNat (48 + (b.toNat - 48)) = b := by
  unfold isDig digN at h
  simp at h
  rw [show 48 + (b.toNat - 48) = b.toNat by omega]
  exact UInt8.ofNat_toNat
theorem dec_val : ∀ (n : Nat) (d : List UInt8), d.length = n → d ≠ [] → d.all isDig = true → d.head? ≠ some 48 → Lib.decDigits (val d) = d := by
  intro n
  induction n with
  | zero => intro d h hn; exact absurd (List.eq_nil_of_length_eq_zero h) hn
  | succ n ih =>
    intro d hl hne hall hh
    obtain ⟨d', b, rfl⟩ : ∃ d' b, d = d' ++ [b] := ⟨d.dropLast, d.getLast hne, (List.dropLast_concat_getLast hne).symm⟩
    rw [List.all_append, Bool.and_eq_true] at hall
    have hb : isDig b = true := by simpa using hall.2
    have hb9 : b.toNat - 48 < 10 := by
      have h1 := hb; unfold isDig digN at h1; simp at h1; omega
    rw [val_snoc, dec_unfold]
    cases d' with
    | nil =>
      rw [show val [] * 10 + (b.toNat - 48) = b.toNat - 48 by show 0 * 10 + _ = _; omega, if_pos hb9, dig_back hb]; rfl
    | cons c t =>
      have hc : c ≠ 48 := fun e => hh (by rw [e]; rfl)
      have hv := val_ge hall.1 hc
      have h1 : 1 ≤ val (c :: t) := by
        have : 1 ≤ 10 ^ t.length := Nat.one_le_pow _ _ (by omega)
        generalize 10 ^ t.length = P at *
        omega
      generalize hV : val (c :: t) = V at *
      rw [if_neg (by omega), show (V * 10 + (b.toNat - 48)) / 10 = V by omega, show (V * 10 + (b.toNat - 48)) % 10 = b.toNat - 48 by omega, dig_back hb, ← hV]
      rw [ih (c :: t) (by simp at hl ⊢; omega) (by simp) hall.1 (by simpa using hc)]
theorem dec_head : ∀ (u : Nat), 1 ≤ u → (Lib.decDigits u).head? ≠ some 48 := by
  intro u
  induction u using Nat.strongRecOn with
  | _ u ih =>
    intro h
    rw [dec_unfold]
    split
    · rename_i h10
      intro e
      simp only [List.head?_cons, Option.some.injEq] at e
      have := congrArg UInt8.toNat e
      rw [UInt8.toNat_ofNat'] at this
      have h48 : (48 : UInt8).toNat = 48 := rfl
      rw [h48] at this
      omega
    · rename_i h10
      have hne : Lib.decDigits (u / 10) ≠ [] := by
        rw [dec_unfold]; split <;> simp
      cases hd : Lib.decDigits (u / 10) with
      | nil => exact absurd hd hne
      | cons c t =>
        have := ih (u / 10) (by omega) (by omega)
        rw [hd] at this
        simpa using this
theorem parse_digits : ∀ (l : List UInt8) (acc : Nat), l.all isDig = true → acc < 18446744073709551616 →
    (Lib.parseUint10 acc l = .ok (valFrom acc l) ∧ valFrom acc l < 18446744073709551616) ∨ (Lib.parseUint10 acc l = .range ∧ 18446744073709551616 ≤ valFrom acc l)
  | [], acc, _, h => .inl ⟨rfl, h⟩
  | b :: t, acc, hall, h => by
    rw [List.all_cons, Bool.and_eq_true] at hall
    have hb : 48 ≤ b.toNat ∧ b.toNat ≤ 57 := by
      have h1 := hall.1; unfold isDig digN at h1; simpa using h1
    have hge := valFrom_ge t (acc * 10 + (b.toNat - 48))
    have hp : 1 ≤ 10 ^ t.length := Nat.one_le_pow _ _ (by omega)
    have hge2 : acc * 10 + (b.toNat - 48) ≤ valFrom (acc * 10 + (b.toNat - 48)) t := Nat.le_trans (Nat.le_mul_of_pos_right _ hp) hge
    unfold Lib.parseUint10 valFrom
    rw [if_pos hb]
    by_cases h1 : 1844674407370955162 ≤ acc
    · rw [if_pos h1]; exact .inr ⟨rfl, by omega⟩
    · rw [if_neg h1]
      by_cases h2 : 18446744073709551616 ≤ acc * 10 + (b.toNat - 48)
      · rw [if_pos h2]; exact .inr ⟨rfl, by omega⟩
      · rw [if_neg h2]; exact parse_digits t _ hall.2 (by omega)
theorem atoi_digits (d : List UInt8) (hne : d ≠ []) (hall : d.all isDig = true) :
    (Lib.atoiAll d = .ok (val d : Int) ∧ val d < 9223372036854775808) ∨ (Lib.atoiAll d = .range ∧ 9223372036854775808 ≤ val d) := by
  cases d with
  | nil => exact absurd rfl hne
  | cons c r =>
    have h0 := hall
    rw [List.all_cons, Bool.and_eq_true] at hall
    have hc : 48 ≤ c.toNat ∧ c.toNat ≤ 57 := by
      have h1 := hall.1; unfold isDig digN at h1; simpa using h1
    unfold Lib.atoiAll
    simp only
    rw [if_neg (by omega)]
    unfold Lib.parseMag
    rw [if_neg (by simp)]
    rcases parse_digits (c :: r) 0 h0 (by omega) with ⟨h1, h2⟩ | ⟨h1, h2⟩
    · rw [h1]
      simp only
      have hneg : ¬ (c.toNat = 45) := by omega
      by_cases hb : 9223372036854775808 ≤ valFrom 0 (c :: r)
      · rw [if_pos ⟨hneg, hb⟩]; exact .inr ⟨rfl, hb⟩
      · rw [if_neg (by omega), if_neg (by omega), if_neg hneg]; exact .inl ⟨rfl, by unfold val; omega⟩
    · rw [h1]; exact .inr ⟨rfl, by unfold val; omega⟩
theorem mem_dropWhile {p : UInt8 → Bool} {x : UInt8} (hx : p x = false) : ∀ {l : List UInt8}, x ∈ l → x ∈ l.dropWhile p
  | [], h => by simp at h
  | a :: t, h => by
    rw [List.dropWhile_cons]
    split
    · rename_i hp
      rcases List.mem_cons.1 h with rfl | h
      · rw [hx] at hp; cases hp
      · exact mem_dropWhile hx h
    · exact h
theorem dropWhile_all {p : UInt8 → Bool} : ∀ {l : List UInt8}, (∀ x ∈ l, p x = true) → l.dropWhile p = []
  | [], _ => rfl
  | a :: t, h => by
    rw [List.dropWhile_cons, if_pos (h a List.mem_cons_self)]
    exact dropWhile_all fun x hx => h x (List.mem_cons_of_mem _ hx)
theorem digs_contains (b : UInt8) : digs.contains b = isDig b := by
  unfold isDig
  have : ∀ n : Nat, n < 256 → digs.contains (UInt8.ofNat n) = digN n := by decide +kernel
  have h := this b.toNat b.toNat_lt
  rwa [UInt8.ofNat_toNat] at h
theorem trim_nil (d : List UInt8) : Lib.trimS d digs = [] ↔ d.all isDig = true := by
  unfold Lib.trimS Lib.trimLeftS Lib.trimRightS
  constructor
  · intro h
    rw [List.all_eq_true]
    intro x hx
    cases hd : isDig x with
    | true => rfl
    | false =>
      exfalso
      have hc : (fun b => digs.contains b) x = false := by show digs.contains x = false; rw [digs_contains]; exact hd
      have h1 : x ∈ (d.reverse.dropWhile (fun b => digs.contains b)).reverse := List.mem_reverse.2 (mem_dropWhile hc (List.mem_reverse.2 hx))
      have h2 := mem_dropWhile hc h1
      rw [h] at h2
      simp at h2
  · intro h
    rw [List.all_eq_true] at h
    have e : d.reverse.dropWhile (fun b => digs.contains b) = [] := dropWhile_all fun x hx => by show digs.contains x = true; rw [digs_contains]; exact h x (List.mem_reverse.1 hx)
    rw [e]; rfl
/-- Does a part tell a major? -/
def tellsOk (l : List UInt8) : Bool := decide (1 < l.length) && (l.head? == some 118) && (l.drop 1).all isDig
/-- Its number; 0: it may not be. -/
def numOf (l : List UInt8) : Int := if 10 < l.length then 0 else if (l.drop 1).head? = some 48 then 0 else if val (l.drop 1) < 2 then 0 else (val (l.drop 1) : Int)
theorem majorOf_eq (l : List UInt8) : majorOf l = if tellsOk l = true then (numOf l, true) else (0, false) := by
  unfold majorOf tellsOk
  cases l with
  | nil => rfl
  | cons c d =>
    have hpre : Lib.hasPrefix (c :: d) [118] = (c == 118) := by
      unfold Lib.hasPrefix
      simp [List.isPrefixOf]
      rw [Bool.eq_iff_iff]; simp; exact eq_comm
    rw [hpre]
    by_cases hc : c = 118
    · subst hc
      simp only [beq_self_eq_true, if_true, List.drop_succ_cons, List.drop_zero, List.head?_cons, Bool.and_true, List.length_cons]
      by_cases hd : d = []
      · subst hd; rfl
      · rw [if_neg hd]
        have hlen : decide (1 < d.length + 1) = true := decide_eq_true (by have := List.length_pos_iff.2 hd; omega)
        rw [hlen, Bool.true_and]
        by_cases hall : d.all isDig = true
        · rw [if_pos ((trim_nil d).2 hall), if_pos hall]
          have hpos := List.length_pos_iff.2 hd
          unfold numOf
          simp only [List.length_cons, List.drop_succ_cons, List.drop_zero]
          obtain ⟨b, t, rfl⟩ : ∃ b t, d = b :: t := by cases d with | nil => exact absurd rfl hd | cons b t => exact ⟨b, t, rfl⟩
          have hlt := val_lt (b :: t) hall
          rcases atoi_digits (b :: t) hd hall with ⟨h1, h2⟩ | ⟨h1, h2⟩
          · rw [h1]
            simp only
            by_cases hb : b = 48
            · subst hb
              have e0 : (if 10 < (48 :: t : List UInt8).length + 1 then (0 : Int) else if (48 :: t : List UInt8).head? = some 48 then 0 else if val (48 :: t) < 2 then 0 else (val (48 :: t) : Int)) = 0 := by
                split
                · rfl
                · rw [if_pos (show (48 :: t : List UInt8).head? = some 48 from rfl)]
              rw [e0]
              split
              · rfl
              · split
                · rfl
                · rename_i h3 h4
                  rw [if_neg]
                  intro he
                  have := dec_head (val (48 :: t)) (by omega)
                  unfold Lib.itoa at he
                  rw [if_neg (by omega), Int.toNat_natCast] at he
                  rw [he] at this
                  exact this rfl
            · have hh : (b :: t : List UInt8).head? ≠ some 48 := by simpa using hb
              have hge := val_ge hall hb
              by_cases hlen2 : 10 < (b :: t : List UInt8).length + 1
              · rw [if_pos hlen2]
                have h9 : 9 ≤ t.length := by simp at hlen2; omega
                have : 10 ^ 9 ≤ 10 ^ t.length := Nat.pow_le_pow_right (by omega) h9
                rw [if_neg (by omega), if_pos (by omega)]
              · rw [if_neg hlen2, if_neg hh]
                have h9 : (b :: t : List UInt8).length ≤ 9 := by omega
                have : 10 ^ (b :: t : List UInt8).length ≤ 10 ^ 9 := Nat.pow_le_pow_right (by omega) h9
                by_cases hv : val (b :: t) < 2
                · rw [if_pos (by omega), if_pos hv]
                · rw [if_neg (by omega), if_neg hv, if_neg (by omega), if_pos]
                  unfold Lib.itoa
                  rw [if_neg (by omega), Int.toNat_natCast]
                  exact dec_val _ (b :: t) rfl hd hall hh
          · rw [h1]
            simp only
            by_cases hlen2 : 10 < (b :: t : List UInt8).length + 1
            · rw [if_pos hlen2]
            · exfalso
              have h9 : (b :: t : List UInt8).length ≤ 9 := by omega
              have : 10 ^ (b :: t : List UInt8).length ≤ 10 ^ 9 := Nat.pow_le_pow_right (by omega) h9
              omega
        · rw [if_neg (fun h => hall ((trim_nil d).1 h)), if_neg hall]
    · have : (c == 118) = false := by simpa using hc
      rw [this]
      simp [hc]
end Go.Proofs.YtmbpefnhkimplaaGreatDoor
end

section
namespace Go.Proofs.YtmbpefnhkimplaaGreatDoor
open Go Go.RowKit Go.Proofs.YtmbpefnhkimplaaGreatDoorW.PrintWords Go.Proofs.YtmbpefnhkimplaaGreatDoor.K0 Go.Proofs.YtmbpefnhkimplaaGreatDoor.R1
set_option linter.unusedVariables false
set_option linter.unusedSimpArgs false
theorem dec_len : ∀ (d u : Nat), u < 10 ^ (d + 1) → (Lib.decDigits u).length ≤ d + 1
  | 0, u, h => by
    rw [dec_unfold, if_pos (by omega)]; simp
  | d + 1, u, h => by
    rw [dec_unfold]
    split
    · simp
    · rw [List.length_append]
      have : u / 10 < 10 ^ (d + 1) := by rw [Nat.div_lt_iff_lt_mul (by decide)]; rw [Nat.pow_succ] at h; exact h
      have := dec_len d (u / 10) this
      simp; exact this
theorem dec_ne (u : Nat) : Lib.decDigits u ≠ [] := by
  rw [dec_unfold]; split <;> simp
theorem dig_of (n : Nat) (h : n < 10) : isDig (UInt8.ofNat (48 + n)) = true ∧ (UInt8.ofNat (48 + n)).toNat - 48 = n ∧ UInt8.ofNat (48 + n) ≠ 47 := by
  revert h; revert n; decide
theorem dec_all : ∀ (d u : Nat), u < 10 ^ (d + 1) → (Lib.decDigits u).all isDig = true ∧ val (Lib.decDigits u) = u
  | d, u, h => by
    rw [dec_unfold]
    split
    · rename_i hu
      obtain ⟨h1, h2, _⟩ := dig_of u hu
      refine ⟨by rw [List.all_cons, h1]; rfl, ?_⟩
      show 0 * 10 + ((UInt8.ofNat (48 + u)).toNat - 48) = u
      omega
    · match d, h with
      | 0, h => omega
      | d + 1, h =>
        have hq : u / 10 < 10 ^ (d + 1) := by rw [Nat.div_lt_iff_lt_mul (by decide)]; rw [Nat.pow_succ] at h; exact h
        obtain ⟨i1, i2⟩ := dec_all d (u / 10) hq
        obtain ⟨h1, h2, _⟩ := dig_of (u % 10) (Nat.mod_lt _ (by decide))
        refine ⟨by rw [List.all_append, i1, List.all_cons, h1]; rfl, ?_⟩
        rw [val_snoc, i2, h2]; omega
theorem dec_no {n : Nat} (h : n ≤ 999999999) {c : UInt8} (hc : isDig c = false) : c ∉ Lib.decDigits n := fun hm => by
  have := List.all_eq_true.1 (dec_all 8 n (by omega)).1 _ hm
  rw [hc] at this; cases this
theorem atoi_dec {n : Nat} (h : n ≤ 999999999) : Lib.atoiAll (Lib.decDigits n) = .ok (n : Int) := by
  have hd := dec_all 8 n (by omega)
  rcases atoi_digits (Lib.decDigits n) (dec_ne n) hd.1 with ⟨h1, _⟩ | ⟨_, h2⟩
  · rw [h1, hd.2]
  · rw [hd.2] at h2; omega
def cutC (c : UInt8) : List UInt8 → List UInt8 × List UInt8
  | [] => ([], [])
  | b :: t => if b = c then ([], t) else (b :: (cutC c t).1, (cutC c t).2)
theorem cutC_at {c : UInt8} : ∀ {a : List UInt8} (t : List UInt8), c ∉ a → cutC c (a ++ c :: t) = (a, t)
  | [], t, _ => by simp [cutC]
  | b :: a, t, h => by
    have h1 : b ≠ c := fun e => h (e ▸ List.mem_cons_self)
    have h2 : c ∉ a := fun e => h (List.mem_cons_of_mem _ e)
    simp [cutC, h1, cutC_at t h2]
theorem cutC_none {c : UInt8} : ∀ {a : List UInt8}, c ∉ a → cutC c a = (a, [])
  | [], _ => rfl
  | b :: a, h => by
    have h1 : b ≠ c := fun e => h (e ▸ List.mem_cons_self)
    have h2 : c ∉ a := fun e => h (List.mem_cons_of_mem _ e)
    simp [cutC, h1, cutC_none h2]
theorem cut_one (c : UInt8) (l : List UInt8) : ((Lib.cut l [c]).1, (Lib.cut l [c]).2.1) = cutC c l := by
  unfold Lib.cut
  rw [index_one]
  rcases Int.lt_or_le (Lib.indexByte l c) 0 with h | h
  · have h1 := Lib.indexByte_ge l c
    rw [if_neg (by omega), cutC_none (idx_none (by omega))]
  · rw [if_pos h]
    obtain ⟨i, hi⟩ : ∃ i : Nat, Lib.indexByte l c = i := ⟨(Lib.indexByte l c).toNat, by omega⟩
    obtain ⟨a, t, rfl, hn, hl⟩ := idx_some hi
    rw [hi, cutC_at t hn, Int.toNat_natCast, ← hl]
    simp
def tailV (c : UInt8) (p : List UInt8) : List UInt8 := if p = [] then [] else c :: p
def bytesV (a b c : Nat) (p q : List UInt8) : List UInt8 := 118 :: ((Lib.decDigits a ++ 46 :: (Lib.decDigits b ++ 46 :: Lib.decDigits c) ++ tailV 45 p) ++ tailV 43 q)
def textV (a b c : Int) (p q : ByteArray) : ByteArray := if verOk a b c p q = true then ba (bytesV a.toNat b.toNat c.toNat p.data.toList q.data.toList) else ⟨#[]⟩
def parseV (s : List UInt8) : Option (Int × Int × Int × List UInt8 × List UInt8) :=
  if s.head? = some 118 then
    match splitC 46 (cutC 45 (cutC 43 (s.drop 1)).1).1 with
    | [x, y, z] =>
      match Lib.atoiAll x, Lib.atoiAll y, Lib.atoiAll z with
      | .ok a, .ok b, .ok c => if (textV a b c (ba (cutC 45 (cutC 43 (s.drop 1)).1).2) (ba (cutC 43 (s.drop 1)).2)).data.toList = s then some (a, b, c, (cutC 45 (cutC 43 (s.drop 1)).1).2, (cutC 43 (s.drop 1)).2) else none
      | _, _, _ => none
    | _ => none
  else none
theorem splitC_mem {c x : UInt8} : ∀ {l : List UInt8}, x ∈ l → x = c ∨ ∃ p ∈ splitC c l, x ∈ p
  | [], h => by simp at h
  | b :: t, h => by
    by_cases hb : b = c
    · rcases List.mem_cons.1 h with rfl | h
      · exact .inl hb
      · rcases splitC_mem (c := c) h with h | ⟨p, hp, hx⟩
        · exact .inl h
        · exact .inr ⟨p, by rw [splitC, if_pos hb]; exact List.mem_cons_of_mem _ hp, hx⟩
    · obtain ⟨q, qs, e, e2⟩ := splitC_other hb t
      rw [e2]
      rcases List.mem_cons.1 h with rfl | h
      · exact .inr ⟨_, List.mem_cons_self, List.mem_cons_self⟩
      · rcases splitC_mem (c := c) h with h | ⟨p, hp, hx⟩
        · exact .inl h
        · rw [e] at hp
          rcases List.mem_cons.1 hp with rfl | hp
          · exact .inr ⟨_, List.mem_cons_self, List.mem_cons_of_mem _ hx⟩
          · exact .inr ⟨p, List.mem_cons_of_mem _ hp, hx⟩
theorem ids_no {z : Bool} {s : ByteArray} (h : idsOk z s = true) {c : UInt8} (hc : isIdent c = false) (h46 : c ≠ 46) : c ∉ s.data.toList := fun hm => by
  rcases splitC_mem (c := 46) hm with rfl | ⟨p, hp, hx⟩
  · exact h46 rfl
  · have h1 := List.all_eq_true.1 h p hp
    unfold okId wordOk at h1
    simp only [Bool.and_eq_true] at h1
    have := List.all_eq_true.1 h1.1.1 _ hx
    rw [hc] at this; cases this
theorem size0_data {s : ByteArray} (h : s.size = 0) : s.data.toList = [] := by
  rw [Lib.size_eq] at h; exact List.length_eq_zero_iff.1 h
theorem pre_no {p : ByteArray} (h : preOk p = true) {c : UInt8} (hc : isIdent c = false) (h46 : c ≠ 46) : c ∉ p.data.toList := by
  unfold preOk at h
  rcases Bool.or_eq_true _ _ ▸ h with h | h
  · rw [size0_data (of_decide_eq_true h)]; simp
  · exact ids_no h hc h46
theorem build_no {p : ByteArray} (h : buildOk p = true) {c : UInt8} (hc : isIdent c = false) (h46 : c ≠ 46) : c ∉ p.data.toList := by
  unfold buildOk at h
  rcases Bool.or_eq_true _ _ ▸ h with h | h
  · rw [size0_data (of_decide_eq_true h)]; simp
  · exact ids_no h hc h46
structure VerIs (a b c : Int) (p q : ByteArray) : Prop where
  a0 : 0 ≤ a
  a9 : a ≤ 999999999
  b0 : 0 ≤ b
  b9 : b ≤ 999999999
  c0 : 0 ≤ c
  c9 : c ≤ 999999999
  hp : p.size ≤ 30
  hq : q.size ≤ 30
  pre : preOk p = true
  build : buildOk q = true
theorem verIs {a b c : Int} {p q : ByteArray} (h : verOk a b c p q = true) : VerIs a b c p q := by
  unfold verOk numB at h
  simp only [Bool.and_eq_true, decide_eq_true_eq] at h
  obtain ⟨⟨h1, h2⟩, ⟨h3, h4⟩, ⟨h5, h6⟩, h7, h8, h9, h10⟩ := h
  exact ⟨h1, h2, h3, h4, h5, h6, h7, h8, h9, h10⟩
theorem cutC_tail {c : UInt8} {l p : List UInt8} (h : c ∉ l) : cutC c (l ++ tailV c p) = (l, p) := by
  unfold tailV
  by_cases hp : p = []
  · rw [if_pos hp, List.append_nil, cutC_none h, hp]
  · rw [if_neg hp, cutC_at p h]
theorem tail_no {c d : UInt8} {p : List UInt8} (h : d ≠ c) (hp : d ∉ p) : d ∉ tailV c p := by
  unfold tailV
  split
  · simp
  · intro hm
    rcases List.mem_cons.1 hm with e | hm
    · exact h e
    · exact hp hm
theorem nums_no {a b c : Nat} (ha : a ≤ 999999999) (hb : b ≤ 999999999) (hc : c ≤ 999999999) {d : UInt8} (hd : isDig d = false) (h46 : d ≠ 46) : d ∉ Lib.decDigits a ++ 46 :: (Lib.decDigits b ++ 46 :: Lib.decDigits c) := by
  intro hm
  simp only [List.mem_append, List.mem_cons] at hm
  rcases hm with hm | hm | hm | hm | hm
  · exact dec_no ha hd hm
  · exact h46 hm
  · exact dec_no hb hd hm
  · exact h46 hm
  · exact dec_no hc hd hm
theorem textV_ok {a b c : Int} {p q : ByteArray} (h : verOk a b c p q = true) : (textV a b c p q).data.toList = bytesV a.toNat b.toNat c.toNat p.data.toList q.data.toList := by
  unfold textV; rw [if_pos h]; rfl
theorem cut_bytes {a b c : Int} {p q : ByteArray} (h : verOk a b c p q = true) :
    cutC 43 ((bytesV a.toNat b.toNat c.toNat p.data.toList q.data.toList).drop 1) = (Lib.decDigits a.toNat ++ 46 :: (Lib.decDigits b.toNat ++ 46 :: Lib.decDigits c.toNat) ++ tailV 45 p.data.toList, q.data.toList) ∧
    cutC 45 (Lib.decDigits a.toNat ++ 46 :: (Lib.decDigits b.toNat ++ 46 :: Lib.decDigits c.toNat) ++ tailV 45 p.data.toList) = (Lib.decDigits a.toNat ++ 46 :: (Lib.decDigits b.toNat ++ 46 :: Lib.decDigits c.toNat), p.data.toList) ∧
    splitC 46 (Lib.decDigits a.toNat ++ 46 :: (Lib.decDigits b.toNat ++ 46 :: Lib.decDigits c.toNat)) = [Lib.decDigits a.toNat, Lib.decDigits b.toNat, Lib.decDigits c.toNat] := by
  have v := verIs h
  have a9 := v.a9
  have b9 := v.b9
  have c9 := v.c9
  have ha : a.toNat ≤ 999999999 := by omega
  have hb : b.toNat ≤ 999999999 := by omega
  have hc : c.toNat ≤ 999999999 := by omega
  refine ⟨?_, ?_, ?_⟩
  · unfold bytesV
    rw [List.drop_succ_cons, List.drop_zero]
    exact cutC_tail fun hm => by
      rcases List.mem_append.1 hm with hm | hm
      · exact nums_no ha hb hc (by decide) (by decide) hm
      · exact tail_no (by decide) (pre_no v.pre (by decide) (by decide)) hm
  · exact cutC_tail (nums_no ha hb hc (by decide) (by decide))
  · rw [splitC_at _ (dec_no ha (by decide)), splitC_at _ (dec_no hb (by decide)), splitC_none (dec_no hc (by decide))]
theorem parseV_of {a b c : Int} {p q : ByteArray} (h : verOk a b c p q = true) : parseV (bytesV a.toNat b.toNat c.toNat p.data.toList q.data.toList) = some (a, b, c, p.data.toList, q.data.toList) := by
  obtain ⟨h1, h2, h3⟩ := cut_bytes h
  have v := verIs h
  have a0 := v.a0
  have a9 := v.a9
  have b0 := v.b0
  have b9 := v.b9
  have c0 := v.c0
  have c9 := v.c9
  unfold parseV
  rw [if_pos (by rfl), h1]
  simp only
  rw [h2]
  simp only
  rw [h3]
  simp only
  rw [atoi_dec (by omega), atoi_dec (by omega), atoi_dec (by omega)]
  simp only
  rw [Int.toNat_of_nonneg a0, Int.toNat_of_nonneg b0, Int.toNat_of_nonneg c0, ba_of, ba_of, textV_ok h, if_pos rfl]
/-- Whoever is told as a text s is what s is read as. -/
theorem parseV_text {a b c : Int} {p q : ByteArray} {s : List UInt8} (hs : s ≠ []) (h : (textV a b c p q).data.toList = s) : verOk a b c p q = true ∧ parseV s = some (a, b, c, p.data.toList, q.data.toList) := by
  by_cases hv : verOk a b c p q = true
  · refine ⟨hv, ?_⟩
    rw [textV_ok hv] at h
    rw [← h, parseV_of hv]
  · exfalso
    unfold textV at h
    rw [if_neg hv] at h
    exact hs h.symm
theorem parseV_some {s : List UInt8} {a b c : Int} {p q : List UInt8} (h : parseV s = some (a, b, c, p, q)) : verOk a b c (ba p) (ba q) = true ∧ s = bytesV a.toNat b.toNat c.toNat p q := by
  unfold parseV at h
  split at h
  · rename_i hh
    have hs : s ≠ [] := by rintro rfl; simp at hh
    split at h
    · split at h
      · split at h
        · rename_i ht
          simp only [Option.some.injEq, Prod.mk.injEq] at h
          obtain ⟨rfl, rfl, rfl, rfl, rfl⟩ := h
          have hv := (parseV_text hs ht).1
          exact ⟨hv, ht.symm.trans (textV_ok hv)⟩
        · cases h
      · cases h
    · cases h
  · cases h
theorem bytesV_len {a b c : Int} {p q : ByteArray} (h : verOk a b c p q = true) : (bytesV a.toNat b.toNat c.toNat p.data.toList q.data.toList).length ≤ 100 := by
  have v := verIs h
  have a9 := v.a9
  have b9 := v.b9
  have c9 := v.c9
  have hp := v.hp
  have hq := v.hq
  rw [Lib.size_eq] at hp hq
  have h1 := dec_len 8 a.toNat (by omega)
  have h2 := dec_len 8 b.toNat (by omega)
  have h3 := dec_len 8 c.toNat (by omega)
  have t1 : ∀ (c : UInt8) (l : List UInt8), (tailV c l).length ≤ l.length + 1 := fun c l => by
    unfold tailV; split <;> simp
  have h4 := t1 45 p.data.toList
  have h5 := t1 43 q.data.toList
  unfold bytesV
  simp only [List.length_cons, List.length_append]
  omega
end Go.Proofs.YtmbpefnhkimplaaGreatDoor
end

section
namespace Go.Proofs.YtmbpefnhkimplaaGreatDoor
open Go Go.RowKit Go.Proofs.YtmbpefnhkimplaaGreatDoorW.PrintWords
set_option linter.unusedVariables false
set_option linter.unusedSimpArgs false
theorem splitBy_ne (c : UInt8) (s : ByteArray) : splitBy c s ≠ [] := by
  unfold splitBy
  intro h
  exact splitC_ne c _ (List.map_eq_nil_iff.1 h)
theorem splitBy_length (c : UInt8) (s : ByteArray) : (splitBy c s).length ≤ s.size + 1 := by
  unfold splitBy
  rw [List.length_map, splitC_length, Lib.size_eq]
  have := List.count_le_length (a := c) (l := s.data.toList)
  omega
def mpath_split.f (a0 : ByteArray) : Option (List ByteArray × ByteArray) :=
  if a0.size < 4294967281 then some ((splitBy 47 a0).dropLast, (splitBy 47 a0).getLastD ByteArray.empty) else none
/-- strings.Split at '/', told outright. -/
theorem split_slash (a0 : ByteArray) (w : World) (hG : GW w) (hs : a0.size < 4294967281) :
    Calls Tryz.prog 65 #[.string a0, .string ⟨#[47]⟩] w fun e w' => e = .returned (.slice (some ⟨w.heap.size, 0, none⟩) (splitBy 47 a0).length (splitBy 47 a0).length) ∧
      w.alloc (.cells ((splitBy 47 a0).map Value.string).toArray 9) = w' := by
  obtain ⟨m, hm⟩ := hG.maxLen
  refine (Tryz.strings_Split a0 ⟨#[47]⟩ m w hs hm (Nat.le_refl 1)).mono ?_
  rintro e w' ⟨rfl, rfl⟩
  have hlen := Lib.splitB_all ⟨#[47]⟩ (Nat.le_refl 1) 0 _ a0 rfl
  rw [splitB_one 47 _ _ rfl] at hlen ⊢
  rw [← hlen]
  exact ⟨rfl, rfl⟩
set_option maxRecDepth 100000 in
set_option maxHeartbeats 1000000 in
theorem mpath_split.calls (a0 : ByteArray) (r1 : List ByteArray) (r2 : ByteArray) (w : World) (hG : GW w) (h : mpath_split.f a0 = some (r1, r2)) :
    Calls Tryz.prog 107 #[.string a0] w fun e w' => ∃ v0_ : Value, e = .returned (.tuple #[v0_, .string r2]) ∧ Kd.R Kd.string 9 w' w.heap.size (fun _ => True) v0_ r1 ∧ Below w.heap.size w w' := by
  unfold mpath_split.f at h
  by_cases hs : a0.size < 4294967281
  · rw [if_pos hs] at h
    obtain ⟨rfl, rfl⟩ := Prod.mk.inj (Option.some.inj h)
    have hl := splitBy_length 47 a0
    have HG := Aside0.mk hG
    clear hG h
    obtain ⟨l, hle⟩ : ∃ l, splitBy 47 a0 = l := ⟨_, rfl⟩
    have hne : l ≠ [] := hle ▸ splitBy_ne 47 a0
    obtain ⟨n, hn⟩ : ∃ n, l.length = n + 1 := ⟨l.length - 1, by have := List.length_pos_iff.2 hne; omega⟩
    have c := fun W hW => split_slash a0 W hW hs
    rw [hle, hn] at c
    rw [hle, hn] at hl
    obtain ⟨x, hx⟩ : ∃ x, l.getLastD ByteArray.empty = x := ⟨_, rfl⟩
    have hcell : (w.alloc (.cells (l.map Value.string).toArray 9)).cell? ⟨w.heap.size, n, none⟩ = some (.string x) := by
      have hb : (w.alloc (.cells (l.map Value.string).toArray 9)).heap[w.heap.size]? = some (.cells (l.map Value.string).toArray 9 (0, 0)) := heap_alloc_new w _
      have hx2 : l[n]? = some x := by
        rw [List.getLastD_eq_getLast?, List.getLast?_eq_getElem?] at hx
        rw [show l.length - 1 = n by omega] at hx
        rw [List.getElem?_eq_getElem (by omega)] at hx ⊢
        exact congrArg some hx
      simp only [World.cell?, hb]
      simp [hx2]
    have hown : (w.alloc (.cells (l.map Value.string).toArray 9)).ownsRow w.heap.size 9 1 (.slice (some ⟨w.heap.size, 0, none⟩) n (n + 1)) l.dropLast.length (encs Value.string l.dropLast) := by
      have hdl : l.dropLast.length = n := by rw [List.length_dropLast]; omega
      refine ⟨by simp [encs], .inr ⟨w.heap.size, n + 1, (l.map Value.string).toArray, by rw [hdl], Nat.le_refl _, heap_alloc_new w _, by rw [hdl]; omega, by unfold maxLen; omega, by simp [hn], ?_⟩⟩
      rw [hdl]
      simp [encs, List.dropLast_eq_take, hn]
    rw [hle, hx]
    clear hx
    have HOWN := Aside0.mk hown
    clear hown
    have HC := Aside0.mk c
    clear c
    go_enter Tryz.func107, Tryz.ntmps107
    go_wp2_with (go_at_call 65; (with_reducible refine (HC.out _ HG.out).mono ?_); rintro e w' ⟨rfl, rfl⟩)
    have hn63 : (n : Int) + 1 ≤ 9223372036854775807 := by omega
    have hn0 : (0 : Int) ≤ n := by omega
    go_quiet (fail)
    go_wp2
    go_ret2
    refine ⟨.slice (some ⟨w.heap.size, 0, none⟩) n (n + 1), rfl, ?_, ?_⟩
    · exact Kd.R_of_own (enc := Value.string) (h1 := fun _ => rfl) (show World.ownsRow (w.alloc (.cells (l.map Value.string).toArray 9)) _ _ _ _ _ _ from HOWN.out) (fun _ _ => trivial)
    · exact pw_below_drewN ((Below.refl _ _).alloc (Nat.le_refl _) _) _
  · rw [if_neg hs] at h
    cases h
end Go.Proofs.YtmbpefnhkimplaaGreatDoor
end
