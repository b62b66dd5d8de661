/- The texts VerPl, VText in one file, without what this claim does not use (put together by prune.py). -/
import Derived.Test.YtnnogepjkfllnaaGreatDoorZR22
import Derived.Test.YtnnogepjkfllnaaGreatDoorZR25
import Derived.Lib.IndexMore
import Derived.Test.YtnnogepjkfllnaaGreatDoorZR20
section
namespace Go.Proofs.YtnnogepjkfllnaaGreatDoor
open Go Go.RowKit Go.Proofs.YtnnogepjkfllnaaGreatDoorW.PrintWords Go.Proofs.YtnnogepjkfllnaaGreatDoor.K0 Go.Proofs.YtnnogepjkfllnaaGreatDoor.R1
set_option linter.unusedVariables false
set_option linter.unusedSimpArgs false
theorem dec_len : ∀ (d u : Nat), u < 10 ^ (d + 1) → (Lib.decDigits u).length ≤ d + 1
  | 0, u, h => by
    rw [dec_unfold, if_pos (by omega)]; simp
  | d + 1, u, h => by
    rw [dec_unfold]
    split
    · simp
    · rw [List.length_append]
      have : u / 10 < 10 ^ (d + 1) := by rw [Nat.div_lt_iff_lt_mul (by decide)]; rw [Nat.pow_succ] at h; exact h
      have := dec_len d (u / 10) this
      simp; exact this
theorem dec_ne (u : Nat) : Lib.decDigits u ≠ [] := by
  rw [dec_unfold]; split <;> simp
theorem dig_of (n : Nat) (h : n < 10) : isDig (UInt8.ofNat (48 + n)) = true ∧ (UInt8.ofNat (48 + n)).toNat - 48 = n ∧ UInt8.ofNat (48 + n) ≠ 47 := by
  revert h; revert n; decide
theorem dec_all : ∀ (d u : Nat), u < 10 ^ (d + 1) → (Lib.decDigits u).all isDig = true ∧ val (Lib.decDigits u) = u
  | d, u, h => by
    rw [dec_unfold]
    split
    · rename_i hu
      obtain ⟨h1, h2, _⟩ := dig_of u hu
      refine ⟨by rw [List.all_cons, h1]; rfl, ?_⟩
      show 0 * 10 + ((UInt8.ofNat (48 + u)).toNat - 48) = u
      omega
    · match d, h with
      | 0, h => omega
      | d + 1, h =>
        have hq : u / 10 < 10 ^ (d + 1) := by rw [Nat.div_lt_iff_lt_mul (by decide)]; rw [Nat.pow_succ] at h; exact h
        obtain ⟨i1, i2⟩ := dec_all d (u / 10) hq
        obtain ⟨h1, h2, _⟩ := dig_of (u % 10) (Nat.mod_lt _ (by decide))
        refine ⟨by rw [List.all_append, i1, List.all_cons, h1]; rfl, ?_⟩
        rw [val_snoc, i2, h2]; omega
theorem dec_no {n : Nat} (h : n ≤ 999999999) {c : UInt8} (hc : isDig c = false) : c ∉ Lib.decDigits n := fun hm => by
  have := List.all_eq_true.1 (dec_all 8 n (by omega)).1 _ hm
  rw [hc] at this; cases this
theorem atoi_dec {n : Nat} (h : n ≤ 999999999) : Lib.atoiAll (Lib.decDigits n) = .ok (n : Int) := by
  have hd := dec_all 8 n (by omega)
  rcases atoi_digits (Lib.decDigits n) (dec_ne n) hd.1 with ⟨h1, _⟩ | ⟨_, h2⟩
  · rw [h1, hd.2]
  · rw [hd.2] at h2; omega
def cutC (c : UInt8) : List UInt8 → List UInt8 × List UInt8
  | [] => ([], [])
  | b :: t => if b = c then ([], t) else (b :: (cutC c t).1, (cutC c t).2)
theorem cutC_at {c : UInt8} : ∀ {a : List UInt8} (t : List UInt8), c ∉ a → cutC c (a ++ c :: t) = (a, t)
  | [], t, _ => by simp [cutC]
  | b :: a, t, h => by
    have h1 : b ≠ c := fun e => h (e ▸ List.mem_cons_self)
    have h2 : c ∉ a := fun e => h (List.mem_cons_of_mem _ e)
    simp [cutC, h1, cutC_at t h2]
theorem cutC_none {c : UInt8} : ∀ {a : List UInt8}, c ∉ a → cutC c a = (a, [])
  | [], _ => rfl
  | b :: a, h => by
    have h1 : b ≠ c := fun e => h (e ▸ List.mem_cons_self)
    have h2 : c ∉ a := fun e => h (List.mem_cons_of_mem _ e)
    simp [cutC, h1, cutC_none h2]
theorem cut_one (c : UInt8) (l : List UInt8) : ((Lib.cut l [c]).1, (Lib.cut l [c]).2.1) = cutC c l := by
  unfold Lib.cut
  rw [index_one]
  rcases Int.lt_or_le (Lib.indexByte l c) 0 with h | h
  · have h1 := Lib.indexByte_ge l c
    rw [if_neg (by omega), cutC_none (idx_none (by omega))]
  · rw [if_pos h]
    obtain ⟨i, hi⟩ : ∃ i : Nat, Lib.indexByte l c = i := ⟨(Lib.indexByte l c).toNat, by omega⟩
    obtain ⟨a, t, rfl, hn, hl⟩ := idx_some hi
    rw [hi, cutC_at t hn, Int.toNat_natCast, ← hl]
    simp
def tailV (c : UInt8) (p : List UInt8) : List UInt8 := if p = [] then [] else c :: p
def bytesV (a b c : Nat) (p q : List UInt8) : List UInt8 := 118 :: ((Lib.decDigits a ++ 46 :: (Lib.decDigits b ++ 46 :: Lib.decDigits c) ++ tailV 45 p) ++ tailV 43 q)
def textV (a b c : Int) (p q : ByteArray) : ByteArray := if verOk a b c p q = true then ba (bytesV a.toNat b.toNat c.toNat p.data.toList q.data.toList) else ⟨#[]⟩
def parseV (s : List UInt8) : Option (Int × Int × Int × List UInt8 × List UInt8) :=
  if s.head? = some 118 then
    match splitC 46 (cutC 45 (cutC 43 (s.drop 1)).1).1 with
    | [x, y, z] =>
      match Lib.atoiAll x, Lib.atoiAll y, Lib.atoiAll z with
      | .ok a, .ok b, .ok c => if (textV a b c (ba (cutC 45 (cutC 43 (s.drop 1)).1).2) (ba (cutC 43 (s.drop 1)).2)).data.toList = s then some (a, b, c, (cutC 45 (cutC 43 (s.drop 1)).1).2, (cutC 43 (s.drop 1)).2) else none
      | _, _, _ => none
    | _ => none
  else none
theorem splitC_mem {c x : UInt8} : ∀ {l : List UInt8}, x ∈ l → x = c ∨ ∃ p ∈ splitC c l, x ∈ p
  | [], h => by simp at h
  | b :: t, h => by
    by_cases hb : b = c
    · rcases List.mem_cons.1 h with rfl | h
      · exact .inl hb
      · rcases splitC_mem (c := c) h with h | ⟨p, hp, hx⟩
        · exact .inl h
        · exact .inr ⟨p, by rw [splitC, if_pos hb]; exact List.mem_cons_of_mem _ hp, hx⟩
    · obtain ⟨q, qs, e, e2⟩ := splitC_other hb t
      rw [e2]
      rcases List.mem_cons.1 h with rfl | h
      · exact .inr ⟨_, List.mem_cons_self, List.mem_cons_self⟩
      · rcases splitC_mem (c := c) h with h | ⟨p, hp, hx⟩
        · exact .inl h
        · rw [e] at hp
          rcases List.mem_cons.1 hp with rfl | hp
          · exact .inr ⟨_, List.mem_cons_self, List.mem_cons_of_mem _ hx⟩
          · exact .inr ⟨p, List.mem_cons_of_mem _ hp, hx⟩
theorem ids_no {z : Bool} {s : ByteArray} (h : idsOk z s = true) {c : UInt8} (hc : isIdent c = false) (h46 : c ≠ 46) : c ∉ s.data.toList := fun hm => by
  rcases splitC_mem (c := 46) hm with rfl | ⟨p, hp, hx⟩
  · exact h46 rfl
  · have h1 := List.all_eq_true.1 h p hp
    unfold okId wordOk at h1
    simp only [Bool.and_eq_true] at h1
    have := List.all_eq_true.1 h1.1.1 _ hx
    rw [hc] at this; cases this
theorem size0_data {s : ByteArray} (h : s.size = 0) : s.data.toList = [] := by
  rw [Lib.size_eq] at h; exact List.length_eq_zero_iff.1 h
theorem pre_no {p : ByteArray} (h : preOk p = true) {c : UInt8} (hc : isIdent c = false) (h46 : c ≠ 46) : c ∉ p.data.toList := by
  unfold preOk at h
  rcases Bool.or_eq_true _ _ ▸ h with h | h
  · rw [size0_data (of_decide_eq_true h)]; simp
  · exact ids_no h hc h46
theorem build_no {p : ByteArray} (h : buildOk p = true) {c : UInt8} (hc : isIdent c = false) (h46 : c ≠ 46) : c ∉ p.data.toList := by
  unfold buildOk at h
  rcases Bool.or_eq_true _ _ ▸ h with h | h
  · rw [size0_data (of_decide_eq_true h)]; simp
  · exact ids_no h hc h46
structure VerIs (a b c : Int) (p q : ByteArray) : Prop where
  a0 : 0 ≤ a
  a9 : a ≤ 999999999
  b0 : 0 ≤ b
  b9 : b ≤ 999999999
  c0 : 0 ≤ c
  c9 : c ≤ 999999999
  hp : p.size ≤ 30
  hq : q.size ≤ 30
  pre : preOk p = true
  build : buildOk q = true
theorem verIs {a b c : Int} {p q : ByteArray} (h : verOk a b c p q = true) : VerIs a b c p q := by
  unfold verOk numB at h
  simp only [Bool.and_eq_true, decide_eq_true_eq] at h
  obtain ⟨⟨h1, h2⟩, ⟨h3, h4⟩, ⟨h5, h6⟩, h7, h8, h9, h10⟩ := h
  exact ⟨h1, h2, h3, h4, h5, h6, h7, h8, h9, h10⟩
theorem cutC_tail {c : UInt8} {l p : List UInt8} (h : c ∉ l) : cutC c (l ++ tailV c p) = (l, p) := by
  unfold tailV
  by_cases hp : p = []
  · rw [if_pos hp, List.append_nil, cutC_none h, hp]
  · rw [if_neg hp, cutC_at p h]
theorem tail_no {c d : UInt8} {p : List UInt8} (h : d ≠ c) (hp : d ∉ p) : d ∉ tailV c p := by
  unfold tailV
  split
  · simp
  · intro hm
    rcases List.mem_cons.1 hm with e | hm
    · exact h e
    · exact hp hm
theorem nums_no {a b c : Nat} (ha : a ≤ 999999999) (hb : b ≤ 999999999) (hc : c ≤ 999999999) {d : UInt8} (hd : isDig d = false) (h46 : d ≠ 46) : d ∉ Lib.decDigits a ++ 46 :: (Lib.decDigits b ++ 46 :: Lib.decDigits c) := by
  intro hm
  simp only [List.mem_append, List.mem_cons] at hm
  rcases hm with hm | hm | hm | hm | hm
  · exact dec_no ha hd hm
  · exact h46 hm
  · exact dec_no hb hd hm
  · exact h46 hm
  · exact dec_no hc hd hm
theorem textV_ok {a b c : Int} {p q : ByteArray} (h : verOk a b c p q = true) : (textV a b c p q).data.toList = bytesV a.toNat b.toNat c.toNat p.data.toList q.data.toList := by
  unfold textV; rw [if_pos h]; rfl
theorem cut_bytes {a b c : Int} {p q : ByteArray} (h : verOk a b c p q = true) :
    cutC 43 ((bytesV a.toNat b.toNat c.toNat p.data.toList q.data.toList).drop 1) = (Lib.decDigits a.toNat ++ 46 :: (Lib.decDigits b.toNat ++ 46 :: Lib.decDigits c.toNat) ++ tailV 45 p.data.toList, q.data.toList) ∧
    cutC 45 (Lib.decDigits a.toNat ++ 46 :: (Lib.decDigits b.toNat ++ 46 :: Lib.decDigits c.toNat) ++ tailV 45 p.data.toList) = (Lib.decDigits a.toNat ++ 46 :: (Lib.decDigits b.toNat ++ 46 :: Lib.decDigits c.toNat), p.data.toList) ∧
    splitC 46 (Lib.decDigits a.toNat ++ 46 :: (Lib.decDigits b.toNat ++ 46 :: Lib.decDigits c.toNat)) = [Lib.decDigits a.toNat, Lib.decDigits b.toNat, Lib.decDigits c.toNat] := by
  have v := verIs h
  have a9 := v.a9
  have b9 := v.b9
  have c9 := v.c9
  have ha : a.toNat ≤ 999999999 := by omega
  have hb : b.toNat ≤ 999999999 := by omega
  have hc : c.toNat ≤ 999999999 := by omega
  refine ⟨?_, ?_, ?_⟩
  · unfold bytesV
    rw [List.drop_succ_cons, List.drop_zero]
    exact cutC_tail fun hm => by
      rcases List.mem_append.1 hm with hm | hm
      · exact nums_no ha hb hc (by decide) (by decide) hm
      · exact tail_no (by decide) (pre_no v.pre (by decide) (by decide)) hm
  · exact cutC_tail (nums_no ha hb hc (by decide) (by decide))
  · rw [splitC_at _ (dec_no ha (by decide)), splitC_at _ (dec_no hb (by decide)), splitC_none (dec_no hc (by decide))]
theorem parseV_of {a b c : Int} {p q : ByteArray} (h : verOk a b c p q = true) : parseV (bytesV a.toNat b.toNat c.toNat p.data.toList q.data.toList) = some (a, b, c, p.data.toList, q.data.toList) := by
  obtain ⟨h1, h2, h3⟩ := cut_bytes h
  have v := verIs h
  have a0 := v.a0
  have a9 := v.a9
  have b0 := v.b0
  have b9 := v.b9
  have c0 := v.c0
  have c9 := v.c9
  unfold parseV
  rw [if_pos (by rfl), h1]
  simp only
  rw [h2]
  simp only
  rw [h3]
  simp only
  rw [atoi_dec (by omega), atoi_dec (by omega), atoi_dec (by omega)]
  simp only
  rw [Int.toNat_of_nonneg a0, Int.toNat_of_nonneg b0, Int.toNat_of_nonneg c0, ba_of, ba_of, textV_ok h, if_pos rfl]
/-- Whoever is told as a text s is what s is read as. -/
theorem parseV_text {a b c : Int} {p q : ByteArray} {s : List UInt8} (hs : s ≠ []) (h : (textV a b c p q).data.toList = s) : verOk a b c p q = true ∧ parseV s = some (a, b, c, p.data.toList, q.data.toList) := by
  by_cases hv : verOk a b c p q = true
  · refine ⟨hv, ?_⟩
    rw [textV_ok hv] at h
    rw [← h, parseV_of hv]
  · exfalso
    unfold textV at h
    rw [if_neg hv] at h
    exact hs h.symm
theorem parseV_some {s : List UInt8} {a b c : Int} {p q : List UInt8} (h : parseV s = some (a, b, c, p, q)) : verOk a b c (ba p) (ba q) = true ∧ s = bytesV a.toNat b.toNat c.toNat p q := by
  unfold parseV at h
  split at h
  · rename_i hh
    have hs : s ≠ [] := by rintro rfl; simp at hh
    split at h
    · split at h
      · split at h
        · rename_i ht
          simp only [Option.some.injEq, Prod.mk.injEq] at h
          obtain ⟨rfl, rfl, rfl, rfl, rfl⟩ := h
          have hv := (parseV_text hs ht).1
          exact ⟨hv, ht.symm.trans (textV_ok hv)⟩
        · cases h
      · cases h
    · cases h
  · cases h
theorem bytesV_len {a b c : Int} {p q : ByteArray} (h : verOk a b c p q = true) : (bytesV a.toNat b.toNat c.toNat p.data.toList q.data.toList).length ≤ 100 := by
  have v := verIs h
  have a9 := v.a9
  have b9 := v.b9
  have c9 := v.c9
  have hp := v.hp
  have hq := v.hq
  rw [Lib.size_eq] at hp hq
  have h1 := dec_len 8 a.toNat (by omega)
  have h2 := dec_len 8 b.toNat (by omega)
  have h3 := dec_len 8 c.toNat (by omega)
  have t1 : ∀ (c : UInt8) (l : List UInt8), (tailV c l).length ≤ l.length + 1 := fun c l => by
    unfold tailV; split <;> simp
  have h4 := t1 45 p.data.toList
  have h5 := t1 43 q.data.toList
  unfold bytesV
  simp only [List.length_cons, List.length_append]
  omega
/-- No blank and no newline in a version's text. -/
theorem bytesV_clean {a b c : Int} {p q : ByteArray} (h : verOk a b c p q = true) : (32 : UInt8) ∉ bytesV a.toNat b.toNat c.toNat p.data.toList q.data.toList ∧ (10 : UInt8) ∉ bytesV a.toNat b.toNat c.toNat p.data.toList q.data.toList := by
  have v := verIs h
  have a9 := v.a9
  have b9 := v.b9
  have c9 := v.c9
  have key : ∀ d : UInt8, isDig d = false → isIdent d = false → d ≠ 46 → d ≠ 45 → d ≠ 43 → d ≠ 118 → d ∉ bytesV a.toNat b.toNat c.toNat p.data.toList q.data.toList := fun d h1 h2 h3 h4 h5 h6 hm => by
    unfold bytesV at hm
    rcases List.mem_cons.1 hm with e | hm
    · exact h6 e
    · rcases List.mem_append.1 hm with hm | hm
      · rcases List.mem_append.1 hm with hm | hm
        · exact nums_no (by omega) (by omega) (by omega) h1 h3 hm
        · exact tail_no h4 (pre_no v.pre h2 h3) hm
      · exact tail_no h5 (build_no v.build h2 h3) hm
  exact ⟨key 32 (by decide) (by decide) (by decide) (by decide) (by decide) (by decide), key 10 (by decide) (by decide) (by decide) (by decide) (by decide) (by decide)⟩
end Go.Proofs.YtnnogepjkfllnaaGreatDoor
end

section
namespace Go.Proofs.YtnnogepjkfllnaaGreatDoor
open Go Go.RowKit Go.Proofs Go.Proofs.YtnnogepjkfllnaaGreatDoorW.PrintWords Go.Proofs.YtnnogepjkfllnaaGreatDoor.K0 Go.Proofs.YtnnogepjkfllnaaGreatDoor.R1 Go.Proofs.YtnnogepjkfllnaaGreatDoor.R3
set_option linter.unusedVariables false
set_option linter.unusedSimpArgs false
theorem itoa_f (x : Int) (h0 : 0 ≤ x) (h1 : x ≤ 999999999) : strconv_Itoa.f x = some (ba (Lib.decDigits x.toNat)) := by
  unfold strconv_Itoa.f Lib.itoa
  rw [if_pos (by omega), if_pos (by omega), if_neg (by omega)]
theorem ba_add (a b : List UInt8) : ba a ++ ba b = ba (a ++ b) := by
  apply by_data
  simp [ba]
theorem ba_one (b : UInt8) : (⟨#[b]⟩ : ByteArray) = ba [b] := rfl
theorem text_f (a b c : Int) (p q : ByteArray) (k : Nat) (hk : 101 < k) : ver_Text.f k a b c p q = some (textV a b c p q) := by
  unfold ver_Text.f textV
  rw [ver_Check_f a b c p q k (by omega)]
  simp only [Option.bind_some]
  by_cases hv : verOk a b c p q = true
  · rw [if_pos hv, if_pos hv]
    unfold bytesV tailV
    have v := verIs hv
    have d1 := dec_len 8 a.toNat (by have := v.a9; omega)
    have d2 := dec_len 8 b.toNat (by have := v.b9; omega)
    have d3 := dec_len 8 c.toNat (by have := v.c9; omega)
    have hp := v.hp
    have hq := v.hq
    rw [itoa_f a v.a0 v.a9, itoa_f b v.b0 v.b9, itoa_f c v.c0 v.c9]
    simp only [Option.bind_some]
    have hpe : (p.toList = ([] : List UInt8)) ↔ p.data.toList = [] := by rw [ByteArray.toList_eq]
    have hqe : (q.toList = ([] : List UInt8)) ↔ q.data.toList = [] := by rw [ByteArray.toList_eq]
    obtain ⟨P, rfl⟩ : ∃ P, p = ba P := ⟨p.data.toList, rfl⟩
    obtain ⟨Q, rfl⟩ : ∃ Q, q = ba Q := ⟨q.data.toList, rfl⟩
    rw [ba_data] at hpe hqe
    rw [ba_size] at hp hq
    simp only [ba_one, ba_add, ba_size, hpe, hqe, ba_data, List.length_append, List.length_cons, List.length_nil]
    generalize Lib.decDigits a.toNat = A at *
    generalize Lib.decDigits b.toNat = B at *
    generalize Lib.decDigits c.toNat = C at *
    rw [if_pos (by omega), if_pos (by omega), if_pos (by omega), if_pos (by omega), if_pos (by omega)]
    by_cases h1 : P = [] <;> by_cases h2 : Q = []
    · rw [if_pos h1, if_pos h2]; simp [h1, h2]
    · rw [if_pos h1, if_neg h2, if_pos (by omega), if_pos (by omega)]; simp [h1, h2]
    · rw [if_neg h1, if_pos (by omega), if_pos (by omega), if_pos h2]; simp [h1, h2]
    · rw [if_neg h1, if_pos (by omega), if_pos (by omega), if_neg h2, if_pos (by omega), if_pos (by omega)]; simp [h1, h2]
  · rw [if_neg hv, if_neg hv]
theorem text_calls (a b c : Int) (p q : ByteArray) (w : World) (hG : GW w) : Calls Tryz.prog 71 #[.agg #[.int .i64 a, .int .i64 b, .int .i64 c, .string p, .string q]] w fun e w' => e = .returned (.string (textV a b c p q)) ∧ Below w.heap.size w w' :=
  ver_Text.calls 102 a b c p q _ w hG (text_f a b c p q 102 (by decide))
end Go.Proofs.YtnnogepjkfllnaaGreatDoor
end
