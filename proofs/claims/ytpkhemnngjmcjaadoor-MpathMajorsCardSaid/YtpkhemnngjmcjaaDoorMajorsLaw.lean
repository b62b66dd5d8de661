/- Plain law: MpathMajors answers true. -/
import Derived.Test.YtpkhemnngjmcjaaDoorParts
import Derived.Test.YtpkhemnngjmcjaaDoorR2x3
import Derived.Laws.BytesArg
namespace Go.Proofs.YtpkhemnngjmcjaaDoor
open Go Go.RowKit Go.Proofs.YtpkhemnngjmcjaaDoorW.PrintWords Go.Proofs.YtpkhemnngjmcjaaDoor.K0 Go.Proofs.YtpkhemnngjmcjaaDoor.R1 Go.Proofs.YtpkhemnngjmcjaaDoor.R2
set_option linter.unusedVariables false
set_option linter.unusedSimpArgs false

/-- Number as text: the reference's own. -/
theorem dec_len : ∀ (d u : Nat), u < 10 ^ (d + 1) → (Lib.decDigits u).length ≤ d + 1
  | 0, u, h => by
    rw [dec_unfold, if_pos (by omega)]; simp
  | d + 1, u, h => by
    rw [dec_unfold]
    split
    · simp
    · rw [List.length_append]
      have : u / 10 < 10 ^ (d + 1) := by rw [Nat.div_lt_iff_lt_mul (by decide)]; rw [Nat.pow_succ] at h; exact h
      have := dec_len d (u / 10) this
      simp; exact this
theorem digit_text (m : Nat) (h : m < 10) : UInt8.ofNat ((wrap64 (48 + (m : Int))) % 256).toNat = UInt8.ofNat (48 + m) := by
  rw [wrap_id (z := 48 + (m : Int)) (by omega) (by omega)]
  congr 1
  omega
theorem num_f : ∀ (d : Nat) (m k : Nat), d ≤ 9 → m < 10 ^ (d + 1) → d < k → armadaref07_Number.f k (m : Int) = some (ba (Lib.decDigits m))
  | d, m, 0, _, _, hk => by omega
  | d, m, k + 1, hd, hm, hk => by
    have hm64 : m < 10 ^ 10 := Nat.lt_of_lt_of_le hm (Nat.pow_le_pow_right (by decide) (by omega))
    simp only [armadaref07_Number.f, Option.bind_some]
    have e1 : Int.tmod (m : Int) 10 = ((m % 10 : Nat) : Int) := by
      rw [show (10 : Int) = ((10 : Nat) : Int) from rfl, ← Int.ofNat_tmod]
    have e2 : Int.tdiv (m : Int) 10 = ((m / 10 : Nat) : Int) := by
      rw [show (10 : Int) = ((10 : Nat) : Int) from rfl, ← Int.ofNat_tdiv]
    have e3 : strOfNums [(wrap64 (48 + ((m % 10 : Nat) : Int))) % 256] = ba [UInt8.ofNat (48 + m % 10)] := by
      apply by_data
      rw [strOfNums_data, ba_data, List.map_cons, List.map_nil, digit_text _ (Nat.mod_lt _ (by decide))]
    rw [e1, e2, e3]
    by_cases h : m < 10
    · rw [if_neg (by omega), dec_unfold, if_pos h, Nat.mod_eq_of_lt h]
    · rw [if_pos (by omega)]
      match d, hm with
      | 0, hm => omega
      | d + 1, hm =>
        have hq : m / 10 < 10 ^ (d + 1) := by rw [Nat.div_lt_iff_lt_mul (by decide)]; rw [Nat.pow_succ] at hm; exact hm
        rw [wrap_id (z := ((m / 10 : Nat) : Int)) (by omega) (by omega), num_f d (m / 10) k (by omega) hq (by omega)]
        have hl := dec_len d (m / 10) hq
        simp only [Option.bind_some]
        rw [if_pos (by rw [ba_size, ba_size]; simp; omega), show Lib.decDigits m = Lib.decDigits (m / 10) ++ [UInt8.ofNat (48 + m % 10)] by rw [dec_unfold m, if_neg h]]
        rw [show ba (Lib.decDigits (m / 10)) ++ ba [UInt8.ofNat (48 + m % 10)] = ba (Lib.decDigits (m / 10) ++ [UInt8.ofNat (48 + m % 10)]) from by_data (by rw [ByteArray.data_append, Array.toList_append]; rfl)]
theorem dec_ne (u : Nat) : Lib.decDigits u ≠ [] := by
  rw [dec_unfold]; split <;> simp
theorem dig_of (n : Nat) (h : n < 10) : isDig (UInt8.ofNat (48 + n)) = true ∧ (UInt8.ofNat (48 + n)).toNat - 48 = n ∧ UInt8.ofNat (48 + n) ≠ 47 := by
  revert h; revert n; decide
theorem dec_all : ∀ (d u : Nat), u < 10 ^ (d + 1) → (Lib.decDigits u).all isDig = true ∧ val (Lib.decDigits u) = u
  | d, u, h => by
    rw [dec_unfold]
    split
    · rename_i hu
      obtain ⟨h1, h2, _⟩ := dig_of u hu
      refine ⟨by rw [List.all_cons, h1]; rfl, ?_⟩
      show 0 * 10 + ((UInt8.ofNat (48 + u)).toNat - 48) = u
      omega
    · match d, h with
      | 0, h => omega
      | d + 1, h =>
        have hq : u / 10 < 10 ^ (d + 1) := by rw [Nat.div_lt_iff_lt_mul (by decide)]; rw [Nat.pow_succ] at h; exact h
        obtain ⟨i1, i2⟩ := dec_all d (u / 10) hq
        obtain ⟨h1, h2, _⟩ := dig_of (u % 10) (Nat.mod_lt _ (by decide))
        refine ⟨by rw [List.all_append, i1, List.all_cons, h1]; rfl, ?_⟩
        rw [val_snoc, i2, h2]; omega

/-- A path that ends in a number of its own. -/
def vPart (n : Nat) : ByteArray := ba (118 :: Lib.decDigits n)
theorem vPart_tells {n : Nat} (h2 : 2 ≤ n) (h : n ≤ 999999999) : tellsOk (vPart n).data.toList = true ∧ numOf (vPart n).data.toList = (n : Int) := by
  have hp : n < 10 ^ (8 + 1) := by omega
  obtain ⟨i1, i2⟩ := dec_all 8 n hp
  have hl := dec_len 8 n hp
  have hne := List.length_pos_iff.2 (dec_ne n)
  have hh := dec_head n (by omega)
  unfold vPart
  rw [ba_data]
  constructor
  · unfold tellsOk
    rw [decide_eq_true (by simp; omega)]
    show (true && ((some (118 : UInt8)) == some 118) && (Lib.decDigits n).all isDig) = true
    rw [i1]; rfl
  · unfold numOf
    rw [if_neg (by simp; omega), show (118 :: Lib.decDigits n).drop 1 = Lib.decDigits n from rfl, if_neg hh, i2, if_neg (by omega)]
theorem vPart_no (n : Nat) (h : n ≤ 999999999) : (47 : UInt8) ∉ (vPart n).data.toList := by
  obtain ⟨i1, _⟩ := dec_all 8 n (by omega)
  unfold vPart
  rw [ba_data]
  intro hm
  rcases List.mem_cons.1 hm with h | h
  · cases h
  · have := List.all_eq_true.1 i1 _ h
    revert this; decide
theorem other_data (B : ByteArray) (n : Nat) : ((B ++ (⟨#[47, 118]⟩ : ByteArray)) ++ ba (Lib.decDigits n)).data.toList = B.data.toList ++ 47 :: (vPart n).data.toList := by
  rw [ByteArray.data_append, ByteArray.data_append, Array.toList_append, Array.toList_append, List.append_assoc]
  rfl
theorem other_ok {B s : ByteArray} {n : Nat} (h2 : 2 ≤ n) (h9 : n ≤ 999999999) (hs : s.data.toList = B.data.toList ++ 47 :: (vPart n).data.toList) (hn : nt (splitBy 47 B) = true) (hp : pathOk s = true) :
    checkOk s = true ∧ majorsOf s = (baseOf s, (n : Int), true) := by
  obtain ⟨t1, t2⟩ := vPart_tells h2 h9
  have hsp := splitBy_app hs
  rw [splitBy_one (vPart_no n h9)] at hsp
  have hc : checkOk s = true := by
    unfold checkOk
    rw [hp, hsp, parts_snoc, hn, t2, decide_eq_false (show ¬ (n : Int) = 0 by omega), decide_eq_true (split_pos 47 B)]
    simp
  refine ⟨hc, ?_⟩
  unfold majorsOf
  rw [if_pos hc, last_of_app hsp, if_pos t1, t2]
/-- What a path's own number and its base are. -/
theorem base_cases {s : ByteArray} (hc : checkOk s = true) : ∃ B n, majorsOf s = (B, n, true) ∧ checkOk B = true ∧ nt (splitBy 47 B) = true ∧ B.size ≤ 60 ∧
    ((n = 0 ∧ B = s) ∨ (∃ u : Nat, n = (u : Int) ∧ 2 ≤ u ∧ u ≤ 999999999 ∧ B ≠ s ∧ s = (B ++ (⟨#[47, 118]⟩ : ByteArray)) ++ ba (Lib.decDigits u))) := by
  rcases check_cases hc with ⟨hn, hm⟩ | ⟨ht, hz, hl, hm⟩
  · exact ⟨s, 0, hm, hc, hn, check_size hc, .inl ⟨rfl, rfl⟩⟩
  · obtain ⟨hsp, hd⟩ := base_split hl
    obtain ⟨f1, f2⟩ := front_ok hd hc
    refine ⟨baseOf s, _, hm, f1, f2, check_size f1, .inr ?_⟩
    generalize lastPart s = x at *
    have ht' := ht
    unfold tellsOk at ht'
    simp only [Bool.and_eq_true, decide_eq_true_eq] at ht'
    obtain ⟨⟨q1, q2⟩, q3⟩ := ht'
    obtain ⟨d, hx⟩ : ∃ d, x.data.toList = 118 :: d := by
      cases e : x.data.toList with
      | nil => rw [e] at q1; simp at q1
      | cons b d => rw [e] at q2; simp at q2; exact ⟨d, by rw [q2]⟩
    rw [hx] at q1 q3 hz ⊢
    have q3' : d.all isDig = true := q3
    have hne : d ≠ [] := by intro h; subst h; simp at q1
    unfold numOf at hz ⊢
    rw [show (118 :: d : List UInt8).drop 1 = d from rfl] at hz ⊢
    by_cases g1 : 10 < (118 :: d : List UInt8).length
    · rw [if_pos g1] at hz; exact absurd rfl hz
    · rw [if_neg g1] at hz ⊢
      by_cases g2 : d.head? = some 48
      · rw [if_pos g2] at hz; exact absurd rfl hz
      · rw [if_neg g2] at hz ⊢
        by_cases g3 : val d < 2
        · rw [if_pos g3] at hz; exact absurd rfl hz
        · rw [if_neg g3]
          have hlt := val_lt d q3'
          have hlen : d.length ≤ 9 := by simp at g1; omega
          have hpow : 10 ^ d.length ≤ 10 ^ 9 := Nat.pow_le_pow_right (by decide) hlen
          refine ⟨val d, rfl, by omega, by omega, ?_, ?_⟩
          · intro e
            have := size_app hd
            rw [e] at this
            omega
          · apply by_data
            rw [other_data, hd, hx]
            unfold vPart
            rw [ba_data, dec_val _ d rfl hne q3' g2]
theorem fits_of {s B : ByteArray} {n : Int} (hm : majorsOf s = (B, n, true)) (a b c : Int) (p q : ByteArray) : fitsOk s a b c p q = (verOk a b c p q && (if n = 0 then decide (a < 2) else (a == n))) := by
  unfold fitsOk
  rw [hm]
  cases verOk a b c p q <;> simp

theorem majors_j2 (B : ByteArray) (hB : checkOk B = true) (hn : nt (splitBy 47 B) = true) (hs : B.size ≤ 60) (x : Int) (z : Bool) (a b c : Int) (p q : ByteArray) (k : Nat) (hk : 402 < k)
    (hz : z = false → 2 ≤ x ∧ x ≤ 999999999 ∧ ∀ u : Nat, x = (u : Int) → pathOk ((B ++ (⟨#[47, 118]⟩ : ByteArray)) ++ ba (Lib.decDigits u)) = true) :
    armadalaw08_MpathMajors.j2 k x B z a b c p q = some true := by
  obtain ⟨k, rfl⟩ : ∃ m, k = m + 1 := ⟨k - 1, by omega⟩
  simp only [armadalaw08_MpathMajors.j2]
  cases z with
  | true => rw [if_pos rfl, live_f k (by omega)]; rfl
  | false =>
    obtain ⟨h2, h9, hp⟩ := hz rfl
    obtain ⟨u, rfl⟩ : ∃ u : Nat, x = u := ⟨x.toNat, by omega⟩
    have hp := hp u rfl
    have hlen := dec_len 8 u (by omega)
    obtain ⟨o1, o2⟩ := other_ok (by omega) (by omega) (other_data B u) hn hp
    have oB := majors_nt hB hn
    rw [if_neg (by simp), if_pos (by omega), num_f 8 u k (by omega) (by omega) (by omega)]
    simp only [Option.bind_some]
    have hsz : (B ++ (⟨#[47, 118]⟩ : ByteArray)).size + (ba (Lib.decDigits u)).size ≤ 9223372036854775807 := by
      rw [ba_size, ByteArray.size_append]
      show B.size + 2 + _ ≤ _
      omega
    rw [if_pos hsz, mpath_Check_f _ k (by omega), o1]
    simp only [Option.bind_some, if_true]
    rw [mpath_Fits_f _ _ _ _ _ _ k (by omega), mpath_Fits_f _ _ _ _ _ _ k (by omega)]
    simp only [Option.bind_some]
    have hj3 : armadalaw08_MpathMajors.j3 k (u : Int) ((B ++ (⟨#[47, 118]⟩ : ByteArray)) ++ ba (Lib.decDigits u)) false = some true := by
      obtain ⟨k, rfl⟩ : ∃ m, k = m + 1 := ⟨k - 1, by omega⟩
      simp only [armadalaw08_MpathMajors.j3]
      rw [if_neg (by simp), mpath_Fits_f _ _ _ _ _ _ k (by omega), fits_of o2, if_neg (by omega)]
      have : verOk (u : Int) 0 0 (⟨#[]⟩ : ByteArray) (⟨#[]⟩ : ByteArray) = true := by
        unfold verOk numB
        rw [decide_eq_true (show (0 : Int) ≤ (u : Int) by omega), decide_eq_true h9]
        decide
      rw [this]
      simp only [Option.bind_some, Bool.true_and, beq_self_eq_true, if_true]
      rw [live_f k (by omega)]; rfl
    have hno : (fitsOk B a b c p q = true) → fitsOk ((B ++ (⟨#[47, 118]⟩ : ByteArray)) ++ ba (Lib.decDigits u)) a b c p q = false := by
      rw [fits_of oB, fits_of o2, if_pos rfl, if_neg (show ¬ (u : Int) = 0 by omega)]
      cases verOk a b c p q
      · simp
      · simp; intro h; omega
    by_cases hf : fitsOk B a b c p q = true
    · rw [if_pos hf, hno hf]; exact hj3
    · rw [if_neg hf]; exact hj3
theorem majors_pure (s : ByteArray) (x : Int) (a b c : Int) (p q : ByteArray) : ∃ k, armadalaw08_MpathMajors.f k s x a b c p q = some true := by
  have hj : ∀ z, ∃ k, armadalaw08_MpathMajors.j0 k s x z a b c p q = some true := by
    intro z
    refine ⟨500, ?_⟩
    rw [show (500 : Nat) = 499 + 1 from rfl]
    simp only [armadalaw08_MpathMajors.j0]
    cases z with
    | true => rw [if_pos rfl, live_f 499 (by omega)]; rfl
    | false =>
      rw [if_neg (by simp), mpath_Major_f s 499 (by omega), mpath_Fits_f s _ _ _ _ _ 499 (by omega)]
      simp only [Option.bind_some]
      by_cases hc : checkOk s = true
      · obtain ⟨B, n, hm, hB, hn, hs, hcase⟩ := base_cases hc
        have oB := majors_nt hB hn
        rw [hm]
        simp only [if_true]
        rw [mpath_Major_f B 499 (by omega), oB]
        simp only [Option.bind_some, if_true]
        have hj1 : armadalaw08_MpathMajors.j1 499 x B false a b c p q = some true := by
          rw [show (499 : Nat) = 498 + 1 from rfl]
          simp only [armadalaw08_MpathMajors.j1]
          rw [if_neg (by simp)]
          by_cases h2 : x < 2
          · rw [if_pos h2]; exact majors_j2 B hB hn hs x true a b c p q 498 (by omega) (fun h => by cases h)
          · rw [if_neg h2]
            by_cases h9 : x > 999999999
            · rw [if_pos h9]; exact majors_j2 B hB hn hs x true a b c p q 498 (by omega) (fun h => by cases h)
            · rw [if_neg h9, if_pos (by omega)]
              obtain ⟨u, rfl⟩ : ∃ u : Nat, x = u := ⟨x.toNat, by omega⟩
              have hlen := dec_len 8 u (by omega)
              have hsz : (B ++ (⟨#[47, 118]⟩ : ByteArray)).size + (ba (Lib.decDigits u)).size ≤ 9223372036854775807 := by
                rw [ba_size, ByteArray.size_append]
                show B.size + 2 + _ ≤ _
                omega
              rw [num_f 8 u 498 (by omega) (by omega) (by omega)]
              simp only [Option.bind_some]
              rw [if_pos hsz, ref_Path_f _ 498 (by omega)]
              simp only [Option.bind_some]
              refine majors_j2 B hB hn hs (u : Int) _ a b c p q 498 (by omega) (fun h => ⟨by omega, by omega, fun v hv => ?_⟩)
              obtain rfl : u = v := by omega
              simpa using h
        rcases hcase with ⟨rfl, rfl⟩ | ⟨u, rfl, h2, h9, hne, hs2⟩
        · rw [show (((0 : Int) == 0) != (B.toList == B.toList)) = false by simp]
          rw [if_neg (by simp), if_neg (by omega)]
          exact hj1
        · have e1 : (((u : Int) == 0) != (B.toList == s.toList)) = false := by
            have t1 : ((u : Int) == 0) = false := by simp; omega
            have t2 : (B.toList == s.toList) = false := by
              simp only [ByteArray.toList_eq]
              simpa using fun h => hne (by_data (by simpa using h))
            rw [t1, t2]; rfl
          have hlen := dec_len 8 u (by omega)
          have hsz : (B ++ (⟨#[47, 118]⟩ : ByteArray)).size + (ba (Lib.decDigits u)).size ≤ 9223372036854775807 := by
            rw [ba_size, ByteArray.size_append]
            show B.size + 2 + _ ≤ _
            omega
          rw [e1, if_neg (by simp), if_pos (by omega), if_pos (by omega), num_f 8 u 499 (by omega) (by omega) (by omega)]
          simp only [Option.bind_some]
          rw [if_pos hsz, ← hs2, show (s.toList != s.toList) = false by simp]
          exact hj1
      · have hm : majorsOf s = (⟨#[]⟩, 0, false) := by unfold majorsOf; rw [if_neg hc]
        have hf : fitsOk s a b c p q = false := by unfold fitsOk; rw [hm]; rfl
        rw [hm, hf]
        simp only [Bool.false_eq_true, if_false, ByteArray.toList_eq]
        rw [if_pos trivial, if_pos trivial, live_f 499 (by omega)]; rfl
  unfold armadalaw08_MpathMajors.f
  by_cases h1 : (s.size : Int) > 200
  · simp only [h1, if_true]; exact hj _
  · by_cases h2 : (p.size : Int) > 200
    · simp only [h1, h2, if_true, if_false]; exact hj _
    · simp only [h1, h2, if_false]; exact hj _
end Go.Proofs.YtpkhemnngjmcjaaDoor
