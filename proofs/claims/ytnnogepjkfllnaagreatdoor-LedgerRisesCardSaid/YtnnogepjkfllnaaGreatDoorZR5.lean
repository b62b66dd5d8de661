/- The texts B64, WEqStruct in one file, without what this claim does not use (put together by prune.py). -/
import Derived.Lib.Bytealg
import Derived.Lib.SlTrimSet
import Derived.Test.YtnnogepjkfllnaaGreatDoorZR0
import Derived.Laws.StructEq
section
namespace Go.Proofs.YtnnogepjkfllnaaGreatDoor
open Go Go.Lib
set_option linter.unusedVariables false
set_option linter.unusedSimpArgs false
/-- The signs of base 64, by their numbers. -/
def signsL : List UInt8 := [65, 66, 67, 68, 69, 70, 71, 72, 73, 74, 75, 76, 77, 78, 79, 80, 81, 82, 83, 84, 85, 86, 87, 88, 89, 90, 97, 98, 99, 100, 101, 102, 103, 104, 105, 106, 107, 108, 109, 110, 111, 112, 113, 114, 115, 116, 117, 118, 119, 120, 121, 122, 48, 49, 50, 51, 52, 53, 54, 55, 56, 57, 43, 47]
def sgn (n : Nat) : UInt8 := signsL.getD n 0
def numS (c : UInt8) : Int := indexByte signsL c
theorem numS_sgn : ∀ n : Nat, n < 64 → numS (sgn n) = (n : Int) := by decide +kernel
theorem sgn_ne_pad : ∀ n : Nat, n < 64 → sgn n ≠ 61 := by decide +kernel
theorem sgn_clean : ∀ n : Nat, n < 64 → sgn n ≠ 32 ∧ sgn n ≠ 10 := by decide +kernel
theorem numS_lt (c : UInt8) : numS c < 64 := by
  have : ∀ n : Nat, n < 256 → numS (UInt8.ofNat n) < 64 := by decide +kernel
  have h := this c.toNat c.toNat_lt
  rwa [UInt8.ofNat_toNat] at h
/-- Bytes as signs, without the padding. -/
def encB : List UInt8 → List UInt8
  | [] => []
  | [a] => [sgn (a.toNat / 4), sgn (a.toNat % 4 * 16)]
  | [a, b] => [sgn (a.toNat / 4), sgn (a.toNat % 4 * 16 + b.toNat / 16), sgn (b.toNat % 16 * 4)]
  | a :: b :: c :: t => sgn (a.toNat / 4) :: sgn (a.toNat % 4 * 16 + b.toNat / 16) :: sgn (b.toNat % 16 * 4 + c.toNat / 64) :: sgn (c.toNat % 64) :: encB t
/-- Bytes as signs. -/
def enc : List UInt8 → List UInt8
  | [] => []
  | [a] => [sgn (a.toNat / 4), sgn (a.toNat % 4 * 16), 61, 61]
  | [a, b] => [sgn (a.toNat / 4), sgn (a.toNat % 4 * 16 + b.toNat / 16), sgn (b.toNat % 16 * 4), 61]
  | a :: b :: c :: t => sgn (a.toNat / 4) :: sgn (a.toNat % 4 * 16 + b.toNat / 16) :: sgn (b.toNat % 16 * 4 + c.toNat / 64) :: sgn (c.toNat % 64) :: enc t
/-- Signs as bytes: n holds the last twelve bits, `bits` of them not given yet. -/
def dec : Nat → Nat → List UInt8 → Option (List UInt8)
  | _, _, [] => some []
  | n, bits, c :: t => if numS c < 0 then none else
    if 8 ≤ bits + 6 then (dec ((n * 64 + (numS c).toNat) % 4096) (bits - 2) t).map (UInt8.ofNat ((n * 64 + (numS c).toNat) % 4096 / 2 ^ (bits - 2)) :: ·) else dec ((n * 64 + (numS c).toNat) % 4096) (bits + 6) t
theorem enc_pad : ∀ d : List UInt8, ∃ k, enc d = encB d ++ List.replicate k 61
  | [] => ⟨0, rfl⟩
  | [a] => ⟨2, rfl⟩
  | [a, b] => ⟨1, rfl⟩
  | a :: b :: c :: t => by
    obtain ⟨k, h⟩ := enc_pad t
    exact ⟨k, by simp only [enc, encB, h, List.cons_append]⟩
theorem encB_mem : ∀ (d : List UInt8) (x : UInt8), x ∈ encB d → ∃ n, n < 64 ∧ x = sgn n
  | [], x, h => by simp [encB] at h
  | [a], x, h => by
    have ha := a.toNat_lt
    simp only [encB, List.mem_cons, List.not_mem_nil, or_false] at h
    rcases h with rfl | rfl
    · exact ⟨_, by omega, rfl⟩
    · exact ⟨_, by omega, rfl⟩
  | [a, b], x, h => by
    have ha := a.toNat_lt
    have hb := b.toNat_lt
    simp only [encB, List.mem_cons, List.not_mem_nil, or_false] at h
    rcases h with rfl | rfl | rfl
    · exact ⟨_, by omega, rfl⟩
    · exact ⟨_, by omega, rfl⟩
    · exact ⟨_, by omega, rfl⟩
  | a :: b :: c :: t, x, h => by
    have ha := a.toNat_lt
    have hb := b.toNat_lt
    have hc := c.toNat_lt
    simp only [encB, List.mem_cons] at h
    rcases h with rfl | rfl | rfl | rfl | h
    · exact ⟨_, by omega, rfl⟩
    · exact ⟨_, by omega, rfl⟩
    · exact ⟨_, by omega, rfl⟩
    · exact ⟨_, by omega, rfl⟩
    · exact encB_mem t x h
theorem encB_no_pad (d : List UInt8) : (61 : UInt8) ∉ encB d := fun h => by
  obtain ⟨n, hn, e⟩ := encB_mem d 61 h
  exact sgn_ne_pad n hn e.symm
theorem enc_clean (d : List UInt8) : (32 : UInt8) ∉ enc d ∧ (10 : UInt8) ∉ enc d := by
  obtain ⟨k, h⟩ := enc_pad d
  rw [h]
  constructor
  · intro hm
    rcases List.mem_append.1 hm with hm | hm
    · obtain ⟨n, hn, e⟩ := encB_mem d _ hm
      exact (sgn_clean n hn).1 e.symm
    · exact absurd (List.eq_of_mem_replicate hm) (by decide)
  · intro hm
    rcases List.mem_append.1 hm with hm | hm
    · obtain ⟨n, hn, e⟩ := encB_mem d _ hm
      exact (sgn_clean n hn).2 e.symm
    · exact absurd (List.eq_of_mem_replicate hm) (by decide)
theorem dec_short {n bits k : Nat} (t : List UInt8) (hk : k < 64) (hb : bits < 2) : dec n bits (sgn k :: t) = dec ((n * 64 + k) % 4096) (bits + 6) t := by
  show (if numS (sgn k) < 0 then none else _) = _
  rw [numS_sgn k hk, if_neg (by omega), if_neg (by omega)]
  rfl
theorem dec_long {n bits k : Nat} (t : List UInt8) (hk : k < 64) (hb : 2 ≤ bits) : dec n bits (sgn k :: t) = (dec ((n * 64 + k) % 4096) (bits - 2) t).map (UInt8.ofNat ((n * 64 + k) % 4096 / 2 ^ (bits - 2)) :: ·) := by
  show (if numS (sgn k) < 0 then none else _) = _
  rw [numS_sgn k hk, if_neg (by omega), if_pos (by omega)]
  rfl
theorem byte_is {a : UInt8} {n : Nat} (h : n % 256 = a.toNat) : UInt8.ofNat n = a := by
  apply UInt8.toNat_inj.1
  rw [UInt8.toNat_ofNat']
  exact h
theorem dec_encB : ∀ (d : List UInt8) (n : Nat), dec n 0 (encB d) = some d
  | [], n => rfl
  | [a], n => by
    have ha := a.toNat_lt
    rw [encB, dec_short _ (by omega) (by omega), dec_long _ (by omega) (by omega)]
    simp only [dec, Option.map_some]
    rw [byte_is (a := a) (by omega)]
  | [a, b], n => by
    have ha := a.toNat_lt
    have hb := b.toNat_lt
    rw [encB, dec_short _ (by omega) (by omega), dec_long _ (by omega) (by omega), dec_long _ (by omega) (by omega)]
    simp only [dec, Option.map_some]
    rw [byte_is (a := a) (by omega), byte_is (a := b) (by omega)]
  | a :: b :: c :: t, n => by
    have ha := a.toNat_lt
    have hb := b.toNat_lt
    have hc := c.toNat_lt
    rw [encB, dec_short _ (by omega) (by omega), dec_long _ (by omega) (by omega), dec_long _ (by omega) (by omega), dec_long _ (by omega) (by omega)]
    rw [show 0 + 6 - 2 - 2 - 2 = 0 from rfl, dec_encB t _]
    simp only [Option.map_some]
    rw [byte_is (a := a) (by omega), byte_is (a := b) (by omega), byte_is (a := c) (by omega)]
/-- What stands ahead of the padding, by two roads. -/
def trimEq (t : List UInt8) : List UInt8 := (t.reverse.dropWhile (· == 61)).reverse
theorem dropWhile_pad (k : Nat) : ∀ l : List UInt8, (List.replicate k (61 : UInt8) ++ l).dropWhile (· == 61) = l.dropWhile (· == 61) := by
  induction k with
  | zero => intro l; rfl
  | succ k ih => intro l; rw [List.replicate_succ, List.cons_append, List.dropWhile_cons_of_pos (by decide)]; exact ih l
theorem dropWhile_id : ∀ {l : List UInt8}, (61 : UInt8) ∉ l → l.dropWhile (· == 61) = l
  | [], _ => rfl
  | b :: t, h => by rw [List.dropWhile_cons_of_neg]; intro e; exact h (by rw [eq_of_beq e]; exact List.mem_cons_self)
theorem trimEq_enc (d : List UInt8) : trimEq (enc d) = encB d := by
  obtain ⟨k, h⟩ := enc_pad d
  unfold trimEq
  rw [h, List.reverse_append, List.reverse_replicate, dropWhile_pad, dropWhile_id (by rw [List.mem_reverse]; exact encB_no_pad d), List.reverse_reverse]
theorem takeWhile_enc (d : List UInt8) : (enc d).takeWhile (fun b => b != 61) = encB d := by
  obtain ⟨k, h⟩ := enc_pad d
  have h1 : ∀ x ∈ encB d, (x != 61) = true := fun x hx => by
    have h2 : x ≠ 61 := by rintro rfl; exact encB_no_pad d hx
    simpa using h2
  rw [h, List.takeWhile_append_of_pos h1]
  cases k with
  | zero => simp
  | succ k => rw [List.replicate_succ, List.takeWhile_cons_of_neg (by decide), List.append_nil]
/-- What signs tell, if they are told so. -/
def decOf (t : List UInt8) : Option (List UInt8) := match dec 0 0 (trimEq t) with
  | none => none
  | some d => if enc d = t then some d else none
theorem decOf_iff {t d : List UInt8} : decOf t = some d ↔ enc d = t := by
  constructor
  · intro h
    unfold decOf at h
    split at h
    · cases h
    · split at h
      · obtain rfl := Option.some.inj h
        assumption
      · cases h
  · rintro rfl
    unfold decOf
    rw [trimEq_enc, dec_encB]
    simp
/-- May a text be a hash? -/
def hashOk (l : List UInt8) : Bool := (l.take 3 == [104, 49, 58]) && (match decOf (l.drop 3) with | none => false | some d => d.length == 32)
theorem hashOk_clean {l : List UInt8} (h : hashOk l = true) : (32 : UInt8) ∉ l ∧ (10 : UInt8) ∉ l ∧ l ≠ [] := by
  unfold hashOk at h
  rw [Bool.and_eq_true] at h
  have h1 := eq_of_beq h.1
  have h2 := h.2
  split at h2
  · cases h2
  · rename_i d hd
    have he := decOf_iff.1 hd
    have hs : l = [104, 49, 58] ++ enc d := by rw [he, ← h1, List.take_append_drop]
    have hc := enc_clean d
    rw [hs]
    refine ⟨fun hm => ?_, fun hm => ?_, by simp⟩
    · rcases List.mem_append.1 hm with hm | hm
      · exact absurd hm (by decide)
      · exact hc.1 hm
    · rcases List.mem_append.1 hm with hm | hm
      · exact absurd hm (by decide)
      · exact hc.2 hm
end Go.Proofs.YtnnogepjkfllnaaGreatDoor
end

section
namespace Go.Proofs.YtnnogepjkfllnaaGreatDoorW.PrintWords
open Go.RowKit
section
variable {P : Program} {d : Nat} {xs ys : Array Value} {f : Field} {fs : List Field} {a b : Value} {r s : Bool} {w : World}
theorem eqf_last (hn : (f.name == "_") = false) (ha : (part f.type xs f.offset).run P w = .ok a w) (hb : (part f.type ys f.offset).run P w = .ok b w) (he : (Op.equalIn d f.type a b).run P w = .ok r w) : (Op.eqFields d xs ys [f]).run P w = .ok r w := by
  have hn' : f.name ≠ "_" := by simpa using hn
  simp only [Op.eqFields, if_pos hn', Sem.run_bind, ha, hb, he, Result.andThen_ok]
  cases r <;> simp
theorem eqf_cons (hn : (f.name == "_") = false) (ha : (part f.type xs f.offset).run P w = .ok a w) (hb : (part f.type ys f.offset).run P w = .ok b w) (he : (Op.equalIn d f.type a b).run P w = .ok r w) (hr : (Op.eqFields d xs ys fs).run P w = .ok s w) : (Op.eqFields d xs ys (f :: fs)).run P w = .ok (r && s) w := by
  have hn' : f.name ≠ "_" := by simpa using hn
  rw [Op.eqFields]
  simp only [if_pos hn', Sem.run_bind, ha, hb, he, Result.andThen_ok]
  cases r
  · simp
  · simpa using hr
theorem eqA_of {t : TypeId} {fs : Array Field} (hu : P.underlying t = some (.struct fs)) (hp : P.stoodInHeld t = false) (h : (Op.eqFields d xs ys fs.toList).run P w = .ok r w) : (Op.equalIn (d + 1) t (.agg xs) (.agg ys)).run P w = .ok r w := by
  have hf : P.fieldsOf t = fs := by simp [Program.fieldsOf, hu]
  rw [run_equalIn_struct (P := P) w d t xs ys (by rw [hf]; exact hu) hp, hf]
  exact h
end
end Go.Proofs.YtnnogepjkfllnaaGreatDoorW.PrintWords
end
