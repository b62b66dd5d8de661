/- The texts RefB in one file, without what these claims do not use (put together by prune2.py). -/
import Derived.Test.YtjdhdjmdmnedfaaGreatDoorZP30
import Derived.Test.YtjdhdjmdmnedfaaGreatDoorZP3
import Derived.Test.YtjdhdjmdmnedfaaGreatDoorZP14
import Derived.Test.YtjdhdjmdmnedfaaGreatDoorZP13
import Derived.Test.YtjdhdjmdmnedfaaGreatDoorZP19
import Derived.Lib.LazyBuf
import Derived.Laws.BitsLemmas
section
namespace Go.Proofs.YtjdhdjmdmnedfaaGreatDoor
open Go Go.RowKit Go.Proofs.YtjdhdjmdmnedfaaGreatDoorW.PrintWords Go.Proofs.YtjdhdjmdmnedfaaGreatDoor.K0 Go.Proofs.YtjdhdjmdmnedfaaGreatDoor.R1 Go.Proofs.YtjdhdjmdmnedfaaGreatDoor.RD
set_option linter.unusedVariables false
set_option linter.unusedSimpArgs false
theorem num_small : ∀ n : Nat, n < 256 → armadaref13_number.f 65 (n : Int) = some (numS (UInt8.ofNat n)) := by decide +kernel
theorem num_f (c : UInt8) (k : Nat) (hk : 65 ≤ k) : armadaref13_number.f k (c.toNat : Int) = some (numS c) := by
  have h := num_small c.toNat c.toNat_lt
  rw [UInt8.ofNat_toNat] at h
  exact at_rounds (g := fun k => armadaref13_number.f k (c.toNat : Int)) (fun k => armadaref13_number.mono _ k) hk h
def bitAt (n e : Nat) : Int := ((n / 2 ^ e % 2 : Nat) : Int)
theorem bitAt_or (n e : Nat) : bitAt n e = 0 ∨ bitAt n e = 1 := by unfold bitAt; omega
theorem bit_val : ∀ n : Nat, n < 256 → ∀ e : Nat, e < 8 → Go.bits .and .i64 (shr .i64 (wrap64 (n : Int)) (e : Int)) 1 = bitAt n e := by decide +kernel
def bitsUp (n : Nat) : Nat → List Int
  | 0 => []
  | j + 1 => bitAt n j :: bitsUp n j
def bitsL (d : List UInt8) : List Int := d.flatMap fun b => bitsUp b.toNat 8
def pad6 (x : List Int) : List Int := x ++ List.replicate ((6 - x.length % 6) % 6) 0
def signsOf : List Int → List UInt8
  | a :: b :: c :: d :: e :: f :: t => sgn (2 * (2 * (2 * (2 * (2 * a + b) + c) + d) + e) + f).toNat :: signsOf t
  | _ => []
def pad4 (x : List UInt8) : List UInt8 := x ++ List.replicate ((4 - x.length % 4) % 4) 61
theorem bits8 (n : Nat) : bitsUp n 8 = [bitAt n 7, bitAt n 6, bitAt n 5, bitAt n 4, bitAt n 3, bitAt n 2, bitAt n 1, bitAt n 0] := rfl
theorem hor1 : ∀ a : Nat, a < 256 → (2 * (2 * (2 * (2 * (2 * bitAt a 7 + bitAt a 6) + bitAt a 5) + bitAt a 4) + bitAt a 3) + bitAt a 2).toNat = a / 4 := by decide +kernel
theorem hor2 (a b : Nat) (ha : a < 256) (hb : b < 256) : (2 * (2 * (2 * (2 * (2 * bitAt a 1 + bitAt a 0) + bitAt b 7) + bitAt b 6) + bitAt b 5) + bitAt b 4).toNat = a % 4 * 16 + b / 16 := by
  have h1 : ∀ a : Nat, a < 256 → 2 * bitAt a 1 + bitAt a 0 = ((a % 4 : Nat) : Int) := by decide +kernel
  have h2 : ∀ b : Nat, b < 256 → 8 * bitAt b 7 + 4 * bitAt b 6 + 2 * bitAt b 5 + bitAt b 4 = ((b / 16 : Nat) : Int) := by decide +kernel
  have e1 := h1 a ha
  have e2 := h2 b hb
  omega
theorem hor3 (a b : Nat) (ha : a < 256) (hb : b < 256) : (2 * (2 * (2 * (2 * (2 * bitAt a 3 + bitAt a 2) + bitAt a 1) + bitAt a 0) + bitAt b 7) + bitAt b 6).toNat = a % 16 * 4 + b / 64 := by
  have h1 : ∀ a : Nat, a < 256 → 8 * bitAt a 3 + 4 * bitAt a 2 + 2 * bitAt a 1 + bitAt a 0 = ((a % 16 : Nat) : Int) := by decide +kernel
  have h2 : ∀ b : Nat, b < 256 → 2 * bitAt b 7 + bitAt b 6 = ((b / 64 : Nat) : Int) := by decide +kernel
  have e1 := h1 a ha
  have e2 := h2 b hb
  omega
theorem hor4 : ∀ a : Nat, a < 256 → (2 * (2 * (2 * (2 * (2 * bitAt a 5 + bitAt a 4) + bitAt a 3) + bitAt a 2) + bitAt a 1) + bitAt a 0).toNat = a % 64 := by decide +kernel
theorem hor2z : ∀ a : Nat, a < 256 → (2 * (2 * (2 * (2 * (2 * bitAt a 1 + bitAt a 0) + 0) + 0) + 0) + 0 : Int).toNat = a % 4 * 16 := by decide +kernel
theorem hor3z : ∀ a : Nat, a < 256 → (2 * (2 * (2 * (2 * (2 * bitAt a 3 + bitAt a 2) + bitAt a 1) + bitAt a 0) + 0) + 0 : Int).toNat = a % 16 * 4 := by decide +kernel
theorem pad6_cons24 (x : List Int) (y : List Int) (h : x.length = 24) : pad6 (x ++ y) = x ++ pad6 y := by
  unfold pad6
  rw [List.length_append, h, show (24 + y.length) % 6 = y.length % 6 by omega, List.append_assoc]
theorem pad4_cons4 (a b c d : UInt8) (y : List UInt8) : pad4 (a :: b :: c :: d :: y) = a :: b :: c :: d :: pad4 y := by
  unfold pad4
  simp only [List.length_cons]
  rw [show (y.length + 1 + 1 + 1 + 1) % 4 = y.length % 4 by omega]
  rfl
/-- Bit by bit, and by groups of three bytes. -/
theorem encR_enc : ∀ d : List UInt8, pad4 (signsOf (pad6 (bitsL d))) = enc d
  | [] => rfl
  | [a] => by
    have ha := a.toNat_lt
    have e0 : bitsL [a] = [bitAt a.toNat 7, bitAt a.toNat 6, bitAt a.toNat 5, bitAt a.toNat 4, bitAt a.toNat 3, bitAt a.toNat 2, bitAt a.toNat 1, bitAt a.toNat 0] := rfl
    have e : pad6 (bitsL [a]) = [bitAt a.toNat 7, bitAt a.toNat 6, bitAt a.toNat 5, bitAt a.toNat 4, bitAt a.toNat 3, bitAt a.toNat 2, bitAt a.toNat 1, bitAt a.toNat 0, 0, 0, 0, 0] := by rw [e0]; simp [pad6]
    rw [e]
    simp only [signsOf, hor1 _ ha, hor2z _ ha]
    rfl
  | [a, b] => by
    have ha := a.toNat_lt
    have hb := b.toNat_lt
    have e0 : bitsL [a, b] = [bitAt a.toNat 7, bitAt a.toNat 6, bitAt a.toNat 5, bitAt a.toNat 4, bitAt a.toNat 3, bitAt a.toNat 2, bitAt a.toNat 1, bitAt a.toNat 0, bitAt b.toNat 7, bitAt b.toNat 6, bitAt b.toNat 5, bitAt b.toNat 4, bitAt b.toNat 3, bitAt b.toNat 2, bitAt b.toNat 1, bitAt b.toNat 0] := rfl
    have e : pad6 (bitsL [a, b]) = [bitAt a.toNat 7, bitAt a.toNat 6, bitAt a.toNat 5, bitAt a.toNat 4, bitAt a.toNat 3, bitAt a.toNat 2, bitAt a.toNat 1, bitAt a.toNat 0, bitAt b.toNat 7, bitAt b.toNat 6, bitAt b.toNat 5, bitAt b.toNat 4, bitAt b.toNat 3, bitAt b.toNat 2, bitAt b.toNat 1, bitAt b.toNat 0, 0, 0] := by rw [e0]; simp [pad6]
    rw [e]
    simp only [signsOf, hor1 _ ha, hor2 _ _ ha hb, hor3z _ hb]
    rfl
  | a :: b :: c :: t => by
    have ha := a.toNat_lt
    have hb := b.toNat_lt
    have hc := c.toNat_lt
    have e : bitsL (a :: b :: c :: t) = [bitAt a.toNat 7, bitAt a.toNat 6, bitAt a.toNat 5, bitAt a.toNat 4, bitAt a.toNat 3, bitAt a.toNat 2, bitAt a.toNat 1, bitAt a.toNat 0, bitAt b.toNat 7, bitAt b.toNat 6, bitAt b.toNat 5, bitAt b.toNat 4, bitAt b.toNat 3, bitAt b.toNat 2, bitAt b.toNat 1, bitAt b.toNat 0, bitAt c.toNat 7, bitAt c.toNat 6, bitAt c.toNat 5, bitAt c.toNat 4, bitAt c.toNat 3, bitAt c.toNat 2, bitAt c.toNat 1, bitAt c.toNat 0] ++ bitsL t := rfl
    rw [e, pad6_cons24 _ _ rfl]
    simp only [List.cons_append, List.nil_append, signsOf, hor1 _ ha, hor2 _ _ ha hb, hor3 _ _ hb hc, hor4 _ hc, pad4_cons4, encR_enc t]
    rfl
theorem enc_l5 : ∀ (p : Nat) (x : List UInt8) (k : Nat), (4 - x.length % 4) % 4 = p → x.length + p ≤ 17592186044416 → p < k → armadaref13_Encode.l5 k (ints x) = some (ba (pad4 x)) := by
  intro p
  induction p with
  | zero =>
    intro x k hp hl hk
    obtain ⟨k, rfl⟩ : ∃ m, k = m + 1 := ⟨k - 1, by omega⟩
    have hlen : (ints x).length = x.length := by simp [ints]
    simp only [armadaref13_Encode.l5]
    rw [if_pos (by rw [hlen]; omega)]
    unfold pad4 ints
    rw [hp, List.replicate_zero, List.append_nil, Lib.Lz.strOfNums_map]
    rfl
  | succ p ih =>
    intro x k hp hl hk
    obtain ⟨k, rfl⟩ : ∃ m, k = m + 1 := ⟨k - 1, by omega⟩
    have hlen : (ints x).length = x.length := by simp [ints]
    have hlen2 : (x ++ [61]).length = x.length + 1 := by simp
    have e : ints x ++ [61] = ints (x ++ [61]) := by simp [ints]
    simp only [armadaref13_Encode.l5]
    rw [if_neg (by rw [hlen]; omega), if_pos (by rw [hlen]; omega), e, ih (x ++ [61]) k (by rw [hlen2]; omega) (by rw [hlen2]; omega) (by omega)]
    unfold pad4
    rw [hp, hlen2, show (4 - (x.length + 1) % 4) % 4 = p by omega, List.append_assoc]
    rfl
theorem rd_drop (X : List Int) (n j : Nat) : rd X ((n + j : Nat) : Int) = (X.drop n).getD j 0 := by
  unfold rd
  rw [Int.toNat_natCast, List.getD_eq_getElem?_getD, List.getD_eq_getElem?_getD, List.getElem?_drop]
theorem enc_l4_step {X out : List Int} {n j : Nat} {v b : Int} (hj : j < 6) (hn : n + j < X.length) (hL : X.length ≤ 4294967290) (hv : 0 ≤ v) (hv2 : v ≤ 31) (hb : b = 0 ∨ b = 1) (hr : rd X ((n + j : Nat) : Int) = b) (k : Nat) :
    armadaref13_Encode.l4 (k + 1) X out (n : Int) v (j : Int) = armadaref13_Encode.l4 k X out (n : Int) (2 * v + b) ((j + 1 : Nat) : Int) := by
  have e : wrap64 ((n : Int) + (j : Int)) = ((n + j : Nat) : Int) := by unfold wrap64; omega
  have e2 : wrap64 (wrap64 (2 * v) + b) = 2 * v + b := by unfold wrap64; omega
  conv => lhs; unfold armadaref13_Encode.l4
  rw [if_pos (by omega), e, if_pos (by omega), if_pos (by omega), hr, e2, wrap_succ (by omega)]
theorem enc_l4_end {X : List Int} {out : List UInt8} {n : Nat} {v : Int} (hL : n ≤ 4294967290) (hv : 0 ≤ v) (hv2 : v < 64) (ho : out.length < 140737488355328) (k : Nat) :
    armadaref13_Encode.l4 (k + 1) X (ints out) (n : Int) v ((6 : Nat) : Int) = armadaref13_Encode.l3 k X (ints (out ++ [sgn v.toNat])) ((n + 6 : Nat) : Int) := by
  obtain ⟨m, rfl⟩ : ∃ m : Nat, v = (m : Int) := ⟨v.toNat, by omega⟩
  have hlen : (ints out).length = out.length := by simp [ints]
  have e : wrap64 ((n : Int) + 6) = ((n + 6 : Nat) : Int) := by unfold wrap64; omega
  conv => lhs; unfold armadaref13_Encode.l4
  rw [if_neg (by omega), if_pos (by omega), if_pos (by omega), if_pos (by rw [hlen]; omega), signs_at m (by omega), e]
  simp [ints]
theorem enc_l3 (X : List Int) (hX : ∀ b ∈ X, b = 0 ∨ b = 1) (hL : X.length ≤ 4294967290) : ∀ (g n k : Nat) (out : List UInt8), X.length = n + 6 * g → out.length + g ≤ 8796093022208 → 8 * g + 5 < k → armadaref13_Encode.l3 k X (ints out) (n : Int) = some (ba (pad4 (out ++ signsOf (X.drop n)))) := by
  intro g
  induction g with
  | zero =>
    intro n k out hn ho hk
    obtain ⟨k, rfl⟩ : ∃ m, k = m + 1 := ⟨k - 1, by omega⟩
    simp only [armadaref13_Encode.l3]
    rw [if_neg (by omega), List.drop_eq_nil_of_le (by omega), enc_l5 _ out k rfl (by omega) (by omega)]
    simp [signsOf]
  | succ g ih =>
    intro n k out hn ho hk
    obtain ⟨k, rfl⟩ : ∃ m, k = m + 1 + 1 + 1 + 1 + 1 + 1 + 1 + 1 := ⟨k - 8, by omega⟩
    have hd : 6 ≤ (X.drop n).length := by rw [List.length_drop]; omega
    have hd6 : (X.drop n).drop 6 = X.drop (n + 6) := List.drop_drop
    have hm : ∀ b ∈ X.drop n, b = 0 ∨ b = 1 := fun b hb => hX b (List.mem_of_mem_drop hb)
    have hr := rd_drop X n
    match hD : X.drop n with
    | [] | [_] | [_, _] | [_, _, _] | [_, _, _, _] | [_, _, _, _, _] => rw [hD] at hd; simp at hd
    | a :: b :: c :: d :: e :: f :: t =>
      rw [hD] at hm hr hd6
      have ha := hm a (by simp)
      have hb := hm b (by simp)
      have hc := hm c (by simp)
      have hd := hm d (by simp)
      have he := hm e (by simp)
      have hf := hm f (by simp)
      have e0 : armadaref13_Encode.l3 (k + 1 + 1 + 1 + 1 + 1 + 1 + 1 + 1) X (ints out) (n : Int) = armadaref13_Encode.l4 (k + 1 + 1 + 1 + 1 + 1 + 1 + 1) X (ints out) (n : Int) 0 ((0 : Nat) : Int) := by
        conv => lhs; unfold armadaref13_Encode.l3
        rw [if_pos (by omega)]; rfl
      rw [e0, enc_l4_step (j := 0) (b := a) (by omega) (by omega) hL (by omega) (by omega) ha (hr 0), enc_l4_step (j := 1) (b := b) (by omega) (by omega) hL (by omega) (by omega) hb (hr 1),
        enc_l4_step (j := 2) (b := c) (by omega) (by omega) hL (by omega) (by omega) hc (hr 2), enc_l4_step (j := 3) (b := d) (by omega) (by omega) hL (by omega) (by omega) hd (hr 3),
        enc_l4_step (j := 4) (b := e) (by omega) (by omega) hL (by omega) (by omega) he (hr 4), enc_l4_step (j := 5) (b := f) (by omega) (by omega) hL (by omega) (by omega) hf (hr 5),
        enc_l4_end (by omega) (by omega) (by omega) (by omega), ih (n + 6) k _ (by omega) (by rw [List.length_append]; simp; omega) (by omega)]
      rw [← hd6]
      simp only [List.drop_succ_cons, List.drop_zero, signsOf, List.append_assoc, List.cons_append, List.nil_append, Int.mul_zero, Int.zero_add]
theorem enc_l2 : ∀ (p : Nat) (x : List Int) (k : Nat), (∀ b ∈ x, b = 0 ∨ b = 1) → (6 - x.length % 6) % 6 = p → x.length + p ≤ 4294967280 → p + 8 * ((x.length + p) / 6) + 20 < k → armadaref13_Encode.l2 k x = some (ba (pad4 (signsOf (pad6 x)))) := by
  intro p
  induction p with
  | zero =>
    intro x k hx hp hl hk
    obtain ⟨k, rfl⟩ : ∃ m, k = m + 1 := ⟨k - 1, by omega⟩
    simp only [armadaref13_Encode.l2]
    rw [if_pos (by omega), show (0 : Int) = ((0 : Nat) : Int) from rfl, show ([] : List Int) = ints [] from rfl, enc_l3 x hx (by omega) (x.length / 6) 0 k [] (by omega) (by simp; omega) (by omega)]
    unfold pad6
    rw [hp]
    simp
  | succ p ih =>
    intro x k hx hp hl hk
    obtain ⟨k, rfl⟩ : ∃ m, k = m + 1 := ⟨k - 1, by omega⟩
    have hlen2 : (x ++ [(0 : Int)]).length = x.length + 1 := by simp
    simp only [armadaref13_Encode.l2]
    rw [if_neg (by omega), if_pos (by omega), ih (x ++ [0]) k (fun b hb => by
      rcases List.mem_append.1 hb with h | h
      · exact hx b h
      · exact .inl (by simpa using h)) (by rw [hlen2]; omega) (by rw [hlen2]; omega) (by rw [hlen2]; omega)]
    unfold pad6
    rw [hp, hlen2, show (6 - (x.length + 1) % 6) % 6 = p by omega, List.append_assoc]
    rfl
theorem enc_l1 {s : ByteArray} {i b : Nat} (hb : bt s (i : Int) = (b : Int)) (hb2 : b < 256) (hi : i < s.size) (hs : s.size ≤ 4294967280) {R : Option ByteArray} {F : Nat} : ∀ (j : Nat) (acc : List Int), j ≤ 8 → acc.length + j ≤ 17592186044415 →
    (∀ k, F < k → armadaref13_Encode.l0 k s (acc ++ bitsUp b j) ((i + 1 : Nat) : Int) = R) → ∀ k, F + j + 1 < k → armadaref13_Encode.l1 k s acc (i : Int) ((j : Int) - 1) = R := by
  intro j
  induction j with
  | zero =>
    intro acc hj hl hR k hk
    obtain ⟨k, rfl⟩ : ∃ m, k = m + 1 := ⟨k - 1, by omega⟩
    simp only [armadaref13_Encode.l1]
    rw [if_neg (by omega), wrap_succ (by omega)]
    have h := hR k (by omega)
    rw [show acc ++ bitsUp b 0 = acc from List.append_nil _] at h
    exact h
  | succ j ih =>
    intro acc hj hl hR k hk
    obtain ⟨k, rfl⟩ : ∃ m, k = m + 1 := ⟨k - 1, by omega⟩
    have e : (((j + 1 : Nat) : Int) - 1) = (j : Int) := by omega
    have e2 : wrap64 ((j : Int) - 1) = (j : Int) - 1 := by unfold wrap64; omega
    simp only [armadaref13_Encode.l1]
    rw [e, if_pos (by omega), if_pos (by omega), if_pos (by omega), if_pos (by omega), if_pos (by omega), hb, bit_val b hb2 j (by omega), e2]
    refine ih (acc ++ [bitAt b j]) (by omega) (by simp; omega) (fun k hk => ?_) k (by omega)
    have h := hR k hk
    rw [List.append_assoc]
    exact h
theorem enc_l0 (s : ByteArray) (hs : s.size ≤ 1000000000) {R : Option ByteArray} {F : Nat} : ∀ (d i : Nat) (acc : List Int), s.size - i = d → i ≤ s.size → acc.length + 8 * d ≤ 17592186044415 →
    (∀ k, F < k → armadaref13_Encode.l2 k (acc ++ bitsL (s.data.toList.drop i)) = R) → ∀ k, F + 11 * d + 1 < k → armadaref13_Encode.l0 k s acc (i : Int) = R := by
  intro d
  induction d with
  | zero =>
    intro i acc hd hi hl hR k hk
    obtain ⟨k, rfl⟩ : ∃ m, k = m + 1 := ⟨k - 1, by omega⟩
    simp only [armadaref13_Encode.l0]
    rw [if_neg (by omega)]
    have h := hR k (by omega)
    rw [scan_end (by omega), show acc ++ bitsL [] = acc from List.append_nil _] at h
    exact h
  | succ d ih =>
    intro i acc hd hi hl hR k hk
    obtain ⟨k, rfl⟩ : ∃ m, k = m + 1 := ⟨k - 1, by omega⟩
    obtain ⟨b, hb, hd2⟩ := scan (s := s) (n := i) (by omega)
    simp only [armadaref13_Encode.l0]
    rw [if_pos (by omega)]
    refine enc_l1 hb b.toNat_lt (by omega) (by omega) (F := F + 11 * d + 1) 8 acc (by omega) (by omega) (fun k hk => ?_) k (by omega)
    refine ih (i + 1) (acc ++ bitsUp b.toNat 8) (by omega) (by omega) (by rw [List.length_append, bits8]; simp; omega) (fun k hk => ?_) k hk
    have h := hR k hk
    rw [hd2] at h
    rw [List.append_assoc]
    exact h
theorem bitsL_mem (d : List UInt8) : ∀ b ∈ bitsL d, b = 0 ∨ b = 1 := fun b hb => by
  unfold bitsL at hb
  obtain ⟨x, _, hx⟩ := List.mem_flatMap.1 hb
  have key : ∀ j, ∀ b ∈ bitsUp x.toNat j, b = 0 ∨ b = 1 := by
    intro j
    induction j with
    | zero => intro b h; cases h
    | succ j ih =>
      intro b h
      rcases List.mem_cons.1 h with rfl | h
      · exact bitAt_or _ _
      · exact ih b h
  exact key 8 b hx
theorem bitsL_length (d : List UInt8) : (bitsL d).length = 8 * d.length := by
  unfold bitsL
  induction d with
  | nil => rfl
  | cons a d ih => rw [List.flatMap_cons, List.length_append, ih, bits8, List.length_cons]; simp; omega
theorem ref_Encode_f (d : List UInt8) (hd : d.length ≤ 100000000) (k : Nat) (hk : 200 + 40 * d.length < k) : armadaref13_Encode.f k (ba d) = some (ba (enc d)) := by
  have hsz : (ba d).size = d.length := ba_size d
  have hbl := bitsL_length d
  unfold armadaref13_Encode.f
  refine enc_l0 (ba d) (by omega) (F := 100 + 20 * d.length) (ba d).size 0 [] (by omega) (by omega) (by rw [hsz]; simp; omega) (fun k hk => ?_) k (by omega)
  rw [List.nil_append, List.drop_zero, ba_data, enc_l2 _ (bitsL d) k (bitsL_mem d) rfl (by omega) (by omega), encR_enc]
theorem bits16 (x : Nat) (h : x < 4294967296) : Go.bits .and .i64 (x : Int) 65535 = ((x % 65536 : Nat) : Int) := by
  have := bits_mask .i64 32 (by decide) (fun n h0 h1 => by rw [IntKind.wrap_i64]; omega) 16 (by decide) (x : Int) (by omega) (by omega)
  have e : ((2 : Int) ^ 16 - 1) = 65535 := by decide
  simpa [e] using this
theorem bits255 (x : Nat) (h : x < 4294967296) : Go.bits .and .i64 (x : Int) 255 = ((x % 256 : Nat) : Int) := by
  have := bits_mask .i64 32 (by decide) (fun n h0 h1 => by rw [IntKind.wrap_i64]; omega) 8 (by decide) (x : Int) (by omega) (by omega)
  have e : ((2 : Int) ^ 8 - 1) = 255 := by decide
  simpa [e] using this
theorem shr_nat (x b : Nat) (hb : b ≤ 6) : shr .i64 (x : Int) (b : Int) = ((x / 2 ^ b : Nat) : Int) := by
  have hm : min (b : Int).toNat 64 = b := by omega
  show (x : Int) / 2 ^ min (b : Int).toNat 64 = _
  rw [hm]; simp
/-- The byte of a place, by twelve bits and by sixteen. -/
theorem byte_same {N b : Nat} (hb : b ≤ 4) : N % 65536 / 2 ^ b % 256 = N % 4096 / 2 ^ b % 256 := by
  match b, hb with
  | 0, _ | 1, _ | 2, _ | 3, _ | 4, _ => simp only [Nat.reducePow]; omega
def finD (s : ByteArray) (x : List UInt8) : Option (ByteArray × Bool) := if enc x = s.data.toList then some (ba x, true) else some (⟨#[]⟩, false)
theorem numS_lt64 (c : UInt8) : numS c < 64 := numS_lt c
theorem takeWhile_cons_pad {b : UInt8} {t : List UInt8} (h : b = 61) : (b :: t).takeWhile (fun x => x != 61) = [] := by subst h; rfl
theorem w_mul {n m : Nat} (h : n < 65536) (hm : m < 64) : wrap64 (wrap64 ((n : Int) * 64) + (m : Int)) = ((n * 64 + m : Nat) : Int) := by unfold wrap64; omega
theorem w_b6 {b : Nat} (h : b ≤ 6) : wrap64 ((b : Int) + 6) = ((b + 6 : Nat) : Int) := by unfold wrap64; omega
theorem w_b2 {b : Nat} (h : 2 ≤ b) (h6 : b ≤ 6) : wrap64 (((b + 6 : Nat) : Int) - 8) = ((b - 2 : Nat) : Int) := by unfold wrap64; omega
theorem m_same {n n2 m : Nat} (h : n2 % 64 = n % 64) : (n2 * 64 + m) % 65536 % 64 = (n * 64 + m) % 4096 % 64 ∧ (n2 * 64 + m) % 4096 = (n * 64 + m) % 4096 := by omega
theorem byte_is2 {N M b : Nat} (hb : b ≤ 4) (h : N % 4096 = M % 4096) : ((N % 65536 / 2 ^ b % 256 : Nat) : Int) % 256 = (((UInt8.ofNat (M % 4096 / 2 ^ b)).toNat : Nat) : Int) := by
  rw [UInt8.toNat_ofNat', byte_same hb, h]
  omega
theorem ref_dec (s : ByteArray) (hs : s.size ≤ 1000000) : ∀ (d i k n2 n bits : Nat) (acc : List UInt8), s.size - i = d → i ≤ s.size → acc.length ≤ i → n2 < 65536 → n2 % 64 = n % 64 → bits ≤ 6 ∧ bits % 2 = 0 → 2 * d + 230 + 40 * s.size < k →
    armadaref13_Decode.l0 k s (ints acc) (n2 : Int) (bits : Int) (i : Int) = (match dec n bits ((s.data.toList.drop i).takeWhile (fun x => x != 61)) with | none => some (⟨#[]⟩, false) | some r => finD s (acc ++ r)) := by
  have fin : ∀ (k : Nat) (acc : List UInt8) (n2 bits i : Nat), acc.length ≤ s.size → 210 + 40 * s.size < k → armadaref13_Decode.j1 k s (ints acc) (n2 : Int) (bits : Int) (i : Int) false = finD s acc := by
    intro k acc n2 bits i ha hk
    obtain ⟨k, rfl⟩ : ∃ m, k = m + 1 := ⟨k - 1, by omega⟩
    have e : strOfNums (ints acc) = ba acc := by unfold ints; rw [Lib.Lz.strOfNums_map]; rfl
    simp only [armadaref13_Decode.j1, Bool.false_eq_true, if_false]
    rw [e, ref_Encode_f acc (by omega) k (by omega)]
    simp only [Option.bind_some]
    unfold finD
    rw [ByteArray.toList_eq, ByteArray.toList_eq, ba_data]
  intro d
  induction d with
  | zero =>
    intro i k n2 n bits acc hd hi ha hn hnn ⟨hb, hbe⟩ hk
    obtain ⟨k, rfl⟩ : ∃ m, k = m + 1 := ⟨k - 1, by omega⟩
    simp only [armadaref13_Decode.l0]
    rw [if_neg (by omega), scan_end (by omega), fin k acc n2 bits i (by omega) (by omega)]
    show _ = finD s (acc ++ [])
    rw [List.append_nil]
  | succ d ih =>
    intro i k n2 n bits acc hd hi ha hn hnn ⟨hb, hbe⟩ hk
    obtain ⟨k, rfl⟩ : ∃ m, k = m + 1 + 1 := ⟨k - 2, by omega⟩
    obtain ⟨c, hc, hd2⟩ := scan (s := s) (n := i) (by omega)
    have e0 : armadaref13_Decode.l0 (k + 1 + 1) s (ints acc) (n2 : Int) (bits : Int) (i : Int) = armadaref13_Decode.j1 (k + 1) s (ints acc) (n2 : Int) (bits : Int) (i : Int) ((c.toNat : Int) != 61) := by
      conv => lhs; unfold armadaref13_Decode.l0
      rw [if_pos (by omega), if_pos (by omega), hc]
    rw [e0, hd2]
    by_cases h61 : c = 61
    · subst h61
      rw [takeWhile_cons_pad rfl, show (((61 : UInt8).toNat : Int) != 61) = false from rfl, fin (k + 1) acc n2 bits i (by omega) (by omega)]
      show _ = finD s (acc ++ [])
      rw [List.append_nil]
    · have hne : ((c.toNat : Int) != 61) = true := by
        rw [bne_iff_ne]
        intro h
        apply h61
        apply UInt8.toNat_inj.1
        show c.toNat = 61
        omega
      rw [hne, List.takeWhile_cons_of_pos (by simpa using h61)]
      conv => lhs; unfold armadaref13_Decode.j1
      rw [if_pos rfl, if_pos (by omega), if_pos (by omega), hc, num_f c k (by omega)]
      simp only [Option.bind_some, dec]
      by_cases hneg : numS c < 0
      · rw [if_pos hneg, if_pos hneg]
      · rw [if_neg hneg, if_neg hneg]
        have h64 := numS_lt64 c
        obtain ⟨m, hm⟩ : ∃ m : Nat, numS c = (m : Int) := ⟨(numS c).toNat, by omega⟩
        have hm64 : m < 64 := by omega
        have hlen : (ints acc).length = acc.length := by simp [ints]
        obtain ⟨hN, h4096⟩ := m_same (n := n) (n2 := n2) (m := m) hnn
        have hlt : (n2 * 64 + m) % 65536 < 65536 := Nat.mod_lt _ (by decide)
        have hN32 : n2 * 64 + m < 4294967296 := by omega
        rw [hm, w_mul hn hm64, w_b6 hb, bits16 _ hN32, Int.toNat_natCast]
        by_cases h8 : 8 ≤ bits + 6
        · have hq : (n2 * 64 + m) % 65536 / 2 ^ (bits - 2) < 4294967296 := Nat.lt_of_le_of_lt (Nat.div_le_self _ _) (Nat.lt_trans hlt (by decide))
          have hb2 : 2 ≤ bits := by omega
          have hacc : (acc ++ [UInt8.ofNat ((n * 64 + m) % 4096 / 2 ^ (bits - 2))]).length ≤ i + 1 := by rw [List.length_append]; simp only [List.length_cons, List.length_nil]; omega
          have hb4 : bits - 2 ≤ 4 := by omega
          rw [if_pos (by omega), w_b2 hb2 hb, if_pos (by omega), if_pos (by rw [hlen]; omega), shr_nat _ _ (by omega), bits255 _ hq, if_pos h8, wrap_succ (by omega), byte_is2 hb4 h4096,
            show ints acc ++ [(((UInt8.ofNat ((n * 64 + m) % 4096 / 2 ^ (bits - 2))).toNat : Nat) : Int)] = ints (acc ++ [UInt8.ofNat ((n * 64 + m) % 4096 / 2 ^ (bits - 2))]) from by simp [ints],
            ih (i + 1) k ((n2 * 64 + m) % 65536) ((n * 64 + m) % 4096) (bits - 2) _ (by omega) (by omega) hacc hlt hN ⟨by omega, by omega⟩ (by omega)]
          cases dec ((n * 64 + m) % 4096) (bits - 2) ((s.data.toList.drop (i + 1)).takeWhile fun x => x != 61) with
          | none => rfl
          | some r => simp only [Option.map_some, List.append_assoc, List.cons_append, List.nil_append]
        · rw [if_neg (by omega), if_neg h8, wrap_succ (by omega), ih (i + 1) k ((n2 * 64 + m) % 65536) ((n * 64 + m) % 4096) (bits + 6) acc (by omega) (by omega) (by omega) hlt hN ⟨by omega, by omega⟩ (by omega)]
theorem ref_Decode_f (s : ByteArray) (hs : s.size ≤ 1000000) (k : Nat) (hk : 300 + 50 * s.size < k) : armadaref13_Decode.f k s = some (outD (decOf s.data.toList), (decOf s.data.toList).isSome) := by
  unfold armadaref13_Decode.f
  rw [show ([] : List Int) = ints [] from rfl, show (0 : Int) = ((0 : Nat) : Int) from rfl, ref_dec s hs s.size 0 k 0 0 0 [] (by omega) (by omega) (by simp) (by omega) rfl ⟨by omega, rfl⟩ (by omega), List.drop_zero]
  cases hD : decOf s.data.toList with
  | some x =>
    have he := decOf_iff.1 hD
    rw [← he, takeWhile_enc, dec_encB]
    show finD s ([] ++ x) = _
    unfold finD
    rw [List.nil_append, if_pos he]
    rfl
  | none =>
    cases hd : dec 0 0 (s.data.toList.takeWhile fun x => x != 61) with
    | none => rfl
    | some x =>
      show finD s ([] ++ x) = _
      unfold finD
      rw [List.nil_append, if_neg (fun h => by rw [decOf_iff.2 h] at hD; cases hD)]
      rfl
theorem ref_IsHash_f (s : ByteArray) (hs : s.size ≤ 1000000) (k : Nat) (hk : 300 + 50 * s.size < k) : armadaref14_IsHash.f k s = some (hashOk s.data.toList) := by
  unfold armadaref14_IsHash.f hashOk
  have hsz := Lib.size_eq s
  by_cases h3 : (s.size : Int) < 3
  · rw [if_pos h3]
    have e : (s.data.toList.take 3 == [104, 49, 58]) = false := by
      rw [beq_eq_false_iff_ne]
      intro h
      have := congrArg List.length h
      rw [List.length_take] at this
      simp only [List.length_cons, List.length_nil] at this
      omega
    rw [e]; rfl
  · rw [if_neg h3, if_pos (by omega), if_pos (by omega)]
    have e1 : (s.extract 0 3).toList = s.data.toList.take 3 := by rw [ByteArray.toList_eq, Lib.extract_data]; rfl
    have e2 : (s.extract 3 s.size).data.toList = s.data.toList.drop 3 := Lib.extract_to_end s 3
    have hs3 : (s.extract 3 s.size).size ≤ s.size := by rw [Lib.size_eq, e2, List.length_drop]; omega
    rw [e1, ref_Decode_f _ (by omega) k (by omega), e2]
    by_cases h : s.data.toList.take 3 = [104, 49, 58]
    · rw [if_pos h, h]
      simp only [Option.bind_some, beq_self_eq_true, Bool.true_and]
      cases hd : decOf (s.data.toList.drop 3) with
      | none => simp
      | some d =>
        simp only [Option.isSome, outD, if_true]
        rw [ba_size]
        by_cases hl : d.length = 32
        · simp [hl]
        · have : ¬ ((d.length : Int) = 32) := by omega
          rw [beq_eq_false_iff_ne.2 this, beq_eq_false_iff_ne.2 hl]
    · rw [if_neg h, beq_eq_false_iff_ne.2 h]; rfl
end Go.Proofs.YtjdhdjmdmnedfaaGreatDoor
end
