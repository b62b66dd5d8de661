/- Plain law: MpathParts answers true. -/
import Derived.Test.YtpkhemnngjmcjaaDoorParts
import Derived.Test.YtpkhemnngjmcjaaDoorR2x4
namespace Go.Proofs.YtpkhemnngjmcjaaDoor
open Go Go.RowKit Go.Proofs.YtpkhemnngjmcjaaDoorW.PrintWords Go.Proofs.YtpkhemnngjmcjaaDoor.K0 Go.Proofs.YtpkhemnngjmcjaaDoor.R1 Go.Proofs.YtpkhemnngjmcjaaDoor.R2
set_option linter.unusedVariables false
set_option linter.unusedSimpArgs false

/-- MpathParts. -/
theorem both_data (s q : ByteArray) : ((s ++ (⟨#[47]⟩ : ByteArray)) ++ q).data.toList = s.data.toList ++ 47 :: q.data.toList := by
  rw [ByteArray.data_append, ByteArray.data_append, Array.toList_append, Array.toList_append, List.append_assoc]
  rfl
theorem majors_nonneg (q : ByteArray) : 0 ≤ (majorsOf q).2.1 := by
  unfold majorsOf
  split
  · split
    · exact numOf_nonneg _
    · exact Int.le_refl _
  · exact Int.le_refl _
theorem has_check {q : ByteArray} (h : (majorsOf q).2.2 = true) : checkOk q = true := by
  unfold majorsOf at h
  by_cases hc : checkOk q = true
  · exact hc
  · rw [if_neg hc] at h; cases h
theorem both_ok {s q : ByteArray} (hn : nt (splitBy 47 s) = true) (hq : checkOk q = true) (hp : pathOk ((s ++ (⟨#[47]⟩ : ByteArray)) ++ q) = true) : checkOk ((s ++ (⟨#[47]⟩ : ByteArray)) ++ q) = true := by
  unfold checkOk at hq ⊢
  obtain ⟨m, y, e⟩ := snoc_of (split_ne 47 q)
  rw [e, parts_snoc] at hq
  simp only [Bool.and_eq_true] at hq
  obtain ⟨_, h2, h3⟩ := hq
  rw [hp, splitBy_app (both_data s q), e, ← List.append_assoc, parts_snoc, nt_app, hn, h2]
  cases ht : tellsOk y.data.toList with
  | false => rfl
  | true =>
    rw [ht] at h3
    simp at h3
    have := split_pos 47 s
    simp [h3.1]
    omega
theorem within_f (s q : ByteArray) (hs : s.size ≤ 4294967290) : mpath_Within.f ((s ++ (⟨#[47]⟩ : ByteArray)) ++ q) s = some true := by
  unfold mpath_Within.f
  split
  · rfl
  · split
    · rfl
    · rw [if_pos (by omega)]
      unfold strings_HasPrefix.f
      simp only [Option.bind_some]
      congr 1
      unfold Lib.hasPrefix
      rw [List.isPrefixOf_iff_prefix]
      rw [ByteArray.data_append, Array.toList_append]
      exact List.prefix_append _ _
theorem parts_j3 (s q : ByteArray) (hs : s.size ≤ 4294967290) (m : Int) (hm : 0 ≤ m) (z : Bool) (k : Nat) (hk : 402 < k) : armadalaw08_MpathParts.j3 k s ((s ++ (⟨#[47]⟩ : ByteArray)) ++ q) m z false = some true := by
  obtain ⟨k, rfl⟩ : ∃ m, k = m + 1 := ⟨k - 1, by omega⟩
  simp only [armadalaw08_MpathParts.j3]
  rw [if_neg (by simp), mpath_Check_f _ k (by omega), within_f s q hs, live_f k (by omega)]
  simp only [Option.bind_some, if_true]
  have hm' : m ≥ 0 := hm
  cases checkOk ((s ++ (⟨#[47]⟩ : ByteArray)) ++ q) <;> cases z <;> simp [hm']
theorem parts_j2 (s q : ByteArray) (hc : checkOk s = true) (k : Nat) (hk : 403 < k) : armadalaw08_MpathParts.j2 k s q (majorsOf s).2.1 ((s ++ (⟨#[47]⟩ : ByteArray)) ++ q) false = some true := by
  obtain ⟨k, rfl⟩ : ∃ m, k = m + 1 := ⟨k - 1, by omega⟩
  have hs := check_size hc
  have hm := majors_nonneg q
  simp only [armadalaw08_MpathParts.j2]
  rw [if_neg (by simp), mpath_Major_f q k (by omega)]
  simp only [Option.bind_some]
  rw [ref_Path_f _ k (by omega), mpath_Check_f _ k (by omega)]
  simp only [Option.bind_some]
  by_cases h0 : (majorsOf s).2.1 = 0
  · rw [if_pos h0]
    by_cases hh : (majorsOf q).2.2 = true
    · rw [if_pos hh]
      by_cases hp : pathOk ((s ++ (⟨#[47]⟩ : ByteArray)) ++ q) = true
      · have hn : nt (splitBy 47 s) = true := by
          rcases check_cases hc with ⟨hn, _⟩ | ⟨_, hz, _, hM⟩
          · exact hn
          · rw [hM] at h0; exact absurd h0 hz
        rw [if_pos hp, both_ok hn (has_check hh) hp]
        exact parts_j3 s q (by omega) _ hm _ k (by omega)
      · rw [if_neg hp]; exact parts_j3 s q (by omega) _ hm _ k (by omega)
    · rw [if_neg hh]; exact parts_j3 s q (by omega) _ hm _ k (by omega)
  · rw [if_neg h0]; exact parts_j3 s q (by omega) _ hm _ k (by omega)
theorem parts_l0 (s q : ByteArray) (hc : checkOk s = true) (hq : q.size ≤ 4294967290) : ∀ (d n k : Nat), s.size - n = d → n ≤ s.size + 1 → d + 405 < k → armadalaw08_MpathParts.l0 k s q (n : Int) = some true := by
  have hs := check_size hc
  intro d
  induction d with
  | zero =>
    intro n k hd hn hk
    obtain ⟨k, rfl⟩ : ∃ m, k = m + 1 := ⟨k - 1, by omega⟩
    simp only [armadalaw08_MpathParts.l0]
    have hsz : (s ++ (⟨#[47]⟩ : ByteArray)).size + q.size ≤ 9223372036854775807 := by
      rw [ByteArray.size_append]
      show s.size + 1 + _ ≤ _
      omega
    rw [if_neg (by omega), mpath_Major_f s k (by omega), mpath_Check_f _ k (by omega)]
    simp only [Option.bind_some]
    rw [if_pos (by omega), if_pos hsz]
    by_cases hp : (majorsOf s).2.1 > 0
    · have hno : checkOk ((s ++ (⟨#[47]⟩ : ByteArray)) ++ q) = false := by
        cases hb : checkOk ((s ++ (⟨#[47]⟩ : ByteArray)) ++ q) with
        | false => rfl
        | true =>
          have h2 := majors_nt hc (front_ok (both_data s q) hb).2
          rw [h2] at hp
          exact absurd hp (Int.lt_irrefl 0)
      rw [if_pos hp, hno]
      exact parts_j2 s q hc k (by omega)
    · rw [if_neg hp]
      exact parts_j2 s q hc k (by omega)
  | succ d ih =>
    intro n k hd hn hk
    obtain ⟨k, rfl⟩ : ∃ m, k = m + 1 := ⟨k - 1, by omega⟩
    obtain ⟨b, hb, hd2⟩ := scan (s := s) (n := n) (by omega)
    simp only [armadalaw08_MpathParts.l0]
    rw [if_pos (by omega), if_pos (by omega), hb, if_pos (show (n : Int) ≤ (s.size : Int) by omega), wrap_succ (by omega), ih (n + 1) k (by omega) (by omega) (by omega), mpath_Check_f _ k (by omega)]
    simp only [Option.bind_some]
    by_cases h : (b.toNat : Int) = 47
    · have hb47 : b = 47 := UInt8.toNat_inj.1 (Int.ofNat.inj h)
      subst hb47
      have hdata : s.data.toList = (s.extract 0 n).data.toList ++ 47 :: (ba (s.data.toList.drop (n + 1))).data.toList := by
        rw [ba_data, Lib.extract_data, ← hd2]
        simp
      rw [if_pos h, show ((n : Int)).toNat = n from Int.toNat_natCast n, (front_ok hdata hc).1]
      rfl
    · rw [if_neg h]
theorem parts_pure (s q : ByteArray) : ∃ k, armadalaw08_MpathParts.f k s q = some true := by
  refine ⟨1000, ?_⟩
  unfold armadalaw08_MpathParts.f
  have ht : armadalaw08_MpathParts.j0 1000 s q true = some true := by
    rw [show (1000 : Nat) = 999 + 1 from rfl]
    simp only [armadalaw08_MpathParts.j0]
    rw [if_pos trivial, live_f 999 (by omega)]; rfl
  by_cases h1 : (s.size : Int) > 200
  · rw [if_pos h1]; exact ht
  · rw [if_neg h1]
    by_cases h2 : (q.size : Int) > 200
    · rw [if_pos h2]; exact ht
    · rw [if_neg h2, mpath_Check_f s 1000 (by omega)]
      simp only [Option.bind_some]
      cases hc : checkOk s with
      | false => exact ht
      | true =>
        show armadalaw08_MpathParts.j0 1000 s q false = some true
        have hs := check_size hc
        rw [show (1000 : Nat) = 999 + 1 from rfl]
        simp only [armadalaw08_MpathParts.j0]
        rw [if_neg (by simp), show (1 : Int) = ((1 : Nat) : Int) from rfl]
        exact parts_l0 s q hc (by omega) _ 1 999 rfl (by omega) (by omega)
end Go.Proofs.YtpkhemnngjmcjaaDoor
