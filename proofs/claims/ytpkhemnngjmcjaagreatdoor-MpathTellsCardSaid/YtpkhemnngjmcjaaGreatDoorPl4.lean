/- Plain laws, the fourth part: mpath.Check, Base, Major, Fits and their references. -/
import Derived.Test.YtpkhemnngjmcjaaGreatDoorPl3
import Derived.Test.YtpkhemnngjmcjaaGreatDoorR2x
import Derived.Shelf.Strings.LastIndexAll
namespace Go.Proofs.YtpkhemnngjmcjaaGreatDoor
open Go Go.RowKit Go.Proofs.YtpkhemnngjmcjaaGreatDoorW.PrintWords Go.Proofs.YtpkhemnngjmcjaaGreatDoor.K0 Go.Proofs.YtpkhemnngjmcjaaGreatDoor.R1 Go.Proofs.YtpkhemnngjmcjaaGreatDoor.R2
set_option linter.unusedVariables false
set_option linter.unusedSimpArgs false

theorem numOf_nonneg (l : List UInt8) : 0 ≤ numOf l := by
  unfold numOf; split <;> first | omega | (split <;> first | omega | (split <;> omega))
theorem major_f (x : ByteArray) (hs : x.size ≤ 281474976710656) : mpath_major.f x = some (if tellsOk x.data.toList = true then (numOf x.data.toList, true) else (0, false)) := by
  unfold mpath_major.f; rw [if_pos hs, majorOf_eq]
theorem mpath_Check_l0 (l : List ByteArray) (y : ByteArray) (hy : y.size ≤ 4294967290) (hl : l.length ≤ 4294967290) (hx : ∀ x ∈ l, x.size ≤ 4294967290) : ∀ (d n k : Nat), l.length - n = d → n ≤ l.length → d < k →
    mpath_Check.l0 k l y l (l.length : Int) (n : Int) = some (((l.drop n).all fun x => !tellsOk x.data.toList) && (!tellsOk y.data.toList || (!decide (numOf y.data.toList = 0) && decide (0 < l.length)))) := by
  intro d
  induction d with
  | zero =>
    intro n k hd hn hk
    obtain ⟨k, rfl⟩ : ∃ m, k = m + 1 := ⟨k - 1, by omega⟩
    simp only [mpath_Check.l0]
    rw [if_neg (by omega), major_f y (by omega), List.drop_eq_nil_of_le (show l.length ≤ n by omega)]
    have h0 := numOf_nonneg y.data.toList
    cases tellsOk y.data.toList
    · simp
    · by_cases hz : numOf y.data.toList = 0
      · simp [hz]
      · simp [hz]; omega
  | succ d ih =>
    intro n k hd hn hk
    obtain ⟨k, rfl⟩ : ∃ m, k = m + 1 := ⟨k - 1, by omega⟩
    obtain ⟨x, h1, h2, h3⟩ := rd_at (l := l) (n := n) (by omega)
    have hm : x ∈ l := List.mem_of_getElem? h3
    have hxs := hx x hm
    simp only [mpath_Check.l0]
    rw [if_pos (by omega), if_pos (by omega), if_pos (by omega), h1, major_f x (by omega), wrap_succ (by omega), ih (n + 1) k (by omega) (by omega) (by omega), h2]
    simp only [Option.bind_some, List.all_cons]
    cases tellsOk x.data.toList <;> simp
theorem parts_eq {l : List ByteArray} (h : 0 < l.length) : partsOk l = ((l.dropLast.all fun x => !tellsOk x.data.toList) && (!tellsOk (l.getLastD ByteArray.empty).data.toList || (!decide (numOf (l.getLastD ByteArray.empty).data.toList = 0) && decide (0 < l.dropLast.length)))) := by
  unfold partsOk lastOk
  rw [List.length_dropLast, show decide (0 < l.length - 1) = decide (1 < l.length) from by congr 1; apply propext; omega]
theorem split_pos (c : UInt8) (s : ByteArray) : 0 < (splitBy c s).length := by
  unfold splitBy; rw [List.length_map]; exact List.length_pos_iff.2 (splitC_ne c _)
theorem last_mem {l : List ByteArray} (h : 0 < l.length) : l.getLastD ByteArray.empty ∈ l := by
  rw [List.getLastD_eq_getLast?, List.getLast?_eq_some_getLast (List.length_pos_iff.1 h)]
  exact List.getLast_mem _
theorem path_size {s : ByteArray} (h : pathOk s = true) : s.size ≤ 60 := by
  unfold pathOk at h; simp at h; exact h.1
theorem mpath_Check_f (s : ByteArray) (k : Nat) (hk : 100 < k) : mpath_Check.f k s = some (checkOk s) := by
  unfold mpath_Check.f checkOk
  rw [files_Path_f s k (by omega)]
  simp only [Option.bind_some]
  by_cases hp : pathOk s = true
  · have hs := path_size hp
    have hl := split_len 47 s
    have hpos := split_pos 47 s
    rw [hp, if_pos rfl]
    unfold mpath_split.f
    rw [if_pos (by omega)]
    simp only [Option.bind_some, Bool.true_and]
    have hd : (splitBy 47 s).dropLast.length ≤ 61 := by rw [List.length_dropLast]; omega
    have hb : ∀ x ∈ splitBy 47 s, x.size ≤ 60 := fun x hx => by have := split_size hx; omega
    rw [show (0 : Int) = ((0 : Nat) : Int) from rfl, mpath_Check_l0 _ _ (by have := hb _ (last_mem hpos); omega) (by omega) (fun x hx => by have := hb x (List.dropLast_subset _ hx); omega) _ 0 k rfl (by omega) (by omega), parts_eq hpos]
    rfl
  · have hp' : pathOk s = false := by simpa using hp
    rw [hp', if_neg (by simp)]; rfl

def cutAt (s : ByteArray) (i : Int) : ByteArray := if i < 0 then ⟨#[]⟩ else s.extract 0 i.toNat
def baseOf (s : ByteArray) : ByteArray := cutAt s (Lib.lastIdx s 47 s.size)
theorem lastIdx_le (s : ByteArray) (c : Int) : ∀ n, Lib.lastIdx s c n < (n : Int)
  | 0 => by unfold Lib.lastIdx; omega
  | n + 1 => by
    have := lastIdx_le s c n
    unfold Lib.lastIdx; split <;> omega
theorem mpath_Base_f (s : ByteArray) (hs : s.size ≤ 4294967290) : mpath_Base.f s = some (baseOf s) := by
  have e : Lib.lastIndexByte s 47 = Lib.lastIndex s.data.toList [47] := LastIndex.one s ⟨#[47]⟩ rfl
  have hle := lastIdx_le s 47 s.size
  unfold mpath_Base.f strings_LastIndex.f baseOf cutAt
  rw [if_pos (by omega)]
  simp only [Option.bind_some]
  rw [← e]
  unfold Lib.lastIndexByte
  generalize Lib.lastIdx s 47 s.size = i at hle
  by_cases h : i < 0
  · rw [if_pos h, if_pos h]
  · rw [if_neg h, if_neg h, if_pos (by omega), if_pos (by omega)]
theorem ref_Base_l0 (s : ByteArray) (hs : s.size ≤ 4294967290) : ∀ (n k : Nat) (x : Int), n ≤ s.size → n < k → x = (n : Int) - 1 → armadaref08_Base.l0 k s x = some (cutAt s (Lib.lastIdx s 47 n)) := by
  intro n
  induction n with
  | zero =>
    intro k x hn hk hx
    obtain ⟨k, rfl⟩ : ∃ m, k = m + 1 := ⟨k - 1, by omega⟩
    simp only [armadaref08_Base.l0]
    rw [if_neg (by omega)]
    rfl
  | succ n ih =>
    intro k x hn hk hx
    obtain ⟨k, rfl⟩ : ∃ m, k = m + 1 := ⟨k - 1, by omega⟩
    obtain rfl : x = (n : Int) := by omega
    obtain ⟨b, hb, hd⟩ := scan (s := s) (n := n) (by omega)
    have hb2 : s.data[n]! = b := by
      have : s.data.toList[n]? = some b := by
        have := congrArg List.head? hd
        rw [List.head?_drop] at this; exact this
      rw [Array.getElem?_toList] at this
      rw [getElem!_def, this]
    simp only [armadaref08_Base.l0]
    rw [if_pos (by omega), if_pos (by omega), if_pos (by omega), hb]
    by_cases h : (b.toNat : Int) = 47
    · rw [if_pos h, if_pos (by omega), Lib.lastIdx_hit s 47 n (by rw [hb2]; exact h)]
      unfold cutAt
      rw [if_neg (by omega)]
    · rw [if_neg h, Lib.lastIdx_miss s 47 n (by rw [hb2]; exact h)]
      exact ih k _ (by omega) (by omega) (wrap_id (by omega) (by omega))
theorem ref_Base_f (s : ByteArray) (hs : s.size ≤ 4294967290) (k : Nat) (hk : s.size < k) : armadaref08_Base.f k s = some (baseOf s) := by
  unfold armadaref08_Base.f
  exact ref_Base_l0 s hs s.size k _ (by omega) hk (wrap_id (by omega) (by omega))

/-- mpath.Major. -/
def lastPart (s : ByteArray) : ByteArray := (splitBy 47 s).getLastD ByteArray.empty
def majorsOf (s : ByteArray) : ByteArray × Int × Bool :=
  if checkOk s = true then (if tellsOk (lastPart s).data.toList = true then (baseOf s, numOf (lastPart s).data.toList, true) else (s, 0, true)) else (⟨#[]⟩, 0, false)
theorem check_size {s : ByteArray} (h : checkOk s = true) : s.size ≤ 60 := by
  unfold checkOk at h; simp at h; exact path_size h.1
theorem last_size (s : ByteArray) : (lastPart s).size ≤ s.size := split_size (last_mem (split_pos 47 s))
theorem mpath_Major_f (s : ByteArray) (k : Nat) (hk : 100 < k) : mpath_Major.f k s = some (majorsOf s) := by
  unfold mpath_Major.f majorsOf
  rw [mpath_Check_f s k hk]
  simp only [Option.bind_some]
  by_cases hc : checkOk s = true
  · have hs := check_size hc
    have hL := last_size s
    rw [if_pos hc, if_pos hc]
    unfold mpath_split.f
    rw [if_pos (by omega)]
    simp only [Option.bind_some]
    rw [show (splitBy 47 s).getLastD ByteArray.empty = lastPart s from rfl, major_f _ (by omega)]
    simp only [Option.bind_some]
    by_cases ht : tellsOk (lastPart s).data.toList = true
    · rw [if_pos ht, if_pos ht, if_pos rfl, mpath_Base_f s (by omega)]; rfl
    · rw [if_neg ht, if_neg ht, if_neg (by simp)]
  · rw [if_neg hc, if_neg hc]
theorem ref_Major_f (s : ByteArray) (k : Nat) (hk : 400 < k) : armadaref08_Major.f k s = some (majorsOf s) := by
  unfold armadaref08_Major.f majorsOf
  rw [ref_Check_f s k hk]
  simp only [Option.bind_some]
  by_cases hc : checkOk s = true
  · have hs := check_size hc
    have hL := last_size s
    have hl := split_len 47 s
    have hpos := split_pos 47 s
    rw [if_pos hc, if_pos hc, show (47 : Int) = ((47 : UInt8).toNat : Int) from rfl, ref_split 47 s (by omega) k (by omega)]
    simp only [Option.bind_some]
    rw [wrap_id (z := ((splitBy 47 s).length : Int) - 1) (by omega) (by omega), if_pos (by omega), if_pos (by omega)]
    obtain ⟨x, h1, h2, h3⟩ := rd_at (l := splitBy 47 s) (n := (splitBy 47 s).length - 1) (by omega)
    have hx : x = lastPart s := by
      unfold lastPart
      rw [List.getLastD_eq_getLast?, List.getLast?_eq_getElem?, h3]; rfl
    rw [show ((splitBy 47 s).length : Int) - 1 = (((splitBy 47 s).length - 1 : Nat) : Int) by omega, h1, hx, tells_f _ (by omega) k (by omega)]
    simp only [Option.bind_some]
    by_cases ht : tellsOk (lastPart s).data.toList = true
    · rw [if_pos ht, if_pos ht, ref_Base_f s (by omega) k (by omega), number_f _ ht k (by omega) (by omega)]; rfl
    · rw [if_neg ht, if_neg ht]
  · rw [if_neg hc, if_neg hc]

/-- mpath.Fits. -/
def fitsOk (s : ByteArray) (a b c : Int) (p q : ByteArray) : Bool :=
  if (majorsOf s).2.2 = true then (if verOk a b c p q = true then (if (majorsOf s).2.1 = 0 then decide (a < 2) else (a == (majorsOf s).2.1)) else false) else false
theorem mpath_Fits_f (s : ByteArray) (a b c : Int) (p q : ByteArray) (k : Nat) (hk : 100 < k) : mpath_Fits.f k s a b c p q = some (fitsOk s a b c p q) := by
  obtain ⟨k, rfl⟩ : ∃ m, k = m + 1 := ⟨k - 1, by omega⟩
  unfold mpath_Fits.f fitsOk
  rw [mpath_Major_f s (k + 1) hk, ver_Check_f a b c p q (k + 1) (by omega)]
  simp only [Option.bind_some]
  generalize majorsOf s = M
  obtain ⟨m1, m2, m3⟩ := M
  cases m3
  · rfl
  · simp only [mpath_Fits.j0]
    cases verOk a b c p q
    · rfl
    · by_cases h : m2 = 0 <;> simp [h]
theorem ver_nonneg {a b c : Int} {p q : ByteArray} (h : verOk a b c p q = true) : 0 ≤ a := by
  unfold verOk numB at h; simp at h; omega
theorem ref_Fits_f (s : ByteArray) (a b c : Int) (p q : ByteArray) : Ev (fun k => armadaref08_Fits.f k s a b c p q) (fitsOk s a b c p q) := by
  obtain ⟨K, hK⟩ := ref_ver_Check_f a b c p q
  refine ⟨max K 401, fun k hk => ?_⟩
  unfold armadaref08_Fits.f fitsOk
  simp only
  rw [ref_Major_f s k (by omega)]
  simp only [Option.bind_some]
  have hK' := hK k (by omega)
  simp only at hK'
  rw [hK']
  simp only [Option.bind_some]
  generalize majorsOf s = M
  obtain ⟨m1, m2, m3⟩ := M
  cases m3
  · rfl
  · have h0 := @ver_nonneg a b c p q
    revert h0
    cases verOk a b c p q
    · intro _; rfl
    · intro h0
      have := h0 rfl
      by_cases h : m2 = 0
      · subst h
        by_cases h1 : a = 0
        · subst h1; simp
        · by_cases h2 : a = 1
          · subst h2; simp
          · have : ¬ a < 2 := by omega
            simp [h1, h2, this]
      · by_cases h1 : a = m2 <;> simp [h, h1]

theorem live_f (k : Nat) (hk : 100 < k) : armadalaw08_live.f k = some true := by
  unfold armadalaw08_live.f
  have e1 : majorsOf (⟨#[101, 120, 47, 97, 47, 118, 49, 50]⟩ : ByteArray) = (⟨#[101, 120, 47, 97]⟩, 12, true) := by decide +kernel
  have e2 : majorsOf (⟨#[101, 120, 47, 97]⟩ : ByteArray) = (⟨#[101, 120, 47, 97]⟩, 0, true) := by decide +kernel
  have e3 : majorsOf (⟨#[101, 120, 47, 97, 47, 118, 49]⟩ : ByteArray) = (⟨#[]⟩, 0, false) := by decide +kernel
  have c1 : checkOk (⟨#[101, 120, 47, 118, 97, 47, 118, 50, 120]⟩ : ByteArray) = true := by decide +kernel
  have c2 : checkOk (⟨#[118, 50]⟩ : ByteArray) = false := by decide +kernel
  have c3 : checkOk (⟨#[101, 120, 47, 118, 50, 47, 97]⟩ : ByteArray) = false := by decide +kernel
  have c4 : checkOk (⟨#[101, 120, 47, 118, 48, 50]⟩ : ByteArray) = false := by decide +kernel
  have f1 : fitsOk (⟨#[101, 120, 47, 97, 47, 118, 50]⟩ : ByteArray) 2 0 0 (⟨#[]⟩ : ByteArray) (⟨#[]⟩ : ByteArray) = true := by decide +kernel
  have f2 : fitsOk (⟨#[101, 120, 47, 97, 47, 118, 50]⟩ : ByteArray) 1 0 0 (⟨#[]⟩ : ByteArray) (⟨#[]⟩ : ByteArray) = false := by decide +kernel
  have f3 : fitsOk (⟨#[101, 120, 47, 97]⟩ : ByteArray) 1 0 0 (⟨#[]⟩ : ByteArray) (⟨#[]⟩ : ByteArray) = true := by decide +kernel
  have f4 : fitsOk (⟨#[101, 120, 47, 97]⟩ : ByteArray) 0 0 0 (⟨#[]⟩ : ByteArray) (⟨#[]⟩ : ByteArray) = true := by decide +kernel
  have f5 : fitsOk (⟨#[101, 120, 47, 97]⟩ : ByteArray) 2 0 0 (⟨#[]⟩ : ByteArray) (⟨#[]⟩ : ByteArray) = false := by decide +kernel
  have w1 : mpath_Within.f (⟨#[97, 47, 98, 47, 99]⟩ : ByteArray) (⟨#[97, 47, 98]⟩ : ByteArray) = some true := by
    unfold mpath_Within.f strings_HasPrefix.f; simp only [ByteArray.toList_eq]; decide +kernel
  have w2 : mpath_Within.f (⟨#[97, 47, 98, 99]⟩ : ByteArray) (⟨#[97, 47, 98]⟩ : ByteArray) = some false := by
    unfold mpath_Within.f strings_HasPrefix.f; simp only [ByteArray.toList_eq]; decide +kernel
  have w3 : mpath_Within.f (⟨#[97]⟩ : ByteArray) (⟨#[]⟩ : ByteArray) = some true := by
    unfold mpath_Within.f strings_HasPrefix.f; simp only [ByteArray.toList_eq]; decide +kernel
  have b1 : mpath_Base.f (⟨#[97, 47, 98, 47, 99]⟩ : ByteArray) = some ⟨#[97, 47, 98]⟩ := by
    rw [mpath_Base_f _ (by decide)]; decide +kernel
  have b2 : mpath_Base.f (⟨#[97]⟩ : ByteArray) = some ⟨#[]⟩ := by
    rw [mpath_Base_f _ (by decide)]; decide +kernel
  rw [mpath_Major_f _ k hk, mpath_Major_f _ k hk, mpath_Major_f _ k hk, mpath_Check_f _ k hk, mpath_Check_f _ k hk, mpath_Check_f _ k hk, mpath_Check_f _ k hk,
    mpath_Fits_f _ _ _ _ _ _ k hk, mpath_Fits_f _ _ _ _ _ _ k hk, mpath_Fits_f _ _ _ _ _ _ k hk, mpath_Fits_f _ _ _ _ _ _ k hk, mpath_Fits_f _ _ _ _ _ _ k hk,
    e1, e2, e3, c1, c2, c3, c4, f1, f2, f3, f4, f5, w1, w2, w3, b1, b2]
  simp only [Option.bind_some, ByteArray.toList_eq]
  decide +kernel

theorem tells_pure (s : ByteArray) (a b c : Int) (p q : ByteArray) : ∃ k, armadalaw08_MpathTells.f k s a b c p q = some true := by
  have hj : ∀ z, ∃ k, armadalaw08_MpathTells.j0 k s z a b c p q = some true := by
    intro z
    obtain ⟨K, hK⟩ := ref_Fits_f s a b c p q
    refine ⟨(max K 401) + 1, ?_⟩
    simp only [armadalaw08_MpathTells.j0]
    rw [live_f _ (by omega)]
    cases z
    · rw [if_neg (by simp), mpath_Major_f s _ (by omega), ref_Major_f s _ (by omega), mpath_Check_f s _ (by omega), ref_Check_f s _ (by omega), mpath_Fits_f s a b c p q _ (by omega), show armadaref08_Fits.f (max K 401) s a b c p q = _ from hK _ (by omega)]
      simp only [Option.bind_some]
      simp
    · rfl
  unfold armadalaw08_MpathTells.f
  by_cases h1 : (s.size : Int) > 200
  · simp only [h1, if_true]; exact hj _
  · by_cases h2 : (p.size : Int) > 200
    · simp only [h1, h2, if_true, if_false]; exact hj _
    · simp only [h1, h2, if_false]; exact hj _
end Go.Proofs.YtpkhemnngjmcjaaGreatDoor
