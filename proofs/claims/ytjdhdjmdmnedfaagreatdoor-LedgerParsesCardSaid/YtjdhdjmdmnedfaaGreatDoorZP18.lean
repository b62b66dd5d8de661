/- The texts Pl3, LedPl in one file, without what these claims do not use (put together by prune2.py). -/
import Derived.Test.YtjdhdjmdmnedfaaGreatDoorZP14
import Derived.Test.YtjdhdjmdmnedfaaGreatDoorZP16
import Derived.Test.YtjdhdjmdmnedfaaGreatDoorZP9
import Derived.Shelf.Strings.LastIndexAll
import Derived.Test.YtjdhdjmdmnedfaaGreatDoorZP3
section
namespace Go.Proofs.YtjdhdjmdmnedfaaGreatDoor
open Go Go.RowKit Go.Proofs.YtjdhdjmdmnedfaaGreatDoorW.PrintWords Go.Proofs.YtjdhdjmdmnedfaaGreatDoor.K0 Go.Proofs.YtjdhdjmdmnedfaaGreatDoor.R1 Go.Proofs.YtjdhdjmdmnedfaaGreatDoor.R2
set_option linter.unusedVariables false
set_option linter.unusedSimpArgs false
theorem head_bt {s : ByteArray} (h : 0 < s.size) : ∃ b : UInt8, bt s 0 = (b.toNat : Int) ∧ s.data.toList.head? = some b := by
  obtain ⟨b, hb, hd⟩ := scan (s := s) (n := 0) h
  rw [List.drop_zero] at hd
  exact ⟨b, hb, by rw [hd]; rfl⟩
theorem byte_eq (b : UInt8) (n : Nat) (hn : n < 256) : ((b.toNat : Int) == (n : Int)) = (some b == some (UInt8.ofNat n)) := by
  rw [Bool.eq_iff_iff]
  simp
  constructor
  · intro h
    apply UInt8.toNat_inj.1
    rw [UInt8.toNat_ofNat', Nat.mod_eq_of_lt hn]; omega
  · rintro rfl
    rw [UInt8.toNat_ofNat', Nat.mod_eq_of_lt hn]
/-- What P8.1 asks of the parts. -/
def lastOk (l : List ByteArray) : Bool := !tellsOk (l.getLastD ByteArray.empty).data.toList || (!decide (numOf (l.getLastD ByteArray.empty).data.toList = 0) && decide (1 < l.length))
def partsOk (l : List ByteArray) : Bool := (l.dropLast.all fun x => !tellsOk x.data.toList) && lastOk l
def checkOk (s : ByteArray) : Bool := pathOk s && partsOk (splitBy 47 s)
theorem numOf_nonneg (l : List UInt8) : 0 ≤ numOf l := by
  unfold numOf; split <;> first | omega | (split <;> first | omega | (split <;> omega))
theorem major_f (x : ByteArray) (hs : x.size ≤ 281474976710656) : mpath_major.f x = some (if tellsOk x.data.toList = true then (numOf x.data.toList, true) else (0, false)) := by
  unfold mpath_major.f; rw [if_pos hs, majorOf_eq]
theorem mpath_Check_l0 (l : List ByteArray) (y : ByteArray) (hy : y.size ≤ 4294967290) (hl : l.length ≤ 4294967290) (hx : ∀ x ∈ l, x.size ≤ 4294967290) : ∀ (d n k : Nat), l.length - n = d → n ≤ l.length → d < k →
    mpath_Check.l0 k l y l (l.length : Int) (n : Int) = some (((l.drop n).all fun x => !tellsOk x.data.toList) && (!tellsOk y.data.toList || (!decide (numOf y.data.toList = 0) && decide (0 < l.length)))) := by
  intro d
  induction d with
  | zero =>
    intro n k hd hn hk
    obtain ⟨k, rfl⟩ : ∃ m, k = m + 1 := ⟨k - 1, by omega⟩
    simp only [mpath_Check.l0]
    rw [if_neg (by omega), major_f y (by omega), List.drop_eq_nil_of_le (show l.length ≤ n by omega)]
    have h0 := numOf_nonneg y.data.toList
    cases tellsOk y.data.toList
    · simp
    · by_cases hz : numOf y.data.toList = 0
      · simp [hz]
      · simp [hz]; omega
  | succ d ih =>
    intro n k hd hn hk
    obtain ⟨k, rfl⟩ : ∃ m, k = m + 1 := ⟨k - 1, by omega⟩
    obtain ⟨x, h1, h2, h3⟩ := rd_at (l := l) (n := n) (by omega)
    have hm : x ∈ l := List.mem_of_getElem? h3
    have hxs := hx x hm
    simp only [mpath_Check.l0]
    rw [if_pos (by omega), if_pos (by omega), if_pos (by omega), h1, major_f x (by omega), wrap_succ (by omega), ih (n + 1) k (by omega) (by omega) (by omega), h2]
    simp only [Option.bind_some, List.all_cons]
    cases tellsOk x.data.toList <;> simp
theorem parts_eq {l : List ByteArray} (h : 0 < l.length) : partsOk l = ((l.dropLast.all fun x => !tellsOk x.data.toList) && (!tellsOk (l.getLastD ByteArray.empty).data.toList || (!decide (numOf (l.getLastD ByteArray.empty).data.toList = 0) && decide (0 < l.dropLast.length)))) := by
  unfold partsOk lastOk
  rw [List.length_dropLast, show decide (0 < l.length - 1) = decide (1 < l.length) from by congr 1; apply propext; omega]
theorem split_pos (c : UInt8) (s : ByteArray) : 0 < (splitBy c s).length := by
  unfold splitBy; rw [List.length_map]; exact List.length_pos_iff.2 (splitC_ne c _)
theorem last_mem {l : List ByteArray} (h : 0 < l.length) : l.getLastD ByteArray.empty ∈ l := by
  rw [List.getLastD_eq_getLast?, List.getLast?_eq_some_getLast (List.length_pos_iff.1 h)]
  exact List.getLast_mem _
theorem path_size {s : ByteArray} (h : pathOk s = true) : s.size ≤ 60 := by
  unfold pathOk at h; simp at h; exact h.1
theorem mpath_Check_f (s : ByteArray) (k : Nat) (hk : 100 < k) : mpath_Check.f k s = some (checkOk s) := by
  unfold mpath_Check.f checkOk
  rw [files_Path_f s k (by omega)]
  simp only [Option.bind_some]
  by_cases hp : pathOk s = true
  · have hs := path_size hp
    have hl := split_len 47 s
    have hpos := split_pos 47 s
    rw [hp, if_pos rfl]
    unfold mpath_split.f
    rw [if_pos (by omega)]
    simp only [Option.bind_some, Bool.true_and]
    have hd : (splitBy 47 s).dropLast.length ≤ 61 := by rw [List.length_dropLast]; omega
    have hb : ∀ x ∈ splitBy 47 s, x.size ≤ 60 := fun x hx => by have := split_size hx; omega
    rw [show (0 : Int) = ((0 : Nat) : Int) from rfl, mpath_Check_l0 _ _ (by have := hb _ (last_mem hpos); omega) (by omega) (fun x hx => by have := hb x (List.dropLast_subset _ hx); omega) _ 0 k rfl (by omega) (by omega), parts_eq hpos]
    rfl
  · have hp' : pathOk s = false := by simpa using hp
    rw [hp', if_neg (by simp)]; rfl
def cutAt (s : ByteArray) (i : Int) : ByteArray := if i < 0 then ⟨#[]⟩ else s.extract 0 i.toNat
def baseOf (s : ByteArray) : ByteArray := cutAt s (Lib.lastIdx s 47 s.size)
theorem lastIdx_le (s : ByteArray) (c : Int) : ∀ n, Lib.lastIdx s c n < (n : Int)
  | 0 => by unfold Lib.lastIdx; omega
  | n + 1 => by
    have := lastIdx_le s c n
    unfold Lib.lastIdx; split <;> omega
theorem mpath_Base_f (s : ByteArray) (hs : s.size ≤ 4294967290) : mpath_Base.f s = some (baseOf s) := by
  have e : Lib.lastIndexByte s 47 = Lib.lastIndex s.data.toList [47] := LastIndex.one s ⟨#[47]⟩ rfl
  have hle := lastIdx_le s 47 s.size
  unfold mpath_Base.f strings_LastIndex.f baseOf cutAt
  rw [if_pos (by omega)]
  simp only [Option.bind_some]
  rw [← e]
  unfold Lib.lastIndexByte
  generalize Lib.lastIdx s 47 s.size = i at hle
  by_cases h : i < 0
  · rw [if_pos h, if_pos h]
  · rw [if_neg h, if_neg h, if_pos (by omega), if_pos (by omega)]
/-- mpath.Major. -/
def lastPart (s : ByteArray) : ByteArray := (splitBy 47 s).getLastD ByteArray.empty
def majorsOf (s : ByteArray) : ByteArray × Int × Bool :=
  if checkOk s = true then (if tellsOk (lastPart s).data.toList = true then (baseOf s, numOf (lastPart s).data.toList, true) else (s, 0, true)) else (⟨#[]⟩, 0, false)
theorem check_size {s : ByteArray} (h : checkOk s = true) : s.size ≤ 60 := by
  unfold checkOk at h; simp at h; exact path_size h.1
theorem last_size (s : ByteArray) : (lastPart s).size ≤ s.size := split_size (last_mem (split_pos 47 s))
theorem mpath_Major_f (s : ByteArray) (k : Nat) (hk : 100 < k) : mpath_Major.f k s = some (majorsOf s) := by
  unfold mpath_Major.f majorsOf
  rw [mpath_Check_f s k hk]
  simp only [Option.bind_some]
  by_cases hc : checkOk s = true
  · have hs := check_size hc
    have hL := last_size s
    rw [if_pos hc, if_pos hc]
    unfold mpath_split.f
    rw [if_pos (by omega)]
    simp only [Option.bind_some]
    rw [show (splitBy 47 s).getLastD ByteArray.empty = lastPart s from rfl, major_f _ (by omega)]
    simp only [Option.bind_some]
    by_cases ht : tellsOk (lastPart s).data.toList = true
    · rw [if_pos ht, if_pos ht, if_pos rfl, mpath_Base_f s (by omega)]; rfl
    · rw [if_neg ht, if_neg ht, if_neg (by simp)]
  · rw [if_neg hc, if_neg hc]
/-- mpath.Fits. -/
def fitsOk (s : ByteArray) (a b c : Int) (p q : ByteArray) : Bool :=
  if (majorsOf s).2.2 = true then (if verOk a b c p q = true then (if (majorsOf s).2.1 = 0 then decide (a < 2) else (a == (majorsOf s).2.1)) else false) else false
theorem mpath_Fits_f (s : ByteArray) (a b c : Int) (p q : ByteArray) (k : Nat) (hk : 100 < k) : mpath_Fits.f k s a b c p q = some (fitsOk s a b c p q) := by
  obtain ⟨k, rfl⟩ : ∃ m, k = m + 1 := ⟨k - 1, by omega⟩
  unfold mpath_Fits.f fitsOk
  rw [mpath_Major_f s (k + 1) hk, ver_Check_f a b c p q (k + 1) (by omega)]
  simp only [Option.bind_some]
  generalize majorsOf s = M
  obtain ⟨m1, m2, m3⟩ := M
  cases m3
  · rfl
  · simp only [mpath_Fits.j0]
    cases verOk a b c p q
    · rfl
    · by_cases h : m2 = 0 <;> simp [h]
end Go.Proofs.YtjdhdjmdmnedfaaGreatDoor
end

section
namespace Go.Proofs.YtjdhdjmdmnedfaaGreatDoor
open Go Go.RowKit Go.Proofs.YtjdhdjmdmnedfaaGreatDoorW.PrintWords Go.Proofs.YtjdhdjmdmnedfaaGreatDoor.K0 Go.Proofs.YtjdhdjmdmnedfaaGreatDoor.R1
set_option linter.unusedVariables false
set_option linter.unusedSimpArgs false
abbrev Tg := S32
def tcmp (x y : Tg) : Int := verCmp x.f1.f0 x.f1.f1 x.f1.f2 x.f1.f3 x.f1.f4 y.f1.f0 y.f1.f1 y.f1.f2 y.f1.f3 y.f1.f4
theorem tcmp_anti (x y : Tg) : tcmp x y = - tcmp y x := verCmp_anti _ _ _ _ _ _ _ _ _ _
def tver (t : Tg) : Bool := verOk t.f1.f0 t.f1.f1 t.f1.f2 t.f1.f3 t.f1.f4
def tfits (t : Tg) : Bool := fitsOk t.f0 t.f1.f0 t.f1.f1 t.f1.f2 t.f1.f3 t.f1.f4
def thash (t : Tg) : Bool := hashOk t.f2.data.toList
/-- Has one of others that path, and a version that does not stand ahead? -/
def late (t x : Tg) : Bool := decide (x.f0 = t.f0) && decide (0 ≤ tcmp x t)
/-- Why a tag may not stand behind others. -/
def wrongT (l : List Tg) (t : Tg) : Int :=
  if checkOk t.f0 = true then (if tver t = true then (if tfits t = true then (if thash t = true then (if l.any (late t) = true then 13 else 0) else 4) else 8) else 7) else 6
theorem wrongT_ok {l : List Tg} {t : Tg} : wrongT l t = 0 ↔ checkOk t.f0 = true ∧ tver t = true ∧ tfits t = true ∧ thash t = true ∧ l.any (late t) = false := by
  unfold wrongT
  cases checkOk t.f0 <;> cases tver t <;> cases tfits t <;> cases thash t <;> cases l.any (late t) <;> simp
/-- The error of the first one that may not stand behind those ahead of it. -/
def firstWrong (acc : List Tg) : List Tg → Int
  | [] => 0
  | t :: l => if wrongT acc t = 0 then firstWrong (acc ++ [t]) l else wrongT acc t
theorem firstWrong_ok : ∀ {l acc : List Tg}, firstWrong acc l = 0 ↔ ∀ (a : List Tg) (t : Tg) (b : List Tg), l = a ++ t :: b → wrongT (acc ++ a) t = 0
  | [], acc => by simp [firstWrong]
  | x :: l, acc => by
    unfold firstWrong
    constructor
    · intro h a t b e
      split at h
      · rename_i hx
        cases a with
        | nil => obtain ⟨rfl, rfl⟩ := List.cons.inj e; rw [List.append_nil]; exact hx
        | cons y a =>
          obtain ⟨rfl, e2⟩ := List.cons.inj e
          have := (firstWrong_ok (l := l)).1 h a t b e2
          rwa [List.append_assoc] at this
      · rename_i hx; exact absurd h hx
    · intro h
      have hx := h [] x l rfl
      rw [List.append_nil] at hx
      rw [if_pos hx]
      refine (firstWrong_ok (l := l)).2 fun a t b e => ?_
      have := h (x :: a) t b (by rw [e]; rfl)
      rwa [List.append_assoc]
theorem firstWrong_app : ∀ {l acc : List Tg} {t : Tg}, firstWrong acc l = 0 → firstWrong acc (l ++ [t]) = wrongT (acc ++ l) t
  | [], acc, t, _ => by
    simp only [List.nil_append, firstWrong, List.append_nil]
    split <;> simp_all
  | x :: l, acc, t, h => by
    unfold firstWrong at h
    split at h
    · rename_i hx
      rw [List.cons_append]
      unfold firstWrong
      rw [if_pos hx, firstWrong_app h, List.append_assoc]; rfl
    · rename_i hx; exact absurd h hx
theorem firstWrong_mem {l : List Tg} (h : firstWrong [] l = 0) {t : Tg} (ht : t ∈ l) : ∃ m, wrongT m t = 0 := by
  obtain ⟨a, b, e⟩ := List.append_of_mem ht
  exact ⟨_, firstWrong_ok.1 h a t b e⟩
theorem path_clean {s : ByteArray} (h : checkOk s = true) : (32 : UInt8) ∉ s.data.toList ∧ (10 : UInt8) ∉ s.data.toList ∧ s.data.toList ≠ [] := by
  unfold checkOk at h
  rw [Bool.and_eq_true] at h
  have h1 := h.1
  unfold pathOk at h1
  rw [Bool.and_eq_true] at h1
  have h2 := List.all_eq_true.1 h1.2
  have key : ∀ d : UInt8, isPlain d = false → d ≠ 47 → d ∉ s.data.toList := fun d hd h47 hm => by
    rcases splitC_mem (c := 47) hm with e | ⟨p, hp, hx⟩
    · exact h47 e
    · have := h2 p hp
      unfold partOk at this
      rw [Bool.and_eq_true] at this
      have := List.all_eq_true.1 this.1 d hx
      rw [hd] at this; cases this
  refine ⟨key 32 (by decide) (by decide), key 10 (by decide) (by decide), fun e => ?_⟩
  rw [e] at h2
  have := h2 [] (by simp [splitC])
  simp [partOk, partFin] at this
theorem joinC (c : UInt8) : ∀ l : List UInt8, (splitC c l).flatMap (fun p => p ++ [c]) = l ++ [c]
  | [] => rfl
  | b :: t => by
    by_cases h : b = c
    · subst h
      rw [splitC, if_pos rfl, List.flatMap_cons, joinC b t]; rfl
    · obtain ⟨p, ps, e, e2⟩ := splitC_other h t
      have ih := joinC c t
      rw [e, List.flatMap_cons] at ih
      rw [e2, List.flatMap_cons, List.cons_append, List.cons_append, ih]; rfl
theorem splitC_snoc (c : UInt8) : ∀ l : List UInt8, splitC c (l ++ [c]) = splitC c l ++ [[]]
  | [] => by simp [splitC]
  | b :: t => by
    rw [List.cons_append]
    by_cases h : b = c
    · subst h; rw [splitC, if_pos rfl, splitC, if_pos rfl, splitC_snoc b t]; rfl
    · obtain ⟨p, ps, e, e2⟩ := splitC_other h t
      obtain ⟨p', ps', e', e2'⟩ := splitC_other h (t ++ [c])
      rw [e2, e2']
      rw [splitC_snoc c t, e] at e'
      obtain ⟨rfl, rfl⟩ := List.cons.inj e'
      rfl
theorem splitC_last (c : UInt8) (l : List UInt8) : (splitC c l).getLast? = some [] ↔ l = [] ∨ ∃ a, l = a ++ [c] := by
  constructor
  · intro h
    obtain ⟨ps, e⟩ : ∃ ps, splitC c l = ps ++ [[]] := List.getLast?_eq_some_iff.1 h
    have hj := joinC c l
    rw [e, List.flatMap_append] at hj
    have h2 : ps.flatMap (fun p => p ++ [c]) = l := by
      have : ps.flatMap (fun p => p ++ [c]) ++ [c] = l ++ [c] := by simpa using hj
      exact List.append_cancel_right this
    rcases List.eq_nil_or_concat ps with rfl | ⟨qs, q, rfl⟩
    · exact .inl h2.symm
    · refine .inr ⟨qs.flatMap (fun p => p ++ [c]) ++ q, ?_⟩
      rw [← h2, List.concat_eq_append, List.flatMap_append]; simp
  · rintro (rfl | ⟨a, rfl⟩)
    · rfl
    · rw [splitC_snoc]; simp
/-- The lines of a text. -/
def linesOf (s : List UInt8) : List (List UInt8) := if (splitC 10 s).getLast? = some [] then (splitC 10 s).dropLast else splitC 10 s
theorem lines_nil : linesOf [] = [] := rfl
theorem lines_snoc (a : List UInt8) : linesOf (a ++ [10]) = splitC 10 a := by
  unfold linesOf; rw [splitC_snoc]; simp
theorem lines_other {s : List UInt8} (h : s ≠ []) (h2 : ¬ ∃ a, s = a ++ [10]) : linesOf s = splitC 10 s := by
  unfold linesOf
  rw [if_neg]
  intro e
  rcases (splitC_last 10 s).1 e with e | e
  · exact h e
  · exact h2 e
/-- A tag as a line, without its end. -/
def lineT (t : Tg) : List UInt8 := t.f0.data.toList ++ 32 :: (bytesV t.f1.f0.toNat t.f1.f1.toNat t.f1.f2.toNat t.f1.f3.data.toList t.f1.f4.data.toList ++ 32 :: t.f2.data.toList)
def textB (l : List Tg) : List UInt8 := l.flatMap fun t => lineT t ++ [10]
theorem lineT_clean {l : List Tg} {t : Tg} (h : wrongT l t = 0) : (10 : UInt8) ∉ lineT t := by
  obtain ⟨h1, h2, h3, h4, _⟩ := wrongT_ok.1 h
  have c1 := path_clean h1
  have c2 := bytesV_clean h2
  have c3 := hashOk_clean h4
  unfold lineT
  intro hm
  simp only [List.mem_append, List.mem_cons] at hm
  rcases hm with hm | hm | hm | hm | hm
  · exact c1.2.1 hm
  · exact absurd hm (by decide)
  · exact c2.2 hm
  · exact absurd hm (by decide)
  · exact c3.2.1 hm
theorem splitC_text : ∀ {l : List Tg}, (∀ t ∈ l, ∃ m, wrongT m t = 0) → splitC 10 (textB l) = l.map lineT ++ [[]]
  | [], _ => rfl
  | t :: l, h => by
    obtain ⟨m, hm⟩ := h t List.mem_cons_self
    have ih := splitC_text (l := l) fun x hx => h x (List.mem_cons_of_mem _ hx)
    unfold textB at ih ⊢
    rw [List.flatMap_cons, List.append_assoc]
    show splitC 10 (lineT t ++ 10 :: (l.flatMap fun t => lineT t ++ [10])) = _
    rw [splitC_at _ (lineT_clean hm), ih]; rfl
theorem lines_text {l : List Tg} (h : firstWrong [] l = 0) : linesOf (textB l) = l.map lineT := by
  unfold linesOf
  rw [splitC_text fun t ht => firstWrong_mem h ht]
  simp
/-- The tag of a line. -/
def readT (x : List UInt8) : Option Tg := match splitC 32 x with
  | [p, v, h] => if p = [] then none else if h = [] then none else (parseV v).map fun r => ⟨ba p, ⟨r.1, r.2.1, r.2.2.1, ba r.2.2.2.1, ba r.2.2.2.2⟩, ba h⟩
  | _ => none
theorem readT_line {l : List Tg} {t : Tg} (h : wrongT l t = 0) : readT (lineT t) = some t := by
  obtain ⟨h1, h2, h3, h4, _⟩ := wrongT_ok.1 h
  have c1 := path_clean h1
  have c2 := bytesV_clean h2
  have c3 := hashOk_clean h4
  unfold readT lineT
  rw [splitC_at _ c1.1, splitC_at _ c2.1, splitC_none c3.1]
  simp only
  rw [if_neg c1.2.2, if_neg c3.2.2, parseV_of h2]
  simp [ba_of]
theorem readT_some {x : List UInt8} {t : Tg} (h : readT x = some t) : x = lineT t := by
  unfold readT at h
  split at h
  · rename_i p v hh e
    split at h
    · cases h
    · split at h
      · cases h
      · obtain ⟨⟨a, b, c, p2, q2⟩, hr, rfl⟩ := Option.map_eq_some_iff.1 h
        have hv := (parseV_some hr).2
        have hj := joinC 32 x
        rw [e] at hj
        simp only [List.flatMap_cons, List.flatMap_nil, List.append_nil] at hj
        have : p ++ 32 :: (v ++ 32 :: hh) = x := by
          have h2 : (p ++ 32 :: (v ++ 32 :: hh)) ++ [32] = x ++ [32] := by rw [← hj]; simp
          exact List.append_cancel_right h2
        rw [← this, hv]
        rfl
  · cases h
/-- The tags of lines, behind some. -/
def parseFrom (acc : List Tg) : List (List UInt8) → List Tg × Int × Int
  | [] => (acc, (acc.length : Int), 0)
  | x :: xs => match readT x with
    | none => ([], (acc.length : Int), 10)
    | some t => if wrongT acc t = 0 then parseFrom (acc ++ [t]) xs else ([], (acc.length : Int), wrongT acc t)
def parseT (s : List UInt8) : List Tg × Int × Int := parseFrom [] (linesOf s)
theorem parseFrom_lines : ∀ {l acc : List Tg}, firstWrong acc l = 0 → parseFrom acc (l.map lineT) = (acc ++ l, ((acc ++ l).length : Int), 0)
  | [], acc, _ => by simp [parseFrom]
  | t :: l, acc, h => by
    unfold firstWrong at h
    split at h
    · rename_i hx
      rw [List.map_cons]
      unfold parseFrom
      rw [readT_line hx]
      simp only
      rw [if_pos hx, parseFrom_lines h, List.append_assoc]; rfl
    · rename_i hx; exact absurd h hx
theorem parse_text {l : List Tg} (h : firstWrong [] l = 0) : parseT (textB l) = (l, (l.length : Int), 0) := by
  unfold parseT
  rw [lines_text h, parseFrom_lines h]; rfl
def latFrom (p : ByteArray) (b : Option Tg) : List Tg → Option Tg
  | [] => b
  | x :: l => latFrom p (if x.f0 = p then (match b with | none => some x | some y => if 0 < tcmp x y then some x else some y) else b) l
def latT (l : List Tg) (p : ByteArray) : Option Tg := latFrom p none l
theorem latFrom_app (p : ByteArray) : ∀ (l m : List Tg) (b : Option Tg), latFrom p b (l ++ m) = latFrom p (latFrom p b l) m
  | [], m, b => rfl
  | x :: l, m, b => by
    rw [List.cons_append]
    simp only [latFrom]
    exact latFrom_app p l m _
theorem latFrom_in (p : ByteArray) : ∀ (l : List Tg) (b : Option Tg) (y : Tg), latFrom p b l = some y → b = some y ∨ (y ∈ l ∧ y.f0 = p)
  | [], b, y, h => .inl h
  | x :: l, b, y, h => by
    unfold latFrom at h
    rcases latFrom_in p l _ y h with h | ⟨h, h2⟩
    · split at h
      · rename_i hx
        split at h
        · obtain rfl := Option.some.inj h; exact .inr ⟨List.mem_cons_self, hx⟩
        · split at h
          · obtain rfl := Option.some.inj h; exact .inr ⟨List.mem_cons_self, hx⟩
          · exact .inl h
      · exact .inl h
    · exact .inr ⟨List.mem_cons_of_mem _ h, h2⟩
theorem lat_new {l : List Tg} {t : Tg} (h : wrongT l t = 0) : latT (l ++ [t]) t.f0 = some t := by
  unfold latT
  rw [latFrom_app]
  obtain ⟨_, _, _, _, h5⟩ := wrongT_ok.1 h
  unfold latFrom latFrom
  rw [if_pos rfl]
  cases e : latFrom t.f0 none l with
  | none => rfl
  | some y =>
    simp only
    rcases latFrom_in _ _ _ _ e with e | ⟨hy, hp⟩
    · cases e
    · have := (List.any_eq_false.1 h5) y hy
      unfold late at this
      rw [decide_eq_true hp, Bool.true_and, decide_eq_true_eq] at this
      have ha := tcmp_anti t y
      rw [if_pos (by omega)]
end Go.Proofs.YtjdhdjmdmnedfaaGreatDoor
end
