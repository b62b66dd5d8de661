/- The texts Pl3, Cmp, Idx in one file, without what these claims do not use (put together by prune2.py). -/
import Derived.Test.YtillhaipemengaaGreatDoorZC9
import Derived.Test.YtillhaipemengaaGreatDoorZC10
import Derived.Test.YtillhaipemengaaGreatDoorZC11
import Derived.Shelf.Strings.LastIndexAll
import Derived.Test.YtillhaipemengaaGreatDoorZC4
import Derived.Lib.SlicesCompact
import Derived.Shelf.Abstract
section
namespace Go.Proofs.YtillhaipemengaaGreatDoor
open Go Go.RowKit Go.Proofs.YtillhaipemengaaGreatDoorW.PrintWords Go.Proofs.YtillhaipemengaaGreatDoor.K0 Go.Proofs.YtillhaipemengaaGreatDoor.R1 Go.Proofs.YtillhaipemengaaGreatDoor.R2
set_option linter.unusedVariables false
set_option linter.unusedSimpArgs false
theorem head_bt {s : ByteArray} (h : 0 < s.size) : ∃ b : UInt8, bt s 0 = (b.toNat : Int) ∧ s.data.toList.head? = some b := by
  obtain ⟨b, hb, hd⟩ := scan (s := s) (n := 0) h
  rw [List.drop_zero] at hd
  exact ⟨b, hb, by rw [hd]; rfl⟩
theorem byte_eq (b : UInt8) (n : Nat) (hn : n < 256) : ((b.toNat : Int) == (n : Int)) = (some b == some (UInt8.ofNat n)) := by
  rw [Bool.eq_iff_iff]
  simp
  constructor
  · intro h
    apply UInt8.toNat_inj.1
    rw [UInt8.toNat_ofNat', Nat.mod_eq_of_lt hn]; omega
  · rintro rfl
    rw [UInt8.toNat_ofNat', Nat.mod_eq_of_lt hn]
/-- What P8.1 asks of the parts. -/
def lastOk (l : List ByteArray) : Bool := !tellsOk (l.getLastD ByteArray.empty).data.toList || (!decide (numOf (l.getLastD ByteArray.empty).data.toList = 0) && decide (1 < l.length))
def partsOk (l : List ByteArray) : Bool := (l.dropLast.all fun x => !tellsOk x.data.toList) && lastOk l
def checkOk (s : ByteArray) : Bool := pathOk s && partsOk (splitBy 47 s)
theorem numOf_nonneg (l : List UInt8) : 0 ≤ numOf l := by
  unfold numOf; split <;> first | omega | (split <;> first | omega | (split <;> omega))
theorem major_f (x : ByteArray) (hs : x.size ≤ 281474976710656) : mpath_major.f x = some (if tellsOk x.data.toList = true then (numOf x.data.toList, true) else (0, false)) := by
  unfold mpath_major.f; rw [if_pos hs, majorOf_eq]
theorem mpath_Check_l0 (l : List ByteArray) (y : ByteArray) (hy : y.size ≤ 4294967290) (hl : l.length ≤ 4294967290) (hx : ∀ x ∈ l, x.size ≤ 4294967290) : ∀ (d n k : Nat), l.length - n = d → n ≤ l.length → d < k →
    mpath_Check.l0 k l y l (l.length : Int) (n : Int) = some (((l.drop n).all fun x => !tellsOk x.data.toList) && (!tellsOk y.data.toList || (!decide (numOf y.data.toList = 0) && decide (0 < l.length)))) := by
  intro d
  induction d with
  | zero =>
    intro n k hd hn hk
    obtain ⟨k, rfl⟩ : ∃ m, k = m + 1 := ⟨k - 1, by omega⟩
    simp only [mpath_Check.l0]
    rw [if_neg (by omega), major_f y (by omega), List.drop_eq_nil_of_le (show l.length ≤ n by omega)]
    have h0 := numOf_nonneg y.data.toList
    cases tellsOk y.data.toList
    · simp
    · by_cases hz : numOf y.data.toList = 0
      · simp [hz]
      · simp [hz]; omega
  | succ d ih =>
    intro n k hd hn hk
    obtain ⟨k, rfl⟩ : ∃ m, k = m + 1 := ⟨k - 1, by omega⟩
    obtain ⟨x, h1, h2, h3⟩ := rd_at (l := l) (n := n) (by omega)
    have hm : x ∈ l := List.mem_of_getElem? h3
    have hxs := hx x hm
    simp only [mpath_Check.l0]
    rw [if_pos (by omega), if_pos (by omega), if_pos (by omega), h1, major_f x (by omega), wrap_succ (by omega), ih (n + 1) k (by omega) (by omega) (by omega), h2]
    simp only [Option.bind_some, List.all_cons]
    cases tellsOk x.data.toList <;> simp
theorem parts_eq {l : List ByteArray} (h : 0 < l.length) : partsOk l = ((l.dropLast.all fun x => !tellsOk x.data.toList) && (!tellsOk (l.getLastD ByteArray.empty).data.toList || (!decide (numOf (l.getLastD ByteArray.empty).data.toList = 0) && decide (0 < l.dropLast.length)))) := by
  unfold partsOk lastOk
  rw [List.length_dropLast, show decide (0 < l.length - 1) = decide (1 < l.length) from by congr 1; apply propext; omega]
theorem split_pos (c : UInt8) (s : ByteArray) : 0 < (splitBy c s).length := by
  unfold splitBy; rw [List.length_map]; exact List.length_pos_iff.2 (splitC_ne c _)
theorem last_mem {l : List ByteArray} (h : 0 < l.length) : l.getLastD ByteArray.empty ∈ l := by
  rw [List.getLastD_eq_getLast?, List.getLast?_eq_some_getLast (List.length_pos_iff.1 h)]
  exact List.getLast_mem _
theorem path_size {s : ByteArray} (h : pathOk s = true) : s.size ≤ 60 := by
  unfold pathOk at h; simp at h; exact h.1
theorem mpath_Check_f (s : ByteArray) (k : Nat) (hk : 100 < k) : mpath_Check.f k s = some (checkOk s) := by
  unfold mpath_Check.f checkOk
  rw [files_Path_f s k (by omega)]
  simp only [Option.bind_some]
  by_cases hp : pathOk s = true
  · have hs := path_size hp
    have hl := split_len 47 s
    have hpos := split_pos 47 s
    rw [hp, if_pos rfl]
    unfold mpath_split.f
    rw [if_pos (by omega)]
    simp only [Option.bind_some, Bool.true_and]
    have hd : (splitBy 47 s).dropLast.length ≤ 61 := by rw [List.length_dropLast]; omega
    have hb : ∀ x ∈ splitBy 47 s, x.size ≤ 60 := fun x hx => by have := split_size hx; omega
    rw [show (0 : Int) = ((0 : Nat) : Int) from rfl, mpath_Check_l0 _ _ (by have := hb _ (last_mem hpos); omega) (by omega) (fun x hx => by have := hb x (List.dropLast_subset _ hx); omega) _ 0 k rfl (by omega) (by omega), parts_eq hpos]
    rfl
  · have hp' : pathOk s = false := by simpa using hp
    rw [hp', if_neg (by simp)]; rfl
def cutAt (s : ByteArray) (i : Int) : ByteArray := if i < 0 then ⟨#[]⟩ else s.extract 0 i.toNat
def baseOf (s : ByteArray) : ByteArray := cutAt s (Lib.lastIdx s 47 s.size)
theorem lastIdx_le (s : ByteArray) (c : Int) : ∀ n, Lib.lastIdx s c n < (n : Int)
  | 0 => by unfold Lib.lastIdx; omega
  | n + 1 => by
    have := lastIdx_le s c n
    unfold Lib.lastIdx; split <;> omega
theorem mpath_Base_f (s : ByteArray) (hs : s.size ≤ 4294967290) : mpath_Base.f s = some (baseOf s) := by
  have e : Lib.lastIndexByte s 47 = Lib.lastIndex s.data.toList [47] := LastIndex.one s ⟨#[47]⟩ rfl
  have hle := lastIdx_le s 47 s.size
  unfold mpath_Base.f strings_LastIndex.f baseOf cutAt
  rw [if_pos (by omega)]
  simp only [Option.bind_some]
  rw [← e]
  unfold Lib.lastIndexByte
  generalize Lib.lastIdx s 47 s.size = i at hle
  by_cases h : i < 0
  · rw [if_pos h, if_pos h]
  · rw [if_neg h, if_neg h, if_pos (by omega), if_pos (by omega)]
/-- mpath.Major. -/
def lastPart (s : ByteArray) : ByteArray := (splitBy 47 s).getLastD ByteArray.empty
def majorsOf (s : ByteArray) : ByteArray × Int × Bool :=
  if checkOk s = true then (if tellsOk (lastPart s).data.toList = true then (baseOf s, numOf (lastPart s).data.toList, true) else (s, 0, true)) else (⟨#[]⟩, 0, false)
theorem check_size {s : ByteArray} (h : checkOk s = true) : s.size ≤ 60 := by
  unfold checkOk at h; simp at h; exact path_size h.1
theorem last_size (s : ByteArray) : (lastPart s).size ≤ s.size := split_size (last_mem (split_pos 47 s))
theorem mpath_Major_f (s : ByteArray) (k : Nat) (hk : 100 < k) : mpath_Major.f k s = some (majorsOf s) := by
  unfold mpath_Major.f majorsOf
  rw [mpath_Check_f s k hk]
  simp only [Option.bind_some]
  by_cases hc : checkOk s = true
  · have hs := check_size hc
    have hL := last_size s
    rw [if_pos hc, if_pos hc]
    unfold mpath_split.f
    rw [if_pos (by omega)]
    simp only [Option.bind_some]
    rw [show (splitBy 47 s).getLastD ByteArray.empty = lastPart s from rfl, major_f _ (by omega)]
    simp only [Option.bind_some]
    by_cases ht : tellsOk (lastPart s).data.toList = true
    · rw [if_pos ht, if_pos ht, if_pos rfl, mpath_Base_f s (by omega)]; rfl
    · rw [if_neg ht, if_neg ht, if_neg (by simp)]
  · rw [if_neg hc, if_neg hc]
/-- mpath.Fits. -/
def fitsOk (s : ByteArray) (a b c : Int) (p q : ByteArray) : Bool :=
  if (majorsOf s).2.2 = true then (if verOk a b c p q = true then (if (majorsOf s).2.1 = 0 then decide (a < 2) else (a == (majorsOf s).2.1)) else false) else false
theorem mpath_Fits_f (s : ByteArray) (a b c : Int) (p q : ByteArray) (k : Nat) (hk : 100 < k) : mpath_Fits.f k s a b c p q = some (fitsOk s a b c p q) := by
  obtain ⟨k, rfl⟩ : ∃ m, k = m + 1 := ⟨k - 1, by omega⟩
  unfold mpath_Fits.f fitsOk
  rw [mpath_Major_f s (k + 1) hk, ver_Check_f a b c p q (k + 1) (by omega)]
  simp only [Option.bind_some]
  generalize majorsOf s = M
  obtain ⟨m1, m2, m3⟩ := M
  cases m3
  · rfl
  · simp only [mpath_Fits.j0]
    cases verOk a b c p q
    · rfl
    · by_cases h : m2 = 0 <;> simp [h]
end Go.Proofs.YtillhaipemengaaGreatDoor
end

section
namespace Go.Proofs.YtillhaipemengaaGreatDoor
open Go
set_option linter.unusedVariables false
set_option linter.unusedSimpArgs false
theorem filter_len_all {α : Type} (p : α → Bool) : ∀ (l : List α), l.length ≤ (l.filter p).length → ∀ x ∈ l, p x = true
  | [], _, x, h => by cases h
  | y :: l, h, x, hx => by
    cases hy : p y with
    | false =>
      rw [List.filter_cons_of_neg (by rw [hy]; simp)] at h
      have := List.length_filter_le p l
      simp at h; omega
    | true =>
      rw [List.filter_cons_of_pos hy] at h
      rcases List.mem_cons.1 hx with rfl | hx
      · exact hy
      · exact filter_len_all p l (by simpa using h) x hx
abbrev Str := List UInt8
def srt (zs : List Str) : List Str := zs.mergeSort fun x y => decide (x ≤ y)
theorem srt_sorted (zs : List Str) : (srt zs).Pairwise (· ≤ ·) := by
  have := List.pairwise_mergeSort (le := fun (x y : Str) => decide (x ≤ y)) (fun a b c h1 h2 => by simp only [decide_eq_true_eq] at *; exact List.le_trans h1 h2) (fun a b => by simp only [Bool.or_eq_true, decide_eq_true_eq]; exact List.le_total a b) zs
  exact this.imp (fun h => by simpa using h)
theorem compact_sorted (l : List Str) (hs : l.Pairwise (· ≤ ·)) : decide ((Lib.compact l).length < l.length) = !decide l.Nodup := by
  by_cases h : l.Nodup
  · rw [decide_eq_true h, Lib.compact_all l ?_]
    · simp
    · intro j hj
      unfold Lib.keeps
      rw [decide_eq_true_eq]
      by_cases h0 : j = 0
      · exact .inl h0
      · refine .inr fun e => ?_
        have e' : l[j]'hj = l[j - 1]'(by omega) := by simpa [getElem!_pos, hj, show j - 1 < l.length by omega] using e
        exact List.pairwise_iff_getElem.1 h (j - 1) j (by omega) hj (by omega) e'.symm
  · rw [decide_eq_false h]
    simp only [Bool.not_false, decide_eq_true_eq]
    refine Classical.byContradiction fun hlt => h ?_
    have hall := filter_len_all (Lib.keeps l.toArray) (List.range l.length) (by
      have : (Lib.compact l).length = ((List.range l.length).filter (Lib.keeps l.toArray)).length := by simp [Lib.compact, Lib.compactUpTo]
      rw [List.length_range]; omega)
    have hne : ∀ j, (hj : j + 1 < l.length) → l[j + 1] ≠ l[j] := by
      intro j hj e
      have := hall (j + 1) (List.mem_range.2 hj)
      unfold Lib.keeps at this
      rw [decide_eq_true_eq] at this
      rcases this with h | h
      · omega
      · exact h (by simpa [getElem!_pos, hj, show j < l.length by omega] using e)
    have hle : ∀ (i j : Nat) (hij : i ≤ j) (hj : j < l.length), l[i]'(by omega) ≤ l[j] := by
      intro i j hij hj
      rcases Nat.lt_or_ge i j with h | h
      · exact List.pairwise_iff_getElem.1 hs i j (by omega) hj h
      · have : i = j := by omega
        subst this; exact List.le_refl _
    refine List.pairwise_iff_getElem.2 fun i j hi hj hij e => ?_
    have h1 := hle i (i + 1) (by omega) (by omega)
    have h2 := hle (i + 1) j (by omega) hj
    rw [← e] at h2
    exact hne i (by omega) (List.le_antisymm h2 h1)
/-- A sorted list of texts, its runs made one, is as long as before just if no text stands twice. -/
theorem compact_lt (zs : List Str) : decide ((Lib.compact (srt zs)).length < zs.length) = !decide zs.Nodup := by
  have hp : (srt zs).Perm zs := List.mergeSort_perm zs _
  have hnd : decide (srt zs).Nodup = decide zs.Nodup := decide_eq_decide.2 hp.nodup_iff
  have h := compact_sorted (srt zs) (srt_sorted zs)
  rw [hnd, hp.length_eq] at h
  exact h
end Go.Proofs.YtillhaipemengaaGreatDoor
end

section
namespace Go.Proofs.YtillhaipemengaaGreatDoor
open Go Go.RowKit Go.Sort Go.Proofs Go.Proofs.YtillhaipemengaaGreatDoorW.PrintWords Go.Proofs.YtillhaipemengaaGreatDoor.K0
set_option linter.unusedVariables false
set_option linter.unusedSimpArgs false
/-- The first place of which p holds, or -1. -/
def idxFrom {α : Type} (p : α → Bool) : Nat → List α → Int
  | _, [] => -1
  | n, x :: l => if p x = true then (n : Int) else idxFrom p (n + 1) l
theorem idxFrom_at {α : Type} (p : α → Bool) : ∀ (l : List α) (n k : Nat) (x : α), l[k]? = some x → p x = true → (∀ j y, j < k → l[j]? = some y → p y = false) → idxFrom p n l = ((n + k : Nat) : Int)
  | [], n, k, x, h, _, _ => by simp at h
  | y :: l, n, 0, x, h, hp, _ => by
    obtain rfl : y = x := by simpa using h
    simp [idxFrom, hp]
  | y :: l, n, k + 1, x, h, hp, hn => by
    have hy := hn 0 y (by omega) rfl
    unfold idxFrom
    rw [if_neg (by rw [hy]; simp), idxFrom_at p l (n + 1) k x (by simpa using h) hp (fun j z hj hz => hn (j + 1) z (by omega) (by simpa using hz))]
    congr 1; omega
theorem idxFrom_none {α : Type} (p : α → Bool) : ∀ (l : List α) (n : Nat), (∀ (j : Nat) (y : α), l[j]? = some y → p y = false) → idxFrom p n l = -1
  | [], n, _ => rfl
  | y :: l, n, hn => by
    have hy := hn 0 y rfl
    unfold idxFrom
    rw [if_neg (by rw [hy]; simp)]
    exact idxFrom_none p l (n + 1) (fun j z hz => hn (j + 1) z (by simpa using hz))
theorem idxFrom_nonneg {α : Type} (p : α → Bool) : ∀ (l : List α) (n : Nat), decide (idxFrom p n l ≥ 0) = l.any p
  | [], n => rfl
  | y :: l, n => by
    unfold idxFrom
    cases h : p y
    · simp [h, idxFrom_nonneg p l (n + 1)]
    · simp [h]
set_option maxHeartbeats 2000000 in
/-- slices.IndexFunc over modules. -/
theorem IndexFunc_Mod (A : Option Addr) (c : Nat) (xs : List S63) (p : S63 → Bool) (g : Nat) (lb : Array Value) (eg : ∀ args w, (callFunc g args).run Tryz.prog w = .ok (.enter g args) w) (w : World)
    (hr : Kd.C k63 w A xs.length xs)
    (hp : ∀ (j : Nat) (x : S63), xs[j]? = some x → ∀ (W : World), Below w.heap.size w W → ∀ cs, k63.K W x cs → Calls Tryz.prog g (#[.agg cs.toArray] ++ lb) W fun e w' => e = .returned (.bool (p x)) ∧ Below W.heap.size W w') :
    Calls Tryz.prog 72 #[.slice A xs.length c, .func (.func g) #[] lb] w fun e w' => e = .returned (.int .i64 (idxFrom p 0 xs)) ∧ Below w.heap.size w w' := by
  obtain ⟨n, hn⟩ : ∃ n, n = xs.length := ⟨_, rfl⟩
  rw [← hn] at hr ⊢
  have hbig := hr.2.1
  have HN := Aside0.mk hn
  clear hn
  have HR := Aside0.mk hr
  clear hr
  go_enter Tryz.func72, Tryz.ntmps72
  go_wp2
  go_loopg [5, 8] n (fun gg _ s8 wr => ∃ kk : Nat, kk ≤ n ∧ n - kk ≤ gg ∧ s8 = .int .i64 kk ∧ Aside0 (Below w.heap.size w wr) ∧ Aside0 (∀ j y, j < kk → xs[j]? = some y → p y = false))
  case atStart => exact ⟨0, Nat.zero_le _, by omega, rfl, Aside0.mk (Below.refl _ w), Aside0.mk (fun j y hj => absurd hj (Nat.not_lt_zero _))⟩
  case round =>
    obtain ⟨kk, hkk, hg, rfl, BW, AS⟩ := hrel
    by_cases hlt : kk < n
    · have hltz : (kk : Int) < (n : Int) := by omega
      have HB := Kd.C_below HR.out BW.out
      obtain ⟨x, hx⟩ : ∃ x, xs[kk]? = some x := ⟨_, List.getElem?_eq_getElem (by have := HN.out; omega)⟩
      have hxe : rd_T63 xs (kk : Int) = x := by
        unfold rd_T63
        rw [Int.toNat_natCast, List.getD_eq_getElem?_getD, hx]; rfl
      obtain ⟨ad, A2, c2, hA, h0, h1, h2, hc2, hC2⟩ := at_T63 HB (kk : Int) (by omega) (by omega)
      rw [hxe] at h0 h1 h2 hc2 hC2
      subst hA
      have hcall := hp kk x hx wr BW.out _ (k63_mk wr x hc2 hC2)
      clear HB hxe hp
      have HX := Aside0.mk hx
      have HP2 := Aside0.mk hC2
      clear hx hC2
      rw [Int.toNat_natCast] at h0 h1 h2
      cases hq : p x with
      | true =>
        rw [hq] at hcall
        go_wp2_with (go_at_fn g; refine hcall.mono ?_; rintro e w' ⟨rfl, hb'⟩)
        go_ret
        refine ⟨?_, below_step BW.out hb'⟩
        rw [idxFrom_at p xs 0 kk x HX.out hq AS.out, Nat.zero_add]
        rfl
      | false =>
        rw [hq] at hcall
        go_wp2_with (go_at_fn g; refine hcall.mono ?_; rintro e w' ⟨rfl, hb'⟩)
        go_roundg (n - (kk + 1))
        case measure => omega
        case rel =>
          refine ⟨kk + 1, by omega, by omega, by go_num, Aside0.mk (below_step BW.out hb'), Aside0.mk (fun j y hj hy => ?_)⟩
          by_cases e : j = kk
          · subst e
            obtain rfl := Option.some.inj (HX.out.symm.trans hy)
            exact hq
          · exact AS.out j y (by omega) hy
    · have hltz : ¬ (kk : Int) < (n : Int) := by omega
      have : kk = n := by omega
      subst this
      go_wp2
      go_ret
      refine ⟨?_, BW.out⟩
      rw [idxFrom_none p xs 0 (fun j y hy => AS.out j y (by have := (List.getElem?_eq_some_iff.1 hy).1; have := HN.out; omega) hy)]
      rfl
set_option maxHeartbeats 2000000 in
/-- slices.IndexFunc over requirements. -/
theorem IndexFunc_Req (A : Option Addr) (c : Nat) (xs : List S69) (p : S69 → Bool) (g : Nat) (lb : Array Value) (eg : ∀ args w, (callFunc g args).run Tryz.prog w = .ok (.enter g args) w) (w : World)
    (hr : Kd.C k69 w A xs.length xs)
    (hp : ∀ (j : Nat) (x : S69), xs[j]? = some x → ∀ (W : World), Below w.heap.size w W → ∀ cs, k69.K W x cs → Calls Tryz.prog g (#[.agg cs.toArray] ++ lb) W fun e w' => e = .returned (.bool (p x)) ∧ Below W.heap.size W w') :
    Calls Tryz.prog 140 #[.slice A xs.length c, .func (.func g) #[] lb] w fun e w' => e = .returned (.int .i64 (idxFrom p 0 xs)) ∧ Below w.heap.size w w' := by
  obtain ⟨n, hn⟩ : ∃ n, n = xs.length := ⟨_, rfl⟩
  rw [← hn] at hr ⊢
  have hbig := hr.2.1
  have HN := Aside0.mk hn
  clear hn
  have HR := Aside0.mk hr
  clear hr
  go_enter Tryz.func140, Tryz.ntmps140
  go_wp2
  go_loopg [5, 8] n (fun gg _ s8 wr => ∃ kk : Nat, kk ≤ n ∧ n - kk ≤ gg ∧ s8 = .int .i64 kk ∧ Aside0 (Below w.heap.size w wr) ∧ Aside0 (∀ j y, j < kk → xs[j]? = some y → p y = false))
  case atStart => exact ⟨0, Nat.zero_le _, by omega, rfl, Aside0.mk (Below.refl _ w), Aside0.mk (fun j y hj => absurd hj (Nat.not_lt_zero _))⟩
  case round =>
    obtain ⟨kk, hkk, hg, rfl, BW, AS⟩ := hrel
    by_cases hlt : kk < n
    · have hltz : (kk : Int) < (n : Int) := by omega
      have HB := Kd.C_below HR.out BW.out
      obtain ⟨x, hx⟩ : ∃ x, xs[kk]? = some x := ⟨_, List.getElem?_eq_getElem (by have := HN.out; omega)⟩
      have hxe : rd_T69 xs (kk : Int) = x := by
        unfold rd_T69
        rw [Int.toNat_natCast, List.getD_eq_getElem?_getD, hx]; rfl
      obtain ⟨ad, hA, h0, h1, h2, h3, h4, h5⟩ := at_T69 HB (kk : Int) (by omega) (by omega)
      rw [hxe] at h0 h1 h2 h3 h4 h5
      subst hA
      have hcall := hp kk x hx wr BW.out _ (k69_mk wr x)
      clear HB hxe hp
      have HX := Aside0.mk hx
      clear hx
      rw [Int.toNat_natCast] at h0 h1 h2 h3 h4 h5
      cases hq : p x with
      | true =>
        rw [hq] at hcall
        go_wp2_with (go_at_fn g; refine hcall.mono ?_; rintro e w' ⟨rfl, hb'⟩)
        go_ret
        refine ⟨?_, below_step BW.out hb'⟩
        rw [idxFrom_at p xs 0 kk x HX.out hq AS.out, Nat.zero_add]
        rfl
      | false =>
        rw [hq] at hcall
        go_wp2_with (go_at_fn g; refine hcall.mono ?_; rintro e w' ⟨rfl, hb'⟩)
        go_roundg (n - (kk + 1))
        case measure => omega
        case rel =>
          refine ⟨kk + 1, by omega, by omega, by go_num, Aside0.mk (below_step BW.out hb'), Aside0.mk (fun j y hj hy => ?_)⟩
          by_cases e : j = kk
          · subst e
            obtain rfl := Option.some.inj (HX.out.symm.trans hy)
            exact hq
          · exact AS.out j y (by omega) hy
    · have hltz : ¬ (kk : Int) < (n : Int) := by omega
      have : kk = n := by omega
      subst this
      go_wp2
      go_ret
      refine ⟨?_, BW.out⟩
      rw [idxFrom_none p xs 0 (fun j y hy => AS.out j y (by have := (List.getElem?_eq_some_iff.1 hy).1; have := HN.out; omega) hy)]
      rfl
/-- slices.ContainsFunc over requirements. -/
theorem ContainsFunc_Req (A : Option Addr) (c : Nat) (xs : List S69) (p : S69 → Bool) (g : Nat) (lb : Array Value) (eg : ∀ args w, (callFunc g args).run Tryz.prog w = .ok (.enter g args) w) (w : World)
    (hr : Kd.C k69 w A xs.length xs)
    (hp : ∀ (j : Nat) (x : S69), xs[j]? = some x → ∀ (W : World), Below w.heap.size w W → ∀ cs, k69.K W x cs → Calls Tryz.prog g (#[.agg cs.toArray] ++ lb) W fun e w' => e = .returned (.bool (p x)) ∧ Below W.heap.size W w') :
    Calls Tryz.prog 111 #[.slice A xs.length c, .func (.func g) #[] lb] w fun e w' => e = .returned (.bool (xs.any p)) ∧ Below w.heap.size w w' := by
  have hcon := IndexFunc_Req A c xs p g lb eg w hr hp
  have hge : decide (idxFrom p 0 xs ≥ 0) = xs.any p := idxFrom_nonneg p xs 0
  generalize idxFrom p 0 xs = z at hcon hge
  rw [← hge]
  clear hge hr hp
  generalize xs.length = n at hcon ⊢
  go_enter Tryz.func111, Tryz.ntmps111
  go_wp2_with (go_at_call 140; refine hcon.mono ?_; rintro e w' ⟨rfl, hb'⟩)
  go_ret
  exact ⟨rfl, hb'⟩
set_option maxHeartbeats 2000000 in
/-- slices.IndexFunc over numbers. -/
theorem IndexFunc_Int (A : Option Addr) (c : Nat) (xs : List Int) (p : Int → Bool) (g : Nat) (lb : Array Value) (eg : ∀ args w, (callFunc g args).run Tryz.prog w = .ok (.enter g args) w) (w : World)
    (hr : Kd.C (Kd.int .i64) w A xs.length xs)
    (hp : ∀ (j : Nat) (x : Int), xs[j]? = some x → ∀ (W : World), Below w.heap.size w W → Calls Tryz.prog g (#[.int .i64 x] ++ lb) W fun e w' => e = .returned (.bool (p x)) ∧ Below W.heap.size W w') :
    Calls Tryz.prog 110 #[.slice A xs.length c, .func (.func g) #[] lb] w fun e w' => e = .returned (.int .i64 (idxFrom p 0 xs)) ∧ Below w.heap.size w w' := by
  obtain ⟨n, hn⟩ : ∃ n, n = xs.length := ⟨_, rfl⟩
  rw [← hn] at hr ⊢
  have hbig := hr.2.1
  have HN := Aside0.mk hn
  clear hn
  have HR := Aside0.mk hr
  clear hr
  go_enter Tryz.func110, Tryz.ntmps110
  go_wp2
  go_loopg [5, 8] n (fun gg _ s8 wr => ∃ kk : Nat, kk ≤ n ∧ n - kk ≤ gg ∧ s8 = .int .i64 kk ∧ Aside0 (Below w.heap.size w wr) ∧ Aside0 (∀ j y, j < kk → xs[j]? = some y → p y = false))
  case atStart => exact ⟨0, Nat.zero_le _, by omega, rfl, Aside0.mk (Below.refl _ w), Aside0.mk (fun j y hj => absurd hj (Nat.not_lt_zero _))⟩
  case round =>
    obtain ⟨kk, hkk, hg, rfl, BW, AS⟩ := hrel
    by_cases hlt : kk < n
    · have hltz : (kk : Int) < (n : Int) := by omega
      have HB := Kd.C_below HR.out BW.out
      obtain ⟨x, hx⟩ : ∃ x, xs[kk]? = some x := ⟨_, List.getElem?_eq_getElem (by have := HN.out; omega)⟩
      obtain ⟨ad, cs, hA, _, hK, hcell⟩ := Kd.C_get HB (0 : Int) (kk : Int) (by omega) (by omega)
      have hxe : xs.getD (kk : Int).toNat 0 = x := by
        rw [Int.toNat_natCast, List.getD_eq_getElem?_getD, hx]; rfl
      rw [hxe] at hK
      obtain rfl : cs = [.int .i64 x] := hK
      have h0 : wr.cell? (ad.add kk) = some (.int .i64 x) := by
        have := hcell 0 _ rfl
        rw [Int.toNat_natCast, show (Kd.int .i64).sz = 1 from rfl] at this
        simpa using this
      subst hA
      have hcall := hp kk x hx wr BW.out
      clear HB hxe hp hcell
      have HX := Aside0.mk hx
      clear hx
      cases hq : p x with
      | true =>
        rw [hq] at hcall
        go_wp2_with (go_at_fn g; refine hcall.mono ?_; rintro e w' ⟨rfl, hb'⟩)
        go_ret
        refine ⟨?_, below_step BW.out hb'⟩
        rw [idxFrom_at p xs 0 kk x HX.out hq AS.out, Nat.zero_add]
        rfl
      | false =>
        rw [hq] at hcall
        go_wp2_with (go_at_fn g; refine hcall.mono ?_; rintro e w' ⟨rfl, hb'⟩)
        go_roundg (n - (kk + 1))
        case measure => omega
        case rel =>
          refine ⟨kk + 1, by omega, by omega, by go_num, Aside0.mk (below_step BW.out hb'), Aside0.mk (fun j y hj hy => ?_)⟩
          by_cases e : j = kk
          · subst e
            obtain rfl := Option.some.inj (HX.out.symm.trans hy)
            exact hq
          · exact AS.out j y (by omega) hy
    · have hltz : ¬ (kk : Int) < (n : Int) := by omega
      have : kk = n := by omega
      subst this
      go_wp2
      go_ret
      refine ⟨?_, BW.out⟩
      rw [idxFrom_none p xs 0 (fun j y hy => AS.out j y (by have := (List.getElem?_eq_some_iff.1 hy).1; have := HN.out; omega) hy)]
      rfl
/-- slices.ContainsFunc over numbers. -/
theorem ContainsFunc_Int (A : Option Addr) (c : Nat) (xs : List Int) (p : Int → Bool) (g : Nat) (lb : Array Value) (eg : ∀ args w, (callFunc g args).run Tryz.prog w = .ok (.enter g args) w) (w : World)
    (hr : Kd.C (Kd.int .i64) w A xs.length xs)
    (hp : ∀ (j : Nat) (x : Int), xs[j]? = some x → ∀ (W : World), Below w.heap.size w W → Calls Tryz.prog g (#[.int .i64 x] ++ lb) W fun e w' => e = .returned (.bool (p x)) ∧ Below W.heap.size W w') :
    Calls Tryz.prog 75 #[.slice A xs.length c, .func (.func g) #[] lb] w fun e w' => e = .returned (.bool (xs.any p)) ∧ Below w.heap.size w w' := by
  have hcon := IndexFunc_Int A c xs p g lb eg w hr hp
  have hge : decide (idxFrom p 0 xs ≥ 0) = xs.any p := idxFrom_nonneg p xs 0
  generalize idxFrom p 0 xs = z at hcon hge
  rw [← hge]
  clear hge hr hp
  generalize xs.length = n at hcon ⊢
  go_enter Tryz.func75, Tryz.ntmps75
  go_wp2_with (go_at_call 110; refine hcon.mono ?_; rintro e w' ⟨rfl, hb'⟩)
  go_ret
  exact ⟨rfl, hb'⟩
set_option maxHeartbeats 2000000 in
/-- slices.IndexFunc over wants. -/
theorem IndexFunc_Want (A : Option Addr) (c : Nat) (xs : List S72) (p : S72 → Bool) (g : Nat) (lb : Array Value) (eg : ∀ args w, (callFunc g args).run Tryz.prog w = .ok (.enter g args) w) (w : World)
    (hr : Kd.C k72 w A xs.length xs)
    (hp : ∀ (j : Nat) (x : S72), xs[j]? = some x → ∀ (W : World), Below w.heap.size w W → ∀ cs, k72.K W x cs → Calls Tryz.prog g (#[.agg cs.toArray] ++ lb) W fun e w' => e = .returned (.bool (p x)) ∧ Below W.heap.size W w') :
    Calls Tryz.prog 113 #[.slice A xs.length c, .func (.func g) #[] lb] w fun e w' => e = .returned (.int .i64 (idxFrom p 0 xs)) ∧ Below w.heap.size w w' := by
  obtain ⟨n, hn⟩ : ∃ n, n = xs.length := ⟨_, rfl⟩
  rw [← hn] at hr ⊢
  have hbig := hr.2.1
  have HN := Aside0.mk hn
  clear hn
  have HR := Aside0.mk hr
  clear hr
  go_enter Tryz.func113, Tryz.ntmps113
  go_wp2
  go_loopg [5, 8] n (fun gg _ s8 wr => ∃ kk : Nat, kk ≤ n ∧ n - kk ≤ gg ∧ s8 = .int .i64 kk ∧ Aside0 (Below w.heap.size w wr) ∧ Aside0 (∀ j y, j < kk → xs[j]? = some y → p y = false))
  case atStart => exact ⟨0, Nat.zero_le _, by omega, rfl, Aside0.mk (Below.refl _ w), Aside0.mk (fun j y hj => absurd hj (Nat.not_lt_zero _))⟩
  case round =>
    obtain ⟨kk, hkk, hg, rfl, BW, AS⟩ := hrel
    by_cases hlt : kk < n
    · have hltz : (kk : Int) < (n : Int) := by omega
      have HB := Kd.C_below HR.out BW.out
      obtain ⟨x, hx⟩ : ∃ x, xs[kk]? = some x := ⟨_, List.getElem?_eq_getElem (by have := HN.out; omega)⟩
      have hxe : rd_T72 xs (kk : Int) = x := by
        unfold rd_T72
        rw [Int.toNat_natCast, List.getD_eq_getElem?_getD, hx]; rfl
      obtain ⟨ad, hA, h0, h1⟩ := at_T72 HB (kk : Int) (by omega) (by omega)
      rw [hxe] at h0 h1
      subst hA
      have hcall := hp kk x hx wr BW.out _ (k72_mk wr x)
      clear HB hxe hp
      have HX := Aside0.mk hx
      clear hx
      rw [Int.toNat_natCast] at h0 h1
      cases hq : p x with
      | true =>
        rw [hq] at hcall
        go_wp2_with (go_at_fn g; refine hcall.mono ?_; rintro e w' ⟨rfl, hb'⟩)
        go_ret
        refine ⟨?_, below_step BW.out hb'⟩
        rw [idxFrom_at p xs 0 kk x HX.out hq AS.out, Nat.zero_add]
        rfl
      | false =>
        rw [hq] at hcall
        go_wp2_with (go_at_fn g; refine hcall.mono ?_; rintro e w' ⟨rfl, hb'⟩)
        go_roundg (n - (kk + 1))
        case measure => omega
        case rel =>
          refine ⟨kk + 1, by omega, by omega, by go_num, Aside0.mk (below_step BW.out hb'), Aside0.mk (fun j y hj hy => ?_)⟩
          by_cases e : j = kk
          · subst e
            obtain rfl := Option.some.inj (HX.out.symm.trans hy)
            exact hq
          · exact AS.out j y (by omega) hy
    · have hltz : ¬ (kk : Int) < (n : Int) := by omega
      have : kk = n := by omega
      subst this
      go_wp2
      go_ret
      refine ⟨?_, BW.out⟩
      rw [idxFrom_none p xs 0 (fun j y hy => AS.out j y (by have := (List.getElem?_eq_some_iff.1 hy).1; have := HN.out; omega) hy)]
      rfl
/-- slices.ContainsFunc over wants. -/
theorem ContainsFunc_Want (A : Option Addr) (c : Nat) (xs : List S72) (p : S72 → Bool) (g : Nat) (lb : Array Value) (eg : ∀ args w, (callFunc g args).run Tryz.prog w = .ok (.enter g args) w) (w : World)
    (hr : Kd.C k72 w A xs.length xs)
    (hp : ∀ (j : Nat) (x : S72), xs[j]? = some x → ∀ (W : World), Below w.heap.size w W → ∀ cs, k72.K W x cs → Calls Tryz.prog g (#[.agg cs.toArray] ++ lb) W fun e w' => e = .returned (.bool (p x)) ∧ Below W.heap.size W w') :
    Calls Tryz.prog 78 #[.slice A xs.length c, .func (.func g) #[] lb] w fun e w' => e = .returned (.bool (xs.any p)) ∧ Below w.heap.size w w' := by
  have hcon := IndexFunc_Want A c xs p g lb eg w hr hp
  have hge : decide (idxFrom p 0 xs ≥ 0) = xs.any p := idxFrom_nonneg p xs 0
  generalize idxFrom p 0 xs = z at hcon hge
  rw [← hge]
  clear hge hr hp
  generalize xs.length = n at hcon ⊢
  go_enter Tryz.func78, Tryz.ntmps78
  go_wp2_with (go_at_call 113; refine hcon.mono ?_; rintro e w' ⟨rfl, hb'⟩)
  go_ret
  exact ⟨rfl, hb'⟩
set_option maxHeartbeats 2000000 in
/-- slices.IndexFunc over releases. -/
theorem IndexFunc_Rel (A : Option Addr) (c : Nat) (xs : List S30) (p : S30 → Bool) (g : Nat) (lb : Array Value) (eg : ∀ args w, (callFunc g args).run Tryz.prog w = .ok (.enter g args) w) (w : World)
    (hr : Kd.C k30 w A xs.length xs)
    (hp : ∀ (j : Nat) (x : S30), xs[j]? = some x → ∀ (W : World), Below w.heap.size w W → ∀ cs, k30.K W x cs → Calls Tryz.prog g (#[.agg cs.toArray] ++ lb) W fun e w' => e = .returned (.bool (p x)) ∧ Below W.heap.size W w') :
    Calls Tryz.prog 49 #[.slice A xs.length c, .func (.func g) #[] lb] w fun e w' => e = .returned (.int .i64 (idxFrom p 0 xs)) ∧ Below w.heap.size w w' := by
  obtain ⟨n, hn⟩ : ∃ n, n = xs.length := ⟨_, rfl⟩
  rw [← hn] at hr ⊢
  have hbig := hr.2.1
  have HN := Aside0.mk hn
  clear hn
  have HR := Aside0.mk hr
  clear hr
  go_enter Tryz.func49, Tryz.ntmps49
  go_wp2
  go_loopg [5, 8] n (fun gg _ s8 wr => ∃ kk : Nat, kk ≤ n ∧ n - kk ≤ gg ∧ s8 = .int .i64 kk ∧ Aside0 (Below w.heap.size w wr) ∧ Aside0 (∀ j y, j < kk → xs[j]? = some y → p y = false))
  case atStart => exact ⟨0, Nat.zero_le _, by omega, rfl, Aside0.mk (Below.refl _ w), Aside0.mk (fun j y hj => absurd hj (Nat.not_lt_zero _))⟩
  case round =>
    obtain ⟨kk, hkk, hg, rfl, BW, AS⟩ := hrel
    by_cases hlt : kk < n
    · have hltz : (kk : Int) < (n : Int) := by omega
      have HB := Kd.C_below HR.out BW.out
      obtain ⟨x, hx⟩ : ∃ x, xs[kk]? = some x := ⟨_, List.getElem?_eq_getElem (by have := HN.out; omega)⟩
      have hxe : rd_T30 xs (kk : Int) = x := by
        unfold rd_T30
        rw [Int.toNat_natCast, List.getD_eq_getElem?_getD, hx]; rfl
      obtain ⟨ad, hA, h0, h1, h2, h3, h4, h5, h6, h7, h8, h9, h10, h11, h12⟩ := at_T30 HB (kk : Int) (by omega) (by omega)
      rw [hxe] at h0 h1 h2 h3 h4 h5 h6 h7 h8 h9 h10 h11 h12
      subst hA
      have hcall := hp kk x hx wr BW.out _ (k30_mk wr x)
      clear HB hxe hp
      have HX := Aside0.mk hx
      clear hx
      rw [Int.toNat_natCast] at h0 h1 h2 h3 h4 h5 h6 h7 h8 h9 h10 h11 h12
      cases hq : p x with
      | true =>
        rw [hq] at hcall
        go_wp2_with (go_at_fn g; refine hcall.mono ?_; rintro e w' ⟨rfl, hb'⟩)
        go_ret
        refine ⟨?_, below_step BW.out hb'⟩
        rw [idxFrom_at p xs 0 kk x HX.out hq AS.out, Nat.zero_add]
        rfl
      | false =>
        rw [hq] at hcall
        go_wp2_with (go_at_fn g; refine hcall.mono ?_; rintro e w' ⟨rfl, hb'⟩)
        go_roundg (n - (kk + 1))
        case measure => omega
        case rel =>
          refine ⟨kk + 1, by omega, by omega, by go_num, Aside0.mk (below_step BW.out hb'), Aside0.mk (fun j y hj hy => ?_)⟩
          by_cases e : j = kk
          · subst e
            obtain rfl := Option.some.inj (HX.out.symm.trans hy)
            exact hq
          · exact AS.out j y (by omega) hy
    · have hltz : ¬ (kk : Int) < (n : Int) := by omega
      have : kk = n := by omega
      subst this
      go_wp2
      go_ret
      refine ⟨?_, BW.out⟩
      rw [idxFrom_none p xs 0 (fun j y hy => AS.out j y (by have := (List.getElem?_eq_some_iff.1 hy).1; have := HN.out; omega) hy)]
      rfl
end Go.Proofs.YtillhaipemengaaGreatDoor
end
