/- The texts R2x, Pl3, MvTy, MvCont, R3x0 in one file, without what these claims do not use (put together by prune2.py). -/
import Derived.Test.YtkidfclnakbgiaaGreatDoorZT17
import Derived.Test.YtkidfclnakbgiaaGreatDoorZT18
import Derived.Test.YtkidfclnakbgiaaGreatDoorZT15
import Derived.Shelf.Strings.LastIndexAll
import Derived.Test.YtkidfclnakbgiaaGreatDoorZT5
import Derived.Test.YtkidfclnakbgiaaGreatDoorZT16
import Derived.Test.YtkidfclnakbgiaaGreatDoorZT8
import Derived.Test.YtkidfclnakbgiaaGreatDoorZT9
import Derived.Test.YtkidfclnakbgiaaGreatDoorZT11
import Derived.Test.YtkidfclnakbgiaaGreatDoorZT14
section
namespace Go.Proofs.YtkidfclnakbgiaaGreatDoor.R2
open Go.RowKit Go.Proofs.YtkidfclnakbgiaaGreatDoor Go.Proofs.YtkidfclnakbgiaaGreatDoor.K0 Go.Proofs.YtkidfclnakbgiaaGreatDoor.R1 Go.Proofs.YtkidfclnakbgiaaGreatDoorW.PrintWords Go.Proofs.YtkidfclnakbgiaaGreatDoorW.PrintLast Go.Proofs.YtkidfclnakbgiaaGreatDoorW.PrintMore
attribute [local go_sem] max2_int min2_int max_two min_two max_three min_three max_four min_four
set_option linter.unusedVariables false
set_option linter.unusedSimpArgs false
end Go.Proofs.YtkidfclnakbgiaaGreatDoor.R2
end

section
namespace Go.Proofs.YtkidfclnakbgiaaGreatDoor
open Go Go.RowKit Go.Proofs.YtkidfclnakbgiaaGreatDoorW.PrintWords Go.Proofs.YtkidfclnakbgiaaGreatDoor.K0 Go.Proofs.YtkidfclnakbgiaaGreatDoor.R1 Go.Proofs.YtkidfclnakbgiaaGreatDoor.R2
set_option linter.unusedVariables false
set_option linter.unusedSimpArgs false
theorem head_bt {s : ByteArray} (h : 0 < s.size) : ∃ b : UInt8, bt s 0 = (b.toNat : Int) ∧ s.data.toList.head? = some b := by
  obtain ⟨b, hb, hd⟩ := scan (s := s) (n := 0) h
  rw [List.drop_zero] at hd
  exact ⟨b, hb, by rw [hd]; rfl⟩
theorem byte_eq (b : UInt8) (n : Nat) (hn : n < 256) : ((b.toNat : Int) == (n : Int)) = (some b == some (UInt8.ofNat n)) := by
  rw [Bool.eq_iff_iff]
  simp
  constructor
  · intro h
    apply UInt8.toNat_inj.1
    rw [UInt8.toNat_ofNat', Nat.mod_eq_of_lt hn]; omega
  · rintro rfl
    rw [UInt8.toNat_ofNat', Nat.mod_eq_of_lt hn]
/-- What P8.1 asks of the parts. -/
def lastOk (l : List ByteArray) : Bool := !tellsOk (l.getLastD ByteArray.empty).data.toList || (!decide (numOf (l.getLastD ByteArray.empty).data.toList = 0) && decide (1 < l.length))
def partsOk (l : List ByteArray) : Bool := (l.dropLast.all fun x => !tellsOk x.data.toList) && lastOk l
def checkOk (s : ByteArray) : Bool := pathOk s && partsOk (splitBy 47 s)
theorem numOf_nonneg (l : List UInt8) : 0 ≤ numOf l := by
  unfold numOf; split <;> first | omega | (split <;> first | omega | (split <;> omega))
theorem major_f (x : ByteArray) (hs : x.size ≤ 281474976710656) : mpath_major.f x = some (if tellsOk x.data.toList = true then (numOf x.data.toList, true) else (0, false)) := by
  unfold mpath_major.f; rw [if_pos hs, majorOf_eq]
theorem mpath_Check_l0 (l : List ByteArray) (y : ByteArray) (hy : y.size ≤ 4294967290) (hl : l.length ≤ 4294967290) (hx : ∀ x ∈ l, x.size ≤ 4294967290) : ∀ (d n k : Nat), l.length - n = d → n ≤ l.length → d < k →
    mpath_Check.l0 k l y l (l.length : Int) (n : Int) = some (((l.drop n).all fun x => !tellsOk x.data.toList) && (!tellsOk y.data.toList || (!decide (numOf y.data.toList = 0) && decide (0 < l.length)))) := by
  intro d
  induction d with
  | zero =>
    intro n k hd hn hk
    obtain ⟨k, rfl⟩ : ∃ m, k = m + 1 := ⟨k - 1, by omega⟩
    simp only [mpath_Check.l0]
    rw [if_neg (by omega), major_f y (by omega), List.drop_eq_nil_of_le (show l.length ≤ n by omega)]
    have h0 := numOf_nonneg y.data.toList
    cases tellsOk y.data.toList
    · simp
    · by_cases hz : numOf y.data.toList = 0
      · simp [hz]
      · simp [hz]; omega
  | succ d ih =>
    intro n k hd hn hk
    obtain ⟨k, rfl⟩ : ∃ m, k = m + 1 := ⟨k - 1, by omega⟩
    obtain ⟨x, h1, h2, h3⟩ := rd_at (l := l) (n := n) (by omega)
    have hm : x ∈ l := List.mem_of_getElem? h3
    have hxs := hx x hm
    simp only [mpath_Check.l0]
    rw [if_pos (by omega), if_pos (by omega), if_pos (by omega), h1, major_f x (by omega), wrap_succ (by omega), ih (n + 1) k (by omega) (by omega) (by omega), h2]
    simp only [Option.bind_some, List.all_cons]
    cases tellsOk x.data.toList <;> simp
theorem parts_eq {l : List ByteArray} (h : 0 < l.length) : partsOk l = ((l.dropLast.all fun x => !tellsOk x.data.toList) && (!tellsOk (l.getLastD ByteArray.empty).data.toList || (!decide (numOf (l.getLastD ByteArray.empty).data.toList = 0) && decide (0 < l.dropLast.length)))) := by
  unfold partsOk lastOk
  rw [List.length_dropLast, show decide (0 < l.length - 1) = decide (1 < l.length) from by congr 1; apply propext; omega]
theorem split_pos (c : UInt8) (s : ByteArray) : 0 < (splitBy c s).length := by
  unfold splitBy; rw [List.length_map]; exact List.length_pos_iff.2 (splitC_ne c _)
theorem last_mem {l : List ByteArray} (h : 0 < l.length) : l.getLastD ByteArray.empty ∈ l := by
  rw [List.getLastD_eq_getLast?, List.getLast?_eq_some_getLast (List.length_pos_iff.1 h)]
  exact List.getLast_mem _
theorem path_size {s : ByteArray} (h : pathOk s = true) : s.size ≤ 60 := by
  unfold pathOk at h; simp at h; exact h.1
theorem mpath_Check_f (s : ByteArray) (k : Nat) (hk : 100 < k) : mpath_Check.f k s = some (checkOk s) := by
  unfold mpath_Check.f checkOk
  rw [files_Path_f s k (by omega)]
  simp only [Option.bind_some]
  by_cases hp : pathOk s = true
  · have hs := path_size hp
    have hl := split_len 47 s
    have hpos := split_pos 47 s
    rw [hp, if_pos rfl]
    unfold mpath_split.f
    rw [if_pos (by omega)]
    simp only [Option.bind_some, Bool.true_and]
    have hd : (splitBy 47 s).dropLast.length ≤ 61 := by rw [List.length_dropLast]; omega
    have hb : ∀ x ∈ splitBy 47 s, x.size ≤ 60 := fun x hx => by have := split_size hx; omega
    rw [show (0 : Int) = ((0 : Nat) : Int) from rfl, mpath_Check_l0 _ _ (by have := hb _ (last_mem hpos); omega) (by omega) (fun x hx => by have := hb x (List.dropLast_subset _ hx); omega) _ 0 k rfl (by omega) (by omega), parts_eq hpos]
    rfl
  · have hp' : pathOk s = false := by simpa using hp
    rw [hp', if_neg (by simp)]; rfl
def cutAt (s : ByteArray) (i : Int) : ByteArray := if i < 0 then ⟨#[]⟩ else s.extract 0 i.toNat
def baseOf (s : ByteArray) : ByteArray := cutAt s (Lib.lastIdx s 47 s.size)
theorem lastIdx_le (s : ByteArray) (c : Int) : ∀ n, Lib.lastIdx s c n < (n : Int)
  | 0 => by unfold Lib.lastIdx; omega
  | n + 1 => by
    have := lastIdx_le s c n
    unfold Lib.lastIdx; split <;> omega
theorem mpath_Base_f (s : ByteArray) (hs : s.size ≤ 4294967290) : mpath_Base.f s = some (baseOf s) := by
  have e : Lib.lastIndexByte s 47 = Lib.lastIndex s.data.toList [47] := LastIndex.one s ⟨#[47]⟩ rfl
  have hle := lastIdx_le s 47 s.size
  unfold mpath_Base.f strings_LastIndex.f baseOf cutAt
  rw [if_pos (by omega)]
  simp only [Option.bind_some]
  rw [← e]
  unfold Lib.lastIndexByte
  generalize Lib.lastIdx s 47 s.size = i at hle
  by_cases h : i < 0
  · rw [if_pos h, if_pos h]
  · rw [if_neg h, if_neg h, if_pos (by omega), if_pos (by omega)]
/-- mpath.Major. -/
def lastPart (s : ByteArray) : ByteArray := (splitBy 47 s).getLastD ByteArray.empty
def majorsOf (s : ByteArray) : ByteArray × Int × Bool :=
  if checkOk s = true then (if tellsOk (lastPart s).data.toList = true then (baseOf s, numOf (lastPart s).data.toList, true) else (s, 0, true)) else (⟨#[]⟩, 0, false)
theorem check_size {s : ByteArray} (h : checkOk s = true) : s.size ≤ 60 := by
  unfold checkOk at h; simp at h; exact path_size h.1
theorem last_size (s : ByteArray) : (lastPart s).size ≤ s.size := split_size (last_mem (split_pos 47 s))
theorem mpath_Major_f (s : ByteArray) (k : Nat) (hk : 100 < k) : mpath_Major.f k s = some (majorsOf s) := by
  unfold mpath_Major.f majorsOf
  rw [mpath_Check_f s k hk]
  simp only [Option.bind_some]
  by_cases hc : checkOk s = true
  · have hs := check_size hc
    have hL := last_size s
    rw [if_pos hc, if_pos hc]
    unfold mpath_split.f
    rw [if_pos (by omega)]
    simp only [Option.bind_some]
    rw [show (splitBy 47 s).getLastD ByteArray.empty = lastPart s from rfl, major_f _ (by omega)]
    simp only [Option.bind_some]
    by_cases ht : tellsOk (lastPart s).data.toList = true
    · rw [if_pos ht, if_pos ht, if_pos rfl, mpath_Base_f s (by omega)]; rfl
    · rw [if_neg ht, if_neg ht, if_neg (by simp)]
  · rw [if_neg hc, if_neg hc]
/-- mpath.Fits. -/
def fitsOk (s : ByteArray) (a b c : Int) (p q : ByteArray) : Bool :=
  if (majorsOf s).2.2 = true then (if verOk a b c p q = true then (if (majorsOf s).2.1 = 0 then decide (a < 2) else (a == (majorsOf s).2.1)) else false) else false
theorem mpath_Fits_f (s : ByteArray) (a b c : Int) (p q : ByteArray) (k : Nat) (hk : 100 < k) : mpath_Fits.f k s a b c p q = some (fitsOk s a b c p q) := by
  obtain ⟨k, rfl⟩ : ∃ m, k = m + 1 := ⟨k - 1, by omega⟩
  unfold mpath_Fits.f fitsOk
  rw [mpath_Major_f s (k + 1) hk, ver_Check_f a b c p q (k + 1) (by omega)]
  simp only [Option.bind_some]
  generalize majorsOf s = M
  obtain ⟨m1, m2, m3⟩ := M
  cases m3
  · rfl
  · simp only [mpath_Fits.j0]
    cases verOk a b c p q
    · rfl
    · by_cases h : m2 = 0 <;> simp [h]
end Go.Proofs.YtkidfclnakbgiaaGreatDoor
end

section
namespace Go.Proofs.YtkidfclnakbgiaaGreatDoor
open Go Go.RowKit Go.Proofs.YtkidfclnakbgiaaGreatDoorW.PrintWords Go.Proofs.YtkidfclnakbgiaaGreatDoor.K0 Go.Proofs.YtkidfclnakbgiaaGreatDoor.R1 Go.Proofs.YtkidfclnakbgiaaGreatDoor.R2
set_option linter.unusedVariables false
set_option linter.unusedSimpArgs false
abbrev Rq := S27
abbrev Nd := S48
abbrev NdR := S46
instance : DecidableEq Rq := fun a b => decidable_of_iff (a.f0 = b.f0 ∧ a.f1.f0 = b.f1.f0 ∧ a.f1.f1 = b.f1.f1 ∧ a.f1.f2 = b.f1.f2 ∧ a.f1.f3 = b.f1.f3 ∧ a.f1.f4 = b.f1.f4) (by
  obtain ⟨a0, ⟨a1, a2, a3, a4, a5⟩⟩ := a
  obtain ⟨b0, ⟨b1, b2, b3, b4, b5⟩⟩ := b
  simp)
def mv : Mv Rq where
  path r := r.f0.data.toList
  may r := fitsOk r.f0 r.f1.f0 r.f1.f1 r.f1.f2 r.f1.f3 r.f1.f4
  cmp x y := verCmp x.f1.f0 x.f1.f1 x.f1.f2 x.f1.f3 x.f1.f4 y.f1.f0 y.f1.f1 y.f1.f2 y.f1.f3 y.f1.f4
theorem fits_ver {s : ByteArray} {a b c : Int} {p q : ByteArray} (h : fitsOk s a b c p q = true) : verOk a b c p q = true := by
  unfold fitsOk at h
  split at h
  · split at h
    · assumption
    · cases h
  · cases h
theorem mv_good : mv.Good where
  anti x y := verCmp_anti _ _ _ _ _ _ _ _ _ _
  trans x y z hx hy hz h1 h2 := verCmp_trans _ _ _ _ _ _ _ _ _ _ _ _ _ _ _ (fits_ver hx) (fits_ver hy) (fits_ver hz) h1 h2
theorem path_eq {x y : Rq} : mv.path x = mv.path y ↔ x.f0 = y.f0 := ⟨fun h => by_data h, fun h => by show x.f0.data.toList = _; rw [h]; rfl⟩
/-- A node as the plain laws read it. -/
def ndP (n : Nd) : Rq × List Rq := (n.f0, n.f1)
def ndR (n : NdR) : Rq × List Rq := (n.f0, n.f1)
end Go.Proofs.YtkidfclnakbgiaaGreatDoor
end

section
namespace Go.Proofs.YtkidfclnakbgiaaGreatDoor
open Go Go.RowKit Go.Sort Go.Proofs Go.Proofs.YtkidfclnakbgiaaGreatDoorW.PrintWords Go.Proofs.YtkidfclnakbgiaaGreatDoorW.PrintLast Go.Proofs.YtkidfclnakbgiaaGreatDoor.K0
set_option linter.unusedVariables false
set_option linter.unusedSimpArgs false
theorem rq_run (z x : Rq) (w' : World) : (if z.f0.toList = x.f0.toList then (if z.f1.f0 = x.f1.f0 then (if z.f1.f1 = x.f1.f1 then (if z.f1.f2 = x.f1.f2 then (if z.f1.f3.toList = x.f1.f3.toList then (if z.f1.f4.toList = x.f1.f4.toList then Result.ok (Next.value (Value.bool true)) w' else Result.ok (Next.value (Value.bool false)) w') else Result.ok (Next.value (Value.bool false)) w') else Result.ok (Next.value (Value.bool false)) w') else Result.ok (Next.value (Value.bool false)) w') else Result.ok (Next.value (Value.bool false)) w') else Result.ok (Next.value (Value.bool false)) w') = Result.ok (Next.value (Value.bool (decide (z = x)))) w' := by
  by_cases e : z = x
  · subst e
    simp
  · rw [decide_eq_false e]
    repeat (split; rotate_left; rfl)
    rename_i h0 h1 h2 h3 h4 h5
    refine absurd ?_ e
    have tl : ∀ {a b : ByteArray}, a.toList = b.toList → a = b := fun h => by_data (by rwa [ByteArray.toList_eq, ByteArray.toList_eq] at h)
    obtain ⟨z0, ⟨z1, z2, z3, z4, z5⟩⟩ := z
    obtain ⟨x0, ⟨x1, x2, x3, x4, x5⟩⟩ := x
    obtain rfl := tl h0
    obtain rfl : z1 = x1 := h1
    obtain rfl : z2 = x2 := h2
    obtain rfl : z3 = x3 := h3
    obtain rfl := tl h4
    obtain rfl := tl h5
    rfl
def index.T4 : Bool × List (List Nat × List Nat) := (true, [([], []), ([], []), ([], []), ([1, 2], [1, 2]), ([3], [3]), ([0, 4], [0, 4])])
def index.B4 : List Nat := [0, 0, 0, 6, 14, 31]
theorem index.tab4 : rtab .any (opsOf Tryz.f73 4) = index.T4 := by kernel_rfl
theorem index.bits4 : waitsOk index.T4.2 index.B4 = true := by kernel_rfl
set_option maxRecDepth 100000 in
set_option maxHeartbeats 2000000 in
theorem Index_Req (A : Option Addr) (c : Nat) (xs : List Rq) (z : Rq) (w : World) (hr : Kd.C k27 w A xs.length xs) :
    Calls Tryz.prog 73 #[.slice A xs.length c, .agg #[.string z.f0, .int .i64 z.f1.f0, .int .i64 z.f1.f1, .int .i64 z.f1.f2, .string z.f1.f3, .string z.f1.f4]] w fun e w' => e = .returned (.int .i64 (idxFrom (fun y => decide (z = y)) 0 xs)) ∧ Below w.heap.size w w' := by
  obtain ⟨n, hn⟩ : ∃ n, n = xs.length := ⟨_, rfl⟩
  rw [← hn] at hr ⊢
  have hbig := hr.2.1
  have HN := Aside0.mk hn
  clear hn
  have HR := Aside0.mk hr
  clear hr
  go_enter Tryz.func73, Tryz.ntmps73
  go_wp2
  go_loopg [5, 8] n (fun gg _ s8 wr => ∃ kk : Nat, kk ≤ n ∧ n - kk ≤ gg ∧ s8 = .int .i64 kk ∧ Aside0 (wr.heap[w.heap.size]? = some (.cells #[.string z.f0, .int .i64 z.f1.f0, .int .i64 z.f1.f1, .int .i64 z.f1.f2, .string z.f1.f3, .string z.f1.f4] 27 (0, 0))) ∧ Aside0 (Below w.heap.size w wr) ∧ Aside0 (∀ (j : Nat) (y : Rq), j < kk → xs[j]? = some y → decide (z = y) = false))
  case atStart => exact ⟨0, Nat.zero_le _, by omega, rfl, Aside0.mk (heap_alloc_new w _), Aside0.mk (below_alloc (Below.refl _ w) _), Aside0.mk (fun j y hj => absurd hj (Nat.not_lt_zero _))⟩
  case round =>
    obtain ⟨kk, hkk, hg, rfl, HB, BW, AS⟩ := hrel
    by_cases hlt : kk < n
    · have hltz : (kk : Int) < (n : Int) := by omega
      have HC := Kd.C_below HR.out BW.out
      obtain ⟨x, hx⟩ : ∃ x, xs[kk]? = some x := ⟨_, List.getElem?_eq_getElem (by have := HN.out; omega)⟩
      have hxe : rd_T27 xs (kk : Int) = x := by
        unfold rd_T27
        rw [Int.toNat_natCast, List.getD_eq_getElem?_getD, hx]; rfl
      obtain ⟨ad, hA, h0, h1, h2, h3, h4, h5⟩ := at_T27 HC (kk : Int) (by omega) (by omega)
      rw [hxe] at h0 h1 h2 h3 h4 h5
      subst hA
      clear HC hxe
      have HX := Aside0.mk hx
      clear hx
      rw [Int.toNat_natCast] at h0 h1 h2 h3 h4 h5
      go_wp2
      refine sX (ds := []) (S := fun w' => (w'.cell? ⟨w.heap.size, 0, none⟩ = some (.string z.f0) ∧ w'.cell? ⟨w.heap.size, 1, none⟩ = some (.int .i64 z.f1.f0) ∧ w'.cell? ⟨w.heap.size, 2, none⟩ = some (.int .i64 z.f1.f1) ∧ w'.cell? ⟨w.heap.size, 3, none⟩ = some (.int .i64 z.f1.f2) ∧ w'.cell? ⟨w.heap.size, 4, none⟩ = some (.string z.f1.f3) ∧ w'.cell? ⟨w.heap.size, 5, none⟩ = some (.string z.f1.f4)) ∧ w'.cell? (ad.add (kk * 6)) = some (.string x.f0) ∧ w'.cell? ⟨(ad.add (kk * 6)).block, (ad.add (kk * 6)).off + 1, none⟩ = some (.int .i64 x.f1.f0) ∧ w'.cell? ⟨(ad.add (kk * 6)).block, (ad.add (kk * 6)).off + 2, none⟩ = some (.int .i64 x.f1.f1) ∧ w'.cell? ⟨(ad.add (kk * 6)).block, (ad.add (kk * 6)).off + 3, none⟩ = some (.int .i64 x.f1.f2) ∧ w'.cell? ⟨(ad.add (kk * 6)).block, (ad.add (kk * 6)).off + 4, none⟩ = some (.string x.f1.f3) ∧ w'.cell? ⟨(ad.add (kk * 6)).block, (ad.add (kk * 6)).off + 5, none⟩ = some (.string x.f1.f4)) index.tab4 index.bits4 ⟨⟨(blk_cell HB.out 0).trans rfl, (blk_cell HB.out 1).trans rfl, (blk_cell HB.out 2).trans rfl, (blk_cell HB.out 3).trans rfl, (blk_cell HB.out 4).trans rfl, (blk_cell HB.out 5).trans rfl⟩, h0, h1, h2, h3, h4, h5⟩ (fun HT_ HW_ hHeld => ?_)
      clear h0 h1 h2 h3 h4 h5
      refine pX HT_ 1 2 12 ?_
      refine pX HT_ 2 6 13 ?_
      refine pX HT_ 3 14 14 ?_
      refine tX HT_ HW_ hHeld 0 15 11 ?_
      refine tX HT_ HW_ hHeld 4 31 15 ?_
      refine pX (v := .bool (decide (z = x))) HT_ 5 63 16 ?_ (hy := fun w' => by go_simp; exact rq_run z x w')
      refine eX HT_ ?_
      clear HT_ HW_ hHeld
      have BD := Aside0.mk (below_drew1 BW.out)
      have HBD := Aside0.mk (blk_drew HB.out)
      generalize wr.drew = w1 at BD HBD ⊢
      clear HB BW
      cases hq : decide (z = x) with
      | true =>
        go_wp2
        go_ret
        refine ⟨?_, BD.out⟩
        rw [idxFrom_at (fun y => decide (z = y)) xs 0 kk x HX.out hq AS.out, Nat.zero_add]
        rfl
      | false =>
        go_wp2
        go_roundg (n - (kk + 1))
        case measure => omega
        case rel =>
          refine ⟨kk + 1, by omega, by omega, by go_num, HBD, BD, Aside0.mk (fun j y hj hy => ?_)⟩
          by_cases e : j = kk
          · subst e
            obtain rfl := Option.some.inj (HX.out.symm.trans hy)
            exact hq
          · exact AS.out j y (by omega) hy
    · have hltz : ¬ (kk : Int) < (n : Int) := by omega
      have : kk = n := by omega
      subst this
      go_wp2
      go_ret
      refine ⟨?_, BW.out⟩
      rw [idxFrom_none (fun y => decide (z = y)) xs 0 (fun j y hy => AS.out j y (by have := (List.getElem?_eq_some_iff.1 hy).1; have := HN.out; omega) hy)]
      rfl
theorem Contains_Req (A : Option Addr) (c : Nat) (xs : List Rq) (z : Rq) (w : World) (hr : Kd.C k27 w A xs.length xs) :
    Calls Tryz.prog 54 #[.slice A xs.length c, .agg #[.string z.f0, .int .i64 z.f1.f0, .int .i64 z.f1.f1, .int .i64 z.f1.f2, .string z.f1.f3, .string z.f1.f4]] w fun e w' => e = .returned (.bool (decide (z ∈ xs))) ∧ Below w.heap.size w w' := by
  have hcon := Index_Req A c xs z (w.alloc (.cells #[.string z.f0, .int .i64 z.f1.f0, .int .i64 z.f1.f1, .int .i64 z.f1.f2, .string z.f1.f3, .string z.f1.f4] 27)) (Kd.C_alloc hr _)
  have hge : decide (idxFrom (fun y => decide (z = y)) 0 xs ≥ 0) = decide (z ∈ xs) := by
    rw [idxFrom_nonneg, Bool.eq_iff_iff]
    simp
  generalize idxFrom (fun y => decide (z = y)) 0 xs = q at hcon hge
  rw [← hge]
  clear hge hr
  generalize xs.length = n at hcon ⊢
  go_enter Tryz.func54, Tryz.ntmps54
  go_wp2_with (go_at_call 73; refine hcon.mono ?_; rintro e w' ⟨rfl, hb'⟩)
  go_ret
  exact ⟨rfl, below_step (below_alloc (Below.refl _ _) _) hb'⟩
end Go.Proofs.YtkidfclnakbgiaaGreatDoor
end

section
namespace Go.Proofs.YtkidfclnakbgiaaGreatDoor.R3
open Go.RowKit Go.Proofs.YtkidfclnakbgiaaGreatDoor Go.Proofs.YtkidfclnakbgiaaGreatDoor.K0 Go.Proofs.YtkidfclnakbgiaaGreatDoor.R1 Go.Proofs.YtkidfclnakbgiaaGreatDoorW.PrintWords Go.Proofs.YtkidfclnakbgiaaGreatDoorW.PrintLast Go.Proofs.YtkidfclnakbgiaaGreatDoorW.PrintMore
attribute [local go_sem] max2_int min2_int max_two min_two max_three min_three max_four min_four
set_option linter.unusedVariables false
set_option linter.unusedSimpArgs false
end Go.Proofs.YtkidfclnakbgiaaGreatDoor.R3
end
