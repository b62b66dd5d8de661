/- The texts Pl3, MnPl, MnLex in one file, without what these claims do not use (put together by prune2.py). -/
import Derived.Test.YtmbpefnhkimplaaGreatDoorZE11
import Derived.Test.YtmbpefnhkimplaaGreatDoorZE12
import Derived.Test.YtmbpefnhkimplaaGreatDoorZE13
import Derived.Shelf.Strings.LastIndexAll
import Derived.Test.YtmbpefnhkimplaaGreatDoorZE5
import Derived.Test.YtmbpefnhkimplaaGreatDoorZE7
section
namespace Go.Proofs.YtmbpefnhkimplaaGreatDoor
open Go Go.RowKit Go.Proofs.YtmbpefnhkimplaaGreatDoorW.PrintWords Go.Proofs.YtmbpefnhkimplaaGreatDoor.K0 Go.Proofs.YtmbpefnhkimplaaGreatDoor.R1 Go.Proofs.YtmbpefnhkimplaaGreatDoor.R2
set_option linter.unusedVariables false
set_option linter.unusedSimpArgs false
/-- What P8.1 asks of the parts. -/
def lastOk (l : List ByteArray) : Bool := !tellsOk (l.getLastD ByteArray.empty).data.toList || (!decide (numOf (l.getLastD ByteArray.empty).data.toList = 0) && decide (1 < l.length))
def partsOk (l : List ByteArray) : Bool := (l.dropLast.all fun x => !tellsOk x.data.toList) && lastOk l
def checkOk (s : ByteArray) : Bool := pathOk s && partsOk (splitBy 47 s)
theorem numOf_nonneg (l : List UInt8) : 0 ≤ numOf l := by
  unfold numOf; split <;> first | omega | (split <;> first | omega | (split <;> omega))
theorem major_f (x : ByteArray) (hs : x.size ≤ 281474976710656) : mpath_major.f x = some (if tellsOk x.data.toList = true then (numOf x.data.toList, true) else (0, false)) := by
  unfold mpath_major.f; rw [if_pos hs, majorOf_eq]
theorem mpath_Check_l0 (l : List ByteArray) (y : ByteArray) (hy : y.size ≤ 4294967290) (hl : l.length ≤ 4294967290) (hx : ∀ x ∈ l, x.size ≤ 4294967290) : ∀ (d n k : Nat), l.length - n = d → n ≤ l.length → d < k →
    mpath_Check.l0 k l y l (l.length : Int) (n : Int) = some (((l.drop n).all fun x => !tellsOk x.data.toList) && (!tellsOk y.data.toList || (!decide (numOf y.data.toList = 0) && decide (0 < l.length)))) := by
  intro d
  induction d with
  | zero =>
    intro n k hd hn hk
    obtain ⟨k, rfl⟩ : ∃ m, k = m + 1 := ⟨k - 1, by omega⟩
    simp only [mpath_Check.l0]
    rw [if_neg (by omega), major_f y (by omega), List.drop_eq_nil_of_le (show l.length ≤ n by omega)]
    have h0 := numOf_nonneg y.data.toList
    cases tellsOk y.data.toList
    · simp
    · by_cases hz : numOf y.data.toList = 0
      · simp [hz]
      · simp [hz]; omega
  | succ d ih =>
    intro n k hd hn hk
    obtain ⟨k, rfl⟩ : ∃ m, k = m + 1 := ⟨k - 1, by omega⟩
    obtain ⟨x, h1, h2, h3⟩ := rd_at (l := l) (n := n) (by omega)
    have hm : x ∈ l := List.mem_of_getElem? h3
    have hxs := hx x hm
    simp only [mpath_Check.l0]
    rw [if_pos (by omega), if_pos (by omega), if_pos (by omega), h1, major_f x (by omega), wrap_succ (by omega), ih (n + 1) k (by omega) (by omega) (by omega), h2]
    simp only [Option.bind_some, List.all_cons]
    cases tellsOk x.data.toList <;> simp
theorem parts_eq {l : List ByteArray} (h : 0 < l.length) : partsOk l = ((l.dropLast.all fun x => !tellsOk x.data.toList) && (!tellsOk (l.getLastD ByteArray.empty).data.toList || (!decide (numOf (l.getLastD ByteArray.empty).data.toList = 0) && decide (0 < l.dropLast.length)))) := by
  unfold partsOk lastOk
  rw [List.length_dropLast, show decide (0 < l.length - 1) = decide (1 < l.length) from by congr 1; apply propext; omega]
theorem split_pos (c : UInt8) (s : ByteArray) : 0 < (splitBy c s).length := by
  unfold splitBy; rw [List.length_map]; exact List.length_pos_iff.2 (splitC_ne c _)
theorem last_mem {l : List ByteArray} (h : 0 < l.length) : l.getLastD ByteArray.empty ∈ l := by
  rw [List.getLastD_eq_getLast?, List.getLast?_eq_some_getLast (List.length_pos_iff.1 h)]
  exact List.getLast_mem _
theorem path_size {s : ByteArray} (h : pathOk s = true) : s.size ≤ 60 := by
  unfold pathOk at h; simp at h; exact h.1
theorem mpath_Check_f (s : ByteArray) (k : Nat) (hk : 100 < k) : mpath_Check.f k s = some (checkOk s) := by
  unfold mpath_Check.f checkOk
  rw [files_Path_f s k (by omega)]
  simp only [Option.bind_some]
  by_cases hp : pathOk s = true
  · have hs := path_size hp
    have hl := split_len 47 s
    have hpos := split_pos 47 s
    rw [hp, if_pos rfl]
    unfold mpath_split.f
    rw [if_pos (by omega)]
    simp only [Option.bind_some, Bool.true_and]
    have hd : (splitBy 47 s).dropLast.length ≤ 61 := by rw [List.length_dropLast]; omega
    have hb : ∀ x ∈ splitBy 47 s, x.size ≤ 60 := fun x hx => by have := split_size hx; omega
    rw [show (0 : Int) = ((0 : Nat) : Int) from rfl, mpath_Check_l0 _ _ (by have := hb _ (last_mem hpos); omega) (by omega) (fun x hx => by have := hb x (List.dropLast_subset _ hx); omega) _ 0 k rfl (by omega) (by omega), parts_eq hpos]
    rfl
  · have hp' : pathOk s = false := by simpa using hp
    rw [hp', if_neg (by simp)]; rfl
def cutAt (s : ByteArray) (i : Int) : ByteArray := if i < 0 then ⟨#[]⟩ else s.extract 0 i.toNat
def baseOf (s : ByteArray) : ByteArray := cutAt s (Lib.lastIdx s 47 s.size)
theorem lastIdx_le (s : ByteArray) (c : Int) : ∀ n, Lib.lastIdx s c n < (n : Int)
  | 0 => by unfold Lib.lastIdx; omega
  | n + 1 => by
    have := lastIdx_le s c n
    unfold Lib.lastIdx; split <;> omega
theorem mpath_Base_f (s : ByteArray) (hs : s.size ≤ 4294967290) : mpath_Base.f s = some (baseOf s) := by
  have e : Lib.lastIndexByte s 47 = Lib.lastIndex s.data.toList [47] := LastIndex.one s ⟨#[47]⟩ rfl
  have hle := lastIdx_le s 47 s.size
  unfold mpath_Base.f strings_LastIndex.f baseOf cutAt
  rw [if_pos (by omega)]
  simp only [Option.bind_some]
  rw [← e]
  unfold Lib.lastIndexByte
  generalize Lib.lastIdx s 47 s.size = i at hle
  by_cases h : i < 0
  · rw [if_pos h, if_pos h]
  · rw [if_neg h, if_neg h, if_pos (by omega), if_pos (by omega)]
/-- mpath.Major. -/
def lastPart (s : ByteArray) : ByteArray := (splitBy 47 s).getLastD ByteArray.empty
def majorsOf (s : ByteArray) : ByteArray × Int × Bool :=
  if checkOk s = true then (if tellsOk (lastPart s).data.toList = true then (baseOf s, numOf (lastPart s).data.toList, true) else (s, 0, true)) else (⟨#[]⟩, 0, false)
theorem check_size {s : ByteArray} (h : checkOk s = true) : s.size ≤ 60 := by
  unfold checkOk at h; simp at h; exact path_size h.1
theorem last_size (s : ByteArray) : (lastPart s).size ≤ s.size := split_size (last_mem (split_pos 47 s))
theorem mpath_Major_f (s : ByteArray) (k : Nat) (hk : 100 < k) : mpath_Major.f k s = some (majorsOf s) := by
  unfold mpath_Major.f majorsOf
  rw [mpath_Check_f s k hk]
  simp only [Option.bind_some]
  by_cases hc : checkOk s = true
  · have hs := check_size hc
    have hL := last_size s
    rw [if_pos hc, if_pos hc]
    unfold mpath_split.f
    rw [if_pos (by omega)]
    simp only [Option.bind_some]
    rw [show (splitBy 47 s).getLastD ByteArray.empty = lastPart s from rfl, major_f _ (by omega)]
    simp only [Option.bind_some]
    by_cases ht : tellsOk (lastPart s).data.toList = true
    · rw [if_pos ht, if_pos ht, if_pos rfl, mpath_Base_f s (by omega)]; rfl
    · rw [if_neg ht, if_neg ht, if_neg (by simp)]
  · rw [if_neg hc, if_neg hc]
/-- mpath.Fits. -/
def fitsOk (s : ByteArray) (a b c : Int) (p q : ByteArray) : Bool :=
  if (majorsOf s).2.2 = true then (if verOk a b c p q = true then (if (majorsOf s).2.1 = 0 then decide (a < 2) else (a == (majorsOf s).2.1)) else false) else false
theorem mpath_Fits_f (s : ByteArray) (a b c : Int) (p q : ByteArray) (k : Nat) (hk : 100 < k) : mpath_Fits.f k s a b c p q = some (fitsOk s a b c p q) := by
  obtain ⟨k, rfl⟩ : ∃ m, k = m + 1 := ⟨k - 1, by omega⟩
  unfold mpath_Fits.f fitsOk
  rw [mpath_Major_f s (k + 1) hk, ver_Check_f a b c p q (k + 1) (by omega)]
  simp only [Option.bind_some]
  generalize majorsOf s = M
  obtain ⟨m1, m2, m3⟩ := M
  cases m3
  · rfl
  · simp only [mpath_Fits.j0]
    cases verOk a b c p q
    · rfl
    · by_cases h : m2 = 0 <;> simp [h]
end Go.Proofs.YtmbpefnhkimplaaGreatDoor
end

section
namespace Go.Proofs.YtmbpefnhkimplaaGreatDoor
open Go Go.RowKit Go.Proofs.YtmbpefnhkimplaaGreatDoorW.PrintWords Go.Proofs.YtmbpefnhkimplaaGreatDoor.K0 Go.Proofs.YtmbpefnhkimplaaGreatDoor.R1
set_option linter.unusedVariables false
set_option linter.unusedSimpArgs false
abbrev Wd := S159
/-- A word that begins at fr ends at z, if there is one. -/
def cutW (s : ByteArray) (ws : List Wd) (fr : Int) (z : Nat) : List Wd := if 0 ≤ fr then ws ++ [⟨s.extract fr.toNat z, fr⟩] else ws
/-- A sign, a blank. -/
def sgnC (c : Int) : Bool := c == 40 || c == 41 || c == 91 || c == 93 || c == 44
def blkC (c : Int) : Bool := c == 32 || c == 9
/-- A remark begins here. -/
def remW (s : ByteArray) (i : Nat) (fr : Int) : Bool := decide (fr < 0) && Lib.hasPrefix (s.extract i s.size).data.toList [47, 47]
/-- A byte is taken. -/
def takeW (s : ByteArray) (i : Nat) (x : List Wd × Int) : List Wd × Int :=
  if sgnC (bt s i) then (cutW s x.1 x.2 i ++ [⟨s.extract i (i + 1), (i : Int)⟩], -1) else if blkC (bt s i) then (cutW s x.1 x.2 i, -1) else (x.1, if x.2 < 0 then (i : Int) else x.2)
/-- The line from a byte on, of n bytes more. -/
def lexW (s : ByteArray) : Nat → Nat → List Wd × Int → List Wd × ByteArray
  | 0, i, x => (cutW s x.1 x.2 i, ⟨#[]⟩)
  | n + 1, i, x => if remW s i x.2 then (x.1, s.extract i s.size) else lexW s n (i + 1) (takeW s i x)
/-- A byte that may not be in a line. -/
def oddC (c : Int) : Bool := (decide (c < 32) && c != 9) || decide (c > 126)
/-- A line: its words, its remark. -/
def oneW (s : ByteArray) : Option (List Wd × ByteArray) := if (List.range s.size).any (fun i => oddC (bt s i)) then none else some (lexW s s.size 0 ([], -1))
end Go.Proofs.YtmbpefnhkimplaaGreatDoor
end

section
namespace Go.Proofs.YtmbpefnhkimplaaGreatDoor
open Go Go.RowKit Go.Sort Go.Maps Go.Proofs Go.Proofs.YtmbpefnhkimplaaGreatDoorW.PrintWords Go.Proofs.YtmbpefnhkimplaaGreatDoorW.PrintLast Go.Proofs.YtmbpefnhkimplaaGreatDoor.K0
set_option linter.unusedVariables false
set_option linter.unusedSimpArgs false
abbrev lxv (va : Value) (note s : ByteArray) (fr : Int) : Array Value := #[va, .string note, .string s, .int .i64 fr]
/-- The lexer's variable. -/
structure LxIs (w0 : World) (B : Nat) (va : Value) (ws : List Wd) (note s : ByteArray) (fr : Int) (w : World) : Prop where
  below : Below w0.heap.size w0 w
  ge : w0.heap.size ≤ B
  blk : w.heap[B]? = some (.cells (lxv va note s fr) 193 (0, 0))
  own : Kd.R k159 159 w (B + 1) (fun k => B < k) va ws
theorem LxIs.step {w0 w w' : World} {B : Nat} {va : Value} {ws : List Wd} {note s : ByteArray} {fr : Int} (h : LxIs w0 B va ws note s fr w) (hb : Below w.heap.size w w') : LxIs w0 B va ws note s fr w' :=
  ⟨below_step h.below hb, h.ge, blk_below h.blk hb, Kd.R_below h.own hb⟩
theorem LxIs.cells {w0 w : World} {B : Nat} {va : Value} {ws : List Wd} {note s : ByteArray} {fr : Int} (h : LxIs w0 B va ws note s fr w) : w.cell? ⟨B, 0, none⟩ = some va ∧ w.cell? ⟨B, 1, none⟩ = some (.string note) ∧ w.cell? ⟨B, 2, none⟩ = some (.string s) ∧ w.cell? ⟨B, 3, none⟩ = some (.int .i64 fr) :=
  ⟨(blk_cell h.blk 0).trans rfl, (blk_cell h.blk 1).trans rfl, (blk_cell h.blk 2).trans rfl, (blk_cell h.blk 3).trans rfl⟩
/-- A field that bears no words has been written. -/
theorem LxIs.put {w0 w w' : World} {B : Nat} {va : Value} {ws : List Wd} {note note' s s' : ByteArray} {fr fr' : Int} (h : LxIs w0 B va ws note s fr w) (hr : w'.heap[B]? = some (.cells (lxv va note' s' fr') 193 (0, 0))) (hg : w.grownBy w' (some B)) : LxIs w0 B va ws note' s' fr' w' :=
  ⟨h.below.grown hg h.below.size (fun k hk => by cases hk; exact h.ge), h.ge, hr, Kd.R_grown h.own hg (fun k hk e => by cases e; omega)⟩
def lxc.T1 : Bool × List (List Nat × List Nat) := (true, [([], []), ([], []), ([1], [1]), ([2], [2]), ([3], [3]), ([4], [4]), ([], []), ([6], [6]), ([7], [7]), ([8], [8]), ([], []), ([10], [10]), ([11], [11]), ([12], [12]), ([], []), ([9, 13, 14], [9, 13, 14]), ([], []), ([16], [16]), ([17], [17]), ([18], [18]), ([15, 19], [15, 19]), ([20], [20]), ([5, 21], [5, 21]), ([0, 0, 1, 2, 3, 4, 5, 6, 7, 8, 9, 10, 11, 12, 13, 14, 15, 16, 17, 18, 19, 20, 21, 22], [0]), ([23, 0, 1, 2, 3, 4, 5, 6, 7, 8, 9, 10, 11, 12, 13, 14, 15, 16, 17, 18, 19, 20, 21, 22], [23]), ([24, 0, 1, 2, 3, 4, 5, 6, 7, 8, 9, 10, 11, 12, 13, 14, 15, 16, 17, 18, 19, 20, 21, 22], [24]), ([25, 22, 22, 0, 1, 2, 3, 4, 5, 6, 7, 8, 9, 10, 11, 12, 13, 14, 15, 16, 17, 18, 19, 20, 21, 22], [22, 25])])
def lxc.B1 : List Nat := [0, 0, 2, 6, 14, 30, 0, 64, 192, 448, 0, 1024, 3072, 7168, 0, 32704, 0, 65536, 196608, 458752, 1048512, 2097088, 4194302, 8388607, 16777215, 33554431, 67108863]
theorem lxc.tab1 : rtab .any (opsOf Tryz.f126 1) = lxc.T1 := by kernel_rfl
theorem lxc.bits1 : waitsOk lxc.T1.2 lxc.B1 = true := by kernel_rfl
def lxt.T13 : Bool × List (List Nat × List Nat) := (true, [([], []), ([], []), ([1], [1]), ([2], [2]), ([3], [3]), ([4], [4]), ([], []), ([6], [6]), ([7], [7]), ([8], [8]), ([], []), ([], []), ([11], [11]), ([9, 10, 12], [9, 10, 12]), ([], []), ([13, 14], [13, 14]), ([15], [15]), ([5, 16], [5, 16]), ([0, 0, 1, 2, 3, 4, 5, 6, 7, 8, 9, 10, 11, 12, 13, 14, 15, 16, 17], [0]), ([18, 0, 1, 2, 3, 4, 5, 6, 7, 8, 9, 10, 11, 12, 13, 14, 15, 16, 17], [18]), ([19, 0, 1, 2, 3, 4, 5, 6, 7, 8, 9, 10, 11, 12, 13, 14, 15, 16, 17], [19]), ([20, 17, 17, 0, 1, 2, 3, 4, 5, 6, 7, 8, 9, 10, 11, 12, 13, 14, 15, 16, 17], [17, 20])])
def lxt.B13 : List Nat := [0, 0, 2, 6, 14, 30, 0, 64, 192, 448, 0, 0, 2048, 8128, 0, 32704, 65472, 131070, 262143, 524287, 1048575, 2097151]
theorem lxt.tab13 : rtab .any (opsOf Tryz.f125 13) = lxt.T13 := by kernel_rfl
theorem lxt.bits13 : waitsOk lxt.T13.2 lxt.B13 = true := by kernel_rfl
set_option maxRecDepth 100000 in
set_option maxHeartbeats 2000000 in
theorem cut_calls (w0 : World) (B : Nat) (va : Value) (ws : List Wd) (note s : ByteArray) (fr : Int) (z : Nat) (w : World) (hI : LxIs w0 B va ws note s fr w) (hf : 0 ≤ fr → fr ≤ (z : Int) ∧ z ≤ s.size) (hb : ws.length ≤ 1000000) :
    Calls Tryz.prog 126 #[.pointer (some ⟨B, 0, none⟩), .int .i64 z] w fun e w' => e = .returned (.tuple #[]) ∧ ∃ va', LxIs w0 B va' (cutW s ws fr z) note s (-1) w' := by
  have HM := Aside0.mk hI
  clear hI
  obtain ⟨x0, x1, x2, x3⟩ := HM.out.cells
  by_cases h0 : 0 ≤ fr
  · obtain ⟨h1, h2⟩ := hf h0
    have hz2 : (z : Int) ≤ (s.size : Int) := by omega
    obtain ⟨A2, c2, rfl⟩ := Kd.R_slice HM.out.own
    have HCW : Aside0 (cutW s ws fr z = ws ++ [⟨s.extract fr.toNat z, fr⟩]) := ⟨by unfold cutW; rw [if_pos h0]⟩
    clear hf
    go_enter Tryz.func126, Tryz.ntmps126
    go_wp2
    clear x0 x1 x2 x3
    refine sX (ds := [26]) (S := fun w' => w'.cell? ⟨B, 0, none⟩ = some (.slice A2 ws.length c2) ∧ w'.cell? ⟨B, 1, none⟩ = some (.string note) ∧ w'.cell? ⟨B, 2, none⟩ = some (.string s) ∧ w'.cell? ⟨B, 3, none⟩ = some (.int .i64 fr)) lxc.tab1 lxc.bits1 (LxIs.cells (HM.out.step (below_drew1 (Below.refl _ _)))) (fun HT_ HW_ hHeld => ?_)
    have HM4 := Aside0.mk (HM.out.step (below_drew1 (Below.refl _ _)))
    generalize w.drew = w4 at HM4 hHeld ⊢
    refine pX HT_ 0 1 9 ?_
    refine pX HT_ 1 3 10 ?_
    refine pX HT_ 2 7 11 ?_
    refine pX HT_ 3 15 12 ?_
    refine pX HT_ 4 31 13 ?_
    refine pX HT_ 6 95 15 ?_
    refine pX HT_ 7 223 16 ?_
    refine pX HT_ 8 479 17 ?_
    refine pX HT_ 10 1503 19 ?_
    refine pX HT_ 11 3551 20 ?_
    refine pX HT_ 12 7647 21 ?_
    refine pX HT_ 14 24031 23 ?_
    refine pX HT_ 16 89567 25 ?_
    refine pX HT_ 17 220639 26 ?_
    refine pX HT_ 18 482783 27 ?_
    refine tX HT_ HW_ hHeld 5 482815 14 ?_
    refine tX HT_ HW_ hHeld 9 483327 18 ?_
    refine tX HT_ HW_ hHeld 13 491519 22 ?_
    refine pX HT_ 15 524287 24 ?_
    refine tX HT_ HW_ hHeld 19 1048575 28 ?_
    refine pX HT_ 20 2097151 29 ?_
    refine oX HT_ 21 4194303 (some 30) (fun K hK => ?_)
    refine value_ (by kernel_rfl) rfl (by go_simp; exact ⟨rfl, rfl⟩) ?_
    refine hK.out _ _ (LxIs.cells (HM4.out.step (below_alloc (Below.refl _ _) _))) (fun hHeld => ?_)
    clear hK K
    refine norm_ nX ?_
    refine oX HT_ 22 8388607 (some 31) (fun K hK => ?_)
    have hWl := blk_lt HM4.out.blk
    refine Kd.R_append_step k159 (w0 := w4) (B + 1) (by kernel_rfl) (.tmp 14) (.tmp 30) 140 159 _ 24 rfl Tryz.underlying140 info159 rfl (by decide) (by decide) (.slice A2 ws.length c2) ws (⟨s.extract fr.toNat z, fr⟩ : Wd) _ (fun k => B < k) (fun _ => False) rfl rfl (k159_mkM _ _ _ (⟨s.extract fr.toNat z, fr⟩ : Wd)) (fun _ h => h.elim) (fun k hk => by omega) HM4.out.own (Below.refl _ _) (by omega) (by omega) ?_
    intro v1 w5 ho hb hg hat
    obtain ⟨A3, c3, rfl⟩ := Kd.R_slice ho
    have hwb : some B ≠ (Value.slice A2 ws.length c2).ownBlock := fun e => by have := HM4.out.own.1 B e.symm; omega
    have HW5 := Aside0.mk (blk_grown HM4.out.blk hg hwb)
    have HB5 := Aside0.mk (HM4.out.below.grown hg HM4.out.below.size (fun k hk => by have := HM4.out.own.1 k hk; have := HM4.out.ge; omega))
    have HO5 := Aside0.mk ho
    have HGE := Aside0.mk HM4.out.ge
    clear ho hb hg hat hwb
    show K (Act.put _ (some 31) (.slice A3 _ c3)) w5
    refine hK.out _ _ ⟨(blk_cell HW5.out 0).trans rfl, (blk_cell HW5.out 1).trans rfl, (blk_cell HW5.out 2).trans rfl, (blk_cell HW5.out 3).trans rfl⟩ (fun hHeld => ?_)
    clear hK K
    refine norm_ nX ?_
    refine pX HT_ 23 16777215 32 ?_
    refine pX HT_ 24 33554431 33 ?_
    refine pX HT_ 25 67108863 34 ?_
    have hf := blk_frozen HW5.out 0
    have hcc := (blk_cell HW5.out 0).trans rfl
    refine lX HT_ 26 134217727 none (fun K hK => ?_)
    refine skip_ (w1 := w5.setCell ⟨B, 0, none⟩ (.slice A3 (ws ++ [(⟨s.extract fr.toNat z, fr⟩ : Wd)]).length c3)) (by kernel_rfl) rfl (by go_simp) ?_
    refine hK.out _ _ ?_
    clear hK K
    refine eX HT_ ?_
    clear HT_ HW_ hHeld
    have HM6 := Aside0.mk (show LxIs w0 B (.slice A3 (ws ++ [(⟨s.extract fr.toNat z, fr⟩ : Wd)]).length c3) (ws ++ [(⟨s.extract fr.toNat z, fr⟩ : Wd)]) note s fr (w5.setCell ⟨B, 0, none⟩ (.slice A3 (ws ++ [(⟨s.extract fr.toNat z, fr⟩ : Wd)]).length c3)) from ⟨HB5.out.setCell (p := ⟨B, 0, none⟩) HGE.out _, HGE.out, blk_set HW5.out 0 _, Kd.R_far HO5.out (fun k hk => (Nat.ne_of_gt hk : k ≠ B)) _⟩)
    generalize w5.setCell ⟨B, 0, none⟩ (.slice A3 (ws ++ [(⟨s.extract fr.toNat z, fr⟩ : Wd)]).length c3) = w6 at HM6 ⊢
    clear hf hcc HW5 HB5 HO5 HM4
    obtain ⟨x0, x1, x2, x3⟩ := HM6.out.cells
    go_wp2_with ((with_reducible refine gate_ (.store 3 (.tmp 37) (.const (.int .i64 (-1)))) rfl ?_); refine store_ev 3 (.tmp 37) (.const (.int .i64 (-1))) rfl rfl rfl 3 [.int .i64 (-1)] HM6.out.blk rfl rfl rfl (by kernel_rfl) (show 3 + 1 ≤ 4 by decide) (by simp [Value.oneCell']) rfl ?_; intro w7 hn hg; have HZ := Aside0.mk (HM6.out.put (note' := note) (s' := s) (fr' := -1) hn hg); clear hn hg)
    go_end0
    exact ⟨rfl, _, by rw [HCW.out]; exact HZ.out⟩
  · have HCW : Aside0 (cutW s ws fr z = ws) := ⟨by unfold cutW; rw [if_neg h0]⟩
    clear hf
    go_enter Tryz.func126, Tryz.ntmps126
    go_wp2_with ((with_reducible refine gate_ (.store 3 (.tmp 37) (.const (.int .i64 (-1)))) rfl ?_); refine store_ev 3 (.tmp 37) (.const (.int .i64 (-1))) rfl rfl rfl 3 [.int .i64 (-1)] HM.out.blk rfl rfl rfl (by kernel_rfl) (show 3 + 1 ≤ 4 by decide) (by simp [Value.oneCell']) rfl ?_; intro w7 hn hg; have HZ := Aside0.mk (HM.out.put (note' := note) (s' := s) (fr' := -1) hn hg); clear hn hg)
    go_end0
    exact ⟨rfl, _, by rw [HCW.out]; exact HZ.out⟩
end Go.Proofs.YtmbpefnhkimplaaGreatDoor
end
