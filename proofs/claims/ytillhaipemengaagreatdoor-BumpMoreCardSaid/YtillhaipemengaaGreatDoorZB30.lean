/- The texts R4x, VerPl, MvCmp in one file, without what these claims do not use (put together by prune2.py). -/
import Derived.Test.YtillhaipemengaaGreatDoorZB28
import Derived.Test.YtillhaipemengaaGreatDoorZB29
import Derived.Test.YtillhaipemengaaGreatDoorZB12
import Derived.Test.YtillhaipemengaaGreatDoorZB14
import Derived.Lib.IndexMore
import Derived.Test.YtillhaipemengaaGreatDoorZB16
import Derived.Shelf.Abstract
section
namespace Go.Proofs.YtillhaipemengaaGreatDoor.R4
open Go.RowKit Go.Proofs.YtillhaipemengaaGreatDoor Go.Proofs.YtillhaipemengaaGreatDoor.K0 Go.Proofs.YtillhaipemengaaGreatDoor.R1 Go.Proofs.YtillhaipemengaaGreatDoor.R3 Go.Proofs.YtillhaipemengaaGreatDoorW.PrintWords Go.Proofs.YtillhaipemengaaGreatDoorW.PrintLast Go.Proofs.YtillhaipemengaaGreatDoorW.PrintMore
attribute [local go_sem] max2_int min2_int max_two min_two max_three min_three max_four min_four
set_option linter.unusedVariables false
set_option linter.unusedSimpArgs false
end Go.Proofs.YtillhaipemengaaGreatDoor.R4
end

section
namespace Go.Proofs.YtillhaipemengaaGreatDoor
open Go Go.RowKit Go.Proofs.YtillhaipemengaaGreatDoorW.PrintWords Go.Proofs.YtillhaipemengaaGreatDoor.K0 Go.Proofs.YtillhaipemengaaGreatDoor.R1
set_option linter.unusedVariables false
set_option linter.unusedSimpArgs false
structure VerIs (a b c : Int) (p q : ByteArray) : Prop where
  a0 : 0 ≤ a
  a9 : a ≤ 999999999
  b0 : 0 ≤ b
  b9 : b ≤ 999999999
  c0 : 0 ≤ c
  c9 : c ≤ 999999999
  hp : p.size ≤ 30
  hq : q.size ≤ 30
  pre : preOk p = true
  build : buildOk q = true
theorem verIs {a b c : Int} {p q : ByteArray} (h : verOk a b c p q = true) : VerIs a b c p q := by
  unfold verOk numB at h
  simp only [Bool.and_eq_true, decide_eq_true_eq] at h
  obtain ⟨⟨h1, h2⟩, ⟨h3, h4⟩, ⟨h5, h6⟩, h7, h8, h9, h10⟩ := h
  exact ⟨h1, h2, h3, h4, h5, h6, h7, h8, h9, h10⟩
end Go.Proofs.YtillhaipemengaaGreatDoor
end

section
namespace Go.Proofs.YtillhaipemengaaGreatDoor
open Go Go.RowKit Go.Sort Go.Proofs Go.Proofs.YtillhaipemengaaGreatDoorW.PrintWords Go.Proofs.YtillhaipemengaaGreatDoor.K0 Go.Proofs.YtillhaipemengaaGreatDoor.R1 Go.Proofs.YtillhaipemengaaGreatDoor.R2 Go.Proofs.YtillhaipemengaaGreatDoor.R3 Go.Proofs.YtillhaipemengaaGreatDoor.R4
set_option linter.unusedVariables false
set_option linter.unusedSimpArgs false
theorem mfits_calls (s : ByteArray) (a b c : Int) (p q : ByteArray) (w : World) (hG : GW w) : Calls Tryz.prog 33 #[.string s, .agg #[.int .i64 a, .int .i64 b, .int .i64 c, .string p, .string q]] w fun e w' => e = .returned (.bool (fitsOk s a b c p q)) ∧ Below w.heap.size w w' :=
  mpath_Fits.calls 101 s a b c p q _ w hG (mpath_Fits_f s a b c p q 101 (by decide))
theorem vcheck_calls (a b c : Int) (p q : ByteArray) (w : World) : Calls Tryz.prog 31 #[.agg #[.int .i64 a, .int .i64 b, .int .i64 c, .string p, .string q]] w fun e w' => e = .returned (.bool (verOk a b c p q)) ∧ Below w.heap.size w w' :=
  ver_Check.calls 101 a b c p q _ w (ver_Check_f a b c p q 101 (by decide))
theorem compare_f (a b c : Int) (p q : ByteArray) (a2 b2 c2 : Int) (p2 q2 : ByteArray) (k : Nat) (hk : 101 < k) : ver_Compare.f k a b c p q a2 b2 c2 p2 q2 = some (verCmp a b c p q a2 b2 c2 p2 q2) := by
  obtain ⟨k, rfl⟩ : ∃ m, k = m + 1 := ⟨k - 1, by omega⟩
  unfold ver_Compare.f verCmp
  rw [ver_Check_f a b c p q (k + 1) (by omega), ver_Check_f a2 b2 c2 p2 q2 (k + 1) (by omega)]
  simp only [Option.bind_some, ver_Compare.j0, cmpInt_f]
  by_cases h1 : verOk a b c p q = true
  · by_cases h2 : verOk a2 b2 c2 p2 q2 = true
    · have s1 := (verIs h1).hp
      have s2 := (verIs h2).hp
      have hb : ver_byPre.f p p2 = some (preCmp p.data.toList p2.data.toList) := by
        unfold ver_byPre.f
        rw [if_pos (by omega), if_pos (by omega)]
      rw [hb]
      simp only [Option.bind_some]
      rw [or_f _ (by simp) k (by omega)]
      simp [h1, h2, orAll, orr_zero]
    · simp [h1, h2]
  · simp [h1]
theorem cell_of_heap {W : World} {B : Nat} {cs : Array Value} {t : TypeId} (h : W.heap[B]? = some (.cells cs t (0, 0))) (k : Nat) : W.cell? ⟨B, k, none⟩ = cs[k]? := by
  unfold World.cell?
  simp only [h]
  simp
end Go.Proofs.YtillhaipemengaaGreatDoor
end
