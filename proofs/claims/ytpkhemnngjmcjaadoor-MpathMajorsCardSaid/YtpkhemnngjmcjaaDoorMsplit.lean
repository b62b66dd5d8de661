/- mpath.split: a path's parts, but the last one, and that. -/
import Derived.Test.YtpkhemnngjmcjaaDoorLib
import Derived.WalkKit
import Derived.WideLaws
import Derived.Outline
import Derived.Deep.QuietTactic
import Derived.BigQuiet
namespace Go.Proofs.YtpkhemnngjmcjaaDoor
open Go Go.RowKit Go.Proofs.YtpkhemnngjmcjaaDoorW.PrintWords
set_option linter.unusedVariables false
set_option linter.unusedSimpArgs false

theorem splitBy_ne (c : UInt8) (s : ByteArray) : splitBy c s ≠ [] := by
  unfold splitBy
  intro h
  exact splitC_ne c _ (List.map_eq_nil_iff.1 h)
theorem splitBy_length (c : UInt8) (s : ByteArray) : (splitBy c s).length ≤ s.size + 1 := by
  unfold splitBy
  rw [List.length_map, splitC_length, Lib.size_eq]
  have := List.count_le_length (a := c) (l := s.data.toList)
  omega
def mpath_split.f (a0 : ByteArray) : Option (List ByteArray × ByteArray) :=
  if a0.size < 4294967281 then some ((splitBy 47 a0).dropLast, (splitBy 47 a0).getLastD ByteArray.empty) else none

/-- strings.Split at '/', told outright. -/
theorem split_slash (a0 : ByteArray) (w : World) (hG : GW w) (hs : a0.size < 4294967281) :
    Calls Tryd.prog 21 #[.string a0, .string ⟨#[47]⟩] w fun e w' => e = .returned (.slice (some ⟨w.heap.size, 0, none⟩) (splitBy 47 a0).length (splitBy 47 a0).length) ∧
      w.alloc (.cells ((splitBy 47 a0).map Value.string).toArray 9) = w' := by
  obtain ⟨m, hm⟩ := hG.maxLen
  refine (Tryd.strings_Split a0 ⟨#[47]⟩ m w hs hm (Nat.le_refl 1)).mono ?_
  rintro e w' ⟨rfl, rfl⟩
  have hlen := Lib.splitB_all ⟨#[47]⟩ (Nat.le_refl 1) 0 _ a0 rfl
  rw [splitB_one 47 _ _ rfl] at hlen ⊢
  rw [← hlen]
  exact ⟨rfl, rfl⟩

set_option maxRecDepth 100000 in
set_option maxHeartbeats 1000000 in
theorem mpath_split.calls (a0 : ByteArray) (r1 : List ByteArray) (r2 : ByteArray) (w : World) (hG : GW w) (h : mpath_split.f a0 = some (r1, r2)) :
    Calls Tryd.prog 13 #[.string a0] w fun e w' => ∃ v0_ : Value, e = .returned (.tuple #[v0_, .string r2]) ∧ Kd.R Kd.string 9 w' w.heap.size (fun _ => True) v0_ r1 ∧ Below w.heap.size w w' := by
  unfold mpath_split.f at h
  by_cases hs : a0.size < 4294967281
  · rw [if_pos hs] at h
    obtain ⟨rfl, rfl⟩ := Prod.mk.inj (Option.some.inj h)
    have hl := splitBy_length 47 a0
    have HG := Aside0.mk hG
    clear hG h
    obtain ⟨l, hle⟩ : ∃ l, splitBy 47 a0 = l := ⟨_, rfl⟩
    have hne : l ≠ [] := hle ▸ splitBy_ne 47 a0
    obtain ⟨n, hn⟩ : ∃ n, l.length = n + 1 := ⟨l.length - 1, by have := List.length_pos_iff.2 hne; omega⟩
    have c := fun W hW => split_slash a0 W hW hs
    rw [hle, hn] at c
    rw [hle, hn] at hl
    obtain ⟨x, hx⟩ : ∃ x, l.getLastD ByteArray.empty = x := ⟨_, rfl⟩
    have hcell : (w.alloc (.cells (l.map Value.string).toArray 9)).cell? ⟨w.heap.size, n, none⟩ = some (.string x) := by
      have hb : (w.alloc (.cells (l.map Value.string).toArray 9)).heap[w.heap.size]? = some (.cells (l.map Value.string).toArray 9 (0, 0)) := heap_alloc_new w _
      have hx2 : l[n]? = some x := by
        rw [List.getLastD_eq_getLast?, List.getLast?_eq_getElem?] at hx
        rw [show l.length - 1 = n by omega] at hx
        rw [List.getElem?_eq_getElem (by omega)] at hx ⊢
        exact congrArg some hx
      simp only [World.cell?, hb]
      simp [hx2]
    have hown : (w.alloc (.cells (l.map Value.string).toArray 9)).ownsRow w.heap.size 9 1 (.slice (some ⟨w.heap.size, 0, none⟩) n (n + 1)) l.dropLast.length (encs Value.string l.dropLast) := by
      have hdl : l.dropLast.length = n := by rw [List.length_dropLast]; omega
      refine ⟨by simp [encs], .inr ⟨w.heap.size, n + 1, (l.map Value.string).toArray, by rw [hdl], Nat.le_refl _, heap_alloc_new w _, by rw [hdl]; omega, by unfold maxLen; omega, by simp [hn], ?_⟩⟩
      rw [hdl]
      simp [encs, List.dropLast_eq_take, hn]
    rw [hle, hx]
    clear hx
    have HOWN := Aside0.mk hown
    clear hown
    have HC := Aside0.mk c
    clear c
    go_enter Tryd.func13, Tryd.ntmps13
    go_wp2_with (go_at_call 21; (with_reducible refine (HC.out _ HG.out).mono ?_); rintro e w' ⟨rfl, rfl⟩)
    have hn63 : (n : Int) + 1 ≤ 9223372036854775807 := by omega
    have hn0 : (0 : Int) ≤ n := by omega
    go_quiet (fail)
    go_wp2
    go_ret2
    refine ⟨.slice (some ⟨w.heap.size, 0, none⟩) n (n + 1), rfl, ?_, ?_⟩
    · exact Kd.R_of_own (enc := Value.string) (h1 := fun _ => rfl) (show World.ownsRow (w.alloc (.cells (l.map Value.string).toArray 9)) _ _ _ _ _ _ from HOWN.out) (fun _ _ => trivial)
    · exact pw_below_drewN ((Below.refl _ _).alloc (Nat.le_refl _) _) _
  · rw [if_neg hs] at h
    cases h
end Go.Proofs.YtpkhemnngjmcjaaDoor
