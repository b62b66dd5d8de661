/- The texts Clone, R5x0 in one file, without what this claim does not use (put together by prune.py). -/
import Derived.Test.YtnnogepjkfllnaaGreatDoorZR6
import Derived.Lib.SliceRun
import Derived.Shelf.Abstract
import Derived.Test.YtnnogepjkfllnaaGreatDoorZR7
import Derived.Test.YtnnogepjkfllnaaGreatDoorZR10
import Derived.Test.YtnnogepjkfllnaaGreatDoorZR17
import Derived.Test.YtnnogepjkfllnaaGreatDoorZR20
import Derived.Test.YtnnogepjkfllnaaGreatDoorZR25
import Derived.Test.YtnnogepjkfllnaaGreatDoorZR27
import Derived.Test.YtnnogepjkfllnaaGreatDoorZR30
section
namespace Go.Proofs.YtnnogepjkfllnaaGreatDoor
open Go Go.RowKit Go.Proofs Go.Proofs.YtnnogepjkfllnaaGreatDoorW.PrintWords Go.Proofs.YtnnogepjkfllnaaGreatDoor.K0
set_option linter.unusedVariables false
set_option linter.unusedSimpArgs false
def tcl (t : S32) : List Value := [.string t.f0, .int .i64 t.f1.f0, .int .i64 t.f1.f1, .int .i64 t.f1.f2, .string t.f1.f3, .string t.f1.f4, .string t.f2]
def tcs (l : List S32) : List Value := l.flatMap tcl
theorem tcs_len (l : List S32) : (tcs l).length = l.length * 7 := by
  induction l with
  | nil => rfl
  | cons t l ih => unfold tcs at ih ⊢; rw [List.flatMap_cons, List.length_append, ih, List.length_cons]; simp [tcl]; omega
theorem tcs_drop : ∀ (l : List S32) (j : Nat), (tcs l).drop (j * 7) = tcs (l.drop j)
  | [], j => by simp [tcs]
  | t :: l, 0 => rfl
  | t :: l, j + 1 => by
    have ih := tcs_drop l j
    have e : (j + 1) * 7 = (tcl t).length + j * 7 := by simp [tcl]; omega
    rw [List.drop_succ_cons, ← ih, e]
    show List.drop _ (tcl t ++ tcs l) = _
    rw [← List.drop_drop, List.drop_left]
theorem tcs_at {l : List S32} {j : Nat} {t : S32} (h : l[j]? = some t) : ((tcs l).drop (j * 7)).take 7 = tcl t := by
  obtain ⟨hj, e⟩ := List.getElem?_eq_some_iff.1 h
  rw [tcs_drop, List.drop_eq_getElem_cons hj, e]
  show List.take 7 (tcl t ++ tcs (l.drop (j + 1))) = _
  exact List.take_left' rfl
theorem tcs_row (l : List S32) (w : World) (b : Nat) (ok : Nat → Prop) : Reps (k32.M w b ok) 7 l (tcs l) :=
  ⟨tcs_len l, fun j p hp => by rw [tcs_at hp]; exact k32_mkM w b ok p⟩
theorem tcs_cells {w : World} {A : Option Addr} {l : List S32} {ad : Addr} (h : Kd.C k32 w (some ad) l.length l) (j : Nat) (u : Value) (hu : (tcs l)[j]? = some u) : w.cell? (ad.add j) = some u := by
  have hj : j < l.length * 7 := by rw [← tcs_len]; exact (List.getElem?_eq_some_iff.1 hu).1
  obtain ⟨t, ht⟩ : ∃ t, l[j / 7]? = some t := ⟨_, List.getElem?_eq_getElem (by omega)⟩
  obtain ⟨ad2, hA, hc⟩ := h.2.2 (by omega)
  obtain rfl := Option.some.inj hA
  obtain ⟨c, _, hK, hcell⟩ := hc (j / 7) t ht
  obtain rfl := k32_open hK
  have e : (tcs l)[j]? = (tcl t)[j % 7]? := by
    rw [← tcs_at ht, List.getElem?_take, if_pos (Nat.mod_lt _ (by decide)), List.getElem?_drop]
    congr 1; omega
  rw [e] at hu
  have := hcell (j % 7) u hu
  rwa [show j / 7 * k32.sz + j % 7 = j from by show j / 7 * 7 + j % 7 = j; omega] at this
def slices_Clone.f (l0 : List S32) : Option (List S32) := if l0.length * 88 ≤ 140737488355328 then some l0 else none
set_option maxRecDepth 100000 in
set_option maxHeartbeats 1000000 in
theorem slices_Clone.calls (A0 : Option Addr) (c0 : Nat) (l0 : List S32) (r : List S32) (w : World) (hr0 : Kd.C k32 w A0 l0.length l0) (hc0 : l0.length ≤ c0) (h : slices_Clone.f l0 = some r) :
    Calls Tryz.prog 32 #[.slice A0 l0.length c0] w fun e w' => ∃ v0_ : Value, e = .returned (v0_) ∧ Kd.R k32 32 w' w.heap.size (fun _ => True) v0_ r ∧ Below w.heap.size w w' := by
  unfold slices_Clone.f at h
  split at h
  · rename_i hs
    obtain rfl := Option.some.inj h
    clear h hc0
    have q := fun (w : World) (a : Option Addr) (n c n' c' : Nat) => Lib.run_eql_slice_nil w 23 32 a n c n' c' Tryz.underlying23
    cases A0 with
    | none =>
      have h0 : l0 = [] := by
        rcases l0 with _ | ⟨b, l⟩
        · rfl
        · obtain ⟨ad, hA, _⟩ := hr0.2.2 (by simp)
          cases hA
      subst h0
      clear hr0
      go_enter Tryz.func32, Tryz.ntmps32
      go_wp2
      go_ret
      exact ⟨_, rfl, Kd.R_nil _ _ _ _ _, Below.refl _ _⟩
    | some ad =>
      obtain ⟨i0, hi, hz0, hz1, hz2⟩ := info_parts info32
      have HC := Aside0.mk (tcs_cells (A := none) hr0)
      have hb := hr0.2.1
      have hlen := tcs_len l0
      have HROW := Aside0.mk (fun W b ok => tcs_row l0 W b ok)
      have hone : ∀ u ∈ tcs l0, u.oneCell' = true := by
        intro u hu
        obtain ⟨t, _, ht⟩ := List.mem_flatMap.1 hu
        simp only [tcl, List.mem_cons, List.not_mem_nil, or_false] at ht
        rcases ht with rfl | rfl | rfl | rfl | rfl | rfl | rfl <;> rfl
      have HONE := Aside0.mk hone
      obtain ⟨n, hn⟩ : ∃ n, n = l0.length := ⟨_, rfl⟩
      rw [← hn] at hb hlen hs ⊢
      have HL := Aside0.mk hlen
      have HN := Aside0.mk hn
      clear hr0 hone hlen hn
      go_enter Tryz.func32, Tryz.ntmps32
      go_wp2_with (at_builtin; refine wpList_append_own _ rfl _ _ 23 rfl w.heap.size 32 i0 _ 7 88 Tryz.underlying23 hi hz0 hz1 hz2 rfl (by decide) _ _ _ rfl (World.ownsRow_made w #[] 0 (Nat.le_refl _) (Nat.zero_le _) (by simp)) ad n c0 (tcs l0) rfl ?qc1 ?qc2 ?qc3 ?qc4 ?qc5 ?qc6 ?_)
      case qc1 => exact HL.out
      case qc2 => exact fun j u hj => Lib.cell?_alloc_some _ (HC.out j u hj)
      case qc3 => exact HONE.out
      case qc4 => rw [Nat.zero_add]; exact hb
      case qc5 => rw [Nat.zero_add]; exact hs
      case qc6 => simp
      intro v' w1 hown hgrow hnil
      go_wp2
      go_ret
      refine ⟨v', rfl, ⟨fun _ _ => trivial, tcs l0, ?_, HROW.out _ _ _⟩, ?_⟩
      · rw [← HN.out]
        exact hown
      · exact ((Below.refl _ w).alloc (Nat.le_refl _) _).grown hgrow (by simp) (by intro k hk; simp [Value.ownBlock] at hk; omega)
  · cases h
end Go.Proofs.YtnnogepjkfllnaaGreatDoor
end

section
namespace Go.Proofs.YtnnogepjkfllnaaGreatDoor.R5
open Go.RowKit Go.Proofs.YtnnogepjkfllnaaGreatDoor Go.Proofs.YtnnogepjkfllnaaGreatDoor.K0 Go.Proofs.YtnnogepjkfllnaaGreatDoor.R1 Go.Proofs.YtnnogepjkfllnaaGreatDoor.R2 Go.Proofs.YtnnogepjkfllnaaGreatDoor.R3 Go.Proofs.YtnnogepjkfllnaaGreatDoor.R4 Go.Proofs.YtnnogepjkfllnaaGreatDoorW.PrintWords Go.Proofs.YtnnogepjkfllnaaGreatDoorW.PrintLast Go.Proofs.YtnnogepjkfllnaaGreatDoorW.PrintMore
attribute [local go_sem] max2_int min2_int max_two min_two max_three min_three max_four min_four
set_option linter.unusedVariables false
set_option linter.unusedSimpArgs false
end Go.Proofs.YtnnogepjkfllnaaGreatDoor.R5
end
