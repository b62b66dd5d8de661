/- The texts IClone in one file, without what these claims do not use (put together by prune2.py). -/
import Derived.Test.YtillhaipemengaaGreatDoorZU4
import Derived.Lib.SliceRun
import Derived.Shelf.Abstract
section
namespace Go.Proofs.YtillhaipemengaaGreatDoor
open Go Go.RowKit Go.Proofs Go.Proofs.YtillhaipemengaaGreatDoorW.PrintWords Go.Proofs.YtillhaipemengaaGreatDoor.K0
set_option linter.unusedVariables false
set_option linter.unusedSimpArgs false
def icl (t : Int) : List Value := [.int .i64 t]
def ics (l : List Int) : List Value := l.flatMap icl
theorem ics_len (l : List Int) : (ics l).length = l.length * 1 := by
  induction l with
  | nil => rfl
  | cons t l ih => unfold ics at ih ⊢; rw [List.flatMap_cons, List.length_append, ih, List.length_cons]; simp [icl]; omega
theorem ics_drop : ∀ (l : List Int) (j : Nat), (ics l).drop (j * 1) = ics (l.drop j)
  | [], j => by simp [ics]
  | t :: l, 0 => rfl
  | t :: l, j + 1 => by
    have ih := ics_drop l j
    have e : (j + 1) * 1 = (icl t).length + j * 1 := by simp [icl]; omega
    rw [List.drop_succ_cons, ← ih, e]
    show List.drop _ (icl t ++ ics l) = _
    rw [← List.drop_drop, List.drop_left]
theorem ics_at {l : List Int} {j : Nat} {t : Int} (h : l[j]? = some t) : ((ics l).drop (j * 1)).take 1 = icl t := by
  obtain ⟨hj, e⟩ := List.getElem?_eq_some_iff.1 h
  rw [ics_drop, List.drop_eq_getElem_cons hj, e]
  show List.take 1 (icl t ++ ics (l.drop (j + 1))) = _
  exact List.take_left' rfl
theorem ics_row (l : List Int) (w : World) (b : Nat) (ok : Nat → Prop) : Reps ((Kd.int .i64).M w b ok) 1 l (ics l) :=
  ⟨ics_len l, fun j p hp => by rw [ics_at hp]; exact rfl⟩
theorem ics_cells {w : World} {A : Option Addr} {l : List Int} {ad : Addr} (h : Kd.C (Kd.int .i64) w (some ad) l.length l) (j : Nat) (u : Value) (hu : (ics l)[j]? = some u) : w.cell? (ad.add j) = some u := by
  have hj : j < l.length * 1 := by rw [← ics_len]; exact (List.getElem?_eq_some_iff.1 hu).1
  obtain ⟨t, ht⟩ : ∃ t, l[j / 1]? = some t := ⟨_, List.getElem?_eq_getElem (by omega)⟩
  obtain ⟨ad2, hA, hc⟩ := h.2.2 (by omega)
  obtain rfl := Option.some.inj hA
  obtain ⟨c, _, hK, hcell⟩ := hc (j / 1) t ht
  obtain rfl : c = icl t := hK
  have e : (ics l)[j]? = (icl t)[j % 1]? := by
    rw [← ics_at ht, List.getElem?_take, if_pos (Nat.mod_lt _ (by decide)), List.getElem?_drop]
    congr 1; omega
  rw [e] at hu
  have := hcell (j % 1) u hu
  rwa [show j / 1 * (Kd.int .i64).sz + j % 1 = j from by show j / 1 * 1 + j % 1 = j; omega] at this
def slices_Clone.f (l0 : List Int) : Option (List Int) := if l0.length * 8 ≤ 140737488355328 then some l0 else none
set_option maxRecDepth 100000 in
set_option maxHeartbeats 1000000 in
theorem slices_Clone.calls (A0 : Option Addr) (c0 : Nat) (l0 : List Int) (r : List Int) (w : World) (hr0 : Kd.C (Kd.int .i64) w A0 l0.length l0) (hc0 : l0.length ≤ c0) (h : slices_Clone.f l0 = some r) :
    Calls Tryz.prog 40 #[.slice A0 l0.length c0] w fun e w' => ∃ v0_ : Value, e = .returned (v0_) ∧ Kd.R (Kd.int .i64) 3 w' w.heap.size (fun _ => True) v0_ r ∧ Below w.heap.size w w' := by
  unfold slices_Clone.f at h
  split at h
  · rename_i hs
    obtain rfl := Option.some.inj h
    clear h hc0
    have q := fun (w : World) (a : Option Addr) (n c n' c' : Nat) => Lib.run_eql_slice_nil w 39 3 a n c n' c' Tryz.underlying39
    cases A0 with
    | none =>
      have h0 : l0 = [] := by
        rcases l0 with _ | ⟨b, l⟩
        · rfl
        · obtain ⟨ad, hA, _⟩ := hr0.2.2 (by simp)
          cases hA
      subst h0
      clear hr0
      go_enter Tryz.func40, Tryz.ntmps40
      go_wp2
      go_ret
      exact ⟨_, rfl, Kd.R_nil _ _ _ _ _, Below.refl _ _⟩
    | some ad =>
      obtain ⟨i0, hi, hz0, hz1, hz2⟩ := info_parts info3
      have HC := Aside0.mk (ics_cells (A := none) hr0)
      have hb := hr0.2.1
      have hlen := ics_len l0
      have HROW := Aside0.mk (fun W b ok => ics_row l0 W b ok)
      have hone : ∀ u ∈ ics l0, u.oneCell' = true := by
        intro u hu
        obtain ⟨t, _, ht⟩ := List.mem_flatMap.1 hu
        simp only [icl, List.mem_cons, List.not_mem_nil, or_false] at ht
        rcases ht with rfl <;> rfl
      have HONE := Aside0.mk hone
      obtain ⟨n, hn⟩ : ∃ n, n = l0.length := ⟨_, rfl⟩
      rw [← hn] at hb hlen hs ⊢
      have HL := Aside0.mk hlen
      have HN := Aside0.mk hn
      clear hr0 hone hlen hn
      go_enter Tryz.func40, Tryz.ntmps40
      go_wp2_with (at_builtin; refine wpList_append_own _ rfl _ _ 39 rfl w.heap.size 3 i0 _ 1 8 Tryz.underlying39 hi hz0 hz1 hz2 rfl (by decide) _ _ _ rfl (World.ownsRow_made w #[] 0 (Nat.le_refl _) (Nat.zero_le _) (by simp)) ad n c0 (ics l0) rfl ?qc1 ?qc2 ?qc3 ?qc4 ?qc5 ?qc6 ?_)
      case qc1 => exact HL.out
      case qc2 => exact fun j u hj => Lib.cell?_alloc_some _ (HC.out j u hj)
      case qc3 => exact HONE.out
      case qc4 => rw [Nat.zero_add]; exact hb
      case qc5 => rw [Nat.zero_add]; exact hs
      case qc6 => simp
      intro v' w1 hown hgrow hnil
      go_wp2
      go_ret
      refine ⟨v', rfl, ⟨fun _ _ => trivial, ics l0, ?_, HROW.out _ _ _⟩, ?_⟩
      · rw [← HN.out]
        exact hown
      · exact ((Below.refl _ w).alloc (Nat.le_refl _) _).grown hgrow (by simp) (by intro k hk; simp [Value.ownBlock] at hk; omega)
  · cases h
end Go.Proofs.YtillhaipemengaaGreatDoor
end
