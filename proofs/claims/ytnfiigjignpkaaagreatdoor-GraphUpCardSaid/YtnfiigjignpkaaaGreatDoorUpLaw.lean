/- The law armadalaw16.GraphUp in plain words. -/
import Derived.Test.YtnfiigjignpkaaaGreatDoorRga
import Derived.Test.YtnfiigjignpkaaaGreatDoorR6x
namespace Go.Proofs.YtnfiigjignpkaaaGreatDoor
open Go Go.RowKit Go.Proofs.YtnfiigjignpkaaaGreatDoorW.PrintWords Go.Proofs.YtnfiigjignpkaaaGreatDoor.K0 Go.Proofs.YtnfiigjignpkaaaGreatDoor.R1 Go.Proofs.YtnfiigjignpkaaaGreatDoor.R3 Go.Proofs.YtnfiigjignpkaaaGreatDoor.R6
set_option linter.unusedVariables false
set_option linter.unusedSimpArgs false

theorem up_l1 (l : List S40) (fr u L : List Int) (more : Int) (n : Nat) (is : Bool) (hu : u.length ≤ 4294967290) (hL : L.length ≤ 4294967290) (hn : n ≤ 4294967290)
    (hnext : Ev (fun k => armadalaw16_GraphUp.l0 k l fr more u ((n + 1 : Nat) : Int)) true) : ∀ (d m : Nat) (b : Bool), L.length - m = d → u.contains (n : Int) = (is || (b || (L.drop m).any fun z => u.contains z)) →
    Ev (fun k => armadalaw16_GraphUp.l1 k l fr more u (n : Int) is L b (m : Int)) true := by
  intro d
  induction d with
  | zero =>
    intro m b hd h
    rw [drop_end (by omega), List.any_nil, Bool.or_false] at h
    refine Ev.step (f := fun k => (armadaref16_In.f k u (n : Int)).bind fun t => if is = true then (if (t != true) = true then some false else armadalaw16_GraphUp.l0 k l fr more u ((n + 1 : Nat) : Int)) else (if (t != b) = true then some false else armadalaw16_GraphUp.l0 k l fr more u ((n + 1 : Nat) : Int))) (fun k => ?_) (Ev.then (In_ev u (n : Int) (by omega)) ?_)
    · rw [armadalaw16_GraphUp.l1, if_neg (by omega), wrap_up (by omega)]
    · rw [h]
      cases is with
      | true => simpa using hnext
      | false => simpa using hnext
  | succ d ih =>
    intro m b hd h
    obtain ⟨y, g1, g2, g3⟩ := rd_int (l := L) (n := m) (by omega)
    rw [g2, List.any_cons] at h
    cases b with
    | true =>
      refine Ev.step (fun k => ?_) (ih (m + 1) true (by omega) (by rw [h]; simp))
      rw [armadalaw16_GraphUp.l1, if_pos (by omega), if_pos rfl, wrap_up (by omega)]
    | false =>
      refine Ev.step (f := fun k => (armadaref16_In.f k u y).bind fun t => armadalaw16_GraphUp.l1 k l fr more u (n : Int) is L t ((m + 1 : Nat) : Int)) (fun k => ?_) (Ev.then (In_ev u y (by omega)) (ih (m + 1) _ (by omega) (by rw [h]; simp)))
      rw [armadalaw16_GraphUp.l1, if_pos (by omega), if_neg (by simp), if_pos (by omega), g1, wrap_up (by omega)]
theorem upG_ok {l : List S40} (h0 : gcheck l = 0) (fr : List Int) : upG l fr = upOf (edgesOf l) l.length fr := by unfold upG; rw [if_pos h0]
theorem up_l2 (l : List S40) (h0 : gcheck l = 0) (fr gr : List Int) (hs : ∀ z ∈ fr, z ∈ gr) : ∀ (d m : Nat), (upG l fr).length - m = d → Ev (fun k => armadalaw16_GraphUp.l2 k l (upG l fr) (upG l gr) (m : Int)) true := by
  have hl := gcheck_len h0
  have hu := upG_len l fr
  have hv := upG_len l gr
  have hmem : ∀ z ∈ upG l fr, z ∈ upG l gr ∧ 0 ≤ z ∧ z.toNat < l.length := by
    intro z hz
    rw [upG_ok h0] at hz ⊢
    exact ⟨up_more (edgy l) hl hs hz, ((mem_upOf (edgy l) hl).1 hz).1, ((mem_upOf (edgy l) hl).1 hz).2.1⟩
  have hagain : upG l (upG l fr) = upG l fr := by
    rw [upG_ok h0, upG_ok h0]; exact up_again (edgy l) hl fr
  generalize upG l gr = v at hmem hv ⊢
  intro d
  induction d with
  | zero =>
    intro m hd
    refine Ev.step (f := fun k => (graph_Up.f l (upG l fr)).bind fun t => (armadaref16_Same.f k t (upG l fr)).bind fun s => if s = true then (armadalaw16_live.f).bind fun r => some r else some false) (fun k => ?_) (Ev.then (gUp_ev (by omega) _) (Ev.then (Same_eq hagain (by rw [hagain]; omega)) ?_))
    · rw [armadalaw16_GraphUp.l2, if_neg (by omega)]
    · simp only [if_true]
      exact live_end
  | succ d ih =>
    intro m hd
    obtain ⟨y, g1, g2, g3⟩ := rd_int (l := upG l fr) (n := m) (by omega)
    obtain ⟨hy, hy0, hyn⟩ := hmem y (List.mem_of_getElem? g3)
    have hc : v.contains y = true := by simpa using hy
    refine Ev.step (f := fun k => (armadaref16_In.f k v y).bind fun t => if t = true then armadalaw16_GraphUp.l2 k l (upG l fr) v ((m + 1 : Nat) : Int) else some false) (fun k => ?_) (Ev.then (In_ev v y (by omega)) ?_)
    · rw [armadalaw16_GraphUp.l2, if_pos (by omega), if_pos (by omega), g1, if_neg (show ¬ y < 0 by omega), if_neg (show ¬ y ≥ (l.length : Int) by omega), wrap_up (by omega)]
    · rw [hc]
      simpa using ih (m + 1) (by omega)
theorem up_l0 (l : List S40) (h0 : gcheck l = 0) (fr : List Int) (more : Int) (hfr : fr.length ≤ 30) : ∀ (d n : Nat), l.length - n = d → Ev (fun k => armadalaw16_GraphUp.l0 k l fr more (upG l fr) (n : Int)) true := by
  have hl := gcheck_len h0
  have hu := upG_len l fr
  intro d
  induction d with
  | zero =>
    intro n hd
    have h2 := up_l2 l h0 fr (([] ++ fr) ++ [more]) (fun z hz => by simp [hz]) _ 0 rfl
    refine Ev.step (f := fun k => (graph_Up.f l (([] ++ fr) ++ [more])).bind fun t => armadalaw16_GraphUp.l2 k l (upG l fr) t 0) (fun k => ?_) (Ev.then (gUp_ev (by omega) _) h2)
    rw [armadalaw16_GraphUp.l0, if_neg (by omega)]
    simp only [Option.bind_some]
    rw [if_pos (by simp; omega), if_pos (by simp; omega)]
  | succ d ih =>
    intro n hd
    have hel := edgesG_len l (n : Int)
    have hin : n < l.length := by omega
    have hstep := up_step (edgy l) hl (fr := fr) hin
    have hE : edgesG l (n : Int) = edgesOf l n := by
      unfold edgesG
      rw [if_pos h0, if_pos (by omega), if_pos (by omega), Int.toNat_natCast]
    refine Ev.step (f := fun k => (armadaref16_In.f k fr (n : Int)).bind fun t => (graph_Edges.f l (n : Int)).bind fun s => armadalaw16_GraphUp.l1 k l fr more (upG l fr) (n : Int) t s false 0) (fun k => ?_) (Ev.then (In_ev fr (n : Int) (by omega)) (Ev.then (gEdges_ev (by omega) (n : Int)) ?_))
    · rw [armadalaw16_GraphUp.l0, if_pos (by omega)]
    · refine up_l1 l fr (upG l fr) _ more n _ (by omega) (by omega) (by omega) (ih (n + 1) (by omega)) _ 0 false rfl (bool_ext ?_)
      rw [List.drop_zero, hE, upG_ok h0]
      simp only [Bool.or_eq_true, List.contains_iff_mem, List.any_eq_true, Bool.false_or]
      exact hstep
theorem up_yes (l : List S40) (fr : List Int) (more : Int) (b : Bool) (hb : b = true) : Ev (fun k => armadalaw16_GraphUp.j0 k l fr more b) true := by
  subst hb
  refine Ev.step (fun k => ?_) live_end
  rw [armadalaw16_GraphUp.j0, if_pos rfl]
theorem up_pure (l : List S40) (fr : List Int) (more : Int) (hl : l.length ≤ 9223372036854775807) (hs : Short l) (hfr : fr.length ≤ 9223372036854775807) : ∃ k, armadalaw16_GraphUp.f k l fr more = some true := by
  refine Ev.rounds (r := true) ?_
  obtain ⟨b, hb, hB⟩ := Small_ev l hl hs
  unfold armadalaw16_GraphUp.f
  refine Ev.then hb ?_
  cases b with
  | true =>
    simp only [if_true]
    by_cases h : (fr.length : Int) > 30
    · simp only [if_pos h]
      exact up_yes l fr more _ rfl
    · simp only [if_neg h]
      refine Ev.then (gCheck_ev l) ?_
      by_cases h0 : gcheck l = 0
      · rw [h0]
        have h12 := gcheck_len h0
        refine Ev.step (f := fun k => (graph_Up.f l fr).bind fun t => armadalaw16_GraphUp.l0 k l fr more t 0) (fun k => ?_) (Ev.then (gUp_ev (by omega) fr) (up_l0 l h0 fr more (by omega) _ 0 rfl))
        rw [armadalaw16_GraphUp.j0, if_neg (by simp)]
      · exact up_yes l fr more _ (by simp [h0])
  | false => simpa using up_yes l fr more true rfl
end Go.Proofs.YtnfiigjignpkaaaGreatDoor
