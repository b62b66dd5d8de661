/- The law armadalaw16.GraphTells in plain words. -/
import Derived.Test.YtnfiigjignpkaaaGreatDoorRga
import Derived.Test.YtnfiigjignpkaaaGreatDoorR4x
namespace Go.Proofs.YtnfiigjignpkaaaGreatDoor
open Go Go.RowKit Go.Proofs.YtnfiigjignpkaaaGreatDoorW.PrintWords Go.Proofs.YtnfiigjignpkaaaGreatDoor.K0 Go.Proofs.YtnfiigjignpkaaaGreatDoor.R1 Go.Proofs.YtnfiigjignpkaaaGreatDoor.R3 Go.Proofs.YtnfiigjignpkaaaGreatDoor.R4
set_option linter.unusedVariables false
set_option linter.unusedSimpArgs false

theorem tells_yes (l : List S40) (i : Int) (fr : List Int) (b : Bool) (hb : b = true) : Ev (fun k => armadalaw16_GraphTells.j0 k l i fr b) true := by
  subst hb
  refine Ev.step (fun k => ?_) live_end
  rw [armadalaw16_GraphTells.j0, if_pos rfl]
theorem tells_no (l : List S40) (i : Int) (fr : List Int) (hl : l.length ≤ 20) (hs : Short l) (hfr : fr.length ≤ 9223372036854775807) : Ev (fun k => armadalaw16_GraphTells.j0 k l i fr false) true := by
  have h1 := edgesG_len l i
  have h2 := cycG_len l
  have h3 := upG_len l fr
  have h4 := ordG_len l
  refine Ev.step (fun k => by rw [armadalaw16_GraphTells.j0, if_neg (by simp)]) ?_
  refine Ev.then (gOrder_ev (by omega)) (Ev.then (Order_ev l hs (by omega)) (Ev.then (gCheck_ev l) (Ev.then (Check_ev l) ?_)))
  simp only [if_true]
  refine Ev.then (gEdges_ev (by omega) i) (Ev.then (Edges_ev l hs i) (Ev.then (Same_self _ (by omega)) ?_))
  simp only [if_true]
  refine Ev.then (gCyclic_ev (by omega)) (Ev.then (Cyclic_ev l hs (by omega)) (Ev.then (Same_self _ (by omega)) ?_))
  simp only [if_true]
  refine Ev.then (Same_self _ (by omega)) ?_
  simp only [if_true]
  refine Ev.then (gUp_ev (by omega) fr) (Ev.then (Up_ev l hs fr hfr) (Ev.then (Same_self _ (by omega)) ?_))
  simp only [if_true]
  exact live_end
theorem tells_pure (l : List S40) (i : Int) (fr : List Int) (hl : l.length ≤ 9223372036854775807) (hs : Short l) (hfr : fr.length ≤ 9223372036854775807) : ∃ k, armadalaw16_GraphTells.f k l i fr = some true := by
  refine Ev.rounds (r := true) ?_
  obtain ⟨b, hb, hB⟩ := Small_ev l hl hs
  unfold armadalaw16_GraphTells.f
  refine Ev.then hb ?_
  cases b with
  | true =>
    simp only [if_true]
    by_cases h : (fr.length : Int) > 30
    · exact tells_yes l i fr _ (decide_eq_true h)
    · rw [decide_eq_false h]
      exact tells_no l i fr (hB rfl).1 hs hfr
  | false => simpa using tells_yes l i fr true rfl
end Go.Proofs.YtnfiigjignpkaaaGreatDoor
