/- The law armadalaw16.GraphNames in plain words. -/
import Derived.Test.YtnfiigjignpkaaaGreatDoorRga
namespace Go.Proofs.YtnfiigjignpkaaaGreatDoor
open Go Go.RowKit Go.Proofs.YtnfiigjignpkaaaGreatDoorW.PrintWords Go.Proofs.YtnfiigjignpkaaaGreatDoor.K0 Go.Proofs.YtnfiigjignpkaaaGreatDoor.R1 Go.Proofs.YtnfiigjignpkaaaGreatDoor.R3
set_option linter.unusedVariables false
set_option linter.unusedSimpArgs false

def nobody : ByteArray := ⟨#[47, 47, 110, 111, 98, 111, 100, 121]⟩
def rver (v : S42) (r : S44) : S44 := ⟨r.f0, v⟩
def rno : S44 := ⟨nobody, ⟨0, 0, 0, ⟨#[]⟩, ⟨#[]⟩⟩⟩
/-- A module under another directory, its requirements at one version, and one more, of nobody. -/
def nmod (v : S42) (x : S40) : S40 := ⟨⟨#[111, 116, 104, 101, 114]⟩, x.f1, x.f2.map (rver v) ++ [rno]⟩
theorem needs_nmod {v : S42} {x : S40} {p : ByteArray} (hp : checkOk p = true) : needs (nmod v x) p = needs x p := by
  have hne : (nobody.data.toList == p.data.toList) = false := by
    rw [beq_eq_false_iff_ne]
    intro e
    have : nobody = p := by_data e
    rw [← this] at hp
    have hno : checkOk nobody = false := by decide +kernel
    rw [hno] at hp; cases hp
  unfold needs nmod
  simp only [List.any_append, List.any_map, List.any_cons, List.any_nil, Bool.or_false]
  show ((x.f2.any fun r => r.f0.data.toList == p.data.toList) || (nobody.data.toList == p.data.toList)) = _
  rw [hne, Bool.or_false]
theorem pathsOf_nmod (v : S42) (l : List S40) : pathsOf (l.map (nmod v)) = pathsOf l := by
  unfold pathsOf; rw [List.map_map]; rfl
theorem gcheck_nmod (v : S42) (l : List S40) : gcheck (l.map (nmod v)) = gcheck l := by
  unfold gcheck
  rw [pathsOf_nmod, List.length_map, List.all_map]
  rfl
theorem edgesFrom_nmod (v : S42) (x : S40) : ∀ (l : List S40) (k : Nat), (∀ m ∈ l, checkOk m.f1 = true) → edgesFrom (nmod v x) k (l.map (nmod v)) = edgesFrom x k l
  | [], k, _ => rfl
  | m :: l, k, h => by
    rw [List.map_cons, edgesFrom_at _ k _ _ _ rfl, edgesFrom_at x k _ m l rfl, edgesFrom_nmod v x l (k + 1) (fun y hy => h y (by simp [hy]))]
    rw [show (nmod v m).f1 = m.f1 from rfl, needs_nmod (h m (by simp))]
theorem gcheck_all {l : List S40} (h : gcheck l = 0) : ∀ m ∈ l, checkOk m.f1 = true := by
  intro m hm
  have hl := gcheck_len h
  cases hc : checkOk m.f1 with
  | true => rfl
  | false => rw [gcheck_bad (by omega) hm hc] at h; cases h
theorem edgesOf_nmod (v : S42) {l : List S40} (h : gcheck l = 0) : edgesOf (l.map (nmod v)) = edgesOf l := by
  funext i
  unfold edgesOf
  rw [List.getElem?_map]
  cases hx : l[i]? with
  | none => rfl
  | some x => exact edgesFrom_nmod v x l 0 (gcheck_all h)
theorem ordG_nmod (v : S42) (l : List S40) : ordG l = ordG (l.map (nmod v)) := by
  unfold ordG
  rw [gcheck_nmod, List.length_map]
  by_cases h : gcheck l = 0
  · rw [if_pos h, if_pos h, edgesOf_nmod v h]
  · rw [if_neg h, if_neg h]
theorem cycG_nmod (v : S42) (l : List S40) : cycG l = cycG (l.map (nmod v)) := by
  unfold cycG
  rw [gcheck_nmod, List.length_map]
  by_cases h : gcheck l = 0
  · rw [if_pos h, if_pos h, edgesOf_nmod v h]
  · rw [if_neg h, if_neg h]
theorem upG_nmod (v : S42) (l : List S40) (fr : List Int) : upG l fr = upG (l.map (nmod v)) fr := by
  unfold upG
  rw [gcheck_nmod, List.length_map]
  by_cases h : gcheck l = 0
  · rw [if_pos h, if_pos h, edgesOf_nmod v h]
  · rw [if_neg h, if_neg h]
end Go.Proofs.YtnfiigjignpkaaaGreatDoor
