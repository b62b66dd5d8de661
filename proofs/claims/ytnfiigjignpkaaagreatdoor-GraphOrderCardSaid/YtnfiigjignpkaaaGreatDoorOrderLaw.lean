/- The law armadalaw16.GraphOrder in plain words. -/
import Derived.Test.YtnfiigjignpkaaaGreatDoorRga
import Derived.Test.YtnfiigjignpkaaaGreatDoorR5x
namespace Go.Proofs.YtnfiigjignpkaaaGreatDoor
open Go Go.RowKit Go.Proofs.YtnfiigjignpkaaaGreatDoorW.PrintWords Go.Proofs.YtnfiigjignpkaaaGreatDoor.K0 Go.Proofs.YtnfiigjignpkaaaGreatDoor.R1 Go.Proofs.YtnfiigjignpkaaaGreatDoor.R3 Go.Proofs.YtnfiigjignpkaaaGreatDoor.R5
set_option linter.unusedVariables false
set_option linter.unusedSimpArgs false

theorem OrdOk.at {E : Nat → List Int} {n : Nat} {o : List Int} (h : OrdOk E n o) : ∀ (k : Nat) (z : Int), o[k]? = some z → z ∉ o.take k ∧ ∀ y ∈ E z.toNat, y ∈ o.take k := by
  induction h with
  | nil => intro k z hk; simp at hk
  | @snoc o w ho h0 h1 hw hy ih =>
    intro k z hk
    by_cases hlt : k < o.length
    · rw [List.getElem?_append_left hlt] at hk
      rw [List.take_append_of_le_length (by omega)]
      exact ih k z hk
    · rw [List.getElem?_append_right (by omega)] at hk
      have hk0 : k - o.length = 0 := by
        have := (List.getElem?_eq_some_iff.1 hk).1
        simp at this; omega
      rw [hk0] at hk
      obtain rfl : w = z := by simpa using hk
      have hke : k = o.length := by omega
      subst hke
      rw [List.take_left]
      exact ⟨hw, hy⟩
theorem order_l0 (l : List S40) (h0 : gcheck l = 0) (o : List Int) (ho : OrdOk (edgesOf l) l.length o) (hol : o.length = l.length) : ∀ (d n : Nat), o.length - n = d → Ev (fun k => armadalaw16_GraphOrder.l0 k l o (n : Int)) true := by
  have hl := gcheck_len h0
  intro d
  induction d with
  | zero =>
    intro n hd
    refine Ev.step (fun k => ?_) live_end
    rw [armadalaw16_GraphOrder.l0, if_neg (by omega)]
  | succ d ih =>
    intro n hd
    obtain ⟨z, h1, h2, h3⟩ := rd_int (l := o) (n := n) (by omega)
    obtain ⟨hz0, hzn⟩ := ho.sub z (List.mem_of_getElem? h3)
    obtain ⟨hni, hyi⟩ := ho.at n z h3
    have hE : edgesG l z = edgesOf l z.toNat := by
      unfold edgesG
      rw [if_pos h0, if_pos hz0, if_pos (by omega)]
    have hEl := edgesG_len l z
    have hzin : (o.take n).contains z = false := by simpa using hni
    refine Ev.step (f := fun k => (armadaref16_In.f k (o.take n) z).bind fun t => armadalaw16_GraphOrder.j3 k l o (n : Int) t) (fun k => ?_) ?_
    · rw [armadalaw16_GraphOrder.l0, if_pos (by omega), if_pos (by omega), h1, if_neg (by omega), if_neg (by omega), if_pos (by omega), Int.toNat_natCast]
    · refine Ev.then (In_ev (o.take n) z (by rw [List.length_take]; omega)) ?_
      rw [hzin]
      refine Ev.step (f := fun k => (graph_Edges.f l z).bind fun t => armadalaw16_GraphOrder.l1 k l o (n : Int) t 0) (fun k => ?_) (Ev.then (gEdges_ev (by omega) z) ?_)
      · rw [armadalaw16_GraphOrder.j3, if_neg (by simp), if_pos (by omega), if_pos (by omega), h1]
      · rw [hE] at hEl ⊢
        generalize edgesOf l z.toNat = L at hyi hEl
        suffices H : ∀ (e m : Nat), L.length - m = e → Ev (fun k => armadalaw16_GraphOrder.l1 k l o (n : Int) L (m : Int)) true from H _ 0 rfl
        intro e
        induction e with
        | zero =>
          intro m hm
          refine Ev.step (fun k => ?_) (ih (n + 1) (by omega))
          rw [armadalaw16_GraphOrder.l1, if_neg (by omega), wrap_up (by omega)]
        | succ e ih2 =>
          intro m hm
          obtain ⟨y, g1, g2, g3⟩ := rd_int (l := L) (n := m) (by omega)
          have hyin : (o.take n).contains y = true := by simpa using hyi y (List.mem_of_getElem? g3)
          refine Ev.step (f := fun k => (armadaref16_In.f k (o.take n) y).bind fun t => if t = true then armadalaw16_GraphOrder.l1 k l o (n : Int) L ((m + 1 : Nat) : Int) else some false) (fun k => ?_) (Ev.then (In_ev (o.take n) y (by rw [List.length_take]; omega)) ?_)
          · rw [armadalaw16_GraphOrder.l1, if_pos (by omega), if_pos (by omega), if_pos (by omega), if_pos (by omega), g1, Int.toNat_natCast, wrap_up (by omega)]
          · rw [hyin]
            simpa using ih2 (m + 1) (by omega)
theorem order_no (l : List S40) (h0 : gcheck l = 0) : Ev (fun k => armadalaw16_GraphOrder.j0 k l false) true := by
  have hl := gcheck_len h0
  have h4 := ordG_len l
  have h2 := cycG_len l
  refine Ev.step (fun k => by rw [armadalaw16_GraphOrder.j0, if_neg (by simp)]) ?_
  refine Ev.then (gOrder_ev (by omega)) (Ev.then (gCyclic_ev (by omega)) ?_)
  unfold ordG cycG
  rw [if_pos h0, if_pos h0]
  rcases orderOf_cases (edgy l) with ⟨o, e, ho, hlen, hac⟩ | ⟨e, i, hi, hr⟩
  · have hnil : cycOf (edgesOf l) l.length = [] := by
      refine List.eq_nil_iff_forall_not_mem.2 fun z hz => ?_
      obtain ⟨_, hr⟩ := (mem_cycOf (edgy l) hl).1 hz
      exact hac _ ((edgy l).reach hr) hr
    rw [e, hnil]
    have hb : ((o.length : Int) != (l.length : Int)) = false := by simp [hlen]
    simp only [if_true, List.length_nil, Int.natCast_zero, hb]
    refine Ev.step (fun k => ?_) (order_l0 l h0 o ho hlen _ 0 rfl)
    rw [armadalaw16_GraphOrder.j1, if_neg (by simp)]; rfl
  · have hne : (i : Int) ∈ cycOf (edgesOf l) l.length := (mem_cycOf (edgy l) hl).2 ⟨by omega, by simpa using hr⟩
    have hpos : ((cycOf (edgesOf l) l.length).length : Int) > 0 := by have := List.length_pos_of_mem hne; omega
    rw [e]
    simp only [show ¬ ((12 : Int) = 0) by decide, if_false, if_true, List.length_nil, Int.natCast_zero, if_pos hpos]
    exact live_end
theorem order_yes (l : List S40) (b : Bool) (hb : b = true) : Ev (fun k => armadalaw16_GraphOrder.j0 k l b) true := by
  subst hb
  refine Ev.step (fun k => ?_) live_end
  rw [armadalaw16_GraphOrder.j0, if_pos rfl]
theorem order_pure (l : List S40) (hl : l.length ≤ 9223372036854775807) (hs : Short l) : ∃ k, armadalaw16_GraphOrder.f k l = some true := by
  refine Ev.rounds (r := true) ?_
  obtain ⟨b, hb, hB⟩ := Small_ev l hl hs
  unfold armadalaw16_GraphOrder.f
  refine Ev.then hb ?_
  cases b with
  | true =>
    simp only [if_true]
    refine Ev.then (gCheck_ev l) ?_
    by_cases h : gcheck l = 0
    · rw [h]; exact order_no l h
    · exact order_yes l _ (by simp [h])
  | false => simpa using order_yes l true rfl
end Go.Proofs.YtnfiigjignpkaaaGreatDoor
