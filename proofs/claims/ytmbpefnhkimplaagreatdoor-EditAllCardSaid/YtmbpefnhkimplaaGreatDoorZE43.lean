/- The texts EdOpens in one file, without what these claims do not use (put together by prune2.py). -/
import Derived.Test.YtmbpefnhkimplaaGreatDoorZE5
import Derived.Deep.Slices
import Derived.ChangeArms
import Derived.WideShapes
import Derived.ChangeMaps
section
namespace Go.Proofs.YtmbpefnhkimplaaGreatDoor
open Go Go.RowKit Go.Deep Go.WideShapes Go.Proofs.YtmbpefnhkimplaaGreatDoorW.PrintWords Go.Proofs.YtmbpefnhkimplaaGreatDoor.K0
set_option linter.unusedVariables false
section
variable {H : Type} (enc : TypeId × Value → H) (P : Program) (w : World) (base : Nat) (spare : Nat → Bool) (held : Bool)
/-- Whatever reads as a datum of a type reads by a kind. -/
def Opens {α : Type} (t : TypeId) (d : Kd α) : Prop := ∀ (fuel : Nat) (cs : List Value) (x : DataW H × List MemPlace), DataW.trod enc P w base spare held fuel t cs = some x → ∃ a : α, d.K w a cs
variable {enc P w base spare held}
theorem opens_int {t : TypeId} {k : IntKind} (ht : P.underlying t = some (.int k)) : Opens enc P w base spare held t (Kd.int k) := by
  intro fuel cs x h
  obtain ⟨z, e, _⟩ := DataW.trod_int ht h
  exact ⟨z, e⟩
theorem opens_str {t : TypeId} (ht : P.underlying t = some .string) : Opens enc P w base spare held t Kd.string := by
  intro fuel cs x h
  obtain ⟨z, e, _⟩ := DataW.trod_string ht h
  exact ⟨z, e⟩
theorem opens_iso {α β : Type} {t : TypeId} {d : Kd α} (f : β → α) (g : α → β) (hg : ∀ a, f (g a) = a) (h : Opens enc P w base spare held t d) : Opens enc P w base spare held t (Kd.iso d f) := by
  intro fuel cs x hx
  obtain ⟨a, ha⟩ := h fuel cs x hx
  exact ⟨g a, by show d.K w (f (g a)) cs; rw [hg]; exact ha⟩
theorem opens_slice {α : Type} [Inhabited α] {t e : TypeId} {d : Kd α} (ht : P.underlying t = some (.slice e)) (hc : P.cellsOf e = d.sz) (he : Opens enc P w base spare held e d) : Opens enc P w base spare held t (Kd.slice e d) := by
  intro fuel cs x h
  rcases open_slice ht h with ⟨rfl, _⟩ | ⟨a, len, cap, m, n, D, Pl, rfl, _, hl, hm, hmm, _, hx⟩
  · exact ⟨[], none, 0, rfl, Nat.le_refl _, Kd.C_nil _ _⟩
  · have hle : len ≤ m := by rw [hmm]; split <;> omega
    obtain ⟨f, hf⟩ := choose_lt (α := α) (n := len) (p := fun i y => ∃ c : List Value, c.length = d.sz ∧ d.K w y c ∧ ∀ (j : Nat) (u : Value), c[j]? = some u → w.cell? (a.add (i * d.sz + j)) = some u) (fun i hi => by
      obtain ⟨cs', h1, h2⟩ := hx i (by omega)
      obtain ⟨y, hy⟩ := he n cs' _ h2
      obtain ⟨_, hlen, hcell⟩ := World.cells?_some h1
      rw [hc] at hlen hcell
      refine ⟨y, cs', hlen, hy, fun j u hu => ?_⟩
      have hj := (List.getElem?_eq_some_iff.1 hu).1
      have := hcell j (by omega)
      rw [Deep.add_add] at this
      rw [this, hu])
    refine ⟨(List.range len).map f, some a, cap, by simp, by simpa using hl, ?_⟩
    rw [List.length_map, List.length_range]
    refine ⟨by simp, by have : maxLen = 9223372036854775807 := rfl
                        omega, fun _ => ⟨a, rfl, fun j p hp => ?_⟩⟩
    have hj : j < len := by have := (List.getElem?_eq_some_iff.1 hp).1; simpa using this
    rw [List.getElem?_map, List.getElem?_range hj] at hp
    obtain rfl : f j = p := by simpa using hp
    exact hf j hj
/-- Fields from a place on, one behind the other. -/
theorem opens_pair {α β : Type} {d0 : Kd α} {d1 : Kd β} {cs : List Value} (hl : cs.length = d0.sz + d1.sz) (h0 : ∃ a, d0.K w a (cs.take d0.sz)) (h1 : ∃ b, d1.K w b (cs.drop d0.sz)) : ∃ x, (Kd.pair d0 d1).K w x cs := by
  obtain ⟨a, ha⟩ := h0
  obtain ⟨b, hb⟩ := h1
  exact ⟨(a, b), cs.take d0.sz, cs.drop d0.sz, (List.take_append_drop _ _).symm, ha, hb⟩
theorem opens_two {α β : Type} {t : TypeId} {f0 f1 : Field} {d0 : Kd α} {d1 : Kd β} (ht : P.underlying t = some (.struct #[f0, f1])) (hC : P.cellsOf t = d0.sz + d1.sz)
    (ho : f0.offset = 0 ∧ f1.offset = d0.sz) (hk : P.cellsOf f0.type = d0.sz ∧ P.cellsOf f1.type = d1.sz) (h0 : Opens enc P w base spare held f0.type d0) (h1 : Opens enc P w base spare held f1.type d1) : Opens enc P w base spare held t (Kd.pair d0 d1) := by
  intro fuel cs x h
  obtain ⟨xs, n, _, _, hl, hxl, hg⟩ := DataW.trod_struct ht h
  have hs : xs.length = 2 := hxl
  have e0 := hg 0 f0 rfl
  have e1 := hg 1 f1 rfl
  rw [List.getElem?_eq_getElem (by omega)] at e0 e1
  rw [hC] at hl
  rw [ho.1, hk.1, List.drop_zero] at e0
  rw [ho.2, hk.2, List.take_of_length_le (by rw [List.length_drop]; omega)] at e1
  exact opens_pair hl (h0 _ _ _ e0) (h1 _ _ _ e1)
theorem opens_five {α β γ δ ε : Type} {t : TypeId} {f0 f1 f2 f3 f4 : Field} {d0 : Kd α} {d1 : Kd β} {d2 : Kd γ} {d3 : Kd δ} {d4 : Kd ε} (ht : P.underlying t = some (.struct #[f0, f1, f2, f3, f4])) (hC : P.cellsOf t = d0.sz + (d1.sz + (d2.sz + (d3.sz + d4.sz))))
    (ho : f0.offset = 0 ∧ f1.offset = d0.sz ∧ f2.offset = d0.sz + d1.sz ∧ f3.offset = d0.sz + d1.sz + d2.sz ∧ f4.offset = d0.sz + d1.sz + d2.sz + d3.sz)
    (hk : P.cellsOf f0.type = d0.sz ∧ P.cellsOf f1.type = d1.sz ∧ P.cellsOf f2.type = d2.sz ∧ P.cellsOf f3.type = d3.sz ∧ P.cellsOf f4.type = d4.sz)
    (h0 : Opens enc P w base spare held f0.type d0) (h1 : Opens enc P w base spare held f1.type d1) (h2 : Opens enc P w base spare held f2.type d2) (h3 : Opens enc P w base spare held f3.type d3) (h4 : Opens enc P w base spare held f4.type d4) :
    Opens enc P w base spare held t (Kd.pair d0 (Kd.pair d1 (Kd.pair d2 (Kd.pair d3 d4)))) := by
  intro fuel cs x h
  obtain ⟨xs, n, _, _, hl, hxl, hg⟩ := DataW.trod_struct ht h
  have hs : xs.length = 5 := hxl
  have e0 := hg 0 f0 rfl
  have e1 := hg 1 f1 rfl
  have e2 := hg 2 f2 rfl
  have e3 := hg 3 f3 rfl
  have e4 := hg 4 f4 rfl
  rw [List.getElem?_eq_getElem (by omega)] at e0 e1 e2 e3 e4
  rw [hC] at hl
  rw [ho.1, hk.1, List.drop_zero] at e0
  rw [ho.2.1, hk.2.1] at e1
  rw [ho.2.2.1, hk.2.2.1, ← List.drop_drop] at e2
  rw [ho.2.2.2.1, hk.2.2.2.1, ← List.drop_drop, ← List.drop_drop] at e3
  rw [ho.2.2.2.2, hk.2.2.2.2, ← List.drop_drop, ← List.drop_drop, ← List.drop_drop, List.take_of_length_le (by simp only [List.length_drop]; omega)] at e4
  exact opens_pair hl (h0 _ _ _ e0) (opens_pair (by show _ = d1.sz + (d2.sz + (d3.sz + d4.sz)); simp only [List.length_drop]; omega) (h1 _ _ _ e1) (opens_pair (by show _ = d2.sz + (d3.sz + d4.sz); simp only [List.length_drop]; omega) (h2 _ _ _ e2) (opens_pair (by show _ = d3.sz + d4.sz; simp only [List.length_drop]; omega) (h3 _ _ _ e3) (h4 _ _ _ e4))))
/-- A slice that was handed in. -/
theorem arg_slice {α : Type} [Inhabited α] {t e : TypeId} {d : Kd α} {r : Reach} {b0 : Nat} {v : Value} {x : DataW H} {p : List MemPlace} (ht : P.underlying t = some (.slice e)) (hc : P.cellsOf e = d.sz) (he : Opens enc P w base spare held e d)
    (hv : Value.okWide P w r b0 t v) (h : DataW.Trod enc P w base spare held t v x p) : ∃ (A : Option Addr) (c : Nat) (xs : List α), v = .slice A xs.length c ∧ xs.length ≤ c ∧ Kd.C d w A xs.length xs := by
  obtain ⟨a, len, cap, rfl⟩ := okWide_slice ht hv
  obtain ⟨fuel, hf⟩ := h
  obtain ⟨xs, A, c, e, h1, h2⟩ := opens_slice ht hc he fuel _ _ hf
  have e2 : Value.slice a len cap = .slice A xs.length c := (List.cons.inj e).1
  exact ⟨A, c, xs, e2, h1, h2⟩
end
section
variable {H : Type} {enc : TypeId × Value → H} {w : World} {base : Nat} {spare : Nat → Bool} {held : Bool}
set_option maxRecDepth 100000 in
theorem opens_ver : Opens enc Tryz.prog w base spare held 23 k23 :=
  opens_iso _ (fun a => ⟨a.1, a.2.1, a.2.2.1, a.2.2.2.1, a.2.2.2.2⟩) (fun _ => rfl) (opens_five (d0 := Kd.int .i64) (d1 := Kd.int .i64) (d2 := Kd.int .i64) (d3 := Kd.string) (d4 := Kd.string) Tryz.underlying23 (by kernel_rfl) ⟨rfl, rfl, rfl, rfl, rfl⟩ ⟨by kernel_rfl, by kernel_rfl, by kernel_rfl, by kernel_rfl, by kernel_rfl⟩
    (opens_int Tryz.underlying3) (opens_int Tryz.underlying3) (opens_int Tryz.underlying3) (opens_str Tryz.underlying9) (opens_str Tryz.underlying9))
set_option maxRecDepth 100000 in
theorem opens_req : Opens enc Tryz.prog w base spare held 25 k25 :=
  opens_iso _ (fun a => ⟨a.1, a.2⟩) (fun _ => rfl) (opens_two (d0 := Kd.string) (d1 := k23) Tryz.underlying25 (by kernel_rfl) ⟨rfl, rfl⟩ ⟨by kernel_rfl, by kernel_rfl⟩ (opens_str Tryz.underlying9) opens_ver)
instance : Inhabited S25 := ⟨z25⟩
set_option maxRecDepth 100000 in
/-- Requirements that were handed in. -/
theorem arg_reqs {r : Reach} {b0 : Nat} {v : Value} {x : DataW H} {p : List MemPlace} (hv : Value.okWide Tryz.prog w r b0 27 v) (h : DataW.Trod enc Tryz.prog w base spare held 27 v x p) :
    ∃ (A : Option Addr) (c : Nat) (xs : List S25), v = .slice A xs.length c ∧ xs.length ≤ c ∧ Kd.C k25 w A xs.length xs := arg_slice Tryz.underlying27 (by kernel_rfl) opens_req hv h
set_option maxRecDepth 100000 in
/-- A requirement that was handed in. -/
theorem arg_req {r : Reach} {b0 : Nat} {v : Value} {x : DataW H} {p : List MemPlace} (hv : Value.okWide Tryz.prog w r b0 25 v) (h : DataW.Trod enc Tryz.prog w base spare held 25 v x p) :
    ∃ (a0 : ByteArray) (a1 a2 a3 : Int) (a4 a5 : ByteArray), v = .agg #[.string a0, .int .i64 a1, .int .i64 a2, .int .i64 a3, .string a4, .string a5] := by
  obtain ⟨cs, rfl, hsz⟩ := okWide_struct Tryz.underlying25 hv
  obtain ⟨fuel, hf⟩ := h
  obtain ⟨t, ht⟩ := opens_req fuel _ _ hf
  have e := k25_open ht
  refine ⟨t.f0, t.f1.f0, t.f1.f1, t.f1.f2, t.f1.f3, t.f1.f4, ?_⟩
  have e2 : cs.toList = _ := e
  rw [← Array.toArray_toList (xs := cs), e2]
end
end Go.Proofs.YtmbpefnhkimplaaGreatDoor
end
