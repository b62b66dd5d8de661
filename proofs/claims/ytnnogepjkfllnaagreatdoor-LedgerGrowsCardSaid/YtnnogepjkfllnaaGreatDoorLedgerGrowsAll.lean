/- The law armadalaw15.LedgerGrows answers true whatever tags, tag and path it is handed, and what it was handed reads as it did; its tied card holds.
   Conditions: those of the row and the card alone: the listed variables of Go's library hold what the program's own text lays in them. -/
import Derived.Test.YtnnogepjkfllnaaGreatDoorZG39
import Derived.Test.YtnnogepjkfllnaaGreatDoorZG40
import Derived.Test.YtnnogepjkfllnaaGreatDoorZG6
import Derived.Deep.Slices
import Derived.ChangeArms
import Derived.WideShapes
import Derived.ChangeMaps
import Derived.Lib.SmallJoins
section
namespace Go.Proofs.YtnnogepjkfllnaaGreatDoor.LGrows
open Go.RowKit Go.Proofs.YtnnogepjkfllnaaGreatDoor Go.Proofs.YtnnogepjkfllnaaGreatDoor.K0 Go.Proofs.YtnnogepjkfllnaaGreatDoor.R1 Go.Proofs.YtnnogepjkfllnaaGreatDoor.R2 Go.Proofs.YtnnogepjkfllnaaGreatDoor.R3 Go.Proofs.YtnnogepjkfllnaaGreatDoor.R4 Go.Proofs.YtnnogepjkfllnaaGreatDoor.R5 Go.Proofs.YtnnogepjkfllnaaGreatDoor.RS Go.Proofs.YtnnogepjkfllnaaGreatDoorW.PrintWords Go.Proofs.YtnnogepjkfllnaaGreatDoorW.PrintLast Go.Proofs.YtnnogepjkfllnaaGreatDoorW.PrintMore
attribute [local go_sem] max2_int min2_int max_two min_two max_three min_three max_four min_four
set_option linter.unusedVariables false
set_option linter.unusedSimpArgs false
end Go.Proofs.YtnnogepjkfllnaaGreatDoor.LGrows
end

section
namespace Go.Proofs.YtnnogepjkfllnaaGreatDoor
open Go Go.RowKit Go.Proofs Go.Proofs.YtnnogepjkfllnaaGreatDoorW.PrintWords Go.Proofs.YtnnogepjkfllnaaGreatDoor.K0 Go.Proofs.YtnnogepjkfllnaaGreatDoor.R1 Go.Proofs.YtnnogepjkfllnaaGreatDoor.R2 Go.Proofs.YtnnogepjkfllnaaGreatDoor.R3 Go.Proofs.YtnnogepjkfllnaaGreatDoor.R4 Go.Proofs.YtnnogepjkfllnaaGreatDoor.R5 Go.Proofs.YtnnogepjkfllnaaGreatDoor.RS Go.Proofs.YtnnogepjkfllnaaGreatDoor.LGrows
set_option linter.unusedVariables false
set_option linter.unusedSimpArgs false
theorem live_is : armadalaw15_live.f = some true := rfl
theorem grows_j1 (l : List Tg) (t : Tg) (p : ByteArray) (h60 : l.length ≤ 60) (h200 : ∀ x ∈ l, x.f2.size ≤ 200) (ht : t.f2.size ≤ 200) (hf : firstWrong [] l = 0) (hw : wrongT l t = 0) (k : Nat) (hk : 1000 < k) :
    armadalaw15_LedgerGrows.j1 k l p (l ++ [t]) ((0 : Int) != 0) t.f0 t.f1.f0 t.f1.f1 t.f1.f2 t.f1.f3 t.f1.f4 t.f2 = some true := by
  obtain ⟨k, rfl⟩ : ∃ m, k = m + 1 := ⟨k - 1, by omega⟩
  have hlen : (l ++ [t]).length ≤ 61 := by rw [List.length_append]; simp; omega
  have hf2 : firstWrong [] (l ++ [t]) = 0 := by rw [firstWrong_app hf]; exact hw
  have hh2 : ∀ x ∈ l ++ [t], x.f2.size ≤ 200 := fun x hx => by
    rcases List.mem_append.1 hx with hx | hx
    · exact h200 x hx
    · rw [List.mem_singleton.1 hx]; exact ht
  have hsm := text_small (fun x hx => firstWrong_mem hf2 hx) hh2
  simp only [armadalaw15_LedgerGrows.j1]
  rw [if_neg (by simp), latest_f (l ++ [t]) t.f0 (by omega) k (by omega), lat_new hw, add_f (l ++ [t]) t (by omega) (by omega), latest_f l p (by omega) k (by omega), latest_f (l ++ [t]) p (by omega) k (by omega),
    text_gen (l ++ [t]) (by omega) (fun x hx => by have := hh2 x hx; omega) (fun _ => by omega)]
  unfold txtT addT
  rw [if_pos hf2, if_neg (by rw [wrong_again hw]; decide), wrong_again hw]
  simp only [Option.bind_some, live_is]
  have e : flatT (some t) = (t.f0, t.f1.f0, t.f1.f1, t.f1.f2, t.f1.f3, t.f1.f4, t.f2, true) := rfl
  rw [e]
  simp only [if_true]
  rw [if_pos (by simp)]
  by_cases hp : p = t.f0
  · rw [if_pos (by rw [hp])]
  · rw [if_neg (fun e => hp ((toList_eq_iff _ _).1 e)), lat_other (fun e => hp e.symm), if_pos (by simp), if_pos (by simp)]
theorem grows_pure (l : List Tg) (a0 : ByteArray) (a1 a2 a3 : Int) (a4 a5 a6 : ByteArray) (p : ByteArray) (hl : l.length ≤ 9223372036854775807) : ∃ k, armadalaw15_LedgerGrows.f k l a0 a1 a2 a3 a4 a5 a6 p = some true := by
  refine ⟨l.length + 100000, ?_⟩
  obtain ⟨k, hk⟩ : ∃ k, l.length + 100000 = k + 2 := ⟨l.length + 99998, by omega⟩
  obtain ⟨t, ht⟩ : ∃ t : Tg, t = ⟨a0, ⟨a1, a2, a3, a4, a5⟩, a6⟩ := ⟨_, rfl⟩
  unfold armadalaw15_LedgerGrows.f
  rw [few_f l hl _ (by omega), hk]
  simp only [Option.bind_some]
  have skip : armadalaw15_LedgerGrows.j0 (k + 2) l p true a0 a1 a2 a3 a4 a5 a6 = some true := by
    simp only [armadalaw15_LedgerGrows.j0, live_is, Option.bind_some, if_true]
  by_cases hfw : fewT l = true
  · rw [if_pos hfw, ← ht, few_f [t] (by simp) _ (by simp)]
    simp only [Option.bind_some]
    by_cases hft : fewT [t] = true
    · rw [if_pos hft]
      by_cases hs : (p.size : Int) > 200
      · rw [decide_eq_true hs]; exact skip
      · rw [decide_eq_false hs]
        obtain ⟨h60, h200⟩ := few_len hfw
        have ht200 := (few_len hft).2 t List.mem_cons_self
        have hadd := add_f l t (by omega) (by omega)
        rw [ht] at hadd
        simp only at hadd
        simp only [armadalaw15_LedgerGrows.j0]
        rw [if_neg (by simp), text_few hfw, hadd, ← ht]
        simp only [Option.bind_some]
        have j1t : ∀ x9, armadalaw15_LedgerGrows.j1 (k + 1) l p x9 true a0 a1 a2 a3 a4 a5 a6 = some true := fun x9 => by
          simp only [armadalaw15_LedgerGrows.j1, live_is, Option.bind_some, if_true]
        by_cases hf : firstWrong [] l = 0
        · unfold txtT
          rw [if_pos hf, if_pos rfl]
          by_cases hw : wrongT l t = 0
          · unfold addT
            rw [if_pos hw]
            have := grows_j1 l t p h60 h200 ht200 hf hw (k + 1) (by omega)
            rw [ht] at this ⊢
            exact this
          · unfold addT
            rw [if_neg hw]
            have e : (wrongT l t != 0) = true := by simpa using hw
            simp only
            rw [e]
            exact j1t _
        · unfold txtT
          rw [if_neg hf, if_neg hf]
          exact j1t _
    · rw [if_neg hft]; exact skip
  · rw [if_neg hfw]; exact skip
end Go.Proofs.YtnnogepjkfllnaaGreatDoor
end

section
namespace Go.Proofs.YtnnogepjkfllnaaGreatDoor
open Go Go.RowKit Go.Deep Go.WideShapes Go.Proofs.YtnnogepjkfllnaaGreatDoorW.PrintWords Go.Proofs.YtnnogepjkfllnaaGreatDoor.K0
set_option linter.unusedVariables false
section
variable {H : Type} (enc : TypeId × Value → H) (P : Program) (w : World) (base : Nat) (spare : Nat → Bool) (held : Bool)
/-- Whatever reads as a datum of a type reads by a kind. -/
def Opens {α : Type} (t : TypeId) (d : Kd α) : Prop := ∀ (fuel : Nat) (cs : List Value) (x : DataW H × List MemPlace), DataW.trod enc P w base spare held fuel t cs = some x → ∃ a : α, d.K w a cs
variable {enc P w base spare held}
theorem opens_int {t : TypeId} {k : IntKind} (ht : P.underlying t = some (.int k)) : Opens enc P w base spare held t (Kd.int k) := by
  intro fuel cs x h
  obtain ⟨z, e, _⟩ := DataW.trod_int ht h
  exact ⟨z, e⟩
theorem opens_str {t : TypeId} (ht : P.underlying t = some .string) : Opens enc P w base spare held t Kd.string := by
  intro fuel cs x h
  obtain ⟨z, e, _⟩ := DataW.trod_string ht h
  exact ⟨z, e⟩
theorem opens_iso {α β : Type} {t : TypeId} {d : Kd α} (f : β → α) (g : α → β) (hg : ∀ a, f (g a) = a) (h : Opens enc P w base spare held t d) : Opens enc P w base spare held t (Kd.iso d f) := by
  intro fuel cs x hx
  obtain ⟨a, ha⟩ := h fuel cs x hx
  exact ⟨g a, by show d.K w (f (g a)) cs; rw [hg]; exact ha⟩
theorem opens_slice {α : Type} [Inhabited α] {t e : TypeId} {d : Kd α} (ht : P.underlying t = some (.slice e)) (hc : P.cellsOf e = d.sz) (he : Opens enc P w base spare held e d) : Opens enc P w base spare held t (Kd.slice e d) := by
  intro fuel cs x h
  rcases open_slice ht h with ⟨rfl, _⟩ | ⟨a, len, cap, m, n, D, Pl, rfl, _, hl, hm, hmm, _, hx⟩
  · exact ⟨[], none, 0, rfl, Nat.le_refl _, Kd.C_nil _ _⟩
  · have hle : len ≤ m := by rw [hmm]; split <;> omega
    obtain ⟨f, hf⟩ := choose_lt (α := α) (n := len) (p := fun i y => ∃ c : List Value, c.length = d.sz ∧ d.K w y c ∧ ∀ (j : Nat) (u : Value), c[j]? = some u → w.cell? (a.add (i * d.sz + j)) = some u) (fun i hi => by
      obtain ⟨cs', h1, h2⟩ := hx i (by omega)
      obtain ⟨y, hy⟩ := he n cs' _ h2
      obtain ⟨_, hlen, hcell⟩ := World.cells?_some h1
      rw [hc] at hlen hcell
      refine ⟨y, cs', hlen, hy, fun j u hu => ?_⟩
      have hj := (List.getElem?_eq_some_iff.1 hu).1
      have := hcell j (by omega)
      rw [Deep.add_add] at this
      rw [this, hu])
    refine ⟨(List.range len).map f, some a, cap, by simp, by simpa using hl, ?_⟩
    rw [List.length_map, List.length_range]
    refine ⟨by simp, by have : maxLen = 9223372036854775807 := rfl
                        omega, fun _ => ⟨a, rfl, fun j p hp => ?_⟩⟩
    have hj : j < len := by have := (List.getElem?_eq_some_iff.1 hp).1; simpa using this
    rw [List.getElem?_map, List.getElem?_range hj] at hp
    obtain rfl : f j = p := by simpa using hp
    exact hf j hj
/-- Fields from a place on, one behind the other. -/
theorem opens_pair {α β : Type} {d0 : Kd α} {d1 : Kd β} {cs : List Value} (hl : cs.length = d0.sz + d1.sz) (h0 : ∃ a, d0.K w a (cs.take d0.sz)) (h1 : ∃ b, d1.K w b (cs.drop d0.sz)) : ∃ x, (Kd.pair d0 d1).K w x cs := by
  obtain ⟨a, ha⟩ := h0
  obtain ⟨b, hb⟩ := h1
  exact ⟨(a, b), cs.take d0.sz, cs.drop d0.sz, (List.take_append_drop _ _).symm, ha, hb⟩
theorem opens_three {α β γ : Type} {t : TypeId} {f0 f1 f2 : Field} {d0 : Kd α} {d1 : Kd β} {d2 : Kd γ} (ht : P.underlying t = some (.struct #[f0, f1, f2])) (hC : P.cellsOf t = d0.sz + (d1.sz + d2.sz))
    (ho : f0.offset = 0 ∧ f1.offset = d0.sz ∧ f2.offset = d0.sz + d1.sz) (hk : P.cellsOf f0.type = d0.sz ∧ P.cellsOf f1.type = d1.sz ∧ P.cellsOf f2.type = d2.sz)
    (h0 : Opens enc P w base spare held f0.type d0) (h1 : Opens enc P w base spare held f1.type d1) (h2 : Opens enc P w base spare held f2.type d2) : Opens enc P w base spare held t (Kd.pair d0 (Kd.pair d1 d2)) := by
  intro fuel cs x h
  obtain ⟨xs, n, _, _, hl, hxl, hg⟩ := DataW.trod_struct ht h
  have hs : xs.length = 3 := hxl
  have e0 := hg 0 f0 rfl
  have e1 := hg 1 f1 rfl
  have e2 := hg 2 f2 rfl
  rw [List.getElem?_eq_getElem (by omega)] at e0 e1 e2
  rw [hC] at hl
  rw [ho.1, hk.1, List.drop_zero] at e0
  rw [ho.2.1, hk.2.1] at e1
  rw [ho.2.2, hk.2.2, ← List.drop_drop, List.take_of_length_le (by rw [List.length_drop, List.length_drop]; omega)] at e2
  exact opens_pair hl (h0 _ _ _ e0) (opens_pair (by rw [List.length_drop]; omega) (h1 _ _ _ e1) (h2 _ _ _ e2))
theorem opens_five {α β γ δ ε : Type} {t : TypeId} {f0 f1 f2 f3 f4 : Field} {d0 : Kd α} {d1 : Kd β} {d2 : Kd γ} {d3 : Kd δ} {d4 : Kd ε} (ht : P.underlying t = some (.struct #[f0, f1, f2, f3, f4])) (hC : P.cellsOf t = d0.sz + (d1.sz + (d2.sz + (d3.sz + d4.sz))))
    (ho : f0.offset = 0 ∧ f1.offset = d0.sz ∧ f2.offset = d0.sz + d1.sz ∧ f3.offset = d0.sz + d1.sz + d2.sz ∧ f4.offset = d0.sz + d1.sz + d2.sz + d3.sz)
    (hk : P.cellsOf f0.type = d0.sz ∧ P.cellsOf f1.type = d1.sz ∧ P.cellsOf f2.type = d2.sz ∧ P.cellsOf f3.type = d3.sz ∧ P.cellsOf f4.type = d4.sz)
    (h0 : Opens enc P w base spare held f0.type d0) (h1 : Opens enc P w base spare held f1.type d1) (h2 : Opens enc P w base spare held f2.type d2) (h3 : Opens enc P w base spare held f3.type d3) (h4 : Opens enc P w base spare held f4.type d4) :
    Opens enc P w base spare held t (Kd.pair d0 (Kd.pair d1 (Kd.pair d2 (Kd.pair d3 d4)))) := by
  intro fuel cs x h
  obtain ⟨xs, n, _, _, hl, hxl, hg⟩ := DataW.trod_struct ht h
  have hs : xs.length = 5 := hxl
  have e0 := hg 0 f0 rfl
  have e1 := hg 1 f1 rfl
  have e2 := hg 2 f2 rfl
  have e3 := hg 3 f3 rfl
  have e4 := hg 4 f4 rfl
  rw [List.getElem?_eq_getElem (by omega)] at e0 e1 e2 e3 e4
  rw [hC] at hl
  rw [ho.1, hk.1, List.drop_zero] at e0
  rw [ho.2.1, hk.2.1] at e1
  rw [ho.2.2.1, hk.2.2.1, ← List.drop_drop] at e2
  rw [ho.2.2.2.1, hk.2.2.2.1, ← List.drop_drop, ← List.drop_drop] at e3
  rw [ho.2.2.2.2, hk.2.2.2.2, ← List.drop_drop, ← List.drop_drop, ← List.drop_drop, List.take_of_length_le (by simp only [List.length_drop]; omega)] at e4
  exact opens_pair hl (h0 _ _ _ e0) (opens_pair (by show _ = d1.sz + (d2.sz + (d3.sz + d4.sz)); simp only [List.length_drop]; omega) (h1 _ _ _ e1) (opens_pair (by show _ = d2.sz + (d3.sz + d4.sz); simp only [List.length_drop]; omega) (h2 _ _ _ e2) (opens_pair (by show _ = d3.sz + d4.sz; simp only [List.length_drop]; omega) (h3 _ _ _ e3) (h4 _ _ _ e4))))
/-- A slice that was handed in. -/
theorem arg_slice {α : Type} [Inhabited α] {t e : TypeId} {d : Kd α} {r : Reach} {b0 : Nat} {v : Value} {x : DataW H} {p : List MemPlace} (ht : P.underlying t = some (.slice e)) (hc : P.cellsOf e = d.sz) (he : Opens enc P w base spare held e d)
    (hv : Value.okWide P w r b0 t v) (h : DataW.Trod enc P w base spare held t v x p) : ∃ (A : Option Addr) (c : Nat) (xs : List α), v = .slice A xs.length c ∧ xs.length ≤ c ∧ Kd.C d w A xs.length xs := by
  obtain ⟨a, len, cap, rfl⟩ := okWide_slice ht hv
  obtain ⟨fuel, hf⟩ := h
  obtain ⟨xs, A, c, e, h1, h2⟩ := opens_slice ht hc he fuel _ _ hf
  have e2 : Value.slice a len cap = .slice A xs.length c := (List.cons.inj e).1
  exact ⟨A, c, xs, e2, h1, h2⟩
end
section
variable {H : Type} {enc : TypeId × Value → H} {w : World} {base : Nat} {spare : Nat → Bool} {held : Bool}
set_option maxRecDepth 100000 in
theorem opens_ver : Opens enc Tryz.prog w base spare held 30 k30 :=
  opens_iso _ (fun a => ⟨a.1, a.2.1, a.2.2.1, a.2.2.2.1, a.2.2.2.2⟩) (fun _ => rfl) (opens_five (d0 := Kd.int .i64) (d1 := Kd.int .i64) (d2 := Kd.int .i64) (d3 := Kd.string) (d4 := Kd.string) Tryz.underlying30 (by kernel_rfl) ⟨rfl, rfl, rfl, rfl, rfl⟩ ⟨by kernel_rfl, by kernel_rfl, by kernel_rfl, by kernel_rfl, by kernel_rfl⟩
    (opens_int Tryz.underlying3) (opens_int Tryz.underlying3) (opens_int Tryz.underlying3) (opens_str Tryz.underlying9) (opens_str Tryz.underlying9))
set_option maxRecDepth 100000 in
theorem opens_tag : Opens enc Tryz.prog w base spare held 32 k32 :=
  opens_iso _ (fun a => ⟨a.1, a.2.1, a.2.2⟩) (fun _ => rfl) (opens_three (d0 := Kd.string) (d1 := k30) (d2 := Kd.string) Tryz.underlying32 (by kernel_rfl) ⟨rfl, rfl, rfl⟩ ⟨by kernel_rfl, by kernel_rfl, by kernel_rfl⟩
    (opens_str Tryz.underlying9) opens_ver (opens_str Tryz.underlying9))
instance : Inhabited S32 := ⟨z32⟩
set_option maxRecDepth 100000 in
/-- Tags that were handed in. -/
theorem arg_tags {r : Reach} {b0 : Nat} {v : Value} {x : DataW H} {p : List MemPlace} (hv : Value.okWide Tryz.prog w r b0 23 v) (h : DataW.Trod enc Tryz.prog w base spare held 23 v x p) :
    ∃ (A : Option Addr) (c : Nat) (xs : List S32), v = .slice A xs.length c ∧ xs.length ≤ c ∧ Kd.C k32 w A xs.length xs := arg_slice Tryz.underlying23 (by kernel_rfl) opens_tag hv h
set_option maxRecDepth 100000 in
/-- A tag that was handed in. -/
theorem arg_tag {r : Reach} {b0 : Nat} {v : Value} {x : DataW H} {p : List MemPlace} (hv : Value.okWide Tryz.prog w r b0 32 v) (h : DataW.Trod enc Tryz.prog w base spare held 32 v x p) :
    ∃ (a0 : ByteArray) (a1 a2 a3 : Int) (a4 a5 a6 : ByteArray), v = .agg #[.string a0, .int .i64 a1, .int .i64 a2, .int .i64 a3, .string a4, .string a5, .string a6] := by
  obtain ⟨cs, rfl, hsz⟩ := okWide_struct Tryz.underlying32 hv
  obtain ⟨fuel, hf⟩ := h
  obtain ⟨t, ht⟩ := opens_tag fuel _ _ hf
  have e := k32_open ht
  refine ⟨t.f0, t.f1.f0, t.f1.f1, t.f1.f2, t.f1.f3, t.f1.f4, t.f2, ?_⟩
  have e2 : cs.toList = _ := e
  rw [← Array.toArray_toList (xs := cs), e2]
end
end Go.Proofs.YtnnogepjkfllnaaGreatDoor
end

section
namespace Go.Proofs.YtnnogepjkfllnaaGreatDoor
open Go Go.ChangeShapes Go.WideShapes Go.ChangeAt Go.RowKit Go.Joins Go.Deep Go.Proofs.YtnnogepjkfllnaaGreatDoor.LGrows
set_option linter.unusedVariables false
set_option maxRecDepth 100000 in
theorem ledgerGrows_lifted (os : Os) (started : os.Started) (H : Type) (enc : TypeId × Value → H) :
    ReturnsInHanded {} Tryz.checked os 6 .any (fun w args => (Rows.ledgerGrowsSpec.pre enc Tryz.prog Tryz.f6 Rows.ledgerGrowsRow.domain false w args ∧ laidMetH Tryz.prog Rows.ledgerGrowsRow.laid w) ∧ sizedMet enc Tryz.prog Tryz.f6 (OpenSpec.ofChange Rows.ledgerGrowsSpec) false w args)
      (Rows.ledgerGrowsSpec.post enc Tryz.prog Tryz.f6 false true false false) := by
  refine lifted_of (C := Tryz.checked) (tb := 4) laidOut rfl own started (by kernel_rfl) Tryz.func6 (by kernel_rfl) (by kernel_rfl) Tryz.underlying4 ?_
    (ChangeSpec.witness_shaped (enc := enc) (C := Tryz.checked) (os := os) (X := fun w _ => laidMetH Tryz.prog Rows.ledgerGrowsRow.laid w) false (World.laidAll Tryz.prog os Rows.ledgerGrowsRow.laid) #[.slice none 0 0, .agg #[.string ⟨#[]⟩, .int .i64 0, .int .i64 0, .int .i64 0, .string ⟨#[]⟩, .string ⟨#[]⟩, .string ⟨#[]⟩], .string ⟨#[]⟩] 8 (World.laidAll_os _ _ _)
      (World.shaped_of_ZipB (by kernel_rfl) (by kernel_rfl)) (by kernel_rfl) (by kernel_rfl) (by kernel_rfl)
      (by rw [MakeChecks.laidMetH_plain _ _ _ (by kernel_rfl)]; exact laidMet_laidAll _ (by kernel_rfl) (by kernel_rfl))) ?_
  · intro ds hd
    match ds, hd.trans (show Tryz.f6.params.size = 3 by kernel_rfl) with
    | [_, _, _], _ => rfl
  · intro W base args ds ps hval0 hA0 hz hsh hL
    have hval : ∀ (j : Nat) t v, Tryz.f6.params[j]? = some t → args[j]? = some v → Value.okWide Tryz.prog W .any base t v := hval0
    have hA : DataW.TrodAll enc Tryz.prog W 0 (fun _ => true) true Tryz.f6.params.toList args.toList ds ps := hA0
    rw [Tryz.params6] at hA hval
    obtain ⟨v0, v1, v2, d0, d1, d2, p0, p1, p2, rfl, rfl, rfl, h0, h1, h2⟩ := trodAll_three hA
    obtain ⟨A0, c0, x0, rfl, hc0, hr0⟩ := arg_tags (hval 0 23 v0 rfl rfl) h0
    obtain ⟨x1a, x1b, x1c, x1d, x1p, x1q, x1h, rfl⟩ := arg_tag (hval 1 32 v1 rfl rfl) h1
    obtain ⟨x2, rfl, rfl, rfl, _⟩ := ChangeMaps.open_string Tryz.underlying9 (hval 2 9 v2 rfl rfl) h2
    obtain ⟨k, hk⟩ := grows_pure x0 x1a x1b x1c x1d x1p x1q x1h x2 hr0.2.1
    exact armadalaw15_LedgerGrows.calls k A0 c0 x0 x1a x1b x1c x1d x1p x1q x1h x2 true W hr0 hc0 (gw_of hsh hL) rfl hk
theorem ledgerGrows_holds : Rows.LedgerGrowsSaid :=
  OpenClaim.holds_of_wide 6 Tryz.f6 rfl rfl rfl rfl rfl rfl rfl ⟨rfl, rfl, rfl, rfl, rfl⟩ rfl rfl rfl rfl rfl (by kernel_rfl) Tryz.func6 (by kernel_rfl)
    (of_decide_eq_true (by kernel_rfl)) (by unfold Func.isWrapper; first | (rw [if_pos (by decide +kernel)]; kernel_rfl) | (rw [if_neg (by decide +kernel)]; exact ⟨rfl, rfl⟩))
    (fun os started H enc _ => ledgerGrows_lifted os started H enc)
theorem ledgerGrows_card : Rows.LedgerGrowsCardSaid :=
  Claim7.holds_tied_plain_at .later [] [.data, .data, .data, .data, .sentinel, .sentinel, .pinned] true (true, "467e72078bdb4086deb25c68794a13b6caf9d6440c40e548494a61aec24032e9") true ledgerGrows_holds (fun _ h => by cases h) (by kernel_rfl) (fun _ h => by cases h) ledgerGrows_row_tie rfl ⟨rfl, rfl⟩ (by kernel_rfl) rfl
    (fun f fn hf hfn => by
      obtain rfl : f = 6 := Option.some.inj ((show Tryz.prog.funcNamed "armada/armadalaw15.LedgerGrows" = some 6 by kernel_rfl).symm.trans hf) |>.symm
      obtain rfl : fn = Tryz.f6 := (Option.some.inj (Tryz.func6.symm.trans hfn)).symm
      exact ⟨by kernel_rfl, fun j t ht => by
        rw [Tryz.params6] at ht
        have hm : t ∈ [23, 32, 9] := by simpa using Array.mem_of_getElem? ht
        have hall : ([23, 32, 9].all fun u => !Tryz.prog.wantsStandIn u) = true := by kernel_rfl
        exact (show Tryz.prog.wantsStandIn t = false by simpa using List.all_eq_true.1 hall t hm)⟩)
    (by kernel_rfl)
#print axioms ledgerGrows_card
end Go.Proofs.YtnnogepjkfllnaaGreatDoor
end
