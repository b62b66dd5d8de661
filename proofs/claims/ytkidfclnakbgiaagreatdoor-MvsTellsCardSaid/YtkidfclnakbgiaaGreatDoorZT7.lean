/- The texts MvRng, WEqStruct in one file, without what these claims do not use (put together by prune2.py). -/
import Derived.Test.YtkidfclnakbgiaaGreatDoorZT5
import Derived.Sort.LotA
import Derived.Test.YtkidfclnakbgiaaGreatDoorZT0
import Derived.Laws.StructEq
section
namespace Go.Proofs.YtkidfclnakbgiaaGreatDoor
open Go Go.Sort
set_option linter.unusedVariables false
set_option linter.unusedSimpArgs false
set_option linter.unusedSectionVars false
namespace Mv
section
variable {R : Type} [DecidableEq R] (m : Mv R)
/-- Those collected so far: those greatest ones whose path is no longer to come. -/
structure RngIs (b : List UInt8 → Option R) (left : List UInt8 → Bool) (acc : List R) : Prop where
  mem : ∀ z, z ∈ acc ↔ b (m.path z) = some z ∧ left (m.path z) = false
  nd : (acc.map m.path).Nodup
variable {m}
theorem RngIs.step {b : List UInt8 → Option R} {left : List UInt8 → Bool} {acc : List R} (h : m.RngIs b left acc) {c : R} {p : List UInt8} (hb : b p = some c) (hp : m.path c = p) (hl : left p = true) {left' : List UInt8 → Bool} (hl' : ∀ q, left' q = (left q && !decide (q = p))) : m.RngIs b left' (acc ++ [c]) where
  mem z := by
    rw [List.mem_append, List.mem_singleton, h.mem, hl']
    by_cases e : m.path z = p
    · constructor
      · rintro (⟨h1, h2⟩ | rfl)
        · exact ⟨h1, by simp [e]⟩
        · exact ⟨by rw [hp]; exact hb, by simp [hp]⟩
      · rintro ⟨h1, _⟩
        rw [e, hb] at h1
        exact Or.inr (Option.some.inj h1).symm
    · constructor
      · rintro (⟨h1, h2⟩ | rfl)
        · exact ⟨h1, by simp [h2]⟩
        · exact absurd hp e
      · rintro ⟨h1, h2⟩
        exact Or.inl ⟨h1, by simpa [e] using h2⟩
  nd := by
    rw [List.map_append, List.map_singleton]
    refine List.nodup_append.2 ⟨h.nd, by simp, fun a ha q hq e => ?_⟩
    obtain ⟨z, hz, rfl⟩ := List.mem_map.1 ha
    obtain rfl := List.mem_singleton.1 hq
    have := ((h.mem z).1 hz).2
    rw [e, hp, hl] at this
    cases this
theorem RngIs.len {b : List UInt8 → Option R} {left : List UInt8 → Bool} {acc : List R} (h : m.RngIs b left acc) {all : List R} (hb : ∀ p c, b p = some c → c ∈ all) : acc.length ≤ all.length := by
  have := nodup_len h.nd (m := all.map m.path) (fun p hp => by
    obtain ⟨z, hz, rfl⟩ := List.mem_map.1 hp
    exact List.mem_map.2 ⟨z, hb _ _ ((h.mem z).1 hz).1, rfl⟩)
  simpa using this
theorem rng_start (b : List UInt8 → Option R) {left : List UInt8 → Bool} (h : ∀ p, left p = (b p).isSome) : m.RngIs b left [] where
  mem z := by
    constructor
    · intro h; cases h
    · rintro ⟨h1, h2⟩
      rw [h, h1] at h2
      cases h2
  nd := List.nodup_nil
/-- The order of two by their paths. -/
def byPath (m : Mv R) (x y : R) : Int := Lib.compareBytes (m.path x) (m.path y)
theorem cbytes_trans {a b c : List UInt8} (h1 : ¬ Lib.compareBytes a b < 0) (h2 : ¬ Lib.compareBytes b c < 0) : ¬ Lib.compareBytes a c < 0 := by
  have rg : ∀ a b : List UInt8, Lib.compareBytes a b < 0 ↔ Lib.compareBytes a b = -1 := fun a b => by
    have : ∀ a b : List UInt8, Lib.compareBytes a b = -1 ∨ Lib.compareBytes a b = 0 ∨ Lib.compareBytes a b = 1 := fun a => by
      induction a with
      | nil => intro b; cases b; exact Or.inr (Or.inl rfl); exact Or.inl rfl
      | cons x a ih =>
        intro b
        cases b with
        | nil => exact Or.inr (Or.inr rfl)
        | cons y b =>
          unfold Lib.compareBytes
          split
          · exact Or.inl rfl
          · split
            · exact Or.inr (Or.inr rfl)
            · exact ih b
    rcases this a b with h | h | h <;> omega
  rw [rg] at *
  intro h
  by_cases e1 : a = b
  · exact h2 (e1 ▸ h)
  · by_cases e2 : b = c
    · exact h1 (e2 ▸ h)
    · have g1 := bytes_total e1 h1
      have g2 := bytes_total e2 h2
      have g3 := bytes_trans g2 g1
      have := bytes_trans h g3
      have irr : ∀ l : List UInt8, Lib.compareBytes l l ≠ -1 := fun l => by
        induction l with
        | nil => simp [Lib.compareBytes]
        | cons a l ih => unfold Lib.compareBytes; simp [UInt8.lt_irrefl, ih]
      exact irr _ this
theorem byPath_neg {x y : R} : byPath m x y < 0 ↔ m.lt x y := by
  unfold byPath lt
  constructor
  · intro h
    by_cases e : m.path x = m.path y
    · rw [e] at h
      have irr : ∀ l : List UInt8, Lib.compareBytes l l = 0 := fun l => by
        induction l with
        | nil => rfl
        | cons a l ih => unfold Lib.compareBytes; simp [UInt8.lt_irrefl, ih]
      rw [irr] at h; omega
    · by_cases h2 : Lib.compareBytes (m.path x) (m.path y) = -1
      · exact h2
      · exfalso
        have g := bytes_total e h2
        exact (cbytes_trans (a := m.path x) (b := m.path x) (c := m.path y) (by
          have irr : ∀ l : List UInt8, Lib.compareBytes l l = 0 := fun l => by
            induction l with
            | nil => rfl
            | cons a l ih => unfold Lib.compareBytes; simp [UInt8.lt_irrefl, ih]
          rw [irr]; omega) (fun h3 => by
            have rg : ∀ a b : List UInt8, Lib.compareBytes a b < 0 → Lib.compareBytes a b = -1 := fun a => by
              induction a with
              | nil => intro b h; cases b; simp [Lib.compareBytes] at h; rfl
              | cons x a ih =>
                intro b h
                cases b with
                | nil => simp [Lib.compareBytes] at h
                | cons y b =>
                  unfold Lib.compareBytes at h ⊢
                  split
                  · rfl
                  · rename_i h1
                    rw [if_neg h1] at h
                    split
                    · rename_i h2
                      rw [if_pos h2] at h; omega
                    · rename_i h2
                      rw [if_neg h2] at h
                      exact ih b h
            exact h2 (rg _ _ h3))) h
  · intro h; rw [h]; decide
theorem byPath_swo (m : Mv R) : SWO (fun x y => decide (byPath m x y < 0)) where
  irrefl x := by
    have := m.lt_irrefl x
    rw [← byPath_neg] at this
    simpa using this
  trans x y z h1 h2 := by
    simp only [decide_eq_true_eq, byPath_neg] at *
    exact lt_trans h1 h2
  ntrans x y z h1 h2 := by
    simp only [decide_eq_false_iff_not] at *
    exact cbytes_trans h1 h2
/-- What is collected, sorted, is what is listed. -/
theorem sorted_listed [Inhabited R] (g : m.Good) {all acc : List R} (hm : ∀ r ∈ all, m.may r = true) {left : List UInt8 → Bool} (h : m.RngIs (m.best all) left acc) (hl : ∀ p, left p = false) {d' : Array R} (hp : PermIn 0 acc.toArray.size acc.toArray d') (hs : SortedIn (fun x y => decide (byPath m x y < 0)) 0 acc.toArray.size d') : d'.toList = m.listed all := by
  obtain ⟨hsz, _, hperm⟩ := hp
  have e1 : d'.extract 0 acc.toArray.size = d' := by rw [← hsz]; exact Array.extract_size
  rw [e1, Array.extract_size] at hperm
  refine rising_unique ?_ (listed_rising g hm) (fun x => ?_)
  · refine List.pairwise_iff_getElem.2 fun i j hi hj hij => ?_
    have hi' : i < d'.size := by simpa using hi
    have hj' : j < d'.size := by simpa using hj
    have h1 := hs i j (Nat.zero_le _) hij (by omega)
    rw [getElem!_pos d' j hj', getElem!_pos d' i hi'] at h1
    simp only [decide_eq_false_iff_not, byPath_neg] at h1
    have hnd : (d'.toList.map m.path).Nodup := (hperm.map m.path).nodup_iff.2 h.nd
    have hne := (List.pairwise_iff_getElem.1 hnd) i j (by simpa using hi) (by simpa using hj) hij
    rw [List.getElem_map, List.getElem_map] at hne
    exact lt_total (fun e => hne e.symm) h1
  · rw [hperm.mem_iff, listed_mem g hm, show acc.toArray.toList = acc from rfl, h.mem]
    exact ⟨fun h => h.1, fun h => ⟨h, hl _⟩⟩
end
end Mv
end Go.Proofs.YtkidfclnakbgiaaGreatDoor
end

section
namespace Go.Proofs.YtkidfclnakbgiaaGreatDoorW.PrintWords
open Go.RowKit
section
variable {P : Program} {d : Nat} {xs ys : Array Value} {f : Field} {fs : List Field} {a b : Value} {r s : Bool} {w : World}
theorem eqf_last (hn : (f.name == "_") = false) (ha : (part f.type xs f.offset).run P w = .ok a w) (hb : (part f.type ys f.offset).run P w = .ok b w) (he : (Op.equalIn d f.type a b).run P w = .ok r w) : (Op.eqFields d xs ys [f]).run P w = .ok r w := by
  have hn' : f.name ≠ "_" := by simpa using hn
  simp only [Op.eqFields, if_pos hn', Sem.run_bind, ha, hb, he, Result.andThen_ok]
  cases r <;> simp
theorem eqf_cons (hn : (f.name == "_") = false) (ha : (part f.type xs f.offset).run P w = .ok a w) (hb : (part f.type ys f.offset).run P w = .ok b w) (he : (Op.equalIn d f.type a b).run P w = .ok r w) (hr : (Op.eqFields d xs ys fs).run P w = .ok s w) : (Op.eqFields d xs ys (f :: fs)).run P w = .ok (r && s) w := by
  have hn' : f.name ≠ "_" := by simpa using hn
  rw [Op.eqFields]
  simp only [if_pos hn', Sem.run_bind, ha, hb, he, Result.andThen_ok]
  cases r
  · simp
  · simpa using hr
theorem eqA_of {t : TypeId} {fs : Array Field} (hu : P.underlying t = some (.struct fs)) (hp : P.stoodInHeld t = false) (h : (Op.eqFields d xs ys fs.toList).run P w = .ok r w) : (Op.equalIn (d + 1) t (.agg xs) (.agg ys)).run P w = .ok r w := by
  have hf : P.fieldsOf t = fs := by simp [Program.fieldsOf, hu]
  rw [run_equalIn_struct (P := P) w d t xs ys (by rw [hf]; exact hu) hp, hf]
  exact h
end
end Go.Proofs.YtkidfclnakbgiaaGreatDoorW.PrintWords
end
