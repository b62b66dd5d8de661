/- What the hand-made contracts ask of Go's library's own variables: a fact on the world that lives on while nothing below is turned. -/
import Derived.Test.YtnfiigjignpkaaaGreatDoorK0x
import Derived.Test.YtnfiigjignpkaaaGreatDoorStr
import Derived.Lib.LaidTab
import Derived.Lib.ItoaNum
import Derived.Sort.Grow
import Derived.WalkSmall
import Derived.Lib.SmallJoins
namespace Go.Proofs.YtnfiigjignpkaaaGreatDoor
open Go Go.RowKit Go.Sort Go.Proofs Go.Proofs.YtnfiigjignpkaaaGreatDoorW.PrintWords

structure GW (w : World) : Prop where
  maxLen : ∃ m, w.cell? ⟨4, 0, none⟩ = some (.int .i64 m)
  pow10 : Lib.TabIs Tryz.prog w "internal/strconv.uint64pow10" .u64 Lib.pow10Tab
  errS : ∃ tp p, w.var? Tryz.prog "strconv.ErrSyntax" = some #[.iface tp p]
  errR : ∃ tp p, w.var? Tryz.prog "strconv.ErrRange" = some #[.iface tp p]

theorem var_stays {P : Program} {w W : World} {nm : String} {cs : Array Value} (hb : Below w.heap.size w W) (h : w.var? P nm = some cs) : W.var? P nm = some cs := by
  cases hg : P.globalNamed nm with
  | none => simp [World.var?, hg] at h
  | some g =>
    have hlt : g < w.heap.size := by
      unfold World.var? at h
      rw [hg] at h
      simp only [Option.bind_some] at h
      cases hh : w.heap[g]? with
      | none => rw [hh] at h; cases h
      | some o => exact (Array.getElem?_eq_some_iff.1 hh).1
    exact var?_below hb hg hlt h
theorem GW.below {w W : World} (h : GW w) (hb : Below w.heap.size w W) : GW W where
  maxLen := by
    obtain ⟨m, hm⟩ := h.maxLen
    exact ⟨m, pw_cell_below hb hm⟩
  pow10 := var_stays hb h.pow10
  errS := by
    obtain ⟨tp, p, hv⟩ := h.errS
    exact ⟨tp, p, var_stays hb hv⟩
  errR := by
    obtain ⟨tp, p, hv⟩ := h.errR
    exact ⟨tp, p, var_stays hb hv⟩
/-- A row of strings in a new block. -/
theorem R_strings (w : World) (l : List ByteArray) (hl : l.length ≤ 9223372036854775807) (t : TypeId) :
    Kd.R Kd.string t (w.alloc (.cells (l.map Value.string).toArray t)) w.heap.size (fun _ => True) (.slice (some ⟨w.heap.size, 0, none⟩) l.length l.length) l := by
  refine Kd.R_of_own (enc := Value.string) (h1 := fun _ => rfl) ?_ (fun _ _ => trivial)
  have h := World.ownsRow_lit (base := w.heap.size) (e := t) (size := 1) w (l.map Value.string).toArray l.length (Nat.le_refl _) (by simpa [maxLen] using hl) (by simp)
  simpa [encs] using h
theorem below_grow (w : World) (n : Nat) (os : Array Obj) : Below w.heap.size w (grow (w.drewN n) os) :=
  ⟨rfl, rfl, rfl, by show w.heap.size ≤ (w.heap ++ os).size; simp, fun k hk => by show (w.heap ++ os)[k]? = _; rw [Array.getElem?_append_left hk]⟩
end Go.Proofs.YtnfiigjignpkaaaGreatDoor
