/- The texts K0x0, K0x, Gw, As, BpEv in one file, without what these claims do not use (put together by prune2.py). -/
import Derived.Test.YtmbpefnhkimplaaGreatDoorProg
import Derived.Below
import Derived.Deep.Draws
import Derived.Deep.AppendLies
import Derived.Maps.AppendAt
import Derived.OwnWalk
import Derived.Laws.BytesArg
import Derived.Laws.MakeOwn
import Derived.Laws.OwnMore
import Derived.Deep.OwnRows
import Derived.Tactics
import Derived.Lib.ConvBytes
import Derived.Laws.Slices
import Derived.WalkKit
import Derived.KernelRfl
import Derived.RowKit3
import Derived.Deep.LoopGhost
import Derived.Deep.QuietTactic
import Derived.BigQuiet
import Derived.WideLaws
import Derived.Deep.DeepCutAuto
import Derived.Deep.CutBlock
import Derived.Deep.RegionHeld3
import Derived.Laws.Rows
import Derived.Lib.AppendStr
import Derived.ArgAppend
import Derived.Laws.IdiomCopy
import Derived.OrdersHeld
import Derived.Laws.BitsLemmas
import Derived.RowKit
import Derived.Test.YtmbpefnhkimplaaGreatDoorZE0
import Derived.Test.YtmbpefnhkimplaaGreatDoorZE1
import Derived.Test.YtmbpefnhkimplaaGreatDoorZE2
import Derived.Test.YtmbpefnhkimplaaGreatDoorZE3
import Derived.Lib.LaidTab
import Derived.Lib.ItoaNum
import Derived.Sort.Grow
import Derived.WalkSmall
import Derived.Lib.SmallJoins
import Derived.Deep.MidRow
section
namespace Go.Proofs.YtmbpefnhkimplaaGreatDoor.K0
open Go.RowKit Go.Proofs.YtmbpefnhkimplaaGreatDoor Go.Proofs.YtmbpefnhkimplaaGreatDoorW.PrintWords Go.Proofs.YtmbpefnhkimplaaGreatDoorW.PrintLast Go.Proofs.YtmbpefnhkimplaaGreatDoorW.PrintMore
attribute [local go_sem] max2_int min2_int max_two min_two max_three min_three max_four min_four
set_option linter.unusedVariables false
set_option linter.unusedSimpArgs false
def errW : Option Int → Value
 | none => .nilIface
 | some c => .iface 0 (.int .i64 c)
theorem errW_none : errW none = .nilIface := rfl
theorem errW_some (c : Int) : errW (some c) = .iface 0 (.int .i64 c) := rfl
theorem isEmpty_bne (l : List UInt8) : (l != []) = !l.isEmpty := by cases l <;> rfl
theorem info25 : (Tryz.prog.info? 25).map (fun i => (i.zero, i.size, i.bytes)) = some (some (.agg #[(.string ⟨#[]⟩), (.int .i64 0), (.int .i64 0), (.int .i64 0), (.string ⟨#[]⟩), (.string ⟨#[]⟩)]), 6, 72) := by kernel_rfl
theorem info89 : (Tryz.prog.info? 89).map (fun i => (i.zero, i.size, i.bytes)) = some (some (.agg #[(.string ⟨#[]⟩), (.string ⟨#[]⟩)]), 2, 32) := by kernel_rfl
theorem info90 : (Tryz.prog.info? 90).map (fun i => (i.zero, i.size, i.bytes)) = some (some (.agg #[(.int .i64 0), (.int .i64 0), (.int .i64 0), (.string ⟨#[]⟩), (.string ⟨#[]⟩), (.int .i64 0), (.int .i64 0), (.int .i64 0), (.string ⟨#[]⟩), (.string ⟨#[]⟩)]), 10, 112) := by kernel_rfl
theorem info142 : (Tryz.prog.info? 142).map (fun i => (i.zero, i.size, i.bytes)) = some (some (.agg #[(.slice none 0 0), (.string ⟨#[]⟩)]), 2, 40) := by kernel_rfl
theorem info159 : (Tryz.prog.info? 159).map (fun i => (i.zero, i.size, i.bytes)) = some (some (.agg #[(.string ⟨#[]⟩), (.int .i64 0)]), 2, 24) := by kernel_rfl
structure S23 where
 f0 : Int
 f1 : Int
 f2 : Int
 f3 : ByteArray
 f4 : ByteArray
def z23 : S23 := ⟨(0 : Int), (0 : Int), (0 : Int), (⟨#[]⟩ : ByteArray), (⟨#[]⟩ : ByteArray)⟩
def k23 : Kd S23 := Kd.iso (Kd.pair (Kd.int .i64) (Kd.pair (Kd.int .i64) (Kd.pair (Kd.int .i64) (Kd.pair Kd.string Kd.string)))) (fun x : S23 => (x.f0, x.f1, x.f2, x.f3, x.f4))
theorem k23_open {w : World} {x : S23} {cs : List Value} (h : k23.K w x cs) : cs = [.int .i64 x.f0, .int .i64 x.f1, .int .i64 x.f2, .string x.f3, .string x.f4] := by
 obtain ⟨_, _, rfl, rfl, ⟨_, _, rfl, rfl, ⟨_, _, rfl, rfl, ⟨_, _, rfl, rfl, rfl⟩⟩⟩⟩ := h
 exact rfl
theorem k23_mk (w : World) (x : S23)  : k23.K w x [.int .i64 x.f0, .int .i64 x.f1, .int .i64 x.f2, .string x.f3, .string x.f4] := ⟨[.int .i64 x.f0], [.int .i64 x.f1, .int .i64 x.f2, .string x.f3, .string x.f4], rfl, rfl, ⟨[.int .i64 x.f1], [.int .i64 x.f2, .string x.f3, .string x.f4], rfl, rfl, ⟨[.int .i64 x.f2], [.string x.f3, .string x.f4], rfl, rfl, ⟨[.string x.f3], [.string x.f4], rfl, rfl, rfl⟩⟩⟩⟩
theorem k23_mkM (w : World) (base : Nat) (ok : Nat → Prop) (x : S23)  : k23.M w base ok x [.int .i64 x.f0, .int .i64 x.f1, .int .i64 x.f2, .string x.f3, .string x.f4] := ⟨[.int .i64 x.f0], [.int .i64 x.f1, .int .i64 x.f2, .string x.f3, .string x.f4], rfl, rfl, ⟨[.int .i64 x.f1], [.int .i64 x.f2, .string x.f3, .string x.f4], rfl, rfl, ⟨[.int .i64 x.f2], [.string x.f3, .string x.f4], rfl, rfl, ⟨[.string x.f3], [.string x.f4], rfl, rfl, rfl⟩⟩⟩⟩
structure S25 where
 f0 : ByteArray
 f1 : S23
def z25 : S25 := ⟨(⟨#[]⟩ : ByteArray), z23⟩
def k25 : Kd S25 := Kd.iso (Kd.pair Kd.string k23) (fun x : S25 => (x.f0, x.f1))
theorem k25_open {w : World} {x : S25} {cs : List Value} (h : k25.K w x cs) : cs = [.string x.f0, .int .i64 x.f1.f0, .int .i64 x.f1.f1, .int .i64 x.f1.f2, .string x.f1.f3, .string x.f1.f4] := by
 obtain ⟨_, _, rfl, rfl, s1⟩ := h
 obtain rfl := k23_open s1
 exact rfl
theorem k25_mk (w : World) (x : S25)  : k25.K w x [.string x.f0, .int .i64 x.f1.f0, .int .i64 x.f1.f1, .int .i64 x.f1.f2, .string x.f1.f3, .string x.f1.f4] := ⟨[.string x.f0], [.int .i64 x.f1.f0, .int .i64 x.f1.f1, .int .i64 x.f1.f2, .string x.f1.f3, .string x.f1.f4], rfl, rfl, (k23_mk w x.f1 )⟩
theorem k25_mkM (w : World) (base : Nat) (ok : Nat → Prop) (x : S25)  : k25.M w base ok x [.string x.f0, .int .i64 x.f1.f0, .int .i64 x.f1.f1, .int .i64 x.f1.f2, .string x.f1.f3, .string x.f1.f4] := ⟨[.string x.f0], [.int .i64 x.f1.f0, .int .i64 x.f1.f1, .int .i64 x.f1.f2, .string x.f1.f3, .string x.f1.f4], rfl, rfl, (k23_mkM w base ok x.f1 )⟩
def rd_T25 (xs : List S25) (i : Int) : S25 := xs.getD i.toNat z25
theorem at_T25 {w : World} {A : Option Addr} {n : Nat} {xs : List S25} (h : Kd.C k25 w A n xs) (i : Int) (h0 : 0 ≤ i) (h1 : i < n) : ∃ ad , A = some ad ∧ w.cell? (ad.add (i.toNat * 6)) = some (.string (rd_T25 xs i).f0) ∧ w.cell? ⟨(ad.add (i.toNat * 6)).block, (ad.add (i.toNat * 6)).off + 1, none⟩ = some (.int .i64 (rd_T25 xs i).f1.f0) ∧ w.cell? ⟨(ad.add (i.toNat * 6)).block, (ad.add (i.toNat * 6)).off + 2, none⟩ = some (.int .i64 (rd_T25 xs i).f1.f1) ∧ w.cell? ⟨(ad.add (i.toNat * 6)).block, (ad.add (i.toNat * 6)).off + 3, none⟩ = some (.int .i64 (rd_T25 xs i).f1.f2) ∧ w.cell? ⟨(ad.add (i.toNat * 6)).block, (ad.add (i.toNat * 6)).off + 4, none⟩ = some (.string (rd_T25 xs i).f1.f3) ∧ w.cell? ⟨(ad.add (i.toNat * 6)).block, (ad.add (i.toNat * 6)).off + 5, none⟩ = some (.string (rd_T25 xs i).f1.f4) := by
 obtain ⟨ad, c, e, _, hK, hc0⟩ := Kd.C_get h z25 i h0 h1
 have hc : ∀ j u, c[j]? = some u → w.cell? (ad.add (i.toNat * 6 + j)) = some u := hc0
 obtain rfl := k25_open hK
 exact ⟨ad, e, hc 0 _ rfl, by rw [← add_field _ _ 1 (by omega)]; exact hc 1 _ rfl, by rw [← add_field _ _ 2 (by omega)]; exact hc 2 _ rfl, by rw [← add_field _ _ 3 (by omega)]; exact hc 3 _ rfl, by rw [← add_field _ _ 4 (by omega)]; exact hc 4 _ rfl, by rw [← add_field _ _ 5 (by omega)]; exact hc 5 _ rfl⟩
structure S89 where
 f0 : ByteArray
 f1 : ByteArray
def z89 : S89 := ⟨(⟨#[]⟩ : ByteArray), (⟨#[]⟩ : ByteArray)⟩
def k89 : Kd S89 := Kd.iso (Kd.pair Kd.string Kd.string) (fun x : S89 => (x.f0, x.f1))
theorem k89_open {w : World} {x : S89} {cs : List Value} (h : k89.K w x cs) : cs = [.string x.f0, .string x.f1] := by
 obtain ⟨_, _, rfl, rfl, rfl⟩ := h
 exact rfl
theorem k89_mk (w : World) (x : S89)  : k89.K w x [.string x.f0, .string x.f1] := ⟨[.string x.f0], [.string x.f1], rfl, rfl, rfl⟩
theorem k89_mkM (w : World) (base : Nat) (ok : Nat → Prop) (x : S89)  : k89.M w base ok x [.string x.f0, .string x.f1] := ⟨[.string x.f0], [.string x.f1], rfl, rfl, rfl⟩
def rd_T89 (xs : List S89) (i : Int) : S89 := xs.getD i.toNat z89
theorem at_T89 {w : World} {A : Option Addr} {n : Nat} {xs : List S89} (h : Kd.C k89 w A n xs) (i : Int) (h0 : 0 ≤ i) (h1 : i < n) : ∃ ad , A = some ad ∧ w.cell? (ad.add (i.toNat * 2)) = some (.string (rd_T89 xs i).f0) ∧ w.cell? ⟨(ad.add (i.toNat * 2)).block, (ad.add (i.toNat * 2)).off + 1, none⟩ = some (.string (rd_T89 xs i).f1) := by
 obtain ⟨ad, c, e, _, hK, hc0⟩ := Kd.C_get h z89 i h0 h1
 have hc : ∀ j u, c[j]? = some u → w.cell? (ad.add (i.toNat * 2 + j)) = some u := hc0
 obtain rfl := k89_open hK
 exact ⟨ad, e, hc 0 _ rfl, by rw [← add_field _ _ 1 (by omega)]; exact hc 1 _ rfl⟩
structure S90 where
 f0 : S23
 f1 : S23
def k90 : Kd S90 := Kd.iso (Kd.pair k23 k23) (fun x : S90 => (x.f0, x.f1))
theorem k90_mkM (w : World) (base : Nat) (ok : Nat → Prop) (x : S90)  : k90.M w base ok x [.int .i64 x.f0.f0, .int .i64 x.f0.f1, .int .i64 x.f0.f2, .string x.f0.f3, .string x.f0.f4, .int .i64 x.f1.f0, .int .i64 x.f1.f1, .int .i64 x.f1.f2, .string x.f1.f3, .string x.f1.f4] := ⟨[.int .i64 x.f0.f0, .int .i64 x.f0.f1, .int .i64 x.f0.f2, .string x.f0.f3, .string x.f0.f4], [.int .i64 x.f1.f0, .int .i64 x.f1.f1, .int .i64 x.f1.f2, .string x.f1.f3, .string x.f1.f4], rfl, (k23_mkM w base ok x.f0 ), (k23_mkM w base ok x.f1 )⟩
structure S55 where
 f0 : ByteArray
 f1 : ByteArray
 f2 : (List S25)
 f3 : (List S89)
 f4 : (List S25)
 f5 : (List S90)
def z55 : S55 := ⟨(⟨#[]⟩ : ByteArray), (⟨#[]⟩ : ByteArray), ([] : List S25), ([] : List S89), ([] : List S25), ([] : List S90)⟩
structure S159 where
 f0 : ByteArray
 f1 : Int
def z159 : S159 := ⟨(⟨#[]⟩ : ByteArray), (0 : Int)⟩
def k159 : Kd S159 := Kd.iso (Kd.pair Kd.string (Kd.int .i64)) (fun x : S159 => (x.f0, x.f1))
theorem k159_open {w : World} {x : S159} {cs : List Value} (h : k159.K w x cs) : cs = [.string x.f0, .int .i64 x.f1] := by
 obtain ⟨_, _, rfl, rfl, rfl⟩ := h
 exact rfl
theorem k159_mkM (w : World) (base : Nat) (ok : Nat → Prop) (x : S159)  : k159.M w base ok x [.string x.f0, .int .i64 x.f1] := ⟨[.string x.f0], [.int .i64 x.f1], rfl, rfl, rfl⟩
def rd_T159 (xs : List S159) (i : Int) : S159 := xs.getD i.toNat z159
theorem at_T159 {w : World} {A : Option Addr} {n : Nat} {xs : List S159} (h : Kd.C k159 w A n xs) (i : Int) (h0 : 0 ≤ i) (h1 : i < n) : ∃ ad , A = some ad ∧ w.cell? (ad.add (i.toNat * 2)) = some (.string (rd_T159 xs i).f0) ∧ w.cell? ⟨(ad.add (i.toNat * 2)).block, (ad.add (i.toNat * 2)).off + 1, none⟩ = some (.int .i64 (rd_T159 xs i).f1) := by
 obtain ⟨ad, c, e, _, hK, hc0⟩ := Kd.C_get h z159 i h0 h1
 have hc : ∀ j u, c[j]? = some u → w.cell? (ad.add (i.toNat * 2 + j)) = some u := hc0
 obtain rfl := k159_open hK
 exact ⟨ad, e, hc 0 _ rfl, by rw [← add_field _ _ 1 (by omega)]; exact hc 1 _ rfl⟩
structure S142 where
 f0 : (List S159)
 f1 : ByteArray
def z142 : S142 := ⟨([] : List S159), (⟨#[]⟩ : ByteArray)⟩
def k142 : Kd S142 := Kd.iso (Kd.pair (Kd.slice 159 k159) Kd.string) (fun x : S142 => (x.f0, x.f1))
theorem k142_open {w : World} {x : S142} {cs : List Value} (h : k142.K w x cs) : ∃ A0 c0, cs = [.slice A0 x.f0.length c0, .string x.f1] ∧ x.f0.length ≤ c0 ∧ k159.C w A0 x.f0.length x.f0 := by
 obtain ⟨_, _, rfl, ⟨A0, c0, rfl, l0, g0⟩, rfl⟩ := h
 exact ⟨A0, c0, rfl, l0, g0⟩
theorem k142_mkM (w : World) (base : Nat) (ok : Nat → Prop) (x : S142) {v0 : Value} (g0 : k159.R 159 w base ok v0 x.f0) : k142.M w base ok x [v0, .string x.f1] := ⟨[v0], [.string x.f1], rfl, ⟨v0, rfl, g0⟩, rfl⟩
def rd_T142 (xs : List S142) (i : Int) : S142 := xs.getD i.toNat z142
theorem at_T142 {w : World} {A : Option Addr} {n : Nat} {xs : List S142} (h : Kd.C k142 w A n xs) (i : Int) (h0 : 0 ≤ i) (h1 : i < n) : ∃ ad A0 c0, A = some ad ∧ w.cell? (ad.add (i.toNat * 2)) = some (.slice A0 (rd_T142 xs i).f0.length c0) ∧ w.cell? ⟨(ad.add (i.toNat * 2)).block, (ad.add (i.toNat * 2)).off + 1, none⟩ = some (.string (rd_T142 xs i).f1) ∧ (rd_T142 xs i).f0.length ≤ c0 ∧ k159.C w A0 (rd_T142 xs i).f0.length (rd_T142 xs i).f0 := by
 obtain ⟨ad, c, e, _, hK, hc0⟩ := Kd.C_get h z142 i h0 h1
 have hc : ∀ j u, c[j]? = some u → w.cell? (ad.add (i.toNat * 2 + j)) = some u := hc0
 obtain ⟨A0, c0, rfl, l0, g0⟩ := k142_open hK
 exact ⟨ad, A0, c0, e, hc 0 _ rfl, by rw [← add_field _ _ 1 (by omega)]; exact hc 1 _ rfl, l0, g0⟩
end Go.Proofs.YtmbpefnhkimplaaGreatDoor.K0
end

section
namespace Go.Proofs.YtmbpefnhkimplaaGreatDoor.K0
open Go.RowKit Go.Proofs.YtmbpefnhkimplaaGreatDoor Go.Proofs.YtmbpefnhkimplaaGreatDoorW.PrintWords Go.Proofs.YtmbpefnhkimplaaGreatDoorW.PrintLast Go.Proofs.YtmbpefnhkimplaaGreatDoorW.PrintMore
attribute [local go_sem] max2_int min2_int max_two min_two max_three min_three max_four min_four
set_option linter.unusedVariables false
set_option linter.unusedSimpArgs false
end Go.Proofs.YtmbpefnhkimplaaGreatDoor.K0
end

section
namespace Go.Proofs.YtmbpefnhkimplaaGreatDoor
open Go Go.RowKit Go.Sort Go.Proofs Go.Proofs.YtmbpefnhkimplaaGreatDoorW.PrintWords
structure GW (w : World) : Prop where
  maxLen : ∃ m, w.cell? ⟨0, 0, none⟩ = some (.int .i64 m)
  pow10 : Lib.TabIs Tryz.prog w "internal/strconv.uint64pow10" .u64 Lib.pow10Tab
  errT : w.cell? ⟨1, 0, none⟩ = some (.iface 198 (.agg #[typeHandle Tryz.prog 95]))
  errS : ∃ tp p, w.var? Tryz.prog "strconv.ErrSyntax" = some #[.iface tp p]
  errR : ∃ tp p, w.var? Tryz.prog "strconv.ErrRange" = some #[.iface tp p]
theorem var_stays {P : Program} {w W : World} {nm : String} {cs : Array Value} (hb : Below w.heap.size w W) (h : w.var? P nm = some cs) : W.var? P nm = some cs := by
  cases hg : P.globalNamed nm with
  | none => simp [World.var?, hg] at h
  | some g =>
    have hlt : g < w.heap.size := by
      unfold World.var? at h
      rw [hg] at h
      simp only [Option.bind_some] at h
      cases hh : w.heap[g]? with
      | none => rw [hh] at h; cases h
      | some o => exact (Array.getElem?_eq_some_iff.1 hh).1
    exact var?_below hb hg hlt h
theorem GW.below {w W : World} (h : GW w) (hb : Below w.heap.size w W) : GW W where
  maxLen := by
    obtain ⟨m, hm⟩ := h.maxLen
    exact ⟨m, pw_cell_below hb hm⟩
  pow10 := var_stays hb h.pow10
  errT := pw_cell_below hb h.errT
  errS := by
    obtain ⟨tp, p, hv⟩ := h.errS
    exact ⟨tp, p, var_stays hb hv⟩
  errR := by
    obtain ⟨tp, p, hv⟩ := h.errR
    exact ⟨tp, p, var_stays hb hv⟩
/-- A row of strings in a new block. -/
theorem R_strings (w : World) (l : List ByteArray) (hl : l.length ≤ 9223372036854775807) (t : TypeId) :
    Kd.R Kd.string t (w.alloc (.cells (l.map Value.string).toArray t)) w.heap.size (fun _ => True) (.slice (some ⟨w.heap.size, 0, none⟩) l.length l.length) l := by
  refine Kd.R_of_own (enc := Value.string) (h1 := fun _ => rfl) ?_ (fun _ _ => trivial)
  have h := World.ownsRow_lit (base := w.heap.size) (e := t) (size := 1) w (l.map Value.string).toArray l.length (Nat.le_refl _) (by simpa [maxLen] using hl) (by simp)
  simpa [encs] using h
theorem below_grow (w : World) (n : Nat) (os : Array Obj) : Below w.heap.size w (grow (w.drewN n) os) :=
  ⟨rfl, rfl, rfl, by show w.heap.size ≤ (w.heap ++ os).size; simp, fun k hk => by show (w.heap ++ os)[k]? = _; rw [Array.getElem?_append_left hk]⟩
end Go.Proofs.YtmbpefnhkimplaaGreatDoor
end

section
namespace Go.Proofs.YtmbpefnhkimplaaGreatDoor
open Go Go.RowKit Go.Proofs.YtmbpefnhkimplaaGreatDoorW.PrintWords Go.Proofs.YtmbpefnhkimplaaGreatDoorW.PrintLast
set_option linter.unusedVariables false
set_option linter.unusedSimpArgs false
def bitsA (n m : Nat) : Array Bool := ((List.range n).map fun i => m.testBit i).toArray
theorem bitsA_none (n : Nat) : Array.replicate n false = bitsA n 0 := by
  unfold bitsA
  rw [← List.toArray_replicate]
  congr 1
  refine (List.eq_replicate_iff.2 ⟨by simp, fun b hb => ?_⟩).symm
  obtain ⟨i, _, rfl⟩ := List.mem_map.1 hb
  exact Nat.zero_testBit i
section
variable {P : Program} {ops : Array Oper} {Q : Exit → Act → World → Prop} {S : World → Prop} {T : Bool × List (List Nat × List Nat)} {B : List Nat} {ds : List Nat} {n m fuel : Nat} {a : Act} {w : World}
theorem sX {id : Nat} (hT : rtab .any ops = T) (hB : waitsOk T.2 B = true) (hS : S w.drew)
    (h : Aside0 (rtab .any ops = T) → Aside0 (waitsOk T.2 B = true) → S w.drew → wpAnyLast P .any ops Q S ds n (bitsA n 0) a w.drew) (hm : P.follows .mixedOrders = true := by kernel_rfl) (hn : ops.size = n := by rfl) : (Code.region id ops true).wp P Q a w :=
  start_ (bitsA n 0) hm hn (bitsA_none n) hS (fun hh => h ⟨hT⟩ ⟨hB⟩ hh)
/-- An operation that looks at no memory. -/
theorem pX (HT : Aside0 (rtab .any ops = T)) (i m' d : Nat) {oi : Oper} {v : Value} {a' : Act} (h : wpAnyLast P .any ops Q S ds fuel (bitsA n m') a' w)
    (hi : ops[i]? = some oi := by rfl) (hN : oi.dst = some d := by rfl) (hc : anyT T (bitsA n m).toList (bitsA n m').toList i = true := by kernel_rfl) (hQ : ∀ c a w, Q (.panic c) (a.put oi.dst v) w → Q (.panic c) a w := by exact fun _ _ _ h => h)
    (hw : Region.wanted oi (yielded ops a.tmps) = true := by kernel_rfl) (hy : ∀ w, (execOp a.eval oi).run P w = .ok (.value v) w := by (intro w'; go_simp; with_reducible rfl))
    (ha : a.put (some d) v = a' := by (simp only [Act.put, List.setIfInBounds_toArray, List.set_cons_zero, List.set_cons_succ, i64_w, i32_w]; rfl)) : wpAnyLast P .any ops Q S ds (fuel + 1) (bitsA n m) a w :=
  pure_ (bitsA n m') hi hN (any_of HT.out hc) hQ (Or.inl ⟨hw, hy⟩) ha h
/-- A load of what S tells. -/
theorem tX (HT : Aside0 (rtab .any ops = T)) (HW : Aside0 (waitsOk T.2 B = true)) (hS : S w) (i m' d : Nat) {oi : Oper} {v : Value} {a' : Act} (h : wpAnyLast P .any ops Q S ds fuel (bitsA n m') a' w)
    (hi : ops[i]? = some oi := by rfl) (hN : oi.dst = some d := by rfl) (hc : takeW T B ds (bitsA n m).toList (bitsA n m').toList i = true := by kernel_rfl) (hQ : ∀ c a w, Q (.panic c) (a.put oi.dst v) w → Q (.panic c) a w := by exact fun _ _ _ h => h)
    (hw : Region.wanted oi (yielded ops a.tmps) = true := by kernel_rfl) (hy : ∀ w, S w → (execOp a.eval oi).run P w = .ok (.value v) w := by (intro w' hs_; (repeat (obtain ⟨_, hs_⟩ := hs_)); go_simp; with_reducible rfl))
    (ha : a.put (some d) v = a' := by (simp only [Act.put, List.setIfInBounds_toArray, List.set_cons_zero, List.set_cons_succ, i64_w, i32_w]; rfl)) : wpAnyLast P .any ops Q S ds (fuel + 1) (bitsA n m) a w :=
  take_ (bitsA n m') hi hN (take_ofW HT.out HW.out hc) hQ (Or.inl ⟨hw, hy⟩) hS ha h
/-- An operation whose guard is off. -/
theorem fX (HT : Aside0 (rtab .any ops = T)) (i m' d : Nat) {oi : Oper} {a' : Act} (h : wpAnyLast P .any ops Q S ds fuel (bitsA n m') a' w)
    (hi : ops[i]? = some oi := by rfl) (hN : oi.dst = some d := by rfl) (hc : anyT T (bitsA n m).toList (bitsA n m').toList i = true := by kernel_rfl) (hQ : ∀ c a w, Q (.panic c) (a.put oi.dst undef) w → Q (.panic c) a w := by exact fun _ _ _ h => h)
    (hw : Region.wanted oi (yielded ops a.tmps) = false := by kernel_rfl)
    (ha : a.put (some d) undef = a' := by (simp only [Act.put, List.setIfInBounds_toArray, List.set_cons_zero, List.set_cons_succ, i64_w, i32_w]; rfl)) : wpAnyLast P .any ops Q S ds (fuel + 1) (bitsA n m) a w :=
  pure_ (bitsA n m') hi hN (any_of HT.out hc) hQ (Or.inr ⟨hw, rfl⟩) ha h
/-- One operation alone may come up. -/
theorem oX (HT : Aside0 (rtab .any ops = T)) (i m' : Nat) (N : Option Tmp) {oi : Oper}
    (h : ∀ K : Act → World → Prop, Shut (∀ a' w', S w' → (S w' → wpAnyLast P .any ops Q S ds fuel (bitsA n m') a' w') → K a' w') → if Region.wanted oi (yielded ops a.tmps) = true then Oper.wp P oi a w K Q else K (a.put N undef) w)
    (hi : ops[i]? = some oi := by rfl) (hN : oi.dst = N := by rfl) (hc : (readyT T.2 (bitsA n m).toList == [i] && (bitsA n m).toList.set i true == (bitsA n m').toList) = true := by kernel_rfl) (hd : i ∉ ds := by decide) : wpAnyLast P .any ops Q S ds (fuel + 1) (bitsA n m) a w :=
  one_ (bitsA n m') hi hN (one_of HT.out hc) hd h
/-- One of ds alone may come up: nothing is shown behind it. -/
theorem lX (HT : Aside0 (rtab .any ops = T)) (i m' : Nat) (N : Option Tmp) {oi : Oper}
    (h : ∀ K : Act → World → Prop, Shut (∀ a' w', wpAnyLast P .any ops Q S ds fuel (bitsA n m') a' w' → K a' w') → if Region.wanted oi (yielded ops a.tmps) = true then Oper.wp P oi a w K Q else K (a.put N undef) w)
    (hi : ops[i]? = some oi := by rfl) (hN : oi.dst = N := by rfl) (hc : (readyT T.2 (bitsA n m).toList == [i] && (bitsA n m).toList.set i true == (bitsA n m').toList) = true := by kernel_rfl) (hd : i ∈ ds := by decide) : wpAnyLast P .any ops Q S ds (fuel + 1) (bitsA n m) a w :=
  last_ (bitsA n m') hi hN (one_of HT.out hc) hd h
/-- A call of a Go function that alone may come up, by its contract. -/
theorem gX (HT : Aside0 (rtab .any ops = T)) (i m' d : Nat) {oi : Oper} {f : FuncId} {fn : Func} {xs : Array Operand} {ts : Array TypeId} (hf : P.funcs[f]? = some fn) {args : Array Value} {R : Ending → World → Prop} (C : Calls P f args w R)
    (h : ∀ e w', R e w' → ∃ v, e = .returned v ∧ ∃ a', a.put (some d) v = a' ∧ S w' ∧ (S w' → wpAnyLast P .any ops Q S ds fuel (bitsA n m') a' w'))
    (hi : ops[i]? = some oi := by rfl) (hN : oi.dst = some d := by rfl) (hop : oi.op = .call { callee := .value (.func f), args := xs, argTypes := ts } := by rfl) (hname : (fn.name == "runtime.NumGoroutine") = false := by kernel_rfl) (hb : fn.body.isSome = true := by rfl)
    (hw : Region.wanted oi (yielded ops a.tmps) = true := by kernel_rfl) (hargs : xs.map a.eval = args := by ((try simp only [List.map_toArray, List.map_cons, List.map_nil]); first | done | rfl))
    (hc : (readyT T.2 (bitsA n m).toList == [i] && (bitsA n m).toList.set i true == (bitsA n m').toList) = true := by kernel_rfl) (hd : i ∉ ds := by decide) : wpAnyLast P .any ops Q S ds (fuel + 1) (bitsA n m) a w :=
  oX HT i m' (some d) (fun K hK => goes_ hf hname hb args hw hN hop hargs (C.mono fun e w' hr => by
    obtain ⟨v, rfl, a', ha, hS, hh⟩ := h e w' hr
    exact ⟨v, rfl, hK.out _ _ hS (fun hs => by rw [ha]; exact hh hs)⟩)) hi hN hc hd
theorem eX (HT : Aside0 (rtab .any ops = T)) (h : Q .normal a w) (hc : (readyT T.2 (bitsA n m).toList == []) = true := by kernel_rfl) : wpAnyLast P .any ops Q S ds fuel (bitsA n m) a w := done_ (done_of HT.out hc) h
theorem nX {a a' : Act} (h : a = a' := by (simp only [Act.put, List.setIfInBounds_toArray, List.set_cons_zero, List.set_cons_succ, i64_w, i32_w]; rfl)) : a = a' := h
end
end Go.Proofs.YtmbpefnhkimplaaGreatDoor
end

section
namespace Go.Proofs.YtmbpefnhkimplaaGreatDoor
open Go Go.RowKit Go.Proofs.YtmbpefnhkimplaaGreatDoorW.PrintWords Go.Proofs.YtmbpefnhkimplaaGreatDoorW.PrintLast
set_option linter.unusedVariables false
set_option linter.unusedSimpArgs false
section
variable {P : Program} {ops : Array Oper} {rest : List Oper} {o : Oper} {a : Act} {K : Act → World → Prop} {Q : Exit → Act → World → Prop} {W : World} {g : Nat} {e : TypeId} {cur : Array Value}
theorem load_run {ty : TypeId} {p : Operand} {d : TypeDesc} (ho : o.op = .load ty p) (hp : a.eval p = .pointer (some ⟨g, 0, none⟩)) (hg : W.heap[g]? = some (.cells cur e (0, 0)))
    (hu : P.underlying ty = some d) (hd : (match d with | .struct _ | .array _ _ => true | _ => false) = true) (hi : (P.info? ty).map (·.size) = some cur.size) : (execOp a.eval o).run P W = .ok (.value (.agg cur)) W := by
  have h := run_loadVar_row W g e ty cur (0, 0) d hg hu hd hi
  unfold execOp
  simp only [ho, hp, Instr.loadAt, Instr.sureAddr, Sem.run_bind, Sem.run_pure, Result.andThen_ok, h]
/-- A struct is loaded whole. -/
theorem load_ev {ty : TypeId} {p : Operand} {d : TypeDesc} (ho : o.op = .load ty p) (hgd : o.guard = none) (hp : a.eval p = .pointer (some ⟨g, 0, none⟩)) (hg : W.heap[g]? = some (.cells cur e (0, 0)))
    (hu : P.underlying ty = some d) (hd : (match d with | .struct _ | .array _ _ => true | _ => false) = true) (hi : (P.info? ty).map (·.size) = some cur.size) (h : wpList P ops Q rest (a.put o.dst (.agg cur)) W) : wpList P ops Q (o :: rest) a W :=
  Kd.event_run hgd (load_run ho hp hg hu hd hi) h
/-- A struct within a block is loaded. -/
theorem load_mid_ev {ty : TypeId} {p : Operand} {d : TypeDesc} {i : Nat} (ho : o.op = .load ty p) (hgd : o.guard = none) (hp : a.eval p = .pointer (some ⟨g, i, none⟩)) (hg : W.heap[g]? = some (.cells cur e (0, 0))) {seg : List Value} (hs : (cur.toList.drop i).take seg.length = seg)
    (hu : P.underlying ty = some d) (hd : d.isRow = true) (hi : (P.info? ty).map (·.size) = some seg.length) (h : wpList P ops Q rest (a.put o.dst (.agg seg.toArray)) W) : wpList P ops Q (o :: rest) a W := by
  refine Kd.event_run hgd ?_ h
  have hc : W.rangeAt g i seg := fun j v hv => by
    rw [blk_cell hg, ← Array.getElem?_toList]
    rw [← hs, List.getElem?_take] at hv
    split at hv
    · rwa [List.getElem?_drop] at hv
    · cases hv
  unfold execOp
  simp only [ho, hp, run_loadAt_mid W g i ty seg d hc hu hd hi, Sem.run_bind, Sem.run_pure, Result.andThen_ok]
theorem store_run (t : TypeId) (p x : Operand) (ho : o.op = .store t p x) (i : Nat) (seg : List Value) {u : Value} (hh : W.heap[g]? = some (.cells cur e (0, 0))) (haddr : a.eval p = .pointer (some ⟨g, i, none⟩)) (hx : a.eval x = u) (hu : u.cells.toList = seg) (ht : (P.info? t).map (·.size) = some seg.length) (hfit : i + seg.length ≤ cur.size) (h1 : ∀ q ∈ seg, q.oneCell' = true) :
    ∃ w1, (execOp a.eval o).run P W = .ok .skip w1 ∧ w1.heap[g]? = some (.cells (cur.toList.take i ++ (seg ++ cur.toList.drop (i + seg.length))).toArray e (0, 0)) ∧ W.grownBy w1 (some g) := by
  have hrun := run_store_run (P := P) (w := W) (o := i) t u seg hh hu ht (by omega) h1
  obtain ⟨cur', h2, h3, h4⟩ := setCells_row seg i W cur hh (by omega)
  refine ⟨W.setCells g i seg, ?_, ?_, ?_⟩
  · unfold execOp
    simp only [ho, haddr, hx, Sem.run_bind, Sem.run_pure, Result.andThen_ok, hrun]
  · rw [h2]
    congr 2
    apply Array.ext'
    rw [h4]
    simp
  · obtain ⟨s1, s2, s3, s4⟩ := setCells_same g seg i W
    exact ⟨s1, s2, s3, by rw [s4]; exact Nat.le_refl _, fun j _ hj => setCells_far seg i j (fun e => hj (by rw [e]))⟩
/-- What is stored at a place of a block: the cells then are those of 'cs'. -/
theorem store_ev (t : TypeId) (p x : Operand) (ho : o.op = .store t p x) (hgd : o.guard = none) (hN : o.dst = none) (i : Nat) (seg : List Value) {u : Value} {cs : Array Value} (hh : W.heap[g]? = some (.cells cur e (0, 0))) (haddr : a.eval p = .pointer (some ⟨g, i, none⟩)) (hx : a.eval x = u) (hu : u.cells.toList = seg) (ht : (P.info? t).map (·.size) = some seg.length) (hfit : i + seg.length ≤ cur.size) (h1 : ∀ q ∈ seg, q.oneCell' = true)
    (hcs : (cur.toList.take i ++ (seg ++ cur.toList.drop (i + seg.length))).toArray = cs)
    (h : ∀ w1, w1.heap[g]? = some (.cells cs e (0, 0)) → W.grownBy w1 (some g) → wpList P ops Q rest (a.put none undef) w1) : wpList P ops Q (o :: rest) a W := by
  obtain ⟨w1, hr, h2, h3⟩ := store_run (a := a) t p x ho i seg hh haddr hx hu ht hfit h1
  refine wpList_plain hgd fun K hK => ?_
  unfold Oper.wp
  rw [hr]
  show K (a.put o.dst undef) w1
  rw [hN]
  exact hK _ _ (h _ (hcs ▸ h2) h3)
theorem store_K (hw : Region.wanted o (yielded ops a.tmps) = true) (hN : o.dst = none) (t : TypeId) (p x : Operand) (ho : o.op = .store t p x) (i : Nat) (seg : List Value) {u : Value} {cs : Array Value} (hh : W.heap[g]? = some (.cells cur e (0, 0))) (haddr : a.eval p = .pointer (some ⟨g, i, none⟩)) (hx : a.eval x = u) (hu : u.cells.toList = seg) (ht : (P.info? t).map (·.size) = some seg.length) (hfit : i + seg.length ≤ cur.size) (h1 : ∀ q ∈ seg, q.oneCell' = true)
    (hcs : (cur.toList.take i ++ (seg ++ cur.toList.drop (i + seg.length))).toArray = cs)
    (h : ∀ w1, w1.heap[g]? = some (.cells cs e (0, 0)) → W.grownBy w1 (some g) → K (a.put none undef) w1) : if Region.wanted o (yielded ops a.tmps) = true then Oper.wp P o a W K Q else K (a.put none undef) W := by
  rw [if_pos hw]
  obtain ⟨w1, hr, h2, h3⟩ := store_run (a := a) t p x ho i seg hh haddr hx hu ht hfit h1
  unfold Oper.wp
  rw [hr]
  show K (a.put o.dst undef) w1
  rw [hN]
  exact h _ (hcs ▸ h2) h3
end
end Go.Proofs.YtmbpefnhkimplaaGreatDoor
end
