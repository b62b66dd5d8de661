/- The texts K0x0, K0x, Gw, As in one file, without what these claims do not use (put together by prune2.py). -/
import Derived.Test.YtkidfclnakbgiaaGreatDoorProg
import Derived.Below
import Derived.Deep.Draws
import Derived.Deep.AppendLies
import Derived.Maps.AppendAt
import Derived.OwnWalk
import Derived.Laws.BytesArg
import Derived.Laws.MakeOwn
import Derived.Laws.OwnMore
import Derived.Deep.OwnRows
import Derived.Tactics
import Derived.Lib.ConvBytes
import Derived.Laws.Slices
import Derived.WalkKit
import Derived.KernelRfl
import Derived.RowKit3
import Derived.Deep.LoopGhost
import Derived.Deep.QuietTactic
import Derived.BigQuiet
import Derived.WideLaws
import Derived.Deep.DeepCutAuto
import Derived.Deep.CutBlock
import Derived.Deep.RegionHeld3
import Derived.Laws.Rows
import Derived.Lib.AppendStr
import Derived.ArgAppend
import Derived.Laws.IdiomCopy
import Derived.OrdersHeld
import Derived.Laws.BitsLemmas
import Derived.RowKit
import Derived.Test.YtkidfclnakbgiaaGreatDoorZT0
import Derived.Test.YtkidfclnakbgiaaGreatDoorZT1
import Derived.Test.YtkidfclnakbgiaaGreatDoorZT2
import Derived.Test.YtkidfclnakbgiaaGreatDoorZT3
import Derived.Test.YtkidfclnakbgiaaGreatDoorZT4
import Derived.Lib.LaidTab
import Derived.Lib.ItoaNum
import Derived.Sort.Grow
import Derived.WalkSmall
import Derived.Lib.SmallJoins
section
namespace Go.Proofs.YtkidfclnakbgiaaGreatDoor.K0
open Go.RowKit Go.Proofs.YtkidfclnakbgiaaGreatDoor Go.Proofs.YtkidfclnakbgiaaGreatDoorW.PrintWords Go.Proofs.YtkidfclnakbgiaaGreatDoorW.PrintLast Go.Proofs.YtkidfclnakbgiaaGreatDoorW.PrintMore
attribute [local go_sem] max2_int min2_int max_two min_two max_three min_three max_four min_four
set_option linter.unusedVariables false
set_option linter.unusedSimpArgs false
def errW : Option Int → Value
 | none => .nilIface
 | some c => .iface 0 (.int .i64 c)
theorem errW_none : errW none = .nilIface := rfl
theorem errW_some (c : Int) : errW (some c) = .iface 0 (.int .i64 c) := rfl
theorem isEmpty_bne (l : List UInt8) : (l != []) = !l.isEmpty := by cases l <;> rfl
theorem info9 : (Tryz.prog.info? 9).map (fun i => (i.zero, i.size, i.bytes)) = some (some (.string ⟨#[]⟩), 1, 16) := by kernel_rfl
theorem info27 : (Tryz.prog.info? 27).map (fun i => (i.zero, i.size, i.bytes)) = some (some (.agg #[(.string ⟨#[]⟩), (.int .i64 0), (.int .i64 0), (.int .i64 0), (.string ⟨#[]⟩), (.string ⟨#[]⟩)]), 6, 72) := by kernel_rfl
theorem info48 : (Tryz.prog.info? 48).map (fun i => (i.zero, i.size, i.bytes)) = some (some (.agg #[(.string ⟨#[]⟩), (.int .i64 0), (.int .i64 0), (.int .i64 0), (.string ⟨#[]⟩), (.string ⟨#[]⟩), (.slice none 0 0)]), 7, 96) := by kernel_rfl
structure S25 where
 f0 : Int
 f1 : Int
 f2 : Int
 f3 : ByteArray
 f4 : ByteArray
def z25 : S25 := ⟨(0 : Int), (0 : Int), (0 : Int), (⟨#[]⟩ : ByteArray), (⟨#[]⟩ : ByteArray)⟩
def k25 : Kd S25 := Kd.iso (Kd.pair (Kd.int .i64) (Kd.pair (Kd.int .i64) (Kd.pair (Kd.int .i64) (Kd.pair Kd.string Kd.string)))) (fun x : S25 => (x.f0, x.f1, x.f2, x.f3, x.f4))
theorem k25_heap : Kd.Heap k25 := Kd.heap_iso _ (Kd.heap_pair (Kd.heap_int .i64) (Kd.heap_pair (Kd.heap_int .i64) (Kd.heap_pair (Kd.heap_int .i64) (Kd.heap_pair Kd.heap_string Kd.heap_string))))
theorem k25_open {w : World} {x : S25} {cs : List Value} (h : k25.K w x cs) : cs = [.int .i64 x.f0, .int .i64 x.f1, .int .i64 x.f2, .string x.f3, .string x.f4] := by
 obtain ⟨_, _, rfl, rfl, ⟨_, _, rfl, rfl, ⟨_, _, rfl, rfl, ⟨_, _, rfl, rfl, rfl⟩⟩⟩⟩ := h
 exact rfl
theorem k25_mk (w : World) (x : S25)  : k25.K w x [.int .i64 x.f0, .int .i64 x.f1, .int .i64 x.f2, .string x.f3, .string x.f4] := ⟨[.int .i64 x.f0], [.int .i64 x.f1, .int .i64 x.f2, .string x.f3, .string x.f4], rfl, rfl, ⟨[.int .i64 x.f1], [.int .i64 x.f2, .string x.f3, .string x.f4], rfl, rfl, ⟨[.int .i64 x.f2], [.string x.f3, .string x.f4], rfl, rfl, ⟨[.string x.f3], [.string x.f4], rfl, rfl, rfl⟩⟩⟩⟩
theorem k25_mkM (w : World) (base : Nat) (ok : Nat → Prop) (x : S25)  : k25.M w base ok x [.int .i64 x.f0, .int .i64 x.f1, .int .i64 x.f2, .string x.f3, .string x.f4] := ⟨[.int .i64 x.f0], [.int .i64 x.f1, .int .i64 x.f2, .string x.f3, .string x.f4], rfl, rfl, ⟨[.int .i64 x.f1], [.int .i64 x.f2, .string x.f3, .string x.f4], rfl, rfl, ⟨[.int .i64 x.f2], [.string x.f3, .string x.f4], rfl, rfl, ⟨[.string x.f3], [.string x.f4], rfl, rfl, rfl⟩⟩⟩⟩
structure S27 where
 f0 : ByteArray
 f1 : S25
def z27 : S27 := ⟨(⟨#[]⟩ : ByteArray), z25⟩
def k27 : Kd S27 := Kd.iso (Kd.pair Kd.string k25) (fun x : S27 => (x.f0, x.f1))
theorem k27_heap : Kd.Heap k27 := Kd.heap_iso _ (Kd.heap_pair Kd.heap_string k25_heap)
theorem k27_open {w : World} {x : S27} {cs : List Value} (h : k27.K w x cs) : cs = [.string x.f0, .int .i64 x.f1.f0, .int .i64 x.f1.f1, .int .i64 x.f1.f2, .string x.f1.f3, .string x.f1.f4] := by
 obtain ⟨_, _, rfl, rfl, s1⟩ := h
 obtain rfl := k25_open s1
 exact rfl
theorem k27_mk (w : World) (x : S27)  : k27.K w x [.string x.f0, .int .i64 x.f1.f0, .int .i64 x.f1.f1, .int .i64 x.f1.f2, .string x.f1.f3, .string x.f1.f4] := ⟨[.string x.f0], [.int .i64 x.f1.f0, .int .i64 x.f1.f1, .int .i64 x.f1.f2, .string x.f1.f3, .string x.f1.f4], rfl, rfl, (k25_mk w x.f1 )⟩
theorem k27_mkM (w : World) (base : Nat) (ok : Nat → Prop) (x : S27)  : k27.M w base ok x [.string x.f0, .int .i64 x.f1.f0, .int .i64 x.f1.f1, .int .i64 x.f1.f2, .string x.f1.f3, .string x.f1.f4] := ⟨[.string x.f0], [.int .i64 x.f1.f0, .int .i64 x.f1.f1, .int .i64 x.f1.f2, .string x.f1.f3, .string x.f1.f4], rfl, rfl, (k25_mkM w base ok x.f1 )⟩
def rd_T27 (xs : List S27) (i : Int) : S27 := xs.getD i.toNat z27
theorem at_T27 {w : World} {A : Option Addr} {n : Nat} {xs : List S27} (h : Kd.C k27 w A n xs) (i : Int) (h0 : 0 ≤ i) (h1 : i < n) : ∃ ad , A = some ad ∧ w.cell? (ad.add (i.toNat * 6)) = some (.string (rd_T27 xs i).f0) ∧ w.cell? ⟨(ad.add (i.toNat * 6)).block, (ad.add (i.toNat * 6)).off + 1, none⟩ = some (.int .i64 (rd_T27 xs i).f1.f0) ∧ w.cell? ⟨(ad.add (i.toNat * 6)).block, (ad.add (i.toNat * 6)).off + 2, none⟩ = some (.int .i64 (rd_T27 xs i).f1.f1) ∧ w.cell? ⟨(ad.add (i.toNat * 6)).block, (ad.add (i.toNat * 6)).off + 3, none⟩ = some (.int .i64 (rd_T27 xs i).f1.f2) ∧ w.cell? ⟨(ad.add (i.toNat * 6)).block, (ad.add (i.toNat * 6)).off + 4, none⟩ = some (.string (rd_T27 xs i).f1.f3) ∧ w.cell? ⟨(ad.add (i.toNat * 6)).block, (ad.add (i.toNat * 6)).off + 5, none⟩ = some (.string (rd_T27 xs i).f1.f4) := by
 obtain ⟨ad, c, e, _, hK, hc0⟩ := Kd.C_get h z27 i h0 h1
 have hc : ∀ j u, c[j]? = some u → w.cell? (ad.add (i.toNat * 6 + j)) = some u := hc0
 obtain rfl := k27_open hK
 exact ⟨ad, e, hc 0 _ rfl, by rw [← add_field _ _ 1 (by omega)]; exact hc 1 _ rfl, by rw [← add_field _ _ 2 (by omega)]; exact hc 2 _ rfl, by rw [← add_field _ _ 3 (by omega)]; exact hc 3 _ rfl, by rw [← add_field _ _ 4 (by omega)]; exact hc 4 _ rfl, by rw [← add_field _ _ 5 (by omega)]; exact hc 5 _ rfl⟩
structure S46 where
 f0 : S27
 f1 : (List S27)
def z46 : S46 := ⟨z27, ([] : List S27)⟩
def k46 : Kd S46 := Kd.iso (Kd.pair k27 (Kd.slice 27 k27)) (fun x : S46 => (x.f0, x.f1))
theorem k46_heap : Kd.Heap k46 := Kd.heap_iso _ (Kd.heap_pair k27_heap (Kd.heap_slice 27 k27_heap))
theorem k46_open {w : World} {x : S46} {cs : List Value} (h : k46.K w x cs) : ∃ A6 c6, cs = [.string x.f0.f0, .int .i64 x.f0.f1.f0, .int .i64 x.f0.f1.f1, .int .i64 x.f0.f1.f2, .string x.f0.f1.f3, .string x.f0.f1.f4, .slice A6 x.f1.length c6] ∧ x.f1.length ≤ c6 ∧ k27.C w A6 x.f1.length x.f1 := by
 obtain ⟨_, _, rfl, s0, ⟨A6, c6, rfl, l6, g6⟩⟩ := h
 obtain rfl := k27_open s0
 exact ⟨A6, c6, rfl, l6, g6⟩
theorem k46_openF {W : World} {ok : Nat → Prop} {x : S46} {cs : List Value} (h : Kd.FK k46 W ok x cs) : ∃ A6 c6, cs = [.string x.f0.f0, .int .i64 x.f0.f1.f0, .int .i64 x.f0.f1.f1, .int .i64 x.f0.f1.f2, .string x.f0.f1.f3, .string x.f0.f1.f4, .slice A6 x.f1.length c6] ∧ x.f1.length ≤ c6 ∧ Kd.F k27 W ok A6 x.f1.length x.f1 := by
 obtain ⟨A6, c6, rfl, l6, _⟩ := k46_open (Kd.FK_now h)
 exact ⟨A6, c6, rfl, l6, (fun W' hW => by obtain ⟨A6_, c6_, he, l6_, g6_⟩ := k46_open (h W' hW); injection (Option.some.inj (show some (Value.slice A6 x.f1.length c6) = some (Value.slice A6_ x.f1.length c6_) from congrArg (fun l => l[6]?) he)) with ha_ _ _; rw [ha_]; exact g6_)⟩
def rd_T46 (xs : List S46) (i : Int) : S46 := xs.getD i.toNat z46
theorem at_T46 {w : World} {A : Option Addr} {n : Nat} {xs : List S46} (h : Kd.C k46 w A n xs) (i : Int) (h0 : 0 ≤ i) (h1 : i < n) : ∃ ad A6 c6, A = some ad ∧ w.cell? (ad.add (i.toNat * 7)) = some (.string (rd_T46 xs i).f0.f0) ∧ w.cell? ⟨(ad.add (i.toNat * 7)).block, (ad.add (i.toNat * 7)).off + 1, none⟩ = some (.int .i64 (rd_T46 xs i).f0.f1.f0) ∧ w.cell? ⟨(ad.add (i.toNat * 7)).block, (ad.add (i.toNat * 7)).off + 2, none⟩ = some (.int .i64 (rd_T46 xs i).f0.f1.f1) ∧ w.cell? ⟨(ad.add (i.toNat * 7)).block, (ad.add (i.toNat * 7)).off + 3, none⟩ = some (.int .i64 (rd_T46 xs i).f0.f1.f2) ∧ w.cell? ⟨(ad.add (i.toNat * 7)).block, (ad.add (i.toNat * 7)).off + 4, none⟩ = some (.string (rd_T46 xs i).f0.f1.f3) ∧ w.cell? ⟨(ad.add (i.toNat * 7)).block, (ad.add (i.toNat * 7)).off + 5, none⟩ = some (.string (rd_T46 xs i).f0.f1.f4) ∧ w.cell? ⟨(ad.add (i.toNat * 7)).block, (ad.add (i.toNat * 7)).off + 6, none⟩ = some (.slice A6 (rd_T46 xs i).f1.length c6) ∧ (rd_T46 xs i).f1.length ≤ c6 ∧ k27.C w A6 (rd_T46 xs i).f1.length (rd_T46 xs i).f1 := by
 obtain ⟨ad, c, e, _, hK, hc0⟩ := Kd.C_get h z46 i h0 h1
 have hc : ∀ j u, c[j]? = some u → w.cell? (ad.add (i.toNat * 7 + j)) = some u := hc0
 obtain ⟨A6, c6, rfl, l6, g6⟩ := k46_open hK
 exact ⟨ad, A6, c6, e, hc 0 _ rfl, by rw [← add_field _ _ 1 (by omega)]; exact hc 1 _ rfl, by rw [← add_field _ _ 2 (by omega)]; exact hc 2 _ rfl, by rw [← add_field _ _ 3 (by omega)]; exact hc 3 _ rfl, by rw [← add_field _ _ 4 (by omega)]; exact hc 4 _ rfl, by rw [← add_field _ _ 5 (by omega)]; exact hc 5 _ rfl, by rw [← add_field _ _ 6 (by omega)]; exact hc 6 _ rfl, l6, g6⟩
structure S48 where
 f0 : S27
 f1 : (List S27)
def z48 : S48 := ⟨z27, ([] : List S27)⟩
def k48 : Kd S48 := Kd.iso (Kd.pair k27 (Kd.slice 27 k27)) (fun x : S48 => (x.f0, x.f1))
theorem k48_open {w : World} {x : S48} {cs : List Value} (h : k48.K w x cs) : ∃ A6 c6, cs = [.string x.f0.f0, .int .i64 x.f0.f1.f0, .int .i64 x.f0.f1.f1, .int .i64 x.f0.f1.f2, .string x.f0.f1.f3, .string x.f0.f1.f4, .slice A6 x.f1.length c6] ∧ x.f1.length ≤ c6 ∧ k27.C w A6 x.f1.length x.f1 := by
 obtain ⟨_, _, rfl, s0, ⟨A6, c6, rfl, l6, g6⟩⟩ := h
 obtain rfl := k27_open s0
 exact ⟨A6, c6, rfl, l6, g6⟩
theorem k48_mk (w : World) (x : S48) {A6 : Option Addr} {c6 : Nat} (l6 : x.f1.length ≤ c6) (g6 : k27.C w A6 x.f1.length x.f1) : k48.K w x [.string x.f0.f0, .int .i64 x.f0.f1.f0, .int .i64 x.f0.f1.f1, .int .i64 x.f0.f1.f2, .string x.f0.f1.f3, .string x.f0.f1.f4, .slice A6 x.f1.length c6] := ⟨[.string x.f0.f0, .int .i64 x.f0.f1.f0, .int .i64 x.f0.f1.f1, .int .i64 x.f0.f1.f2, .string x.f0.f1.f3, .string x.f0.f1.f4], [.slice A6 x.f1.length c6], rfl, (k27_mk w x.f0 ), ⟨A6, c6, rfl, l6, g6⟩⟩
theorem k48_mkF (W : World) (ok : Nat → Prop) (x : S48) {A6 : Option Addr} {c6 : Nat} (l6 : x.f1.length ≤ c6) (g6 : Kd.F k27 W ok A6 x.f1.length x.f1) : Kd.FK k48 W ok x [.string x.f0.f0, .int .i64 x.f0.f1.f0, .int .i64 x.f0.f1.f1, .int .i64 x.f0.f1.f2, .string x.f0.f1.f3, .string x.f0.f1.f4, .slice A6 x.f1.length c6] := fun W2 hW => k48_mk W2 x l6 (g6 W2 hW)
def rd_T48 (xs : List S48) (i : Int) : S48 := xs.getD i.toNat z48
theorem at_T48 {w : World} {A : Option Addr} {n : Nat} {xs : List S48} (h : Kd.C k48 w A n xs) (i : Int) (h0 : 0 ≤ i) (h1 : i < n) : ∃ ad A6 c6, A = some ad ∧ w.cell? (ad.add (i.toNat * 7)) = some (.string (rd_T48 xs i).f0.f0) ∧ w.cell? ⟨(ad.add (i.toNat * 7)).block, (ad.add (i.toNat * 7)).off + 1, none⟩ = some (.int .i64 (rd_T48 xs i).f0.f1.f0) ∧ w.cell? ⟨(ad.add (i.toNat * 7)).block, (ad.add (i.toNat * 7)).off + 2, none⟩ = some (.int .i64 (rd_T48 xs i).f0.f1.f1) ∧ w.cell? ⟨(ad.add (i.toNat * 7)).block, (ad.add (i.toNat * 7)).off + 3, none⟩ = some (.int .i64 (rd_T48 xs i).f0.f1.f2) ∧ w.cell? ⟨(ad.add (i.toNat * 7)).block, (ad.add (i.toNat * 7)).off + 4, none⟩ = some (.string (rd_T48 xs i).f0.f1.f3) ∧ w.cell? ⟨(ad.add (i.toNat * 7)).block, (ad.add (i.toNat * 7)).off + 5, none⟩ = some (.string (rd_T48 xs i).f0.f1.f4) ∧ w.cell? ⟨(ad.add (i.toNat * 7)).block, (ad.add (i.toNat * 7)).off + 6, none⟩ = some (.slice A6 (rd_T48 xs i).f1.length c6) ∧ (rd_T48 xs i).f1.length ≤ c6 ∧ k27.C w A6 (rd_T48 xs i).f1.length (rd_T48 xs i).f1 := by
 obtain ⟨ad, c, e, _, hK, hc0⟩ := Kd.C_get h z48 i h0 h1
 have hc : ∀ j u, c[j]? = some u → w.cell? (ad.add (i.toNat * 7 + j)) = some u := hc0
 obtain ⟨A6, c6, rfl, l6, g6⟩ := k48_open hK
 exact ⟨ad, A6, c6, e, hc 0 _ rfl, by rw [← add_field _ _ 1 (by omega)]; exact hc 1 _ rfl, by rw [← add_field _ _ 2 (by omega)]; exact hc 2 _ rfl, by rw [← add_field _ _ 3 (by omega)]; exact hc 3 _ rfl, by rw [← add_field _ _ 4 (by omega)]; exact hc 4 _ rfl, by rw [← add_field _ _ 5 (by omega)]; exact hc 5 _ rfl, by rw [← add_field _ _ 6 (by omega)]; exact hc 6 _ rfl, l6, g6⟩
structure S51 where
 f0 : (List S27)
 f1 : (List S48)
def z51 : S51 := ⟨([] : List S27), ([] : List S48)⟩
end Go.Proofs.YtkidfclnakbgiaaGreatDoor.K0
end

section
namespace Go.Proofs.YtkidfclnakbgiaaGreatDoor.K0
open Go.RowKit Go.Proofs.YtkidfclnakbgiaaGreatDoor Go.Proofs.YtkidfclnakbgiaaGreatDoorW.PrintWords Go.Proofs.YtkidfclnakbgiaaGreatDoorW.PrintLast Go.Proofs.YtkidfclnakbgiaaGreatDoorW.PrintMore
attribute [local go_sem] max2_int min2_int max_two min_two max_three min_three max_four min_four
set_option linter.unusedVariables false
set_option linter.unusedSimpArgs false
end Go.Proofs.YtkidfclnakbgiaaGreatDoor.K0
end

section
namespace Go.Proofs.YtkidfclnakbgiaaGreatDoor
open Go Go.RowKit Go.Sort Go.Proofs Go.Proofs.YtkidfclnakbgiaaGreatDoorW.PrintWords
structure GW (w : World) : Prop where
  maxLen : ∃ m, w.cell? ⟨0, 0, none⟩ = some (.int .i64 m)
  pow10 : Lib.TabIs Tryz.prog w "internal/strconv.uint64pow10" .u64 Lib.pow10Tab
  errS : ∃ tp p, w.var? Tryz.prog "strconv.ErrSyntax" = some #[.iface tp p]
  errR : ∃ tp p, w.var? Tryz.prog "strconv.ErrRange" = some #[.iface tp p]
theorem var_stays {P : Program} {w W : World} {nm : String} {cs : Array Value} (hb : Below w.heap.size w W) (h : w.var? P nm = some cs) : W.var? P nm = some cs := by
  cases hg : P.globalNamed nm with
  | none => simp [World.var?, hg] at h
  | some g =>
    have hlt : g < w.heap.size := by
      unfold World.var? at h
      rw [hg] at h
      simp only [Option.bind_some] at h
      cases hh : w.heap[g]? with
      | none => rw [hh] at h; cases h
      | some o => exact (Array.getElem?_eq_some_iff.1 hh).1
    exact var?_below hb hg hlt h
theorem GW.below {w W : World} (h : GW w) (hb : Below w.heap.size w W) : GW W where
  maxLen := by
    obtain ⟨m, hm⟩ := h.maxLen
    exact ⟨m, pw_cell_below hb hm⟩
  pow10 := var_stays hb h.pow10
  errS := by
    obtain ⟨tp, p, hv⟩ := h.errS
    exact ⟨tp, p, var_stays hb hv⟩
  errR := by
    obtain ⟨tp, p, hv⟩ := h.errR
    exact ⟨tp, p, var_stays hb hv⟩
/-- A row of strings in a new block. -/
theorem R_strings (w : World) (l : List ByteArray) (hl : l.length ≤ 9223372036854775807) (t : TypeId) :
    Kd.R Kd.string t (w.alloc (.cells (l.map Value.string).toArray t)) w.heap.size (fun _ => True) (.slice (some ⟨w.heap.size, 0, none⟩) l.length l.length) l := by
  refine Kd.R_of_own (enc := Value.string) (h1 := fun _ => rfl) ?_ (fun _ _ => trivial)
  have h := World.ownsRow_lit (base := w.heap.size) (e := t) (size := 1) w (l.map Value.string).toArray l.length (Nat.le_refl _) (by simpa [maxLen] using hl) (by simp)
  simpa [encs] using h
theorem below_grow (w : World) (n : Nat) (os : Array Obj) : Below w.heap.size w (grow (w.drewN n) os) :=
  ⟨rfl, rfl, rfl, by show w.heap.size ≤ (w.heap ++ os).size; simp, fun k hk => by show (w.heap ++ os)[k]? = _; rw [Array.getElem?_append_left hk]⟩
end Go.Proofs.YtkidfclnakbgiaaGreatDoor
end

section
namespace Go.Proofs.YtkidfclnakbgiaaGreatDoor
open Go Go.RowKit Go.Proofs.YtkidfclnakbgiaaGreatDoorW.PrintWords Go.Proofs.YtkidfclnakbgiaaGreatDoorW.PrintLast
set_option linter.unusedVariables false
set_option linter.unusedSimpArgs false
def bitsA (n m : Nat) : Array Bool := ((List.range n).map fun i => m.testBit i).toArray
theorem bitsA_none (n : Nat) : Array.replicate n false = bitsA n 0 := by
  unfold bitsA
  rw [← List.toArray_replicate]
  congr 1
  refine (List.eq_replicate_iff.2 ⟨by simp, fun b hb => ?_⟩).symm
  obtain ⟨i, _, rfl⟩ := List.mem_map.1 hb
  exact Nat.zero_testBit i
section
variable {P : Program} {ops : Array Oper} {Q : Exit → Act → World → Prop} {S : World → Prop} {T : Bool × List (List Nat × List Nat)} {B : List Nat} {ds : List Nat} {n m fuel : Nat} {a : Act} {w : World}
theorem sX {id : Nat} (hT : rtab .any ops = T) (hB : waitsOk T.2 B = true) (hS : S w.drew)
    (h : Aside0 (rtab .any ops = T) → Aside0 (waitsOk T.2 B = true) → S w.drew → wpAnyLast P .any ops Q S ds n (bitsA n 0) a w.drew) (hm : P.follows .mixedOrders = true := by kernel_rfl) (hn : ops.size = n := by rfl) : (Code.region id ops true).wp P Q a w :=
  start_ (bitsA n 0) hm hn (bitsA_none n) hS (fun hh => h ⟨hT⟩ ⟨hB⟩ hh)
/-- An operation that looks at no memory. -/
theorem pX (HT : Aside0 (rtab .any ops = T)) (i m' d : Nat) {oi : Oper} {v : Value} {a' : Act} (h : wpAnyLast P .any ops Q S ds fuel (bitsA n m') a' w)
    (hi : ops[i]? = some oi := by rfl) (hN : oi.dst = some d := by rfl) (hc : anyT T (bitsA n m).toList (bitsA n m').toList i = true := by kernel_rfl) (hQ : ∀ c a w, Q (.panic c) (a.put oi.dst v) w → Q (.panic c) a w := by exact fun _ _ _ h => h)
    (hw : Region.wanted oi (yielded ops a.tmps) = true := by kernel_rfl) (hy : ∀ w, (execOp a.eval oi).run P w = .ok (.value v) w := by (intro w'; go_simp; with_reducible rfl))
    (ha : a.put (some d) v = a' := by (simp only [Act.put, List.setIfInBounds_toArray, List.set_cons_zero, List.set_cons_succ, i64_w, i32_w]; rfl)) : wpAnyLast P .any ops Q S ds (fuel + 1) (bitsA n m) a w :=
  pure_ (bitsA n m') hi hN (any_of HT.out hc) hQ (Or.inl ⟨hw, hy⟩) ha h
/-- A load of what S tells. -/
theorem tX (HT : Aside0 (rtab .any ops = T)) (HW : Aside0 (waitsOk T.2 B = true)) (hS : S w) (i m' d : Nat) {oi : Oper} {v : Value} {a' : Act} (h : wpAnyLast P .any ops Q S ds fuel (bitsA n m') a' w)
    (hi : ops[i]? = some oi := by rfl) (hN : oi.dst = some d := by rfl) (hc : takeW T B ds (bitsA n m).toList (bitsA n m').toList i = true := by kernel_rfl) (hQ : ∀ c a w, Q (.panic c) (a.put oi.dst v) w → Q (.panic c) a w := by exact fun _ _ _ h => h)
    (hw : Region.wanted oi (yielded ops a.tmps) = true := by kernel_rfl) (hy : ∀ w, S w → (execOp a.eval oi).run P w = .ok (.value v) w := by (intro w' hs_; (repeat (obtain ⟨_, hs_⟩ := hs_)); go_simp; with_reducible rfl))
    (ha : a.put (some d) v = a' := by (simp only [Act.put, List.setIfInBounds_toArray, List.set_cons_zero, List.set_cons_succ, i64_w, i32_w]; rfl)) : wpAnyLast P .any ops Q S ds (fuel + 1) (bitsA n m) a w :=
  take_ (bitsA n m') hi hN (take_ofW HT.out HW.out hc) hQ (Or.inl ⟨hw, hy⟩) hS ha h
/-- An operation whose guard is off. -/
theorem fX (HT : Aside0 (rtab .any ops = T)) (i m' d : Nat) {oi : Oper} {a' : Act} (h : wpAnyLast P .any ops Q S ds fuel (bitsA n m') a' w)
    (hi : ops[i]? = some oi := by rfl) (hN : oi.dst = some d := by rfl) (hc : anyT T (bitsA n m).toList (bitsA n m').toList i = true := by kernel_rfl) (hQ : ∀ c a w, Q (.panic c) (a.put oi.dst undef) w → Q (.panic c) a w := by exact fun _ _ _ h => h)
    (hw : Region.wanted oi (yielded ops a.tmps) = false := by kernel_rfl)
    (ha : a.put (some d) undef = a' := by (simp only [Act.put, List.setIfInBounds_toArray, List.set_cons_zero, List.set_cons_succ, i64_w, i32_w]; rfl)) : wpAnyLast P .any ops Q S ds (fuel + 1) (bitsA n m) a w :=
  pure_ (bitsA n m') hi hN (any_of HT.out hc) hQ (Or.inr ⟨hw, rfl⟩) ha h
/-- One operation alone may come up. -/
theorem oX (HT : Aside0 (rtab .any ops = T)) (i m' : Nat) (N : Option Tmp) {oi : Oper}
    (h : ∀ K : Act → World → Prop, Shut (∀ a' w', S w' → (S w' → wpAnyLast P .any ops Q S ds fuel (bitsA n m') a' w') → K a' w') → if Region.wanted oi (yielded ops a.tmps) = true then Oper.wp P oi a w K Q else K (a.put N undef) w)
    (hi : ops[i]? = some oi := by rfl) (hN : oi.dst = N := by rfl) (hc : (readyT T.2 (bitsA n m).toList == [i] && (bitsA n m).toList.set i true == (bitsA n m').toList) = true := by kernel_rfl) (hd : i ∉ ds := by decide) : wpAnyLast P .any ops Q S ds (fuel + 1) (bitsA n m) a w :=
  one_ (bitsA n m') hi hN (one_of HT.out hc) hd h
/-- One of ds alone may come up: nothing is shown behind it. -/
theorem lX (HT : Aside0 (rtab .any ops = T)) (i m' : Nat) (N : Option Tmp) {oi : Oper}
    (h : ∀ K : Act → World → Prop, Shut (∀ a' w', wpAnyLast P .any ops Q S ds fuel (bitsA n m') a' w' → K a' w') → if Region.wanted oi (yielded ops a.tmps) = true then Oper.wp P oi a w K Q else K (a.put N undef) w)
    (hi : ops[i]? = some oi := by rfl) (hN : oi.dst = N := by rfl) (hc : (readyT T.2 (bitsA n m).toList == [i] && (bitsA n m).toList.set i true == (bitsA n m').toList) = true := by kernel_rfl) (hd : i ∈ ds := by decide) : wpAnyLast P .any ops Q S ds (fuel + 1) (bitsA n m) a w :=
  last_ (bitsA n m') hi hN (one_of HT.out hc) hd h
/-- A call of a Go function that alone may come up, by its contract. -/
theorem gX (HT : Aside0 (rtab .any ops = T)) (i m' d : Nat) {oi : Oper} {f : FuncId} {fn : Func} {xs : Array Operand} {ts : Array TypeId} (hf : P.funcs[f]? = some fn) {args : Array Value} {R : Ending → World → Prop} (C : Calls P f args w R)
    (h : ∀ e w', R e w' → ∃ v, e = .returned v ∧ ∃ a', a.put (some d) v = a' ∧ S w' ∧ (S w' → wpAnyLast P .any ops Q S ds fuel (bitsA n m') a' w'))
    (hi : ops[i]? = some oi := by rfl) (hN : oi.dst = some d := by rfl) (hop : oi.op = .call { callee := .value (.func f), args := xs, argTypes := ts } := by rfl) (hname : (fn.name == "runtime.NumGoroutine") = false := by kernel_rfl) (hb : fn.body.isSome = true := by rfl)
    (hw : Region.wanted oi (yielded ops a.tmps) = true := by kernel_rfl) (hargs : xs.map a.eval = args := by ((try simp only [List.map_toArray, List.map_cons, List.map_nil]); first | done | rfl))
    (hc : (readyT T.2 (bitsA n m).toList == [i] && (bitsA n m).toList.set i true == (bitsA n m').toList) = true := by kernel_rfl) (hd : i ∉ ds := by decide) : wpAnyLast P .any ops Q S ds (fuel + 1) (bitsA n m) a w :=
  oX HT i m' (some d) (fun K hK => goes_ hf hname hb args hw hN hop hargs (C.mono fun e w' hr => by
    obtain ⟨v, rfl, a', ha, hS, hh⟩ := h e w' hr
    exact ⟨v, rfl, hK.out _ _ hS (fun hs => by rw [ha]; exact hh hs)⟩)) hi hN hc hd
theorem eX (HT : Aside0 (rtab .any ops = T)) (h : Q .normal a w) (hc : (readyT T.2 (bitsA n m).toList == []) = true := by kernel_rfl) : wpAnyLast P .any ops Q S ds fuel (bitsA n m) a w := done_ (done_of HT.out hc) h
/-- An operation of a plain region that yields a value: an arm of go_wp2_with ('d' first: it fails at once at another operation). -/
theorem vX {rest : List Oper} {oi : Oper} {w1 : World} {a' : Act} (d : Nat) (v : Value) (h : wpList P ops Q rest a' w1) (hN : oi.dst = some d := by rfl) (hg : oi.guard = none := by rfl) (hrun : (execOp a.eval oi).run P w = .ok (.value v) w1 := by (go_simp; with_reducible rfl))
    (ha : a.put (some d) v = a' := by (simp only [Act.put, List.setIfInBounds_toArray, List.set_cons_zero, List.set_cons_succ, i64_w, i32_w]; rfl)) : wpList P ops Q (oi :: rest) a w := by
  subst ha
  rw [← hN] at h
  refine wpList_plain hg fun K hK => ?_
  unfold Oper.wp
  rw [hrun]
  exact hK _ _ h
theorem nX {a a' : Act} (h : a = a' := by (simp only [Act.put, List.setIfInBounds_toArray, List.set_cons_zero, List.set_cons_succ, i64_w, i32_w]; rfl)) : a = a' := h
end
end Go.Proofs.YtkidfclnakbgiaaGreatDoor
end
