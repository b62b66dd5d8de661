/- The texts RSx, BpLive, BpExt, BpSm, BpPr, PlD1 in one file, without what these claims do not use (put together by prune2.py). -/
import Derived.Test.YtillhaipemengaaGreatDoorZU33
import Derived.Test.YtillhaipemengaaGreatDoorZU25
import Derived.Test.YtillhaipemengaaGreatDoorZU26
import Derived.Test.YtillhaipemengaaGreatDoorZU9
import Derived.Test.YtillhaipemengaaGreatDoorZU2
section
namespace Go.Proofs.YtillhaipemengaaGreatDoor.RS
open Go.RowKit Go.Proofs.YtillhaipemengaaGreatDoor Go.Proofs.YtillhaipemengaaGreatDoor.K0 Go.Proofs.YtillhaipemengaaGreatDoor.RD Go.Proofs.YtillhaipemengaaGreatDoorW.PrintWords Go.Proofs.YtillhaipemengaaGreatDoorW.PrintLast Go.Proofs.YtillhaipemengaaGreatDoorW.PrintMore
attribute [local go_sem] max2_int min2_int max_two min_two max_three min_three max_four min_four
set_option linter.unusedVariables false
set_option linter.unusedSimpArgs false
end Go.Proofs.YtillhaipemengaaGreatDoor.RS
end

section
namespace Go.Proofs.YtillhaipemengaaGreatDoor
open Go Go.RowKit Go.Proofs Go.Proofs.YtillhaipemengaaGreatDoorW.PrintWords Go.Proofs.YtillhaipemengaaGreatDoor.K0 Go.Proofs.YtillhaipemengaaGreatDoor.RS
set_option linter.unusedVariables false
set_option linter.unusedSimpArgs false
abbrev sA : ByteArray := ⟨#[101, 120, 47, 97]⟩
abbrev sC : ByteArray := ⟨#[101, 120, 47, 99]⟩
abbrev sB : ByteArray := ⟨#[101, 120, 47, 98, 47, 118, 50]⟩
abbrev sZ : ByteArray := ⟨#[101, 120, 47, 122]⟩
def lvQ : List Rq := [⟨sA, zv⟩, ⟨sZ, zv⟩]
def lvM : List Md := [⟨⟨#[]⟩, sB, lvQ⟩, ⟨⟨#[]⟩, sA, []⟩]
def lvT : List Tg := [⟨sA, plainV 0 3 0, ⟨#[]⟩⟩]
def lvT2 : List Tg := [⟨sA, plainV 1 0 0, ⟨#[]⟩⟩]
def lvL : List Rl := [⟨1, true, plainV 0 3 0, plainV 0 4 0, 2⟩, ⟨0, false, zv, plainV 2 0 0, 1⟩]
def lvD : List Rq := [⟨sA, plainV 0 4 0⟩]
deriving instance DecidableEq for S26
deriving instance DecidableEq for S69
deriving instance DecidableEq for S30
theorem lv_rel : relOf lvM lvT [1] [⟨sA, 2⟩] = (lvL, 0) := by decide +kernel
theorem lv_rel2 : relOf lvM lvT [] [⟨sC, 2⟩] = ([], 5) := by decide +kernel
theorem lv_next : bNext sA lvT2 3 = (zr, 8) := by decide +kernel
theorem lv_first : firstOf sA = (plainV 0 1 0, true) := by decide +kernel
theorem lv_edits : editsOf lvM lvL 0 = lvD := by decide +kernel
theorem lv_same : armadaref10_Reqs.f 10 lvD lvD = some true := by decide +kernel
theorem add_z (B n : Nat) : (⟨B, 0, none⟩ : Addr).add n = ⟨B, n, none⟩ := by
  unfold Addr.add
  split
  · rename_i h; rw [h]
  · simp
theorem C_one {α : Type} {k : Kd α} {W : World} {B : Nat} {t : Nat} {x : α} {c : List Value} (h : W.heap[B]? = some (.cells c.toArray t (0, 0))) (hl : c.length = k.sz) (hK : k.K W x c) : Kd.C k W (some ⟨B, 0, none⟩) 1 [x] := by
  refine ⟨rfl, by decide, fun _ => ⟨_, rfl, fun j p hp => ?_⟩⟩
  match j, hp with
  | 0, hp =>
    obtain rfl := Option.some.inj hp
    refine ⟨c, hl, hK, fun i u hu => ?_⟩
    rw [add_z, Nat.zero_mul, Nat.zero_add, cell_of_heap h]
    simpa using hu
theorem C_two {α : Type} {k : Kd α} {W : World} {B : Nat} {t : Nat} {x y : α} {c d : List Value} (h : W.heap[B]? = some (.cells (c ++ d).toArray t (0, 0))) (hl : c.length = k.sz) (hK : k.K W x c) (hl2 : d.length = k.sz) (hK2 : k.K W y d) : Kd.C k W (some ⟨B, 0, none⟩) 2 [x, y] := by
  refine ⟨rfl, by decide, fun _ => ⟨_, rfl, fun j p hp => ?_⟩⟩
  match j, hp with
  | 0, hp =>
    obtain rfl := Option.some.inj hp
    refine ⟨c, hl, hK, fun i u hu => ?_⟩
    rw [add_z, Nat.zero_mul, Nat.zero_add, cell_of_heap h]
    have hi := (List.getElem?_eq_some_iff.1 hu).1
    simpa [List.getElem?_append_left hi] using hu
  | 1, hp =>
    obtain rfl := Option.some.inj hp
    refine ⟨d, hl2, hK2, fun i u hu => ?_⟩
    rw [add_z, Nat.one_mul, cell_of_heap h]
    have : (c ++ d)[k.sz + i]? = some u := by rw [List.getElem?_append_right (by omega), hl, Nat.add_sub_cancel_left]; exact hu
    simpa using this
/-- The blocks that the walk lays from one block on. -/
structure Laid (W : World) (n : Nat) (l : List Obj) : Prop where
  size : W.heap.size = n + l.length
  at_ : ∀ i o, l[i]? = some o → W.heap[n + i]? = some o
theorem Laid.nil (W : World) : Laid W W.heap.size [] := ⟨rfl, fun _ _ h => by simp at h⟩
theorem Laid.push {W : World} {n : Nat} {l : List Obj} (h : Laid W n l) (o : Obj) : Laid (W.alloc o) n (l ++ [o]) := by
  refine ⟨by simp [h.size]; omega, fun i p hp => ?_⟩
  rcases Nat.lt_or_ge i l.length with hi | hi
  · rw [List.getElem?_append_left hi] at hp
    have := h.at_ i p hp
    exact (below_alloc (Below.refl _ W) o).block (n + i) (by rw [h.size]; omega) ▸ this
  · rw [List.getElem?_append_right hi] at hp
    have hz : i = l.length := by
      have := (List.getElem?_eq_some_iff.1 hp).1
      simp at this; omega
    subst hz
    rw [Nat.sub_self] at hp
    obtain rfl := Option.some.inj hp
    have := heap_alloc_new W o
    rwa [h.size] at this
theorem Laid.is {W : World} {n : Nat} {l l' : List Obj} (h : Laid W n l) (e : l = l') : Laid W n l' := e ▸ h
abbrev oA : Obj := .cells #[.string ⟨#[]⟩, .string sA, .slice none 0 0] 63
abbrev oR : Obj := .cells #[.string sA, .int .i64 0, .int .i64 0, .int .i64 0, .string ⟨#[]⟩, .string ⟨#[]⟩, .string sZ, .int .i64 0, .int .i64 0, .int .i64 0, .string ⟨#[]⟩, .string ⟨#[]⟩] 69
abbrev oB (n : Nat) : Obj := .cells #[.string ⟨#[]⟩, .string sB, .slice (some ⟨n + 1, 0, none⟩) 2 2] 63
abbrev oT (z : Int) (y : Int) : Obj := .cells #[.string sA, .int .i64 z, .int .i64 y, .int .i64 0, .string ⟨#[]⟩, .string ⟨#[]⟩, .string ⟨#[]⟩] 71
abbrev oM (n : Nat) : Obj := .cells #[.string ⟨#[]⟩, .string sB, .slice (some ⟨n + 1, 0, none⟩) 2 2, .string ⟨#[]⟩, .string sA, .slice none 0 0] 63
abbrev oC : Obj := .cells #[.int .i64 1] 3
abbrev oW (p : ByteArray) : Obj := .cells #[.string p, .int .i64 2] 72
structure LvB (w W : World) : Prop where
  base : Below w.heap.size w W
  a : W.heap[w.heap.size]? = some oA
  r : W.heap[w.heap.size + 1]? = some oR
  b : W.heap[w.heap.size + 1 + 1]? = some (oB w.heap.size)
  t : W.heap[w.heap.size + 1 + 1 + 1]? = some (oT 0 3)
theorem LvB.below {w W W' : World} (h : LvB w W) (hb : Below W.heap.size W W') : LvB w W' := ⟨below_step h.base hb, blk_below h.a hb, blk_below h.r hb, blk_below h.b hb, blk_below h.t hb⟩
theorem LvB.alloc {w W : World} (h : LvB w W) (o : Obj) : LvB w (W.alloc o) := h.below (below_alloc (Below.refl _ _) o)
theorem LvB.mods {w W : World} (h : LvB w W) {m : Nat} (hm : W.heap[m]? = some (oM w.heap.size)) : Kd.C k63 W (some ⟨m, 0, none⟩) 2 lvM :=
  C_two (c := [.string ⟨#[]⟩, .string sB, .slice (some ⟨w.heap.size + 1, 0, none⟩) 2 2]) (d := [.string ⟨#[]⟩, .string sA, .slice none 0 0]) hm rfl (k63_mk W ⟨⟨#[]⟩, sB, lvQ⟩ (Nat.le_refl 2) (C_two (c := [.string sA, .int .i64 0, .int .i64 0, .int .i64 0, .string ⟨#[]⟩, .string ⟨#[]⟩]) (d := [.string sZ, .int .i64 0, .int .i64 0, .int .i64 0, .string ⟨#[]⟩, .string ⟨#[]⟩]) h.r rfl (k69_mk W ⟨sA, zv⟩) rfl (k69_mk W ⟨sZ, zv⟩))) rfl (k63_mk W ⟨⟨#[]⟩, sA, []⟩ (Nat.le_refl 0) (Kd.C_nil _ _))
theorem tag_C {W : World} {z y : Int} {B : Nat} (h : W.heap[B]? = some (oT z y)) : Kd.C k71 W (some ⟨B, 0, none⟩) 1 [⟨sA, plainV z y 0, ⟨#[]⟩⟩] :=
  C_one (c := [.string sA, .int .i64 z, .int .i64 y, .int .i64 0, .string ⟨#[]⟩, .string ⟨#[]⟩, .string ⟨#[]⟩]) h rfl (k71_mk W ⟨sA, plainV z y 0, ⟨#[]⟩⟩)
theorem want_C {W : World} {p : ByteArray} {B : Nat} (h : W.heap[B]? = some (oW p)) : Kd.C k72 W (some ⟨B, 0, none⟩) 1 [⟨p, 2⟩] :=
  C_one (c := [.string p, .int .i64 2]) h rfl (k72_mk W ⟨p, 2⟩)
theorem lvw_rel {w W : World} (hG : GW W) (h : LvB w W) {m c v : Nat} (hm : W.heap[m]? = some (oM w.heap.size)) (hc : W.heap[c]? = some oC) (hv : W.heap[v]? = some (oW sA)) :
    Calls Tryz.prog 15 #[.slice (some ⟨m, 0, none⟩) 2 2, .slice (some ⟨w.heap.size + 1 + 1 + 1, 0, none⟩) 1 1, .slice (some ⟨c, 0, none⟩) 1 1, .slice (some ⟨v, 0, none⟩) 1 1] W fun e w' => ∃ A c, e = .returned (.tuple #[.slice A 2 c, .int .i64 0]) ∧ 2 ≤ c ∧ Kd.C k30 w' A 2 lvL ∧ Below W.heap.size W w' := by
  refine (releases_calls _ _ _ _ 2 1 1 1 lvM lvT [1] [⟨sA, 2⟩] W hG (h.mods hm) (Nat.le_refl 2) (tag_C h.t) (Nat.le_refl 1) (C_one (c := [.int .i64 1]) hc rfl rfl) (Nat.le_refl 1) (want_C hv) (Nat.le_refl 1) (by decide) (by decide) (by decide) (by decide)).mono ?_
  rw [lv_rel]
  rintro e w' ⟨x, rfl, hR, hb⟩
  obtain ⟨A, c, rfl, h1, h2⟩ := Kd.R_reads hR
  exact ⟨A, c, rfl, h1, h2, hb⟩
theorem lvw_rel2 {w W : World} (hG : GW W) (h : LvB w W) {m v : Nat} (hm : W.heap[m]? = some (oM w.heap.size)) (hv : W.heap[v]? = some (oW sC)) :
    Calls Tryz.prog 15 #[.slice (some ⟨m, 0, none⟩) 2 2, .slice (some ⟨w.heap.size + 1 + 1 + 1, 0, none⟩) 1 1, .slice none 0 0, .slice (some ⟨v, 0, none⟩) 1 1] W fun e w' => ∃ A c, e = .returned (.tuple #[.slice A 0 c, .int .i64 5]) ∧ Below W.heap.size W w' := by
  refine (releases_calls _ _ _ _ 2 1 0 1 lvM lvT [] [⟨sC, 2⟩] W hG (h.mods hm) (Nat.le_refl 2) (tag_C h.t) (Nat.le_refl 1) (Kd.C_nil _ _) (Nat.le_refl 0) (want_C hv) (Nat.le_refl 1) (by decide) (by decide) (by decide) (by decide)).mono ?_
  rw [lv_rel2]
  rintro e w' ⟨x, rfl, hR, hb⟩
  obtain ⟨A, c, rfl, h1, h2⟩ := Kd.R_reads hR
  exact ⟨A, c, rfl, hb⟩
theorem lvw_edits {w W : World} (h : LvB w W) {m : Nat} {A : Option Addr} {c : Nat} (hm : W.heap[m]? = some (oM w.heap.size)) (hL : Kd.C k30 W A 2 lvL) :
    Calls Tryz.prog 21 #[.slice (some ⟨m, 0, none⟩) 2 2, .slice A 2 c, .int .i64 0] W fun e w' => ∃ A c, e = .returned (.slice A 1 c) ∧ 1 ≤ c ∧ Kd.C k69 w' A 1 lvD ∧ Below W.heap.size W w' := by
  refine (edits_calls _ A 2 c lvM lvL 0 W (h.mods hm) hL (by decide)).mono ?_
  rw [lv_edits]
  rintro e w' ⟨x, rfl, hR, hb⟩
  obtain ⟨A, c, rfl, h1, h2⟩ := Kd.R_reads hR
  exact ⟨A, c, rfl, h1, h2, hb⟩
structure LvC (w W : World) (A : Option Addr) : Prop where
  lv : LvB w W
  c : Kd.C k30 W A 2 lvL
theorem LvC.below {w W W' : World} {A : Option Addr} (h : LvC w W A) (hb : Below W.heap.size W W') : LvC w W' A := ⟨h.lv.below hb, Kd.C_below h.c hb⟩
theorem LvC.alloc {w W : World} {A : Option Addr} (h : LvC w W A) (o : Obj) : LvC w (W.alloc o) A := h.below (below_alloc (Below.refl _ W) o)
theorem lv_start (w : World) : Laid (((((((w.alloc oA).alloc oR).alloc (oB w.heap.size)).alloc (oT 0 3)).alloc (oM w.heap.size)).alloc oC).alloc (oW sA)) w.heap.size [oA, oR, oB w.heap.size, oT 0 3, oM w.heap.size, oC, oW sA] :=
  Laid.is (((((((((Laid.nil w).push _).push _).push _).push _).push _).push _).push _)) rfl
theorem lvw_rel0 (w : World) (hG : GW w) : Calls Tryz.prog 15 #[.slice (some ⟨w.heap.size + 1 + 1 + 1 + 1, 0, none⟩) 2 2, .slice (some ⟨w.heap.size + 1 + 1 + 1, 0, none⟩) 1 1, .slice (some ⟨w.heap.size + 1 + 1 + 1 + 1 + 1, 0, none⟩) 1 1, .slice (some ⟨w.heap.size + 1 + 1 + 1 + 1 + 1 + 1, 0, none⟩) 1 1] (((((((w.alloc oA).alloc oR).alloc (oB w.heap.size)).alloc (oT 0 3)).alloc (oM w.heap.size)).alloc oC).alloc (oW sA)) fun e w' => ∃ ad c, e = .returned (.tuple #[.slice (some ad) 2 c, .int .i64 0]) ∧ 2 ≤ c ∧ LvC w w' (some ad) := by
  have hL := lv_start w
  have hb : Below w.heap.size w (((((((w.alloc oA).alloc oR).alloc (oB w.heap.size)).alloc (oT 0 3)).alloc (oM w.heap.size)).alloc oC).alloc (oW sA)) := by
    repeat (first | exact Below.refl _ _ | apply below_alloc)
  generalize (((((((w.alloc oA).alloc oR).alloc (oB w.heap.size)).alloc (oT 0 3)).alloc (oM w.heap.size)).alloc oC).alloc (oW sA)) = W at hL hb ⊢
  have hB : LvB w W := ⟨hb, hL.at_ 0 _ rfl, hL.at_ 1 _ rfl, hL.at_ 2 _ rfl, hL.at_ 3 _ rfl⟩
  refine (lvw_rel (hG.below hb) hB (hL.at_ 4 _ rfl) (hL.at_ 5 _ rfl) (hL.at_ 6 _ rfl)).mono ?_
  rintro e w' ⟨A, c, rfl, h1, h2, h3⟩
  obtain ⟨ad, rfl, _⟩ := at_T30 h2 0 (by decide) (by decide)
  exact ⟨ad, c, rfl, h1, hB.below h3, h2⟩
theorem lvw_rel1 {w W : World} {A : Option Addr} (hG : GW w) (h : LvC w W A) : Calls Tryz.prog 15 #[.slice (some ⟨W.heap.size, 0, none⟩) 2 2, .slice (some ⟨w.heap.size + 1 + 1 + 1, 0, none⟩) 1 1, .slice none 0 0, .slice (some ⟨W.heap.size + 1, 0, none⟩) 1 1] ((W.alloc (oM w.heap.size)).alloc (oW sC)) fun e w' => ∃ B c, e = .returned (.tuple #[.slice B 0 c, .int .i64 5]) ∧ LvC w w' A := by
  have hL := Laid.is (((Laid.nil W).push (oM w.heap.size)).push (oW sC)) rfl
  have h' := (h.alloc (oM w.heap.size)).alloc (oW sC)
  refine (lvw_rel2 (hG.below h'.lv.base) h'.lv (hL.at_ 0 _ rfl) (hL.at_ 1 _ rfl)).mono ?_
  rintro e w' ⟨B, c, rfl, hb⟩
  exact ⟨B, c, rfl, h'.below hb⟩
theorem lvw_next {w W : World} {A : Option Addr} (hG : GW w) (h : LvC w W A) : Calls Tryz.prog 12 #[.string sA, .slice (some ⟨W.heap.size, 0, none⟩) 1 1, .int .i64 3] (W.alloc (oT 1 0)) fun e w' => e = .returned (.tuple #[.agg #[.int .i64 0, .bool false, .int .i64 0, .int .i64 0, .int .i64 0, .string ⟨#[]⟩, .string ⟨#[]⟩, .int .i64 0, .int .i64 0, .int .i64 0, .string ⟨#[]⟩, .string ⟨#[]⟩, .int .i64 0], .int .i64 8]) ∧ LvC w w' A := by
  have h' := h.alloc (oT 1 0)
  refine (bnext_calls sA _ 1 lvT2 3 _ (hG.below h'.lv.base) (tag_C (heap_alloc_new W (oT 1 0))) (Nat.le_refl 1) (by decide)).mono ?_
  rw [lv_next]
  rintro e w' ⟨rfl, hb⟩
  exact ⟨rfl, h'.below hb⟩
theorem lvw_first {w W : World} {A : Option Addr} (hG : GW w) (h : LvC w W A) : Calls Tryz.prog 10 #[.string sA] W fun e w' => e = .returned (.tuple #[.agg #[.int .i64 0, .int .i64 1, .int .i64 0, .string ⟨#[]⟩, .string ⟨#[]⟩], .bool true]) ∧ LvC w w' A := by
  refine (first_calls sA _ (hG.below h.lv.base)).mono ?_
  rw [lv_first]
  rintro e w' ⟨rfl, hb⟩
  exact ⟨rfl, h.below hb⟩
abbrev oV : Obj := .cells #[.int .i64 0, .int .i64 1, .int .i64 0, .string ⟨#[]⟩, .string ⟨#[]⟩] 26
theorem lvw_edit {w W : World} {A : Option Addr} {c : Nat} (h : LvC w W A) : Calls Tryz.prog 21 #[.slice (some ⟨W.heap.size + 1, 0, none⟩) 2 2, .slice A 2 c, .int .i64 0] ((W.alloc oV).alloc (oM w.heap.size)) fun e w' => ∃ B d, e = .returned (.slice B 1 d) ∧ 1 ≤ d ∧ Kd.C k69 w' B 1 lvD ∧ LvC w w' A ∧ w'.heap[W.heap.size]? = some oV := by
  have hL := Laid.is (((Laid.nil W).push oV).push (oM w.heap.size)) rfl
  have h' := (h.alloc oV).alloc (oM w.heap.size)
  refine (lvw_edits h'.lv (hL.at_ 1 _ rfl) h'.c).mono ?_
  rintro e w' ⟨B, d, rfl, hd, hC, hb⟩
  exact ⟨B, d, rfl, hd, hC, h'.below hb, blk_below (hL.at_ 0 _ rfl) hb⟩
theorem LvB.cells {w W : World} (h : LvB w W) : W.cell? ⟨w.heap.size, 0, none⟩ = some (.string ⟨#[]⟩) ∧ W.cell? ⟨w.heap.size, 1, none⟩ = some (.string sA) ∧ W.cell? ⟨w.heap.size, 2, none⟩ = some (.slice none 0 0) ∧ W.cell? ⟨w.heap.size + 1 + 1, 0, none⟩ = some (.string ⟨#[]⟩) ∧ W.cell? ⟨w.heap.size + 1 + 1, 1, none⟩ = some (.string sB) ∧ W.cell? ⟨w.heap.size + 1 + 1, 2, none⟩ = some (.slice (some ⟨w.heap.size + 1, 0, none⟩) 2 2) :=
  ⟨(blk_cell h.a 0).trans rfl, (blk_cell h.a 1).trans rfl, (blk_cell h.a 2).trans rfl, (blk_cell h.b 0).trans rfl, (blk_cell h.b 1).trans rfl, (blk_cell h.b 2).trans rfl⟩
theorem eqV (d : Nat) (w : World) (x0 y0 : Int) (x1 y1 : Int) (x2 y2 : Int) (x3 y3 : ByteArray) (x4 y4 : ByteArray) :
    (Op.equalIn (d + 2) 26 (.agg #[.int .i64 x0, .int .i64 x1, .int .i64 x2, .string x3, .string x4]) (.agg #[.int .i64 y0, .int .i64 y1, .int .i64 y2, .string y3, .string y4])).run Tryz.prog w = .ok (x0 == y0 && (x1 == y1 && (x2 == y2 && (x3.toList == y3.toList && (x4.toList == y4.toList))))) w := by
  refine eqA_of Tryz.underlying26 (by kernel_rfl) ?_
  iterate 4 refine eqf_cons (by rfl) (by go_simp; rfl) (by go_simp; rfl) (by go_simp) ?_
  exact eqf_last (by rfl) (by go_simp; rfl) (by go_simp; rfl) (by go_simp)
theorem eqL (d : Nat) (w : World) (x0 y0 : Int) (x1 y1 : Bool) (x2 y2 : Int) (x3 y3 : Int) (x4 y4 : Int) (x5 y5 : ByteArray) (x6 y6 : ByteArray) (x7 y7 : Int) (x8 y8 : Int) (x9 y9 : Int) (x10 y10 : ByteArray) (x11 y11 : ByteArray) (x12 y12 : Int) :
    (Op.equalIn (d + 3) 30 (.agg #[.int .i64 x0, .bool x1, .int .i64 x2, .int .i64 x3, .int .i64 x4, .string x5, .string x6, .int .i64 x7, .int .i64 x8, .int .i64 x9, .string x10, .string x11, .int .i64 x12]) (.agg #[.int .i64 y0, .bool y1, .int .i64 y2, .int .i64 y3, .int .i64 y4, .string y5, .string y6, .int .i64 y7, .int .i64 y8, .int .i64 y9, .string y10, .string y11, .int .i64 y12])).run Tryz.prog w = .ok (x0 == y0 && (x1 == y1 && ((x2 == y2 && (x3 == y3 && (x4 == y4 && (x5.toList == y5.toList && (x6.toList == y6.toList))))) && ((x7 == y7 && (x8 == y8 && (x9 == y9 && (x10.toList == y10.toList && (x11.toList == y11.toList))))) && (x12 == y12))))) w := by
  refine eqA_of Tryz.underlying30 (by kernel_rfl) ?_
  refine eqf_cons (by rfl) (by go_simp; rfl) (by go_simp; rfl) (by go_simp) ?_
  refine eqf_cons (by rfl) (by go_simp; rfl) (by go_simp; rfl) (by go_simp) ?_
  refine eqf_cons (by rfl) (by go_simp) (by go_simp) (eqV (d + 0) w _ _ _ _ _ _ _ _ _ _) ?_
  refine eqf_cons (by rfl) (by go_simp) (by go_simp) (eqV (d + 0) w _ _ _ _ _ _ _ _ _ _) ?_
  exact eqf_last (by rfl) (by go_simp; rfl) (by go_simp; rfl) (by go_simp)
theorem ad_z (ad : Addr) : ad.add 0 = ad := by
  unfold Addr.add
  rw [if_pos rfl]
theorem ad_s (ad : Addr) : ad.add (1 * 13) = ⟨ad.block, ad.off + 13, none⟩ := by
  unfold Addr.add
  rw [if_neg (by decide)]
theorem rel_cells {W : World} {ad : Addr} {r : Rl} {l : List Rl} {n i : Nat} (h : Kd.C k30 W (some ad) n l) (hi : l[i]? = some r) (hn : i < n) : W.cell? (ad.add (i * 13)) = some (.int .i64 r.f0) ∧ W.cell? ⟨(ad.add (i * 13)).block, (ad.add (i * 13)).off + 1, none⟩ = some (.bool r.f1) ∧ W.cell? ⟨(ad.add (i * 13)).block, (ad.add (i * 13)).off + 2, none⟩ = some (.int .i64 r.f2.f0) ∧ W.cell? ⟨(ad.add (i * 13)).block, (ad.add (i * 13)).off + 3, none⟩ = some (.int .i64 r.f2.f1) ∧ W.cell? ⟨(ad.add (i * 13)).block, (ad.add (i * 13)).off + 4, none⟩ = some (.int .i64 r.f2.f2) ∧ W.cell? ⟨(ad.add (i * 13)).block, (ad.add (i * 13)).off + 5, none⟩ = some (.string r.f2.f3) ∧ W.cell? ⟨(ad.add (i * 13)).block, (ad.add (i * 13)).off + 6, none⟩ = some (.string r.f2.f4) ∧ W.cell? ⟨(ad.add (i * 13)).block, (ad.add (i * 13)).off + 7, none⟩ = some (.int .i64 r.f3.f0) ∧ W.cell? ⟨(ad.add (i * 13)).block, (ad.add (i * 13)).off + 8, none⟩ = some (.int .i64 r.f3.f1) ∧ W.cell? ⟨(ad.add (i * 13)).block, (ad.add (i * 13)).off + 9, none⟩ = some (.int .i64 r.f3.f2) ∧ W.cell? ⟨(ad.add (i * 13)).block, (ad.add (i * 13)).off + 10, none⟩ = some (.string r.f3.f3) ∧ W.cell? ⟨(ad.add (i * 13)).block, (ad.add (i * 13)).off + 11, none⟩ = some (.string r.f3.f4) ∧ W.cell? ⟨(ad.add (i * 13)).block, (ad.add (i * 13)).off + 12, none⟩ = some (.int .i64 r.f4) := by
  obtain ⟨a2, ha2, h⟩ := at_T30 h (i : Int) (by omega) (by omega)
  obtain rfl := Option.some.inj ha2
  have e : rd_T30 l (i : Int) = r := by unfold rd_T30; rw [Int.toNat_natCast, List.getD_eq_getElem?_getD, hi]; rfl
  rw [e, Int.toNat_natCast] at h
  exact h
theorem lvw_same {W : World} {B : Option Addr} {c : Nat} (hc : 1 ≤ c) (h : Kd.C k69 W B 1 lvD) : Calls Tryz.prog 20 #[.slice B 1 c, .slice (some ⟨W.heap.size, 0, none⟩) 1 1] (W.alloc (.cells #[.string sA, .int .i64 0, .int .i64 4, .int .i64 0, .string ⟨#[]⟩, .string ⟨#[]⟩] 69)) fun e w' => e = .returned (.bool true) ∧ Below W.heap.size W w' := by
  have hn := heap_alloc_new W (.cells #[.string sA, .int .i64 0, .int .i64 4, .int .i64 0, .string ⟨#[]⟩, .string ⟨#[]⟩] 69)
  refine (armadaref10_Reqs.calls 10 B c lvD (some ⟨W.heap.size, 0, none⟩) 1 lvD true _ (Kd.C_below h (below_alloc (Below.refl _ _) _)) hc (C_one (c := [.string sA, .int .i64 0, .int .i64 4, .int .i64 0, .string ⟨#[]⟩, .string ⟨#[]⟩]) hn rfl (k69_mk _ ⟨sA, plainV 0 4 0⟩)) (Nat.le_refl 1) lv_same).mono fun e w' h2 => ⟨h2.1, ?_⟩
  exact below_step (below_alloc (Below.refl _ _) _) h2.2.below
attribute [local go_sem high] eqV eqL
set_option maxRecDepth 100000 in
set_option maxHeartbeats 1000000 in
theorem live_walk (w : World) (hG : GW w) : Calls Tryz.prog 9 #[] w fun e w' => e = .returned (.bool true) ∧ Below w.heap.size w w' := by
  have HG := Aside0.mk hG
  clear hG
  go_enter Tryz.func9, Tryz.ntmps9
  go_wp2_with (go_at_call 15; with_reducible refine (lvw_rel0 w HG.out).mono ?_; rintro e w1 ⟨ad, c, rfl, hc, h⟩; obtain ⟨x0, x1, x2, x3, x4, x5⟩ := h.lv.cells; have H1 := Aside0.mk h; clear h)
  clear x0 x1 x2 x3 x4 x5
  go_wp2_with (first
    | (go_at_call 15; with_reducible refine (lvw_rel1 HG.out H1.out).mono ?_; rintro e w2 ⟨B2, c2, rfl, h⟩; have H2 := Aside0.mk h; clear h)
    | (go_at_call 12; with_reducible refine (lvw_next HG.out H2.out).mono ?_; rintro e w3 ⟨rfl, h⟩; have H3 := Aside0.mk h; clear h)
    | (go_at_call 10; with_reducible refine (lvw_first HG.out (H3.out.alloc _)).mono ?_; rintro e w4 ⟨rfl, h⟩; obtain ⟨x0, x1, x2, x3, x4, x5⟩ := (h.alloc oV).lv.cells; have H4 := Aside0.mk h; clear h))
  clear x0 x1 x2 x3 x4 x5
  go_wp2_with (first
    | (go_at_call 21; with_reducible refine (lvw_edit H4.out).mono ?_; rintro e w5 ⟨B5, c5, rfl, hc5, hC, h, hv⟩
       have H5 := Aside0.mk h; have HC5 := Aside0.mk hc5; have HD := Aside0.mk hC; have HV := Aside0.mk hv; clear h hc5 hC hv
       obtain ⟨y0, y1, y2, y3, y4, y5, y6, y7, y8, y9, y10, y11, y12⟩ := rel_cells (i := 0) H5.out.c rfl (by decide)
       rw [Nat.zero_mul, ad_z] at y0 y1 y2 y3 y4 y5 y6 y7 y8 y9 y10 y11 y12
       obtain ⟨z0, z1, z2, z3, z4, z5, z6, z7, z8, z9, z10, z11, z12⟩ := rel_cells (i := 1) H5.out.c rfl (by decide)
       rw [ad_s] at z0 z1 z2 z3 z4 z5 z6 z7 z8 z9 z10 z11 z12
       have v0 : w5.cell? ⟨w4.heap.size, 0, none⟩ = some (.int .i64 0) := (blk_cell HV.out 0).trans rfl
       have v1 : w5.cell? ⟨w4.heap.size, 1, none⟩ = some (.int .i64 1) := (blk_cell HV.out 1).trans rfl
       have v2 : w5.cell? ⟨w4.heap.size, 2, none⟩ = some (.int .i64 0) := (blk_cell HV.out 2).trans rfl
       have v3 : w5.cell? ⟨w4.heap.size, 3, none⟩ = some (.string ⟨#[]⟩) := (blk_cell HV.out 3).trans rfl
       have v4 : w5.cell? ⟨w4.heap.size, 4, none⟩ = some (.string ⟨#[]⟩) := (blk_cell HV.out 4).trans rfl
       simp only [plainV, zv] at y0 y1 y2 y3 y4 y5 y6 y7 y8 y9 y10 y11 y12 z0 z1 z2 z3 z4 z5 z6 z7 z8 z9 z10 z11 z12)
    | (go_at_call 20; with_reducible refine (lvw_same HC5.out HD.out).mono ?_; rintro e w6 ⟨rfl, h⟩; have H6 := Aside0.mk (below_step H5.out.lv.base h); clear h))
  go_ret
  exact ⟨rfl, H6.out⟩
end Go.Proofs.YtillhaipemengaaGreatDoor
end

section
namespace Go.Proofs.YtillhaipemengaaGreatDoor
open Go Go.RowKit Go.Proofs Go.Proofs.YtillhaipemengaaGreatDoorW.PrintWords Go.Proofs.YtillhaipemengaaGreatDoor.K0
set_option linter.unusedVariables false
def armadalaw18_live.f : Option Bool := some true
theorem armadalaw18_live.calls (r : Bool) (w : World) (hG : GW w) (hT : r = true) (h : armadalaw18_live.f = some r) : Calls Tryz.prog 9 #[] w fun e w' => e = .returned (.bool r) ∧ Below w.heap.size w w' := by
  subst hT
  exact live_walk w hG
end Go.Proofs.YtillhaipemengaaGreatDoor
end

section
namespace Go.Proofs.YtillhaipemengaaGreatDoor.Sm
open Go Go.RowKit Go.Proofs Go.Proofs.YtillhaipemengaaGreatDoor Go.Proofs.YtillhaipemengaaGreatDoorW.PrintWords Go.Proofs.YtillhaipemengaaGreatDoor.K0 Go.Proofs.YtillhaipemengaaGreatDoor.RS
set_option linter.unusedVariables false
set_option linter.unusedSimpArgs false
theorem wrap_s {n : Nat} (h : n < 9223372036854775807) : wrap64 ((n : Int) + 1) = ((n + 1 : Nat) : Int) := by unfold wrap64; omega
/-- Is a tag of little? -/
def littleT (t : Tg) : Bool := decide (t.f0.size ≤ 200) && (decide (t.f2.size ≤ 200) && (decide (t.f1.f3.size ≤ 200) && decide (t.f1.f4.size ≤ 200)))
theorem few_l0 (l : List Tg) (hl : l.length ≤ 9223372036854775807) : ∀ (d n k : Nat), l.length - n = d → n ≤ l.length → d < k → armadaref15_Few.l0 k l (n : Int) = some ((l.drop n).all littleT && decide (l.length ≤ 60)) := by
  intro d
  induction d with
  | zero =>
    intro n k hd hn hk
    obtain ⟨k, rfl⟩ : ∃ m, k = m + 1 := ⟨k - 1, by omega⟩
    simp only [armadaref15_Few.l0]
    rw [if_neg (by omega), List.drop_eq_nil_of_le (by omega)]
    simp
    omega
  | succ d ih =>
    intro n k hd hn hk
    obtain ⟨k, rfl⟩ : ∃ m, k = m + 1 := ⟨k - 1, by omega⟩
    obtain ⟨x, h1, h2, h3⟩ := rdT_at (l := l) (n := n) (by omega)
    simp only [armadaref15_Few.l0]
    rw [if_pos (by omega), if_pos (by omega), h1, wrap_s (by omega), ih (n + 1) k (by omega) (by omega) (by omega), h2, List.all_cons]
    unfold littleT
    by_cases a1 : x.f0.size ≤ 200
    · rw [if_neg (by omega), decide_eq_true a1]
      by_cases a2 : x.f2.size ≤ 200
      · rw [if_neg (by omega), decide_eq_true a2]
        by_cases a3 : x.f1.f3.size ≤ 200
        · rw [if_neg (by omega), decide_eq_true a3]
          by_cases a4 : x.f1.f4.size ≤ 200
          · rw [if_neg (by omega), decide_eq_true a4]; simp
          · rw [if_pos (by omega), decide_eq_false a4]; simp
        · rw [if_pos (by omega), decide_eq_false a3]; simp
      · rw [if_pos (by omega), decide_eq_false a2]; simp
    · rw [if_pos (by omega), decide_eq_false a1]; simp
def fewT (l : List Tg) : Bool := l.all littleT && decide (l.length ≤ 60)
theorem few_f (l : List Tg) (hl : l.length ≤ 9223372036854775807) (k : Nat) (hk : l.length < k) : armadaref15_Few.f k l = some (fewT l) := by
  have := few_l0 l hl _ 0 k rfl (by omega) (by omega)
  rw [List.drop_zero] at this
  exact this
theorem few_len {l : List Tg} (h : fewT l = true) : l.length ≤ 60 ∧ ∀ t ∈ l, t.f2.size ≤ 200 := by
  unfold fewT at h
  rw [Bool.and_eq_true, decide_eq_true_eq] at h
  refine ⟨h.2, fun t ht => ?_⟩
  have := List.all_eq_true.1 h.1 t ht
  unfold littleT at this
  simp only [Bool.and_eq_true, decide_eq_true_eq] at this
  exact this.2.1
end Go.Proofs.YtillhaipemengaaGreatDoor.Sm
end

section
namespace Go.Proofs.YtillhaipemengaaGreatDoor
open Go Go.RowKit Go.Proofs Go.Proofs.YtillhaipemengaaGreatDoorW.PrintWords Go.Proofs.YtillhaipemengaaGreatDoor.K0 Go.Proofs.YtillhaipemengaaGreatDoor.RS Go.Proofs.YtillhaipemengaaGreatDoor.Sm
set_option linter.unusedVariables false
set_option linter.unusedSimpArgs false
end Go.Proofs.YtillhaipemengaaGreatDoor
end

section
namespace Go.Proofs.YtillhaipemengaaGreatDoor
open Go Go.RowKit Go.Proofs.YtillhaipemengaaGreatDoorW.PrintWords Go.Proofs.YtillhaipemengaaGreatDoor.K0 Go.Proofs.YtillhaipemengaaGreatDoor.R1 Go.Proofs.YtillhaipemengaaGreatDoor.RD
set_option linter.unusedVariables false
set_option linter.unusedSimpArgs false
/-- Splitting: the reference's loop. -/
theorem ref_split_from (c : UInt8) (s : ByteArray) (hs : s.size ≤ 4294967295) : ∀ (d n fr k : Nat) (acc : List ByteArray), s.size + 1 - n = d → n ≤ s.size + 1 → fr ≤ n → (n ≤ s.size ∨ fr = n) → (n ≤ s.size → c ∉ (s.extract fr n).data.toList) → acc.length + d ≤ 4294967296 → d < k →
    armadaref05_Split.l0 k s (c.toNat : Int) acc (fr : Int) (n : Int) = some (if n ≤ s.size then acc ++ splitBy c (s.extract fr s.size) else acc) := by
  intro d
  induction d with
  | zero =>
    intro n fr k acc hd hn hf _ _ _ hk
    obtain ⟨k, rfl⟩ : ∃ m, k = m + 1 := ⟨k - 1, by omega⟩
    simp only [armadaref05_Split.l0]
    rw [if_neg (by omega), if_neg (by omega)]
  | succ d ih =>
    intro n fr k acc hd hn hf hor hc hacc hk
    obtain ⟨k, rfl⟩ : ∃ m, k = m + 1 := ⟨k - 1, by omega⟩
    have hns : n ≤ s.size := by omega
    simp only [armadaref05_Split.l0]
    rw [if_pos (by omega), if_pos hns]
    have hw := wrap_succ (n := n) (by omega)
    have hcn := hc hns
    by_cases he : n = s.size
    · rw [if_pos (by omega), if_pos (by omega), if_pos (by omega), if_pos (by omega), hw]
      rw [ih (n + 1) (n + 1) k _ (by omega) (by omega) (by omega) (.inr rfl) (fun h => by omega) (by rw [List.length_append]; simp; omega) (by omega)]
      rw [if_neg (by omega)]
      congr 2
      subst he
      have hx : (s.extract fr s.size) = s.extract ((fr : Int)).toNat ((s.size : Int)).toNat := rfl
      unfold splitBy
      rw [splitC_none hcn]
      rfl
    · have hlt : n < s.size := by omega
      obtain ⟨b, hb, hd2⟩ := scan hlt
      rw [if_neg (by omega), if_pos (by omega), if_pos (by omega), hb]
      have hext : (s.extract fr s.size).data.toList = (s.extract fr n).data.toList ++ b :: s.data.toList.drop (n + 1) := by
        rw [Lib.extract_data, Lib.extract_data, ← hd2]
        have e1 : List.take (s.size - fr) (List.drop fr s.data.toList) = List.drop fr s.data.toList := List.take_of_length_le (by rw [List.length_drop, ← Lib.size_eq]; omega)
        rw [e1]
        have e2 : s.data.toList.drop n = (s.data.toList.drop fr).drop (n - fr) := by rw [List.drop_drop]; congr 1; omega
        rw [e2, List.take_append_drop]
      by_cases hbc : b = c
      · subst hbc
        rw [if_pos rfl, if_pos (by omega), if_pos (by omega), if_pos (by omega), hw]
        rw [ih (n + 1) (n + 1) k _ (by omega) (by omega) (by omega) (.inr rfl) (fun h => by rw [Lib.extract_data]; simp) (by rw [List.length_append]; simp; omega) (by omega)]
        rw [if_pos (by omega)]
        congr 1
        rw [List.append_assoc]
        congr 1
        unfold splitBy
        rw [hext, splitC_at _ hcn, List.map_cons]
        have e3 : ba (s.extract fr n).data.toList = s.extract ((fr : Int)).toNat ((n : Int)).toNat := rfl
        rw [e3]
        have e4 : (s.extract (n + 1) s.size).data.toList = s.data.toList.drop (n + 1) := Lib.extract_to_end s (n + 1)
        rw [e4]
        rfl
      · have hne : ¬ ((b.toNat : Int) = (c.toNat : Int)) := fun e => hbc (UInt8.toNat_inj.1 (by omega))
        rw [if_neg hne, hw]
        rw [ih (n + 1) fr k _ (by omega) (by omega) (by omega) (.inl (by omega)) (fun h => by
          have e5 : (s.extract fr (n + 1)).data.toList = (s.extract fr n).data.toList ++ [b] := by
            rw [Lib.extract_data, Lib.extract_data]
            have e6 : n + 1 - fr = (n - fr) + 1 := by omega
            rw [e6]
            have e7 : (s.data.toList.drop fr)[n - fr]? = some b := by
              rw [List.getElem?_drop]
              have : s.data.toList[fr + (n - fr)]? = (s.data.toList.drop n)[0]? := by rw [List.getElem?_drop]; congr 1; omega
              rw [this, hd2]; rfl
            rw [List.take_add_one, e7]; rfl
          rw [e5]
          intro hm
          rcases List.mem_append.1 hm with hm | hm
          · exact hcn hm
          · exact hbc (List.mem_singleton.1 hm).symm) (by omega) (by omega)]
        rw [if_pos (by omega)]
theorem ref_split (c : UInt8) (s : ByteArray) (hs : s.size ≤ 4294967290) (k : Nat) (hk : s.size + 1 < k) : armadaref05_Split.f k s (c.toNat : Int) = some (splitBy c s) := by
  unfold armadaref05_Split.f
  have h := ref_split_from c s (by omega) (s.size + 1) 0 0 k [] (by omega) (by omega) (by omega) (.inr rfl) (fun _ => by rw [Lib.extract_data]; simp) (by simp; omega) hk
  rw [if_pos (by omega)] at h
  have e : s.extract 0 s.size = s := by
    apply by_data
    rw [Lib.extract_to_end]; rfl
  rw [e, List.nil_append] at h
  exact h
theorem ref_part_l0 (s : ByteArray) (hs : s.size ≤ 4294967290) : ∀ (d n k : Nat), s.size - n = d → n ≤ s.size → d < k →
    armadaref05_part.l0 k s (n : Int) = some ((s.data.toList.drop n).all isPlain && partFin s.data.toList) := by
  intro d
  induction d with
  | zero =>
    intro n k hd hn hk
    obtain ⟨k, rfl⟩ : ∃ m, k = m + 1 := ⟨k - 1, by omega⟩
    simp only [armadaref05_part.l0]
    rw [if_neg (by omega), scan_end (by omega), ByteArray.toList_eq]
    by_cases h1 : s.data.toList = []
    · rw [if_pos h1]; simp [h1, partFin]
    · rw [if_neg h1]
      by_cases h2 : s.data.toList = [46]
      · rw [if_pos h2]; simp [h2, partFin]
      · rw [if_neg h2]
        by_cases h3 : s.data.toList = [46, 46] <;> simp [h1, h2, h3, bne, partFin]
  | succ d ih =>
    intro n k hd hn hk
    obtain ⟨k, rfl⟩ : ∃ m, k = m + 1 := ⟨k - 1, by omega⟩
    obtain ⟨b, hb, hd2⟩ := scan (s := s) (n := n) (by omega)
    simp only [armadaref05_part.l0]
    rw [if_pos (by omega), if_pos (by omega), hb, wrap_succ (by omega), ih (n + 1) k (by omega) (by omega) (by omega), hd2, List.all_cons, Bool.and_assoc]
    generalize ((s.data.toList.drop (n + 1)).all isPlain && partFin s.data.toList) = X
    have hm := b.toNat_lt
    clear ih hd2 hb hd hk hs hn
    unfold isPlain
    generalize b.toNat = m at hm ⊢
    revert X
    revert m
    decide +kernel
theorem ref_part_f (s : ByteArray) (hs : s.size ≤ 4294967290) (k : Nat) (hk : s.size < k) : armadaref05_part.f k s = some (partOk s.data.toList) := by
  unfold armadaref05_part.f partOk
  rw [show (0 : Int) = ((0 : Nat) : Int) from rfl, ref_part_l0 s hs s.size 0 k (by omega) (by omega) hk]
  simp
end Go.Proofs.YtillhaipemengaaGreatDoor
end
