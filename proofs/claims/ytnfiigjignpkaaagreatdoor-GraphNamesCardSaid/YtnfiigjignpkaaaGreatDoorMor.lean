/- The law armadalaw16.GraphMore in plain words: one more requirement. -/
import Derived.Test.YtnfiigjignpkaaaGreatDoorRga
import Derived.Test.YtnfiigjignpkaaaGreatDoorWTab
import Derived.Test.YtnfiigjignpkaaaGreatDoorWLast
namespace Go.Proofs.YtnfiigjignpkaaaGreatDoor
open Go Go.RowKit Go.Proofs.YtnfiigjignpkaaaGreatDoorW.PrintWords Go.Proofs.YtnfiigjignpkaaaGreatDoor.K0 Go.Proofs.YtnfiigjignpkaaaGreatDoor.R1 Go.Proofs.YtnfiigjignpkaaaGreatDoor.R3
set_option linter.unusedVariables false
set_option linter.unusedSimpArgs false

def mreq (p : ByteArray) : S44 := ⟨p, ⟨0, 0, 0, ⟨#[]⟩, ⟨#[]⟩⟩⟩
def mmod (x : S40) (p : ByteArray) : S40 := ⟨x.f0, x.f1, x.f2 ++ [mreq p]⟩
def moreL (l : List S40) (i : Nat) (x : S40) (p : ByteArray) : List S40 := l.set i (mmod x p)
theorem moreL_len (l : List S40) (i : Nat) (x : S40) (p : ByteArray) : (moreL l i x p).length = l.length := by simp [moreL]
theorem moreL_f1 {l : List S40} {i : Nat} {x : S40} (p : ByteArray) (hx : l[i]? = some x) : (moreL l i x p).map (fun m => m.f1) = l.map fun m => m.f1 := by
  unfold moreL
  rw [List.map_set]
  apply List.ext_getElem?
  intro j
  rw [List.getElem?_set]
  split
  · rename_i h
    subst h
    split
    · rw [List.getElem?_map, hx]; rfl
    · rename_i h; rw [List.getElem?_eq_none (by simpa using h)]
  · rfl
theorem moreL_gcheck {l : List S40} {i : Nat} {x : S40} (p : ByteArray) (hx : l[i]? = some x) : gcheck (moreL l i x p) = gcheck l := by
  have h := moreL_f1 p hx
  have e1 : pathsOf (moreL l i x p) = pathsOf l := by
    have := congrArg (List.map fun q : ByteArray => q.data.toList) h
    rw [List.map_map, List.map_map] at this
    exact this
  have e2 : ((moreL l i x p).all fun m => checkOk m.f1) = l.all fun m => checkOk m.f1 := by
    have := congrArg (fun q : List ByteArray => q.all checkOk) h
    simp only [List.all_map] at this
    exact this
  unfold gcheck
  rw [e1, e2, moreL_len]
theorem edgesFrom_paths (x : S40) : ∀ (l l' : List S40) (k : Nat), l.map (fun m => m.f1) = l'.map (fun m => m.f1) → edgesFrom x k l = edgesFrom x k l'
  | [], [], _, _ => rfl
  | [], _ :: _, _, h => by simp at h
  | _ :: _, [], _, h => by simp at h
  | m :: l, m' :: l', k, h => by
    simp only [List.map_cons, List.cons.injEq] at h
    rw [edgesFrom_at x k _ m l rfl, edgesFrom_at x k _ m' l' rfl, edgesFrom_paths x l l' (k + 1) h.2, h.1]
theorem needs_mmod (x : S40) (p q : ByteArray) : needs (mmod x p) q = (needs x q || (p.data.toList == q.data.toList)) := by
  unfold needs mmod mreq
  simp
theorem edgesOf_more {l : List S40} {i : Nat} {x : S40} (p : ByteArray) (hx : l[i]? = some x) (j : Nat) (z : Int) (hz : z ∈ edgesOf l j) : z ∈ edgesOf (moreL l i x p) j := by
  have hil := (List.getElem?_eq_some_iff.1 hx).1
  have hf := moreL_f1 p hx
  by_cases h : j = i
  · subst h
    rw [edgesOf_at hx] at hz
    have hk : (moreL l j x p)[j]? = some (mmod x p) := by unfold moreL; rw [List.getElem?_set_self hil]
    rw [edgesOf_at hk, edgesFrom_paths (mmod x p) _ _ 0 hf]
    obtain ⟨a, m, h1, h2, h3⟩ := mem_edgesFrom.1 hz
    exact mem_edgesFrom.2 ⟨a, m, h1, h2, by rw [needs_mmod, h3]; rfl⟩
  · have hk : (moreL l i x p)[j]? = l[j]? := by unfold moreL; rw [List.getElem?_set_ne (fun e => h e.symm)]
    unfold edgesOf at hz ⊢
    rw [hk]
    cases hj : l[j]? with
    | none => rw [hj] at hz; cases hz
    | some y =>
      rw [hj] at hz
      show z ∈ edgesFrom y 0 (moreL l i x p)
      rw [edgesFrom_paths y _ _ 0 hf]
      exact hz
theorem more_new {l : List S40} {i j : Nat} {x y : S40} (h0 : gcheck l = 0) (hx : l[i]? = some x) (hy : l[j]? = some y) : (edgesG (moreL l i x y.f1) (i : Int)).contains (j : Int) = true := by
  have hil := (List.getElem?_eq_some_iff.1 hx).1
  unfold edgesG
  rw [moreL_gcheck _ hx, if_pos h0, if_pos (by omega), moreL_len, if_pos (by omega), Int.toNat_natCast]
  have hk : (moreL l i x y.f1)[i]? = some (mmod x y.f1) := by unfold moreL; rw [List.getElem?_set_self hil]
  rw [edgesOf_at hk, edgesFrom_paths (mmod x y.f1) _ _ 0 (moreL_f1 y.f1 hx), List.contains_iff_mem]
  exact mem_edgesFrom.2 ⟨j, y, hy, by simp, by rw [needs_mmod]; simp⟩
theorem more_len {l : List S40} {i : Nat} {x : S40} (p : ByteArray) (h0 : gcheck l = 0) (hx : l[i]? = some x) : (edgesG l (i : Int)).length ≤ (edgesG (moreL l i x p) (i : Int)).length := by
  have hil := (List.getElem?_eq_some_iff.1 hx).1
  unfold edgesG
  rw [moreL_gcheck _ hx, if_pos h0, if_pos h0, if_pos (by omega), if_pos (by omega), moreL_len, if_pos (by omega), if_pos (by omega), Int.toNat_natCast]
  exact len_le_of_sub _ _ (edgesOf_nodup l i) (fun z hz => edgesOf_more p hx i z hz)
theorem more_up {l : List S40} {i : Nat} {x : S40} (p : ByteArray) (h0 : gcheck l = 0) (hx : l[i]? = some x) (fr : List Int) : ∀ z ∈ upG l fr, (upG (moreL l i x p) fr).contains z = true := by
  have hl := gcheck_len h0
  have hk := edgy (moreL l i x p)
  rw [moreL_len] at hk
  intro z hz
  unfold upG at hz ⊢
  rw [if_pos h0] at hz
  rw [moreL_gcheck _ hx, if_pos h0, moreL_len, List.contains_iff_mem]
  exact up_edges (edgy l) hk hl (fun j y _ hy => edgesOf_more p hx j y hy) hz
theorem more_cyc {l : List S40} {i : Nat} {x : S40} (p : ByteArray) (h0 : gcheck l = 0) (hx : l[i]? = some x) : ∀ z ∈ cycG l, (cycG (moreL l i x p)).contains z = true := by
  have hl := gcheck_len h0
  have hk := edgy (moreL l i x p)
  rw [moreL_len] at hk
  intro z hz
  unfold cycG at hz ⊢
  rw [if_pos h0] at hz
  rw [moreL_gcheck _ hx, if_pos h0, moreL_len, List.contains_iff_mem]
  exact cyc_edges (edgy l) hk hl (fun j y _ hy => edgesOf_more p hx j y hy) hz
end Go.Proofs.YtnfiigjignpkaaaGreatDoor

/- The law armadalaw16.GraphMore: the walk. -/
namespace Go.Proofs.YtnfiigjignpkaaaGreatDoor
open Go Go.RowKit Go.Sort Go.Proofs Go.Proofs.YtnfiigjignpkaaaGreatDoorW.PrintWords Go.Proofs.YtnfiigjignpkaaaGreatDoorW.PrintLast Go.Proofs.YtnfiigjignpkaaaGreatDoor.K0 Go.Proofs.YtnfiigjignpkaaaGreatDoor.R3
set_option linter.unusedVariables false
set_option linter.unusedSimpArgs false

/-- The cells of a module, its requirements by where they lie alone. -/
def hdrV : Option Addr × Nat × Nat → Value := fun h => .slice h.1 h.2.1 h.2.2
def kFlat : Kd (ByteArray × ByteArray × Option Addr × Nat × Nat) := Kd.pair Kd.string (Kd.pair Kd.string (Kd.scalar hdrV (fun _ => rfl)))
theorem kFlat_mk (w : World) (p q : ByteArray) (A : Option Addr) (n c : Nat) (base : Nat) (ok : Nat → Prop) : kFlat.M w base ok (p, q, A, n, c) [.string p, .string q, .slice A n c] :=
  ⟨[.string p], [.string q, .slice A n c], rfl, rfl, [.string q], [.slice A n c], rfl, rfl, rfl⟩
theorem kFlat_open {w : World} {x : ByteArray × ByteArray × Option Addr × Nat × Nat} {cs : List Value} (h : kFlat.K w x cs) : cs = [.string x.1, .string x.2.1, .slice x.2.2.1 x.2.2.2.1 x.2.2.2.2] := by
  obtain ⟨_, _, rfl, rfl, _, _, rfl, rfl, rfl⟩ := h
  rfl
/-- A row of modules, out of its cells and where the requirements lie. -/
theorem mods_of_flat {w : World} {A : Option Addr} {n : Nat} {hs : List (ByteArray × ByteArray × Option Addr × Nat × Nat)} {ks : List S40} (h : Kd.C kFlat w A n hs) (hl : ks.length = n)
    (hk : ∀ (j : Nat) (y : S40), ks[j]? = some y → ∃ A2 c2, hs[j]? = some (y.f0, y.f1, A2, y.f2.length, c2) ∧ y.f2.length ≤ c2 ∧ Kd.C k44 w A2 y.f2.length y.f2) : Kd.C k40 w A n ks := by
  refine ⟨hl, h.2.1, fun hn => ?_⟩
  obtain ⟨ad, e, hc⟩ := h.2.2 hn
  refine ⟨ad, e, fun j y hy => ?_⟩
  obtain ⟨A2, c2, h1, h2, h3⟩ := hk j y hy
  obtain ⟨c, g1, g2, g3⟩ := hc j _ h1
  obtain rfl := kFlat_open g2
  exact ⟨_, rfl, k40_mk w y h2 h3, g3⟩
theorem in_calls (A : Option Addr) (c : Nat) (xs : List Int) (z : Int) (w : World) (hr : Kd.C (Kd.int .i64) w A xs.length xs) (hc : xs.length ≤ c) :
    Calls Tryz.prog 21 #[.slice A xs.length c, .int .i64 z] w fun e w' => e = .returned (.bool (xs.contains z)) ∧ Below w.heap.size w w' := by
  obtain ⟨k, hk⟩ := (In_ev xs z hr.2.1).rounds
  refine (armadaref16_In.calls k A c xs z _ w hr hc hk).mono ?_
  rintro e w' ⟨rfl, hb⟩
  exact ⟨rfl, hb.below⟩
theorem small_calls (A : Option Addr) (c : Nat) (l : List S40) (w : World) (hr : Kd.C k40 w A l.length l) (hc : l.length ≤ c) :
    ∃ b, (b = true → l.length ≤ 20 ∧ ∀ x ∈ l, x.f2.length ≤ 30) ∧ Calls Tryz.prog 8 #[.slice A l.length c] w fun e w' => e = .returned (.bool b) ∧ Below w.heap.size w w' := by
  obtain ⟨b, hb, hB⟩ := Small_ev l hr.2.1 (fun x hx => by
    obtain ⟨j, hj, e⟩ := List.getElem_of_mem hx
    have hl := hr.1
    obtain ⟨ad, _, h⟩ := hr.2.2 (by omega)
    obtain ⟨cs, _, hK, _⟩ := h j x (by rw [List.getElem?_eq_getElem hj, e])
    obtain ⟨A2, c2, _, _, h2⟩ := k40_open hK
    exact h2.2.1)
  obtain ⟨k, hk⟩ := hb.rounds
  refine ⟨b, hB, (armadaref16_Small.calls k A c l b w hr hc hk).mono ?_⟩
  rintro e w' ⟨rfl, hb'⟩
  exact ⟨rfl, by first | exact hb'.below | exact hb'⟩

theorem int_res2 {W w' : World} {b : Nat} {v : Value} {l : List Int} (h : Kd.R (Kd.int .i64) 3 w' b (fun _ => True) v l) : ∃ A c, v = .slice A l.length c ∧ l.length ≤ c ∧ Kd.C (Kd.int .i64) w' A l.length l := Kd.R_reads h
theorem up_res (A Af : Option Addr) (c cf : Nat) (l : List S40) (fr : List Int) (w : World) (hG : GW w) (hr : Kd.C k40 w A l.length l) (hc : l.length ≤ c) (hf : Kd.C (Kd.int .i64) w Af fr.length fr) (hcf : fr.length ≤ cf) (hl : l.length ≤ 4294967290) :
    Calls Tryz.prog 19 #[.slice A l.length c, .slice Af fr.length cf] w fun e w' => ∃ A' c', e = .returned (.slice A' (upG l fr).length c') ∧ (upG l fr).length ≤ c' ∧ Kd.C (Kd.int .i64) w' A' (upG l fr).length (upG l fr) ∧ Below w.heap.size w w' := by
  refine (graph_Up.calls A c l Af cf fr (upG l fr) w hr hc hf hcf hG (by unfold graph_Up.f; rw [if_pos hl])).mono ?_
  rintro e w' ⟨v, rfl, hR, hb⟩
  obtain ⟨A', c', rfl, h1, h2⟩ := int_res2 (W := w) hR
  exact ⟨A', c', rfl, h1, h2, hb⟩
theorem cyc_res (A : Option Addr) (c : Nat) (l : List S40) (w : World) (hG : GW w) (hr : Kd.C k40 w A l.length l) (hc : l.length ≤ c) (hl : l.length ≤ 4294967290) :
    Calls Tryz.prog 17 #[.slice A l.length c] w fun e w' => ∃ A' c', e = .returned (.slice A' (cycG l).length c') ∧ (cycG l).length ≤ c' ∧ Kd.C (Kd.int .i64) w' A' (cycG l).length (cycG l) ∧ Below w.heap.size w w' := by
  refine (graph_Cyclic.calls A c l (cycG l) w hr hc hG (by unfold graph_Cyclic.f; rw [if_pos hl])).mono ?_
  rintro e w' ⟨v, rfl, hR, hb⟩
  obtain ⟨A', c', rfl, h1, h2⟩ := int_res2 (W := w) hR
  exact ⟨A', c', rfl, h1, h2, hb⟩
theorem edg_res (A : Option Addr) (c : Nat) (l : List S40) (i : Int) (w : World) (hG : GW w) (hr : Kd.C k40 w A l.length l) (hc : l.length ≤ c) (hl : l.length ≤ 4294967290) :
    Calls Tryz.prog 15 #[.slice A l.length c, .int .i64 i] w fun e w' => ∃ A' c', e = .returned (.slice A' (edgesG l i).length c') ∧ (edgesG l i).length ≤ c' ∧ Kd.C (Kd.int .i64) w' A' (edgesG l i).length (edgesG l i) ∧ Below w.heap.size w w' := by
  refine (graph_Edges.calls A c l i (edgesG l i) w hr hc hG (by unfold graph_Edges.f; rw [if_pos hl])).mono ?_
  rintro e w' ⟨v, rfl, hR, hb⟩
  obtain ⟨A', c', rfl, h1, h2⟩ := int_res2 (W := w) hR
  exact ⟨A', c', rfl, h1, h2, hb⟩
/-- A number of a row. -/
theorem int_cell {w : World} {A : Option Addr} {n : Nat} {xs : List Int} (h : Kd.C (Kd.int .i64) w A n xs) {k : Nat} {z : Int} (hz : xs[k]? = some z) : ∃ ad, A = some ad ∧ w.cell? (ad.add k) = some (.int .i64 z) := by
  have hk := (List.getElem?_eq_some_iff.1 hz).1
  have hl := h.1
  obtain ⟨ad, cs, hA, _, hK, hcell⟩ := Kd.C_get h (0 : Int) (k : Int) (by omega) (by omega)
  have hxe : xs.getD (k : Int).toNat 0 = z := by rw [Int.toNat_natCast, List.getD_eq_getElem?_getD, hz]; rfl
  rw [hxe] at hK
  obtain rfl : cs = [.int .i64 z] := hK
  refine ⟨ad, hA, ?_⟩
  have := hcell 0 _ rfl
  rw [Int.toNat_natCast, show (Kd.int .i64).sz = 1 from rfl] at this
  simpa using this
structure Box2 (B : Nat) (a b : Int) (W : World) : Prop where
  c0 : W.cell? ⟨B, 0, none⟩ = some (.int .i64 a)
  c1 : W.cell? ⟨B, 1, none⟩ = some (.int .i64 b)
theorem Box2.below {B : Nat} {a b : Int} {W W' : World} (h : Box2 B a b W) (hb : Below W.heap.size W W') : Box2 B a b W' := ⟨below_cell hb h.c0, below_cell hb h.c1⟩
theorem Box2.new (w : World) (a b : Int) (t : TypeId) : Box2 w.heap.size a b (w.alloc (.cells #[.int .i64 a, .int .i64 b] t)) := by
  constructor <;> (unfold World.cell?; rw [heap_alloc_new]; rfl)
theorem Box2.upto {B C : Nat} {a b : Int} {W W' : World} (h : Box2 B a b W) (hb : Below C W W') (hC : B < C) : Box2 B a b W' := ⟨(hb.cell (p := ⟨B, 0, none⟩) hC).trans h.c0, (hb.cell (p := ⟨B, 1, none⟩) hC).trans h.c1⟩
/-- A module's cells, where it lies. -/
theorem mod_cells {w : World} {A : Option Addr} {n : Nat} {l : List S40} (h : Kd.C k40 w A n l) {j : Nat} {x : S40} (hx : l[j]? = some x) : ∃ (ad : Addr) (A2 : Option Addr) (c2 : Nat), A = some ad ∧ w.cell? (ad.add (j * 3)) = some (.string x.f0) ∧ w.cell? ⟨(ad.add (j * 3)).block, (ad.add (j * 3)).off + 1, none⟩ = some (.string x.f1) ∧ w.cell? ⟨(ad.add (j * 3)).block, (ad.add (j * 3)).off + 2, none⟩ = some (.slice A2 x.f2.length c2) ∧ x.f2.length ≤ c2 ∧ Kd.C k44 w A2 x.f2.length x.f2 := by
  have hj := (List.getElem?_eq_some_iff.1 hx).1
  have hl := h.1
  have hxe : rd_T40 l (j : Int) = x := by
    unfold rd_T40
    rw [Int.toNat_natCast, List.getD_eq_getElem?_getD, hx]; rfl
  obtain ⟨ad, A2, c2, hA, h0, h1, h2, hc2, hC2⟩ := at_T40 h (j : Int) (by omega) (by omega)
  rw [hxe] at h0 h1 h2 hc2 hC2
  rw [Int.toNat_natCast] at h0 h1 h2
  exact ⟨ad, A2, c2, hA, h0, h1, h2, hc2, hC2⟩

def more.T28 : Bool × List (List Nat × List Nat) := (true, [([], []), ([], []), ([1], [1]), ([0, 2], [0, 2]), ([], []), ([4], [4]), ([3, 5, 3], [3, 5]), ([6, 6], [6]), ([7], [7]), ([7], [7]), ([9, 7], [7, 9]), ([8, 10, 7, 7], [7, 8, 10]), ([11, 7], [7, 11]), ([7], [7]), ([7], [7]), ([14, 7], [7, 14]), ([13, 15, 11, 7], [7, 13, 15]), ([16, 7], [7, 16]), ([12, 17, 7], [7, 12, 17]), ([7, 18], [7, 18]), ([19, 16], [19]), ([20, 20], [20]), ([20, 21], [20, 21]), ([22, 21, 0, 1, 2, 3, 4, 5, 6, 7, 8, 9, 10, 11, 12, 13, 14, 15, 16, 17, 18, 19, 20, 21, 22], [22])])
def more.B28 : List Nat := [0, 0, 2, 7, 0, 16, 63, 127, 255, 255, 767, 2047, 4095, 255, 255, 16639, 61439, 126975, 262143, 524287, 1048575, 2097151, 4194303, 8388607]
theorem more.tab28 : rtab .any (opsOf Tryz.f6 28) = more.T28 := by kernel_rfl
theorem more.bits28 : waitsOk more.T28.2 more.B28 = true := by kernel_rfl
/-- The round's own module lies where it lay behind the two appends. -/
theorem more_blk {wr wA wB : World} {a b v : Value} {t : TypeId} {vA : Value} (hgA : (wr.alloc (.cells #[a, b, v] t)).grownBy wA (Value.slice none 0 0).ownBlock) (hatA : vA.ownBlock = (Value.slice none 0 0).ownBlock ∨ ∃ k, vA.ownBlock = some k ∧ (wr.alloc (.cells #[a, b, v] t)).heap.size ≤ k)
    (hgB : wA.grownBy wB vA.ownBlock) : wB.heap[wr.heap.size]? = some (.cells #[a, b, v] t (0, 0)) := by
  refine blk_grown (blk_grown (blk_new wr (.cells #[a, b, v] t)) hgA (by simp [Value.ownBlock])) hgB ?_
  rcases hatA with h | ⟨k, h, hk⟩
  · rw [h]; simp [Value.ownBlock]
  · rw [h]
    intro e
    have := Option.some.inj e
    simp at hk
    omega
/-- The row of modules stands through the two appends to the requirements, and the store into the round's own module. -/
theorem more_row {wr wA wB : World} {o : Obj} {base : Nat} {u7 vA : Value} {hs : List (ByteArray × ByteArray × Option Addr × Nat × Nat)} {rs : List S44} (hK : Kd.R kFlat 40 wr base (fun _ => True) u7 hs) (hgA : (wr.alloc o).grownBy wA (Value.slice none 0 0).ownBlock)
    (hRA : Kd.R k44 44 wA base (fun _ => True) vA rs) (hgB : wA.grownBy wB vA.ownBlock) (v : Value) : Kd.R kFlat 40 (wB.setCell ⟨wr.heap.size, 2, none⟩ v) base (fun k => True ∧ k ≠ wr.heap.size) u7 hs :=
  Kd.R_far (p := ⟨wr.heap.size, 2, none⟩) (Kd.R_over (Kd.R_grown (Kd.R_alloc (Kd.R_elderB hK wr.heap.size (Nat.le_refl _)) o) hgA (fun k _ => by simp [Value.ownBlock])) hRA (by decide) hgB) (fun k hk => hk.2) v
set_option maxRecDepth 100000 in
set_option maxHeartbeats 8000000 in
theorem more_main (A Af : Option Addr) (c cf : Nat) (l : List S40) (i j : Nat) (fr : List Int) (x y : S40) (w : World) (hG : GW w) (hr : Kd.C k40 w A l.length l) (hc : l.length ≤ c) (hf : Kd.C (Kd.int .i64) w Af fr.length fr) (hcf : fr.length ≤ cf)
    (hsm : ∀ W, Below w.heap.size w W → Calls Tryz.prog 8 #[.slice A l.length c] W fun e w' => e = .returned (.bool true) ∧ Below W.heap.size W w')
    (h0 : gcheck l = 0) (hfr : fr.length ≤ 30) (hx : l[i]? = some x) (hy : l[j]? = some y) (hx29 : x.f2.length ≤ 29) (hs30 : ∀ m ∈ l, m.f2.length ≤ 30) :
    Calls Tryz.prog 6 #[.slice A l.length c, .agg #[.int .i64 i, .int .i64 j], .slice Af fr.length cf] w fun e w' => e = .returned (.bool true) ∧ Below w.heap.size w w' := by
  have hl12 := gcheck_len h0
  have hin := (List.getElem?_eq_some_iff.1 hx).1
  have hjn := (List.getElem?_eq_some_iff.1 hy).1
  obtain ⟨ad, Ai, ci, hA, gi0, gi1, gi2, gic, giC⟩ := mod_cells hr hx
  obtain ⟨ad', Aj, cj, hA', gj0, gj1, gj2, gjc, gjC⟩ := mod_cells hr hy
  obtain rfl : ad = ad' := by rw [hA] at hA'; injection hA'
  subst hA
  have hsm0 := hsm _ (below_alloc (Below.refl _ w) (.cells #[.int .i64 i, .int .i64 j] 37))
  have hck : ∀ W, Below w.heap.size w W → Calls Tryz.prog 12 #[.slice (some ad) l.length c] W fun e w' => e = .returned (.int .i64 0) ∧ Below W.heap.size W w' := fun W hb => h0 ▸ gcheck_calls (some ad) c l W (hG.below hb) (Kd.C_below hr hb)
  have hbx := Box2.new w i j 37
  obtain ⟨n, hn⟩ : ∃ n, n = l.length := ⟨_, rfl⟩
  obtain ⟨nf, hnf⟩ : ∃ nf, nf = fr.length := ⟨_, rfl⟩
  rw [← hn] at hsm0 hck hin hjn hl12 ⊢
  rw [← hnf] at hfr ⊢
  have HN := Aside0.mk hn
  have HNF := Aside0.mk hnf
  have HCK := Aside0.mk hck
  have HGW := Aside0.mk hG
  have HR := Aside0.mk hr
  have HF := Aside0.mk hf
  have HI := Aside0.mk (⟨gi0, gi1, gi2⟩ : _ ∧ _ ∧ _)
  have HJ := Aside0.mk (⟨gj0, gj1, gj2⟩ : _ ∧ _ ∧ _)
  have H30 := Aside0.mk hs30
  have HX := Aside0.mk hx
  have HY := Aside0.mk hy
  have HBX := Aside0.mk hbx
  have HCC := Aside0.mk hc
  have HCF := Aside0.mk hcf
  have H0 := Aside0.mk h0
  have hiz0 : ¬ (i : Int) < 0 := by omega
  have hjz0 : ¬ (j : Int) < 0 := by omega
  have hiz1 : ¬ (i : Int) ≥ (n : Int) := by omega
  have hjz1 : ¬ (j : Int) ≥ (n : Int) := by omega
  have hfz : ¬ (nf : Int) > 30 := by omega
  have hxz : ¬ (x.f2.length : Int) > 29 := by omega
  have hd1 : decide (30 < (nf : Int)) = false := decide_eq_false (by omega)
  have hd2 : decide ((i : Int) < 0) = false := decide_eq_false (by omega)
  have hd3 : decide (n ≤ i) = false := decide_eq_false (by omega)
  have hd4 : decide ((j : Int) < 0) = false := decide_eq_false (by omega)
  have hd5 : decide (n ≤ j) = false := decide_eq_false (by omega)
  have hd6 : decide (29 < (x.f2.length : Int)) = false := decide_eq_false (by omega)
  have hmi : (i : Int) < (n : Int) := by omega
  have hmj : (j : Int) < (n : Int) := by omega
  clear hn hnf hck hG hr hf gi0 gi1 gi2 gj0 gj1 gj2 giC gjC hs30 hx hy hsm hbx h0 hc hcf
  go_enter Tryz.func6, Tryz.ntmps6
  go_wp2_with (first
    | (go_at_call 8; with_reducible refine hsm0.mono ?_; rintro e w1 ⟨rfl, hb1⟩; have HBX1 := Aside0.mk (HBX.out.below hb1); have HB1 := Aside0.mk (below_step (below_alloc (Below.refl _ _) _) hb1); clear hb1)
    | (go_at_call 12; with_reducible refine (HCK.out _ HB1.out).mono ?_; rintro e w2 ⟨rfl, hb2⟩; have HBX2 := Aside0.mk (HBX1.out.below hb2); have HB2 := Aside0.mk (below_step HB1.out hb2); clear hb2; have b0 := HBX2.out.c0; have b1 := HBX2.out.c1; have gi2 := below_cell HB2.out HI.out.2.2))
  have HBE := Aside0.mk (show w.heap.size + 1 ≤ w2.heap.size from by have := HBX2.out.c0; have := World.block_lt_of_cell? _ _ this; exact this)
  have HKK := Aside0.mk (Kd.R_nil kFlat 40 w2 (w.heap.size + 1) (fun _ => True))
  clear b0 b1 gi2 HBX1 HBX HB1 hsm0
  go_loopg [7, 8] n (fun gg v7 v8 wr => ∃ (kk : Nat) (hs : List (ByteArray × ByteArray × Option Addr × Nat × Nat)), kk ≤ n ∧ n - kk ≤ gg ∧ v8 = .int .i64 kk ∧ Aside0 (Kd.R kFlat 40 wr (w.heap.size + 1) (fun _ => True) v7 hs) ∧ Aside0 (hs.length = kk) ∧ Aside0 (Below w.heap.size w wr) ∧ Aside0 (Box2 w.heap.size i j wr) ∧
    Aside0 (∀ (a : Nat) (m : S40), a < kk → a ≠ i → l[a]? = some m → ∃ A2 c2, hs[a]? = some (m.f0, m.f1, A2, m.f2.length, c2) ∧ m.f2.length ≤ c2 ∧ Kd.C k44 w A2 m.f2.length m.f2) ∧
    Aside0 (i < kk → ∃ A2 c2, hs[i]? = some (x.f0, x.f1, A2, (x.f2 ++ [mreq y.f1]).length, c2) ∧ Kd.R k44 44 wr (w.heap.size + 1) (fun _ => True) (.slice A2 (x.f2 ++ [mreq y.f1]).length c2) (x.f2 ++ [mreq y.f1])))
  case atStart => exact ⟨0, [], Nat.zero_le _, by omega, rfl, HKK, ⟨rfl⟩, HB2, HBX2, ⟨fun a m h => absurd h (Nat.not_lt_zero _)⟩, ⟨fun h => absurd h (Nat.not_lt_zero _)⟩⟩
  case round =>
    obtain ⟨kk, hs, hkk, hg, rfl, HK, HSL, HB, HBX, HO1, HO2⟩ := hrel
    have HBE := Aside0.mk (show w.heap.size + 1 ≤ wr.heap.size from by have := HBX.out.c0; have := World.block_lt_of_cell? _ _ this; exact this)
    by_cases hlt : kk < n
    · have hltz : (kk : Int) < (n : Int) := by omega
      obtain ⟨m, hm⟩ : ∃ m, l[kk]? = some m := ⟨_, List.getElem?_eq_getElem (by have := HN.out; omega)⟩
      obtain ⟨ad2, Am, cm, hAA, m0, m1, m2, hmc, hmC⟩ := mod_cells HR.out hm
      obtain rfl : ad = ad2 := by injection hAA
      have m0 := below_cell HB.out m0
      have m1 := below_cell HB.out m1
      have m2 := below_cell HB.out m2
      have b0 := HBX.out.c0
      have hbs : w.heap.size ≠ wr.heap.size := by have := HBE.out; omega
      have b0' : ∀ o, (wr.alloc o).cell? ⟨w.heap.size, 0, none⟩ = some (.int .i64 i) := fun o => (World.cell?_alloc_old wr o _ hbs).trans b0
      have HM := Aside0.mk hm
      have HMC := Aside0.mk hmC
      clear hm hmC hAA hbs
      by_cases hki : kk = i
      · subst hki
        obtain rfl : m = x := Option.some.inj (HM.out.symm.trans HX.out)
        obtain ⟨rq, hrq⟩ : ∃ rq, [] ++ m.f2 ++ [mreq y.f1] = rq := ⟨_, rfl⟩
        have HRQ := Aside0.mk hrq
        clear hrq
        go_wp2_with (first
          | ((with_reducible refine gate_builtin (b := .append) (xs := #[.tmp 79, .tmp 81]) rfl ?_); at_builtin; go_loud (refine Kd.R_append_rows k44 (Rr := k44.K (wr.alloc (.cells #[.string m.f0, .string m.f1, .slice Am m.f2.length cm] 40))) (w0 := wr.alloc (.cells #[.string m.f0, .string m.f1, .slice Am m.f2.length cm] 40)) (w.heap.size + 1) rfl (.tmp 79) (.tmp 81) 38 44 (.agg #[.string ⟨#[]⟩, .int .i64 0, .int .i64 0, .int .i64 0, .string ⟨#[]⟩, .string ⟨#[]⟩]) 72 rfl Tryz.underlying38 info44 rfl (by decide) (by decide) (.slice none 0 0) [] m.f2 Am m.f2.length cm (fun _ => True) (fun _ => False) ?aV ?aX ?aO ?aR ?aK (fun _ hk => hk.elim) ?aF ?aB ?aS ?aL ?_); (case aV => go_loud (rfl)); (case aX => go_loud (rfl)); (case aO => go_loud (exact Kd.R_nil _ _ _ _ _)); (case aR => go_loud (exact Kd.C_alloc (Kd.C_below HMC.out HB.out) _)); (case aK => go_loud (intro q cs hq; obtain rfl := k44_open hq; exact k44_mkM _ _ _ q)); (case aF => exact (fun _ _ => trivial)); (case aB => exact Below.refl _ _); (case aS => go_loud (have := HBE.out; simp; omega)); (case aL => go_loud (have := H30.out m (List.mem_of_getElem? HM.out); simp; omega)); intro vA wA hoA hbA hgA hatA; have HRA := Aside0.mk hoA; have HBA := Aside0.mk hbA; have HGA := Aside0.mk hgA; have HTA := Aside0.mk hatA; have bA1 := ((HBX.out.below (below_alloc (Below.refl _ _) (.cells #[.string m.f0, .string m.f1, .slice Am m.f2.length cm] 40))).upto hbA (Nat.lt_succ_self _)).c1; have gjA := below_cell ((below_alloc HB.out (.cells #[.string m.f0, .string m.f1, .slice Am m.f2.length cm] 40)).trans (hbA.mono (Nat.le_succ _))) HJ.out.2.1; clear hoA hbA hgA hatA)
          | ((with_reducible refine gate_builtin (b := .append) (xs := #[.tmp 83, .tmp 91]) rfl ?_); at_builtin; go_loud (refine Kd.R_append k44 (w0 := wA) (w.heap.size + 1) rfl (.tmp 83) (.tmp 91) 38 44 (.agg #[.string ⟨#[]⟩, .int .i64 0, .int .i64 0, .int .i64 0, .string ⟨#[]⟩, .string ⟨#[]⟩]) 72 rfl Tryz.underlying38 info44 rfl (by decide) (by decide) vA ([] ++ m.f2) (mreq y.f1) [.string y.f1, .int .i64 0, .int .i64 0, .int .i64 0, .string ⟨#[]⟩, .string ⟨#[]⟩] (fun _ => True) (fun _ => False) ?aV ?aX ?aP (fun _ hk => hk.elim) ?aF ?aO ?aB ?aS ?aL ?_); (case aV => go_loud (rfl)); (case aX => go_loud (rfl)); (case aP => go_loud (exact k44_mkM _ _ _ (mreq y.f1))); (case aF => exact (fun _ _ => trivial)); (case aO => exact HRA.out); (case aB => exact Below.refl _ _); (case aS => go_loud (have := HBE.out; have := HBA.out.size; simp at this; omega)); (case aL => go_loud (have := H30.out m (List.mem_of_getElem? HM.out); simp; omega)); intro vB wB hoB hbB hgB hatB; have hm0 := more_blk (wr := wr) HGA.out HTA.out hgB; have z0 := blk_cell hm0 0; have z1 := blk_cell hm0 1; have z2 := blk_cell hm0 2; have zf := blk_frozen hm0 2; rw [HRQ.out] at hoB; obtain ⟨AB, cB, rfl⟩ := Kd.R_slice hoB; have HRB := Aside0.mk hoB; have HBB := Aside0.mk hbB; have HGB := Aside0.mk hgB; have HM0 := Aside0.mk hm0; have y0 := blk_cell (blk_set hm0 2 (.slice AB rq.length cB)) 0; have y1 := blk_cell (blk_set hm0 2 (.slice AB rq.length cB)) 1; have y2 := blk_cell (blk_set hm0 2 (.slice AB rq.length cB)) 2; clear hoB hbB hgB hatB hm0)
          | ((with_reducible refine gate_builtin (b := .append) (xs := #[.tmp 95, .tmp 97]) rfl ?_); at_builtin; go_loud (refine Kd.R_append kFlat (w0 := (wB.setCell ⟨wr.heap.size, 2, none⟩ (.slice AB rq.length cB))) (w.heap.size + 1) rfl (.tmp 95) (.tmp 97) 22 40 (.agg #[.string ⟨#[]⟩, .string ⟨#[]⟩, .slice none 0 0]) 56 rfl Tryz.underlying22 info40 rfl (by decide) (by decide) u7 hs (m.f0, m.f1, AB, rq.length, cB) [.string m.f0, .string m.f1, .slice AB rq.length cB] (fun k => True ∧ k ≠ wr.heap.size) (fun _ => False) ?aV ?aX ?aP (fun _ hk => hk.elim) ?aF ?aO ?aB ?aS ?aL ?_); (case aV => go_loud (rfl)); (case aX => go_loud (show Value.slice (some ⟨wB.heap.size, 0, none⟩) 1 1 = _; simp [World.setCell])); (case aP => exact kFlat_mk _ _ _ _ _ _ _ _); (case aB => exact Below.refl _ _); (case aF => go_loud (intro k hk; have := blk_lt HM0.out; simp [World.setCell] at hk; exact ⟨trivial, by omega⟩)); (case aO => go_loud (exact more_row HK.out HGA.out HRA.out HGB.out _)); (case aS => go_loud (have := HBE.out; have := blk_lt HM0.out; simp [World.setCell]; omega)); (case aL => go_loud (have := HSL.out; omega)); intro v103 w9 ho hb hg hat; have HO3 := Aside0.mk ho; have HB3 := Aside0.mk hb; have HG3 := Aside0.mk hg; clear ho hb hg hat))
        go_roundg (n - (kk + 1))
        case measure => omega
        case rel =>
          have hbE := HBE.out
          have hm0 := HM0.out
          have hch : Below (w.heap.size + 1) wr w9 := ((((Below.refl _ wr).alloc hbE (.cells #[.string m.f0, .string m.f1, .slice Am m.f2.length cm] 40)).trans HBA.out).trans HBB.out |>.setCell (p := ⟨wr.heap.size, 2, none⟩) hbE (.slice AB rq.length cB)).trans HB3.out
          refine ⟨kk + 1, hs ++ [(m.f0, m.f1, AB, rq.length, cB)], by omega, by omega, by go_num, ⟨Kd.R_mono HO3.out (fun _ _ => trivial)⟩, ⟨by rw [List.length_append, HSL.out]; rfl⟩, ⟨HB.out.trans (hch.mono (Nat.le_succ _))⟩, ⟨HBX.out.upto hch (Nat.lt_succ_self _)⟩, ⟨fun a m' ha hai hm' => ?_⟩, ⟨fun hi => ?_⟩⟩
          · obtain ⟨A2, c2, e1, e2, e3⟩ := HO1.out a m' (by omega) hai hm'
            exact ⟨A2, c2, by rw [List.getElem?_append_left (by rw [HSL.out]; omega)]; exact e1, e2, e3⟩
          · have hq : m.f2 ++ [mreq y.f1] = rq := HRQ.out
            rw [hq]
            exact ⟨AB, cB, by rw [List.getElem?_append_right (by rw [HSL.out]; exact Nat.le_refl _), HSL.out]; simp, Kd.R_over (Kd.R_mono (Kd.R_far (p := ⟨wr.heap.size, 2, none⟩) (Kd.R_types HRB.out hm0 (by decide)) (fun _ hk => hk.2) _) (fun _ _ => trivial)) (more_row HK.out HGA.out HRA.out HGB.out _) (by decide) HG3.out⟩
      · have hkiz : ¬ (kk : Int) = (i : Int) := by omega
        go_wp2_with ((with_reducible refine gate_builtin (b := .append) (xs := #[.tmp 95, .tmp 97]) rfl ?_); at_builtin; refine Kd.R_append kFlat (w0 := wr.alloc (.cells #[.string m.f0, .string m.f1, .slice Am m.f2.length cm] 40)) (w.heap.size + 1) rfl (.tmp 95) (.tmp 97) 22 40 (.agg #[.string ⟨#[]⟩, .string ⟨#[]⟩, .slice none 0 0]) 56 rfl Tryz.underlying22 info40 rfl (by decide) (by decide) u7 hs (m.f0, m.f1, Am, m.f2.length, cm) [.string m.f0, .string m.f1, .slice Am m.f2.length cm] (fun _ => True) (fun _ => False) ?aV ?aX ?aP (fun _ hk => hk.elim) ?aF ?aO ?aB ?aS ?aL ?_; (case aV => rfl); (case aX => (show Value.slice (some ⟨wr.heap.size + 1, 0, none⟩) 1 1 = _; simp)); (case aP => exact kFlat_mk _ _ _ _ _ _ _ _); (case aB => exact Below.refl _ _); (case aF => exact (fun _ _ => trivial)); (case aO => exact Kd.R_alloc HK.out _); (case aS => have := HB.out.size; have := HBE.out; simp; omega); (case aL => have := HSL.out; omega); intro v103 w9 ho hb hg hat; have HO3 := Aside0.mk ho; have HB3 := Aside0.mk hb; have HG3 := Aside0.mk hg; clear ho hb hg hat)
        go_roundg (n - (kk + 1))
        case measure => omega
        case rel =>
          have hbE := HBE.out
          have HBn := HB3.out
          refine ⟨kk + 1, hs ++ [(m.f0, m.f1, Am, m.f2.length, cm)], by omega, by omega, by go_num, HO3, ⟨by rw [List.length_append, HSL.out]; rfl⟩, ⟨(below_alloc HB.out _).trans (HBn.mono (by omega))⟩, ⟨(HBX.out.below (below_alloc (Below.refl _ _) _)).upto HBn (by omega)⟩, ⟨fun a m' ha hai hm' => ?_⟩, ⟨fun hi => ?_⟩⟩
          · by_cases e : a = kk
            · subst e
              obtain rfl := Option.some.inj (HM.out.symm.trans hm')
              exact ⟨Am, cm, by rw [List.getElem?_append_right (by rw [HSL.out]; exact Nat.le_refl _), HSL.out]; simp, hmc, HMC.out⟩
            · obtain ⟨A2, c2, e1, e2, e3⟩ := HO1.out a m' (by omega) hai hm'
              exact ⟨A2, c2, by rw [List.getElem?_append_left (by rw [HSL.out]; omega)]; exact e1, e2, e3⟩
          · obtain ⟨A2, c2, e1, e2⟩ := HO2.out (by omega)
            exact ⟨A2, c2, by rw [List.getElem?_append_left (by rw [HSL.out]; omega)]; exact e1, Kd.R_over (Kd.R_alloc e2 _) (Kd.R_alloc HK.out _) (by decide) HG3.out⟩
    · have hltz : ¬ (kk : Int) < (n : Int) := by omega
      have : kk = n := by omega
      subst this
      obtain ⟨A7, c7, rfl⟩ := Kd.R_slice HK.out
      have hflat := Kd.R_reads' HK.out
      have hks : Kd.C k40 wr A7 (moreL l i x y.f1).length (moreL l i x y.f1) := by
        refine mods_of_flat (hs := hs) (by rw [moreL_len, ← HN.out, ← HSL.out]; exact hflat.2.2) rfl fun a u hu => ?_
        by_cases e : a = i
        · subst e
          have hil : a < l.length := by have := HN.out; omega
          unfold moreL at hu
          rw [List.getElem?_set_self hil] at hu
          obtain rfl := Option.some.inj hu
          obtain ⟨A2, c2, g1, g2⟩ := HO2.out hin
          exact ⟨A2, c2, g1, (Kd.R_reads' g2).2.1, (Kd.R_reads' g2).2.2⟩
        · unfold moreL at hu
          rw [List.getElem?_set_ne (fun q => e q.symm)] at hu
          obtain ⟨A2, c2, g1, g2, g3⟩ := HO1.out a u (by have := (List.getElem?_eq_some_iff.1 hu).1; have := HN.out; omega) e hu
          exact ⟨A2, c2, g1, g2, Kd.C_below g3 HB.out⟩
      have hc7 : hs.length ≤ c7 := hflat.2.1
      have hkl : (moreL l i x y.f1).length = kk := by rw [moreL_len]; exact HN.out.symm
      have hab := more_up y.f1 H0.out HX.out fr
      have hcd := more_cyc y.f1 H0.out HX.out
      have hnew := more_new H0.out HX.out HY.out
      have hlen := more_len y.f1 H0.out HX.out
      have hlk : l.length = kk := HN.out.symm
      have hll : l.length ≤ 4294967290 := by omega
      have hkk9 : (moreL l i x y.f1).length ≤ 4294967290 := by omega
      rw [HSL.out] at hc7 ⊢
      have up1 := fun W (hb : Below w.heap.size w W) => up_res (some ad) Af c cf l fr W (HGW.out.below hb) (Kd.C_below HR.out hb) HCC.out (Kd.C_below HF.out hb) HCF.out hll
      have up2 := fun W (hb : Below wr.heap.size wr W) => up_res A7 Af c7 cf (moreL l i x y.f1) fr W (HGW.out.below (below_step HB.out hb)) (Kd.C_below hks hb) (by omega) (Kd.C_below HF.out (below_step HB.out hb)) HCF.out hkk9
      have cy1 := fun W (hb : Below w.heap.size w W) => cyc_res (some ad) c l W (HGW.out.below hb) (Kd.C_below HR.out hb) HCC.out hll
      have cy2 := fun W (hb : Below wr.heap.size wr W) => cyc_res A7 c7 (moreL l i x y.f1) W (HGW.out.below (below_step HB.out hb)) (Kd.C_below hks hb) (by omega) hkk9
      have ed1 := fun W (hb : Below w.heap.size w W) => edg_res (some ad) c l (i : Int) W (HGW.out.below hb) (Kd.C_below HR.out hb) HCC.out hll
      have ed2 := fun W (hb : Below wr.heap.size wr W) => edg_res A7 c7 (moreL l i x y.f1) (i : Int) W (HGW.out.below (below_step HB.out hb)) (Kd.C_below hks hb) (by omega) hkk9
      rw [hkl] at up2 cy2 ed2
      rw [hlk] at up1 cy1 ed1
      rw [show fr.length = nf from HNF.out.symm] at up1 up2
      have hul := upG_len l fr
      have hcl := cycG_len l
      have hel := edgesG_len l (i : Int)
      have hek := edgesG_len (moreL l i x y.f1) (i : Int)
      rw [hkl] at hek
      rw [hlk] at hul hcl hel
      generalize upG l fr = la at up1 hab hul
      generalize upG (moreL l i x y.f1) fr = lb at up2 hab
      generalize cycG l = lc at cy1 hcd hcl
      generalize cycG (moreL l i x y.f1) = ld at cy2 hcd
      generalize edgesG l (i : Int) = le at ed1 hlen hel
      generalize edgesG (moreL l i x y.f1) (i : Int) = lf at ed2 hlen hnew hek
      have UP1 := Aside0.mk up1
      have UP2 := Aside0.mk up2
      have CY1 := Aside0.mk cy1
      have CY2 := Aside0.mk cy2
      have ED1 := Aside0.mk ed1
      have ED2 := Aside0.mk ed2
      have HAB := Aside0.mk hab
      have HCD := Aside0.mk hcd
      have HNEW := Aside0.mk hnew
      have HLEN := Aside0.mk hlen
      have HUL := Aside0.mk hul
      have HCL := Aside0.mk hcl
      have HEL := Aside0.mk (And.intro hel hek)
      clear up1 up2 cy1 cy2 ed1 ed2 hab hcd hnew hlen hul hcl hel hek hks hflat HO1 HO2 HK hkk9 hll
      go_wp2_with (first
        | (go_at_call 19; with_reducible refine (UP1.out _ HB.out).mono ?_; rintro e wa ⟨Aa, ca, rfl, hca, hCa, hb⟩; have HRa := Aside0.mk hCa; have HBa := Aside0.mk hb; clear hCa hb)
        | (go_at_call 19; with_reducible refine (UP2.out _ HBa.out).mono ?_; rintro e wb ⟨Ab, cb, rfl, hcb, hCb, hb⟩; have HRb := Aside0.mk hCb; have HRa2 := Aside0.mk (Kd.C_below HRa.out hb); have HBb := Aside0.mk (below_step HBa.out hb); clear hCb hb)
        | (go_at_call 17; with_reducible refine (CY1.out _ (below_step HB.out HBb.out)).mono ?_; rintro e wc ⟨Ac, cc, rfl, hcc, hCc, hb⟩; have HRc := Aside0.mk hCc; have HRa3 := Aside0.mk (Kd.C_below HRa2.out hb); have HRb3 := Aside0.mk (Kd.C_below HRb.out hb); have HBc := Aside0.mk (below_step HBb.out hb); clear hCc hb)
        | (go_at_call 17; with_reducible refine (CY2.out _ HBc.out).mono ?_; rintro e wd ⟨Ad, cd, rfl, hcd2, hCd, hb⟩; have HRd := Aside0.mk hCd; have HRa4 := Aside0.mk (Kd.C_below HRa3.out hb); have HRb4 := Aside0.mk (Kd.C_below HRb3.out hb); have HRc4 := Aside0.mk (Kd.C_below HRc.out hb); have HBd := Aside0.mk (below_step HBc.out hb); clear hCd hb))
      obtain ⟨na, hna⟩ : ∃ na, na = la.length := ⟨_, rfl⟩
      rw [← hna]
      have Hna := Aside0.mk hna
      have hulna : na ≤ kk := hna ▸ HUL.out
      clear hna
      go_loopg [15] na (fun gg v15 wr2 => ∃ k2 : Nat, k2 ≤ na ∧ na - k2 ≤ gg ∧ v15 = .int .i64 k2 ∧ Aside0 (Below wd.heap.size wd wr2))
      case atStart => exact ⟨0, Nat.zero_le _, by omega, rfl, ⟨Below.refl _ _⟩⟩
      case round =>
        obtain ⟨k2, hk2, hg2, rfl, HL⟩ := hrel
        by_cases hlt2 : k2 < na
        · have hltz2 : (k2 : Int) < (na : Int) := by omega
          obtain ⟨z, hz⟩ : ∃ z, la[k2]? = some z := ⟨_, List.getElem?_eq_getElem (by have := Hna.out; omega)⟩
          obtain ⟨aq, hAq, hcz⟩ := int_cell (Kd.C_below HRa4.out HL.out) hz
          subst hAq
          have hin2 := in_calls Ab cb lb z wr (Kd.C_below HRb4.out HL.out) hcb
          rw [HAB.out z (List.mem_of_getElem? hz)] at hin2
          clear hz
          go_wp2_with (go_at_call 21; with_reducible refine hin2.mono ?_; rintro e wq ⟨rfl, hbq⟩; have HBq := Aside0.mk (below_step HL.out hbq); clear hbq)
          go_roundg (na - (k2 + 1))
          case measure => omega
          case rel => exact ⟨k2 + 1, by omega, by omega, by go_num, HBq⟩
        · have hltz2 : ¬ (k2 : Int) < (na : Int) := by omega
          have e2 : k2 = na := by omega
          subst e2
          go_wp2
          have HRc5 := Aside0.mk (Kd.C_below HRc4.out HL.out)
          have HRd5 := Aside0.mk (Kd.C_below HRd.out HL.out)
          have HBe := Aside0.mk (below_step HBd.out HL.out)
          obtain ⟨nc, hnc⟩ : ∃ nc, nc = lc.length := ⟨_, rfl⟩
          rw [← hnc]
          have Hnc := Aside0.mk hnc
          have hulnc : nc ≤ kk := hnc ▸ HCL.out
          clear hnc
          go_loopg [16] nc (fun gg v15 wr3 => ∃ k3 : Nat, k3 ≤ nc ∧ nc - k3 ≤ gg ∧ v15 = .int .i64 k3 ∧ Aside0 (Below wr.heap.size wr wr3))
          case atStart => exact ⟨0, Nat.zero_le _, by omega, rfl, ⟨Below.refl _ _⟩⟩
          case round =>
            obtain ⟨k3, hk3, hg3, rfl, HL2⟩ := hrel
            by_cases hlt3 : k3 < nc
            · have hltz3 : (k3 : Int) < (nc : Int) := by omega
              obtain ⟨z, hz⟩ : ∃ z, lc[k3]? = some z := ⟨_, List.getElem?_eq_getElem (by have := Hnc.out; omega)⟩
              obtain ⟨aq, hAq, hcz⟩ := int_cell (Kd.C_below HRc5.out HL2.out) hz
              subst hAq
              have hin3 := in_calls Ad cd ld z wr (Kd.C_below HRd5.out HL2.out) hcd2
              rw [HCD.out z (List.mem_of_getElem? hz)] at hin3
              clear hz
              go_wp2_with (go_at_call 21; with_reducible refine hin3.mono ?_; rintro e wq ⟨rfl, hbq⟩; have HBq := Aside0.mk (below_step HL2.out hbq); clear hbq)
              go_roundg (nc - (k3 + 1))
              case measure => omega
              case rel => exact ⟨k3 + 1, by omega, by omega, by go_num, HBq⟩
            · have hltz3 : ¬ (k3 : Int) < (nc : Int) := by omega
              have e3 : k3 = nc := by omega
              subst e3
              go_wp2
              have HBf := Aside0.mk (below_step HBe.out HL2.out)
              have bx := HBX.out.below HBf.out
              have b0 := bx.c0
              have b1 := bx.c1
              have hle := HLEN.out
              clear bx
              refine start_ (n := 24) (S := fun w' => w'.cell? ⟨w.heap.size, 0, none⟩ = some (.int .i64 i) ∧ w'.cell? ⟨w.heap.size, 1, none⟩ = some (.int .i64 j)) (ds := []) #[false, false, false, false, false, false, false, false, false, false, false, false, false, false, false, false, false, false, false, false, false, false, false, false] (by kernel_rfl) rfl rfl ⟨b0, b1⟩ (fun hHeld => ?_); refine with_tabW more.tab28 more.bits28 (fun HT_ HW_ => ?_)
              refine pure_ (i := 0) (N := some 135) (v := ?_) (a' := ?_) #[true, false, false, false, false, false, false, false, false, false, false, false, false, false, false, false, false, false, false, false, false, false, false, false] rfl rfl (any_of HT_.out (by kernel_rfl)) (fun _ _ _ h => h) (Or.inl ⟨by rfl, ?_⟩) ?_ ?_
              rotate_left
              ·
               intro w'
               go_simp
               with_reducible rfl
              rotate_left
              ·
               simp only [Act.put, List.setIfInBounds_toArray, List.set_cons_zero, List.set_cons_succ, i64_w, i32_w]
               rfl
              refine pure_ (i := 1) (N := some 136) (v := ?_) (a' := ?_) #[true, true, false, false, false, false, false, false, false, false, false, false, false, false, false, false, false, false, false, false, false, false, false, false] rfl rfl (any_of HT_.out (by kernel_rfl)) (fun _ _ _ h => h) (Or.inl ⟨by rfl, ?_⟩) ?_ ?_
              rotate_left
              ·
               intro w'
               go_simp
               with_reducible rfl
              rotate_left
              ·
               simp only [Act.put, List.setIfInBounds_toArray, List.set_cons_zero, List.set_cons_succ, i64_w, i32_w]
               rfl
              refine pure_ (i := 4) (N := some 139) (v := ?_) (a' := ?_) #[true, true, false, false, true, false, false, false, false, false, false, false, false, false, false, false, false, false, false, false, false, false, false, false] rfl rfl (any_of HT_.out (by kernel_rfl)) (fun _ _ _ h => h) (Or.inl ⟨by rfl, ?_⟩) ?_ ?_
              rotate_left
              ·
               intro w'
               go_simp
               with_reducible rfl
              rotate_left
              ·
               simp only [Act.put, List.setIfInBounds_toArray, List.set_cons_zero, List.set_cons_succ, i64_w, i32_w]
               rfl
              refine take_ (i := 2) (N := some 137) (v := ?_) (a' := ?_) #[true, true, true, false, true, false, false, false, false, false, false, false, false, false, false, false, false, false, false, false, false, false, false, false] rfl rfl (take_ofW HT_.out HW_.out (by kernel_rfl)) (fun _ _ _ h => h) (Or.inl ⟨by rfl, ?_⟩) hHeld ?_ ?_
              rotate_left
              ·
               rintro w' ⟨s0, s1⟩
               go_simp
               with_reducible rfl
              rotate_left
              ·
               simp only [Act.put, List.setIfInBounds_toArray, List.set_cons_zero, List.set_cons_succ, i64_w, i32_w]
               rfl
              refine take_ (i := 5) (N := some 140) (v := ?_) (a' := ?_) #[true, true, true, false, true, true, false, false, false, false, false, false, false, false, false, false, false, false, false, false, false, false, false, false] rfl rfl (take_ofW HT_.out HW_.out (by kernel_rfl)) (fun _ _ _ h => h) (Or.inl ⟨by rfl, ?_⟩) hHeld ?_ ?_
              rotate_left
              ·
               rintro w' ⟨s0, s1⟩
               go_simp
               with_reducible rfl
              rotate_left
              ·
               simp only [Act.put, List.setIfInBounds_toArray, List.set_cons_zero, List.set_cons_succ, i64_w, i32_w]
               rfl
              refine one_ (i := 3) (N := some 138) #[true, true, true, true, true, true, false, false, false, false, false, false, false, false, false, false, false, false, false, false, false, false, false, false] rfl rfl (one_of HT_.out (by kernel_rfl)) (by decide) (fun K hK => ?_)
              refine goes_ Tryz.func15 (by kernel_rfl) rfl #[.slice A7 kk c7, .int .i64 i] (by rfl) rfl rfl (by (try simp only [List.map_toArray, List.map_cons, List.map_nil]); first | done | rfl) ?_
              with_reducible refine (ED2.out _ (below_drew1 HBf.out)).mono ?_
              rintro e w5 ⟨A5, c5, rfl, hc5, hC5, hb⟩
              refine ⟨_, rfl, ?_⟩
              have HR5 := Aside0.mk hC5
              have HBf5 := Aside0.mk (below_step (below_drew1 HBf.out) hb)
              have b5 := (HBX.out.below HBf5.out).c0
              have b5' := (HBX.out.below HBf5.out).c1
              have hin5 := in_calls A5 c5 lf (j : Int) w5 hC5 hc5
              rw [HNEW.out] at hin5
              have HIN5 := Aside0.mk hin5
              clear hC5 hb hin5
              refine hK.out _ _ ⟨b5, b5'⟩ (fun hHeld => ?_)
              clear hK K
              refine norm_ (a' := ?_) ?_ ?_
              rotate_left
              ·
               show Act.put _ (some 138) _ = _
               simp only [Act.put, List.setIfInBounds_toArray, List.set_cons_zero, List.set_cons_succ, i64_w, i32_w]
               rfl
              refine one_ (i := 6) (N := some 141) #[true, true, true, true, true, true, true, false, false, false, false, false, false, false, false, false, false, false, false, false, false, false, false, false] rfl rfl (one_of HT_.out (by kernel_rfl)) (by decide) (fun K hK => ?_)
              refine goes_ Tryz.func21 (by kernel_rfl) rfl #[.slice A5 lf.length c5, .int .i64 j] (by rfl) rfl rfl (by (try simp only [List.map_toArray, List.map_cons, List.map_nil]); first | done | rfl) ?_
              with_reducible refine (HIN5.out).mono ?_
              rintro e w6 ⟨rfl, hb⟩
              refine ⟨_, rfl, ?_⟩
              have HBf6 := Aside0.mk (below_step HBf5.out hb)
              have b6 := (HBX.out.below HBf6.out).c0
              have b6' := (HBX.out.below HBf6.out).c1
              clear hb
              refine hK.out _ _ ⟨b6, b6'⟩ (fun hHeld => ?_)
              clear hK K
              refine norm_ (a' := ?_) ?_ ?_
              rotate_left
              ·
               show Act.put _ (some 141) _ = _
               simp only [Act.put, List.setIfInBounds_toArray, List.set_cons_zero, List.set_cons_succ, i64_w, i32_w]
               rfl
              refine pure_ (i := 7) (N := some 142) (v := ?_) (a' := ?_) #[true, true, true, true, true, true, true, true, false, false, false, false, false, false, false, false, false, false, false, false, false, false, false, false] rfl rfl (any_of HT_.out (by kernel_rfl)) (fun _ _ _ h => h) (Or.inl ⟨by rfl, ?_⟩) ?_ ?_
              rotate_left
              ·
               intro w'
               go_simp
               with_reducible rfl
              rotate_left
              ·
               simp only [Act.put, List.setIfInBounds_toArray, List.set_cons_zero, List.set_cons_succ, i64_w, i32_w]
               rfl
              refine pure_ (i := 8) (N := some 143) (v := ?_) (a' := ?_) #[true, true, true, true, true, true, true, true, true, false, false, false, false, false, false, false, false, false, false, false, false, false, false, false] rfl rfl (any_of HT_.out (by kernel_rfl)) (fun _ _ _ h => h) (Or.inl ⟨by rfl, ?_⟩) ?_ ?_
              rotate_left
              ·
               intro w'
               go_simp
               with_reducible rfl
              rotate_left
              ·
               simp only [Act.put, List.setIfInBounds_toArray, List.set_cons_zero, List.set_cons_succ, i64_w, i32_w]
               rfl
              refine pure_ (i := 9) (N := some 144) (v := ?_) (a' := ?_) #[true, true, true, true, true, true, true, true, true, true, false, false, false, false, false, false, false, false, false, false, false, false, false, false] rfl rfl (any_of HT_.out (by kernel_rfl)) (fun _ _ _ h => h) (Or.inl ⟨by rfl, ?_⟩) ?_ ?_
              rotate_left
              ·
               intro w'
               go_simp
               with_reducible rfl
              rotate_left
              ·
               simp only [Act.put, List.setIfInBounds_toArray, List.set_cons_zero, List.set_cons_succ, i64_w, i32_w]
               rfl
              refine pure_ (i := 13) (N := some 148) (v := ?_) (a' := ?_) #[true, true, true, true, true, true, true, true, true, true, false, false, false, true, false, false, false, false, false, false, false, false, false, false] rfl rfl (any_of HT_.out (by kernel_rfl)) (fun _ _ _ h => h) (Or.inl ⟨by rfl, ?_⟩) ?_ ?_
              rotate_left
              ·
               intro w'
               go_simp
               with_reducible rfl
              rotate_left
              ·
               simp only [Act.put, List.setIfInBounds_toArray, List.set_cons_zero, List.set_cons_succ, i64_w, i32_w]
               rfl
              refine pure_ (i := 14) (N := some 149) (v := ?_) (a' := ?_) #[true, true, true, true, true, true, true, true, true, true, false, false, false, true, true, false, false, false, false, false, false, false, false, false] rfl rfl (any_of HT_.out (by kernel_rfl)) (fun _ _ _ h => h) (Or.inl ⟨by rfl, ?_⟩) ?_ ?_
              rotate_left
              ·
               intro w'
               go_simp
               with_reducible rfl
              rotate_left
              ·
               simp only [Act.put, List.setIfInBounds_toArray, List.set_cons_zero, List.set_cons_succ, i64_w, i32_w]
               rfl
              refine take_ (i := 10) (N := some 145) (v := ?_) (a' := ?_) #[true, true, true, true, true, true, true, true, true, true, true, false, false, true, true, false, false, false, false, false, false, false, false, false] rfl rfl (take_ofW HT_.out HW_.out (by kernel_rfl)) (fun _ _ _ h => h) (Or.inl ⟨by rfl, ?_⟩) hHeld ?_ ?_
              rotate_left
              ·
               rintro w' ⟨s0, s1⟩
               go_simp
               with_reducible rfl
              rotate_left
              ·
               simp only [Act.put, List.setIfInBounds_toArray, List.set_cons_zero, List.set_cons_succ, i64_w, i32_w]
               rfl
              refine take_ (i := 15) (N := some 150) (v := ?_) (a' := ?_) #[true, true, true, true, true, true, true, true, true, true, true, false, false, true, true, true, false, false, false, false, false, false, false, false] rfl rfl (take_ofW HT_.out HW_.out (by kernel_rfl)) (fun _ _ _ h => h) (Or.inl ⟨by rfl, ?_⟩) hHeld ?_ ?_
              rotate_left
              ·
               rintro w' ⟨s0, s1⟩
               go_simp
               with_reducible rfl
              rotate_left
              ·
               simp only [Act.put, List.setIfInBounds_toArray, List.set_cons_zero, List.set_cons_succ, i64_w, i32_w]
               rfl
              refine one_ (i := 11) (N := some 146) #[true, true, true, true, true, true, true, true, true, true, true, true, false, true, true, true, false, false, false, false, false, false, false, false] rfl rfl (one_of HT_.out (by kernel_rfl)) (by decide) (fun K hK => ?_)
              refine goes_ Tryz.func15 (by kernel_rfl) rfl #[.slice A7 kk c7, .int .i64 i] (by rfl) rfl rfl (by (try simp only [List.map_toArray, List.map_cons, List.map_nil]); first | done | rfl) ?_
              with_reducible refine (ED2.out _ HBf6.out).mono ?_
              rintro e w7 ⟨A7', c7', rfl, hc7', hC7, hb⟩
              refine ⟨_, rfl, ?_⟩
              have HBf7 := Aside0.mk (below_step HBf6.out hb)
              have b7 := (HBX.out.below HBf7.out).c0
              have b7' := (HBX.out.below HBf7.out).c1
              clear hC7 hb
              refine hK.out _ _ ⟨b7, b7'⟩ (fun hHeld => ?_)
              clear hK K
              refine norm_ (a' := ?_) ?_ ?_
              rotate_left
              ·
               show Act.put _ (some 146) _ = _
               simp only [Act.put, List.setIfInBounds_toArray, List.set_cons_zero, List.set_cons_succ, i64_w, i32_w]
               rfl
              refine pure_ (i := 12) (N := some 147) (v := ?_) (a' := ?_) #[true, true, true, true, true, true, true, true, true, true, true, true, true, true, true, true, false, false, false, false, false, false, false, false] rfl rfl (any_of HT_.out (by kernel_rfl)) (fun _ _ _ h => h) (Or.inl ⟨by rfl, ?_⟩) ?_ ?_
              rotate_left
              ·
               intro w'
               go_simp
               with_reducible rfl
              rotate_left
              ·
               simp only [Act.put, List.setIfInBounds_toArray, List.set_cons_zero, List.set_cons_succ, i64_w, i32_w]
               rfl
              refine one_ (i := 16) (N := some 151) #[true, true, true, true, true, true, true, true, true, true, true, true, true, true, true, true, true, false, false, false, false, false, false, false] rfl rfl (one_of HT_.out (by kernel_rfl)) (by decide) (fun K hK => ?_)
              refine goes_ Tryz.func15 (by kernel_rfl) rfl #[.slice (some ad) kk c, .int .i64 i] (by rfl) rfl rfl (by (try simp only [List.map_toArray, List.map_cons, List.map_nil]); first | done | rfl) ?_
              with_reducible refine (ED1.out _ (below_step HB.out HBf7.out)).mono ?_
              rintro e w8 ⟨A8, c8, rfl, hc8, hC8, hb⟩
              refine ⟨_, rfl, ?_⟩
              have HBf8 := Aside0.mk (below_step HBf7.out hb)
              have b8 := (HBX.out.below HBf8.out).c0
              have b8' := (HBX.out.below HBf8.out).c1
              clear hC8 hb
              refine hK.out _ _ ⟨b8, b8'⟩ (fun hHeld => ?_)
              clear hK K
              refine norm_ (a' := ?_) ?_ ?_
              rotate_left
              ·
               show Act.put _ (some 151) _ = _
               simp only [Act.put, List.setIfInBounds_toArray, List.set_cons_zero, List.set_cons_succ, i64_w, i32_w]
               rfl
              refine pure_ (i := 17) (N := some 152) (v := ?_) (a' := ?_) #[true, true, true, true, true, true, true, true, true, true, true, true, true, true, true, true, true, true, false, false, false, false, false, false] rfl rfl (any_of HT_.out (by kernel_rfl)) (fun _ _ _ h => h) (Or.inl ⟨by rfl, ?_⟩) ?_ ?_
              rotate_left
              ·
               intro w'
               go_simp
               with_reducible rfl
              rotate_left
              ·
               simp only [Act.put, List.setIfInBounds_toArray, List.set_cons_zero, List.set_cons_succ, i64_w, i32_w]
               rfl
              refine pure_ (i := 18) (N := some 153) (v := ?_) (a' := ?_) #[true, true, true, true, true, true, true, true, true, true, true, true, true, true, true, true, true, true, true, false, false, false, false, false] rfl rfl (any_of HT_.out (by kernel_rfl)) (fun _ _ _ h => h) (Or.inl ⟨by rfl, ?_⟩) ?_ ?_
              rotate_left
              ·
               intro w'
               go_simp
               with_reducible rfl
              rotate_left
              ·
               simp only [Act.put, List.setIfInBounds_toArray, List.set_cons_zero, List.set_cons_succ, i64_w, i32_w]
               rfl
              refine pure_ (i := 19) (N := some 154) (v := ?_) (a' := ?_) #[true, true, true, true, true, true, true, true, true, true, true, true, true, true, true, true, true, true, true, true, false, false, false, false] rfl rfl (any_of HT_.out (by kernel_rfl)) (fun _ _ _ h => h) (Or.inl ⟨by rfl, ?_⟩) ?_ ?_
              rotate_left
              ·
               intro w'
               go_simp
               with_reducible rfl
              rotate_left
              ·
               simp only [Act.put, List.setIfInBounds_toArray, List.set_cons_zero, List.set_cons_succ, i64_w, i32_w]
               rfl
              refine pure_ (i := 20) (N := some 155) (v := ?_) (a' := ?_) #[true, true, true, true, true, true, true, true, true, true, true, true, true, true, true, true, true, true, true, true, true, false, false, false] rfl rfl (any_of HT_.out (by kernel_rfl)) (fun _ _ _ h => h) (Or.inl ⟨by rfl, ?_⟩) ?_ ?_
              rotate_left
              ·
               intro w'
               go_simp
               with_reducible rfl
              rotate_left
              ·
               simp only [Act.put, List.setIfInBounds_toArray, List.set_cons_zero, List.set_cons_succ, i64_w, i32_w]
               rfl
              refine one_ (i := 21) (N := some 156) #[true, true, true, true, true, true, true, true, true, true, true, true, true, true, true, true, true, true, true, true, true, true, false, false] rfl rfl (one_of HT_.out (by kernel_rfl)) (by decide) (fun K hK => ?_)
              refine goes_ Tryz.func9 (by kernel_rfl) rfl #[] (by rfl) rfl rfl (by (try simp only [List.map_toArray, List.map_cons, List.map_nil]); first | done | rfl) ?_
              with_reducible refine (live_walk _ (HGW.out.below (below_step HB.out HBf8.out))).mono ?_
              rintro e w9 ⟨rfl, hb⟩
              refine ⟨_, rfl, ?_⟩
              have HBf9 := Aside0.mk (below_step HBf8.out hb)
              have b9 := (HBX.out.below HBf9.out).c0
              have b9' := (HBX.out.below HBf9.out).c1
              clear hb
              refine hK.out _ _ ⟨b9, b9'⟩ (fun hHeld => ?_)
              clear hK K
              refine norm_ (a' := ?_) ?_ ?_
              rotate_left
              ·
               show Act.put _ (some 156) _ = _
               simp only [Act.put, List.setIfInBounds_toArray, List.set_cons_zero, List.set_cons_succ, i64_w, i32_w]
               rfl
              refine pure_ (i := 22) (N := some 157) (v := ?_) (a' := ?_) #[true, true, true, true, true, true, true, true, true, true, true, true, true, true, true, true, true, true, true, true, true, true, true, false] rfl rfl (any_of HT_.out (by kernel_rfl)) (fun _ _ _ h => h) (Or.inl ⟨by rfl, ?_⟩) ?_ ?_
              rotate_left
              ·
               intro w'
               go_simp
               with_reducible rfl
              rotate_left
              ·
               simp only [Act.put, List.setIfInBounds_toArray, List.set_cons_zero, List.set_cons_succ, i64_w, i32_w]
               rfl
              refine pure_ (i := 23) (N := some 6) (v := ?_) (a' := ?_) #[true, true, true, true, true, true, true, true, true, true, true, true, true, true, true, true, true, true, true, true, true, true, true, true] rfl rfl (any_of HT_.out (by kernel_rfl)) (fun _ _ _ h => h) (Or.inl ⟨by rfl, ?_⟩) ?_ ?_
              rotate_left
              ·
               intro w'
               go_simp
               with_reducible rfl
              rotate_left
              ·
               simp only [Act.put, List.setIfInBounds_toArray, List.set_cons_zero, List.set_cons_succ, i64_w, i32_w]
               rfl
              refine done_ (done_of HT_.out (by kernel_rfl)) ?_
              go_wp2
              go_ret
              exact ⟨rfl, below_step HB.out HBf9.out⟩
end Go.Proofs.YtnfiigjignpkaaaGreatDoor

/- The law armadalaw16.GraphMore: what is handed in goes one of nine ways; all answer true. -/
namespace Go.Proofs.YtnfiigjignpkaaaGreatDoor
open Go Go.RowKit Go.Sort Go.Proofs Go.Proofs.YtnfiigjignpkaaaGreatDoorW.PrintWords Go.Proofs.YtnfiigjignpkaaaGreatDoor.K0 Go.Proofs.YtnfiigjignpkaaaGreatDoor.R3
set_option linter.unusedVariables false
set_option linter.unusedSimpArgs false

set_option maxRecDepth 100000 in
set_option maxHeartbeats 4000000 in
theorem more1 (A Af : Option Addr) (c cf n nf : Nat) (a b z : Int) (w : World) (hG : GW w)
    (hsm : ∀ W, Below w.heap.size w W → Calls Tryz.prog 8 #[.slice A n c] W fun e w' => e = .returned (.bool false) ∧ Below W.heap.size W w')
    (hck : ∀ W, Below w.heap.size w W → Calls Tryz.prog 12 #[.slice A n c] W fun e w' => e = .returned (.int .i64 z) ∧ Below W.heap.size W w') :
    Calls Tryz.prog 6 #[.slice A n c, .agg #[.int .i64 a, .int .i64 b], .slice Af nf cf] w fun e w' => e = .returned (.bool true) ∧ Below w.heap.size w w' := by
  have hsm0 := hsm _ (below_alloc (Below.refl _ w) (.cells #[.int .i64 a, .int .i64 b] 37))
  have HBX := Aside0.mk (Box2.new w a b 37)
  have HCK := Aside0.mk hck
  have HGW := Aside0.mk hG
  clear hck hG hsm
  go_enter Tryz.func6, Tryz.ntmps6
  go_wp2_with (first
    | (go_at_call 8; with_reducible refine hsm0.mono ?_; rintro e w1 ⟨rfl, hb1⟩; have HBX1 := Aside0.mk (HBX.out.below hb1); have HB1 := Aside0.mk (below_step (below_alloc (Below.refl _ _) _) hb1); have b0 := HBX1.out.c0; have b1 := HBX1.out.c1; clear hb1)
    | (go_at_call 9; refine (live_walk _ (HGW.out.below HB1.out)).mono ?_; rintro e w9 ⟨rfl, hb⟩; have HB9 := Aside0.mk (below_step HB1.out hb); clear hb))
  go_ret
  exact ⟨rfl, HB9.out⟩
set_option maxRecDepth 100000 in
set_option maxHeartbeats 4000000 in
theorem more2 (A Af : Option Addr) (c cf n nf : Nat) (a b z : Int) (w : World) (hG : GW w)
    (hsm : ∀ W, Below w.heap.size w W → Calls Tryz.prog 8 #[.slice A n c] W fun e w' => e = .returned (.bool true) ∧ Below W.heap.size W w')
    (hck : ∀ W, Below w.heap.size w W → Calls Tryz.prog 12 #[.slice A n c] W fun e w' => e = .returned (.int .i64 z) ∧ Below W.heap.size W w') (h1 : 30 < nf) :
    Calls Tryz.prog 6 #[.slice A n c, .agg #[.int .i64 a, .int .i64 b], .slice Af nf cf] w fun e w' => e = .returned (.bool true) ∧ Below w.heap.size w w' := by
  have hsm0 := hsm _ (below_alloc (Below.refl _ w) (.cells #[.int .i64 a, .int .i64 b] 37))
  have HBX := Aside0.mk (Box2.new w a b 37)
  have HCK := Aside0.mk hck
  have HGW := Aside0.mk hG
  have hd1 : decide (30 < (nf : Int)) = true := decide_eq_true (by omega)
  have hp1 : (nf : Int) > 30 := by omega
  clear hck hG hsm
  go_enter Tryz.func6, Tryz.ntmps6
  go_wp2_with (first
    | (go_at_call 8; with_reducible refine hsm0.mono ?_; rintro e w1 ⟨rfl, hb1⟩; have HBX1 := Aside0.mk (HBX.out.below hb1); have HB1 := Aside0.mk (below_step (below_alloc (Below.refl _ _) _) hb1); have b0 := HBX1.out.c0; have b1 := HBX1.out.c1; clear hb1)
    | (go_at_call 9; refine (live_walk _ (HGW.out.below HB1.out)).mono ?_; rintro e w9 ⟨rfl, hb⟩; have HB9 := Aside0.mk (below_step HB1.out hb); clear hb))
  go_ret
  exact ⟨rfl, HB9.out⟩
set_option maxRecDepth 100000 in
set_option maxHeartbeats 4000000 in
theorem more3 (A Af : Option Addr) (c cf n nf : Nat) (a b z : Int) (w : World) (hG : GW w)
    (hsm : ∀ W, Below w.heap.size w W → Calls Tryz.prog 8 #[.slice A n c] W fun e w' => e = .returned (.bool true) ∧ Below W.heap.size W w')
    (hck : ∀ W, Below w.heap.size w W → Calls Tryz.prog 12 #[.slice A n c] W fun e w' => e = .returned (.int .i64 z) ∧ Below W.heap.size W w') (h1 : ¬ 30 < nf) (hz : z ≠ 0) :
    Calls Tryz.prog 6 #[.slice A n c, .agg #[.int .i64 a, .int .i64 b], .slice Af nf cf] w fun e w' => e = .returned (.bool true) ∧ Below w.heap.size w w' := by
  have hsm0 := hsm _ (below_alloc (Below.refl _ w) (.cells #[.int .i64 a, .int .i64 b] 37))
  have HBX := Aside0.mk (Box2.new w a b 37)
  have HCK := Aside0.mk hck
  have HGW := Aside0.mk hG
  have hd1 : decide (30 < (nf : Int)) = false := decide_eq_false (by omega)
  have hp1 : ¬ (nf : Int) > 30 := by omega
  have hzb : (z != 0) = true := by simp [hz]
  clear hck hG hsm
  go_enter Tryz.func6, Tryz.ntmps6
  go_wp2_with (first
    | (go_at_call 8; with_reducible refine hsm0.mono ?_; rintro e w1 ⟨rfl, hb1⟩; have HBX1 := Aside0.mk (HBX.out.below hb1); have HB1 := Aside0.mk (below_step (below_alloc (Below.refl _ _) _) hb1); have b0 := HBX1.out.c0; have b1 := HBX1.out.c1; clear hb1)
    | (go_at_call 12; with_reducible refine (HCK.out _ HB1.out).mono ?_; rintro e w2 ⟨rfl, hb2⟩; have HBX2 := Aside0.mk (HBX1.out.below hb2); have HB2 := Aside0.mk (below_step HB1.out hb2); clear hb2; have c0 := HBX2.out.c0; have c1 := HBX2.out.c1)
    | (go_at_call 9; refine (live_walk _ (HGW.out.below HB2.out)).mono ?_; rintro e w9 ⟨rfl, hb⟩; have HB9 := Aside0.mk (below_step HB2.out hb); clear hb))
  go_ret
  exact ⟨rfl, HB9.out⟩
set_option maxRecDepth 100000 in
set_option maxHeartbeats 4000000 in
theorem more4 (A Af : Option Addr) (c cf n nf : Nat) (a b z : Int) (w : World) (hG : GW w)
    (hsm : ∀ W, Below w.heap.size w W → Calls Tryz.prog 8 #[.slice A n c] W fun e w' => e = .returned (.bool true) ∧ Below W.heap.size W w')
    (hck : ∀ W, Below w.heap.size w W → Calls Tryz.prog 12 #[.slice A n c] W fun e w' => e = .returned (.int .i64 z) ∧ Below W.heap.size W w') (h1 : ¬ 30 < nf) (hz : z = 0) (ha : a < 0) :
    Calls Tryz.prog 6 #[.slice A n c, .agg #[.int .i64 a, .int .i64 b], .slice Af nf cf] w fun e w' => e = .returned (.bool true) ∧ Below w.heap.size w w' := by
  have hsm0 := hsm _ (below_alloc (Below.refl _ w) (.cells #[.int .i64 a, .int .i64 b] 37))
  have HBX := Aside0.mk (Box2.new w a b 37)
  have HCK := Aside0.mk hck
  have HGW := Aside0.mk hG
  subst hz
  have hd1 : decide (30 < (nf : Int)) = false := decide_eq_false (by omega)
  have hp1 : ¬ (nf : Int) > 30 := by omega
  have hd2 : decide (a < 0) = true := decide_eq_true ha
  clear hck hG hsm
  go_enter Tryz.func6, Tryz.ntmps6
  go_wp2_with (first
    | (go_at_call 8; with_reducible refine hsm0.mono ?_; rintro e w1 ⟨rfl, hb1⟩; have HBX1 := Aside0.mk (HBX.out.below hb1); have HB1 := Aside0.mk (below_step (below_alloc (Below.refl _ _) _) hb1); have b0 := HBX1.out.c0; have b1 := HBX1.out.c1; clear hb1)
    | (go_at_call 12; with_reducible refine (HCK.out _ HB1.out).mono ?_; rintro e w2 ⟨rfl, hb2⟩; have HBX2 := Aside0.mk (HBX1.out.below hb2); have HB2 := Aside0.mk (below_step HB1.out hb2); clear hb2; have c0 := HBX2.out.c0; have c1 := HBX2.out.c1)
    | (go_at_call 9; refine (live_walk _ (HGW.out.below HB2.out)).mono ?_; rintro e w9 ⟨rfl, hb⟩; have HB9 := Aside0.mk (below_step HB2.out hb); clear hb))
  go_ret
  exact ⟨rfl, HB9.out⟩
set_option maxRecDepth 100000 in
set_option maxHeartbeats 4000000 in
theorem more5 (A Af : Option Addr) (c cf n nf : Nat) (a b z : Int) (w : World) (hG : GW w)
    (hsm : ∀ W, Below w.heap.size w W → Calls Tryz.prog 8 #[.slice A n c] W fun e w' => e = .returned (.bool true) ∧ Below W.heap.size W w')
    (hck : ∀ W, Below w.heap.size w W → Calls Tryz.prog 12 #[.slice A n c] W fun e w' => e = .returned (.int .i64 z) ∧ Below W.heap.size W w') (h1 : ¬ 30 < nf) (hz : z = 0) (ha : ¬ a < 0) (ha2 : (n : Int) ≤ a) :
    Calls Tryz.prog 6 #[.slice A n c, .agg #[.int .i64 a, .int .i64 b], .slice Af nf cf] w fun e w' => e = .returned (.bool true) ∧ Below w.heap.size w w' := by
  have hsm0 := hsm _ (below_alloc (Below.refl _ w) (.cells #[.int .i64 a, .int .i64 b] 37))
  have HBX := Aside0.mk (Box2.new w a b 37)
  have HCK := Aside0.mk hck
  have HGW := Aside0.mk hG
  subst hz
  have hd1 : decide (30 < (nf : Int)) = false := decide_eq_false (by omega)
  have hp1 : ¬ (nf : Int) > 30 := by omega
  have hd2 : decide (a < 0) = false := decide_eq_false (by omega)
  have hp2 : ¬ a < 0 := by omega
  have hd3 : decide ((n : Int) ≤ a) = true := decide_eq_true ha2
  have hp3 : a ≥ (n : Int) := ha2
  clear hck hG hsm
  go_enter Tryz.func6, Tryz.ntmps6
  go_wp2_with (first
    | (go_at_call 8; with_reducible refine hsm0.mono ?_; rintro e w1 ⟨rfl, hb1⟩; have HBX1 := Aside0.mk (HBX.out.below hb1); have HB1 := Aside0.mk (below_step (below_alloc (Below.refl _ _) _) hb1); have b0 := HBX1.out.c0; have b1 := HBX1.out.c1; clear hb1)
    | (go_at_call 12; with_reducible refine (HCK.out _ HB1.out).mono ?_; rintro e w2 ⟨rfl, hb2⟩; have HBX2 := Aside0.mk (HBX1.out.below hb2); have HB2 := Aside0.mk (below_step HB1.out hb2); clear hb2; have c0 := HBX2.out.c0; have c1 := HBX2.out.c1)
    | (go_at_call 9; refine (live_walk _ (HGW.out.below HB2.out)).mono ?_; rintro e w9 ⟨rfl, hb⟩; have HB9 := Aside0.mk (below_step HB2.out hb); clear hb))
  go_ret
  exact ⟨rfl, HB9.out⟩
set_option maxRecDepth 100000 in
set_option maxHeartbeats 4000000 in
theorem more6 (A Af : Option Addr) (c cf n nf : Nat) (a b z : Int) (w : World) (hG : GW w)
    (hsm : ∀ W, Below w.heap.size w W → Calls Tryz.prog 8 #[.slice A n c] W fun e w' => e = .returned (.bool true) ∧ Below W.heap.size W w')
    (hck : ∀ W, Below w.heap.size w W → Calls Tryz.prog 12 #[.slice A n c] W fun e w' => e = .returned (.int .i64 z) ∧ Below W.heap.size W w') (h1 : ¬ 30 < nf) (hz : z = 0) (ha : ¬ a < 0) (ha2 : ¬ (n : Int) ≤ a) (hb : b < 0) :
    Calls Tryz.prog 6 #[.slice A n c, .agg #[.int .i64 a, .int .i64 b], .slice Af nf cf] w fun e w' => e = .returned (.bool true) ∧ Below w.heap.size w w' := by
  have hsm0 := hsm _ (below_alloc (Below.refl _ w) (.cells #[.int .i64 a, .int .i64 b] 37))
  have HBX := Aside0.mk (Box2.new w a b 37)
  have HCK := Aside0.mk hck
  have HGW := Aside0.mk hG
  subst hz
  have hd1 : decide (30 < (nf : Int)) = false := decide_eq_false (by omega)
  have hp1 : ¬ (nf : Int) > 30 := by omega
  have hd2 : decide (a < 0) = false := decide_eq_false (by omega)
  have hp2 : ¬ a < 0 := by omega
  have hd3 : decide ((n : Int) ≤ a) = false := decide_eq_false (by omega)
  have hp3 : ¬ a ≥ (n : Int) := by omega
  have hd4 : decide (b < 0) = true := decide_eq_true hb
  clear hck hG hsm
  go_enter Tryz.func6, Tryz.ntmps6
  go_wp2_with (first
    | (go_at_call 8; with_reducible refine hsm0.mono ?_; rintro e w1 ⟨rfl, hb1⟩; have HBX1 := Aside0.mk (HBX.out.below hb1); have HB1 := Aside0.mk (below_step (below_alloc (Below.refl _ _) _) hb1); have b0 := HBX1.out.c0; have b1 := HBX1.out.c1; clear hb1)
    | (go_at_call 12; with_reducible refine (HCK.out _ HB1.out).mono ?_; rintro e w2 ⟨rfl, hb2⟩; have HBX2 := Aside0.mk (HBX1.out.below hb2); have HB2 := Aside0.mk (below_step HB1.out hb2); clear hb2; have c0 := HBX2.out.c0; have c1 := HBX2.out.c1)
    | (go_at_call 9; refine (live_walk _ (HGW.out.below HB2.out)).mono ?_; rintro e w9 ⟨rfl, hb⟩; have HB9 := Aside0.mk (below_step HB2.out hb); clear hb))
  go_ret
  exact ⟨rfl, HB9.out⟩
set_option maxRecDepth 100000 in
set_option maxHeartbeats 4000000 in
theorem more7 (A Af : Option Addr) (c cf n nf : Nat) (a b z : Int) (w : World) (hG : GW w)
    (hsm : ∀ W, Below w.heap.size w W → Calls Tryz.prog 8 #[.slice A n c] W fun e w' => e = .returned (.bool true) ∧ Below W.heap.size W w')
    (hck : ∀ W, Below w.heap.size w W → Calls Tryz.prog 12 #[.slice A n c] W fun e w' => e = .returned (.int .i64 z) ∧ Below W.heap.size W w') (h1 : ¬ 30 < nf) (hz : z = 0) (ha : ¬ a < 0) (ha2 : ¬ (n : Int) ≤ a) (hb : ¬ b < 0) (hb2 : (n : Int) ≤ b) :
    Calls Tryz.prog 6 #[.slice A n c, .agg #[.int .i64 a, .int .i64 b], .slice Af nf cf] w fun e w' => e = .returned (.bool true) ∧ Below w.heap.size w w' := by
  have hsm0 := hsm _ (below_alloc (Below.refl _ w) (.cells #[.int .i64 a, .int .i64 b] 37))
  have HBX := Aside0.mk (Box2.new w a b 37)
  have HCK := Aside0.mk hck
  have HGW := Aside0.mk hG
  subst hz
  have hd1 : decide (30 < (nf : Int)) = false := decide_eq_false (by omega)
  have hp1 : ¬ (nf : Int) > 30 := by omega
  have hd2 : decide (a < 0) = false := decide_eq_false (by omega)
  have hp2 : ¬ a < 0 := by omega
  have hd3 : decide ((n : Int) ≤ a) = false := decide_eq_false (by omega)
  have hp3 : ¬ a ≥ (n : Int) := by omega
  have hd4 : decide (b < 0) = false := decide_eq_false (by omega)
  have hp4 : ¬ b < 0 := by omega
  have hd5 : decide ((n : Int) ≤ b) = true := decide_eq_true hb2
  have hp5 : b ≥ (n : Int) := hb2
  clear hck hG hsm
  go_enter Tryz.func6, Tryz.ntmps6
  go_wp2_with (first
    | (go_at_call 8; with_reducible refine hsm0.mono ?_; rintro e w1 ⟨rfl, hb1⟩; have HBX1 := Aside0.mk (HBX.out.below hb1); have HB1 := Aside0.mk (below_step (below_alloc (Below.refl _ _) _) hb1); have b0 := HBX1.out.c0; have b1 := HBX1.out.c1; clear hb1)
    | (go_at_call 12; with_reducible refine (HCK.out _ HB1.out).mono ?_; rintro e w2 ⟨rfl, hb2⟩; have HBX2 := Aside0.mk (HBX1.out.below hb2); have HB2 := Aside0.mk (below_step HB1.out hb2); clear hb2; have c0 := HBX2.out.c0; have c1 := HBX2.out.c1)
    | (go_at_call 9; refine (live_walk _ (HGW.out.below HB2.out)).mono ?_; rintro e w9 ⟨rfl, hb⟩; have HB9 := Aside0.mk (below_step HB2.out hb); clear hb))
  go_ret
  exact ⟨rfl, HB9.out⟩
set_option maxRecDepth 100000 in
set_option maxHeartbeats 4000000 in
theorem more8 (A Af : Option Addr) (c cf n nf : Nat) (a b z : Int) (w : World) (hG : GW w)
    (hsm : ∀ W, Below w.heap.size w W → Calls Tryz.prog 8 #[.slice A n c] W fun e w' => e = .returned (.bool true) ∧ Below W.heap.size W w')
    (hck : ∀ W, Below w.heap.size w W → Calls Tryz.prog 12 #[.slice A n c] W fun e w' => e = .returned (.int .i64 z) ∧ Below W.heap.size W w') (h1 : ¬ 30 < nf) (hz : z = 0) (i m ci : Nat) (ad : Addr) (Ai : Option Addr) (hA : A = some ad) (hi : a = (i : Int)) (hin : i < n) (hb : ¬ b < 0) (hb2 : ¬ (n : Int) ≤ b) (hm : 29 < m) (hcell : w.cell? ⟨(ad.add (i * 3)).block, (ad.add (i * 3)).off + 2, none⟩ = some (.slice Ai m ci)) :
    Calls Tryz.prog 6 #[.slice A n c, .agg #[.int .i64 a, .int .i64 b], .slice Af nf cf] w fun e w' => e = .returned (.bool true) ∧ Below w.heap.size w w' := by
  have hsm0 := hsm _ (below_alloc (Below.refl _ w) (.cells #[.int .i64 a, .int .i64 b] 37))
  have HBX := Aside0.mk (Box2.new w a b 37)
  have HCK := Aside0.mk hck
  have HGW := Aside0.mk hG
  subst hz
  subst hA
  subst hi
  have hd1 : decide (30 < (nf : Int)) = false := decide_eq_false (by omega)
  have hp1 : ¬ (nf : Int) > 30 := by omega
  have hd2 : decide ((i : Int) < 0) = false := decide_eq_false (by omega)
  have hp2 : ¬ (i : Int) < 0 := by omega
  have hd3 : decide (n ≤ i) = false := decide_eq_false (by omega)
  have hp3 : ¬ (i : Int) ≥ (n : Int) := by omega
  have hmi : (i : Int) < (n : Int) := by omega
  have hd4 : decide (b < 0) = false := decide_eq_false (by omega)
  have hp4 : ¬ b < 0 := by omega
  have hd5 : decide ((n : Int) ≤ b) = false := decide_eq_false (by omega)
  have hp5 : ¬ b ≥ (n : Int) := by omega
  have hd6 : decide (29 < (m : Int)) = true := decide_eq_true (by omega)
  have hp6 : (m : Int) > 29 := by omega
  have HI := Aside0.mk hcell
  clear hck hG hsm
  go_enter Tryz.func6, Tryz.ntmps6
  go_wp2_with (first
    | (go_at_call 8; with_reducible refine hsm0.mono ?_; rintro e w1 ⟨rfl, hb1⟩; have HBX1 := Aside0.mk (HBX.out.below hb1); have HB1 := Aside0.mk (below_step (below_alloc (Below.refl _ _) _) hb1); have b0 := HBX1.out.c0; have b1 := HBX1.out.c1; clear hb1)
    | (go_at_call 12; with_reducible refine (HCK.out _ HB1.out).mono ?_; rintro e w2 ⟨rfl, hb2⟩; have HBX2 := Aside0.mk (HBX1.out.below hb2); have HB2 := Aside0.mk (below_step HB1.out hb2); clear hb2; have c0 := HBX2.out.c0; have c1 := HBX2.out.c1; have gi2 := below_cell HB2.out HI.out)
    | (go_at_call 9; refine (live_walk _ (HGW.out.below HB2.out)).mono ?_; rintro e w9 ⟨rfl, hb⟩; have HB9 := Aside0.mk (below_step HB2.out hb); clear hb))
  go_ret
  exact ⟨rfl, HB9.out⟩

theorem more_calls (A Af : Option Addr) (c cf : Nat) (l : List S40) (a b : Int) (fr : List Int) (w : World) (hG : GW w) (hr : Kd.C k40 w A l.length l) (hc : l.length ≤ c) (hf : Kd.C (Kd.int .i64) w Af fr.length fr) (hcf : fr.length ≤ cf) (hs : Short l) :
    Calls Tryz.prog 6 #[.slice A l.length c, .agg #[.int .i64 a, .int .i64 b], .slice Af fr.length cf] w fun e w' => e = .returned (.bool true) ∧ Below w.heap.size w w' := by
  obtain ⟨s, hsv, hB⟩ := Small_ev l hr.2.1 hs
  obtain ⟨k, hk⟩ := hsv.rounds
  have hsm : ∀ W, Below w.heap.size w W → Calls Tryz.prog 8 #[.slice A l.length c] W fun e w' => e = .returned (.bool s) ∧ Below W.heap.size W w' := fun W hb => by
    refine (armadaref16_Small.calls k A c l s W (Kd.C_below hr hb) hc hk).mono ?_
    rintro e w' ⟨rfl, hb'⟩
    exact ⟨rfl, by first | exact hb'.below | exact hb'⟩
  have hck : ∀ W, Below w.heap.size w W → Calls Tryz.prog 12 #[.slice A l.length c] W fun e w' => e = .returned (.int .i64 (gcheck l)) ∧ Below W.heap.size W w' := fun W hb => gcheck_calls A c l W (hG.below hb) (Kd.C_below hr hb)
  cases s with
  | false => exact more1 A Af c cf _ _ a b _ w hG hsm hck
  | true =>
    obtain ⟨_, hs30⟩ := hB rfl
    by_cases h1 : 30 < fr.length
    · exact more2 A Af c cf _ _ a b _ w hG hsm hck h1
    by_cases hz : gcheck l = 0
    · by_cases ha : a < 0
      · exact more4 A Af c cf _ _ a b _ w hG hsm hck h1 hz ha
      by_cases ha2 : (l.length : Int) ≤ a
      · exact more5 A Af c cf _ _ a b _ w hG hsm hck h1 hz ha ha2
      by_cases hb : b < 0
      · exact more6 A Af c cf _ _ a b _ w hG hsm hck h1 hz ha ha2 hb
      by_cases hb2 : (l.length : Int) ≤ b
      · exact more7 A Af c cf _ _ a b _ w hG hsm hck h1 hz ha ha2 hb hb2
      obtain ⟨i, rfl⟩ : ∃ i : Nat, a = (i : Int) := ⟨a.toNat, by omega⟩
      obtain ⟨j, rfl⟩ : ∃ j : Nat, b = (j : Int) := ⟨b.toNat, by omega⟩
      obtain ⟨x, hx⟩ : ∃ x, l[i]? = some x := ⟨_, List.getElem?_eq_getElem (by omega)⟩
      obtain ⟨y, hy⟩ : ∃ y, l[j]? = some y := ⟨_, List.getElem?_eq_getElem (by omega)⟩
      by_cases hx29 : 29 < x.f2.length
      · obtain ⟨ad, Ai, ci, hA, _, _, g2, _, _⟩ := mod_cells hr hx
        exact more8 A Af c cf _ _ _ _ _ w hG hsm hck h1 hz i x.f2.length ci ad Ai hA rfl (by omega) hb hb2 hx29 g2
      · exact more_main A Af c cf l i j fr x y w hG hr hc hf hcf hsm hz (by omega) hx hy (by omega) hs30
    · exact more3 A Af c cf _ _ a b _ w hG hsm hck h1 hz
end Go.Proofs.YtnfiigjignpkaaaGreatDoor
