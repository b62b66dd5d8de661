/- The texts VParse in one file, without what these claims do not use (put together by prune2.py). -/
import Derived.Test.YtmbpefnhkimplaaGreatDoorZE19
import Derived.Test.YtmbpefnhkimplaaGreatDoorZE7
import Derived.Test.YtmbpefnhkimplaaGreatDoorZE11
section
namespace Go.Proofs.YtmbpefnhkimplaaGreatDoor
open Go Go.RowKit Go.Proofs Go.Proofs.YtmbpefnhkimplaaGreatDoorW.PrintWords Go.Proofs.YtmbpefnhkimplaaGreatDoor.K0 Go.Proofs.YtmbpefnhkimplaaGreatDoor.R1 Go.Proofs.YtmbpefnhkimplaaGreatDoor.R3
set_option linter.unusedVariables false
set_option linter.unusedSimpArgs false
theorem cut_at (s : ByteArray) (c : UInt8) (w : World) (hG : GW w) (hs : s.size < 4294967281) : Calls Tryz.prog 163 #[.string s, .string ⟨#[c]⟩] w fun e w' => ∃ b, e = .returned (.tuple #[.string (ba (cutC c s.data.toList).1), .string (ba (cutC c s.data.toList).2), .bool b]) ∧ Drawn0 w w' := by
  obtain ⟨m, hm⟩ := hG.maxLen
  refine (Tryz.strings_Cut s ⟨#[c]⟩ m w hs hm).mono ?_
  rintro e w' ⟨he, hd⟩
  have h := cut_one c s.data.toList
  refine ⟨(Lib.cut s.data.toList [c]).2.2, ?_, ⟨hd⟩⟩
  rw [← h]
  exact he
theorem cutC_len (c : UInt8) : ∀ l : List UInt8, (cutC c l).1.length ≤ l.length ∧ (cutC c l).2.length ≤ l.length
  | [] => by simp [cutC]
  | b :: t => by
    have := cutC_len c t
    unfold cutC
    split
    · simp
    · simp; omega
/-- What a text is read as, with zeros where it is none. -/
def parsed (s : List UInt8) : Int × Int × Int × ByteArray × ByteArray × Bool := match parseV s with
  | none => (0, 0, 0, ⟨#[]⟩, ⟨#[]⟩, false)
  | some r => (r.1, r.2.1, r.2.2.1, ba r.2.2.2.1, ba r.2.2.2.2, true)
def ver_Parse.f (s : ByteArray) : Option (Int × Int × Int × ByteArray × ByteArray × Bool) := if s.size ≤ 4294967280 then some (parsed s.data.toList) else none
abbrev vrow (a b c : Int) (p q : ByteArray) : Array Value := #[.int .i64 a, .int .i64 b, .int .i64 c, .string p, .string q]
/-- The result's block, and the version's. -/
structure VP (w W : World) (a b c : Int) (p q : ByteArray) : Prop where
  base : Below w.heap.size w W
  res : W.heap[w.heap.size]? = some (.cells (vrow 0 0 0 ⟨#[]⟩ ⟨#[]⟩) 23 (0, 0))
  ver : W.heap[w.heap.size + 1]? = some (.cells (vrow a b c p q) 23 (0, 0))
theorem lm_step {W W' : World} {k : Nat} {o : Obj} (hb : Below W.heap.size W W') (h : W.heap[k]? = some o) : W'.heap[k]? = some o := (hb.block k (Array.getElem?_eq_some_iff.1 h).1).trans h
theorem VP.below {w W W' : World} {a b c : Int} {p q : ByteArray} (h : VP w W a b c p q) (hb : Below W.heap.size W W') : VP w W' a b c p q :=
  ⟨below_step h.base hb, lm_step hb h.res, lm_step hb h.ver⟩
theorem VP.draw {w W : World} {a b c : Int} {p q : ByteArray} (h : VP w W a b c p q) (n : Nat) : VP w (W.drewN n) a b c p q := ⟨pw_below_drewN h.base n, h.res, h.ver⟩
theorem VP.cells {w W : World} {a b c : Int} {p q : ByteArray} (h : VP w W a b c p q) : (W.cell? ⟨w.heap.size, 0, none⟩ = some (.int .i64 0) ∧ W.cell? ⟨w.heap.size, 1, none⟩ = some (.int .i64 0) ∧ W.cell? ⟨w.heap.size, 2, none⟩ = some (.int .i64 0) ∧ W.cell? ⟨w.heap.size, 3, none⟩ = some (.string ⟨#[]⟩) ∧ W.cell? ⟨w.heap.size, 4, none⟩ = some (.string ⟨#[]⟩)) ∧
    (W.cell? ⟨w.heap.size + 1, 0, none⟩ = some (.int .i64 a) ∧ W.cell? ⟨w.heap.size + 1, 1, none⟩ = some (.int .i64 b) ∧ W.cell? ⟨w.heap.size + 1, 2, none⟩ = some (.int .i64 c) ∧ W.cell? ⟨w.heap.size + 1, 3, none⟩ = some (.string p) ∧ W.cell? ⟨w.heap.size + 1, 4, none⟩ = some (.string q)) ∧
    (∀ k, W.frozen? ⟨w.heap.size, k, none⟩ = false) ∧ (∀ k, W.frozen? ⟨w.heap.size + 1, k, none⟩ = false) :=
  ⟨⟨heap_cell h.res 0, heap_cell h.res 1, heap_cell h.res 2, heap_cell h.res 3, heap_cell h.res 4⟩, ⟨heap_cell h.ver 0, heap_cell h.ver 1, heap_cell h.ver 2, heap_cell h.ver 3, heap_cell h.ver 4⟩, heap_free h.res, heap_free h.ver⟩
theorem other_set {W : World} {B C k : Nat} {v : Value} {o : Obj} (h : W.heap[B]? = some o) (hn : B ≠ C) : (W.setCell ⟨C, k, none⟩ v).heap[B]? = some o := (Below.heap_setCell _ _ _ _ hn).trans h
theorem VP.setV {w W : World} {a b c : Int} {p q : ByteArray} (h : VP w W a b c p q) (k : Nat) (v : Value) {a' b' c' : Int} {p' q' : ByteArray} (hv : (vrow a b c p q).setIfInBounds k v = vrow a' b' c' p' q') : VP w (W.setCell ⟨w.heap.size + 1, k, none⟩ v) a' b' c' p' q' :=
  ⟨h.base.setCell (p := ⟨w.heap.size + 1, k, none⟩) (by show w.heap.size ≤ w.heap.size + 1; omega) _, other_set h.res (by omega), by rw [← hv]; exact heap_set h.ver⟩
/-- What the result's block holds behind a store of a whole version. -/
theorem store5 {W : World} {B : Nat} {a b c : Int} {p q : ByteArray} (h : W.heap[B]? = some (.cells (vrow 0 0 0 ⟨#[]⟩ ⟨#[]⟩) 23 (0, 0))) :
    (((((W.setCell ⟨B, 0, none⟩ (.int .i64 a)).setCell ⟨B, 1, none⟩ (.int .i64 b)).setCell ⟨B, 2, none⟩ (.int .i64 c)).setCell ⟨B, 3, none⟩ (.string p)).setCell ⟨B, 4, none⟩ (.string q)).heap[B]? = some (.cells (vrow a b c p q) 23 (0, 0)) :=
  heap_set (cs := #[.int .i64 a, .int .i64 b, .int .i64 c, .string p, .string ⟨#[]⟩]) (heap_set (cs := #[.int .i64 a, .int .i64 b, .int .i64 c, .string ⟨#[]⟩, .string ⟨#[]⟩]) (heap_set (cs := #[.int .i64 a, .int .i64 b, .int .i64 0, .string ⟨#[]⟩, .string ⟨#[]⟩]) (heap_set (cs := #[.int .i64 a, .int .i64 0, .int .i64 0, .string ⟨#[]⟩, .string ⟨#[]⟩]) (heap_set (cs := #[.int .i64 0, .int .i64 0, .int .i64 0, .string ⟨#[]⟩, .string ⟨#[]⟩]) h))))
theorem vp_new (w : World) : VP w ((w.alloc (.cells (vrow 0 0 0 ⟨#[]⟩ ⟨#[]⟩) 23)).alloc (.cells (vrow 0 0 0 ⟨#[]⟩ ⟨#[]⟩) 23)) 0 0 0 ⟨#[]⟩ ⟨#[]⟩ := by
  refine ⟨below_alloc (below_alloc (Below.refl _ _) _) _, ?_, ?_⟩
  · rw [Below.heap_alloc _ _ _ (by simp)]; exact heap_alloc_new w _
  · have : (w.alloc (.cells (vrow 0 0 0 ⟨#[]⟩ ⟨#[]⟩) 23)).heap.size = w.heap.size + 1 := by simp
    rw [← this]; exact heap_alloc_new _ _
/-- strings.Split at '.', told outright. -/
theorem split_dot (a0 : ByteArray) (w : World) (hG : GW w) (hs : a0.size < 4294967281) :
    Calls Tryz.prog 65 #[.string a0, .string ⟨#[46]⟩] w fun e w' => e = .returned (.slice (some ⟨w.heap.size, 0, none⟩) (splitBy 46 a0).length (splitBy 46 a0).length) ∧
      w'.heap[w.heap.size]? = some (.cells ((splitBy 46 a0).map Value.string).toArray 9 (0, 0)) ∧ Below w.heap.size w w' ∧ w'.heap.size = w.heap.size + 1 := by
  obtain ⟨m, hm⟩ := hG.maxLen
  refine (Tryz.strings_Split a0 ⟨#[46]⟩ m w hs hm (Nat.le_refl 1)).mono ?_
  rintro e w' ⟨rfl, rfl⟩
  have hlen := Lib.splitB_all ⟨#[46]⟩ (Nat.le_refl 1) 0 _ a0 rfl
  rw [splitB_one 46 _ _ rfl] at hlen ⊢
  rw [← hlen]
  exact ⟨rfl, heap_alloc_new w _, below_alloc (Below.refl _ _) _, by simp⟩
/-- .. and the parts of its numbers, and the places of these. -/
structure VQ (w : World) (S T : Nat) (x y z : ByteArray) (W : World) (a b c : Int) (p q : ByteArray) : Prop extends VP w W a b c p q where
  far : w.heap.size + 1 < S
  far2 : w.heap.size + 1 < T
  strs : W.heap[S]? = some (.cells #[.string x, .string y, .string z] 9 (0, 0))
  ptrs : W.heap[T]? = some (.cells #[.pointer (some ⟨w.heap.size + 1, 0, none⟩), .pointer (some ⟨w.heap.size + 1, 1, none⟩), .pointer (some ⟨w.heap.size + 1, 2, none⟩)] 253 (0, 0))
theorem VQ.below {w W W' : World} {S T : Nat} {x y z : ByteArray} {a b c : Int} {p q : ByteArray} (h : VQ w S T x y z W a b c p q) (hb : Below W.heap.size W W') : VQ w S T x y z W' a b c p q :=
  ⟨h.toVP.below hb, h.far, h.far2, lm_step hb h.strs, lm_step hb h.ptrs⟩
theorem VQ.setV {w W : World} {S T : Nat} {x y z : ByteArray} {a b c : Int} {p q : ByteArray} (h : VQ w S T x y z W a b c p q) (k : Nat) (v : Value) {a' b' c' : Int} (hv : (vrow a b c p q).setIfInBounds k v = vrow a' b' c' p q) : VQ w S T x y z (W.setCell ⟨w.heap.size + 1, k, none⟩ v) a' b' c' p q :=
  ⟨h.toVP.setV k v hv, h.far, h.far2, other_set h.strs (by have := h.far; omega), other_set h.ptrs (by have := h.far2; omega)⟩
theorem VQ.more {w W : World} {S T : Nat} {x y z : ByteArray} {a b c : Int} {p q : ByteArray} (h : VQ w S T x y z W a b c p q) :
    (W.cell? ⟨S, 0, none⟩ = some (.string x) ∧ W.cell? ⟨S, 1, none⟩ = some (.string y) ∧ W.cell? ⟨S, 2, none⟩ = some (.string z)) ∧
    (W.cell? ⟨T, 0, none⟩ = some (.pointer (some ⟨w.heap.size + 1, 0, none⟩)) ∧ W.cell? ⟨T, 1, none⟩ = some (.pointer (some ⟨w.heap.size + 1, 1, none⟩)) ∧ W.cell? ⟨T, 2, none⟩ = some (.pointer (some ⟨w.heap.size + 1, 2, none⟩))) :=
  ⟨⟨heap_cell h.strs 0, heap_cell h.strs 1, heap_cell h.strs 2⟩, ⟨heap_cell h.ptrs 0, heap_cell h.ptrs 1, heap_cell h.ptrs 2⟩⟩
/-- How many of the numbers were read. -/
def Got (x y z : ByteArray) : Nat → Int → Int → Int → Prop
  | 0, a, b, c => a = 0 ∧ b = 0 ∧ c = 0
  | 1, a, b, c => Lib.atoiAll x.data.toList = .ok a ∧ b = 0 ∧ c = 0
  | 2, a, b, c => Lib.atoiAll x.data.toList = .ok a ∧ Lib.atoiAll y.data.toList = .ok b ∧ c = 0
  | _, a, b, c => Lib.atoiAll x.data.toList = .ok a ∧ Lib.atoiAll y.data.toList = .ok b ∧ Lib.atoiAll z.data.toList = .ok c
/-- What the numbers' parts come to. -/
def nums3 (s : List UInt8) (x y z p q : List UInt8) : Option (Int × Int × Int × List UInt8 × List UInt8) :=
  match Lib.atoiAll x, Lib.atoiAll y, Lib.atoiAll z with
  | .ok a, .ok b, .ok c => if (textV a b c (ba p) (ba q)).data.toList = s then some (a, b, c, p, q) else none
  | _, _, _ => none
theorem nums3_ok {s x y z p q : List UInt8} {a b c : Int} (h1 : Lib.atoiAll x = .ok a) (h2 : Lib.atoiAll y = .ok b) (h3 : Lib.atoiAll z = .ok c) : nums3 s x y z p q = if (textV a b c (ba p) (ba q)).data.toList = s then some (a, b, c, p, q) else none := by
  unfold nums3; rw [h1, h2, h3]
theorem nums3_x {s x y z p q : List UInt8} (h : ∀ v, Lib.atoiAll x ≠ .ok v) : nums3 s x y z p q = none := by
  unfold nums3
  split
  · rename_i h1 _ _; exact absurd h1 (h _)
  · rfl
theorem nums3_y {s x y z p q : List UInt8} (h : ∀ v, Lib.atoiAll y ≠ .ok v) : nums3 s x y z p q = none := by
  unfold nums3
  split
  · rename_i h1 _; exact absurd h1 (h _)
  · rfl
theorem nums3_z {s x y z p q : List UInt8} (h : ∀ v, Lib.atoiAll z ≠ .ok v) : nums3 s x y z p q = none := by
  unfold nums3
  split
  · rename_i h1; exact absurd h1 (h _)
  · rfl
theorem parsed_three {s : List UInt8} (hp : s.head? = some 118) {x y z : List UInt8} (h : splitC 46 (cutC 45 (cutC 43 (s.drop 1)).1).1 = [x, y, z]) : parseV s = nums3 s x y z (cutC 45 (cutC 43 (s.drop 1)).1).2 (cutC 43 (s.drop 1)).2 := by
  unfold parseV
  rw [if_pos hp, h]
  rfl
theorem parsed_other {s : List UInt8} (hp : s.head? = some 118) (h : (splitC 46 (cutC 45 (cutC 43 (s.drop 1)).1).1).length ≠ 3) : parseV s = none := by
  unfold parseV
  rw [if_pos hp]
  split
  · rename_i e; rw [e] at h; exact absurd rfl h
  · rfl
theorem three {α : Type} {l : List α} (h : l.length = 3) : ∃ x y z, l = [x, y, z] := by
  match l, h with
  | [x, y, z], _ => exact ⟨x, y, z, rfl⟩
set_option maxRecDepth 100000 in
set_option maxHeartbeats 8000000 in
theorem parse_walk (s : ByteArray) (hs : s.size ≤ 4294967280) (r : Int × Int × Int × ByteArray × ByteArray × Bool) (hr : r = parsed s.data.toList) (w : World) (hG : GW w) :
    Calls Tryz.prog 170 #[.string s] w fun e w' => e = .returned (.tuple #[.agg (vrow r.1 r.2.1 r.2.2.1 r.2.2.2.1 r.2.2.2.2.1), .bool r.2.2.2.2.2]) ∧ Below w.heap.size w w' := by
  have HG := Aside0.mk hG
  clear hG
  by_cases hp : Lib.hasPrefix s.data.toList [118] = true
  · have hh : s.data.toList.head? = some 118 := by
      cases hl : s.data.toList with
      | nil => rw [hl] at hp; cases hp
      | cons b t =>
        rw [hl] at hp
        simp [Lib.hasPrefix, List.isPrefixOf] at hp
        rw [← hp]; rfl
    obtain ⟨D, hD⟩ : ∃ D : ByteArray, D.data.toList = s.data.toList.drop 1 := ⟨ba (s.data.toList.drop 1), rfl⟩
    have hDs : D.size ≤ 4294967280 := by
      rw [Lib.size_eq] at hs ⊢
      rw [hD, List.length_drop]; omega
    obtain ⟨R1, hR1⟩ : ∃ R1, R1 = ba (cutC 43 D.data.toList).1 := ⟨_, rfl⟩
    obtain ⟨Q, hQ⟩ : ∃ Q, Q = ba (cutC 43 D.data.toList).2 := ⟨_, rfl⟩
    obtain ⟨R2, hR2⟩ : ∃ R2, R2 = ba (cutC 45 R1.data.toList).1 := ⟨_, rfl⟩
    obtain ⟨P, hP⟩ : ∃ P, P = ba (cutC 45 R1.data.toList).2 := ⟨_, rfl⟩
    have hR1s : R1.size ≤ 4294967280 := by
      rw [hR1, ba_size]
      have := (cutC_len 43 D.data.toList).1
      rw [Lib.size_eq] at hDs; omega
    have hR2s : R2.size ≤ 4294967280 := by
      rw [hR2, ba_size]
      have := (cutC_len 45 R1.data.toList).1
      rw [Lib.size_eq] at hR1s; omega
    have k1 := fun W hG => cut_at D 43 W hG (by omega)
    have k2 := fun W hG => cut_at R1 45 W hG (by omega)
    rw [← hR1, ← hQ] at k1
    rw [← hR2, ← hP] at k2
    have hsp : (splitBy 46 R2).map (fun x => x.data.toList) = splitC 46 (cutC 45 (cutC 43 (s.data.toList.drop 1)).1).1 := by
      unfold splitBy
      rw [List.map_map, hR2, ba_data, hR1, ba_data, hD]
      exact List.map_id _
    have k3 := fun W hG => split_dot R2 W hG (by omega)
    have hlen := split_len 46 R2
    have hpq : (cutC 45 (cutC 43 (s.data.toList.drop 1)).1).2 = P.data.toList ∧ (cutC 43 (s.data.toList.drop 1)).2 = Q.data.toList := ⟨by rw [hP, ba_data, hR1, ba_data, hD], by rw [hQ, ba_data, hD]⟩
    have K1 := Aside0.mk k1
    have K2 := Aside0.mk k2
    have HP := Aside0.mk hp
    have HD := Aside0.mk hD
    have HH := Aside0.mk hh
    have HSP := Aside0.mk hsp
    have HPQ := Aside0.mk hpq
    have HR := Aside0.mk hr
    have HSS := Aside0.mk hs
    have HSZ := Aside0.mk (fun x (hx : x ∈ splitBy 46 R2) => show x.size ≤ 281474976710656 by have := split_size hx; omega)
    generalize splitBy 46 R2 = parts at k3 hlen HSP HSZ
    have hl63 : parts.length ≤ 9223372036854775807 := by omega
    have K3 := Aside0.mk k3
    clear k1 k2 k3 hp hD hh hsp hR1 hR2 hQ hP hR1s hR2s hDs hlen hpq hr hs
    go_enter Tryz.func170, Tryz.ntmps170
    go_wp2_with (first
      | (go_at_call 140; (with_reducible refine (cut_yes s D _ HP.out HD.out).mono ?_); rintro e w' ⟨rfl, rfl⟩))
    have hV : VP w ((w.alloc (.cells #[.int .i64 0, .int .i64 0, .int .i64 0, .string ⟨#[]⟩, .string ⟨#[]⟩] 23)).alloc (.cells #[.int .i64 0, .int .i64 0, .int .i64 0, .string ⟨#[]⟩, .string ⟨#[]⟩] 23)) 0 0 0 ⟨#[]⟩ ⟨#[]⟩ := vp_new w
    generalize ((w.alloc (.cells #[.int .i64 0, .int .i64 0, .int .i64 0, .string ⟨#[]⟩, .string ⟨#[]⟩] 23)).alloc (.cells #[.int .i64 0, .int .i64 0, .int .i64 0, .string ⟨#[]⟩, .string ⟨#[]⟩] 23)) = W at hV ⊢
    have HG1 := Aside0.mk (HG.out.below hV.base)
    have HV := Aside0.mk hV
    obtain ⟨⟨a0, a1, a2, a3, a4⟩, ⟨b0, b1, b2, b3, b4⟩, fa, fb⟩ := hV.cells
    clear hV
    go_wp2_with (first
      | (go_at_call 163; (with_reducible refine (K1.out _ HG1.out).mono ?_); rintro e w' ⟨t1, rfl, ⟨n1, rfl⟩⟩))
    clear a0 a1 a2 a3 a4 b0 b1 b2 b3 b4 fa fb
    have hV2 : VP w ((W.drewN n1).setCell ⟨w.heap.size + 1, 4, none⟩ (.string Q)) 0 0 0 ⟨#[]⟩ Q := (HV.out.draw n1).setV 4 (.string Q) rfl
    generalize ((W.drewN n1).setCell ⟨w.heap.size + 1, 4, none⟩ (.string Q)) = W2 at hV2 ⊢
    have HG2 := Aside0.mk (HG.out.below hV2.base)
    have HV2 := Aside0.mk hV2
    obtain ⟨⟨a0, a1, a2, a3, a4⟩, ⟨b0, b1, b2, b3, b4⟩, fa, fb⟩ := hV2.cells
    clear hV2
    go_wp2_with (first
      | (go_at_call 163; (with_reducible refine (K2.out _ HG2.out).mono ?_); rintro e w' ⟨t2, rfl, ⟨n2, rfl⟩⟩))
    clear a0 a1 a2 a3 a4 b0 b1 b2 b3 b4 fa fb
    have hV3 : VP w ((W2.drewN n2).setCell ⟨w.heap.size + 1, 3, none⟩ (.string P)) 0 0 0 P Q := (HV2.out.draw n2).setV 3 (.string P) rfl
    generalize ((W2.drewN n2).setCell ⟨w.heap.size + 1, 3, none⟩ (.string P)) = W3 at hV3 ⊢
    have HG3 := Aside0.mk (HG.out.below hV3.base)
    have HV3 := Aside0.mk hV3
    obtain ⟨⟨a0, a1, a2, a3, a4⟩, ⟨b0, b1, b2, b3, b4⟩, fa, fb⟩ := hV3.cells
    clear hV3
    by_cases h3 : parts.length = 3
    · obtain ⟨x, y, z, rfl⟩ := three h3
      clear a0 a1 a2 a3 a4 b0 b1 b2 b3 b4 fa fb
      go_wp2_with (first
        | (go_at_call 65; (with_reducible refine (K3.out _ HG3.out).mono ?_); rintro e W4 ⟨rfl, hst, hb, hsz4⟩; have hV4 := HV3.out.below hb; have HV4 := Aside0.mk hV4; have HST := Aside0.mk hst; have HS4 := Aside0.mk hsz4; obtain ⟨⟨a0, a1, a2, a3, a4⟩, ⟨b0, b1, b2, b3, b4⟩, fa, fb⟩ := hV4.cells; clear hV4 hb hst hsz4))
      have hr3 : r = match nums3 s.data.toList x.data.toList y.data.toList z.data.toList P.data.toList Q.data.toList with
          | none => (0, 0, 0, ⟨#[]⟩, ⟨#[]⟩, false)
          | some r => (r.1, r.2.1, r.2.2.1, ba r.2.2.2.1, ba r.2.2.2.2, true) := by
        rw [HR.out]
        unfold parsed
        rw [parsed_three HH.out (x := x.data.toList) (y := y.data.toList) (z := z.data.toList) (by rw [← HSP.out]; rfl), HPQ.out.1, HPQ.out.2]
      have HR3 := Aside0.mk hr3
      clear hr3 h3 a0 a1 a2 a3 a4 b0 b1 b2 b3 b4 fa fb
      have hf := below_size HV3.out.base
      have HF := Aside0.mk (show w.heap.size + 1 < W3.heap.size from by
        have h1 := (Array.getElem?_eq_some_iff.1 HV3.out.ver).1
        exact h1)
      go_loopg [8, 9, 10, 11, 45] 3 (fun gg _ _ _ _ v45 wr => ∃ (kk : Nat) (a b c : Int), kk ≤ 3 ∧ 3 - kk ≤ gg ∧ v45 = .int .i64 kk ∧ Aside0 (VQ w W3.heap.size W4.heap.size x y z wr a b c P Q) ∧ Aside0 (Got x y z kk a b c))
      case atStart =>
        refine ⟨0, 0, 0, 0, Nat.zero_le _, by omega, rfl, ⟨⟨HV4.out.below (below_alloc (Below.refl _ _) _), HF.out, by have := HF.out; have := HS4.out; omega, ?_, ?_⟩⟩, ⟨⟨rfl, rfl, rfl⟩⟩⟩
        · exact lm_step (below_alloc (Below.refl _ _) _) HST.out
        · exact heap_alloc_new W4 _
      case round =>
        obtain ⟨kk, a, b, c, hkk, hg, rfl, HQ, HGO⟩ := hrel
        have hcase : kk = 0 ∨ kk = 1 ∨ kk = 2 ∨ kk = 3 := by omega
        rcases hcase with rfl | rfl | rfl | rfl
        ·
          have GG := HGO
          obtain ⟨rfl, rfl, rfl⟩ := HGO.out
          obtain ⟨⟨s0, s1, s2⟩, ⟨t0, t1, t2⟩⟩ := HQ.out.more
          obtain ⟨⟨a0, a1, a2, a3, a4⟩, ⟨b0, b1, b2, b3, b4⟩, fa, fb⟩ := HQ.out.toVP.cells
          have hxs := HSZ.out x (List.mem_cons_self)
          by_cases hok : ∃ v, Lib.atoiAll x.data.toList = .ok v
          · obtain ⟨v, hv⟩ := hok
            have HVV := Aside0.mk hv
            clear hv
            go_wp2_with (first
              | (go_at_call 142; (with_reducible refine (atoi_ok x v _ hxs HVV.out).mono ?_); rintro e W5 ⟨rfl, hb5⟩; have HQ5 := Aside0.mk (HQ.out.below hb5); clear a0 a1 a2 a3 a4 b0 b1 b2 b3 b4 fa fb s0 s1 s2 t0 t1 t2 hb5; obtain ⟨⟨a0, a1, a2, a3, a4⟩, ⟨b0, b1, b2, b3, b4⟩, fa, fb⟩ := HQ5.out.toVP.cells))
            go_roundg 2
            case measure => omega
            case rel =>
              have hv := HVV.out
              exact ⟨1, v, 0, 0, by omega, by omega, by go_num, ⟨HQ5.out.setV 0 (.int .i64 v) rfl⟩, ⟨⟨hv, rfl, rfl⟩⟩⟩
          · have hno : ∀ v, Lib.atoiAll x.data.toList ≠ .ok v := fun v e => hok ⟨v, e⟩
            have hrn : r = (0, 0, 0, ⟨#[]⟩, ⟨#[]⟩, false) := by
              rw [HR3.out, nums3_x hno]
            subst hrn
            have HNO := Aside0.mk hno
            have HGW := Aside0.mk (HG.out.below HQ.out.base)
            clear hok hno
            go_wp2_with (first
              | (go_at_call 142; (with_reducible refine (atoi_bad x _ HGW.out hxs HNO.out).mono ?_); rintro e W5 ⟨n5, N5, rfl, hb5⟩; have HQ5 := Aside0.mk (HQ.out.below hb5); clear a0 a1 a2 a3 a4 b0 b1 b2 b3 b4 fa fb s0 s1 s2 t0 t1 t2 hb5; obtain ⟨⟨a0, a1, a2, a3, a4⟩, ⟨b0, b1, b2, b3, b4⟩, fa, fb⟩ := HQ5.out.toVP.cells))
            refine bodyPost_ret (results_ct rfl _ _ w.heap.size 23 (vrow 0 0 0 ⟨#[]⟩ ⟨#[]⟩) (0, 0) _ rfl (store5 HQ5.out.res) Tryz.underlying23 rfl (by kernel_rfl)) rfl ⟨rfl, ?_⟩
            repeat (first | exact HQ5.out.base | refine Below.setCell ?_ (by exact Nat.le_refl _) _)
        ·
          have GG := HGO
          obtain ⟨g1, rfl, rfl⟩ := HGO.out
          obtain ⟨⟨s0, s1, s2⟩, ⟨t0, t1, t2⟩⟩ := HQ.out.more
          obtain ⟨⟨a0, a1, a2, a3, a4⟩, ⟨b0, b1, b2, b3, b4⟩, fa, fb⟩ := HQ.out.toVP.cells
          have hxs := HSZ.out y (List.mem_cons_of_mem _ List.mem_cons_self)
          by_cases hok : ∃ v, Lib.atoiAll y.data.toList = .ok v
          · obtain ⟨v, hv⟩ := hok
            have HVV := Aside0.mk hv
            clear hv
            go_wp2_with (first
              | (go_at_call 142; (with_reducible refine (atoi_ok y v _ hxs HVV.out).mono ?_); rintro e W5 ⟨rfl, hb5⟩; have HQ5 := Aside0.mk (HQ.out.below hb5); clear a0 a1 a2 a3 a4 b0 b1 b2 b3 b4 fa fb s0 s1 s2 t0 t1 t2 hb5; obtain ⟨⟨a0, a1, a2, a3, a4⟩, ⟨b0, b1, b2, b3, b4⟩, fa, fb⟩ := HQ5.out.toVP.cells))
            go_roundg 1
            case measure => omega
            case rel =>
              have hv := HVV.out
              exact ⟨2, a, v, 0, by omega, by omega, by go_num, ⟨HQ5.out.setV 1 (.int .i64 v) rfl⟩, ⟨⟨GG.out.1, hv, rfl⟩⟩⟩
          · have hno : ∀ v, Lib.atoiAll y.data.toList ≠ .ok v := fun v e => hok ⟨v, e⟩
            have hrn : r = (0, 0, 0, ⟨#[]⟩, ⟨#[]⟩, false) := by
              rw [HR3.out, nums3_y hno]
            subst hrn
            have HNO := Aside0.mk hno
            have HGW := Aside0.mk (HG.out.below HQ.out.base)
            clear hok hno
            go_wp2_with (first
              | (go_at_call 142; (with_reducible refine (atoi_bad y _ HGW.out hxs HNO.out).mono ?_); rintro e W5 ⟨n5, N5, rfl, hb5⟩; have HQ5 := Aside0.mk (HQ.out.below hb5); clear a0 a1 a2 a3 a4 b0 b1 b2 b3 b4 fa fb s0 s1 s2 t0 t1 t2 hb5; obtain ⟨⟨a0, a1, a2, a3, a4⟩, ⟨b0, b1, b2, b3, b4⟩, fa, fb⟩ := HQ5.out.toVP.cells))
            refine bodyPost_ret (results_ct rfl _ _ w.heap.size 23 (vrow 0 0 0 ⟨#[]⟩ ⟨#[]⟩) (0, 0) _ rfl (store5 HQ5.out.res) Tryz.underlying23 rfl (by kernel_rfl)) rfl ⟨rfl, ?_⟩
            repeat (first | exact HQ5.out.base | refine Below.setCell ?_ (by exact Nat.le_refl _) _)
        ·
          have GG := HGO
          obtain ⟨g1, g2, rfl⟩ := HGO.out
          obtain ⟨⟨s0, s1, s2⟩, ⟨t0, t1, t2⟩⟩ := HQ.out.more
          obtain ⟨⟨a0, a1, a2, a3, a4⟩, ⟨b0, b1, b2, b3, b4⟩, fa, fb⟩ := HQ.out.toVP.cells
          have hxs := HSZ.out z (List.mem_cons_of_mem _ (List.mem_cons_of_mem _ List.mem_cons_self))
          by_cases hok : ∃ v, Lib.atoiAll z.data.toList = .ok v
          · obtain ⟨v, hv⟩ := hok
            have HVV := Aside0.mk hv
            clear hv
            go_wp2_with (first
              | (go_at_call 142; (with_reducible refine (atoi_ok z v _ hxs HVV.out).mono ?_); rintro e W5 ⟨rfl, hb5⟩; have HQ5 := Aside0.mk (HQ.out.below hb5); clear a0 a1 a2 a3 a4 b0 b1 b2 b3 b4 fa fb s0 s1 s2 t0 t1 t2 hb5; obtain ⟨⟨a0, a1, a2, a3, a4⟩, ⟨b0, b1, b2, b3, b4⟩, fa, fb⟩ := HQ5.out.toVP.cells))
            go_roundg 0
            case measure => omega
            case rel =>
              have hv := HVV.out
              exact ⟨3, a, b, v, by omega, by omega, by go_num, ⟨HQ5.out.setV 2 (.int .i64 v) rfl⟩, ⟨⟨GG.out.1, GG.out.2.1, hv⟩⟩⟩
          · have hno : ∀ v, Lib.atoiAll z.data.toList ≠ .ok v := fun v e => hok ⟨v, e⟩
            have hrn : r = (0, 0, 0, ⟨#[]⟩, ⟨#[]⟩, false) := by
              rw [HR3.out, nums3_z hno]
            subst hrn
            have HNO := Aside0.mk hno
            have HGW := Aside0.mk (HG.out.below HQ.out.base)
            clear hok hno
            go_wp2_with (first
              | (go_at_call 142; (with_reducible refine (atoi_bad z _ HGW.out hxs HNO.out).mono ?_); rintro e W5 ⟨n5, N5, rfl, hb5⟩; have HQ5 := Aside0.mk (HQ.out.below hb5); clear a0 a1 a2 a3 a4 b0 b1 b2 b3 b4 fa fb s0 s1 s2 t0 t1 t2 hb5; obtain ⟨⟨a0, a1, a2, a3, a4⟩, ⟨b0, b1, b2, b3, b4⟩, fa, fb⟩ := HQ5.out.toVP.cells))
            refine bodyPost_ret (results_ct rfl _ _ w.heap.size 23 (vrow 0 0 0 ⟨#[]⟩ ⟨#[]⟩) (0, 0) _ rfl (store5 HQ5.out.res) Tryz.underlying23 rfl (by kernel_rfl)) rfl ⟨rfl, ?_⟩
            repeat (first | exact HQ5.out.base | refine Below.setCell ?_ (by exact Nat.le_refl _) _)
        ·
          obtain ⟨⟨a0, a1, a2, a3, a4⟩, ⟨b0, b1, b2, b3, b4⟩, fa, fb⟩ := HQ.out.toVP.cells
          have htx := text_calls a b c P Q wr (HG.out.below HQ.out.base)
          have hr4 := HR3.out
          rw [nums3_ok HGO.out.1 HGO.out.2.1 HGO.out.2.2, ba_of, ba_of] at hr4
          obtain ⟨E, hE⟩ : ∃ E, textV a b c P Q = E := ⟨_, rfl⟩
          rw [hE] at htx hr4
          have HTX := Aside0.mk htx
          clear htx hE
          by_cases he : E.data.toList = s.data.toList
          · obtain rfl := by_data he
            rw [if_pos rfl] at hr4
            simp only [ba_of] at hr4
            subst hr4
            clear he
            go_wp2_with (first
              | (go_at_call 36; (with_reducible refine (HTX.out).mono ?_); rintro e W5 ⟨rfl, hb5⟩; have HQ5 := Aside0.mk (HQ.out.below hb5); clear a0 a1 a2 a3 a4 b0 b1 b2 b3 b4 fa fb hb5; obtain ⟨⟨a0, a1, a2, a3, a4⟩, ⟨b0, b1, b2, b3, b4⟩, fa, fb⟩ := HQ5.out.toVP.cells))
            refine bodyPost_ret (results_ct rfl _ _ w.heap.size 23 (vrow a b c P Q) (0, 0) _ rfl (store5 HQ5.out.res) Tryz.underlying23 rfl (by kernel_rfl)) rfl ⟨rfl, ?_⟩
            repeat (first | exact HQ5.out.base | refine Below.setCell ?_ (by exact Nat.le_refl _) _)
          · rw [if_neg he] at hr4
            subst hr4
            have q1 : ¬ E.toList = s.toList := by rw [ByteArray.toList_eq, ByteArray.toList_eq]; exact he
            have q2 : (E.toList == s.toList) = false := by simpa using q1
            have q3 : (E.toList != s.toList) = true := by simpa using q1
            clear he
            go_wp2_with (first
              | (go_at_call 36; (with_reducible refine (HTX.out).mono ?_); rintro e W5 ⟨rfl, hb5⟩; have HQ5 := Aside0.mk (HQ.out.below hb5); clear a0 a1 a2 a3 a4 b0 b1 b2 b3 b4 fa fb hb5; obtain ⟨⟨a0, a1, a2, a3, a4⟩, ⟨b0, b1, b2, b3, b4⟩, fa, fb⟩ := HQ5.out.toVP.cells))
            refine bodyPost_ret (results_ct rfl _ _ w.heap.size 23 (vrow 0 0 0 ⟨#[]⟩ ⟨#[]⟩) (0, 0) _ rfl (store5 HQ5.out.res) Tryz.underlying23 rfl (by kernel_rfl)) rfl ⟨rfl, ?_⟩
            repeat (first | exact HQ5.out.base | refine Below.setCell ?_ (by exact Nat.le_refl _) _)
    · have h3z : ¬ (parts.length : Int) = 3 := by omega
      have hrn : r = (0, 0, 0, ⟨#[]⟩, ⟨#[]⟩, false) := by
        rw [HR.out]
        unfold parsed
        rw [parsed_other HH.out (by rw [← HSP.out, List.length_map]; exact h3)]
      subst hrn
      clear h3 a0 a1 a2 a3 a4 b0 b1 b2 b3 b4 fa fb
      go_wp2_with (first
        | (go_at_call 65; (with_reducible refine (K3.out _ HG3.out).mono ?_); rintro e W4 ⟨rfl, hst, hb, hsz4⟩; have hV4 := HV3.out.below hb; have HV4 := Aside0.mk hV4; have HST := Aside0.mk hst; have HS4 := Aside0.mk hsz4; obtain ⟨⟨a0, a1, a2, a3, a4⟩, ⟨b0, b1, b2, b3, b4⟩, fa, fb⟩ := hV4.cells; clear hV4 hb hst hsz4))
      refine bodyPost_ret (results_ct rfl _ _ w.heap.size 23 (vrow 0 0 0 ⟨#[]⟩ ⟨#[]⟩) (0, 0) _ rfl (store5 HV4.out.res) Tryz.underlying23 rfl (by kernel_rfl)) rfl ⟨rfl, ?_⟩
      repeat (first | exact HV4.out.base | refine Below.setCell ?_ (by exact Nat.le_refl _) _)
  · have hz : parsed s.data.toList = (0, 0, 0, ⟨#[]⟩, ⟨#[]⟩, false) := by
      have : parseV s.data.toList = none := by
        unfold parseV
        rw [if_neg]
        intro h
        apply hp
        cases hl : s.data.toList with
        | nil => rw [hl] at h; cases h
        | cons b t => rw [hl] at h; obtain rfl := Option.some.inj h; rfl
      unfold parsed
      rw [this]
    rw [hz] at hr
    subst hr
    have HP := Aside0.mk (show Lib.hasPrefix s.data.toList [118] = false by simpa using hp)
    clear hp hz
    have HV := Aside0.mk (show (w.alloc (.cells #[.int .i64 0, .int .i64 0, .int .i64 0, .string ⟨#[]⟩, .string ⟨#[]⟩] 23)).heap[w.heap.size]? = some (.cells (vrow 0 0 0 ⟨#[]⟩ ⟨#[]⟩) 23 (0, 0)) from heap_alloc_new w _)
    go_enter Tryz.func170, Tryz.ntmps170
    go_wp2_with (first
      | (go_at_call 140; (with_reducible refine (cut_no s _ HP.out).mono ?_); rintro e w' ⟨rfl, rfl⟩))
    refine bodyPost_ret (results_ct rfl _ _ w.heap.size 23 (vrow 0 0 0 ⟨#[]⟩ ⟨#[]⟩) (0, 0) _ rfl HV.out Tryz.underlying23 rfl (by kernel_rfl)) rfl ⟨rfl, ?_⟩
    exact below_alloc (Below.refl _ _) _
theorem ver_Parse.calls (a0 : ByteArray) (r1 r2 r3 : Int) (r4 r5 : ByteArray) (r6 : Bool) (w : World) (hG : GW w) (h : ver_Parse.f a0 = some (r1, r2, r3, r4, r5, r6)) :
    Calls Tryz.prog 170 #[.string a0] w fun e w' => e = .returned (.tuple #[.agg #[.int .i64 r1, .int .i64 r2, .int .i64 r3, .string r4, .string r5], .bool r6]) ∧ Below w.heap.size w w' := by
  unfold ver_Parse.f at h
  split at h
  · rename_i hs
    have e := Option.some.inj h
    exact parse_walk a0 hs (r1, r2, r3, r4, r5, r6) e.symm w hG
  · cases h
end Go.Proofs.YtmbpefnhkimplaaGreatDoor
end
