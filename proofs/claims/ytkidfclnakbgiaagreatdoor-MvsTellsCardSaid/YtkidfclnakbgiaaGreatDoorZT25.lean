/- The texts MvClone, MvSort, MvList in one file, without what these claims do not use (put together by prune2.py). -/
import Derived.Test.YtkidfclnakbgiaaGreatDoorZT8
import Derived.Lib.SliceRun
import Derived.Shelf.Abstract
import Derived.Test.YtkidfclnakbgiaaGreatDoorZT24
import Derived.Test.YtkidfclnakbgiaaGreatDoorZT7
import Derived.Shelf.SlSortCmp.NoneTotal
import Derived.Lib.OwnBridge
import Derived.Maps.RangeWalk
section
namespace Go.Proofs.YtkidfclnakbgiaaGreatDoor
open Go Go.RowKit Go.Proofs Go.Proofs.YtkidfclnakbgiaaGreatDoorW.PrintWords Go.Proofs.YtkidfclnakbgiaaGreatDoor.K0
set_option linter.unusedVariables false
set_option linter.unusedSimpArgs false
def rcl (t : S27) : List Value := [.string t.f0, .int .i64 t.f1.f0, .int .i64 t.f1.f1, .int .i64 t.f1.f2, .string t.f1.f3, .string t.f1.f4]
def rcs (l : List S27) : List Value := l.flatMap rcl
theorem rcs_len (l : List S27) : (rcs l).length = l.length * 6 := by
  induction l with
  | nil => rfl
  | cons t l ih => unfold rcs at ih ⊢; rw [List.flatMap_cons, List.length_append, ih, List.length_cons]; simp [rcl]; omega
theorem rcs_drop : ∀ (l : List S27) (j : Nat), (rcs l).drop (j * 6) = rcs (l.drop j)
  | [], j => by simp [rcs]
  | t :: l, 0 => rfl
  | t :: l, j + 1 => by
    have ih := rcs_drop l j
    have e : (j + 1) * 6 = (rcl t).length + j * 6 := by simp [rcl]; omega
    rw [List.drop_succ_cons, ← ih, e]
    show List.drop _ (rcl t ++ rcs l) = _
    rw [← List.drop_drop, List.drop_left]
theorem rcs_at {l : List S27} {j : Nat} {t : S27} (h : l[j]? = some t) : ((rcs l).drop (j * 6)).take 6 = rcl t := by
  obtain ⟨hj, e⟩ := List.getElem?_eq_some_iff.1 h
  rw [rcs_drop, List.drop_eq_getElem_cons hj, e]
  show List.take 6 (rcl t ++ rcs (l.drop (j + 1))) = _
  exact List.take_left' rfl
theorem rcs_row (l : List S27) (w : World) (b : Nat) (ok : Nat → Prop) : Reps (k27.M w b ok) 6 l (rcs l) :=
  ⟨rcs_len l, fun j p hp => by rw [rcs_at hp]; exact k27_mkM w b ok p⟩
theorem rcs_cells {w : World} {A : Option Addr} {l : List S27} {ad : Addr} (h : Kd.C k27 w (some ad) l.length l) (j : Nat) (u : Value) (hu : (rcs l)[j]? = some u) : w.cell? (ad.add j) = some u := by
  have hj : j < l.length * 6 := by rw [← rcs_len]; exact (List.getElem?_eq_some_iff.1 hu).1
  obtain ⟨t, ht⟩ : ∃ t, l[j / 6]? = some t := ⟨_, List.getElem?_eq_getElem (by omega)⟩
  obtain ⟨ad2, hA, hc⟩ := h.2.2 (by omega)
  obtain rfl := Option.some.inj hA
  obtain ⟨c, _, hK, hcell⟩ := hc (j / 6) t ht
  obtain rfl := k27_open hK
  have e : (rcs l)[j]? = (rcl t)[j % 6]? := by
    rw [← rcs_at ht, List.getElem?_take, if_pos (Nat.mod_lt _ (by decide)), List.getElem?_drop]
    congr 1; omega
  rw [e] at hu
  have := hcell (j % 6) u hu
  rwa [show j / 6 * k27.sz + j % 6 = j from by show j / 6 * 6 + j % 6 = j; omega] at this
def slices_Clone.f (l0 : List S27) : Option (List S27) := if l0.length * 72 ≤ 140737488355328 then some l0 else none
set_option maxRecDepth 100000 in
set_option maxHeartbeats 1000000 in
theorem slices_Clone.calls (A0 : Option Addr) (c0 : Nat) (l0 : List S27) (r : List S27) (w : World) (hr0 : Kd.C k27 w A0 l0.length l0) (hc0 : l0.length ≤ c0) (h : slices_Clone.f l0 = some r) :
    Calls Tryz.prog 41 #[.slice A0 l0.length c0] w fun e w' => ∃ v0_ : Value, e = .returned (v0_) ∧ Kd.R k27 27 w' w.heap.size (fun _ => True) v0_ r ∧ Below w.heap.size w w' := by
  unfold slices_Clone.f at h
  split at h
  · rename_i hs
    obtain rfl := Option.some.inj h
    clear h hc0
    have q := fun (w : World) (a : Option Addr) (n c n' c' : Nat) => Lib.run_eql_slice_nil w 22 27 a n c n' c' Tryz.underlying22
    cases A0 with
    | none =>
      have h0 : l0 = [] := by
        rcases l0 with _ | ⟨b, l⟩
        · rfl
        · obtain ⟨ad, hA, _⟩ := hr0.2.2 (by simp)
          cases hA
      subst h0
      clear hr0
      go_enter Tryz.func41, Tryz.ntmps41
      go_wp2
      go_ret
      exact ⟨_, rfl, Kd.R_nil _ _ _ _ _, Below.refl _ _⟩
    | some ad =>
      obtain ⟨i0, hi, hz0, hz1, hz2⟩ := info_parts info27
      have HC := Aside0.mk (rcs_cells (A := none) hr0)
      have hb := hr0.2.1
      have hlen := rcs_len l0
      have HROW := Aside0.mk (fun W b ok => rcs_row l0 W b ok)
      have hone : ∀ u ∈ rcs l0, u.oneCell' = true := by
        intro u hu
        obtain ⟨t, _, ht⟩ := List.mem_flatMap.1 hu
        simp only [rcl, List.mem_cons, List.not_mem_nil, or_false] at ht
        rcases ht with rfl | rfl | rfl | rfl | rfl | rfl <;> rfl
      have HONE := Aside0.mk hone
      obtain ⟨n, hn⟩ : ∃ n, n = l0.length := ⟨_, rfl⟩
      rw [← hn] at hb hlen hs ⊢
      have HL := Aside0.mk hlen
      have HN := Aside0.mk hn
      clear hr0 hone hlen hn
      go_enter Tryz.func41, Tryz.ntmps41
      go_wp2_with (at_builtin; refine wpList_append_own _ rfl _ _ 22 rfl w.heap.size 27 i0 _ 6 72 Tryz.underlying22 hi hz0 hz1 hz2 rfl (by decide) _ _ _ rfl (World.ownsRow_made w #[] 0 (Nat.le_refl _) (Nat.zero_le _) (by simp)) ad n c0 (rcs l0) rfl ?qc1 ?qc2 ?qc3 ?qc4 ?qc5 ?qc6 ?_)
      case qc1 => exact HL.out
      case qc2 => exact fun j u hj => Lib.cell?_alloc_some _ (HC.out j u hj)
      case qc3 => exact HONE.out
      case qc4 => rw [Nat.zero_add]; exact hb
      case qc5 => rw [Nat.zero_add]; exact hs
      case qc6 => simp
      intro v' w1 hown hgrow hnil
      go_wp2
      go_ret
      refine ⟨v', rfl, ⟨fun _ _ => trivial, rcs l0, ?_, HROW.out _ _ _⟩, ?_⟩
      · rw [← HN.out]
        exact hown
      · exact ((Below.refl _ w).alloc (Nat.le_refl _) _).grown hgrow (by simp) (by intro k hk; simp [Value.ownBlock] at hk; omega)
  · cases h
end Go.Proofs.YtkidfclnakbgiaaGreatDoor
end

section
namespace Go.Proofs.YtkidfclnakbgiaaGreatDoor
open Go Go.RowKit Go.Sort Go.Maps Go.Proofs Go.Proofs.YtkidfclnakbgiaaGreatDoorW.PrintWords Go.Proofs.YtkidfclnakbgiaaGreatDoorW.PrintLast Go.Proofs.YtkidfclnakbgiaaGreatDoor.K0
set_option linter.unusedVariables false
set_option linter.unusedSimpArgs false
instance : Inhabited Rq := ⟨z27⟩
def rql (x : Rq) : List Value := [.string x.f0, .int .i64 x.f1.f0, .int .i64 x.f1.f1, .int .i64 x.f1.f2, .string x.f1.f3, .string x.f1.f4]
theorem bypath_calls (x y : Rq) (w : World) : Calls Tryz.prog 37 #[.agg (rqc x), .agg (rqc y)] w fun e w' => e = .returned (.int .i64 (mv.byPath x y)) ∧ ∃ q os', w' = grow (w.drewN q) os' := by
  have hc := Tryz.strings_Compare x.f0 y.f0 ((w.alloc (.cells (rqc x) 27)).alloc (.cells (rqc y) 27))
  rw [show Lib.compareBytes x.f0.data.toList y.f0.data.toList = mv.byPath x y from rfl] at hc
  generalize mv.byPath x y = z at hc ⊢
  go_enter Tryz.func37, Tryz.ntmps37
  go_wp2_with (go_at_call 38; refine hc.mono ?_; rintro e w' ⟨rfl, rfl⟩)
  go_ret
  exact ⟨rfl, 0, #[.cells (rqc x) 27, .cells (rqc y) 27], by rw [alloc_eq_grow, alloc_eq_grow, grow_grow]; rfl⟩
theorem sort_calls (A : Option Addr) (c : Nat) (acc : List Rq) (w : World) (base : Nat) (ok : Nat → Prop) (hR : Kd.R k27 27 w base ok (.slice A acc.length c) acc) (hl : acc.length ≤ 1000000) :
    Calls Tryz.prog 36 #[.slice A acc.length c, .func (.func 37) #[] #[]] w fun e w' => e = .returned (.tuple #[]) ∧ Below base w w' ∧ ∃ d' : Array Rq, d'.size = acc.length ∧ PermIn 0 acc.toArray.size acc.toArray d' ∧ SortedIn (fun x y => decide (mv.byPath x y < 0)) 0 acc.toArray.size d' ∧ Kd.R k27 27 w' base ok (.slice A acc.length c) d'.toList := by
  cases hacc : acc with
  | nil =>
    subst hacc
    refine (Tryz.slices_SortFunc_none A c (.func (.func 37) #[] #[]) w).mono ?_
    rintro e w' ⟨rfl, rfl⟩
    exact ⟨rfl, Below.refl _ _, #[], rfl, ⟨rfl, fun _ _ => rfl, List.Perm.refl _⟩, fun i j _ h1 h2 => absurd h2 (Nat.not_lt_zero _), hR⟩
  | cons x0 l0 =>
    rw [← hacc]
    have hpos : 0 < acc.length := by rw [hacc]; simp
    clear hacc
    have hC := (Kd.R_reads' hR).2.2
    obtain ⟨h0, inner, hown, hreps⟩ := hR
    obtain ⟨hlen, hh⟩ := hown
    rcases hh with ⟨h1, h2⟩ | ⟨g, cap, cur, hv, hb, hcur, hnc, hcm, hsz, htk⟩
    · omega
    · injection hv with hA hn hcap
      subst hA
      subst hcap
      have hg : g < w.heap.size := blk_lt hcur
      have hcell : ∀ (j i : Nat) (x : Rq) (u : Value), acc[j]? = some x → (rql x)[i]? = some u → w.cell? ⟨g, j * 6 + i, none⟩ = some u := by
        intro j i x u hx hu
        obtain ⟨ad, hA, hc⟩ := hC.2.2 hpos
        obtain rfl := Option.some.inj hA
        obtain ⟨cs, _, hK, hcc⟩ := hc j x hx
        obtain rfl := k27_open hK
        have := hcc i u hu
        rw [show (⟨g, 0, none⟩ : Addr).add (j * k27.sz + i) = ⟨g, j * 6 + i, none⟩ from by
          show (⟨g, 0, none⟩ : Addr).add (j * 6 + i) = _
          unfold Addr.add
          split
          · rename_i h; rw [h]
          · simp] at this
        exact this
      have hH : HoldsK rql 6 w g 0 acc.toArray := by
        intro t ht
        have ht2 : t < acc.length * 6 := by simpa using ht
        refine ⟨?_, by rw [Nat.zero_add]; exact blk_frozen hcur t⟩
        rw [get_flatK rql 6 acc.toArray t (by simpa using ht2), Nat.zero_add]
        obtain ⟨x, hx⟩ : ∃ x, acc[t / 6]? = some x := ⟨_, List.getElem?_eq_getElem (by omega)⟩
        have he : acc.toArray[t / 6]! = x := by
          obtain ⟨h3, h4⟩ := List.getElem?_eq_some_iff.1 hx
          rw [getElem!_pos acc.toArray (t / 6) (by simpa using h3)]
          simpa using h4
        rw [he]
        have h6 : t % 6 < (rql x).length := Nat.mod_lt _ (by decide)
        have := hcell (t / 6) (t % 6) x ((rql x)[t % 6]) hx (List.getElem?_eq_getElem h6)
        rw [show t / 6 * 6 + t % 6 = t by omega] at this
        rw [this, show (id ((rql x)[t % 6]!)) = (rql x)[t % 6]! from rfl, getElem!_pos (rql x) (t % 6) h6]
      have hcmp : CmpLays Tryz.prog 37 #[] rql 6 mv.byPath g 0 acc.toArray.size w := fun m os dk _ x y => bypath_calls x y _
      have hs := AnyQ.slices_SortFunc Tryz.laysSort 6 (fun w => by kernel_rfl) (fun w => by kernel_rfl) rql (fun _ => rfl) (fun x v hv => by
        simp only [rql, List.mem_cons, List.not_mem_nil, or_false] at hv
        rcases hv with rfl | rfl | rfl | rfl | rfl | rfl <;> rfl) mv.byPath (Mv.byPath_swo mv) 37 #[] g 0 c acc.toArray w (enters_of Tryz.func37 (by kernel_rfl) rfl) hcmp hH hg (by simp; omega)
      refine hs.mono ?_
      rintro e w' ⟨rfl, d', n, os, hp, hso, rfl⟩
      have hds : d'.size = acc.length := by simpa using hp.1
      refine ⟨rfl, ?_, d', hds, hp, hso, ?_⟩
      · have e1 : sortWorldK rql 6 w g 0 n d' os = grow (putRow id (Sort.ahead w n) g 0 (flatK rql 6 d')) os := rfl
        rw [e1]
        have hbp : Below base w (putRow id (Sort.ahead w n) g 0 (flatK rql 6 d')) := Lib.below_putRow (Below.refl base w) hb
        exact ⟨hbp.os, hbp.tape, hbp.output, by have := hbp.size; rw [size_grow]; omega, fun i hi => by
          have h4 := hbp.block i hi
          show (_ ++ os)[i]? = _
          rw [Array.getElem?_append_left (by have := hbp.size; omega)]
          exact h4⟩
      · have hdl : d'.toList.length = acc.length := by simpa using hds
        have hcap : acc.length * 6 ≤ cur.size := by rw [hsz]; exact Nat.mul_le_mul_right _ hnc
        have hheap : (sortWorldK rql 6 w g 0 n d' os).heap[g]? = some (.cells (putCells id 0 (flatK rql 6 d') cur) 27 (0, 0)) := by
          show ((w.heap.modify g (onCells (putCells id 0 (flatK rql 6 d')))) ++ os)[g]? = _
          rw [Array.getElem?_append_left (by simpa using hg), Array.getElem?_modify, if_pos rfl, hcur]
          rfl
        refine ⟨h0, rcs d'.toList, ⟨by rw [rcs_len, hdl]; rfl, .inr ⟨g, c, _, by rw [hdl], hb, hheap, by rw [hdl]; exact hnc, hcm, by simp [putCells, hsz], ?_⟩⟩, by
          exact rcs_row d'.toList (sortWorldK rql 6 w g 0 n d' os) base (fun k => ok k ∧ some k ≠ (Value.slice (some ⟨g, 0, none⟩) acc.length c).ownBlock)⟩
        rw [hdl]
        refine List.ext_getElem? fun t => ?_
        rw [List.getElem?_take]
        by_cases ht : t < acc.length * 6
        · rw [if_pos (show t < acc.length * k27.sz from ht)]
          obtain ⟨x, hx⟩ : ∃ x, d'.toList[t / 6]? = some x := ⟨_, List.getElem?_eq_getElem (by omega)⟩
          have hj : t / 6 < d'.size := by omega
          have hxe : d'[t / 6]! = x := by
            rw [getElem!_pos d' _ hj]
            have := (List.getElem?_eq_some_iff.1 hx).2
            simpa using this
          have e1 : (rcs d'.toList)[t]? = (rcl x)[t % 6]? := by
            rw [← rcs_at hx, List.getElem?_take, if_pos (Nat.mod_lt _ (by decide)), List.getElem?_drop]
            congr 1; omega
          rw [e1, show (putCells id 0 (flatK rql 6 d') cur).toList[t]? = (putCells id 0 (flatK rql 6 d') cur)[t]? by simp]
          unfold putCells
          rw [Array.getElem?_mapIdx, Array.getElem?_eq_getElem (by omega), Option.map_some, if_pos ⟨Nat.zero_le _, by rw [size_flatK]; omega⟩, Nat.sub_zero, get_flatK rql 6 d' t (by omega), hxe]
          have h6 : t % 6 < (rql x).length := Nat.mod_lt _ (by decide)
          rw [show (id ((rql x)[t % 6]!)) = (rql x)[t % 6]! from rfl, getElem!_pos (rql x) (t % 6) h6, ← List.getElem?_eq_getElem h6]
          rfl
        · rw [if_neg (show ¬ t < acc.length * k27.sz from ht), List.getElem?_eq_none (by rw [rcs_len]; omega)]
end Go.Proofs.YtkidfclnakbgiaaGreatDoor
end

section
namespace Go.Proofs.YtkidfclnakbgiaaGreatDoor
open Go Go.RowKit Go.Sort Go.Maps Go.Proofs Go.Proofs.YtkidfclnakbgiaaGreatDoorW.PrintWords Go.Proofs.YtkidfclnakbgiaaGreatDoorW.PrintLast Go.Proofs.YtkidfclnakbgiaaGreatDoor.K0
set_option linter.unusedVariables false
set_option linter.unusedSimpArgs false
theorem may_size {x : Rq} (h : mv.may x = true) : x.f0.size ≤ maxLen := by
  have h2 : fitsOk x.f0 x.f1.f0 x.f1.f1 x.f1.f2 x.f1.f3 x.f1.f4 = true := h
  unfold fitsOk majorsOf at h2
  by_cases hc : checkOk x.f0 = true
  · have := check_size hc
    unfold maxLen; omega
  · rw [if_neg hc] at h2
    simp at h2
def mlist.T2 : Bool × List (List Nat × List Nat) := (true, [([], []), ([], []), ([0, 1], [0, 1]), ([], []), ([3], [3]), ([2, 4, 2], [2, 4])])
def mlist.B2 : List Nat := [0, 0, 3, 0, 8, 31]
theorem mlist.tab2 : rtab .any (opsOf Tryz.f17 2) = mlist.T2 := by kernel_rfl
theorem mlist.bits2 : waitsOk mlist.T2.2 mlist.B2 = true := by kernel_rfl
/-- No block of a row is a map's. -/
theorem R_notmap {w : World} {base : Nat} {ok : Nat → Prop} {v : Value} {xs : List Rq} {B n : Nat} {b : List UInt8 → Option Rq} (h : Kd.R k27 27 w base ok v xs) (hM : MapAt w B n b) : Kd.R k27 27 w base (fun k => k ≠ B) v xs := by
  obtain ⟨D, ⟨es, clock, hb, _⟩, _⟩ := hM.out
  refine Kd.R_mono (Kd.R_bound h) (fun k hk e => ?_)
  obtain ⟨_, _, _, q, _, cells, hc⟩ := hk
  subst e
  rw [hb] at hc
  cases hc
theorem rqKeyInv {key : Value} {kl : Lit} (h : keyOf Tryz.prog 9 key = some kl) : ∃ x : ByteArray, key = .string x ∧ kl = .string x.data.toList := by
  cases key <;> simp [keyOf, Tryz.underlying9, mapKey] at h
  obtain ⟨_, rfl⟩ := h
  exact ⟨_, rfl, rfl⟩
/-- Requirements that a call hands back, to be read. -/
structure RqBack (w w' : World) (e : Ending) (l : List Rq) : Prop where
  own : ∃ v, e = .returned v ∧ Kd.R k27 27 w' w.heap.size (fun _ => True) v l
  below : Below w.heap.size w w'
theorem RqBack.out {w w' : World} {e : Ending} {l : List Rq} (h : RqBack w w' e l) : ∃ A c, e = .returned (.slice A l.length c) ∧ l.length ≤ c ∧ Kd.C k27 w' A l.length l := by
  obtain ⟨v, he, hR⟩ := h.own
  obtain ⟨A, c, rfl⟩ := Kd.R_slice hR
  obtain ⟨h1, h2, h3⟩ := Kd.R_reads' hR
  exact ⟨A, c, he, by omega, h3⟩
set_option maxRecDepth 100000 in
set_option maxHeartbeats 4000000 in
theorem list_calls (A : Option Addr) (c : Nat) (root : List Rq) (An : Option Addr) (cn : Nat) (xs : List Nd) (w : World) (hG : GW w) (hr : Kd.C k27 w A root.length root) (hn : Kd.C k48 w An xs.length xs) (hU : (Mv.univ root (xs.map ndP)).length ≤ 1000000) :
    Calls Tryz.prog 17 #[.slice A root.length c, .slice An xs.length cn] w fun e w' => RqBack w w' e (mv.list root (xs.map ndP)) := by
  obtain ⟨B, hB⟩ : ∃ B, B = w.heap.size := ⟨_, rfl⟩
  have hmm := @run_makeMap Tryz.prog
  have hb0 : Below w.heap.size w (((w.alloc (.map #[] 0)).alloc (.cells #[.map (some B)] 58)).drew) := below_drew1 (below_alloc (below_alloc (Below.refl _ w) _) _)
  have hM0 : MapAt (((w.alloc (.map #[] 0)).alloc (.cells #[.map (some B)] 58)).drew) B 0 (fun _ => none) := ⟨⟨_, by rw [hB]; exact ((World.ownsMap_made w _ _ _).alloc _).drew, MapIs.none⟩⟩
  have hX0 := heap_alloc_new (w.alloc (.map #[] 0)) (.cells #[.map (some B)] 58)
  rw [show (w.alloc (.map #[] 0)).heap.size = B + 1 by rw [hB]; simp] at hX0
  obtain ⟨all, hall⟩ : ∃ all, all = mv.reached root (xs.map ndP) := ⟨_, rfl⟩
  have hlen : all.length ≤ 1000000 := by
    rw [hall]
    exact Nat.le_trans (nodup_len (mv.reached_nodup _ _) (fun x hx => mv.reach_univ (mv.reached_mem.1 hx))) hU
  have hmay : ∀ x ∈ all, mv.may x = true := fun x hx => by rw [hall] at hx; exact mv.reached_may hx
  have HLIST : Aside0 (mv.list root (xs.map ndP) = mv.listed all) := ⟨by rw [hall]; rfl⟩
  have hreach := fun W (h : Below w.heap.size w W) => reached_calls A c root An cn xs W (hG.below h) (Kd.C_below hr h) (Kd.C_below hn h) hU
  rw [← hall] at hreach
  have HRE := Aside0.mk hreach
  have HMAY := Aside0.mk hmay
  have HG := Aside0.mk hG
  have HBE := Aside0.mk hB
  have HM0 := Aside0.mk hM0
  have HB0 := Aside0.mk hb0
  have HX0 := Aside0.mk (blk_drew hX0)
  clear hreach hmay hG hM0 hb0 hX0 hall hr hn hU
  subst hB
  go_enter Tryz.func17, Tryz.ntmps17
  go_wp2
  refine sX (ds := []) (S := fun w' => w'.cell? ⟨w.heap.size + 1, 0, none⟩ = some (.map (some w.heap.size))) mlist.tab2 mlist.bits2 ((blk_cell HX0.out 0).trans rfl) (fun HT_ HW_ hHeld => ?_)
  generalize ((w.alloc (.map #[] 0)).alloc (.cells #[.map (some w.heap.size)] 58)).drew = w1 at HM0 HB0 HX0 hHeld ⊢
  refine pX HT_ 0 1 11 ?_
  refine pX HT_ 1 3 12 ?_
  refine tX HT_ HW_ hHeld 3 11 14 ?_
  refine pX HT_ 4 27 15 ?_
  refine gX HT_ 2 31 13 Tryz.func15 (HRE.out _ HB0.out) ?_
  rintro e w2 ⟨v, rfl, hR, hb⟩
  obtain ⟨A2, c2, rfl⟩ := Kd.R_slice hR
  have HM2 := Aside0.mk (HM0.out.below hb)
  have HB2 := Aside0.mk (below_step HB0.out hb)
  have HX2 := Aside0.mk (blk_below HX0.out hb)
  have HR2 := Aside0.mk (R_notmap hR (HM0.out.below hb))
  clear hR hb HM0 HB0 HX0 hHeld
  refine ⟨_, rfl, _, nX, (blk_cell HX2.out 0).trans rfl, fun hHeld => ?_⟩
  refine gX HT_ 5 63 16 Tryz.func34 (each_calls w.heap.size A2 c2 all w2 w HG.out HB2.out (Nat.le_refl _) _ HR2.out HM2.out hlen (fun x hx => may_size (HMAY.out x hx))) ?_
  rintro e w3 ⟨rfl, hm, hg⟩
  have HM3 := Aside0.mk hm
  have HX3 := Aside0.mk (blk_grown HX2.out hg (by simp))
  have HB3 := Aside0.mk (HB2.out.grown hg HB2.out.size (fun k hk => by cases hk; exact Nat.le_refl _))
  clear hm hg HM2 HB2 HX2 HR2 hHeld
  refine ⟨_, rfl, _, nX, (blk_cell HX3.out 0).trans rfl, fun hHeld => ?_⟩
  refine eX HT_ ?_
  clear HT_ HW_ hHeld
  obtain ⟨D, hown, hD⟩ := HM3.out.out
  have hlt := hown.lt
  have hxl := blk_lt HX3.out
  have hbx := (blk_cell HX3.out 0).trans (show _ = some (Value.map (some w.heap.size)) from rfl)
  have HD := Aside0.mk hD
  clear hD HM3
  go_wp2_with (at_range; refine wpList_range_own _ rfl _ 56 rfl 9 27 rqKey Tryz.underlying56 rqE w.heap.size _ D rfl hown ?_; intro w4 hrg0 hg0 hs0)
  go_frame
  have HB4 := Aside0.mk (HB3.out.grown hg0 HB3.out.size (fun k hk => by cases hk))
  have hbl : w.heap.size < w3.heap.size := hlt
  have h4s : w3.heap.size < w4.heap.size := by omega
  clear hown hlt hg0 hs0 HX3 HB3 hbx
  generalize w3.heap.size = r at hrg0 hbl h4s hxl ⊢
  have HRG := Aside0.mk hrg0
  have HCV : Aside0 (∀ p c, mv.best all p = some c → c ∈ all ∧ mv.path c = p) := ⟨fun p c h => ⟨(Mv.best_some mv_good HMAY.out h).1, (Mv.best_some mv_good HMAY.out h).2.1⟩⟩
  clear hrg0
  go_loopw [6, 8] (fun v6 _ wr => ∃ (left : Lit → Bool) (cnt : Nat) (acc : List Rq), Aside0 (wr.ranges Tryz.prog 9 rqE w.heap.size r all.length D left cnt) ∧ Aside0 (Kd.R k27 27 wr (r + 1) (fun k => r < k) v6 acc) ∧ Aside0 (mv.RngIs (mv.best all) (fun p => left (.string p)) acc) ∧ Aside0 (Below w.heap.size w wr)) (fun _ _ wr => wr.rangeLeft w.heap.size r)
  case atStart => exact ⟨_, _, [], HRG, ⟨Kd.R_nil _ _ _ _ _⟩, ⟨Mv.rng_start _ (fun p => HD.out.has p)⟩, HB4⟩
  case round =>
    obtain ⟨left, cnt, acc, HR, HO, HI, HB⟩ := hrel
    obtain ⟨A3, c3, rfl⟩ := Kd.R_slice HO.out
    have hal := HI.out.len (all := all) (fun p c h => (HCV.out p c h).1)
    go_wp2_with (at_next; refine wpList_next_ranges _ rfl _ rfl 9 rqKey rqE Value.string (fun x : Rq => .agg (rqc x)) (fun key kl h => by obtain ⟨x, rfl, _⟩ := rqKeyInv h; exact ⟨x, rfl⟩) (fun v y h => by obtain ⟨x, rfl, _⟩ := rqE_inv h; exact ⟨x, rfl⟩) w.heap.size r all.length D left cnt rfl HR.out ?_ ?_)
    · intro hc0 hl0
      have HL := Aside0.mk hl0
      clear hc0 hl0
      have hs := sort_calls A3 c3 acc wr (r + 1) _ HO.out (by omega)
      go_wp2_with (go_at_call 36; refine hs.mono ?_; rintro e w5 ⟨rfl, hb, d', hd, hp, hso, hC⟩; have HS := Aside0.mk (And.intro hd (And.intro hp (And.intro hso hC))); have HB5 := Aside0.mk (HB.out.trans (hb.mono (by omega))); clear hb hd hp hso hC)
      go_ret
      obtain ⟨hd, hp, hso, hC⟩ := HS.out
      have hL := Mv.sorted_listed mv_good HMAY.out HI.out (fun p => HL.out _) hp hso
      rw [HLIST.out, ← hL]
      exact ⟨⟨_, rfl, Kd.R_mono (Kd.R_lower hC (by omega)) (fun _ _ => trivial)⟩, HB5.out⟩
    · intro x c0 kl y yp w5 cnt1 hkx hlx hcy hat hrg1 hlt hg1 hs1 hen
      obtain ⟨x2, hx2, rfl⟩ := rqKeyInv hkx
      obtain rfl : DataW.held c0 = y := by
        have h := rqE_mk c0
        rw [hcy] at h
        exact ((Prod.mk.inj (Option.some.inj h)).1).symm
      have hbest : mv.best all x2.data.toList = some c0 := by
        have hh := has_true_of_atKey hat
        rw [HD.out.has] at hh
        obtain ⟨c1, hc1⟩ := Option.isSome_iff_exists.1 hh
        have h1 := HD.out.val _ c1 (.held c0) hc1
        rw [hat (.held c0)] at h1
        rw [hc1, DataW.held.inj h1]
      have HI' := Aside0.mk (HI.out.step (left' := fun p => left (.string p) && !(Lit.string p).sameKey (.string x2.data.toList)) hbest (HCV.out _ _ hbest).2 hlx (fun q => by
        by_cases e : q = x2.data.toList
        · subst e; simp [Lit.sameKey]
        · rw [decide_eq_false e, sameKey_ne (fun e2 => e (by injection e2))]))
      have HO5 := Aside0.mk (Kd.R_grown HO.out hg1 (fun k hk e => by injection e with e; omega))
      have HB5 := Aside0.mk (HB.out.grown hg1 HB.out.size (fun k hk => by cases hk; omega))
      have HR5 := Aside0.mk hrg1
      have HLT := Aside0.mk hlt
      have hr5 : r + 1 ≤ w5.heap.size := HR5.out.lt
      clear hkx hlx hcy hat hrg1 hlt hg1 hs1 hbest hx2 HO HI
      have hob : ∀ k, some k = (Value.slice A3 acc.length c3).ownBlock → r < k := fun k hk => HO5.out.1 k hk.symm
      have HOB := Aside0.mk hob
      clear hob
      go_wp2_with ((with_reducible refine gate_builtin (b := .append) (xs := #[.tmp 24, .tmp 26]) rfl ?_); at_builtin; refine Kd.R_append k27 (w0 := w5.alloc (.cells (rqc c0) 27)) (r + 1) rfl (.tmp 24) (.tmp 26) 22 27 _ 72 rfl Tryz.underlying22 info27 rfl (by decide) (by decide) (.slice A3 acc.length c3) acc c0 _ (fun k => r < k) (fun _ => False) rfl (by show Value.slice (some ⟨w5.heap.size + 1, 0, none⟩) 1 1 = _; simp) (k27_mkM _ _ _ c0) (fun _ h => h.elim) (fun k hk => by simp at hk; omega) (Kd.R_alloc HO5.out _) (Below.refl _ _) (by simp; omega) (by omega) ?_; intro v6 w6 ho hb hg hat; have HO6 := Aside0.mk ho; have HR6 := Aside0.mk ((HR5.out.alloc (.cells (rqc c0) 27)).kept hg (fun e => by have := HOB.out _ e; omega) (fun e => by have := HOB.out _ e; omega)); have HB6 := Aside0.mk ((below_alloc HB5.out (.cells (rqc c0) 27)).grown hg (below_alloc HB5.out _).size (fun k hk => by have := HOB.out k hk.symm; omega)); clear ho hb hg hat)
      go_roundw
      case rel => exact ⟨_, cnt1, _, HR6, HO6, HI', HB6⟩
      case measure => rw [HR6.out.left_eq, HR.out.left_eq]; exact HLT.out
end Go.Proofs.YtkidfclnakbgiaaGreatDoor
end
