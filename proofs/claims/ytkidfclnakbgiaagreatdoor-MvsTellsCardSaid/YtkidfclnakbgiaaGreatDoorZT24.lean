/- The texts MvReach, MvMap, MvEach in one file, without what these claims do not use (put together by prune2.py). -/
import Derived.Test.YtkidfclnakbgiaaGreatDoorZT23
import Derived.Maps.OwnSet
section
namespace Go.Proofs.YtkidfclnakbgiaaGreatDoor
open Go Go.RowKit Go.Sort Go.Proofs Go.Proofs.YtkidfclnakbgiaaGreatDoorW.PrintWords Go.Proofs.YtkidfclnakbgiaaGreatDoorW.PrintLast Go.Proofs.YtkidfclnakbgiaaGreatDoor.K0
set_option linter.unusedVariables false
set_option linter.unusedSimpArgs false
set_option maxRecDepth 100000 in
theorem reqs_clo (B : Nat) (r : Rq) (x : Nd) (A2 : Option Addr) (n c2 : Nat) (w : World) (h : RqAt w B r) :
    Calls Tryz.prog 56 #[.agg #[.string x.f0.f0, .int .i64 x.f0.f1.f0, .int .i64 x.f0.f1.f1, .int .i64 x.f0.f1.f2, .string x.f0.f1.f3, .string x.f0.f1.f4, .slice A2 n c2], .pointer (some ⟨B, 0, none⟩)] w fun e w' => e = .returned (.bool (decide (x.f0 = r))) ∧ Below w.heap.size w w' := by
  obtain ⟨h0, h1, h2, h3, h4, h5⟩ := RqAt.cells (blk_alloc h (.cells #[.string x.f0.f0, .int .i64 x.f0.f1.f0, .int .i64 x.f0.f1.f1, .int .i64 x.f0.f1.f2, .string x.f0.f1.f3, .string x.f0.f1.f4, .slice A2 n c2] 48))
  clear h
  go_enter Tryz.func56, Tryz.ntmps56
  go_wp2_with (refine vX 7 (.bool (decide (x.f0 = r))) ?_ (hrun := by go_simp; exact rq_run x.f0 r _))
  go_ret
  exact ⟨rfl, by repeat (first | exact Below.refl _ _ | apply below_alloc | apply pw_below_drewN | apply below_drew1)⟩
theorem idx_reqs (r : Rq) : ∀ (xs : List Nd) (k : Nat), (idxFrom (fun n : Nd => decide (n.f0 = r)) k xs = -1 ∧ Mv.reqsOf (xs.map ndP) r = []) ∨ ∃ (i : Nat) (x : Nd), xs[i]? = some x ∧ idxFrom (fun n : Nd => decide (n.f0 = r)) k xs = ((k + i : Nat) : Int) ∧ Mv.reqsOf (xs.map ndP) r = x.f1
  | [], k => Or.inl ⟨rfl, rfl⟩
  | x :: xs, k => by
    unfold idxFrom
    rw [List.map_cons]
    unfold Mv.reqsOf
    by_cases h : x.f0 = r
    · exact Or.inr ⟨0, x, rfl, by simp [h], by rw [if_pos (show (ndP x).1 = r from h)]; rfl⟩
    · rw [if_neg (by simpa using h), if_neg (show ¬ (ndP x).1 = r from h)]
      rcases idx_reqs r xs (k + 1) with h1 | ⟨i, y, h1, h2, h3⟩
      · exact Or.inl h1
      · exact Or.inr ⟨i + 1, y, by simpa using h1, by rw [h2]; congr 1; omega, h3⟩
set_option maxRecDepth 100000 in
set_option maxHeartbeats 1000000 in
theorem requires_calls (w0 : World) (W : Nat) (An : Option Addr) (cn : Nat) (xs : List Nd) (hn : Kd.C k48 w0 An xs.length xs) (va : Value) (all : List Rq) (w : World) (hI : MvIs w0 W (.slice An xs.length cn) va all w) (r : Rq) :
    Calls Tryz.prog 31 #[.pointer (some ⟨W, 0, none⟩), .agg (rqc r)] w fun e w' => ∃ A c, e = .returned (.slice A (Mv.reqsOf (xs.map ndP) r).length c) ∧ Kd.C k27 w0 A (Mv.reqsOf (xs.map ndP) r).length (Mv.reqsOf (xs.map ndP) r) ∧ Below w.heap.size w w' := by
  have hI1 := hI.step (below_alloc (Below.refl _ _) (.cells (rqc r) 27))
  have hR1 : RqAt (w.alloc (.cells (rqc r) 27)) w.heap.size r := heap_alloc_new w _
  have hcall := IndexFunc_Node An cn xs (fun n => decide (n.f0 = r)) 56 #[.pointer (some ⟨w.heap.size, 0, none⟩)] (enters_of Tryz.func56 (by kernel_rfl) rfl) (w.alloc (.cells (rqc r) 27)) (Kd.C_below hn hI1.below) (fun j x hx W' hb cs hK => by
    obtain ⟨A6, c6, rfl, _, _⟩ := k48_open hK
    exact reqs_clo w.heap.size r x A6 x.f1.length c6 W' (blk_below hR1 hb))
  have hcW := blk_cell hI1.blk 1
  replace hcW : _ = some (Value.slice An xs.length cn) := hcW
  have hmf : ∀ (fn : Fn) (first cap : Array Value) (w : World), (Instr.makeFunc fn first cap).run Tryz.prog w = .ok (.func fn first cap) w := fun _ _ _ _ => rfl
  have HI1 := Aside0.mk hI1
  have HN := Aside0.mk hn
  rcases idx_reqs r xs 0 with ⟨h1, h2⟩ | ⟨i, x, hx, h1, h2⟩
  · rw [h1] at hcall
    rw [h2]
    clear h1 h2 hI hI1 hR1 hn
    generalize xs.length = n at hcall hcW HI1 ⊢
    go_enter Tryz.func31, Tryz.ntmps31
    go_wp2_with (go_at_call 55; refine hcall.mono ?_; rintro e w' ⟨rfl, hb⟩; have HB := Aside0.mk (below_step (below_alloc (Below.refl _ _) _) hb); clear hb)
    go_ret
    exact ⟨none, 0, rfl, Kd.C_nil _ _, HB.out⟩
  · rw [Nat.zero_add] at h1
    rw [h1] at hcall
    rw [h2]
    have hlt := (List.getElem?_eq_some_iff.1 hx).1
    obtain ⟨ad, A6, c6, hA, g0, g1, g2, g3, g4, g5, g6, gl, gC⟩ := at_T48 hn (i : Int) (by omega) (by omega)
    have hxe : rd_T48 xs (i : Int) = x := by
      unfold rd_T48
      rw [Int.toNat_natCast, List.getD_eq_getElem?_getD, hx]; rfl
    rw [hxe] at g6 gC
    rw [Int.toNat_natCast] at g6
    subst hA
    have HGC := Aside0.mk gC
    have G6 := Aside0.mk g6
    clear h1 h2 hI hI1 hR1 hn g0 g1 g2 g3 g4 g5 g6 gl gC hxe
    have hbig := HN.out.2.1
    obtain ⟨n, hn⟩ : ∃ n, n = xs.length := ⟨_, rfl⟩
    rw [← hn] at hcall hcW HI1 hlt hbig
    clear hn hx HN
    have hltz : (i : Int) < (n : Int) := by omega
    go_enter Tryz.func31, Tryz.ntmps31
    go_wp2_with (go_at_call 55; refine hcall.mono ?_; rintro e w' ⟨rfl, hb⟩; have HB := Aside0.mk (below_step (below_alloc (Below.refl _ _) _) hb); have hcW2 := (hb.cell (World.block_lt_of_cell? _ _ hcW)).trans hcW; have g6' := pw_cell_below (below_step HI1.out.below hb) G6.out; clear hb)
    go_ret
    exact ⟨A6, c6, rfl, HGC.out, HB.out⟩
set_option maxRecDepth 100000 in
set_option maxHeartbeats 2000000 in
theorem reached_calls (A : Option Addr) (c : Nat) (root : List Rq) (An : Option Addr) (cn : Nat) (xs : List Nd) (w : World) (hG : GW w) (hr : Kd.C k27 w A root.length root) (hn : Kd.C k48 w An xs.length xs) (hU : (Mv.univ root (xs.map ndP)).length ≤ 1000000) :
    Calls Tryz.prog 15 #[.slice A root.length c, .slice An xs.length cn] w fun e w' => ∃ v, e = .returned v ∧ Kd.R k27 27 w' w.heap.size (fun _ => True) v (mv.reached root (xs.map ndP)) ∧ Below w.heap.size w w' := by
  obtain ⟨W, hW⟩ : ∃ W, W = w.heap.size := ⟨_, rfl⟩
  have hI : MvIs w W (.slice An xs.length cn) (.slice none 0 0) [] (w.alloc (.cells #[.slice none 0 0, .slice An xs.length cn] 51)) := by
    subst hW
    exact ⟨below_alloc (Below.refl _ _) _, Nat.le_refl _, heap_alloc_new w _, Kd.R_nil _ _ _ _ _⟩
  have hS := Mv.Inv.start mv root (xs.map ndP)
  have hm := more_calls w hG W (.slice An xs.length cn) A c root hr _ _ _ hI (Nat.le_trans hS.len hU)
  obtain ⟨U, hUe⟩ : ∃ U, U = (Mv.univ root (xs.map ndP)).length := ⟨_, rfl⟩
  have HE : Aside0 (mv.reachL (xs.map ndP) (U + 1) 0 (mv.more [] root) = mv.reached root (xs.map ndP)) := ⟨by rw [hUe]; rfl⟩
  have HS := Aside0.mk hS
  have HG := Aside0.mk hG
  have HN := Aside0.mk hn
  have HLE : Aside0 (∀ i all, mv.Inv root (xs.map ndP) i all → all.length ≤ U) := ⟨fun i all h => by rw [hUe]; exact h.len⟩
  rw [← hUe] at hU
  subst hW
  clear hS hI hr hUe hn hG
  go_enter Tryz.func15, Tryz.ntmps15
  go_wp2_with (go_at_call 30; refine hm.mono ?_; rintro e w1 ⟨rfl, va1, h1⟩; have H1 := Aside0.mk h1; clear h1)
  clear hm
  go_loopg [6] (U + 1) (fun gg s6 wr => ∃ (i : Nat) (va : Value) (all : List Rq), s6 = .int .i64 i ∧ i ≤ all.length ∧ U + 1 ≤ gg + i ∧ Aside0 (mv.reachL (xs.map ndP) gg i all = mv.reached root (xs.map ndP)) ∧ Aside0 (mv.Inv root (xs.map ndP) i all) ∧ Aside0 (MvIs w w.heap.size (.slice An xs.length cn) va all wr))
  case atStart => exact ⟨0, _, _, rfl, Nat.zero_le _, Nat.le_refl _, HE, HS, H1⟩
  case round =>
    obtain ⟨i, va, all, rfl, hi, hg, HR, HV, HM⟩ := hrel
    obtain ⟨A2, c2, rfl⟩ := Kd.R_slice HM.out.own
    have hlen := HLE.out i all HV.out
    have hc0 := blk_cell HM.out.blk 0
    replace hc0 : _ = some (Value.slice A2 all.length c2) := hc0
    by_cases hlt : i < all.length
    · obtain ⟨x, hx⟩ : ∃ x, all[i]? = some x := ⟨_, List.getElem?_eq_getElem hlt⟩
      have hxe : rd_T27 all (i : Int) = x := by
        unfold rd_T27
        rw [Int.toNat_natCast, List.getD_eq_getElem?_getD, hx]; rfl
      obtain ⟨ad, hA, h0, h1, h2, h3, h4, h5⟩ := at_T27 (Kd.R_reads' HM.out.own).2.2 (i : Int) (by omega) (by omega)
      rw [hxe] at h0 h1 h2 h3 h4 h5
      rw [Int.toNat_natCast] at h0 h1 h2 h3 h4 h5
      subst hA
      obtain ⟨f, rfl⟩ : ∃ f, gk = f + 1 := ⟨gk - 1, by omega⟩
      have HR' : Aside0 (mv.reachL (xs.map ndP) f (i + 1) (mv.more all (Mv.reqsOf (xs.map ndP) x)) = mv.reached root (xs.map ndP)) := ⟨by rw [← HR.out, mv.reachL_step hx]⟩
      have HV' := Aside0.mk (HV.out.next hx)
      have hlen2 := HLE.out _ _ HV'.out
      have hpre : all.length ≤ (mv.more all (Mv.reqsOf (xs.map ndP) x)).length := by
        obtain ⟨t, ht⟩ := mv.more_prefix (Mv.reqsOf (xs.map ndP) x) all
        rw [ht, List.length_append]; omega
      have hreq := requires_calls w w.heap.size An cn xs HN.out _ all wr HM.out x
      have hmore := fun A3 c3 va' h W' h' => more_calls w HG.out w.heap.size (.slice An xs.length cn) A3 c3 (Mv.reqsOf (xs.map ndP) x) h va' all W' h' (Nat.le_trans hlen2 hU)
      have HMO := Aside0.mk hmore
      have HP := Aside0.mk hpre
      obtain ⟨m, hm⟩ : ∃ m, m = all.length := ⟨_, rfl⟩
      rw [← hm] at hc0 hlt hlen hi
      have HMM := Aside0.mk hm
      clear hmore hx hxe hpre hlen2 HR HV hm
      have hltz : (i : Int) < (m : Int) := by omega
      go_wp2_with (first | (go_at_call 31; refine hreq.mono ?_; rintro e w2 ⟨A3, c3, rfl, hC, hb⟩; have HC := Aside0.mk hC; have HM2 := Aside0.mk (HM.out.step hb); clear hC hb) | (go_at_call 30; refine (HMO.out A3 c3 _ HC.out _ HM2.out).mono ?_; rintro e w3 ⟨rfl, va3, h3⟩; have H3 := Aside0.mk h3; clear h3))
      go_roundg f
      case measure => omega
      case rel => exact ⟨i + 1, _, _, by go_num, by have := HP.out; have := HMM.out; omega, by omega, HR', HV', H3⟩
    · have HRE : Aside0 (mv.reached root (xs.map ndP) = all) := ⟨by rw [← HR.out]; exact mv.reachL_stop (by omega)⟩
      have HOWN := Aside0.mk (Kd.R_mono (Kd.R_lower HM.out.own (Nat.le_succ _)) (fun _ _ => trivial) : Kd.R k27 27 wr w.heap.size (fun _ => True) (.slice A2 all.length c2) all)
      obtain ⟨m, hm⟩ : ∃ m, m = all.length := ⟨_, rfl⟩
      rw [← hm] at hc0 hlt hlen hi HOWN
      clear HR HV hm
      have hltz : ¬ (i : Int) < (m : Int) := by omega
      go_wp2
      go_ret
      exact ⟨_, rfl, by rw [HRE.out]; exact HOWN.out, HM.out.below⟩
end Go.Proofs.YtkidfclnakbgiaaGreatDoor
end

section
namespace Go.Proofs.YtkidfclnakbgiaaGreatDoor
open Go Go.RowKit Go.Sort Go.Maps Go.Proofs Go.Proofs.YtkidfclnakbgiaaGreatDoorW.PrintWords Go.Proofs.YtkidfclnakbgiaaGreatDoorW.PrintLast Go.Proofs.YtkidfclnakbgiaaGreatDoor.K0
set_option linter.unusedVariables false
set_option linter.unusedSimpArgs false
/-- How an element reads. -/
def rqE : Value → Option (DataW Rq × List MemPlace)
  | .agg ⟨[.string p, .int .i64 a, .int .i64 b, .int .i64 c, .string q, .string s]⟩ => some (.held ⟨p, ⟨a, b, c, q, s⟩⟩, [])
  | _ => none
theorem rqE_mk (x : Rq) : rqE (.agg (rqc x)) = some (.held x, []) := rfl
theorem rqE_inv {v : Value} {y : DataW Rq × List MemPlace} (h : rqE v = some y) : ∃ x : Rq, v = .agg (rqc x) ∧ y = (.held x, []) := by
  unfold rqE at h
  split at h
  · rename_i p a b c q s
    exact ⟨⟨p, ⟨a, b, c, q, s⟩⟩, rfl, (Option.some.inj h).symm⟩
  · cases h
theorem rqKey : Keyed Tryz.prog 9 := string_keyed Tryz.underlying9
theorem rqZero (w : World) : (zeroValue 27).run Tryz.prog w = .ok (.agg (rqc z27)) w := by kernel_rfl
/-- What a map holds: of each path the greatest one. -/
structure MapIs (D : DataW Rq) (b : List UInt8 → Option Rq) : Prop where
  map : IsMap D
  has : ∀ p, Maps.has D (.string p) = (b p).isSome
  val : ∀ p x z, b p = some x → D.atKey (.string p) z = .held x
theorem MapIs.none : MapIs (.map []) (fun _ => Option.none) := ⟨isMap_empty, fun _ => rfl, fun _ _ _ h => by cases h⟩
theorem MapIs.put {D : DataW Rq} {b : List UInt8 → Option Rq} (h : MapIs D b) (p : List UInt8) (x : Rq) : MapIs (D.put (.string p) (.held x)) (fun q => if p = q then some x else b q) where
  map := h.map.put _ _
  has q := by
    by_cases e : p = q
    · subst e
      rw [if_pos rfl, has_put_same h.map (show WideAt.IsKeyLit (.string p) from trivial)]; rfl
    · rw [if_neg e, has_put_other (fun e2 => e (by injection e2 with e2; exact e2.symm))]
      exact h.has q
  val q y z hq := by
    by_cases e : p = q
    · subst e
      rw [if_pos rfl] at hq
      rw [atKey_put_same h.map (show WideAt.IsKeyLit (.string p) from trivial), Option.some.inj hq]
    · rw [if_neg e] at hq
      rw [atKey_put_other (fun e2 => e (by injection e2 with e2; exact e2.symm))]
      exact h.val q y z hq
theorem cmp_calls (x y : Rq) (w : World) (hG : GW w) : Calls Tryz.prog 45 #[.agg #[.int .i64 x.f1.f0, .int .i64 x.f1.f1, .int .i64 x.f1.f2, .string x.f1.f3, .string x.f1.f4], .agg #[.int .i64 y.f1.f0, .int .i64 y.f1.f1, .int .i64 y.f1.f2, .string y.f1.f3, .string y.f1.f4]] w fun e w' => e = .returned (.int .i64 (mv.cmp x y)) ∧ Below w.heap.size w w' :=
  compare_calls x.f1.f0 x.f1.f1 x.f1.f2 x.f1.f3 x.f1.f4 y.f1.f0 y.f1.f1 y.f1.f2 y.f1.f3 y.f1.f4 w hG
/-- A world in which block B holds the map. -/
structure MapAt (w : World) (B n : Nat) (b : List UInt8 → Option Rq) : Prop where
  out : ∃ D, w.ownsMap Tryz.prog 9 rqE B n D ∧ MapIs D b
theorem MapAt.below {w w' : World} {B n : Nat} {b : List UInt8 → Option Rq} (h : MapAt w B n b) (hb : Below w.heap.size w w') : MapAt w' B n b := by
  obtain ⟨D, h1, h2⟩ := h.out
  exact ⟨D, h1.kept (grown_of_below hb none) (by simp), h2⟩
set_option maxRecDepth 100000 in
theorem MapAt.look {w : World} {B n : Nat} {b : List UInt8 → Option Rq} (h : MapAt w B n b) (s : ByteArray) (hs : s.size ≤ maxLen) : ∃ v : Rq, (Instr.lookup 56 (.map (some B)) (.string s) true).run Tryz.prog w = .ok (.tuple #[.agg (rqc v), .bool (b s.data.toList).isSome]) w ∧ ∀ x, b s.data.toList = some x → v = x := by
  obtain ⟨D, h1, h2⟩ := h.out
  obtain ⟨v, ps, hrun, hv⟩ := h1.look_ok rqKey Tryz.underlying56 (rqZero w) (rqE_mk _) (Go.WideMaps.keyOf_string_mk Tryz.underlying9 hs)
  obtain ⟨y, rfl, hy⟩ := rqE_inv hv
  refine ⟨y, by rw [← h2.has]; exact hrun, fun x hx => ?_⟩
  have := h2.val _ x (.held z27) hx
  rw [this] at hy
  exact (DataW.held.inj (Prod.mk.inj hy).1).symm
set_option maxRecDepth 100000 in
set_option maxHeartbeats 2000000 in
theorem take_calls (B n : Nat) (b : List UInt8 → Option Rq) (r : Rq) (w : World) (hG : GW w) (hM : MapAt w B n b) (hn : n ≤ 1000000) (hs : r.f0.size ≤ maxLen) :
    Calls Tryz.prog 35 #[.agg #[.map (some B)], .agg (rqc r)] w fun e w' => e = .returned (.tuple #[]) ∧ MapAt w' B (n + 1) (fun q => mv.takeP q (b q) r) ∧ w.grownBy w' (some B) := by
  have hb1 := below_alloc (below_alloc (Below.refl _ w) (.cells #[.map (some B)] 58)) (.cells (rqc r) 27)
  obtain ⟨v, hlook, hv⟩ := (hM.below hb1).look r.f0 hs
  have hkey : keyOf Tryz.prog 9 (.string r.f0) = some (.string (mv.path r)) := Go.WideMaps.keyOf_string_mk Tryz.underlying9 hs
  obtain ⟨D, h1, h2⟩ := hM.out
  have hnm : n < maxLen := by unfold maxLen; omega
  have HO := Aside0.mk h1
  have HKEY := Aside0.mk hkey
  have HNM := Aside0.mk hnm
  have HB1 := Aside0.mk hb1
  have HP := fun (w' : World) (h : w'.ownsMap Tryz.prog 9 rqE B (n + 1) (D.put (.string (mv.path r)) (.held r))) (hq : mv.takeP (mv.path r) (b (mv.path r)) r = some r) => (⟨⟨_, h, by
    have h3 := h2.put (mv.path r) r
    have e : (fun q => if mv.path r = q then some r else b q) = fun q => mv.takeP q (b q) r := by
      funext q
      by_cases e : mv.path r = q
      · subst e; rw [if_pos rfl, hq]
      · rw [if_neg e]; unfold Mv.takeP; rw [if_neg e]
    rwa [e] at h3⟩⟩ : MapAt w' B (n + 1) (fun q => mv.takeP q (b q) r))
  have HP := Aside0.mk HP
  have HM := Aside0.mk hM
  have HG := Aside0.mk hG
  clear h1 h2 hM hb1 hkey hnm hs hn hG
  cases hb : b (mv.path r) with
  | none =>
    rw [show b r.f0.data.toList = none from hb] at hlook
    have HP' := Aside0.mk (fun w' h => HP.out w' h (by rw [hb]; unfold Mv.takeP; rw [if_pos rfl]))
    clear hb hv HP
    simp only [Option.isSome_none] at hlook
    go_enter Tryz.func35, Tryz.ntmps35
    go_wp2_with (at_mapUpdate; refine wpList_mapUpdate_own _ rfl _ _ _ 56 rfl 9 27 rqKey Tryz.underlying56 rqE B n D rfl (((HO.out.alloc _).alloc _).alloc _) HNM.out _ _ _ rfl rfl HKEY.out (.held r) [] (rqE_mk r) ?_; intro w1 hown1 hgrow1; have HW1 := Aside0.mk hown1; have HGR := Aside0.mk hgrow1; clear hown1 hgrow1)
    go_end0
    exact ⟨rfl, HP'.out _ HW1.out, ((grown_of_below (below_alloc HB1.out _) _).trans HGR.out)⟩
  | some x =>
    obtain rfl := hv x hb
    rw [show b r.f0.data.toList = some v from hb] at hlook
    simp only [Option.isSome_some] at hlook
    have hcmp := fun W (h : Below w.heap.size w W) => cmp_calls r v W (HG.out.below h)
    have hbx := heap_alloc_new (w.alloc (.cells #[.map (some B)] 58)) (.cells (rqc r) 27)
    rw [show (w.alloc (.cells #[.map (some B)] 58)).heap.size = w.heap.size + 1 by simp] at hbx
    have HBX := Aside0.mk (blk_alloc hbx (.cells (rqc v) 27))
    have HMX := Aside0.mk (blk_alloc (blk_alloc (heap_alloc_new w (.cells #[.map (some B)] 58)) (.cells (rqc r) 27)) (.cells (rqc v) 27))
    clear hbx
    have HW3 := Aside0.mk (below_alloc HB1.out (.cells (rqc v) 27))
    by_cases hc : mv.cmp r v > 0
    · have HP' := Aside0.mk (fun w' h => HP.out w' h (by rw [hb]; unfold Mv.takeP; rw [if_pos rfl]; simp only [if_pos hc]))
      have hcd : decide (mv.cmp r v > 0) = true := decide_eq_true hc
      generalize mv.cmp r v = z at hcmp hcd hc
      have HC := Aside0.mk hcmp
      clear hb hv HP hcmp hc
      go_enter Tryz.func35, Tryz.ntmps35
      go_wp2_with (first | (go_at_call 45; (with_reducible refine (HC.out _ HW3.out).mono ?_); rintro e w2 ⟨rfl, hb⟩; have HO2 := Aside0.mk (World.ownsMap.kept (((HO.out.alloc (.cells #[.map (some B)] 58)).alloc (.cells (rqc r) 27)).alloc (.cells (rqc v) 27)) (grown_of_below hb none) (by simp)); have HB2 := Aside0.mk (below_step HW3.out hb); obtain ⟨h0, h1, h2, h3, h4, h5⟩ := RqAt.cells (blk_below HBX.out hb); have hm0 := (blk_cell (blk_below HMX.out hb) 0).trans (show _ = some (Value.map (some B)) from rfl); clear hb) | (at_mapUpdate; refine wpList_mapUpdate_own _ rfl _ _ _ 56 rfl 9 27 rqKey Tryz.underlying56 rqE B n D rfl HO2.out HNM.out _ _ _ rfl rfl HKEY.out (.held r) [] (rqE_mk r) ?_; intro w1 hown1 hgrow1; have HW1 := Aside0.mk hown1; have HGR := Aside0.mk hgrow1; clear hown1 hgrow1))
      go_end0
      exact ⟨rfl, HP'.out _ HW1.out, ((grown_of_below HB2.out _).trans HGR.out)⟩
    · have HP' : Aside0 (∀ w', MapAt w' B n b → MapAt w' B (n + 1) (fun q => mv.takeP q (b q) r)) := ⟨fun w' h => by
        obtain ⟨D, h1, h2⟩ := h.out
        have e : (fun q => mv.takeP q (b q) r) = b := by
          funext q
          unfold Mv.takeP
          by_cases e : mv.path r = q
          · subst e; rw [if_pos rfl, hb]; simp only [if_neg hc]
          · rw [if_neg e]
        exact ⟨⟨D, h1.mono (Nat.le_succ _), by rw [e]; exact h2⟩⟩⟩
      have hcd : decide (mv.cmp r v > 0) = false := decide_eq_false hc
      generalize mv.cmp r v = z at hcmp hcd hc
      have HC := Aside0.mk hcmp
      clear hb hv HP hcmp hc
      go_enter Tryz.func35, Tryz.ntmps35
      go_wp2_with (go_at_call 45; (with_reducible refine (HC.out _ HW3.out).mono ?_); rintro e w2 ⟨rfl, hb⟩; have HB2 := Aside0.mk (below_step HW3.out hb); clear hb)
      go_end0
      exact ⟨rfl, HP'.out _ (HM.out.below HB2.out), grown_of_below HB2.out _⟩
end Go.Proofs.YtkidfclnakbgiaaGreatDoor
end

section
namespace Go.Proofs.YtkidfclnakbgiaaGreatDoor
open Go Go.RowKit Go.Sort Go.Maps Go.Proofs Go.Proofs.YtkidfclnakbgiaaGreatDoorW.PrintWords Go.Proofs.YtkidfclnakbgiaaGreatDoorW.PrintLast Go.Proofs.YtkidfclnakbgiaaGreatDoor.K0
set_option linter.unusedVariables false
set_option linter.unusedSimpArgs false
theorem grownBy_trans {a b c : World} {B : Nat} (h : a.grownBy b (some B)) (k : b.grownBy c (some B)) : a.grownBy c (some B) := World.grownBy.trans h k
set_option maxRecDepth 100000 in
set_option maxHeartbeats 2000000 in
theorem each_calls (B : Nat) (A : Option Addr) (c : Nat) (xs : List Rq) (w : World) (w0 : World) (hG : GW w0) (hb0 : Below w0.heap.size w0 w) (hB : w0.heap.size ≤ B) (base : Nat) (hR : Kd.R k27 27 w base (fun k => k ≠ B) (.slice A xs.length c) xs) (hM : MapAt w B 0 (fun _ => none)) (hl : xs.length ≤ 1000000) (hs : ∀ x ∈ xs, x.f0.size ≤ maxLen) :
    Calls Tryz.prog 34 #[.slice A xs.length c, .func (.func 35) #[.agg #[.map (some B)]] #[]] w fun e w' => e = .returned (.tuple #[]) ∧ MapAt w' B xs.length (mv.best xs) ∧ w.grownBy w' (some B) := by
  have hbest : ∀ k x, xs[k]? = some x → ∀ q, mv.takeP q (mv.best (xs.take k) q) x = mv.best (xs.take (k + 1)) q := fun k x hx q => by
    rw [List.take_add_one, hx]; exact (mv.best_snoc _ _ _).symm
  have hend : mv.best xs = mv.best (xs.take xs.length) := by rw [List.take_length]
  have HEND := Aside0.mk hend
  obtain ⟨n, hn⟩ : ∃ n, n = xs.length := ⟨_, rfl⟩
  rw [← hn] at hR hl HEND ⊢
  have HN := Aside0.mk hn
  have HR := Aside0.mk hR
  have HG := Aside0.mk (fun (wr : World) (h : w.grownBy wr (some B)) => hG.below (hb0.grown h hb0.size (fun k hk => by cases hk; exact hB)))
  have HS := Aside0.mk hs
  have HBE := Aside0.mk hbest
  have HM0 : Aside0 (MapAt w B 0 (mv.best (xs.take 0))) := ⟨hM⟩
  clear hn hR hG hB hb0 hM hs hbest hend
  go_enter Tryz.func34, Tryz.ntmps34
  go_wp2
  go_loopg [5, 8] n (fun gg _ s8 wr => ∃ kk : Nat, kk ≤ n ∧ n - kk ≤ gg ∧ s8 = .int .i64 kk ∧ Aside0 (MapAt wr B kk (mv.best (xs.take kk))) ∧ Aside0 (w.grownBy wr (some B)))
  case atStart => exact ⟨0, Nat.zero_le _, by omega, rfl, HM0, ⟨(grown_of_below (Below.refl _ w) _)⟩⟩
  case round =>
    obtain ⟨kk, hkk, hg, rfl, HM, HGR⟩ := hrel
    by_cases hlt : kk < n
    · have hltz : (kk : Int) < (n : Int) := by omega
      have HC := (Kd.R_reads' (Kd.R_grown HR.out HGR.out (fun k hk e => hk (by injection e)))).2.2
      obtain ⟨x, hx⟩ : ∃ x, xs[kk]? = some x := ⟨_, List.getElem?_eq_getElem (by have := HN.out; omega)⟩
      have hxe : rd_T27 xs (kk : Int) = x := by
        unfold rd_T27
        rw [Int.toNat_natCast, List.getD_eq_getElem?_getD, hx]; rfl
      obtain ⟨ad, hA, h0, h1, h2, h3, h4, h5⟩ := at_T27 HC (kk : Int) (by omega) (by have := HN.out; omega)
      rw [hxe] at h0 h1 h2 h3 h4 h5
      rw [Int.toNat_natCast] at h0 h1 h2 h3 h4 h5
      subst hA
      have hcall := take_calls B kk (mv.best (xs.take kk)) x (wr.alloc (.cells (rqc x) 27)) ((HG.out _ HGR.out).below (below_alloc (Below.refl _ _) _)) (HM.out.below (below_alloc (Below.refl _ _) _)) (by omega) (HS.out x (List.mem_of_getElem? hx))
      have HBK : Aside0 ((fun q => mv.takeP q (mv.best (xs.take kk) q) x) = mv.best (xs.take (kk + 1))) := ⟨by funext q; exact HBE.out kk x hx q⟩
      rw [HBK.out] at hcall
      clear HC hx hxe
      go_wp2_with (go_at_call 35; refine hcall.mono ?_; rintro e w2 ⟨rfl, hm2, hg2⟩; have HM2 := Aside0.mk hm2; have HG2 := Aside0.mk (grownBy_trans HGR.out (grownBy_trans (grown_of_below (below_alloc (Below.refl _ wr) (.cells (rqc x) 27)) _) hg2)); clear hm2 hg2)
      go_roundg (n - (kk + 1))
      case measure => omega
      case rel => exact ⟨kk + 1, by omega, by omega, by go_num, HM2, HG2⟩
    · have hltz : ¬ (kk : Int) < (n : Int) := by omega
      have : kk = n := by omega
      subst this
      go_wp2
      go_end0
      exact ⟨rfl, by rw [HEND.out]; exact HM.out, HGR.out⟩
end Go.Proofs.YtkidfclnakbgiaaGreatDoor
end
