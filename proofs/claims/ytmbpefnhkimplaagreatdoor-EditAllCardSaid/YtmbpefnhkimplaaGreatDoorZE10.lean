/- The texts SplitSeq, Path, Ver in one file, without what these claims do not use (put together by prune2.py). -/
import Derived.Test.YtmbpefnhkimplaaGreatDoorZE3
import Derived.Test.YtmbpefnhkimplaaGreatDoorZE7
import Derived.Shelf.Abstract
import Derived.Shelf.RegionOpen
import Derived.WalkKit
import Derived.OwnWalkIn
import Derived.TacticsInMore
import Derived.LoopNIn
import Derived.LoopIn
import Derived.Outline
import Derived.Lib.Hide
import Derived.Test.YtmbpefnhkimplaaGreatDoorZE9
section
namespace Go.Proofs.YtmbpefnhkimplaaGreatDoor
open Go Go.RowKit Go.Shelf Go.Proofs.YtmbpefnhkimplaaGreatDoorW.PrintWords
attribute [local go_sem] Oper.semAt_some
set_option linter.unusedVariables false
/-- One variable in memory: a block of one cell. -/
def Box (W : World) (b : Nat) (t : TypeId) (v : Value) : Prop := W.heap[b]? = some (.cells #[v] t (0, 0))
theorem Box.cell {W : World} {b : Nat} {t : TypeId} {v : Value} (h : Box W b t v) : W.cell? ⟨b, 0, none⟩ = some v := by
  unfold Box at h
  simp [World.cell?, h]
theorem Box.frozen {W : World} {b : Nat} {t : TypeId} {v : Value} (h : Box W b t v) : W.frozen? ⟨b, 0, none⟩ = false := by
  unfold Box at h
  simp [World.frozen?, h]
theorem Box.new (W : World) (t : TypeId) (v : Value) : Box (W.alloc (.cells #[v] t)) W.heap.size t v := by
  show (W.heap.push _)[W.heap.size]? = _
  simp
theorem Box.new' (W : World) (t : TypeId) (v : Value) (n : Nat) (hn : n = W.heap.size) : Box (W.alloc (.cells #[v] t)) n t v := hn ▸ Box.new W t v
theorem Box.lt {W : World} {b : Nat} {t : TypeId} {v : Value} (h : Box W b t v) : b < W.heap.size := (Array.getElem?_eq_some_iff.1 h).1
theorem Box.alloc {W : World} {b : Nat} {t : TypeId} {v : Value} (h : Box W b t v) (o : Obj) : Box (W.alloc o) b t v := (Below.heap_alloc W o b h.lt).trans h
theorem Box.set {W : World} {b : Nat} {t : TypeId} {v : Value} (h : Box W b t v) (u : Value) : Box (W.setCell ⟨b, 0, none⟩ u) b t u := by
  unfold Box at *
  simp [World.setCell, Array.getElem?_modify, h]
theorem Box.far {W : World} {b : Nat} {t : TypeId} {v : Value} (h : Box W b t v) {p : Addr} (hp : b ≠ p.block) (u : Value) : Box (W.setCell p u) b t v := (Below.heap_setCell W p u b hp).trans h
theorem Box.same {W W' : World} {b : Nat} {t : TypeId} {v : Value} (h : Box W b t v) (hs : W'.heap[b]? = W.heap[b]?) : Box W' b t v := hs.trans h
theorem Box.moves {W W' : World} {b : Nat} {t : TypeId} {v : Value} {p : Nat → Prop} (h : Box W b t v) (hm : Moves p W W') (hp : ¬ p b) : Box W' b t v := (hm.block b h.lt hp).trans h
theorem Box.putObj {W : World} {b D : Nat} {t : TypeId} {v : Value} {o : Obj} (h : Box W b t v) (hD : b ≠ D) : Box (W.putObj D o) b t v := (World.putObj_heap_other hD).trans h
/-- The size of the text in a variable (a loop's measure). -/
def textLeft (W : World) (b : Nat) : Nat := match W.cell? ⟨b, 0, none⟩ with | some (.string s) => s.size | _ => 0
theorem Box.left {W : World} {b : Nat} {t : TypeId} {s : ByteArray} (h : Box W b t (.string s)) : textLeft W b = s.size := by
  unfold textLeft; rw [h.cell]
theorem Lib.index_cases_one (s : ByteArray) (c : UInt8) : Lib.indexByte s.data.toList c = -1 ∨ ∃ i : Nat, Lib.indexByte s.data.toList c = i ∧ i < s.size := by
  have hge := Lib.indexByte_ge s.data.toList c
  by_cases h : Lib.indexByte s.data.toList c = -1
  · exact .inl h
  · obtain ⟨i, hi⟩ : ∃ i : Nat, Lib.indexByte s.data.toList c = i := ⟨(Lib.indexByte s.data.toList c).toNat, by omega⟩
    exact .inr ⟨i, hi, (splitBy_hit hi).1⟩
set_option maxRecDepth 100000 in
set_option maxHeartbeats 2000000 in
theorem splitSeq_has (c : UInt8) (s : ByteArray) (bsep bs bsv : Nat) (w : World) (h1 : bsep ≠ bs) (h2 : bsv ≠ bs) (hsz : s.size ≤ 4294967280)
    (hs : Box w bs 9 (.string s)) (hsep : Box w bsep 9 (.string ⟨#[c]⟩)) (hsv : Box w bsv 3 (.int .i64 0)) :
    SeqHas Tryz.prog 183 #[.pointer (some ⟨bsep, 0, none⟩), .pointer (some ⟨bs, 0, none⟩), .pointer (some ⟨bsv, 0, none⟩)] (fun x : ByteArray => #[.string x]) (splitBy c s)
      (fun k => k = bsep ∨ k = bs ∨ k = bsv) (fun k => k = bs) w := by
  intro l J Jx W hW hkeep hJ hJx hY h0
  have hs' : Box W bs 9 (.string s) := hs.same (hkeep _ (.inr (.inl rfl)))
  have hsep' : Box W bsep 9 (.string ⟨#[c]⟩) := hsep.same (hkeep _ (.inl rfl))
  have hsv' : Box W bsv 3 (.int .i64 0) := hsv.same (hkeep _ (.inr (.inr rfl)))
  have hb : w.heap.size ≤ W.heap.size := hW
  refine callsIn_of_wp Tryz.func183 rfl trivial ?_ rfl
  simp only [Tryz.ntmps183, List.size_toArray, List.length_cons, List.length_nil, Nat.reduceAdd, Nat.reduceSub, Array.replicate_succ, Array.replicate_zero, List.push_toArray, List.append_toArray, List.nil_append, List.cons_append]
  have hc1 := hsep'.cell
  have hone : (⟨#[c]⟩ : ByteArray).size = 1 := rfl
  gi_wp2_with fail
  gi_loopw [7, 8] (fun _ _ wr => ∃ (pre : List ByteArray) (rest : ByteArray), splitBy c s = pre ++ splitBy c rest ∧ rest.size ≤ 4294967280 ∧ J pre wr ∧ Box wr bs 9 (.string rest) ∧ Box wr bsep 9 (.string ⟨#[c]⟩) ∧ Box wr bsv 3 (.int .i64 0))
    (fun _ _ wr => textLeft wr bs)
  case atStart => exact ⟨[], s, rfl, hsz, h0, hs', hsep', hsv'⟩
  case round =>
    clear hc1
    obtain ⟨pre, rest, hx, hr, hJs, b1, b2, b3⟩ := hrel
    have HX := Lib.hid hx
    clear hx
    have d1 := b1.cell
    have d2 := b2.cell
    have d3 := b3.cell
    have hfin := b1.left
    have HL := Lib.hid hfin
    clear hfin
    rcases Lib.index_cases_one rest c with hi | ⟨i, hi, hlt⟩
    · have hsp := splitBy_miss hi
      obtain ⟨fn, tmps, assign, body, hy, hR⟩ := hY pre rest wr hJs (by rw [HX.out, hsp]; exact List.prefix_refl _)
      have HS := Lib.hid hsp
      clear hsp
      gi_wp2_with (refine ⟨trivial, rfl, ?_⟩; gi_at_call 121; refine (callsIn_wide.2 (Tryz.strings_Index_one rest c _)).mono ?_; rintro e w' ⟨rfl, rfl⟩)
      refine ⟨rfl, hR.mono ?_⟩
      rintro e W3 (⟨rfl, hJ3, _⟩ | ⟨rfl, hJx3⟩)
      · gi_wp2
        go_end0
        exact ⟨⟨_, rfl⟩, .inl (by rw [HX.out, HS.out]; exact hJ3)⟩
      · gi_wp2
        go_end0
        exact ⟨⟨_, rfl⟩, .inr ⟨_, by rw [HX.out, HS.out]; exact List.prefix_refl _, hJx3⟩⟩
    · have hsp := (splitBy_hit hi).2
      obtain ⟨fn, tmps, assign, body, hy, hR⟩ := hY pre (rest.extract 0 i) wr hJs (by rw [HX.out, hsp]; exact ⟨splitBy c (rest.extract (i + 1) rest.size), by simp⟩)
      have HS := Lib.hid hsp
      clear hsp
      gi_wp2_with (refine ⟨trivial, rfl, ?_⟩; gi_at_call 121; refine (callsIn_wide.2 (Tryz.strings_Index_one rest c _)).mono ?_; rintro e w' ⟨rfl, rfl⟩)
      refine ⟨rfl, hR.mono ?_⟩
      rintro e W3 (⟨rfl, hJ3, hz3, hk3⟩ | ⟨rfl, hJx3⟩)
      · have b1' := b1.same (hk3 bs (.inr (.inl rfl)))
        have b2' := b2.same (hk3 bsep (.inl rfl))
        have b3' := b3.same (hk3 bsv (.inr (.inr rfl)))
        have e1 := b1'.cell
        have e2 := b2'.cell
        have f1 := b1'.frozen
        have hW4 := hJ _ _ _ hJ3 (Moves.setCell (may := fun k => k = bs) (A := W3) (p := ⟨bs, 0, none⟩) rfl (.string (rest.extract (i + 1) rest.size)))
        have c1 := b1'.set (.string (rest.extract (i + 1) rest.size))
        have c2 := b2'.far (p := ⟨bs, 0, none⟩) h1 (.string (rest.extract (i + 1) rest.size))
        have c3 := b3'.far (p := ⟨bs, 0, none⟩) h2 (.string (rest.extract (i + 1) rest.size))
        gi_wp2
        go_roundw
        case rel => exact ⟨pre ++ [rest.extract 0 i], rest.extract (i + 1) rest.size, by rw [HX.out, HS.out]; simp, by simp; omega, hW4, c1, c2, c3⟩
        case measure => rw [c1.left, HL.out]; simp; omega
      · gi_wp2
        refine bodyPost_ret (results_none rfl _ _ _) rfl ?_
        exact ⟨⟨_, rfl⟩, .inr ⟨_, by rw [HX.out, HS.out]; exact ⟨splitBy c (rest.extract (i + 1) rest.size), by simp⟩, hJx3⟩⟩
set_option maxHeartbeats 1000000 in
theorem splitSeq_calls (s sep : ByteArray) (w : World) :
    Calls Tryz.prog 110 #[.string s, .string sep] w fun e w' =>
      e = .returned (.func (.func 183) #[] #[.pointer (some ⟨w.heap.size + 1, 0, none⟩), .pointer (some ⟨w.heap.size, 0, none⟩), .pointer (some ⟨w.heap.size + 2, 0, none⟩)]) ∧
      w' = ((w.alloc (.cells #[.string s] 9)).alloc (.cells #[.string sep] 9)).alloc (.cells #[.int .i64 0] 3) := by
  go_enter Tryz.func110, Tryz.ntmps110
  go_wp2
  go_ret
  exact ⟨rfl, rfl⟩
/-- 'for p := range strings.SplitSeq(s, c) { if !f(p) { return false } }; return true', f a function that computes. -/
def allM (f : ByteArray → Option Bool) : List ByteArray → Option Bool
  | [] => some true
  | x :: xs => (f x).bind fun b => if b = true then allM f xs else some false
theorem allM_cons {f : ByteArray → Option Bool} {x : ByteArray} {xs : List ByteArray} {r : Bool} (h : allM f (x :: xs) = some r) : ∃ b, f x = some b ∧ ((b = true ∧ allM f xs = some r) ∨ (b = false ∧ r = false)) := by
  unfold allM at h
  obtain ⟨b, hb, h⟩ := Option.bind_eq_some_iff.1 h
  refine ⟨b, hb, ?_⟩
  cases b with
  | true => exact .inl ⟨rfl, by simpa using h⟩
  | false => exact .inr ⟨rfl, by simpa using h.symm⟩
theorem allM_mono {f g : ByteArray → Option Bool} (h : ∀ x, LeO (f x) (g x)) : ∀ l, LeO (allM f l) (allM g l)
  | [] => LeO.refl _
  | x :: xs => LeO.bind (h x) fun b => LeO.ite (allM_mono h xs) (LeO.refl _)
end Go.Proofs.YtmbpefnhkimplaaGreatDoor
end

section
namespace Go.Proofs.YtmbpefnhkimplaaGreatDoor
open Go Go.RowKit Go.Shelf Go.Proofs.YtmbpefnhkimplaaGreatDoorW.PrintWords Go.Proofs.YtmbpefnhkimplaaGreatDoor.K0 Go.Proofs.YtmbpefnhkimplaaGreatDoor.R1
attribute [local go_sem] Oper.semAt_some
set_option linter.unusedVariables false
set_option linter.unusedSimpArgs false
def files_Path.f (k : Nat) (a0 : ByteArray) : Option Bool := if (a0.size : Int) > 60 then some false else allM (files_part.f k) (splitBy 47 a0)
theorem files_Path.mono : ∀ a0 k, LeO (files_Path.f k a0) (files_Path.f (k + 1) a0) := fun a0 k => LeO.ite (LeO.refl _) (allM_mono (fun x => files_part.mono x k) _)
set_option maxRecDepth 100000 in
set_option maxHeartbeats 4000000 in
theorem files_Path.calls (k : Nat) (a0 : ByteArray) (r : Bool) (w : World) (h : files_Path.f k a0 = some r) :
    Calls Tryz.prog 106 #[.string a0] w fun e w' => e = .returned (.bool r) ∧ Below w.heap.size w w' := by
  unfold files_Path.f at h
  refine (callsIn_wide (n := 0)).1 ?_
  refine callsIn_of_wp_marks Tryz.func106 rfl trivial ?_ rfl
  simp only [Tryz.ntmps106, List.size_toArray, List.length_cons, List.length_nil, Nat.reduceAdd, Nat.reduceSub, Array.replicate_succ, Array.replicate_zero, List.push_toArray, List.append_toArray, List.nil_append, List.cons_append]
  by_cases hsz : (a0.size : Int) > 60
  · rw [if_pos hsz] at h
    obtain rfl := Option.some.inj h
    gi_wp2
    exact leave_plain (results_cell1 (a := ⟨w.heap.size, 0, none⟩) rfl rfl Tryz.isAgg4 (Box.new w 4 _).cell) ⟨rfl, (Below.refl _ _).alloc (Nat.le_refl _) _⟩
  · rw [if_neg hsz] at h
    have hsz' : a0.size ≤ 60 := by omega
    have H := Lib.hid h
    clear h
    gi_wp2_with (refine ⟨trivial, rfl, ?_⟩; gi_at_call 110; refine (callsIn_wide.2 (splitSeq_calls _ _ _)).mono ?_; rintro e w' ⟨rfl, rfl⟩)
    obtain ⟨w3, hw3⟩ : ∃ w3, (((w.alloc (.cells #[.bool false] 4)).alloc (.cells #[.string a0] 9)).alloc (.cells #[.string ⟨#[47]⟩] 9)).alloc (.cells #[.int .i64 0] 3) = w3 := ⟨_, rfl⟩
    have hs3 : w3.heap.size = w.heap.size + 4 := by rw [← hw3]; simp
    have x0 : Box w3 w.heap.size 4 (.bool false) := by rw [← hw3]; exact (((Box.new w _ _).alloc _).alloc _).alloc _
    have x1 : Box w3 (w.heap.size + 1) 9 (.string a0) := by rw [← hw3]; have := ((Box.new (w.alloc (.cells #[.bool false] 4)) 9 (.string a0)).alloc (.cells #[.string ⟨#[47]⟩] 9)).alloc (.cells #[.int .i64 0] 3); simpa using this
    have x2 : Box w3 (w.heap.size + 1 + 1) 9 (.string ⟨#[47]⟩) := by rw [← hw3]; have := (Box.new ((w.alloc (.cells #[.bool false] 4)).alloc (.cells #[.string a0] 9)) 9 (.string ⟨#[47]⟩)).alloc (.cells #[.int .i64 0] 3); simpa using this
    have x3 : Box w3 (w.heap.size + 1 + 2) 3 (.int .i64 0) := by rw [← hw3]; have := Box.new (((w.alloc (.cells #[.bool false] 4)).alloc (.cells #[.string a0] 9)).alloc (.cells #[.string ⟨#[47]⟩] 9)) 3 (.int .i64 0); simpa using this
    have hb3 : Below w.heap.size w w3 := by rw [← hw3]; exact ((((Below.refl _ _).alloc (Nat.le_refl _) _).alloc (by simp) _).alloc (by simp; omega) _).alloc (by simp; omega) _
    rw [hw3]
    clear hw3
    refine range_law (gf := 183) (lb := #[.pointer (some ⟨w.heap.size + 1 + 1, 0, none⟩), .pointer (some ⟨w.heap.size + 1, 0, none⟩), .pointer (some ⟨w.heap.size + 1 + 2, 0, none⟩)]) rfl (enters_of Tryz.func183 (by kernel_rfl) rfl)
      (splitSeq_has 47 a0 _ _ _ w3 (by omega) (by omega) (by omega) x1 x2 x3) (fun k hk => by omega) (fun k hk => by omega) (fun _ => rfl)
      (fun k => k = w.heap.size) (fun k hk => ⟨by omega, by omega⟩)
      (fun pre W => (∃ rest, splitBy 47 a0 = pre ++ rest ∧ allM (files_part.f k) rest = some r) ∧ Box W w.heap.size 4 (.bool false) ∧ Below w.heap.size w W)
      (fun c pre W => c = .ret ∧ Box W w.heap.size 4 (.bool false) ∧ r = false ∧ Below w.heap.size w W) ?_ ?_ ?_ (fun l x W a' W' => a' = { tmps := #[.string a0, undef, .pointer (some ⟨w.heap.size, 0, none⟩), .string x, .string a0, .int .i64 a0.size, .bool false, .string a0, .func (.func 183) #[] #[.pointer (some ⟨w.heap.size + 1 + 1, 0, none⟩), .pointer (some ⟨w.heap.size + 1, 0, none⟩), .pointer (some ⟨w.heap.size + 1 + 2, 0, none⟩)], .string x, undef, undef, undef], defers := [] } ∧ W' = W) ?_ ?_ ?_ ?_ ?_
    · rintro s A B ⟨h1, h2, h3⟩ hs hm
      exact ⟨h1, h2.moves hm (by omega), below_moves h3 (Nat.le_refl _) hm (fun k hk => by omega)⟩
    · rintro c s A B ⟨h0, h2, h1, h3⟩ hs hm
      exact ⟨h0, h2.moves hm (by omega), h1, below_moves h3 (Nat.le_refl _) hm (fun k hk => by omega)⟩
    · exact ⟨⟨_, rfl, H.out⟩, x0, hb3⟩
    · intro l x W K hW hK
      gi_wp2
      all_goals exact hK _ _ ⟨rfl, rfl⟩
    · rintro l x W a' W' ⟨_, rfl⟩
      exact Moves.refl _ _
    · rintro l pre x W W1 W2 a' hW ⟨⟨rest, hx, hr⟩, hb0, hbl⟩ hpre ⟨rfl, rfl⟩ hm2 hl hlt
      obtain ⟨t, ht⟩ := hpre
      obtain rfl : rest = x :: t := by rw [hx, List.append_assoc] at ht; exact (List.append_cancel_left ht).symm
      obtain ⟨b, hb, hr⟩ := allM_cons hr
      have y0 := hb0.moves hm2 (by omega)
      have yl := below_moves hbl (Nat.le_refl _) hm2 (fun k hk => by omega)
      clear hbl hb0 hm2
      have HX := Lib.hid hx
      have HR := Lib.hid hr
      have HB := Lib.hid hb
      clear hx hr hb ht
      have y1 := y0.cell
      have y2 := y0.frozen
      cases b with
      | true =>
        gi_wp2_with (refine ⟨trivial, rfl, ?_⟩; gi_at_call 139; refine (CallsIn.inRound l (callsIn_wide.2 (files_part.calls k x true _ HB.out))).mono ?_; rintro e w' ⟨rfl, ⟨nd, rfl⟩⟩)
        refine ⟨Moves.drewN _ _ _, ⟨t, by rw [HX.out]; simp, ?_⟩, y0, pw_below_drewN yl _⟩
        rcases HR.out with ⟨_, h⟩ | ⟨h, _⟩
        · exact h
        · cases h
      | false =>
        gi_wp2_with (refine ⟨trivial, rfl, ?_⟩; gi_at_call 139; refine (CallsIn.inRound l (callsIn_wide.2 (files_part.calls k x false _ HB.out))).mono ?_; rintro e w' ⟨rfl, ⟨nd, rfl⟩⟩)
        refine ⟨(Moves.drewN _ _ _).trans (Moves.setCell (may := fun k => k = w.heap.size) (p := ⟨w.heap.size, 0, none⟩) rfl _), rfl, ?_, ?_, ?_⟩
        · exact Box.set (v := .bool false) (show Box (W2.drewN nd) _ _ _ from y0) _
        · rcases HR.out with ⟨h, _⟩ | ⟨_, h⟩
          · cases h
          · exact h
        · exact (pw_below_drewN yl _).setCell (p := ⟨w.heap.size, 0, none⟩) (Nat.le_refl _) _
    · rintro D W ⟨⟨rest, hx, hr⟩, hb0, hbl⟩ hD hDn
      obtain rfl : rest = [] := by
        have := congrArg List.length hx
        rw [List.length_append] at this
        exact List.eq_nil_of_length_eq_zero (by omega)
      obtain rfl : true = r := by simpa [allM] using hr
      clear hx hr
      have y1 := hb0.cell
      have y2 := hb0.frozen
      gi_wp2
      have hD' : (W.setCell ⟨w.heap.size, 0, none⟩ (.bool true)).heap[D]? = some (.deferred (some [])) := (Below.heap_setCell W _ _ D (by show D ≠ w.heap.size; omega)).trans hD
      refine leave_marked hD' (results_cell1 (a := ⟨w.heap.size, 0, none⟩) rfl rfl Tryz.isAgg4 ((hb0.set (.bool true)).putObj (by omega)).cell) ⟨rfl, ?_⟩
      exact below_moves (hbl.setCell (p := ⟨w.heap.size, 0, none⟩) (Nat.le_refl _) _) (Nat.le_refl _) (Moves.putObj (may := fun k => k = D) rfl _) (fun k hk => by omega)
    · rintro D c pre W hpre ⟨rfl, hb0, rfl, hbl⟩ hD hDn
      gi_wp2
      refine leave_marked hD (results_cell1 (a := ⟨w.heap.size, 0, none⟩) rfl rfl Tryz.isAgg4 (hb0.putObj (by omega)).cell) ⟨rfl, ?_⟩
      exact below_moves hbl (Nat.le_refl _) (Moves.putObj (may := fun k => k = D) rfl _) (fun k hk => by omega)
end Go.Proofs.YtmbpefnhkimplaaGreatDoor
end

section
namespace Go.Proofs.YtmbpefnhkimplaaGreatDoor
open Go Go.RowKit Go.Shelf Go.Proofs.YtmbpefnhkimplaaGreatDoorW.PrintWords Go.Proofs.YtmbpefnhkimplaaGreatDoor.K0 Go.Proofs.YtmbpefnhkimplaaGreatDoor.R1
attribute [local go_sem] Oper.semAt_some
set_option linter.unusedVariables false
set_option linter.unusedSimpArgs false
/-- Are bytes an identifier that may be? -/
def wordM (k : Nat) (may : ByteArray → Option Bool) (x : ByteArray) : Option Bool := (ver_word.f k x).bind fun b => if b = true then may x else some false
theorem wordM_mono (k : Nat) {may may' : ByteArray → Option Bool} (h : ∀ x, LeO (may x) (may' x)) : ∀ x, LeO (wordM k may x) (wordM (k + 1) may' x) :=
  fun x => LeO.bind (ver_word.mono x k) fun _ => LeO.ite (h x) (LeO.refl _)
set_option maxRecDepth 100000 in
set_option maxHeartbeats 4000000 in
theorem ver_words_calls (g : FuncId) (eg : ∀ args w, (callFunc g args).run Tryz.prog w = .ok (.enter g args) w) (k : Nat) (may : ByteArray → Option Bool) (a0 : ByteArray) (r : Bool) (w : World) (hsz : a0.size ≤ 4294967280)
    (hmay : ∀ x b W, may x = some b → Calls Tryz.prog g #[.string x] W fun e w' => e = .returned (.bool b) ∧ Drawn0 W w')
    (h : allM (wordM k may) (splitBy 46 a0) = some r) :
    Calls Tryz.prog 87 #[.string a0, .func (.func g) #[] #[]] w fun e w' => e = .returned (.bool r) ∧ Below w.heap.size w w' := by
  refine (callsIn_wide (n := 0)).1 ?_
  refine callsIn_of_wp_marks Tryz.func87 rfl trivial ?_ rfl
  simp only [Tryz.ntmps87, List.size_toArray, List.length_cons, List.length_nil, Nat.reduceAdd, Nat.reduceSub, Array.replicate_succ, Array.replicate_zero, List.push_toArray, List.append_toArray, List.nil_append, List.cons_append]
  have H := Lib.hid h
  have HM := Lib.hid hmay
  have HE := Lib.hid eg
  clear h hmay eg
  gi_wp2_with (refine ⟨trivial, rfl, ?_⟩; gi_at_call 110; refine (callsIn_wide.2 (splitSeq_calls _ _ _)).mono ?_; rintro e w' ⟨rfl, rfl⟩)
  obtain ⟨w3, hw3⟩ : ∃ w3, ((((w.alloc (.cells #[.func (.func g) #[] #[]] 146)).alloc (.cells #[.bool false] 4)).alloc (.cells #[.string a0] 9)).alloc (.cells #[.string ⟨#[46]⟩] 9)).alloc (.cells #[.int .i64 0] 3) = w3 := ⟨_, rfl⟩
  have hs3 : w3.heap.size = w.heap.size + 5 := by rw [← hw3]; simp
  have xm : Box w3 w.heap.size 146 (.func (.func g) #[] #[]) := by rw [← hw3]; exact ((((Box.new' _ _ _ _ (by simp)).alloc _).alloc _).alloc _).alloc _
  have x0 : Box w3 (w.heap.size + 1) 4 (.bool false) := by rw [← hw3]; exact (((Box.new' _ _ _ _ (by simp)).alloc _).alloc _).alloc _
  have x1 : Box w3 (w.heap.size + 1 + 1) 9 (.string a0) := by rw [← hw3]; exact ((Box.new' _ _ _ _ (by simp)).alloc _).alloc _
  have x2 : Box w3 (w.heap.size + 1 + 1 + 1) 9 (.string ⟨#[46]⟩) := by rw [← hw3]; exact (Box.new' _ _ _ _ (by simp)).alloc _
  have x3 : Box w3 (w.heap.size + 1 + 1 + 2) 3 (.int .i64 0) := by rw [← hw3]; exact Box.new' _ _ _ _ (by simp)
  have hb3 : Below w.heap.size w w3 := by rw [← hw3]; exact (((((Below.refl _ _).alloc (Nat.le_refl _) _).alloc (by simp) _).alloc (by simp; omega) _).alloc (by simp; omega) _).alloc (by simp; omega) _
  rw [hw3]
  clear hw3
  refine range_law (gf := 183) (lb := #[.pointer (some ⟨w.heap.size + 1 + 1 + 1, 0, none⟩), .pointer (some ⟨w.heap.size + 1 + 1, 0, none⟩), .pointer (some ⟨w.heap.size + 1 + 1 + 2, 0, none⟩)]) rfl (enters_of Tryz.func183 (by kernel_rfl) rfl)
    (splitSeq_has 46 a0 _ _ _ w3 (by omega) (by omega) hsz x1 x2 x3) (fun k hk => by omega) (fun k hk => by omega) (fun _ => rfl)
    (fun k => k = w.heap.size + 1) (fun k hk => ⟨by omega, by omega⟩)
    (fun pre W => (∃ rest, splitBy 46 a0 = pre ++ rest ∧ allM (wordM k may) rest = some r) ∧ Box W w.heap.size 146 (.func (.func g) #[] #[]) ∧ Box W (w.heap.size + 1) 4 (.bool false) ∧ Below w.heap.size w W)
    (fun c pre W => c = .ret ∧ Box W (w.heap.size + 1) 4 (.bool false) ∧ r = false ∧ Below w.heap.size w W) ?_ ?_ ?_
    (fun l x W a' W' => a' = { tmps := #[.string a0, .func (.func g) #[] #[], undef, .pointer (some ⟨w.heap.size, 0, none⟩), .pointer (some ⟨w.heap.size + 1, 0, none⟩), .string x, .string a0, .func (.func 183) #[] #[.pointer (some ⟨w.heap.size + 1 + 1 + 1, 0, none⟩), .pointer (some ⟨w.heap.size + 1 + 1, 0, none⟩), .pointer (some ⟨w.heap.size + 1 + 1 + 2, 0, none⟩)], .string x, undef, undef, undef, undef, undef, undef, undef, undef, undef], defers := [] } ∧ W' = W) ?_ ?_ ?_ ?_ ?_
  · rintro s A B ⟨h1, hm0, h2, h3⟩ hs hm
    exact ⟨h1, hm0.moves hm (by omega), h2.moves hm (by omega), below_moves h3 (Nat.le_refl _) hm (fun k hk => by omega)⟩
  · rintro c s A B ⟨h0, h2, h1, h3⟩ hs hm
    exact ⟨h0, h2.moves hm (by omega), h1, below_moves h3 (Nat.le_refl _) hm (fun k hk => by omega)⟩
  · exact ⟨⟨_, rfl, H.out⟩, xm, x0, hb3⟩
  · intro l x W K hW hK
    gi_wp2
    all_goals exact hK _ _ ⟨rfl, rfl⟩
  · rintro l x W a' W' ⟨_, rfl⟩
    exact Moves.refl _ _
  · rintro l pre x W W1 W2 a' hW ⟨⟨rest, hx, hr⟩, hbm, hb0, hbl⟩ hpre ⟨rfl, rfl⟩ hm2 hl hlt
    obtain ⟨t, ht⟩ := hpre
    obtain rfl : rest = x :: t := by rw [hx, List.append_assoc] at ht; exact (List.append_cancel_left ht).symm
    obtain ⟨b, hb, hr⟩ := allM_cons hr
    obtain ⟨b1, hb1, hb2⟩ := Option.bind_eq_some_iff.1 hb
    have ym := hbm.moves hm2 (by omega)
    have y0 := hb0.moves hm2 (by omega)
    have yl := below_moves hbl (Nat.le_refl _) hm2 (fun k hk => by omega)
    clear hbl hb0 hbm hm2
    have HX := Lib.hid hx
    have HR := Lib.hid hr
    have HB := Lib.hid hb1
    clear hx hr hb hb1 ht
    have y1 := y0.cell
    have y2 := y0.frozen
    have y3 := ym.cell
    have eg := HE.out
    cases b1 with
    | true =>
      rw [if_pos rfl] at hb2
      have HB2 := Lib.hid hb2
      clear hb2
      cases b with
      | true =>
        gi_wp2_with (first
          | (refine ⟨trivial, rfl, ?_⟩; gi_at_call 111; refine (CallsIn.inRound l (callsIn_wide.2 (ver_word.calls k x true _ HB.out))).mono ?_; rintro e w' ⟨rfl, ⟨nd, rfl⟩⟩)
          | (refine ⟨trivial, rfl, ?_⟩; (with_reducible refine (CallsIn.inRound l (callsIn_wide.2 (HM.out x true _ HB2.out))).mono ?_); rintro e w' ⟨rfl, ⟨nd2, rfl⟩⟩))
        refine ⟨Moves.drewN _ _ _, ⟨t, by rw [HX.out]; simp, ?_⟩, ym, y0, pw_below_drewN yl _⟩
        rcases HR.out with ⟨_, h⟩ | ⟨h, _⟩
        · exact h
        · cases h
      | false =>
        gi_wp2_with (first
          | (refine ⟨trivial, rfl, ?_⟩; gi_at_call 111; refine (CallsIn.inRound l (callsIn_wide.2 (ver_word.calls k x true _ HB.out))).mono ?_; rintro e w' ⟨rfl, ⟨nd, rfl⟩⟩)
          | (refine ⟨trivial, rfl, ?_⟩; (with_reducible refine (CallsIn.inRound l (callsIn_wide.2 (HM.out x false _ HB2.out))).mono ?_); rintro e w' ⟨rfl, ⟨nd2, rfl⟩⟩))
        refine ⟨(Moves.drewN _ _ _).trans (Moves.setCell (may := fun k => k = w.heap.size + 1) (p := ⟨w.heap.size + 1, 0, none⟩) rfl _), rfl, ?_, ?_, ?_⟩
        · exact Box.set (v := .bool false) (show Box (W2.drewN _) _ _ _ from y0) _
        · rcases HR.out with ⟨h, _⟩ | ⟨_, h⟩
          · cases h
          · exact h
        · exact (pw_below_drewN yl _).setCell (p := ⟨w.heap.size + 1, 0, none⟩) (by simp) _
    | false =>
      rw [if_neg (by simp)] at hb2
      obtain rfl := Option.some.inj hb2
      clear hb2
      gi_wp2_with (refine ⟨trivial, rfl, ?_⟩; gi_at_call 111; refine (CallsIn.inRound l (callsIn_wide.2 (ver_word.calls k x false _ HB.out))).mono ?_; rintro e w' ⟨rfl, ⟨nd, rfl⟩⟩)
      refine ⟨fun _ h => (by cases h), ?_⟩
      gi_wp2
      refine ⟨(Moves.drewN _ _ _).trans (Moves.setCell (may := fun k => k = w.heap.size + 1) (p := ⟨w.heap.size + 1, 0, none⟩) rfl _), rfl, ?_, ?_, ?_⟩
      · exact Box.set (v := .bool false) (show Box (W2.drewN _) _ _ _ from y0) _
      · rcases HR.out with ⟨h, _⟩ | ⟨_, h⟩
        · cases h
        · exact h
      · exact (pw_below_drewN yl _).setCell (p := ⟨w.heap.size + 1, 0, none⟩) (by simp) _
  · rintro D W ⟨⟨rest, hx, hr⟩, hbm, hb0, hbl⟩ hD hDn
    obtain rfl : rest = [] := by
      have := congrArg List.length hx
      rw [List.length_append] at this
      exact List.eq_nil_of_length_eq_zero (by omega)
    obtain rfl : true = r := by simpa [allM] using hr
    clear hx hr
    have y1 := hb0.cell
    have y2 := hb0.frozen
    gi_wp2
    have hD' : (W.setCell ⟨w.heap.size + 1, 0, none⟩ (.bool true)).heap[D]? = some (.deferred (some [])) := (Below.heap_setCell W _ _ D (by show D ≠ w.heap.size + 1; omega)).trans hD
    refine leave_marked hD' (results_cell1 (a := ⟨w.heap.size + 1, 0, none⟩) rfl rfl Tryz.isAgg4 ((hb0.set (.bool true)).putObj (by omega)).cell) ⟨rfl, ?_⟩
    exact below_moves (hbl.setCell (p := ⟨w.heap.size + 1, 0, none⟩) (by simp) _) (Nat.le_refl _) (Moves.putObj (may := fun k => k = D) rfl _) (fun k hk => by omega)
  · rintro D c pre W hpre ⟨rfl, hb0, rfl, hbl⟩ hD hDn
    gi_wp2
    refine leave_marked hD (results_cell1 (a := ⟨w.heap.size + 1, 0, none⟩) rfl rfl Tryz.isAgg4 (hb0.putObj (by omega)).cell) ⟨rfl, ?_⟩
    exact below_moves hbl (Nat.le_refl _) (Moves.putObj (may := fun k => k = D) rfl _) (fun k hk => by omega)
end Go.Proofs.YtmbpefnhkimplaaGreatDoor
end
