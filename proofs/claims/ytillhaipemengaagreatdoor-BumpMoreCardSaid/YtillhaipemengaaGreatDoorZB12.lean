/- The texts Ver, VerCheck, Pl2 in one file, without what these claims do not use (put together by prune2.py). -/
import Derived.Test.YtillhaipemengaaGreatDoorZB11
import Derived.Test.YtillhaipemengaaGreatDoorZB8
import Derived.Test.YtillhaipemengaaGreatDoorZB9
section
namespace Go.Proofs.YtillhaipemengaaGreatDoor
open Go Go.RowKit Go.Shelf Go.Proofs.YtillhaipemengaaGreatDoorW.PrintWords Go.Proofs.YtillhaipemengaaGreatDoor.K0 Go.Proofs.YtillhaipemengaaGreatDoor.R1
attribute [local go_sem] Oper.semAt_some
set_option linter.unusedVariables false
set_option linter.unusedSimpArgs false
/-- Are bytes an identifier that may be? -/
def wordM (k : Nat) (may : ByteArray → Option Bool) (x : ByteArray) : Option Bool := (ver_word.f k x).bind fun b => if b = true then may x else some false
theorem wordM_mono (k : Nat) {may may' : ByteArray → Option Bool} (h : ∀ x, LeO (may x) (may' x)) : ∀ x, LeO (wordM k may x) (wordM (k + 1) may' x) :=
  fun x => LeO.bind (ver_word.mono x k) fun _ => LeO.ite (h x) (LeO.refl _)
set_option maxRecDepth 100000 in
set_option maxHeartbeats 4000000 in
theorem ver_words_calls (g : FuncId) (eg : ∀ args w, (callFunc g args).run Tryz.prog w = .ok (.enter g args) w) (k : Nat) (may : ByteArray → Option Bool) (a0 : ByteArray) (r : Bool) (w : World) (hsz : a0.size ≤ 4294967280)
    (hmay : ∀ x b W, may x = some b → Calls Tryz.prog g #[.string x] W fun e w' => e = .returned (.bool b) ∧ Drawn0 W w')
    (h : allM (wordM k may) (splitBy 46 a0) = some r) :
    Calls Tryz.prog 67 #[.string a0, .func (.func g) #[] #[]] w fun e w' => e = .returned (.bool r) ∧ Below w.heap.size w w' := by
  refine (callsIn_wide (n := 0)).1 ?_
  refine callsIn_of_wp_marks Tryz.func67 rfl trivial ?_ rfl
  simp only [Tryz.ntmps67, List.size_toArray, List.length_cons, List.length_nil, Nat.reduceAdd, Nat.reduceSub, Array.replicate_succ, Array.replicate_zero, List.push_toArray, List.append_toArray, List.nil_append, List.cons_append]
  have H := Lib.hid h
  have HM := Lib.hid hmay
  have HE := Lib.hid eg
  clear h hmay eg
  gi_wp2_with (refine ⟨trivial, rfl, ?_⟩; gi_at_call 104; refine (callsIn_wide.2 (splitSeq_calls _ _ _)).mono ?_; rintro e w' ⟨rfl, rfl⟩)
  obtain ⟨w3, hw3⟩ : ∃ w3, ((((w.alloc (.cells #[.func (.func g) #[] #[]] 102)).alloc (.cells #[.bool false] 4)).alloc (.cells #[.string a0] 9)).alloc (.cells #[.string ⟨#[46]⟩] 9)).alloc (.cells #[.int .i64 0] 3) = w3 := ⟨_, rfl⟩
  have hs3 : w3.heap.size = w.heap.size + 5 := by rw [← hw3]; simp
  have xm : Box w3 w.heap.size 102 (.func (.func g) #[] #[]) := by rw [← hw3]; exact ((((Box.new' _ _ _ _ (by simp)).alloc _).alloc _).alloc _).alloc _
  have x0 : Box w3 (w.heap.size + 1) 4 (.bool false) := by rw [← hw3]; exact (((Box.new' _ _ _ _ (by simp)).alloc _).alloc _).alloc _
  have x1 : Box w3 (w.heap.size + 1 + 1) 9 (.string a0) := by rw [← hw3]; exact ((Box.new' _ _ _ _ (by simp)).alloc _).alloc _
  have x2 : Box w3 (w.heap.size + 1 + 1 + 1) 9 (.string ⟨#[46]⟩) := by rw [← hw3]; exact (Box.new' _ _ _ _ (by simp)).alloc _
  have x3 : Box w3 (w.heap.size + 1 + 1 + 2) 3 (.int .i64 0) := by rw [← hw3]; exact Box.new' _ _ _ _ (by simp)
  have hb3 : Below w.heap.size w w3 := by rw [← hw3]; exact (((((Below.refl _ _).alloc (Nat.le_refl _) _).alloc (by simp) _).alloc (by simp; omega) _).alloc (by simp; omega) _).alloc (by simp; omega) _
  rw [hw3]
  clear hw3
  refine range_law (gf := 159) (lb := #[.pointer (some ⟨w.heap.size + 1 + 1 + 1, 0, none⟩), .pointer (some ⟨w.heap.size + 1 + 1, 0, none⟩), .pointer (some ⟨w.heap.size + 1 + 1 + 2, 0, none⟩)]) rfl (enters_of Tryz.func159 (by kernel_rfl) rfl)
    (splitSeq_has 46 a0 _ _ _ w3 (by omega) (by omega) hsz x1 x2 x3) (fun k hk => by omega) (fun k hk => by omega) (fun _ => rfl)
    (fun k => k = w.heap.size + 1) (fun k hk => ⟨by omega, by omega⟩)
    (fun pre W => (∃ rest, splitBy 46 a0 = pre ++ rest ∧ allM (wordM k may) rest = some r) ∧ Box W w.heap.size 102 (.func (.func g) #[] #[]) ∧ Box W (w.heap.size + 1) 4 (.bool false) ∧ Below w.heap.size w W)
    (fun c pre W => c = .ret ∧ Box W (w.heap.size + 1) 4 (.bool false) ∧ r = false ∧ Below w.heap.size w W) ?_ ?_ ?_
    (fun l x W a' W' => a' = { tmps := #[.string a0, .func (.func g) #[] #[], undef, .pointer (some ⟨w.heap.size, 0, none⟩), .pointer (some ⟨w.heap.size + 1, 0, none⟩), .string x, .string a0, .func (.func 159) #[] #[.pointer (some ⟨w.heap.size + 1 + 1 + 1, 0, none⟩), .pointer (some ⟨w.heap.size + 1 + 1, 0, none⟩), .pointer (some ⟨w.heap.size + 1 + 1 + 2, 0, none⟩)], .string x, undef, undef, undef, undef, undef, undef, undef, undef, undef], defers := [] } ∧ W' = W) ?_ ?_ ?_ ?_ ?_
  · rintro s A B ⟨h1, hm0, h2, h3⟩ hs hm
    exact ⟨h1, hm0.moves hm (by omega), h2.moves hm (by omega), below_moves h3 (Nat.le_refl _) hm (fun k hk => by omega)⟩
  · rintro c s A B ⟨h0, h2, h1, h3⟩ hs hm
    exact ⟨h0, h2.moves hm (by omega), h1, below_moves h3 (Nat.le_refl _) hm (fun k hk => by omega)⟩
  · exact ⟨⟨_, rfl, H.out⟩, xm, x0, hb3⟩
  · intro l x W K hW hK
    gi_wp2
    all_goals exact hK _ _ ⟨rfl, rfl⟩
  · rintro l x W a' W' ⟨_, rfl⟩
    exact Moves.refl _ _
  · rintro l pre x W W1 W2 a' hW ⟨⟨rest, hx, hr⟩, hbm, hb0, hbl⟩ hpre ⟨rfl, rfl⟩ hm2 hl hlt
    obtain ⟨t, ht⟩ := hpre
    obtain rfl : rest = x :: t := by rw [hx, List.append_assoc] at ht; exact (List.append_cancel_left ht).symm
    obtain ⟨b, hb, hr⟩ := allM_cons hr
    obtain ⟨b1, hb1, hb2⟩ := Option.bind_eq_some_iff.1 hb
    have ym := hbm.moves hm2 (by omega)
    have y0 := hb0.moves hm2 (by omega)
    have yl := below_moves hbl (Nat.le_refl _) hm2 (fun k hk => by omega)
    clear hbl hb0 hbm hm2
    have HX := Lib.hid hx
    have HR := Lib.hid hr
    have HB := Lib.hid hb1
    clear hx hr hb hb1 ht
    have y1 := y0.cell
    have y2 := y0.frozen
    have y3 := ym.cell
    have eg := HE.out
    cases b1 with
    | true =>
      rw [if_pos rfl] at hb2
      have HB2 := Lib.hid hb2
      clear hb2
      cases b with
      | true =>
        gi_wp2_with (first
          | (refine ⟨trivial, rfl, ?_⟩; gi_at_call 105; refine (CallsIn.inRound l (callsIn_wide.2 (ver_word.calls k x true _ HB.out))).mono ?_; rintro e w' ⟨rfl, ⟨nd, rfl⟩⟩)
          | (refine ⟨trivial, rfl, ?_⟩; (with_reducible refine (CallsIn.inRound l (callsIn_wide.2 (HM.out x true _ HB2.out))).mono ?_); rintro e w' ⟨rfl, ⟨nd2, rfl⟩⟩))
        refine ⟨Moves.drewN _ _ _, ⟨t, by rw [HX.out]; simp, ?_⟩, ym, y0, pw_below_drewN yl _⟩
        rcases HR.out with ⟨_, h⟩ | ⟨h, _⟩
        · exact h
        · cases h
      | false =>
        gi_wp2_with (first
          | (refine ⟨trivial, rfl, ?_⟩; gi_at_call 105; refine (CallsIn.inRound l (callsIn_wide.2 (ver_word.calls k x true _ HB.out))).mono ?_; rintro e w' ⟨rfl, ⟨nd, rfl⟩⟩)
          | (refine ⟨trivial, rfl, ?_⟩; (with_reducible refine (CallsIn.inRound l (callsIn_wide.2 (HM.out x false _ HB2.out))).mono ?_); rintro e w' ⟨rfl, ⟨nd2, rfl⟩⟩))
        refine ⟨(Moves.drewN _ _ _).trans (Moves.setCell (may := fun k => k = w.heap.size + 1) (p := ⟨w.heap.size + 1, 0, none⟩) rfl _), rfl, ?_, ?_, ?_⟩
        · exact Box.set (v := .bool false) (show Box (W2.drewN _) _ _ _ from y0) _
        · rcases HR.out with ⟨h, _⟩ | ⟨_, h⟩
          · cases h
          · exact h
        · exact (pw_below_drewN yl _).setCell (p := ⟨w.heap.size + 1, 0, none⟩) (by simp) _
    | false =>
      rw [if_neg (by simp)] at hb2
      obtain rfl := Option.some.inj hb2
      clear hb2
      gi_wp2_with (refine ⟨trivial, rfl, ?_⟩; gi_at_call 105; refine (CallsIn.inRound l (callsIn_wide.2 (ver_word.calls k x false _ HB.out))).mono ?_; rintro e w' ⟨rfl, ⟨nd, rfl⟩⟩)
      refine ⟨fun _ h => (by cases h), ?_⟩
      gi_wp2
      refine ⟨(Moves.drewN _ _ _).trans (Moves.setCell (may := fun k => k = w.heap.size + 1) (p := ⟨w.heap.size + 1, 0, none⟩) rfl _), rfl, ?_, ?_, ?_⟩
      · exact Box.set (v := .bool false) (show Box (W2.drewN _) _ _ _ from y0) _
      · rcases HR.out with ⟨h, _⟩ | ⟨_, h⟩
        · cases h
        · exact h
      · exact (pw_below_drewN yl _).setCell (p := ⟨w.heap.size + 1, 0, none⟩) (by simp) _
  · rintro D W ⟨⟨rest, hx, hr⟩, hbm, hb0, hbl⟩ hD hDn
    obtain rfl : rest = [] := by
      have := congrArg List.length hx
      rw [List.length_append] at this
      exact List.eq_nil_of_length_eq_zero (by omega)
    obtain rfl : true = r := by simpa [allM] using hr
    clear hx hr
    have y1 := hb0.cell
    have y2 := hb0.frozen
    gi_wp2
    have hD' : (W.setCell ⟨w.heap.size + 1, 0, none⟩ (.bool true)).heap[D]? = some (.deferred (some [])) := (Below.heap_setCell W _ _ D (by show D ≠ w.heap.size + 1; omega)).trans hD
    refine leave_marked hD' (results_cell1 (a := ⟨w.heap.size + 1, 0, none⟩) rfl rfl Tryz.isAgg4 ((hb0.set (.bool true)).putObj (by omega)).cell) ⟨rfl, ?_⟩
    exact below_moves (hbl.setCell (p := ⟨w.heap.size + 1, 0, none⟩) (by simp) _) (Nat.le_refl _) (Moves.putObj (may := fun k => k = D) rfl _) (fun k hk => by omega)
  · rintro D c pre W hpre ⟨rfl, hb0, rfl, hbl⟩ hD hDn
    gi_wp2
    refine leave_marked hD (results_cell1 (a := ⟨w.heap.size + 1, 0, none⟩) rfl rfl Tryz.isAgg4 (hb0.putObj (by omega)).cell) ⟨rfl, ?_⟩
    exact below_moves hbl (Nat.le_refl _) (Moves.putObj (may := fun k => k = D) rfl _) (fun k hk => by omega)
end Go.Proofs.YtillhaipemengaaGreatDoor
end

section
namespace Go.Proofs.YtillhaipemengaaGreatDoor
open Go Go.RowKit Go.Shelf Go.Proofs.YtillhaipemengaaGreatDoorW.PrintWords Go.Proofs.YtillhaipemengaaGreatDoor.K0 Go.Proofs.YtillhaipemengaaGreatDoor.R1
set_option linter.unusedVariables false
set_option linter.unusedSimpArgs false
def numB (a : Int) : Bool := decide (0 ≤ a) && decide (a ≤ 999999999)
theorem ver_num_f (a : Int) : ver_num.f a = some (numB a) := by
  unfold ver_num.f numB
  split <;> rename_i h <;> simp <;> omega
theorem ver_num_any (a : Int) (w : World) : Calls Tryz.prog 66 #[.int .i64 a] w fun e w' => e = .returned (.bool (numB a)) ∧ Drawn0 w w' := ver_num.calls a _ w (ver_num_f a)
theorem ver_any_calls (x : ByteArray) (w : World) : Calls Tryz.prog 65 #[.string x] w fun e w' => e = .returned (.bool true) ∧ Drawn0 w w' := by
  go_enter Tryz.func65, Tryz.ntmps65
  go_wp2
  go_ret
  exact ⟨rfl, Drawn0.refl _⟩
theorem ver_words_tight (k : Nat) (a0 : ByteArray) (r : Bool) (w : World) (hsz : a0.size ≤ 30) (h : allM (wordM k (ver_tight.f k)) (splitBy 46 a0) = some r) :
    Calls Tryz.prog 67 #[.string a0, .func (.func 68) #[] #[]] w fun e w' => e = .returned (.bool r) ∧ Below w.heap.size w w' :=
  ver_words_calls 68 (enters_of Tryz.func68 (by kernel_rfl) rfl) k (ver_tight.f k) a0 r w (by omega) (fun x b W h => ver_tight.calls k x b W h) h
theorem ver_words_any (k : Nat) (a0 : ByteArray) (r : Bool) (w : World) (hsz : a0.size ≤ 30) (h : allM (wordM k fun _ => some true) (splitBy 46 a0) = some r) :
    Calls Tryz.prog 67 #[.string a0, .func (.func 65) #[] #[]] w fun e w' => e = .returned (.bool r) ∧ Below w.heap.size w w' :=
  ver_words_calls 65 (enters_of Tryz.func65 (by kernel_rfl) rfl) k (fun _ => some true) a0 r w (by omega) (fun x b W h => by obtain rfl := Option.some.inj h; exact ver_any_calls x W) h
theorem nonempty_of {a : ByteArray} (h : ¬ a.size = 0) : a.toList.isEmpty = false ∧ ¬ (a.toList = []) := by
  have e : a.toList = a.data.toList := ByteArray.toList_eq a
  rw [e]
  rw [Lib.size_eq] at h
  cases hl : a.data.toList with
  | nil => rw [hl] at h; exact absurd rfl h
  | cons x xs => exact ⟨rfl, by simp⟩
theorem empty_of {a : ByteArray} (h : a.size = 0) : a = ⟨#[]⟩ := by
  rw [Lib.size_eq] at h
  exact by_data (List.eq_nil_of_length_eq_zero h)
/-- What stands ahead of releases, and behind them. -/
def preM (k : Nat) (a : ByteArray) : Option Bool := if a.size = 0 then some true else allM (wordM k (ver_tight.f k)) (splitBy 46 a)
def buildM (k : Nat) (a : ByteArray) : Option Bool := if a.size = 0 then some true else allM (wordM k fun _ => some true) (splitBy 46 a)
def ver_Check.f (k : Nat) (a0_0 a0_1 a0_2 : Int) (a0_3 a0_4 : ByteArray) : Option Bool :=
  if numB a0_0 = true then (if numB a0_1 = true then (if numB a0_2 = true then
    (if (a0_3.size : Int) > 30 then some false else if (a0_4.size : Int) > 30 then some false else (preM k a0_3).bind fun b => if b = true then buildM k a0_4 else some false)
  else some false) else some false) else some false
theorem preM_mono (k : Nat) (a : ByteArray) : LeO (preM k a) (preM (k + 1) a) := LeO.ite (LeO.refl _) (allM_mono (wordM_mono k fun x => ver_tight.mono x k) _)
theorem buildM_mono (k : Nat) (a : ByteArray) : LeO (buildM k a) (buildM (k + 1) a) := LeO.ite (LeO.refl _) (allM_mono (wordM_mono k fun x => LeO.refl _) _)
theorem ver_Check.mono : ∀ a0 a1 a2 a3 a4 k, LeO (ver_Check.f k a0 a1 a2 a3 a4) (ver_Check.f (k + 1) a0 a1 a2 a3 a4) := fun a0 a1 a2 a3 a4 k =>
  LeO.ite (LeO.ite (LeO.ite (LeO.ite (LeO.refl _) (LeO.ite (LeO.refl _) (LeO.bind (preM_mono k a3) fun _ => LeO.ite (buildM_mono k a4) (LeO.refl _)))) (LeO.refl _)) (LeO.refl _)) (LeO.refl _)
set_option maxRecDepth 100000 in
set_option maxHeartbeats 4000000 in
theorem ver_Check.calls (k : Nat) (a0_0 a0_1 a0_2 : Int) (a0_3 a0_4 : ByteArray) (r : Bool) (w : World) (h : ver_Check.f k a0_0 a0_1 a0_2 a0_3 a0_4 = some r) :
    Calls Tryz.prog 31 #[.agg #[.int .i64 a0_0, .int .i64 a0_1, .int .i64 a0_2, .string a0_3, .string a0_4]] w fun e w' => e = .returned (.bool r) ∧ Below w.heap.size w w' := by
  have HB := Aside0.mk (below_alloc (Below.refl w.heap.size w) (.cells #[.int .i64 a0_0, .int .i64 a0_1, .int .i64 a0_2, .string a0_3, .string a0_4] 26))
  unfold ver_Check.f at h
  by_cases h0 : numB a0_0 = true
  · rw [if_pos h0] at h
    by_cases h1 : numB a0_1 = true
    · rw [if_pos h1] at h
      by_cases h2 : numB a0_2 = true
      · rw [if_pos h2] at h
        by_cases h3 : (a0_3.size : Int) > 30
        · rw [if_pos h3] at h
          obtain rfl := Option.some.inj h
          clear h
          go_enter Tryz.func31, Tryz.ntmps31
          go_wp2_with (go_at_call 66; refine (ver_num_any _ _).mono ?_; rintro e w' ⟨rfl, ⟨nd, rfl⟩⟩)
          go_ret
          exact ⟨rfl, by repeat (first | exact HB.out | apply pw_below_drewN)⟩
        · rw [if_neg h3] at h
          have h3' : a0_3.size ≤ 30 := by omega
          by_cases h4 : (a0_4.size : Int) > 30
          · rw [if_pos h4] at h
            obtain rfl := Option.some.inj h
            clear h
            go_enter Tryz.func31, Tryz.ntmps31
            go_wp2_with (go_at_call 66; refine (ver_num_any _ _).mono ?_; rintro e w' ⟨rfl, ⟨nd, rfl⟩⟩)
            go_ret
            exact ⟨rfl, by repeat (first | exact HB.out | apply pw_below_drewN)⟩
          · rw [if_neg h4] at h
            have h4' : a0_4.size ≤ 30 := by omega
            obtain ⟨b, hb, h⟩ := Option.bind_eq_some_iff.1 h
            unfold preM at hb
            by_cases e3 : a0_3.size = 0
            · rw [if_pos e3] at hb
              obtain rfl := Option.some.inj hb
              rw [if_pos rfl] at h
              have m3 : a0_3.toList = [] := by rw [empty_of e3, ByteArray.toList_eq]
              have n3 : a0_3.toList.isEmpty = true := by rw [m3]; rfl
              clear e3 h3 hb
              unfold buildM at h
              by_cases e4 : a0_4.size = 0
              · rw [if_pos e4] at h
                obtain rfl := Option.some.inj h
                obtain rfl := empty_of e4
                clear e4 h4 h4' h
                go_enter Tryz.func31, Tryz.ntmps31
                go_wp2_with (first
                  | (go_at_call 66; refine (ver_num_any _ _).mono ?_; rintro e w' ⟨rfl, ⟨nd, rfl⟩⟩))
                go_ret
                exact ⟨rfl, by repeat (first | exact HB.out | apply pw_below_drewN)⟩
              · rw [if_neg e4] at h
                obtain ⟨n4, m4⟩ := nonempty_of e4
                have HQ := Aside0.mk h
                clear h e4
                go_enter Tryz.func31, Tryz.ntmps31
                go_wp2_with (first
                  | (go_at_call 66; refine (ver_num_any _ _).mono ?_; rintro e w' ⟨rfl, ⟨nd, rfl⟩⟩)
                  | (go_at_call 67; (with_reducible refine (ver_words_any k a0_4 r _ h4' HQ.out).mono ?_); rintro e w2 ⟨rfl, hw2⟩; have HB2 := Aside0.mk (below_step (by repeat (first | exact HB.out | apply pw_below_drewN)) hw2); clear hw2))
                go_ret
                exact ⟨rfl, by repeat (first | exact HB2.out | apply pw_below_drewN)⟩
            · rw [if_neg e3] at hb
              obtain ⟨n3, m3⟩ := nonempty_of e3
              have HP := Aside0.mk hb
              clear hb e3
              cases b with
              | false =>
                rw [if_neg (by simp)] at h
                obtain rfl := Option.some.inj h
                clear h
                go_enter Tryz.func31, Tryz.ntmps31
                go_wp2_with (first
                  | (go_at_call 66; refine (ver_num_any _ _).mono ?_; rintro e w' ⟨rfl, ⟨nd, rfl⟩⟩)
                  | (go_at_call 67; (with_reducible refine (ver_words_tight k a0_3 false _ h3' HP.out).mono ?_); rintro e w1 ⟨rfl, hw1⟩; have hc4 : w1.cell? ⟨w.heap.size, 4, none⟩ = some (.string a0_4) := pw_cell_below hw1 (by simp); have HB1 := Aside0.mk (below_step (by repeat (first | exact HB.out | apply pw_below_drewN)) hw1); clear hw1))
                go_ret
                exact ⟨rfl, by repeat (first | exact HB1.out | apply pw_below_drewN)⟩
              | true =>
                rw [if_pos rfl] at h
                unfold buildM at h
                by_cases e4 : a0_4.size = 0
                · rw [if_pos e4] at h
                  obtain rfl := Option.some.inj h
                  obtain rfl := empty_of e4
                  clear e4 h4 h4' h
                  go_enter Tryz.func31, Tryz.ntmps31
                  go_wp2_with (first
                    | (go_at_call 66; refine (ver_num_any _ _).mono ?_; rintro e w' ⟨rfl, ⟨nd, rfl⟩⟩)
                    | (go_at_call 67; (with_reducible refine (ver_words_tight k a0_3 true _ h3' HP.out).mono ?_); rintro e w1 ⟨rfl, hw1⟩; have hc4 : w1.cell? ⟨w.heap.size, 4, none⟩ = some (.string ⟨#[]⟩) := pw_cell_below hw1 (by simp); have HB1 := Aside0.mk (below_step (by repeat (first | exact HB.out | apply pw_below_drewN)) hw1); clear hw1))
                  go_ret
                  exact ⟨rfl, by repeat (first | exact HB1.out | apply pw_below_drewN)⟩
                · rw [if_neg e4] at h
                  obtain ⟨n4, m4⟩ := nonempty_of e4
                  have HQ := Aside0.mk h
                  clear h e4
                  go_enter Tryz.func31, Tryz.ntmps31
                  go_wp2_with (first
                    | (go_at_call 66; refine (ver_num_any _ _).mono ?_; rintro e w' ⟨rfl, ⟨nd, rfl⟩⟩)
                    | (go_at_call 67; (with_reducible refine (ver_words_tight k a0_3 true _ h3' HP.out).mono ?_); rintro e w1 ⟨rfl, hw1⟩; have hc4 : w1.cell? ⟨w.heap.size, 4, none⟩ = some (.string a0_4) := pw_cell_below hw1 (by simp); have HB1 := Aside0.mk (below_step (by repeat (first | exact HB.out | apply pw_below_drewN)) hw1); clear hw1)
                    | (go_at_call 67; (with_reducible refine (ver_words_any k a0_4 r _ h4' HQ.out).mono ?_); rintro e w2 ⟨rfl, hw2⟩; have HB2 := Aside0.mk (below_step (by repeat (first | exact HB1.out | apply pw_below_drewN)) hw2); clear hw2))
                  go_ret
                  exact ⟨rfl, by repeat (first | exact HB2.out | apply pw_below_drewN)⟩
      · rw [if_neg h2] at h
        obtain rfl := Option.some.inj h
        clear h
        have h2' : numB a0_2 = false := by simpa using h2
        go_enter Tryz.func31, Tryz.ntmps31
        go_wp2_with (go_at_call 66; refine (ver_num_any _ _).mono ?_; rintro e w' ⟨rfl, ⟨nd, rfl⟩⟩)
        go_ret
        exact ⟨rfl, by repeat (first | exact HB.out | apply pw_below_drewN)⟩
    · rw [if_neg h1] at h
      obtain rfl := Option.some.inj h
      clear h
      have h1' : numB a0_1 = false := by simpa using h1
      go_enter Tryz.func31, Tryz.ntmps31
      go_wp2_with (go_at_call 66; refine (ver_num_any _ _).mono ?_; rintro e w' ⟨rfl, ⟨nd, rfl⟩⟩)
      go_ret
      exact ⟨rfl, by repeat (first | exact HB.out | apply pw_below_drewN)⟩
  · rw [if_neg h0] at h
    obtain rfl := Option.some.inj h
    clear h
    have h0' : numB a0_0 = false := by simpa using h0
    go_enter Tryz.func31, Tryz.ntmps31
    go_wp2_with (go_at_call 66; refine (ver_num_any _ _).mono ?_; rintro e w' ⟨rfl, ⟨nd, rfl⟩⟩)
    go_ret
    exact ⟨rfl, by repeat (first | exact HB.out | apply pw_below_drewN)⟩
end Go.Proofs.YtillhaipemengaaGreatDoor
end

section
namespace Go.Proofs.YtillhaipemengaaGreatDoor
open Go Go.RowKit Go.Proofs.YtillhaipemengaaGreatDoorW.PrintWords Go.Proofs.YtillhaipemengaaGreatDoor.K0 Go.Proofs.YtillhaipemengaaGreatDoor.R1
set_option linter.unusedVariables false
set_option linter.unusedSimpArgs false
theorem rd_at {l : List ByteArray} {n : Nat} (h : n < l.length) : ∃ x, rdOf ByteArray.empty l (n : Int) = x ∧ l.drop n = x :: l.drop (n + 1) ∧ l[n]? = some x := by
  refine ⟨l[n], ?_, List.drop_eq_getElem_cons h, List.getElem?_eq_getElem h⟩
  unfold rdOf
  show l.getD n _ = _
  rw [List.getD_eq_getElem?_getD, List.getElem?_eq_getElem h]; rfl
theorem allM_all {f : ByteArray → Option Bool} {p : ByteArray → Bool} : ∀ {l : List ByteArray}, (∀ x ∈ l, f x = some (p x)) → allM f l = some (l.all p)
  | [], _ => rfl
  | x :: xs, h => by
    unfold allM
    rw [h x List.mem_cons_self]
    simp only [Option.bind_some, List.all_cons]
    have ih := allM_all (fun y hy => h y (List.mem_cons_of_mem x hy))
    cases p x <;> simp [ih]
theorem split_size {c : UInt8} {s x : ByteArray} (h : x ∈ splitBy c s) : x.size ≤ s.size := by
  unfold splitBy at h
  obtain ⟨l, hl, rfl⟩ := List.mem_map.1 h
  rw [ba_size, Lib.size_eq]
  exact (splitC_parts hl).2
theorem all_split (c : UInt8) (s : ByteArray) (p : List UInt8 → Bool) : ((splitBy c s).all fun x => p x.data.toList) = (splitC c s.data.toList).all p := by
  unfold splitBy
  rw [List.all_map]
  rfl
def pathOk (s : ByteArray) : Bool := decide (s.size ≤ 60) && (splitC 47 s.data.toList).all partOk
theorem files_Path_f (s : ByteArray) (k : Nat) (hk : 60 < k) : files_Path.f k s = some (pathOk s) := by
  unfold files_Path.f pathOk
  by_cases h : (s.size : Int) > 60
  · rw [if_pos h, decide_eq_false (by omega)]; rfl
  · rw [if_neg h, decide_eq_true (by omega), ← all_split]
    exact allM_all fun x hx => files_part_f x (by have := split_size hx; omega) k (by have := split_size hx; omega)
theorem split_len (c : UInt8) (s : ByteArray) : (splitBy c s).length ≤ s.size + 1 := by
  unfold splitBy
  rw [List.length_map, splitC_length, Lib.size_eq]
  have := List.count_le_length (a := c) (l := s.data.toList)
  omega
def okId (z : Bool) (W : List UInt8) : Bool := wordOk W && (z || tightOk W)
def idsOk (z : Bool) (s : ByteArray) : Bool := (splitC 46 s.data.toList).all (okId z)
def preOk (s : ByteArray) : Bool := decide (s.size = 0) || idsOk false s
def buildOk (s : ByteArray) : Bool := decide (s.size = 0) || idsOk true s
def verOk (a b c : Int) (p q : ByteArray) : Bool := numB a && (numB b && (numB c && (decide (p.size ≤ 30) && (decide (q.size ≤ 30) && (preOk p && buildOk q)))))
theorem wordM_f (x : ByteArray) (z : Bool) (may : ByteArray → Option Bool) (k : Nat) (hs : x.size ≤ 4294967290) (hk : x.size < k) (hm : may x = some (z || tightOk x.data.toList)) : wordM k may x = some (okId z x.data.toList) := by
  unfold wordM okId
  rw [word_f x hs k hk, hm]
  simp only [Option.bind_some]
  cases wordOk x.data.toList <;> simp
theorem preM_f (s : ByteArray) (hs : s.size ≤ 30) (k : Nat) (hk : 30 < k) : preM k s = some (preOk s) := by
  unfold preM preOk
  by_cases h : s.size = 0
  · rw [if_pos h, decide_eq_true h]; rfl
  · rw [if_neg h, decide_eq_false h, Bool.false_or]
    unfold idsOk
    rw [← all_split]
    exact allM_all fun x hx => by
      have := split_size hx
      exact wordM_f x false _ k (by omega) (by omega) (by rw [Bool.false_or]; exact tight_f x (by omega) k (by omega))
theorem buildM_f (s : ByteArray) (hs : s.size ≤ 30) (k : Nat) (hk : 30 < k) : buildM k s = some (buildOk s) := by
  unfold buildM buildOk
  by_cases h : s.size = 0
  · rw [if_pos h, decide_eq_true h]; rfl
  · rw [if_neg h, decide_eq_false h, Bool.false_or]
    unfold idsOk
    rw [← all_split]
    exact allM_all fun x hx => by
      have := split_size hx
      exact wordM_f x true _ k (by omega) (by omega) rfl
theorem ver_Check_f (a b c : Int) (p q : ByteArray) (k : Nat) (hk : 30 < k) : ver_Check.f k a b c p q = some (verOk a b c p q) := by
  unfold ver_Check.f verOk
  cases numB a <;> cases numB b <;> cases numB c <;> simp only [if_true, if_false, Bool.false_eq_true, Bool.true_and, Bool.false_and]
  by_cases h3 : (p.size : Int) > 30
  · rw [if_pos h3, decide_eq_false (by omega)]; rfl
  · rw [if_neg h3, decide_eq_true (by omega)]
    by_cases h4 : (q.size : Int) > 30
    · rw [if_pos h4, decide_eq_false (by omega)]; rfl
    · rw [if_neg h4, decide_eq_true (by omega), preM_f p (by omega) k hk, buildM_f q (by omega) k hk]
      simp only [Option.bind_some]
      cases preOk p <;> simp
end Go.Proofs.YtillhaipemengaaGreatDoor
end
