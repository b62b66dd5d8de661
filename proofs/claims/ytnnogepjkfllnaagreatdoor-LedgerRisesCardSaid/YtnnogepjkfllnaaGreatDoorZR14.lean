/- The texts VerCheck in one file, without what this claim does not use (put together by prune.py). -/
import Derived.Test.YtnnogepjkfllnaaGreatDoorZR13
section
namespace Go.Proofs.YtnnogepjkfllnaaGreatDoor
open Go Go.RowKit Go.Shelf Go.Proofs.YtnnogepjkfllnaaGreatDoorW.PrintWords Go.Proofs.YtnnogepjkfllnaaGreatDoor.K0 Go.Proofs.YtnnogepjkfllnaaGreatDoor.R1
set_option linter.unusedVariables false
set_option linter.unusedSimpArgs false
def numB (a : Int) : Bool := decide (0 ≤ a) && decide (a ≤ 999999999)
theorem ver_num_f (a : Int) : ver_num.f a = some (numB a) := by
  unfold ver_num.f numB
  split <;> rename_i h <;> simp <;> omega
theorem ver_num_any (a : Int) (w : World) : Calls Tryz.prog 76 #[.int .i64 a] w fun e w' => e = .returned (.bool (numB a)) ∧ Drawn0 w w' := ver_num.calls a _ w (ver_num_f a)
theorem ver_any_calls (x : ByteArray) (w : World) : Calls Tryz.prog 75 #[.string x] w fun e w' => e = .returned (.bool true) ∧ Drawn0 w w' := by
  go_enter Tryz.func75, Tryz.ntmps75
  go_wp2
  go_ret
  exact ⟨rfl, Drawn0.refl _⟩
theorem ver_words_tight (k : Nat) (a0 : ByteArray) (r : Bool) (w : World) (hsz : a0.size ≤ 30) (h : allM (wordM k (ver_tight.f k)) (splitBy 46 a0) = some r) :
    Calls Tryz.prog 77 #[.string a0, .func (.func 78) #[] #[]] w fun e w' => e = .returned (.bool r) ∧ Below w.heap.size w w' :=
  ver_words_calls 78 (enters_of Tryz.func78 (by kernel_rfl) rfl) k (ver_tight.f k) a0 r w (by omega) (fun x b W h => ver_tight.calls k x b W h) h
theorem ver_words_any (k : Nat) (a0 : ByteArray) (r : Bool) (w : World) (hsz : a0.size ≤ 30) (h : allM (wordM k fun _ => some true) (splitBy 46 a0) = some r) :
    Calls Tryz.prog 77 #[.string a0, .func (.func 75) #[] #[]] w fun e w' => e = .returned (.bool r) ∧ Below w.heap.size w w' :=
  ver_words_calls 75 (enters_of Tryz.func75 (by kernel_rfl) rfl) k (fun _ => some true) a0 r w (by omega) (fun x b W h => by obtain rfl := Option.some.inj h; exact ver_any_calls x W) h
theorem nonempty_of {a : ByteArray} (h : ¬ a.size = 0) : a.toList.isEmpty = false ∧ ¬ (a.toList = []) := by
  have e : a.toList = a.data.toList := ByteArray.toList_eq a
  rw [e]
  rw [Lib.size_eq] at h
  cases hl : a.data.toList with
  | nil => rw [hl] at h; exact absurd rfl h
  | cons x xs => exact ⟨rfl, by simp⟩
theorem empty_of {a : ByteArray} (h : a.size = 0) : a = ⟨#[]⟩ := by
  rw [Lib.size_eq] at h
  exact by_data (List.eq_nil_of_length_eq_zero h)
/-- What stands ahead of releases, and behind them. -/
def preM (k : Nat) (a : ByteArray) : Option Bool := if a.size = 0 then some true else allM (wordM k (ver_tight.f k)) (splitBy 46 a)
def buildM (k : Nat) (a : ByteArray) : Option Bool := if a.size = 0 then some true else allM (wordM k fun _ => some true) (splitBy 46 a)
def ver_Check.f (k : Nat) (a0_0 a0_1 a0_2 : Int) (a0_3 a0_4 : ByteArray) : Option Bool :=
  if numB a0_0 = true then (if numB a0_1 = true then (if numB a0_2 = true then
    (if (a0_3.size : Int) > 30 then some false else if (a0_4.size : Int) > 30 then some false else (preM k a0_3).bind fun b => if b = true then buildM k a0_4 else some false)
  else some false) else some false) else some false
theorem preM_mono (k : Nat) (a : ByteArray) : LeO (preM k a) (preM (k + 1) a) := LeO.ite (LeO.refl _) (allM_mono (wordM_mono k fun x => ver_tight.mono x k) _)
theorem buildM_mono (k : Nat) (a : ByteArray) : LeO (buildM k a) (buildM (k + 1) a) := LeO.ite (LeO.refl _) (allM_mono (wordM_mono k fun x => LeO.refl _) _)
theorem ver_Check.mono : ∀ a0 a1 a2 a3 a4 k, LeO (ver_Check.f k a0 a1 a2 a3 a4) (ver_Check.f (k + 1) a0 a1 a2 a3 a4) := fun a0 a1 a2 a3 a4 k =>
  LeO.ite (LeO.ite (LeO.ite (LeO.ite (LeO.refl _) (LeO.ite (LeO.refl _) (LeO.bind (preM_mono k a3) fun _ => LeO.ite (buildM_mono k a4) (LeO.refl _)))) (LeO.refl _)) (LeO.refl _)) (LeO.refl _)
set_option maxRecDepth 100000 in
set_option maxHeartbeats 4000000 in
theorem ver_Check.calls (k : Nat) (a0_0 a0_1 a0_2 : Int) (a0_3 a0_4 : ByteArray) (r : Bool) (w : World) (h : ver_Check.f k a0_0 a0_1 a0_2 a0_3 a0_4 = some r) :
    Calls Tryz.prog 44 #[.agg #[.int .i64 a0_0, .int .i64 a0_1, .int .i64 a0_2, .string a0_3, .string a0_4]] w fun e w' => e = .returned (.bool r) ∧ Below w.heap.size w w' := by
  have HB := Aside0.mk (below_alloc (Below.refl w.heap.size w) (.cells #[.int .i64 a0_0, .int .i64 a0_1, .int .i64 a0_2, .string a0_3, .string a0_4] 30))
  unfold ver_Check.f at h
  by_cases h0 : numB a0_0 = true
  · rw [if_pos h0] at h
    by_cases h1 : numB a0_1 = true
    · rw [if_pos h1] at h
      by_cases h2 : numB a0_2 = true
      · rw [if_pos h2] at h
        by_cases h3 : (a0_3.size : Int) > 30
        · rw [if_pos h3] at h
          obtain rfl := Option.some.inj h
          clear h
          go_enter Tryz.func44, Tryz.ntmps44
          go_wp2_with (go_at_call 76; refine (ver_num_any _ _).mono ?_; rintro e w' ⟨rfl, ⟨nd, rfl⟩⟩)
          go_ret
          exact ⟨rfl, by repeat (first | exact HB.out | apply pw_below_drewN)⟩
        · rw [if_neg h3] at h
          have h3' : a0_3.size ≤ 30 := by omega
          by_cases h4 : (a0_4.size : Int) > 30
          · rw [if_pos h4] at h
            obtain rfl := Option.some.inj h
            clear h
            go_enter Tryz.func44, Tryz.ntmps44
            go_wp2_with (go_at_call 76; refine (ver_num_any _ _).mono ?_; rintro e w' ⟨rfl, ⟨nd, rfl⟩⟩)
            go_ret
            exact ⟨rfl, by repeat (first | exact HB.out | apply pw_below_drewN)⟩
          · rw [if_neg h4] at h
            have h4' : a0_4.size ≤ 30 := by omega
            obtain ⟨b, hb, h⟩ := Option.bind_eq_some_iff.1 h
            unfold preM at hb
            by_cases e3 : a0_3.size = 0
            · rw [if_pos e3] at hb
              obtain rfl := Option.some.inj hb
              rw [if_pos rfl] at h
              have m3 : a0_3.toList = [] := by rw [empty_of e3, ByteArray.toList_eq]
              have n3 : a0_3.toList.isEmpty = true := by rw [m3]; rfl
              clear e3 h3 hb
              unfold buildM at h
              by_cases e4 : a0_4.size = 0
              · rw [if_pos e4] at h
                obtain rfl := Option.some.inj h
                obtain rfl := empty_of e4
                clear e4 h4 h4' h
                go_enter Tryz.func44, Tryz.ntmps44
                go_wp2_with (first
                  | (go_at_call 76; refine (ver_num_any _ _).mono ?_; rintro e w' ⟨rfl, ⟨nd, rfl⟩⟩))
                go_ret
                exact ⟨rfl, by repeat (first | exact HB.out | apply pw_below_drewN)⟩
              · rw [if_neg e4] at h
                obtain ⟨n4, m4⟩ := nonempty_of e4
                have HQ := Aside0.mk h
                clear h e4
                go_enter Tryz.func44, Tryz.ntmps44
                go_wp2_with (first
                  | (go_at_call 76; refine (ver_num_any _ _).mono ?_; rintro e w' ⟨rfl, ⟨nd, rfl⟩⟩)
                  | (go_at_call 77; (with_reducible refine (ver_words_any k a0_4 r _ h4' HQ.out).mono ?_); rintro e w2 ⟨rfl, hw2⟩; have HB2 := Aside0.mk (below_step (by repeat (first | exact HB.out | apply pw_below_drewN)) hw2); clear hw2))
                go_ret
                exact ⟨rfl, by repeat (first | exact HB2.out | apply pw_below_drewN)⟩
            · rw [if_neg e3] at hb
              obtain ⟨n3, m3⟩ := nonempty_of e3
              have HP := Aside0.mk hb
              clear hb e3
              cases b with
              | false =>
                rw [if_neg (by simp)] at h
                obtain rfl := Option.some.inj h
                clear h
                go_enter Tryz.func44, Tryz.ntmps44
                go_wp2_with (first
                  | (go_at_call 76; refine (ver_num_any _ _).mono ?_; rintro e w' ⟨rfl, ⟨nd, rfl⟩⟩)
                  | (go_at_call 77; (with_reducible refine (ver_words_tight k a0_3 false _ h3' HP.out).mono ?_); rintro e w1 ⟨rfl, hw1⟩; have hc4 : w1.cell? ⟨w.heap.size, 4, none⟩ = some (.string a0_4) := pw_cell_below hw1 (by simp); have HB1 := Aside0.mk (below_step (by repeat (first | exact HB.out | apply pw_below_drewN)) hw1); clear hw1))
                go_ret
                exact ⟨rfl, by repeat (first | exact HB1.out | apply pw_below_drewN)⟩
              | true =>
                rw [if_pos rfl] at h
                unfold buildM at h
                by_cases e4 : a0_4.size = 0
                · rw [if_pos e4] at h
                  obtain rfl := Option.some.inj h
                  obtain rfl := empty_of e4
                  clear e4 h4 h4' h
                  go_enter Tryz.func44, Tryz.ntmps44
                  go_wp2_with (first
                    | (go_at_call 76; refine (ver_num_any _ _).mono ?_; rintro e w' ⟨rfl, ⟨nd, rfl⟩⟩)
                    | (go_at_call 77; (with_reducible refine (ver_words_tight k a0_3 true _ h3' HP.out).mono ?_); rintro e w1 ⟨rfl, hw1⟩; have hc4 : w1.cell? ⟨w.heap.size, 4, none⟩ = some (.string ⟨#[]⟩) := pw_cell_below hw1 (by simp); have HB1 := Aside0.mk (below_step (by repeat (first | exact HB.out | apply pw_below_drewN)) hw1); clear hw1))
                  go_ret
                  exact ⟨rfl, by repeat (first | exact HB1.out | apply pw_below_drewN)⟩
                · rw [if_neg e4] at h
                  obtain ⟨n4, m4⟩ := nonempty_of e4
                  have HQ := Aside0.mk h
                  clear h e4
                  go_enter Tryz.func44, Tryz.ntmps44
                  go_wp2_with (first
                    | (go_at_call 76; refine (ver_num_any _ _).mono ?_; rintro e w' ⟨rfl, ⟨nd, rfl⟩⟩)
                    | (go_at_call 77; (with_reducible refine (ver_words_tight k a0_3 true _ h3' HP.out).mono ?_); rintro e w1 ⟨rfl, hw1⟩; have hc4 : w1.cell? ⟨w.heap.size, 4, none⟩ = some (.string a0_4) := pw_cell_below hw1 (by simp); have HB1 := Aside0.mk (below_step (by repeat (first | exact HB.out | apply pw_below_drewN)) hw1); clear hw1)
                    | (go_at_call 77; (with_reducible refine (ver_words_any k a0_4 r _ h4' HQ.out).mono ?_); rintro e w2 ⟨rfl, hw2⟩; have HB2 := Aside0.mk (below_step (by repeat (first | exact HB1.out | apply pw_below_drewN)) hw2); clear hw2))
                  go_ret
                  exact ⟨rfl, by repeat (first | exact HB2.out | apply pw_below_drewN)⟩
      · rw [if_neg h2] at h
        obtain rfl := Option.some.inj h
        clear h
        have h2' : numB a0_2 = false := by simpa using h2
        go_enter Tryz.func44, Tryz.ntmps44
        go_wp2_with (go_at_call 76; refine (ver_num_any _ _).mono ?_; rintro e w' ⟨rfl, ⟨nd, rfl⟩⟩)
        go_ret
        exact ⟨rfl, by repeat (first | exact HB.out | apply pw_below_drewN)⟩
    · rw [if_neg h1] at h
      obtain rfl := Option.some.inj h
      clear h
      have h1' : numB a0_1 = false := by simpa using h1
      go_enter Tryz.func44, Tryz.ntmps44
      go_wp2_with (go_at_call 76; refine (ver_num_any _ _).mono ?_; rintro e w' ⟨rfl, ⟨nd, rfl⟩⟩)
      go_ret
      exact ⟨rfl, by repeat (first | exact HB.out | apply pw_below_drewN)⟩
  · rw [if_neg h0] at h
    obtain rfl := Option.some.inj h
    clear h
    have h0' : numB a0_0 = false := by simpa using h0
    go_enter Tryz.func44, Tryz.ntmps44
    go_wp2_with (go_at_call 76; refine (ver_num_any _ _).mono ?_; rintro e w' ⟨rfl, ⟨nd, rfl⟩⟩)
    go_ret
    exact ⟨rfl, by repeat (first | exact HB.out | apply pw_below_drewN)⟩
end Go.Proofs.YtnnogepjkfllnaaGreatDoor
end
