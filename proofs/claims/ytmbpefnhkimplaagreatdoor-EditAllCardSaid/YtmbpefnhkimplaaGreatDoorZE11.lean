/- The texts VerCheck, Pl2, Major in one file, without what these claims do not use (put together by prune2.py). -/
import Derived.Test.YtmbpefnhkimplaaGreatDoorZE10
import Derived.Test.YtmbpefnhkimplaaGreatDoorZE9
import Derived.Test.YtmbpefnhkimplaaGreatDoorZE7
import Derived.WalkKit
import Derived.WideLaws
import Derived.Outline
section
namespace Go.Proofs.YtmbpefnhkimplaaGreatDoor
open Go Go.RowKit Go.Shelf Go.Proofs.YtmbpefnhkimplaaGreatDoorW.PrintWords Go.Proofs.YtmbpefnhkimplaaGreatDoor.K0 Go.Proofs.YtmbpefnhkimplaaGreatDoor.R1
set_option linter.unusedVariables false
set_option linter.unusedSimpArgs false
def numB (a : Int) : Bool := decide (0 ≤ a) && decide (a ≤ 999999999)
theorem ver_num_f (a : Int) : ver_num.f a = some (numB a) := by
  unfold ver_num.f numB
  split <;> rename_i h <;> simp <;> omega
theorem ver_num_any (a : Int) (w : World) : Calls Tryz.prog 86 #[.int .i64 a] w fun e w' => e = .returned (.bool (numB a)) ∧ Drawn0 w w' := ver_num.calls a _ w (ver_num_f a)
theorem ver_any_calls (x : ByteArray) (w : World) : Calls Tryz.prog 85 #[.string x] w fun e w' => e = .returned (.bool true) ∧ Drawn0 w w' := by
  go_enter Tryz.func85, Tryz.ntmps85
  go_wp2
  go_ret
  exact ⟨rfl, Drawn0.refl _⟩
theorem ver_words_tight (k : Nat) (a0 : ByteArray) (r : Bool) (w : World) (hsz : a0.size ≤ 30) (h : allM (wordM k (ver_tight.f k)) (splitBy 46 a0) = some r) :
    Calls Tryz.prog 87 #[.string a0, .func (.func 88) #[] #[]] w fun e w' => e = .returned (.bool r) ∧ Below w.heap.size w w' :=
  ver_words_calls 88 (enters_of Tryz.func88 (by kernel_rfl) rfl) k (ver_tight.f k) a0 r w (by omega) (fun x b W h => ver_tight.calls k x b W h) h
theorem ver_words_any (k : Nat) (a0 : ByteArray) (r : Bool) (w : World) (hsz : a0.size ≤ 30) (h : allM (wordM k fun _ => some true) (splitBy 46 a0) = some r) :
    Calls Tryz.prog 87 #[.string a0, .func (.func 85) #[] #[]] w fun e w' => e = .returned (.bool r) ∧ Below w.heap.size w w' :=
  ver_words_calls 85 (enters_of Tryz.func85 (by kernel_rfl) rfl) k (fun _ => some true) a0 r w (by omega) (fun x b W h => by obtain rfl := Option.some.inj h; exact ver_any_calls x W) h
theorem nonempty_of {a : ByteArray} (h : ¬ a.size = 0) : a.toList.isEmpty = false ∧ ¬ (a.toList = []) := by
  have e : a.toList = a.data.toList := ByteArray.toList_eq a
  rw [e]
  rw [Lib.size_eq] at h
  cases hl : a.data.toList with
  | nil => rw [hl] at h; exact absurd rfl h
  | cons x xs => exact ⟨rfl, by simp⟩
theorem empty_of {a : ByteArray} (h : a.size = 0) : a = ⟨#[]⟩ := by
  rw [Lib.size_eq] at h
  exact by_data (List.eq_nil_of_length_eq_zero h)
/-- What stands ahead of releases, and behind them. -/
def preM (k : Nat) (a : ByteArray) : Option Bool := if a.size = 0 then some true else allM (wordM k (ver_tight.f k)) (splitBy 46 a)
def buildM (k : Nat) (a : ByteArray) : Option Bool := if a.size = 0 then some true else allM (wordM k fun _ => some true) (splitBy 46 a)
def ver_Check.f (k : Nat) (a0_0 a0_1 a0_2 : Int) (a0_3 a0_4 : ByteArray) : Option Bool :=
  if numB a0_0 = true then (if numB a0_1 = true then (if numB a0_2 = true then
    (if (a0_3.size : Int) > 30 then some false else if (a0_4.size : Int) > 30 then some false else (preM k a0_3).bind fun b => if b = true then buildM k a0_4 else some false)
  else some false) else some false) else some false
theorem preM_mono (k : Nat) (a : ByteArray) : LeO (preM k a) (preM (k + 1) a) := LeO.ite (LeO.refl _) (allM_mono (wordM_mono k fun x => ver_tight.mono x k) _)
theorem buildM_mono (k : Nat) (a : ByteArray) : LeO (buildM k a) (buildM (k + 1) a) := LeO.ite (LeO.refl _) (allM_mono (wordM_mono k fun x => LeO.refl _) _)
theorem ver_Check.mono : ∀ a0 a1 a2 a3 a4 k, LeO (ver_Check.f k a0 a1 a2 a3 a4) (ver_Check.f (k + 1) a0 a1 a2 a3 a4) := fun a0 a1 a2 a3 a4 k =>
  LeO.ite (LeO.ite (LeO.ite (LeO.ite (LeO.refl _) (LeO.ite (LeO.refl _) (LeO.bind (preM_mono k a3) fun _ => LeO.ite (buildM_mono k a4) (LeO.refl _)))) (LeO.refl _)) (LeO.refl _)) (LeO.refl _)
set_option maxRecDepth 100000 in
set_option maxHeartbeats 4000000 in
theorem ver_Check.calls (k : Nat) (a0_0 a0_1 a0_2 : Int) (a0_3 a0_4 : ByteArray) (r : Bool) (w : World) (h : ver_Check.f k a0_0 a0_1 a0_2 a0_3 a0_4 = some r) :
    Calls Tryz.prog 58 #[.agg #[.int .i64 a0_0, .int .i64 a0_1, .int .i64 a0_2, .string a0_3, .string a0_4]] w fun e w' => e = .returned (.bool r) ∧ Below w.heap.size w w' := by
  have HB := Aside0.mk (below_alloc (Below.refl w.heap.size w) (.cells #[.int .i64 a0_0, .int .i64 a0_1, .int .i64 a0_2, .string a0_3, .string a0_4] 23))
  unfold ver_Check.f at h
  by_cases h0 : numB a0_0 = true
  · rw [if_pos h0] at h
    by_cases h1 : numB a0_1 = true
    · rw [if_pos h1] at h
      by_cases h2 : numB a0_2 = true
      · rw [if_pos h2] at h
        by_cases h3 : (a0_3.size : Int) > 30
        · rw [if_pos h3] at h
          obtain rfl := Option.some.inj h
          clear h
          go_enter Tryz.func58, Tryz.ntmps58
          go_wp2_with (go_at_call 86; refine (ver_num_any _ _).mono ?_; rintro e w' ⟨rfl, ⟨nd, rfl⟩⟩)
          go_ret
          exact ⟨rfl, by repeat (first | exact HB.out | apply pw_below_drewN)⟩
        · rw [if_neg h3] at h
          have h3' : a0_3.size ≤ 30 := by omega
          by_cases h4 : (a0_4.size : Int) > 30
          · rw [if_pos h4] at h
            obtain rfl := Option.some.inj h
            clear h
            go_enter Tryz.func58, Tryz.ntmps58
            go_wp2_with (go_at_call 86; refine (ver_num_any _ _).mono ?_; rintro e w' ⟨rfl, ⟨nd, rfl⟩⟩)
            go_ret
            exact ⟨rfl, by repeat (first | exact HB.out | apply pw_below_drewN)⟩
          · rw [if_neg h4] at h
            have h4' : a0_4.size ≤ 30 := by omega
            obtain ⟨b, hb, h⟩ := Option.bind_eq_some_iff.1 h
            unfold preM at hb
            by_cases e3 : a0_3.size = 0
            · rw [if_pos e3] at hb
              obtain rfl := Option.some.inj hb
              rw [if_pos rfl] at h
              have m3 : a0_3.toList = [] := by rw [empty_of e3, ByteArray.toList_eq]
              have n3 : a0_3.toList.isEmpty = true := by rw [m3]; rfl
              clear e3 h3 hb
              unfold buildM at h
              by_cases e4 : a0_4.size = 0
              · rw [if_pos e4] at h
                obtain rfl := Option.some.inj h
                obtain rfl := empty_of e4
                clear e4 h4 h4' h
                go_enter Tryz.func58, Tryz.ntmps58
                go_wp2_with (first
                  | (go_at_call 86; refine (ver_num_any _ _).mono ?_; rintro e w' ⟨rfl, ⟨nd, rfl⟩⟩))
                go_ret
                exact ⟨rfl, by repeat (first | exact HB.out | apply pw_below_drewN)⟩
              · rw [if_neg e4] at h
                obtain ⟨n4, m4⟩ := nonempty_of e4
                have HQ := Aside0.mk h
                clear h e4
                go_enter Tryz.func58, Tryz.ntmps58
                go_wp2_with (first
                  | (go_at_call 86; refine (ver_num_any _ _).mono ?_; rintro e w' ⟨rfl, ⟨nd, rfl⟩⟩)
                  | (go_at_call 87; (with_reducible refine (ver_words_any k a0_4 r _ h4' HQ.out).mono ?_); rintro e w2 ⟨rfl, hw2⟩; have HB2 := Aside0.mk (below_step (by repeat (first | exact HB.out | apply pw_below_drewN)) hw2); clear hw2))
                go_ret
                exact ⟨rfl, by repeat (first | exact HB2.out | apply pw_below_drewN)⟩
            · rw [if_neg e3] at hb
              obtain ⟨n3, m3⟩ := nonempty_of e3
              have HP := Aside0.mk hb
              clear hb e3
              cases b with
              | false =>
                rw [if_neg (by simp)] at h
                obtain rfl := Option.some.inj h
                clear h
                go_enter Tryz.func58, Tryz.ntmps58
                go_wp2_with (first
                  | (go_at_call 86; refine (ver_num_any _ _).mono ?_; rintro e w' ⟨rfl, ⟨nd, rfl⟩⟩)
                  | (go_at_call 87; (with_reducible refine (ver_words_tight k a0_3 false _ h3' HP.out).mono ?_); rintro e w1 ⟨rfl, hw1⟩; have hc4 : w1.cell? ⟨w.heap.size, 4, none⟩ = some (.string a0_4) := pw_cell_below hw1 (by simp); have HB1 := Aside0.mk (below_step (by repeat (first | exact HB.out | apply pw_below_drewN)) hw1); clear hw1))
                go_ret
                exact ⟨rfl, by repeat (first | exact HB1.out | apply pw_below_drewN)⟩
              | true =>
                rw [if_pos rfl] at h
                unfold buildM at h
                by_cases e4 : a0_4.size = 0
                · rw [if_pos e4] at h
                  obtain rfl := Option.some.inj h
                  obtain rfl := empty_of e4
                  clear e4 h4 h4' h
                  go_enter Tryz.func58, Tryz.ntmps58
                  go_wp2_with (first
                    | (go_at_call 86; refine (ver_num_any _ _).mono ?_; rintro e w' ⟨rfl, ⟨nd, rfl⟩⟩)
                    | (go_at_call 87; (with_reducible refine (ver_words_tight k a0_3 true _ h3' HP.out).mono ?_); rintro e w1 ⟨rfl, hw1⟩; have hc4 : w1.cell? ⟨w.heap.size, 4, none⟩ = some (.string ⟨#[]⟩) := pw_cell_below hw1 (by simp); have HB1 := Aside0.mk (below_step (by repeat (first | exact HB.out | apply pw_below_drewN)) hw1); clear hw1))
                  go_ret
                  exact ⟨rfl, by repeat (first | exact HB1.out | apply pw_below_drewN)⟩
                · rw [if_neg e4] at h
                  obtain ⟨n4, m4⟩ := nonempty_of e4
                  have HQ := Aside0.mk h
                  clear h e4
                  go_enter Tryz.func58, Tryz.ntmps58
                  go_wp2_with (first
                    | (go_at_call 86; refine (ver_num_any _ _).mono ?_; rintro e w' ⟨rfl, ⟨nd, rfl⟩⟩)
                    | (go_at_call 87; (with_reducible refine (ver_words_tight k a0_3 true _ h3' HP.out).mono ?_); rintro e w1 ⟨rfl, hw1⟩; have hc4 : w1.cell? ⟨w.heap.size, 4, none⟩ = some (.string a0_4) := pw_cell_below hw1 (by simp); have HB1 := Aside0.mk (below_step (by repeat (first | exact HB.out | apply pw_below_drewN)) hw1); clear hw1)
                    | (go_at_call 87; (with_reducible refine (ver_words_any k a0_4 r _ h4' HQ.out).mono ?_); rintro e w2 ⟨rfl, hw2⟩; have HB2 := Aside0.mk (below_step (by repeat (first | exact HB1.out | apply pw_below_drewN)) hw2); clear hw2))
                  go_ret
                  exact ⟨rfl, by repeat (first | exact HB2.out | apply pw_below_drewN)⟩
      · rw [if_neg h2] at h
        obtain rfl := Option.some.inj h
        clear h
        have h2' : numB a0_2 = false := by simpa using h2
        go_enter Tryz.func58, Tryz.ntmps58
        go_wp2_with (go_at_call 86; refine (ver_num_any _ _).mono ?_; rintro e w' ⟨rfl, ⟨nd, rfl⟩⟩)
        go_ret
        exact ⟨rfl, by repeat (first | exact HB.out | apply pw_below_drewN)⟩
    · rw [if_neg h1] at h
      obtain rfl := Option.some.inj h
      clear h
      have h1' : numB a0_1 = false := by simpa using h1
      go_enter Tryz.func58, Tryz.ntmps58
      go_wp2_with (go_at_call 86; refine (ver_num_any _ _).mono ?_; rintro e w' ⟨rfl, ⟨nd, rfl⟩⟩)
      go_ret
      exact ⟨rfl, by repeat (first | exact HB.out | apply pw_below_drewN)⟩
  · rw [if_neg h0] at h
    obtain rfl := Option.some.inj h
    clear h
    have h0' : numB a0_0 = false := by simpa using h0
    go_enter Tryz.func58, Tryz.ntmps58
    go_wp2_with (go_at_call 86; refine (ver_num_any _ _).mono ?_; rintro e w' ⟨rfl, ⟨nd, rfl⟩⟩)
    go_ret
    exact ⟨rfl, by repeat (first | exact HB.out | apply pw_below_drewN)⟩
end Go.Proofs.YtmbpefnhkimplaaGreatDoor
end

section
namespace Go.Proofs.YtmbpefnhkimplaaGreatDoor
open Go Go.RowKit Go.Proofs.YtmbpefnhkimplaaGreatDoorW.PrintWords Go.Proofs.YtmbpefnhkimplaaGreatDoor.K0 Go.Proofs.YtmbpefnhkimplaaGreatDoor.R1
set_option linter.unusedVariables false
set_option linter.unusedSimpArgs false
theorem rd_at {l : List ByteArray} {n : Nat} (h : n < l.length) : ∃ x, rdOf ByteArray.empty l (n : Int) = x ∧ l.drop n = x :: l.drop (n + 1) ∧ l[n]? = some x := by
  refine ⟨l[n], ?_, List.drop_eq_getElem_cons h, List.getElem?_eq_getElem h⟩
  unfold rdOf
  show l.getD n _ = _
  rw [List.getD_eq_getElem?_getD, List.getElem?_eq_getElem h]; rfl
theorem allM_all {f : ByteArray → Option Bool} {p : ByteArray → Bool} : ∀ {l : List ByteArray}, (∀ x ∈ l, f x = some (p x)) → allM f l = some (l.all p)
  | [], _ => rfl
  | x :: xs, h => by
    unfold allM
    rw [h x List.mem_cons_self]
    simp only [Option.bind_some, List.all_cons]
    have ih := allM_all (fun y hy => h y (List.mem_cons_of_mem x hy))
    cases p x <;> simp [ih]
theorem split_size {c : UInt8} {s x : ByteArray} (h : x ∈ splitBy c s) : x.size ≤ s.size := by
  unfold splitBy at h
  obtain ⟨l, hl, rfl⟩ := List.mem_map.1 h
  rw [ba_size, Lib.size_eq]
  exact (splitC_parts hl).2
theorem all_split (c : UInt8) (s : ByteArray) (p : List UInt8 → Bool) : ((splitBy c s).all fun x => p x.data.toList) = (splitC c s.data.toList).all p := by
  unfold splitBy
  rw [List.all_map]
  rfl
def pathOk (s : ByteArray) : Bool := decide (s.size ≤ 60) && (splitC 47 s.data.toList).all partOk
theorem files_Path_f (s : ByteArray) (k : Nat) (hk : 60 < k) : files_Path.f k s = some (pathOk s) := by
  unfold files_Path.f pathOk
  by_cases h : (s.size : Int) > 60
  · rw [if_pos h, decide_eq_false (by omega)]; rfl
  · rw [if_neg h, decide_eq_true (by omega), ← all_split]
    exact allM_all fun x hx => files_part_f x (by have := split_size hx; omega) k (by have := split_size hx; omega)
theorem split_len (c : UInt8) (s : ByteArray) : (splitBy c s).length ≤ s.size + 1 := by
  unfold splitBy
  rw [List.length_map, splitC_length, Lib.size_eq]
  have := List.count_le_length (a := c) (l := s.data.toList)
  omega
def okId (z : Bool) (W : List UInt8) : Bool := wordOk W && (z || tightOk W)
def idsOk (z : Bool) (s : ByteArray) : Bool := (splitC 46 s.data.toList).all (okId z)
def preOk (s : ByteArray) : Bool := decide (s.size = 0) || idsOk false s
def buildOk (s : ByteArray) : Bool := decide (s.size = 0) || idsOk true s
def verOk (a b c : Int) (p q : ByteArray) : Bool := numB a && (numB b && (numB c && (decide (p.size ≤ 30) && (decide (q.size ≤ 30) && (preOk p && buildOk q)))))
theorem wordM_f (x : ByteArray) (z : Bool) (may : ByteArray → Option Bool) (k : Nat) (hs : x.size ≤ 4294967290) (hk : x.size < k) (hm : may x = some (z || tightOk x.data.toList)) : wordM k may x = some (okId z x.data.toList) := by
  unfold wordM okId
  rw [word_f x hs k hk, hm]
  simp only [Option.bind_some]
  cases wordOk x.data.toList <;> simp
theorem preM_f (s : ByteArray) (hs : s.size ≤ 30) (k : Nat) (hk : 30 < k) : preM k s = some (preOk s) := by
  unfold preM preOk
  by_cases h : s.size = 0
  · rw [if_pos h, decide_eq_true h]; rfl
  · rw [if_neg h, decide_eq_false h, Bool.false_or]
    unfold idsOk
    rw [← all_split]
    exact allM_all fun x hx => by
      have := split_size hx
      exact wordM_f x false _ k (by omega) (by omega) (by rw [Bool.false_or]; exact tight_f x (by omega) k (by omega))
theorem buildM_f (s : ByteArray) (hs : s.size ≤ 30) (k : Nat) (hk : 30 < k) : buildM k s = some (buildOk s) := by
  unfold buildM buildOk
  by_cases h : s.size = 0
  · rw [if_pos h, decide_eq_true h]; rfl
  · rw [if_neg h, decide_eq_false h, Bool.false_or]
    unfold idsOk
    rw [← all_split]
    exact allM_all fun x hx => by
      have := split_size hx
      exact wordM_f x true _ k (by omega) (by omega) rfl
theorem ver_Check_f (a b c : Int) (p q : ByteArray) (k : Nat) (hk : 30 < k) : ver_Check.f k a b c p q = some (verOk a b c p q) := by
  unfold ver_Check.f verOk
  cases numB a <;> cases numB b <;> cases numB c <;> simp only [if_true, if_false, Bool.false_eq_true, Bool.true_and, Bool.false_and]
  by_cases h3 : (p.size : Int) > 30
  · rw [if_pos h3, decide_eq_false (by omega)]; rfl
  · rw [if_neg h3, decide_eq_true (by omega)]
    by_cases h4 : (q.size : Int) > 30
    · rw [if_pos h4, decide_eq_false (by omega)]; rfl
    · rw [if_neg h4, decide_eq_true (by omega), preM_f p (by omega) k hk, buildM_f q (by omega) k hk]
      simp only [Option.bind_some]
      cases preOk p <;> simp
end Go.Proofs.YtmbpefnhkimplaaGreatDoor
end

section
namespace Go.Proofs.YtmbpefnhkimplaaGreatDoor
open Go Go.RowKit Go.Proofs.YtmbpefnhkimplaaGreatDoorW.PrintWords
set_option linter.unusedVariables false
set_option linter.unusedSimpArgs false
def digs : List UInt8 := [48, 49, 50, 51, 52, 53, 54, 55, 56, 57]
/-- What the bytes of a part tell. -/
def majorOf (l : List UInt8) : Int × Bool :=
  if Lib.hasPrefix l [118] = true then
    (if l.drop 1 = [] then (0, false) else if Lib.trimS (l.drop 1) digs = [] then
      (match Lib.atoiAll (l.drop 1) with
       | .ok v => if v < 2 then (0, true) else if v > 999999999 then (0, true) else if Lib.itoa v = l.drop 1 then (v, true) else (0, true)
       | _ => (0, true))
     else (0, false))
  else (0, false)
def mpath_major.f (a0 : ByteArray) : Option (Int × Bool) := if a0.size ≤ 281474976710656 then some (majorOf a0.data.toList) else none
theorem cut_yes (a0 D : ByteArray) (w : World) (h : Lib.hasPrefix a0.data.toList [118] = true) (hD : D.data.toList = a0.data.toList.drop 1) :
    Calls Tryz.prog 140 #[.string a0, .string ⟨#[118]⟩] w fun e w' => e = .returned (.tuple #[.string D, .bool true]) ∧ w = w' := by
  refine (Tryz.strings_CutPrefix a0 ⟨#[118]⟩ w).mono ?_
  rintro e w' ⟨rfl, rfl⟩
  have e2 : (⟨(Lib.trimPrefix a0.data.toList [118]).toArray⟩ : ByteArray) = D := by
    apply by_data
    rw [hD]
    show Lib.trimPrefix a0.data.toList [118] = _
    rw [Lib.trimPrefix, if_pos h]; rfl
  have h' : Lib.hasPrefix a0.data.toList (⟨#[118]⟩ : ByteArray).data.toList = true := h
  have e3 : (⟨(Lib.trimPrefix a0.data.toList (⟨#[118]⟩ : ByteArray).data.toList).toArray⟩ : ByteArray) = D := e2
  rw [h', e3]
  exact ⟨rfl, rfl⟩
theorem cut_no (a0 : ByteArray) (w : World) (h : Lib.hasPrefix a0.data.toList [118] = false) :
    Calls Tryz.prog 140 #[.string a0, .string ⟨#[118]⟩] w fun e w' => e = .returned (.tuple #[.string a0, .bool false]) ∧ w = w' := by
  refine (Tryz.strings_CutPrefix a0 ⟨#[118]⟩ w).mono ?_
  rintro e w' ⟨rfl, rfl⟩
  have h' : Lib.hasPrefix a0.data.toList (⟨#[118]⟩ : ByteArray).data.toList = false := h
  have e3 : (⟨(Lib.trimPrefix a0.data.toList (⟨#[118]⟩ : ByteArray).data.toList).toArray⟩ : ByteArray) = a0 := by
    rw [Lib.trimPrefix, h']; rfl
  rw [h', e3]
  exact ⟨rfl, rfl⟩
theorem trim_any (D T : ByteArray) (w : World) (hs : D.size ≤ 281474976710656) (hT : T.data.toList = Lib.trimS D.data.toList digs) :
    Calls Tryz.prog 141 #[.string D, .string ⟨#[48, 49, 50, 51, 52, 53, 54, 55, 56, 57]⟩] w fun e w' => e = .returned (.string T) ∧ Below w.heap.size w w' := by
  refine (Tryz.strings_Trim_laid D ⟨#[48, 49, 50, 51, 52, 53, 54, 55, 56, 57]⟩ w (by omega) (by decide) (Go.Proofs.ascii_of_all (by decide))).mono ?_
  rintro e w' ⟨rfl, hb⟩
  have e2 : (⟨(Lib.trimS D.data.toList (⟨#[48, 49, 50, 51, 52, 53, 54, 55, 56, 57]⟩ : ByteArray).data.toList).toArray⟩ : ByteArray) = T := by_data hT.symm
  rw [e2]
  exact ⟨rfl, hb⟩
theorem atoi_ok (D : ByteArray) (v : Int) (w : World) (hs : D.size ≤ 281474976710656) (h : Lib.atoiAll D.data.toList = .ok v) :
    Calls Tryz.prog 142 #[.string D] w fun e w' => e = .returned (.tuple #[.int .i64 v, .nilIface]) ∧ Below w.heap.size w w' := by
  refine (Tryz.strconv_Atoi_ok D (by omega) v h w).mono ?_
  rintro e w' ⟨rfl, rfl | ⟨t, rfl⟩⟩
  · exact ⟨rfl, Below.refl _ _⟩
  · exact ⟨rfl, Go.Joins.below_bytesWorld _ _ _ _ (Nat.le_refl _)⟩
theorem atoi_bad (D : ByteArray) (w : World) (hG : GW w) (hs : D.size ≤ 281474976710656) (h : ∀ v, Lib.atoiAll D.data.toList ≠ .ok v) :
    Calls Tryz.prog 142 #[.string D] w fun e w' => ∃ (n : Int) (N : Nat), e = .returned (.tuple #[.int .i64 n, .iface 260 (.pointer (some ⟨N, 0, none⟩))]) ∧ Below w.heap.size w w' := by
  cases he : Lib.atoiAll D.data.toList with
  | ok v => exact absurd he (h v)
  | range =>
    obtain ⟨tp, p, hv⟩ := hG.errR
    refine (Tryz.strconv_Atoi_range_var D hs he tp p w hv).mono ?_
    rintro e w' ⟨N, rfl, _, _, hb⟩
    exact ⟨_, N, rfl, hb⟩
  | _ =>
    obtain ⟨tp, p, hv⟩ := hG.errS
    refine (Tryz.strconv_Atoi_syntax_var D hs (he.trans (by rfl)) tp p w hv).mono ?_
    rintro e w' ⟨N, rfl, _, _, hb⟩
    exact ⟨_, N, rfl, hb⟩
set_option maxRecDepth 100000 in
set_option maxHeartbeats 4000000 in
theorem mpath_major.calls (a0 : ByteArray) (r1 : Int) (r2 : Bool) (w : World) (hG0 : GW w) (h : mpath_major.f a0 = some (r1, r2)) :
    Calls Tryz.prog 108 #[.string a0] w fun e w' => e = .returned (.tuple #[.int .i64 r1, .bool r2]) ∧ Below w.heap.size w w' := by
  have hG := Aside0.mk hG0
  clear hG0
  unfold mpath_major.f at h
  by_cases hsz : a0.size ≤ 281474976710656
  · rw [if_pos hsz] at h
    replace h := Option.some.inj h
    unfold majorOf at h
    by_cases hp : Lib.hasPrefix a0.data.toList [118] = true
    · rw [if_pos hp] at h
      have HP := Aside0.mk hp
      clear hp
      obtain ⟨D, hD⟩ : ∃ D : ByteArray, D.data.toList = a0.data.toList.drop 1 := ⟨ba (a0.data.toList.drop 1), rfl⟩
      have hDs : D.size ≤ 281474976710656 := by
        rw [Lib.size_eq] at hsz ⊢
        rw [hD, List.length_drop]; omega
      rw [← hD] at h
      have HD := Aside0.mk hD
      clear hD
      by_cases h0 : D.data.toList = []
      · rw [if_pos h0] at h
        obtain ⟨rfl, rfl⟩ := Prod.mk.inj h
        have m0 : D.toList = [] := by rw [ByteArray.toList_eq]; exact h0
        have n0 : D.toList.isEmpty = true := by rw [m0]; rfl
        clear h0
        go_enter Tryz.func108, Tryz.ntmps108
        go_wp2_with (first
          | (go_at_call 140; (with_reducible refine (cut_yes a0 D _ HP.out HD.out).mono ?_); rintro e w' ⟨rfl, rfl⟩))
        go_ret2
        exact ⟨rfl, Below.refl _ _⟩
      · rw [if_neg h0] at h
        have m0 : ¬ D.toList = [] := by rw [ByteArray.toList_eq]; exact h0
        have n0 : D.toList.isEmpty = false := by rw [List.isEmpty_eq_false_iff]; exact m0
        clear h0
        obtain ⟨T, hT⟩ : ∃ T : ByteArray, T.data.toList = Lib.trimS D.data.toList digs := ⟨ba (Lib.trimS D.data.toList digs), rfl⟩
        by_cases ht : Lib.trimS D.data.toList digs = []
        · rw [if_pos ht] at h
          rw [ht] at hT
          have m1 : T.toList = [] := by rw [ByteArray.toList_eq]; exact hT
          have n1 : T.toList.isEmpty = true := by rw [m1]; rfl
          have HT := Aside0.mk (hT.trans ht.symm)
          clear hT ht
          by_cases hv : ∃ v, Lib.atoiAll D.data.toList = .ok v
          · obtain ⟨v, hv⟩ := hv
            rw [hv] at h
            have HV := Aside0.mk hv
            clear hv
            simp only [] at h
            by_cases c1 : v < 2
            · rw [if_pos c1] at h
              obtain ⟨rfl, rfl⟩ := Prod.mk.inj h
              go_enter Tryz.func108, Tryz.ntmps108
              go_wp2_with (first
                | (go_at_call 140; (with_reducible refine (cut_yes a0 D _ HP.out HD.out).mono ?_); rintro e w' ⟨rfl, rfl⟩)
                | (go_at_call 141; (with_reducible refine (trim_any D T _ hDs HT.out).mono ?_); rintro e w1 ⟨rfl, hw1⟩; have HB1 := Aside0.mk hw1; clear hw1)
                | (go_at_call 142; (with_reducible refine (atoi_ok D v _ hDs HV.out).mono ?_); rintro e w2 ⟨rfl, hw2⟩; have HB2 := Aside0.mk (below_step HB1.out hw2); clear hw2))
              go_ret2
              exact ⟨rfl, HB2.out⟩
            · rw [if_neg c1] at h
              by_cases c2 : v > 999999999
              · rw [if_pos c2] at h
                obtain ⟨rfl, rfl⟩ := Prod.mk.inj h
                go_enter Tryz.func108, Tryz.ntmps108
                go_wp2_with (first
                  | (go_at_call 140; (with_reducible refine (cut_yes a0 D _ HP.out HD.out).mono ?_); rintro e w' ⟨rfl, rfl⟩)
                  | (go_at_call 141; (with_reducible refine (trim_any D T _ hDs HT.out).mono ?_); rintro e w1 ⟨rfl, hw1⟩; have HB1 := Aside0.mk hw1; clear hw1)
                  | (go_at_call 142; (with_reducible refine (atoi_ok D v _ hDs HV.out).mono ?_); rintro e w2 ⟨rfl, hw2⟩; have HB2 := Aside0.mk (below_step HB1.out hw2); clear hw2))
                go_ret2
                exact ⟨rfl, HB2.out⟩
              · rw [if_neg c2] at h
                obtain ⟨S, hS⟩ : ∃ S : ByteArray, S = ba (Lib.itoa v) := ⟨_, rfl⟩
                have HS := Aside0.mk (show strconv_Itoa.f v = some S by unfold strconv_Itoa.f; rw [if_pos (by omega), if_pos (by omega), hS])
                by_cases c3 : Lib.itoa v = D.data.toList
                · rw [if_pos c3] at h
                  obtain ⟨rfl, rfl⟩ := Prod.mk.inj h
                  obtain rfl : D = S := by rw [hS, c3]; rfl
                  clear hS c3
                  go_enter Tryz.func108, Tryz.ntmps108
                  go_wp2_with (first
                    | (go_at_call 140; (with_reducible refine (cut_yes a0 D _ HP.out HD.out).mono ?_); rintro e w' ⟨rfl, rfl⟩)
                    | (go_at_call 141; (with_reducible refine (trim_any D T _ hDs HT.out).mono ?_); rintro e w1 ⟨rfl, hw1⟩; have HB1 := Aside0.mk hw1; clear hw1)
                    | (go_at_call 142; (with_reducible refine (atoi_ok D v _ hDs HV.out).mono ?_); rintro e w2 ⟨rfl, hw2⟩; have HB2 := Aside0.mk (below_step HB1.out hw2); clear hw2)
                    | (go_at_call 59; (with_reducible refine (strconv_Itoa.calls v D _ (hG.out.below HB2.out) HS.out).mono ?_); rintro e w3 ⟨rfl, hw3⟩; have HB3 := Aside0.mk (below_step HB2.out hw3); clear hw3))
                  go_ret2
                  exact ⟨rfl, HB3.out⟩
                · rw [if_neg c3] at h
                  obtain ⟨rfl, rfl⟩ := Prod.mk.inj h
                  have q1 : ¬ S.toList = D.toList := by rw [ByteArray.toList_eq, ByteArray.toList_eq, hS]; exact c3
                  have q2 : (S.toList == D.toList) = false := by simpa using q1
                  have q3 : (S.toList != D.toList) = true := by simpa using q1
                  clear hS c3
                  go_enter Tryz.func108, Tryz.ntmps108
                  go_wp2_with (first
                    | (go_at_call 140; (with_reducible refine (cut_yes a0 D _ HP.out HD.out).mono ?_); rintro e w' ⟨rfl, rfl⟩)
                    | (go_at_call 141; (with_reducible refine (trim_any D T _ hDs HT.out).mono ?_); rintro e w1 ⟨rfl, hw1⟩; have HB1 := Aside0.mk hw1; clear hw1)
                    | (go_at_call 142; (with_reducible refine (atoi_ok D v _ hDs HV.out).mono ?_); rintro e w2 ⟨rfl, hw2⟩; have HB2 := Aside0.mk (below_step HB1.out hw2); clear hw2)
                    | (go_at_call 59; (with_reducible refine (strconv_Itoa.calls v S _ (hG.out.below HB2.out) HS.out).mono ?_); rintro e w3 ⟨rfl, hw3⟩; have HB3 := Aside0.mk (below_step HB2.out hw3); clear hw3))
                  go_ret2
                  exact ⟨rfl, HB3.out⟩
          · have hv' : ∀ v, Lib.atoiAll D.data.toList ≠ .ok v := fun v e => hv ⟨v, e⟩
            have h2 : (0, true) = (r1, r2) := by
              revert h
              cases he : Lib.atoiAll D.data.toList with
              | ok v => exact absurd he (hv' v)
              | range => exact id
              | _ => exact id
            have HV := Aside0.mk hv'
            clear hv hv' h
            obtain ⟨rfl, rfl⟩ := Prod.mk.inj h2
            go_enter Tryz.func108, Tryz.ntmps108
            go_wp2_with (first
              | (go_at_call 140; (with_reducible refine (cut_yes a0 D _ HP.out HD.out).mono ?_); rintro e w' ⟨rfl, rfl⟩)
              | (go_at_call 141; (with_reducible refine (trim_any D T _ hDs HT.out).mono ?_); rintro e w1 ⟨rfl, hw1⟩; have HB1 := Aside0.mk hw1; clear hw1)
              | (go_at_call 142; (with_reducible refine (atoi_bad D _ (hG.out.below HB1.out) hDs HV.out).mono ?_); rintro e w2 ⟨n2, N2, rfl, hw2⟩; have HB2 := Aside0.mk (below_step HB1.out hw2); clear hw2))
            go_ret2
            exact ⟨rfl, HB2.out⟩
        · rw [if_neg ht] at h
          have m1 : ¬ T.toList = [] := by rw [ByteArray.toList_eq, hT]; exact ht
          have n1 : T.toList.isEmpty = false := by rw [List.isEmpty_eq_false_iff]; exact m1
          have HT := Aside0.mk hT
          clear hT ht
          obtain ⟨rfl, rfl⟩ := Prod.mk.inj h
          go_enter Tryz.func108, Tryz.ntmps108
          go_wp2_with (first
            | (go_at_call 140; (with_reducible refine (cut_yes a0 D _ HP.out HD.out).mono ?_); rintro e w' ⟨rfl, rfl⟩)
            | (go_at_call 141; (with_reducible refine (trim_any D T _ hDs HT.out).mono ?_); rintro e w1 ⟨rfl, hw1⟩; have HB1 := Aside0.mk hw1; clear hw1))
          go_ret2
          exact ⟨rfl, HB1.out⟩
    · rw [if_neg hp] at h
      obtain ⟨rfl, rfl⟩ := Prod.mk.inj h
      have HP := Aside0.mk (show Lib.hasPrefix a0.data.toList [118] = false by simpa using hp)
      clear hp
      go_enter Tryz.func108, Tryz.ntmps108
      go_wp2_with (first
        | (go_at_call 140; (with_reducible refine (cut_no a0 _ HP.out).mono ?_); rintro e w' ⟨rfl, rfl⟩))
      go_ret2
      exact ⟨rfl, Below.refl _ _⟩
  · rw [if_neg hsz] at h
    cases h
end Go.Proofs.YtmbpefnhkimplaaGreatDoor
end
