/- The texts CmpV, Major in one file, without what these claims do not use (put together by prune2.py). -/
import Derived.Test.YtillhaipemengaaGreatDoorZB12
import Derived.Lib.Bytealg
import Derived.Lib.Small
import Derived.Test.YtillhaipemengaaGreatDoorZB11
import Derived.WalkKit
import Derived.WideLaws
import Derived.Outline
section
namespace Go.Proofs.YtillhaipemengaaGreatDoor
open Go Go.RowKit Go.Proofs.YtillhaipemengaaGreatDoorW.PrintWords Go.Proofs.YtillhaipemengaaGreatDoor.K0 Go.Proofs.YtillhaipemengaaGreatDoor.R1
set_option linter.unusedVariables false
set_option linter.unusedSimpArgs false
theorem cb_anti : ∀ a b : List UInt8, Lib.compareBytes a b = - Lib.compareBytes b a
  | [], [] => rfl
  | [], _ :: _ => rfl
  | _ :: _, [] => rfl
  | a :: xs, b :: ys => by
    unfold Lib.compareBytes
    by_cases h : a < b
    · have h2 : ¬ b < a := fun e => by have h1 := UInt8.lt_iff_toNat_lt.1 h; have h2 := UInt8.lt_iff_toNat_lt.1 e; omega
      rw [if_pos h, if_neg h2, if_pos h]
    · by_cases h2 : b < a
      · rw [if_neg h, if_pos h2, if_pos h2]; rfl
      · rw [if_neg h, if_neg h2, if_neg h2, if_neg h]; exact cb_anti xs ys
theorem ci_anti (x y : Int) : Lib.compareInt x y = - Lib.compareInt y x := by unfold Lib.compareInt; split <;> split <;> (try split) <;> omega
theorem ci_eq (x y : Int) : Lib.compareInt x y = 0 ↔ x = y := by unfold Lib.compareInt; split <;> (try split) <;> omega
/-- The first of two that is not 0. -/
def orr (x y : Int) : Int := if x = 0 then y else x
theorem orr_neg (x y : Int) : orr (-x) (-y) = - orr x y := by unfold orr; split <;> split <;> omega
def wordCmp (a b : List UInt8) : Int :=
  if digitsOk a = true then (if digitsOk b = true then orr (Lib.compareInt (a.length : Int) (b.length : Int)) (Lib.compareBytes a b) else -1) else (if digitsOk b = true then 1 else Lib.compareBytes a b)
theorem wordCmp_anti (a b : List UInt8) : wordCmp a b = - wordCmp b a := by
  unfold wordCmp
  cases digitsOk a <;> cases digitsOk b <;> simp
  · exact cb_anti a b
  · rw [ci_anti a.length, cb_anti a, orr_neg]
def listCmp : List (List UInt8) → List (List UInt8) → Int
  | [], [] => 0
  | [], _ :: _ => -1
  | _ :: _, [] => 1
  | x :: xs, y :: ys => orr (wordCmp x y) (listCmp xs ys)
theorem listCmp_anti : ∀ a b, listCmp a b = - listCmp b a
  | [], [] => rfl
  | [], _ :: _ => rfl
  | _ :: _, [] => rfl
  | x :: xs, y :: ys => by unfold listCmp; rw [wordCmp_anti x y, listCmp_anti xs ys, orr_neg]
theorem listCmp_refl (a : List (List UInt8)) : listCmp a a = 0 := by have := listCmp_anti a a; omega
def preCmp (a b : List UInt8) : Int := if a = [] then (if b = [] then 0 else 1) else if b = [] then -1 else listCmp (splitC 46 a) (splitC 46 b)
/-- The order of two versions. -/
def verCmp (a b c : Int) (p q : ByteArray) (a2 b2 c2 : Int) (p2 q2 : ByteArray) : Int :=
  if verOk a b c p q = true then (if verOk a2 b2 c2 p2 q2 = true then orr (Lib.compareInt a a2) (orr (Lib.compareInt b b2) (orr (Lib.compareInt c c2) (preCmp p.data.toList p2.data.toList))) else 0) else 0
end Go.Proofs.YtillhaipemengaaGreatDoor
end

section
namespace Go.Proofs.YtillhaipemengaaGreatDoor
open Go Go.RowKit Go.Proofs.YtillhaipemengaaGreatDoorW.PrintWords
set_option linter.unusedVariables false
set_option linter.unusedSimpArgs false
def digs : List UInt8 := [48, 49, 50, 51, 52, 53, 54, 55, 56, 57]
/-- What the bytes of a part tell. -/
def majorOf (l : List UInt8) : Int × Bool :=
  if Lib.hasPrefix l [118] = true then
    (if l.drop 1 = [] then (0, false) else if Lib.trimS (l.drop 1) digs = [] then
      (match Lib.atoiAll (l.drop 1) with
       | .ok v => if v < 2 then (0, true) else if v > 999999999 then (0, true) else if Lib.itoa v = l.drop 1 then (v, true) else (0, true)
       | _ => (0, true))
     else (0, false))
  else (0, false)
def mpath_major.f (a0 : ByteArray) : Option (Int × Bool) := if a0.size ≤ 281474976710656 then some (majorOf a0.data.toList) else none
theorem cut_yes (a0 D : ByteArray) (w : World) (h : Lib.hasPrefix a0.data.toList [118] = true) (hD : D.data.toList = a0.data.toList.drop 1) :
    Calls Tryz.prog 95 #[.string a0, .string ⟨#[118]⟩] w fun e w' => e = .returned (.tuple #[.string D, .bool true]) ∧ w = w' := by
  refine (Tryz.strings_CutPrefix a0 ⟨#[118]⟩ w).mono ?_
  rintro e w' ⟨rfl, rfl⟩
  have e2 : (⟨(Lib.trimPrefix a0.data.toList [118]).toArray⟩ : ByteArray) = D := by
    apply by_data
    rw [hD]
    show Lib.trimPrefix a0.data.toList [118] = _
    rw [Lib.trimPrefix, if_pos h]; rfl
  have h' : Lib.hasPrefix a0.data.toList (⟨#[118]⟩ : ByteArray).data.toList = true := h
  have e3 : (⟨(Lib.trimPrefix a0.data.toList (⟨#[118]⟩ : ByteArray).data.toList).toArray⟩ : ByteArray) = D := e2
  rw [h', e3]
  exact ⟨rfl, rfl⟩
theorem cut_no (a0 : ByteArray) (w : World) (h : Lib.hasPrefix a0.data.toList [118] = false) :
    Calls Tryz.prog 95 #[.string a0, .string ⟨#[118]⟩] w fun e w' => e = .returned (.tuple #[.string a0, .bool false]) ∧ w = w' := by
  refine (Tryz.strings_CutPrefix a0 ⟨#[118]⟩ w).mono ?_
  rintro e w' ⟨rfl, rfl⟩
  have h' : Lib.hasPrefix a0.data.toList (⟨#[118]⟩ : ByteArray).data.toList = false := h
  have e3 : (⟨(Lib.trimPrefix a0.data.toList (⟨#[118]⟩ : ByteArray).data.toList).toArray⟩ : ByteArray) = a0 := by
    rw [Lib.trimPrefix, h']; rfl
  rw [h', e3]
  exact ⟨rfl, rfl⟩
theorem trim_any (D T : ByteArray) (w : World) (hs : D.size ≤ 281474976710656) (hT : T.data.toList = Lib.trimS D.data.toList digs) :
    Calls Tryz.prog 96 #[.string D, .string ⟨#[48, 49, 50, 51, 52, 53, 54, 55, 56, 57]⟩] w fun e w' => e = .returned (.string T) ∧ Below w.heap.size w w' := by
  refine (Tryz.strings_Trim_laid D ⟨#[48, 49, 50, 51, 52, 53, 54, 55, 56, 57]⟩ w (by omega) (by decide) (Go.Proofs.ascii_of_all (by decide))).mono ?_
  rintro e w' ⟨rfl, hb⟩
  have e2 : (⟨(Lib.trimS D.data.toList (⟨#[48, 49, 50, 51, 52, 53, 54, 55, 56, 57]⟩ : ByteArray).data.toList).toArray⟩ : ByteArray) = T := by_data hT.symm
  rw [e2]
  exact ⟨rfl, hb⟩
theorem atoi_ok (D : ByteArray) (v : Int) (w : World) (hs : D.size ≤ 281474976710656) (h : Lib.atoiAll D.data.toList = .ok v) :
    Calls Tryz.prog 97 #[.string D] w fun e w' => e = .returned (.tuple #[.int .i64 v, .nilIface]) ∧ Below w.heap.size w w' := by
  refine (Tryz.strconv_Atoi_ok D (by omega) v h w).mono ?_
  rintro e w' ⟨rfl, rfl | ⟨t, rfl⟩⟩
  · exact ⟨rfl, Below.refl _ _⟩
  · exact ⟨rfl, Go.Joins.below_bytesWorld _ _ _ _ (Nat.le_refl _)⟩
theorem atoi_bad (D : ByteArray) (w : World) (hG : GW w) (hs : D.size ≤ 281474976710656) (h : ∀ v, Lib.atoiAll D.data.toList ≠ .ok v) :
    Calls Tryz.prog 97 #[.string D] w fun e w' => ∃ (n : Int) (N : Nat), e = .returned (.tuple #[.int .i64 n, .iface 175 (.pointer (some ⟨N, 0, none⟩))]) ∧ Below w.heap.size w w' := by
  cases he : Lib.atoiAll D.data.toList with
  | ok v => exact absurd he (h v)
  | range =>
    obtain ⟨tp, p, hv⟩ := hG.errR
    refine (Tryz.strconv_Atoi_range_var D hs he tp p w hv).mono ?_
    rintro e w' ⟨N, rfl, _, _, hb⟩
    exact ⟨_, N, rfl, hb⟩
  | _ =>
    obtain ⟨tp, p, hv⟩ := hG.errS
    refine (Tryz.strconv_Atoi_syntax_var D hs (he.trans (by rfl)) tp p w hv).mono ?_
    rintro e w' ⟨N, rfl, _, _, hb⟩
    exact ⟨_, N, rfl, hb⟩
set_option maxRecDepth 100000 in
set_option maxHeartbeats 4000000 in
theorem mpath_major.calls (a0 : ByteArray) (r1 : Int) (r2 : Bool) (w : World) (hG0 : GW w) (h : mpath_major.f a0 = some (r1, r2)) :
    Calls Tryz.prog 57 #[.string a0] w fun e w' => e = .returned (.tuple #[.int .i64 r1, .bool r2]) ∧ Below w.heap.size w w' := by
  have hG := Aside0.mk hG0
  clear hG0
  unfold mpath_major.f at h
  by_cases hsz : a0.size ≤ 281474976710656
  · rw [if_pos hsz] at h
    replace h := Option.some.inj h
    unfold majorOf at h
    by_cases hp : Lib.hasPrefix a0.data.toList [118] = true
    · rw [if_pos hp] at h
      have HP := Aside0.mk hp
      clear hp
      obtain ⟨D, hD⟩ : ∃ D : ByteArray, D.data.toList = a0.data.toList.drop 1 := ⟨ba (a0.data.toList.drop 1), rfl⟩
      have hDs : D.size ≤ 281474976710656 := by
        rw [Lib.size_eq] at hsz ⊢
        rw [hD, List.length_drop]; omega
      rw [← hD] at h
      have HD := Aside0.mk hD
      clear hD
      by_cases h0 : D.data.toList = []
      · rw [if_pos h0] at h
        obtain ⟨rfl, rfl⟩ := Prod.mk.inj h
        have m0 : D.toList = [] := by rw [ByteArray.toList_eq]; exact h0
        have n0 : D.toList.isEmpty = true := by rw [m0]; rfl
        clear h0
        go_enter Tryz.func57, Tryz.ntmps57
        go_wp2_with (first
          | (go_at_call 95; (with_reducible refine (cut_yes a0 D _ HP.out HD.out).mono ?_); rintro e w' ⟨rfl, rfl⟩))
        go_ret2
        exact ⟨rfl, Below.refl _ _⟩
      · rw [if_neg h0] at h
        have m0 : ¬ D.toList = [] := by rw [ByteArray.toList_eq]; exact h0
        have n0 : D.toList.isEmpty = false := by rw [List.isEmpty_eq_false_iff]; exact m0
        clear h0
        obtain ⟨T, hT⟩ : ∃ T : ByteArray, T.data.toList = Lib.trimS D.data.toList digs := ⟨ba (Lib.trimS D.data.toList digs), rfl⟩
        by_cases ht : Lib.trimS D.data.toList digs = []
        · rw [if_pos ht] at h
          rw [ht] at hT
          have m1 : T.toList = [] := by rw [ByteArray.toList_eq]; exact hT
          have n1 : T.toList.isEmpty = true := by rw [m1]; rfl
          have HT := Aside0.mk (hT.trans ht.symm)
          clear hT ht
          by_cases hv : ∃ v, Lib.atoiAll D.data.toList = .ok v
          · obtain ⟨v, hv⟩ := hv
            rw [hv] at h
            have HV := Aside0.mk hv
            clear hv
            simp only [] at h
            by_cases c1 : v < 2
            · rw [if_pos c1] at h
              obtain ⟨rfl, rfl⟩ := Prod.mk.inj h
              go_enter Tryz.func57, Tryz.ntmps57
              go_wp2_with (first
                | (go_at_call 95; (with_reducible refine (cut_yes a0 D _ HP.out HD.out).mono ?_); rintro e w' ⟨rfl, rfl⟩)
                | (go_at_call 96; (with_reducible refine (trim_any D T _ hDs HT.out).mono ?_); rintro e w1 ⟨rfl, hw1⟩; have HB1 := Aside0.mk hw1; clear hw1)
                | (go_at_call 97; (with_reducible refine (atoi_ok D v _ hDs HV.out).mono ?_); rintro e w2 ⟨rfl, hw2⟩; have HB2 := Aside0.mk (below_step HB1.out hw2); clear hw2))
              go_ret2
              exact ⟨rfl, HB2.out⟩
            · rw [if_neg c1] at h
              by_cases c2 : v > 999999999
              · rw [if_pos c2] at h
                obtain ⟨rfl, rfl⟩ := Prod.mk.inj h
                go_enter Tryz.func57, Tryz.ntmps57
                go_wp2_with (first
                  | (go_at_call 95; (with_reducible refine (cut_yes a0 D _ HP.out HD.out).mono ?_); rintro e w' ⟨rfl, rfl⟩)
                  | (go_at_call 96; (with_reducible refine (trim_any D T _ hDs HT.out).mono ?_); rintro e w1 ⟨rfl, hw1⟩; have HB1 := Aside0.mk hw1; clear hw1)
                  | (go_at_call 97; (with_reducible refine (atoi_ok D v _ hDs HV.out).mono ?_); rintro e w2 ⟨rfl, hw2⟩; have HB2 := Aside0.mk (below_step HB1.out hw2); clear hw2))
                go_ret2
                exact ⟨rfl, HB2.out⟩
              · rw [if_neg c2] at h
                obtain ⟨S, hS⟩ : ∃ S : ByteArray, S = ba (Lib.itoa v) := ⟨_, rfl⟩
                have HS := Aside0.mk (show strconv_Itoa.f v = some S by unfold strconv_Itoa.f; rw [if_pos (by omega), if_pos (by omega), hS])
                by_cases c3 : Lib.itoa v = D.data.toList
                · rw [if_pos c3] at h
                  obtain ⟨rfl, rfl⟩ := Prod.mk.inj h
                  obtain rfl : D = S := by rw [hS, c3]; rfl
                  clear hS c3
                  go_enter Tryz.func57, Tryz.ntmps57
                  go_wp2_with (first
                    | (go_at_call 95; (with_reducible refine (cut_yes a0 D _ HP.out HD.out).mono ?_); rintro e w' ⟨rfl, rfl⟩)
                    | (go_at_call 96; (with_reducible refine (trim_any D T _ hDs HT.out).mono ?_); rintro e w1 ⟨rfl, hw1⟩; have HB1 := Aside0.mk hw1; clear hw1)
                    | (go_at_call 97; (with_reducible refine (atoi_ok D v _ hDs HV.out).mono ?_); rintro e w2 ⟨rfl, hw2⟩; have HB2 := Aside0.mk (below_step HB1.out hw2); clear hw2)
                    | (go_at_call 98; (with_reducible refine (strconv_Itoa.calls v D _ (hG.out.below HB2.out) HS.out).mono ?_); rintro e w3 ⟨rfl, hw3⟩; have HB3 := Aside0.mk (below_step HB2.out hw3); clear hw3))
                  go_ret2
                  exact ⟨rfl, HB3.out⟩
                · rw [if_neg c3] at h
                  obtain ⟨rfl, rfl⟩ := Prod.mk.inj h
                  have q1 : ¬ S.toList = D.toList := by rw [ByteArray.toList_eq, ByteArray.toList_eq, hS]; exact c3
                  have q2 : (S.toList == D.toList) = false := by simpa using q1
                  have q3 : (S.toList != D.toList) = true := by simpa using q1
                  clear hS c3
                  go_enter Tryz.func57, Tryz.ntmps57
                  go_wp2_with (first
                    | (go_at_call 95; (with_reducible refine (cut_yes a0 D _ HP.out HD.out).mono ?_); rintro e w' ⟨rfl, rfl⟩)
                    | (go_at_call 96; (with_reducible refine (trim_any D T _ hDs HT.out).mono ?_); rintro e w1 ⟨rfl, hw1⟩; have HB1 := Aside0.mk hw1; clear hw1)
                    | (go_at_call 97; (with_reducible refine (atoi_ok D v _ hDs HV.out).mono ?_); rintro e w2 ⟨rfl, hw2⟩; have HB2 := Aside0.mk (below_step HB1.out hw2); clear hw2)
                    | (go_at_call 98; (with_reducible refine (strconv_Itoa.calls v S _ (hG.out.below HB2.out) HS.out).mono ?_); rintro e w3 ⟨rfl, hw3⟩; have HB3 := Aside0.mk (below_step HB2.out hw3); clear hw3))
                  go_ret2
                  exact ⟨rfl, HB3.out⟩
          · have hv' : ∀ v, Lib.atoiAll D.data.toList ≠ .ok v := fun v e => hv ⟨v, e⟩
            have h2 : (0, true) = (r1, r2) := by
              revert h
              cases he : Lib.atoiAll D.data.toList with
              | ok v => exact absurd he (hv' v)
              | range => exact id
              | _ => exact id
            have HV := Aside0.mk hv'
            clear hv hv' h
            obtain ⟨rfl, rfl⟩ := Prod.mk.inj h2
            go_enter Tryz.func57, Tryz.ntmps57
            go_wp2_with (first
              | (go_at_call 95; (with_reducible refine (cut_yes a0 D _ HP.out HD.out).mono ?_); rintro e w' ⟨rfl, rfl⟩)
              | (go_at_call 96; (with_reducible refine (trim_any D T _ hDs HT.out).mono ?_); rintro e w1 ⟨rfl, hw1⟩; have HB1 := Aside0.mk hw1; clear hw1)
              | (go_at_call 97; (with_reducible refine (atoi_bad D _ (hG.out.below HB1.out) hDs HV.out).mono ?_); rintro e w2 ⟨n2, N2, rfl, hw2⟩; have HB2 := Aside0.mk (below_step HB1.out hw2); clear hw2))
            go_ret2
            exact ⟨rfl, HB2.out⟩
        · rw [if_neg ht] at h
          have m1 : ¬ T.toList = [] := by rw [ByteArray.toList_eq, hT]; exact ht
          have n1 : T.toList.isEmpty = false := by rw [List.isEmpty_eq_false_iff]; exact m1
          have HT := Aside0.mk hT
          clear hT ht
          obtain ⟨rfl, rfl⟩ := Prod.mk.inj h
          go_enter Tryz.func57, Tryz.ntmps57
          go_wp2_with (first
            | (go_at_call 95; (with_reducible refine (cut_yes a0 D _ HP.out HD.out).mono ?_); rintro e w' ⟨rfl, rfl⟩)
            | (go_at_call 96; (with_reducible refine (trim_any D T _ hDs HT.out).mono ?_); rintro e w1 ⟨rfl, hw1⟩; have HB1 := Aside0.mk hw1; clear hw1))
          go_ret2
          exact ⟨rfl, HB1.out⟩
    · rw [if_neg hp] at h
      obtain ⟨rfl, rfl⟩ := Prod.mk.inj h
      have HP := Aside0.mk (show Lib.hasPrefix a0.data.toList [118] = false by simpa using hp)
      clear hp
      go_enter Tryz.func57, Tryz.ntmps57
      go_wp2_with (first
        | (go_at_call 95; (with_reducible refine (cut_no a0 _ HP.out).mono ?_); rintro e w' ⟨rfl, rfl⟩))
      go_ret2
      exact ⟨rfl, Below.refl _ _⟩
  · rw [if_neg hsz] at h
    cases h
end Go.Proofs.YtillhaipemengaaGreatDoor
end
