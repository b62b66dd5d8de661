/- The texts CmpV, ByPre, R4x0 in one file, without what these claims do not use (put together by prune2.py). -/
import Derived.Test.YtmbpefnhkimplaaGreatDoorZE11
import Derived.Lib.Bytealg
import Derived.Lib.Small
import Derived.Test.YtmbpefnhkimplaaGreatDoorZE7
import Derived.Test.YtmbpefnhkimplaaGreatDoorZE16
import Derived.Shelf.Abstract
import Derived.Test.YtmbpefnhkimplaaGreatDoorZE5
import Derived.Test.YtmbpefnhkimplaaGreatDoorZE9
import Derived.Test.YtmbpefnhkimplaaGreatDoorZE19
section
namespace Go.Proofs.YtmbpefnhkimplaaGreatDoor
open Go Go.RowKit Go.Proofs.YtmbpefnhkimplaaGreatDoorW.PrintWords Go.Proofs.YtmbpefnhkimplaaGreatDoor.K0 Go.Proofs.YtmbpefnhkimplaaGreatDoor.R1
set_option linter.unusedVariables false
set_option linter.unusedSimpArgs false
theorem cb_anti : ∀ a b : List UInt8, Lib.compareBytes a b = - Lib.compareBytes b a
  | [], [] => rfl
  | [], _ :: _ => rfl
  | _ :: _, [] => rfl
  | a :: xs, b :: ys => by
    unfold Lib.compareBytes
    by_cases h : a < b
    · have h2 : ¬ b < a := fun e => by have h1 := UInt8.lt_iff_toNat_lt.1 h; have h2 := UInt8.lt_iff_toNat_lt.1 e; omega
      rw [if_pos h, if_neg h2, if_pos h]
    · by_cases h2 : b < a
      · rw [if_neg h, if_pos h2, if_pos h2]; rfl
      · rw [if_neg h, if_neg h2, if_neg h2, if_neg h]; exact cb_anti xs ys
theorem ci_anti (x y : Int) : Lib.compareInt x y = - Lib.compareInt y x := by unfold Lib.compareInt; split <;> split <;> (try split) <;> omega
/-- The first of two that is not 0. -/
def orr (x y : Int) : Int := if x = 0 then y else x
theorem orr_neg (x y : Int) : orr (-x) (-y) = - orr x y := by unfold orr; split <;> split <;> omega
def wordCmp (a b : List UInt8) : Int :=
  if digitsOk a = true then (if digitsOk b = true then orr (Lib.compareInt (a.length : Int) (b.length : Int)) (Lib.compareBytes a b) else -1) else (if digitsOk b = true then 1 else Lib.compareBytes a b)
theorem wordCmp_anti (a b : List UInt8) : wordCmp a b = - wordCmp b a := by
  unfold wordCmp
  cases digitsOk a <;> cases digitsOk b <;> simp
  · exact cb_anti a b
  · rw [ci_anti a.length, cb_anti a, orr_neg]
def listCmp : List (List UInt8) → List (List UInt8) → Int
  | [], [] => 0
  | [], _ :: _ => -1
  | _ :: _, [] => 1
  | x :: xs, y :: ys => orr (wordCmp x y) (listCmp xs ys)
theorem listCmp_anti : ∀ a b, listCmp a b = - listCmp b a
  | [], [] => rfl
  | [], _ :: _ => rfl
  | _ :: _, [] => rfl
  | x :: xs, y :: ys => by unfold listCmp; rw [wordCmp_anti x y, listCmp_anti xs ys, orr_neg]
theorem listCmp_refl (a : List (List UInt8)) : listCmp a a = 0 := by have := listCmp_anti a a; omega
def preCmp (a b : List UInt8) : Int := if a = [] then (if b = [] then 0 else 1) else if b = [] then -1 else listCmp (splitC 46 a) (splitC 46 b)
/-- The order of two versions. -/
def verCmp (a b c : Int) (p q : ByteArray) (a2 b2 c2 : Int) (p2 q2 : ByteArray) : Int :=
  if verOk a b c p q = true then (if verOk a2 b2 c2 p2 q2 = true then orr (Lib.compareInt a a2) (orr (Lib.compareInt b b2) (orr (Lib.compareInt c c2) (preCmp p.data.toList p2.data.toList))) else 0) else 0
end Go.Proofs.YtmbpefnhkimplaaGreatDoor
end

section
namespace Go.Proofs.YtmbpefnhkimplaaGreatDoor
open Go Go.RowKit Go.Proofs Go.Proofs.YtmbpefnhkimplaaGreatDoorW.PrintWords Go.Proofs.YtmbpefnhkimplaaGreatDoor.K0 Go.Proofs.YtmbpefnhkimplaaGreatDoor.R1 Go.Proofs.YtmbpefnhkimplaaGreatDoor.R3
set_option linter.unusedVariables false
set_option linter.unusedSimpArgs false
def lcmp (cf : ByteArray → ByteArray → Int) : List ByteArray → List ByteArray → Int
  | [], [] => 0
  | [], _ :: _ => -1
  | _ :: _, [] => 1
  | x :: xs, y :: ys => orr (cf x y) (lcmp cf xs ys)
theorem lcmp_both (cf : ByteArray → ByteArray → Int) {xs ys : List ByteArray} {k : Nat} {x y : ByteArray} (hx : xs[k]? = some x) (hy : ys[k]? = some y) : lcmp cf (xs.drop k) (ys.drop k) = orr (cf x y) (lcmp cf (xs.drop (k + 1)) (ys.drop (k + 1))) := by
  obtain ⟨h1, e1⟩ := List.getElem?_eq_some_iff.1 hx
  obtain ⟨h2, e2⟩ := List.getElem?_eq_some_iff.1 hy
  rw [List.drop_eq_getElem_cons h1, List.drop_eq_getElem_cons h2, e1, e2]; rfl
theorem lcmp_more (cf : ByteArray → ByteArray → Int) {xs ys : List ByteArray} {k : Nat} (h1 : k < xs.length) (h2 : ys.length ≤ k) : lcmp cf (xs.drop k) (ys.drop k) = 1 := by
  rw [List.drop_eq_getElem_cons h1, List.drop_eq_nil_of_le h2]; rfl
theorem lcmp_less (cf : ByteArray → ByteArray → Int) {xs ys : List ByteArray} {k : Nat} (h1 : xs.length ≤ k) (h2 : k < ys.length) : lcmp cf (xs.drop k) (ys.drop k) = -1 := by
  rw [List.drop_eq_nil_of_le h1, List.drop_eq_getElem_cons h2]; rfl
theorem lcmp_end (cf : ByteArray → ByteArray → Int) {xs ys : List ByteArray} {k : Nat} (h1 : xs.length ≤ k) (h2 : ys.length ≤ k) : lcmp cf (xs.drop k) (ys.drop k) = 0 := by
  rw [List.drop_eq_nil_of_le h1, List.drop_eq_nil_of_le h2]; rfl
theorem lcmp_words : ∀ (xs ys : List ByteArray), lcmp (fun x y => wordCmp x.data.toList y.data.toList) xs ys = listCmp (xs.map fun x => x.data.toList) (ys.map fun x => x.data.toList)
  | [], [] => rfl
  | [], _ :: _ => rfl
  | _ :: _, [] => rfl
  | x :: xs, y :: ys => by
    show orr _ (lcmp _ xs ys) = _
    rw [lcmp_words xs ys]; rfl
set_option maxHeartbeats 4000000 in
/-- slices.CompareFunc over strings. -/
theorem CompareFunc_str (A B : Option Addr) (c d : Nat) (xs ys : List ByteArray) (cf : ByteArray → ByteArray → Int) (g : Nat) (eg : ∀ args w, (callFunc g args).run Tryz.prog w = .ok (.enter g args) w) (w : World)
    (h1 : Kd.C Kd.string w A xs.length xs) (h2 : Kd.C Kd.string w B ys.length ys)
    (hp : ∀ x y, x ∈ xs → y ∈ ys → ∀ W, Calls Tryz.prog g #[.string x, .string y] W fun e w' => e = .returned (.int .i64 (cf x y)) ∧ Below W.heap.size W w') :
    Calls Tryz.prog 219 #[.slice A xs.length c, .slice B ys.length d, .func (.func g) #[] #[]] w fun e w' => e = .returned (.int .i64 (lcmp cf xs ys)) ∧ Below w.heap.size w w' := by
  obtain ⟨n, hn⟩ : ∃ n, n = xs.length := ⟨_, rfl⟩
  obtain ⟨m, hm⟩ : ∃ m, m = ys.length := ⟨_, rfl⟩
  obtain ⟨z, hz⟩ : ∃ z, z = lcmp cf xs ys := ⟨_, rfl⟩
  rw [← hn] at h1 ⊢
  rw [← hm] at h2 ⊢
  rw [← hz]
  have big1 := h1.2.1
  have big2 := h2.2.1
  have HN := Aside0.mk hn
  have HM := Aside0.mk hm
  have HZ := Aside0.mk hz
  have H1 := Aside0.mk h1
  have H2 := Aside0.mk h2
  have HP := Aside0.mk hp
  clear hn hm hz h1 h2 hp
  go_enter Tryz.func219, Tryz.ntmps219
  go_wp2
  go_loopg [7, 8, 9, 10, 13] n (fun gg _ _ _ _ v13 wr => ∃ kk : Nat, kk ≤ n ∧ n - kk ≤ gg ∧ kk ≤ m ∧ v13 = .int .i64 kk ∧ Aside0 (Below w.heap.size w wr) ∧ Aside0 (z = lcmp cf (xs.drop kk) (ys.drop kk)))
  case atStart => exact ⟨0, Nat.zero_le _, by omega, Nat.zero_le _, rfl, Aside0.mk (Below.refl _ w), HZ⟩
  case round =>
    obtain ⟨kk, hkk, hg, hkm, rfl, BW, AS⟩ := hrel
    by_cases hlt : kk < n
    · have hltz : (kk : Int) < (n : Int) := by omega
      obtain ⟨x, hx⟩ : ∃ x, xs[kk]? = some x := ⟨_, List.getElem?_eq_getElem (by have := HN.out; omega)⟩
      have hxe : rdOf ByteArray.empty xs (kk : Int) = x := by
        unfold rdOf
        rw [Int.toNat_natCast, List.getD_eq_getElem?_getD, hx]; rfl
      obtain ⟨ad, hA, h0⟩ := Kd.at_string (Kd.C_below H1.out BW.out) (kk : Int) (by omega) (by omega)
      rw [hxe, Int.toNat_natCast] at h0
      subst hA
      have HX := Aside0.mk hx
      clear hxe hx
      by_cases hlm : kk < m
      · have hlmz : (kk : Int) < (m : Int) := by omega
        have hlmy : ¬ (m : Int) ≤ (kk : Int) := by omega
        obtain ⟨y, hy⟩ : ∃ y, ys[kk]? = some y := ⟨_, List.getElem?_eq_getElem (by have := HM.out; omega)⟩
        have hye : rdOf ByteArray.empty ys (kk : Int) = y := by
          unfold rdOf
          rw [Int.toNat_natCast, List.getD_eq_getElem?_getD, hy]; rfl
        obtain ⟨bd, hB, k0⟩ := Kd.at_string (Kd.C_below H2.out BW.out) (kk : Int) (by omega) (by omega)
        rw [hye, Int.toNat_natCast] at k0
        subst hB
        have hcall := HP.out x y (List.mem_of_getElem? HX.out) (List.mem_of_getElem? hy) wr
        have hz2 := AS.out
        rw [lcmp_both cf HX.out hy] at hz2
        have HZ2 := Aside0.mk hz2
        clear hye hy hz2
        obtain ⟨q, hq⟩ : ∃ q, cf x y = q := ⟨_, rfl⟩
        rw [hq] at hcall
        have HQ := Aside0.mk hq
        clear hq
        by_cases hq0 : q = 0
        · subst hq0
          go_wp2_with (go_at_fn g; refine hcall.mono ?_; rintro e w' ⟨rfl, hb'⟩)
          go_roundg (n - (kk + 1))
          case measure => omega
          case rel =>
            refine ⟨kk + 1, by omega, by omega, by omega, by go_num, Aside0.mk (below_step BW.out hb'), ⟨?_⟩⟩
            rw [HZ2.out, HQ.out]; rfl
        · go_wp2_with (go_at_fn g; refine hcall.mono ?_; rintro e w' ⟨rfl, hb'⟩)
          go_ret
          refine ⟨?_, below_step BW.out hb'⟩
          rw [HZ2.out, HQ.out]
          unfold orr
          rw [if_neg hq0]
          rfl
      · have hlmz : (m : Int) ≤ (kk : Int) := by omega
        go_wp2
        go_ret
        refine ⟨?_, BW.out⟩
        rw [AS.out, lcmp_more cf (by have := HN.out; omega) (by have := HM.out; omega)]
        rfl
    · have hltz : ¬ (kk : Int) < (n : Int) := by omega
      have : kk = n := by omega
      subst this
      by_cases hlm : kk < m
      · have hlmz : (kk : Int) < (m : Int) := by omega
        go_wp2
        go_ret
        refine ⟨?_, BW.out⟩
        rw [AS.out, lcmp_less cf (by have := HN.out; omega) (by have := HM.out; omega)]
        rfl
      · have hlmz : ¬ (kk : Int) < (m : Int) := by omega
        go_wp2
        go_ret
        refine ⟨?_, BW.out⟩
        rw [AS.out, lcmp_end cf (by have := HN.out; omega) (by have := HM.out; omega)]
        rfl
theorem cmpInt_f (a b : Int) : cmp_Compare_int.f a b = some (Lib.compareInt a b) := by
  unfold cmp_Compare_int.f cmp_isNaN_int.f Lib.compareInt
  simp
  split
  · rfl
  · split <;> rfl
def orAll : List Int → Int
  | [] => 0
  | x :: xs => orr x (orAll xs)
theorem orr_zero (x : Int) : orr x 0 = x := by unfold orr; split <;> omega
theorem or_l0 (l : List Int) (hl : l.length ≤ 4294967290) : ∀ (d n k : Nat), l.length - n = d → n ≤ l.length → d < k → cmp_Or_int.l0 k 0 l (l.length : Int) (n : Int) = some (orAll (l.drop n)) := by
  intro d
  induction d with
  | zero =>
    intro n k hd hn hk
    obtain ⟨k, rfl⟩ : ∃ m, k = m + 1 := ⟨k - 1, by omega⟩
    simp only [cmp_Or_int.l0]
    rw [if_neg (by omega), List.drop_eq_nil_of_le (by omega)]; rfl
  | succ d ih =>
    intro n k hd hn hk
    obtain ⟨k, rfl⟩ : ∃ m, k = m + 1 := ⟨k - 1, by omega⟩
    have hlt : n < l.length := by omega
    have hr : rd l (n : Int) = l[n] := by
      unfold rd
      rw [Int.toNat_natCast, List.getD_eq_getElem?_getD, List.getElem?_eq_getElem hlt]; rfl
    simp only [cmp_Or_int.l0]
    rw [if_pos (by omega), if_pos (by omega), if_pos (by omega), hr, wrap_succ (by omega), ih (n + 1) k (by omega) (by omega) (by omega), List.drop_eq_getElem_cons hlt]
    show _ = some (orr l[n] (orAll (l.drop (n + 1))))
    unfold orr
    split <;> rfl
theorem or_f (l : List Int) (hl : l.length ≤ 10) (k : Nat) (hk : 11 < k) : cmp_Or_int.f k l = some (orAll l) := by
  unfold cmp_Or_int.f
  have := or_l0 l (by omega) _ 0 k rfl (by omega) (by omega)
  rw [List.drop_zero] at this
  exact this
theorem byWord_f (a b : ByteArray) (ha : a.size ≤ 4294967280) (hb : b.size ≤ 4294967280) (k : Nat) (h1 : 4294967280 < k) : ver_byWord.f k a b = some (wordCmp a.data.toList b.data.toList) := by
  have hl : ∀ s : ByteArray, s.data.toList.length = s.size := fun s => (Lib.size_eq s).symm
  unfold ver_byWord.f wordCmp
  rw [digits_f a (by omega) k (by omega), digits_f b (by omega) k (by omega), hl, hl]
  obtain ⟨k, rfl⟩ : ∃ m, k = m + 1 := ⟨k - 1, by omega⟩
  simp only [Option.bind_some, ver_byWord.j0, cmpInt_f, strings_Compare.f]
  rw [or_f _ (by simp) k (by omega)]
  cases digitsOk a.data.toList <;> cases digitsOk b.data.toList <;> simp [orAll, orr_zero]
def ver_byPre.f (a0 a1 : ByteArray) : Option Int := if a0.size ≤ 4294967280 then (if a1.size ≤ 4294967280 then some (preCmp a0.data.toList a1.data.toList) else none) else none
theorem strs_row {w w' : World} {b : Nat} {v : Value} {l : List ByteArray} (h : Kd.R Kd.string 9 w' b (fun _ => True) v l) : ∃ A c, v = .slice A l.length c ∧ l.length ≤ c ∧ Kd.C Kd.string w' A l.length l := Kd.R_reads h
set_option maxRecDepth 100000 in
set_option maxHeartbeats 4000000 in
theorem ver_byPre.calls (a0 a1 : ByteArray) (r : Int) (w : World) (hG : GW w) (h : ver_byPre.f a0 a1 = some r) :
    Calls Tryz.prog 203 #[.string a0, .string a1] w fun e w' => e = .returned (.int .i64 r) ∧ Below w.heap.size w w' := by
  unfold ver_byPre.f at h
  split at h
  · rename_i hs0
    split at h
    · rename_i hs1
      obtain rfl := Option.some.inj h
      unfold preCmp
      have HG := Aside0.mk hG
      clear hG h
      have e0 : a0.toList = a0.data.toList := ByteArray.toList_eq a0
      have e1 : a1.toList = a1.data.toList := ByteArray.toList_eq a1
      by_cases n0 : a0.data.toList = []
      · have i0 : a0.toList = [] := e0.trans n0
        rw [if_pos n0]
        by_cases n1 : a1.data.toList = []
        · have i1 : a1.toList = [] := e1.trans n1
          have j1 : a1.toList.isEmpty = true := by rw [i1]; rfl
          rw [if_pos n1]
          clear n0 n1 e0 e1
          go_enter Tryz.func203, Tryz.ntmps203
          go_wp2
          go_ret
          exact ⟨rfl, Below.refl _ _⟩
        · have i1 : ¬ a1.toList = [] := fun e => n1 (e1.symm.trans e)
          have j1 : a1.toList.isEmpty = false := List.isEmpty_eq_false_iff.2 i1
          have q : ¬ a0.toList = a1.toList := fun e => i1 (e.symm.trans i0)
          rw [if_neg n1]
          clear n0 n1 e0 e1
          go_enter Tryz.func203, Tryz.ntmps203
          go_wp2
          go_ret
          exact ⟨rfl, Below.refl _ _⟩
      · have i0 : ¬ a0.toList = [] := fun e => n0 (e0.symm.trans e)
        have j0 : a0.toList.isEmpty = false := List.isEmpty_eq_false_iff.2 i0
        rw [if_neg n0]
        by_cases n1 : a1.data.toList = []
        · have i1 : a1.toList = [] := e1.trans n1
          have j1 : a1.toList.isEmpty = true := by rw [i1]; rfl
          have q : ¬ a0.toList = a1.toList := fun e => i0 (e.trans i1)
          rw [if_pos n1]
          clear n0 n1 e0 e1
          go_enter Tryz.func203, Tryz.ntmps203
          go_wp2
          go_ret
          exact ⟨rfl, Below.refl _ _⟩
        · have i1 : ¬ a1.toList = [] := fun e => n1 (e1.symm.trans e)
          have j1 : a1.toList.isEmpty = false := List.isEmpty_eq_false_iff.2 i1
          rw [if_neg n1]
          by_cases q : a0.data.toList = a1.data.toList
          · obtain rfl : a0 = a1 := by_data q
            rw [listCmp_refl]
            clear n0 n1 e0 e1 q
            go_enter Tryz.func203, Tryz.ntmps203
            go_wp2
            go_ret
            exact ⟨rfl, Below.refl _ _⟩
          · have q2 : ¬ a0.toList = a1.toList := fun e => q (e0.symm.trans (e.trans e1))
            have q3 : (a0.toList == a1.toList) = false := by simpa using q2
            have s0 : ∀ W, GW W → _ := fun W hG => strings_Split.calls a0 ⟨#[46]⟩ (splitBy 46 a0) W hG (by unfold strings_Split.f; rw [if_pos (by omega)]; rfl)
            have s1 : ∀ W, GW W → _ := fun W hG => strings_Split.calls a1 ⟨#[46]⟩ (splitBy 46 a1) W hG (by unfold strings_Split.f; rw [if_pos (by omega)]; rfl)
            have hcf : ∀ (A B : Option Addr) (c d : Nat) (W : World), Kd.C Kd.string W A (splitBy 46 a0).length (splitBy 46 a0) → Kd.C Kd.string W B (splitBy 46 a1).length (splitBy 46 a1) →
                Calls Tryz.prog 219 #[.slice A (splitBy 46 a0).length c, .slice B (splitBy 46 a1).length d, .func (.func 220) #[] #[]] W fun e w' => e = .returned (.int .i64 (listCmp (splitC 46 a0.data.toList) (splitC 46 a1.data.toList))) ∧ Below W.heap.size W w' := by
              intro A B c d W h1 h2
              have hm : ∀ s : ByteArray, (splitBy 46 s).map (fun x => x.data.toList) = splitC 46 s.data.toList := fun s => by unfold splitBy; rw [List.map_map]; exact List.map_id _
              have := CompareFunc_str A B c d (splitBy 46 a0) (splitBy 46 a1) (fun x y => wordCmp x.data.toList y.data.toList) 220 (enters_of Tryz.func220 (by kernel_rfl) rfl) W h1 h2
                (fun x y hx hy W' => ver_byWord.calls 4294967281 x y _ W' (byWord_f x y (by have := split_size hx; omega) (by have := split_size hy; omega) _ (by decide)))
              rw [lcmp_words, hm, hm] at this
              exact this
            have S0 := Aside0.mk s0
            have S1 := Aside0.mk s1
            have HCF := Aside0.mk hcf
            clear n0 n1 e0 e1 q s0 s1 hcf
            generalize listCmp (splitC 46 a0.data.toList) (splitC 46 a1.data.toList) = z at HCF ⊢
            generalize splitBy 46 a0 = l0 at S0 HCF
            generalize splitBy 46 a1 = l1 at S1 HCF
            go_enter Tryz.func203, Tryz.ntmps203
            go_wp2_with (first
              | (go_at_call 65; (with_reducible refine (S0.out _ HG.out).mono ?_); rintro e w1 ⟨v1, rfl, hR1, hb1⟩; obtain ⟨A1, c1, rfl, hc1, hC1⟩ := strs_row (w := w) hR1; have HC1 := Aside0.mk hC1; have HB1 := Aside0.mk hb1; have HG1 := Aside0.mk (HG.out.below hb1); clear hR1 hb1 hC1)
              | (go_at_call 65; (with_reducible refine (S1.out _ HG1.out).mono ?_); rintro e w2 ⟨v2, rfl, hR2, hb2⟩; obtain ⟨A2, c2, rfl, hc2, hC2⟩ := strs_row (w := w) hR2; have HC2 := Aside0.mk hC2; have HC1b := Aside0.mk (Kd.C_below HC1.out hb2); have HB2 := Aside0.mk (below_step HB1.out hb2); clear hR2 hb2 hC2)
              | (go_at_call 219; (with_reducible refine (HCF.out A1 A2 c1 c2 _ HC1b.out HC2.out).mono ?_); rintro e w3 ⟨rfl, hb3⟩; have HB3 := Aside0.mk (below_step HB2.out hb3); clear hb3))
            go_ret
            exact ⟨rfl, HB3.out⟩
    · cases h
  · cases h
end Go.Proofs.YtmbpefnhkimplaaGreatDoor
end

section
namespace Go.Proofs.YtmbpefnhkimplaaGreatDoor.R4
open Go.RowKit Go.Proofs.YtmbpefnhkimplaaGreatDoor Go.Proofs.YtmbpefnhkimplaaGreatDoor.K0 Go.Proofs.YtmbpefnhkimplaaGreatDoor.R1 Go.Proofs.YtmbpefnhkimplaaGreatDoor.R3 Go.Proofs.YtmbpefnhkimplaaGreatDoorW.PrintWords Go.Proofs.YtmbpefnhkimplaaGreatDoorW.PrintLast Go.Proofs.YtmbpefnhkimplaaGreatDoorW.PrintMore
attribute [local go_sem] max2_int min2_int max_two min_two max_three min_three max_four min_four
set_option linter.unusedVariables false
set_option linter.unusedSimpArgs false
end Go.Proofs.YtmbpefnhkimplaaGreatDoor.R4
end
