/- The texts BpPr, PlD1, PlD2 in one file, without what these claims do not use (put together by prune2.py). -/
import Derived.Test.YtillhaipemengaaGreatDoorZC39
import Derived.Test.YtillhaipemengaaGreatDoorZC34
import Derived.Test.YtillhaipemengaaGreatDoorZC9
import Derived.Test.YtillhaipemengaaGreatDoorZC2
import Derived.Test.YtillhaipemengaaGreatDoorZC8
section
namespace Go.Proofs.YtillhaipemengaaGreatDoor
open Go Go.RowKit Go.Proofs Go.Proofs.YtillhaipemengaaGreatDoorW.PrintWords Go.Proofs.YtillhaipemengaaGreatDoor.K0 Go.Proofs.YtillhaipemengaaGreatDoor.RS Go.Proofs.YtillhaipemengaaGreatDoor.Sm
set_option linter.unusedVariables false
set_option linter.unusedSimpArgs false
abbrev WtR := S61
theorem ev_from {β : Type} (N : Nat) (G : Nat → Nat → Option β) (r : Nat → β) (h0 : Ev (fun k => G k N) (r N)) (hs : ∀ n, n < N → Ev (fun k => G k (n + 1)) (r (n + 1)) → Ev (fun k => G k n) (r n)) (n : Nat) (hn : n ≤ N) : Ev (fun k => G k n) (r n) := by
  obtain ⟨d, hd⟩ : ∃ d, d = N - n := ⟨_, rfl⟩
  induction d generalizing n with
  | zero => have : n = N := by omega
            subst this; exact h0
  | succ d ih => exact hs n (by omega) (ih (n + 1) (by omega) (by omega))
theorem ev_some {α : Type} {r s : α} (h : r = s) : Ev (fun _ => some r) s := by subst h; exact Ev.now r
theorem rdWt_at {l : List WtR} {n : Nat} (h : n < l.length) : ∃ x, rd_T61 l (n : Int) = x ∧ l.drop n = x :: l.drop (n + 1) ∧ l[n]? = some x :=
  ⟨l[n], by unfold rd_T61; rw [Int.toNat_natCast, List.getD_eq_getElem?_getD, List.getElem?_eq_getElem h]; rfl, List.drop_eq_getElem_cons h, List.getElem?_eq_getElem h⟩
theorem few18_ev (l : List WtR) (hl : l.length ≤ 9223372036854775807) : Ev (fun k => armadaref18_Few.f k l) (l.all (fun x => decide (x.f0.size ≤ 200)) && decide (l.length ≤ 20)) := by
  refine ev_from l.length (fun k n => armadaref18_Few.l0 k l (n : Int)) (fun n => (l.drop n).all (fun x => decide (x.f0.size ≤ 200)) && decide (l.length ≤ 20)) ?_ ?_ 0 (Nat.zero_le _)
  · refine Ev.step (f := fun k => some (decide ((l.length : Int) ≤ 20))) (fun k => by simp only [armadaref18_Few.l0]; rw [if_neg (by omega)]) (ev_some ?_)
    rw [List.drop_eq_nil_of_le (Nat.le_refl _), List.all_nil, Bool.true_and]
    exact decide_eq_decide.2 (by omega)
  · intro n hn hi
    obtain ⟨x, h1, h2, h3⟩ := rdWt_at hn
    refine Ev.step (f := fun k => if x.f0.size ≤ 200 then armadaref18_Few.l0 k l ((n + 1 : Nat) : Int) else some false) (fun k => ?_) ?_
    · simp only [armadaref18_Few.l0]
      rw [if_pos (by omega), if_pos (by omega), h1, wrap_s (by omega)]
      by_cases a1 : x.f0.size ≤ 200
      · rw [if_neg (by omega), if_pos a1]
      · rw [if_pos (by omega), if_neg a1]
    · simp only [h2, List.all_cons]
      by_cases a1 : x.f0.size ≤ 200
      · simpa only [a1, decide_true, Bool.true_and, if_true] using hi
      · simp only [a1, decide_false, Bool.false_and, if_false]; exact Ev.now false
theorem small18 (l0 : List Md) (l1 : List Tg) (l2 : List Int) (l3 : List WtR) (h0 : l0.length ≤ 9223372036854775807) (hs : Short l0) (h1 : l1.length ≤ 9223372036854775807) (h3 : l3.length ≤ 9223372036854775807) :
    ∃ b, Ev (fun k => armadalaw18_small.f k l0 l1 l2 l3) b ∧ (b = true → l0.length ≤ 20 ∧ (∀ x ∈ l0, x.f2.length ≤ 30) ∧ l1.length ≤ 60 ∧ l2.length ≤ 30 ∧ l3.length ≤ 20) := by
  obtain ⟨b0, hb0, hB0⟩ := Small_ev l0 h0 hs
  have hf : Ev (fun k => armadaref15_Few.f k l1) (fewT l1) := ⟨l1.length + 1, fun k hk => few_f l1 h1 k (by omega)⟩
  have hw := few18_ev l3 h3
  unfold armadalaw18_small.f
  cases b0 with
  | false => exact ⟨false, Ev.bind hb0 (Ev.now false), fun e => by cases e⟩
  | true =>
    cases hb : fewT l1 with
    | false =>
      rw [hb] at hf
      exact ⟨false, Ev.bind hb0 (Ev.bind hf (Ev.now false)), fun e => by cases e⟩
    | true =>
      have hb' := few_len hb
      rw [hb] at hf
      by_cases hc : (l2.length : Int) ≤ 30
      · refine ⟨l3.all (fun x => decide (x.f0.size ≤ 200)) && decide (l3.length ≤ 20), Ev.bind hb0 (Ev.bind hf ?_), fun e => ?_⟩
        · simp only [if_true, if_pos hc]
          exact Ev.bind hw (Ev.now _)
        · rw [Bool.and_eq_true, decide_eq_true_eq] at e
          exact ⟨(hB0 rfl).1, (hB0 rfl).2, hb'.1, by omega, e.2⟩
      · refine ⟨false, Ev.bind hb0 (Ev.bind hf ?_), fun e => by cases e⟩
        simp only [if_true, if_neg hc]
        exact Ev.now false
def toWt (x : WtR) : Wt := ⟨x.f0, x.f1⟩
theorem own18 (l : List WtR) (hl : l.length ≤ 1000000) : Ev (fun k => armadalaw18_own.f k l) (l.map toWt) := by
  refine ev_from l.length (fun k n => armadalaw18_own.l0 k l ((l.take n).map toWt) (n : Int)) (fun n => l.map toWt) ?_ ?_ 0 (Nat.zero_le _)
  · refine Ev.step (f := fun k => some ((l.take l.length).map toWt)) (fun k => by simp only [armadalaw18_own.l0]; rw [if_neg (by omega)]) (ev_some (by rw [List.take_length]))
  · intro n hn h
    obtain ⟨x, h1, h2, h3⟩ := rdWt_at hn
    refine Ev.step (f := fun k => armadalaw18_own.l0 k l ((l.take (n + 1)).map toWt) ((n + 1 : Nat) : Int)) (fun k => ?_) h
    simp only [armadalaw18_own.l0]
    rw [if_pos (by omega), if_pos (by omega), if_pos (by rw [List.length_map, List.length_take]; omega), h1, wrap_s (by omega), List.take_add_one, h3, List.map_append]
    rfl
end Go.Proofs.YtillhaipemengaaGreatDoor
end

section
namespace Go.Proofs.YtillhaipemengaaGreatDoor
open Go Go.RowKit Go.Proofs.YtillhaipemengaaGreatDoorW.PrintWords Go.Proofs.YtillhaipemengaaGreatDoor.K0 Go.Proofs.YtillhaipemengaaGreatDoor.R1 Go.Proofs.YtillhaipemengaaGreatDoor.RD
set_option linter.unusedVariables false
set_option linter.unusedSimpArgs false
/-- Splitting: the reference's loop. -/
theorem ref_split_from (c : UInt8) (s : ByteArray) (hs : s.size ≤ 4294967295) : ∀ (d n fr k : Nat) (acc : List ByteArray), s.size + 1 - n = d → n ≤ s.size + 1 → fr ≤ n → (n ≤ s.size ∨ fr = n) → (n ≤ s.size → c ∉ (s.extract fr n).data.toList) → acc.length + d ≤ 4294967296 → d < k →
    armadaref05_Split.l0 k s (c.toNat : Int) acc (fr : Int) (n : Int) = some (if n ≤ s.size then acc ++ splitBy c (s.extract fr s.size) else acc) := by
  intro d
  induction d with
  | zero =>
    intro n fr k acc hd hn hf _ _ _ hk
    obtain ⟨k, rfl⟩ : ∃ m, k = m + 1 := ⟨k - 1, by omega⟩
    simp only [armadaref05_Split.l0]
    rw [if_neg (by omega), if_neg (by omega)]
  | succ d ih =>
    intro n fr k acc hd hn hf hor hc hacc hk
    obtain ⟨k, rfl⟩ : ∃ m, k = m + 1 := ⟨k - 1, by omega⟩
    have hns : n ≤ s.size := by omega
    simp only [armadaref05_Split.l0]
    rw [if_pos (by omega), if_pos hns]
    have hw := wrap_succ (n := n) (by omega)
    have hcn := hc hns
    by_cases he : n = s.size
    · rw [if_pos (by omega), if_pos (by omega), if_pos (by omega), if_pos (by omega), hw]
      rw [ih (n + 1) (n + 1) k _ (by omega) (by omega) (by omega) (.inr rfl) (fun h => by omega) (by rw [List.length_append]; simp; omega) (by omega)]
      rw [if_neg (by omega)]
      congr 2
      subst he
      have hx : (s.extract fr s.size) = s.extract ((fr : Int)).toNat ((s.size : Int)).toNat := rfl
      unfold splitBy
      rw [splitC_none hcn]
      rfl
    · have hlt : n < s.size := by omega
      obtain ⟨b, hb, hd2⟩ := scan hlt
      rw [if_neg (by omega), if_pos (by omega), if_pos (by omega), hb]
      have hext : (s.extract fr s.size).data.toList = (s.extract fr n).data.toList ++ b :: s.data.toList.drop (n + 1) := by
        rw [Lib.extract_data, Lib.extract_data, ← hd2]
        have e1 : List.take (s.size - fr) (List.drop fr s.data.toList) = List.drop fr s.data.toList := List.take_of_length_le (by rw [List.length_drop, ← Lib.size_eq]; omega)
        rw [e1]
        have e2 : s.data.toList.drop n = (s.data.toList.drop fr).drop (n - fr) := by rw [List.drop_drop]; congr 1; omega
        rw [e2, List.take_append_drop]
      by_cases hbc : b = c
      · subst hbc
        rw [if_pos rfl, if_pos (by omega), if_pos (by omega), if_pos (by omega), hw]
        rw [ih (n + 1) (n + 1) k _ (by omega) (by omega) (by omega) (.inr rfl) (fun h => by rw [Lib.extract_data]; simp) (by rw [List.length_append]; simp; omega) (by omega)]
        rw [if_pos (by omega)]
        congr 1
        rw [List.append_assoc]
        congr 1
        unfold splitBy
        rw [hext, splitC_at _ hcn, List.map_cons]
        have e3 : ba (s.extract fr n).data.toList = s.extract ((fr : Int)).toNat ((n : Int)).toNat := rfl
        rw [e3]
        have e4 : (s.extract (n + 1) s.size).data.toList = s.data.toList.drop (n + 1) := Lib.extract_to_end s (n + 1)
        rw [e4]
        rfl
      · have hne : ¬ ((b.toNat : Int) = (c.toNat : Int)) := fun e => hbc (UInt8.toNat_inj.1 (by omega))
        rw [if_neg hne, hw]
        rw [ih (n + 1) fr k _ (by omega) (by omega) (by omega) (.inl (by omega)) (fun h => by
          have e5 : (s.extract fr (n + 1)).data.toList = (s.extract fr n).data.toList ++ [b] := by
            rw [Lib.extract_data, Lib.extract_data]
            have e6 : n + 1 - fr = (n - fr) + 1 := by omega
            rw [e6]
            have e7 : (s.data.toList.drop fr)[n - fr]? = some b := by
              rw [List.getElem?_drop]
              have : s.data.toList[fr + (n - fr)]? = (s.data.toList.drop n)[0]? := by rw [List.getElem?_drop]; congr 1; omega
              rw [this, hd2]; rfl
            rw [List.take_add_one, e7]; rfl
          rw [e5]
          intro hm
          rcases List.mem_append.1 hm with hm | hm
          · exact hcn hm
          · exact hbc (List.mem_singleton.1 hm).symm) (by omega) (by omega)]
        rw [if_pos (by omega)]
theorem ref_split (c : UInt8) (s : ByteArray) (hs : s.size ≤ 4294967290) (k : Nat) (hk : s.size + 1 < k) : armadaref05_Split.f k s (c.toNat : Int) = some (splitBy c s) := by
  unfold armadaref05_Split.f
  have h := ref_split_from c s (by omega) (s.size + 1) 0 0 k [] (by omega) (by omega) (by omega) (.inr rfl) (fun _ => by rw [Lib.extract_data]; simp) (by simp; omega) hk
  rw [if_pos (by omega)] at h
  have e : s.extract 0 s.size = s := by
    apply by_data
    rw [Lib.extract_to_end]; rfl
  rw [e, List.nil_append] at h
  exact h
theorem ref_part_l0 (s : ByteArray) (hs : s.size ≤ 4294967290) : ∀ (d n k : Nat), s.size - n = d → n ≤ s.size → d < k →
    armadaref05_part.l0 k s (n : Int) = some ((s.data.toList.drop n).all isPlain && partFin s.data.toList) := by
  intro d
  induction d with
  | zero =>
    intro n k hd hn hk
    obtain ⟨k, rfl⟩ : ∃ m, k = m + 1 := ⟨k - 1, by omega⟩
    simp only [armadaref05_part.l0]
    rw [if_neg (by omega), scan_end (by omega), ByteArray.toList_eq]
    by_cases h1 : s.data.toList = []
    · rw [if_pos h1]; simp [h1, partFin]
    · rw [if_neg h1]
      by_cases h2 : s.data.toList = [46]
      · rw [if_pos h2]; simp [h2, partFin]
      · rw [if_neg h2]
        by_cases h3 : s.data.toList = [46, 46] <;> simp [h1, h2, h3, bne, partFin]
  | succ d ih =>
    intro n k hd hn hk
    obtain ⟨k, rfl⟩ : ∃ m, k = m + 1 := ⟨k - 1, by omega⟩
    obtain ⟨b, hb, hd2⟩ := scan (s := s) (n := n) (by omega)
    simp only [armadaref05_part.l0]
    rw [if_pos (by omega), if_pos (by omega), hb, wrap_succ (by omega), ih (n + 1) k (by omega) (by omega) (by omega), hd2, List.all_cons, Bool.and_assoc]
    generalize ((s.data.toList.drop (n + 1)).all isPlain && partFin s.data.toList) = X
    have hm := b.toNat_lt
    clear ih hd2 hb hd hk hs hn
    unfold isPlain
    generalize b.toNat = m at hm ⊢
    revert X
    revert m
    decide +kernel
theorem ref_part_f (s : ByteArray) (hs : s.size ≤ 4294967290) (k : Nat) (hk : s.size < k) : armadaref05_part.f k s = some (partOk s.data.toList) := by
  unfold armadaref05_part.f partOk
  rw [show (0 : Int) = ((0 : Nat) : Int) from rfl, ref_part_l0 s hs s.size 0 k (by omega) (by omega) hk]
  simp
end Go.Proofs.YtillhaipemengaaGreatDoor
end

section
namespace Go.Proofs.YtillhaipemengaaGreatDoor
open Go Go.RowKit Go.Proofs.YtillhaipemengaaGreatDoorW.PrintWords Go.Proofs.YtillhaipemengaaGreatDoor.K0 Go.Proofs.YtillhaipemengaaGreatDoor.R1 Go.Proofs.YtillhaipemengaaGreatDoor.RD
set_option linter.unusedVariables false
set_option linter.unusedSimpArgs false
theorem ref_Path_l0 (l : List ByteArray) (hl : l.length ≤ 4294967290) (B : Nat) (hB : B ≤ 4294967290) (hx : ∀ x ∈ l, x.size ≤ B) : ∀ (d n k : Nat), l.length - n = d → n ≤ l.length → d + B < k →
    armadaref05_Path.l0 k l (n : Int) = some ((l.drop n).all fun x => partOk x.data.toList) := by
  intro d
  induction d with
  | zero =>
    intro n k hd hn hk
    obtain ⟨k, rfl⟩ : ∃ m, k = m + 1 := ⟨k - 1, by omega⟩
    simp only [armadaref05_Path.l0]
    rw [if_neg (by omega), List.drop_eq_nil_of_le (by omega)]; rfl
  | succ d ih =>
    intro n k hd hn hk
    obtain ⟨k, rfl⟩ : ∃ m, k = m + 1 := ⟨k - 1, by omega⟩
    obtain ⟨x, h1, h2, h3⟩ := rd_at (l := l) (n := n) (by omega)
    have hm : x ∈ l := List.mem_of_getElem? h3
    have := hx x hm
    simp only [armadaref05_Path.l0]
    rw [if_pos (by omega), if_pos (by omega), h1, ref_part_f x (by omega) k (by omega), wrap_succ (by omega), ih (n + 1) k (by omega) (by omega) (by omega), h2, List.all_cons]
    simp only [Option.bind_some]
    cases partOk x.data.toList <;> simp
theorem ref_Path_f (s : ByteArray) (k : Nat) (hk : 200 < k) : armadaref05_Path.f k s = some (pathOk s) := by
  unfold armadaref05_Path.f pathOk
  by_cases h : (s.size : Int) > 60
  · rw [if_pos h, decide_eq_false (by omega)]; rfl
  · rw [if_neg h, decide_eq_true (by omega), ← all_split, show (47 : Int) = ((47 : UInt8).toNat : Int) from rfl, ref_split 47 s (by omega) k (by omega)]
    simp only [Option.bind_some, Bool.true_and]
    have hl := split_len 47 s
    rw [show (0 : Int) = ((0 : Nat) : Int) from rfl, ref_Path_l0 (splitBy 47 s) (by omega) 60 (by omega) (fun x hx => by have := split_size hx; omega) _ 0 k rfl (by omega) (by omega)]
    rfl
end Go.Proofs.YtillhaipemengaaGreatDoor
end
