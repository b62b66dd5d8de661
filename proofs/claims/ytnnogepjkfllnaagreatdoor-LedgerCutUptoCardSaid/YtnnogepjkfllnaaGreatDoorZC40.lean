/- The texts LSame, LCutx0 in one file, without what this claim does not use (put together by prune.py). -/
import Derived.Test.YtnnogepjkfllnaaGreatDoorZC36
import Derived.Test.YtnnogepjkfllnaaGreatDoorZC38
import Derived.Test.YtnnogepjkfllnaaGreatDoorZC39
import Derived.Test.YtnnogepjkfllnaaGreatDoorZC6
import Derived.Test.YtnnogepjkfllnaaGreatDoorZC10
import Derived.Test.YtnnogepjkfllnaaGreatDoorZC17
import Derived.Test.YtnnogepjkfllnaaGreatDoorZC20
import Derived.Test.YtnnogepjkfllnaaGreatDoorZC25
import Derived.Test.YtnnogepjkfllnaaGreatDoorZC34
section
namespace Go.Proofs.YtnnogepjkfllnaaGreatDoor
open Go Go.RowKit Go.Proofs Go.Proofs.YtnnogepjkfllnaaGreatDoorW.PrintWords Go.Proofs.YtnnogepjkfllnaaGreatDoor.K0 Go.Proofs.YtnnogepjkfllnaaGreatDoor.R1 Go.Proofs.YtnnogepjkfllnaaGreatDoor.R2 Go.Proofs.YtnnogepjkfllnaaGreatDoor.R3 Go.Proofs.YtnnogepjkfllnaaGreatDoor.R4 Go.Proofs.YtnnogepjkfllnaaGreatDoor.R5 Go.Proofs.YtnnogepjkfllnaaGreatDoor.RS
set_option linter.unusedVariables false
set_option linter.unusedSimpArgs false
theorem same_l0 (l : List Tg) (hl : l.length ≤ 4294967280) : ∀ (d n k : Nat), l.length - n = d → n ≤ l.length → d < k → armadaref15_Same.l0 k l l (n : Int) = some true := by
  intro d
  induction d with
  | zero =>
    intro n k hd hn hk
    obtain ⟨k, rfl⟩ : ∃ m, k = m + 1 := ⟨k - 1, by omega⟩
    simp only [armadaref15_Same.l0]
    rw [if_neg (by omega)]
  | succ d ih =>
    intro n k hd hn hk
    obtain ⟨k, rfl⟩ : ∃ m, k = m + 1 := ⟨k - 1, by omega⟩
    simp only [armadaref15_Same.l0]
    rw [if_pos (by omega), if_pos (by omega), if_pos (by omega), wrap_succ (by omega), ih (n + 1) k (by omega) (by omega) (by omega)]
    simp
theorem same_self (l : List Tg) (hl : l.length ≤ 4294967280) (k : Nat) (hk : l.length < k) : armadaref15_Same.f k l l = some true := by
  unfold armadaref15_Same.f
  rw [if_pos rfl]
  exact same_l0 l hl _ 0 k rfl (by omega) (by omega)
/-- Is a tag of little? -/
def littleT (t : Tg) : Bool := decide (t.f0.size ≤ 200) && (decide (t.f2.size ≤ 200) && (decide (t.f1.f3.size ≤ 200) && decide (t.f1.f4.size ≤ 200)))
theorem wrap_s {n : Nat} (h : n < 9223372036854775807) : wrap64 ((n : Int) + 1) = ((n + 1 : Nat) : Int) := by unfold wrap64; omega
theorem few_l0 (l : List Tg) (hl : l.length ≤ 9223372036854775807) : ∀ (d n k : Nat), l.length - n = d → n ≤ l.length → d < k → armadaref15_Few.l0 k l (n : Int) = some ((l.drop n).all littleT && decide (l.length ≤ 60)) := by
  intro d
  induction d with
  | zero =>
    intro n k hd hn hk
    obtain ⟨k, rfl⟩ : ∃ m, k = m + 1 := ⟨k - 1, by omega⟩
    simp only [armadaref15_Few.l0]
    rw [if_neg (by omega), List.drop_eq_nil_of_le (by omega)]
    simp
    omega
  | succ d ih =>
    intro n k hd hn hk
    obtain ⟨k, rfl⟩ : ∃ m, k = m + 1 := ⟨k - 1, by omega⟩
    obtain ⟨x, h1, h2, h3⟩ := rdT_at (l := l) (n := n) (by omega)
    simp only [armadaref15_Few.l0]
    rw [if_pos (by omega), if_pos (by omega), h1, wrap_s (by omega), ih (n + 1) k (by omega) (by omega) (by omega), h2, List.all_cons]
    unfold littleT
    by_cases a1 : x.f0.size ≤ 200
    · rw [if_neg (by omega), decide_eq_true a1]
      by_cases a2 : x.f2.size ≤ 200
      · rw [if_neg (by omega), decide_eq_true a2]
        by_cases a3 : x.f1.f3.size ≤ 200
        · rw [if_neg (by omega), decide_eq_true a3]
          by_cases a4 : x.f1.f4.size ≤ 200
          · rw [if_neg (by omega), decide_eq_true a4]; simp
          · rw [if_pos (by omega), decide_eq_false a4]; simp
        · rw [if_pos (by omega), decide_eq_false a3]; simp
      · rw [if_pos (by omega), decide_eq_false a2]; simp
    · rw [if_pos (by omega), decide_eq_false a1]; simp
def fewT (l : List Tg) : Bool := l.all littleT && decide (l.length ≤ 60)
theorem few_f (l : List Tg) (hl : l.length ≤ 9223372036854775807) (k : Nat) (hk : l.length < k) : armadaref15_Few.f k l = some (fewT l) := by
  have := few_l0 l hl _ 0 k rfl (by omega) (by omega)
  rw [List.drop_zero] at this
  exact this
theorem few_len {l : List Tg} (h : fewT l = true) : l.length ≤ 60 ∧ ∀ t ∈ l, t.f2.size ≤ 200 := by
  unfold fewT at h
  rw [Bool.and_eq_true, decide_eq_true_eq] at h
  refine ⟨h.2, fun t ht => ?_⟩
  have := List.all_eq_true.1 h.1 t ht
  unfold littleT at this
  simp only [Bool.and_eq_true, decide_eq_true_eq] at this
  exact this.2.1
theorem text_small {l : List Tg} (hw : ∀ t ∈ l, ∃ m, wrongT m t = 0) (hh : ∀ t ∈ l, t.f2.size ≤ 200) : (textB l).length ≤ l.length * 400 := by
  unfold textB
  induction l with
  | nil => simp
  | cons t l ih =>
    have ih2 := ih (fun x hx => hw x (List.mem_cons_of_mem _ hx)) (fun x hx => hh x (List.mem_cons_of_mem _ hx))
    obtain ⟨m, hm⟩ := hw t List.mem_cons_self
    obtain ⟨h1, h2, _⟩ := wrongT_ok.1 hm
    have hv : verOk t.f1.f0 t.f1.f1 t.f1.f2 t.f1.f3 t.f1.f4 = true := h2
    have l1 := check_size h1
    have l2 := bytesV_len hv
    have l3 := hh t List.mem_cons_self
    rw [Lib.size_eq] at l1 l3
    rw [List.flatMap_cons]
    have : (lineT t).length ≤ 399 := by
      unfold lineT
      simp only [List.length_append, List.length_cons]
      omega
    simp only [List.length_append, List.length_cons, List.length_nil] at ih2 ⊢
    omega
/-- The text of tags, or the first error. -/
def txtT (l : List Tg) : ByteArray × Int := if firstWrong [] l = 0 then (ba (textB l), 0) else (⟨#[]⟩, firstWrong [] l)
theorem text_gen (l : List Tg) (h88 : l.length * 88 ≤ 140737488355328) (hh : ∀ t ∈ l, t.f2.size ≤ 140737488355328) (hl : firstWrong [] l = 0 → (textB l).length ≤ 140737488355328) : ledger_Text.f l = some (txtT l) := by
  unfold ledger_Text.f txtT
  rw [if_pos h88, if_pos (List.all_eq_true.2 fun t ht => decide_eq_true (hh t ht))]
  by_cases hf : firstWrong [] l = 0
  · rw [if_pos hf, if_pos hf, if_pos (hl hf)]
  · rw [if_neg hf, if_neg hf]
end Go.Proofs.YtnnogepjkfllnaaGreatDoor
end

section
namespace Go.Proofs.YtnnogepjkfllnaaGreatDoor.LCut
open Go.RowKit Go.Proofs.YtnnogepjkfllnaaGreatDoor Go.Proofs.YtnnogepjkfllnaaGreatDoor.K0 Go.Proofs.YtnnogepjkfllnaaGreatDoor.R1 Go.Proofs.YtnnogepjkfllnaaGreatDoor.R2 Go.Proofs.YtnnogepjkfllnaaGreatDoor.R3 Go.Proofs.YtnnogepjkfllnaaGreatDoor.R4 Go.Proofs.YtnnogepjkfllnaaGreatDoor.R5 Go.Proofs.YtnnogepjkfllnaaGreatDoor.RS Go.Proofs.YtnnogepjkfllnaaGreatDoorW.PrintWords Go.Proofs.YtnnogepjkfllnaaGreatDoorW.PrintLast Go.Proofs.YtnnogepjkfllnaaGreatDoorW.PrintMore
attribute [local go_sem] max2_int min2_int max_two min_two max_three min_three max_four min_four
set_option linter.unusedVariables false
set_option linter.unusedSimpArgs false
end Go.Proofs.YtnnogepjkfllnaaGreatDoor.LCut
end
