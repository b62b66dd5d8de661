/- The texts LSame, RDx0 in one file, without what this claim does not use (put together by prune.py). -/
import Derived.Test.YtnnogepjkfllnaaGreatDoorZR36
import Derived.Test.YtnnogepjkfllnaaGreatDoorZR37
import Derived.Test.YtnnogepjkfllnaaGreatDoorZR6
import Derived.Test.YtnnogepjkfllnaaGreatDoorZR7
import Derived.Test.YtnnogepjkfllnaaGreatDoorZR13
import Derived.Test.YtnnogepjkfllnaaGreatDoorZR14
section
namespace Go.Proofs.YtnnogepjkfllnaaGreatDoor
open Go Go.RowKit Go.Proofs Go.Proofs.YtnnogepjkfllnaaGreatDoorW.PrintWords Go.Proofs.YtnnogepjkfllnaaGreatDoor.K0 Go.Proofs.YtnnogepjkfllnaaGreatDoor.R1 Go.Proofs.YtnnogepjkfllnaaGreatDoor.R2 Go.Proofs.YtnnogepjkfllnaaGreatDoor.R3 Go.Proofs.YtnnogepjkfllnaaGreatDoor.R4 Go.Proofs.YtnnogepjkfllnaaGreatDoor.R5 Go.Proofs.YtnnogepjkfllnaaGreatDoor.RS
set_option linter.unusedVariables false
set_option linter.unusedSimpArgs false
theorem text_mem {l : List Tg} {t : Tg} (h : t ∈ l) : t.f2.size ≤ (textB l).length := by
  obtain ⟨a, b, rfl⟩ := List.append_of_mem h
  unfold textB
  rw [List.flatMap_append, List.flatMap_cons, Lib.size_eq]
  unfold lineT
  simp only [List.length_append, List.length_cons]
  omega
theorem text_count (l : List Tg) : l.length ≤ (textB l).length := by
  unfold textB
  induction l with
  | nil => simp
  | cons t l ih =>
    rw [List.flatMap_cons]
    simp only [List.length_append, List.length_cons, List.length_nil] at ih ⊢
    omega
end Go.Proofs.YtnnogepjkfllnaaGreatDoor
end

section
namespace Go.Proofs.YtnnogepjkfllnaaGreatDoor.RD
open Go.RowKit Go.Proofs.YtnnogepjkfllnaaGreatDoor Go.Proofs.YtnnogepjkfllnaaGreatDoor.K0 Go.Proofs.YtnnogepjkfllnaaGreatDoorW.PrintWords Go.Proofs.YtnnogepjkfllnaaGreatDoorW.PrintLast Go.Proofs.YtnnogepjkfllnaaGreatDoorW.PrintMore
attribute [local go_sem] max2_int min2_int max_two min_two max_three min_three max_four min_four
set_option linter.unusedVariables false
set_option linter.unusedSimpArgs false
end Go.Proofs.YtnnogepjkfllnaaGreatDoor.RD
end
