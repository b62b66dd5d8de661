/- The texts R3x, VText in one file, without what these claims do not use (put together by prune2.py). -/
import Derived.Test.YtmbpefnhkimplaaGreatDoorZE15
import Derived.Test.YtmbpefnhkimplaaGreatDoorZE16
import Derived.Test.YtmbpefnhkimplaaGreatDoorZE18
import Derived.Test.YtmbpefnhkimplaaGreatDoorZE12
section
namespace Go.Proofs.YtmbpefnhkimplaaGreatDoor.R3
open Go.RowKit Go.Proofs.YtmbpefnhkimplaaGreatDoor Go.Proofs.YtmbpefnhkimplaaGreatDoor.K0 Go.Proofs.YtmbpefnhkimplaaGreatDoor.R1 Go.Proofs.YtmbpefnhkimplaaGreatDoorW.PrintWords Go.Proofs.YtmbpefnhkimplaaGreatDoorW.PrintLast Go.Proofs.YtmbpefnhkimplaaGreatDoorW.PrintMore
attribute [local go_sem] max2_int min2_int max_two min_two max_three min_three max_four min_four
set_option linter.unusedVariables false
set_option linter.unusedSimpArgs false
end Go.Proofs.YtmbpefnhkimplaaGreatDoor.R3
end

section
namespace Go.Proofs.YtmbpefnhkimplaaGreatDoor
open Go Go.RowKit Go.Proofs Go.Proofs.YtmbpefnhkimplaaGreatDoorW.PrintWords Go.Proofs.YtmbpefnhkimplaaGreatDoor.K0 Go.Proofs.YtmbpefnhkimplaaGreatDoor.R1 Go.Proofs.YtmbpefnhkimplaaGreatDoor.R3
set_option linter.unusedVariables false
set_option linter.unusedSimpArgs false
theorem itoa_f (x : Int) (h0 : 0 ≤ x) (h1 : x ≤ 999999999) : strconv_Itoa.f x = some (ba (Lib.decDigits x.toNat)) := by
  unfold strconv_Itoa.f Lib.itoa
  rw [if_pos (by omega), if_pos (by omega), if_neg (by omega)]
theorem ba_add (a b : List UInt8) : ba a ++ ba b = ba (a ++ b) := by
  apply by_data
  simp [ba]
theorem ba_one (b : UInt8) : (⟨#[b]⟩ : ByteArray) = ba [b] := rfl
theorem text_f (a b c : Int) (p q : ByteArray) (k : Nat) (hk : 101 < k) : ver_Text.f k a b c p q = some (textV a b c p q) := by
  unfold ver_Text.f textV
  rw [ver_Check_f a b c p q k (by omega)]
  simp only [Option.bind_some]
  by_cases hv : verOk a b c p q = true
  · rw [if_pos hv, if_pos hv]
    unfold bytesV tailV
    have v := verIs hv
    have d1 := dec_len 8 a.toNat (by have := v.a9; omega)
    have d2 := dec_len 8 b.toNat (by have := v.b9; omega)
    have d3 := dec_len 8 c.toNat (by have := v.c9; omega)
    have hp := v.hp
    have hq := v.hq
    rw [itoa_f a v.a0 v.a9, itoa_f b v.b0 v.b9, itoa_f c v.c0 v.c9]
    simp only [Option.bind_some]
    have hpe : (p.toList = ([] : List UInt8)) ↔ p.data.toList = [] := by rw [ByteArray.toList_eq]
    have hqe : (q.toList = ([] : List UInt8)) ↔ q.data.toList = [] := by rw [ByteArray.toList_eq]
    obtain ⟨P, rfl⟩ : ∃ P, p = ba P := ⟨p.data.toList, rfl⟩
    obtain ⟨Q, rfl⟩ : ∃ Q, q = ba Q := ⟨q.data.toList, rfl⟩
    rw [ba_data] at hpe hqe
    rw [ba_size] at hp hq
    simp only [ba_one, ba_add, ba_size, hpe, hqe, ba_data, List.length_append, List.length_cons, List.length_nil]
    generalize Lib.decDigits a.toNat = A at *
    generalize Lib.decDigits b.toNat = B at *
    generalize Lib.decDigits c.toNat = C at *
    rw [if_pos (by omega), if_pos (by omega), if_pos (by omega), if_pos (by omega), if_pos (by omega)]
    by_cases h1 : P = [] <;> by_cases h2 : Q = []
    · rw [if_pos h1, if_pos h2]; simp [h1, h2]
    · rw [if_pos h1, if_neg h2, if_pos (by omega), if_pos (by omega)]; simp [h1, h2]
    · rw [if_neg h1, if_pos (by omega), if_pos (by omega), if_pos h2]; simp [h1, h2]
    · rw [if_neg h1, if_pos (by omega), if_pos (by omega), if_neg h2, if_pos (by omega), if_pos (by omega)]; simp [h1, h2]
  · rw [if_neg hv, if_neg hv]
theorem text_calls (a b c : Int) (p q : ByteArray) (w : World) (hG : GW w) : Calls Tryz.prog 36 #[.agg #[.int .i64 a, .int .i64 b, .int .i64 c, .string p, .string q]] w fun e w' => e = .returned (.string (textV a b c p q)) ∧ Below w.heap.size w w' :=
  ver_Text.calls 102 a b c p q _ w hG (text_f a b c p q 102 (by decide))
end Go.Proofs.YtmbpefnhkimplaaGreatDoor
end
