/- Go's library functions, as the printed contracts want them (out of the shelf's contracts at this dump). -/
import Derived.Test.YtpkhemnngjmcjaaDoorGw
import Derived.Test.YtpkhemnngjmcjaaDoorShelf
namespace Go.Proofs.YtpkhemnngjmcjaaDoor
open Go Go.RowKit Go.Proofs.YtpkhemnngjmcjaaDoorW.PrintWords

/-- strings.Split at one byte. -/
def strings_Split.f (a0 a1 : ByteArray) : Option (List ByteArray) := if a0.size < 4294967281 then (if a1.size = 1 then some (splitBy (a1.data.toList.headD 0) a0) else none) else none
theorem one_byte {a : ByteArray} (h : a.size = 1) : a = ⟨#[a.data.toList.headD 0]⟩ := by
  rw [Lib.size_eq] at h
  apply by_data
  match hl : a.data.toList, h with
  | [c], _ => rfl
theorem strings_Split.calls (a0 a1 : ByteArray) (r : List ByteArray) (w : World) (hG : GW w) (h : strings_Split.f a0 a1 = some r) :
    Calls Tryd.prog 21 #[.string a0, .string a1] w fun e w' => ∃ v0_ : Value, e = .returned (v0_) ∧ Kd.R Kd.string 9 w' w.heap.size (fun _ => True) v0_ r ∧ Below w.heap.size w w' := by
  unfold strings_Split.f at h
  split at h
  · rename_i hs
    split at h
    · rename_i h1
      obtain rfl := Option.some.inj h
      obtain ⟨m, hm⟩ := hG.maxLen
      obtain ⟨c, rfl⟩ : ∃ c, a1 = ⟨#[c]⟩ := ⟨_, one_byte h1⟩
      refine (Tryd.strings_Split a0 ⟨#[c]⟩ m w hs hm (Nat.le_refl 1)).mono ?_
      rintro e w' ⟨rfl, rfl⟩
      have hlen := Lib.splitB_all ⟨#[c]⟩ (Nat.le_refl 1) 0 _ a0 rfl
      have hc := Lib.countB_le ⟨#[c]⟩ (Nat.le_refl 1) a0.size a0 (Nat.le_refl _)
      rw [splitB_one c _ _ rfl] at hlen ⊢
      rw [← hlen]
      exact ⟨_, rfl, R_strings w _ (by omega) _, (Below.refl _ _).alloc (Nat.le_refl _) _⟩
    · cases h
  · cases h

def strings_LastIndex.f (a0 a1 : ByteArray) : Option Int := if a0.size < 4611686018427387904 then some (Lib.lastIndex a0.data.toList a1.data.toList) else none
theorem strings_LastIndex.calls (a0 a1 : ByteArray) (r : Int) (w : World) (h : strings_LastIndex.f a0 a1 = some r) :
    Calls Tryd.prog 20 #[.string a0, .string a1] w fun e w' => e = .returned (.int .i64 r) ∧ Drawn0 w w' := by
  unfold strings_LastIndex.f at h
  split at h
  · rename_i hs
    obtain rfl := Option.some.inj h
    refine (Tryd.strings_LastIndex a0 a1 hs w).mono ?_
    rintro e w' ⟨rfl, rfl⟩
    exact ⟨rfl, Drawn0.refl _⟩
  · cases h

def strings_HasPrefix.f (a0 a1 : ByteArray) : Option Bool := some (Lib.hasPrefix a0.data.toList a1.data.toList)
theorem strings_HasPrefix.calls (a0 a1 : ByteArray) (r : Bool) (w : World) (h : strings_HasPrefix.f a0 a1 = some r) :
    Calls Tryd.prog 19 #[.string a0, .string a1] w fun e w' => e = .returned (.bool r) ∧ Drawn0 w w' := by
  obtain rfl := Option.some.inj h
  refine (Tryd.strings_HasPrefix a0 a1 w).mono ?_
  rintro e w' ⟨rfl, rfl⟩
  exact ⟨rfl, Drawn0.refl _⟩

def strconv_Itoa.f (a0 : Int) : Option ByteArray := if -9223372036854775808 ≤ a0 then (if a0 ≤ 9223372036854775807 then some (ba (Lib.itoa a0)) else none) else none
theorem strconv_Itoa.calls (a0 : Int) (r : ByteArray) (w : World) (hG : GW w) (h : strconv_Itoa.f a0 = some r) :
    Calls Tryd.prog 25 #[.int .i64 a0] w fun e w' => e = .returned (.string r) ∧ Below w.heap.size w w' := by
  unfold strconv_Itoa.f at h
  split at h
  · rename_i h0
    split at h
    · rename_i h1
      obtain rfl := Option.some.inj h
      refine (Tryd.strconv_Itoa a0 h0 h1 w hG.pow10).mono ?_
      rintro e w' ⟨rfl, k, os, rfl⟩
      exact ⟨rfl, below_grow _ _ _⟩
    · cases h
  · cases h
end Go.Proofs.YtpkhemnngjmcjaaDoor
