-- Written by a program of this place (myprint.py) out of the translation. Not trusted: Lean checks it.
import Derived.Test.YtpkhemnngjmcjaaDoorR2x0
import Derived.Test.YtpkhemnngjmcjaaDoorR2x1
namespace Go.Proofs.YtpkhemnngjmcjaaDoor.R2
open Go.RowKit Go.Proofs.YtpkhemnngjmcjaaDoor Go.Proofs.YtpkhemnngjmcjaaDoor.K0 Go.Proofs.YtpkhemnngjmcjaaDoor.R1 Go.Proofs.YtpkhemnngjmcjaaDoorW.PrintWords Go.Proofs.YtpkhemnngjmcjaaDoorW.PrintLast Go.Proofs.YtpkhemnngjmcjaaDoorW.PrintMore
attribute [local go_sem] max2_int min2_int max_two min_two max_three min_three max_four min_four   -- for this text's walks alone
set_option linter.unusedVariables false
set_option linter.unusedSimpArgs false

/-! ### armadalaw08_live: function 5 -/
def armadalaw08_live.f (k : Nat)  : Option (Bool) := (mpath_Major.f k (⟨#[101, 120, 47, 97, 47, 118, 49, 50]⟩ : ByteArray)).bind fun bt126 => ((mpath_Major.f k (⟨#[101, 120, 47, 97]⟩ : ByteArray)).bind fun bt129 => ((mpath_Major.f k (⟨#[101, 120, 47, 97, 47, 118, 49]⟩ : ByteArray)).bind fun bt132 => (if bt126.1.toList = ([101, 120, 47, 97] : List UInt8) then (if bt126.2.1 = 12 then (if bt126.2.2 = true then (if bt129.1.toList = ([101, 120, 47, 97] : List UInt8) then (if bt129.2.1 = 0 then (if bt129.2.2 = true then (if bt132.2.2 = true then (some false) else ((mpath_Check.f k (⟨#[101, 120, 47, 118, 97, 47, 118, 50, 120]⟩ : ByteArray)).bind fun t135 => (if t135 = true then ((mpath_Check.f k (⟨#[118, 50]⟩ : ByteArray)).bind fun t136 => (if t136 = true then (some false) else ((mpath_Check.f k (⟨#[101, 120, 47, 118, 50, 47, 97]⟩ : ByteArray)).bind fun t137 => (if t137 = true then (some false) else ((mpath_Check.f k (⟨#[101, 120, 47, 118, 48, 50]⟩ : ByteArray)).bind fun t138 => (if t138 = true then (some false) else ((mpath_Fits.f k (⟨#[101, 120, 47, 97, 47, 118, 50]⟩ : ByteArray) 2 0 0 (⟨#[]⟩ : ByteArray) (⟨#[]⟩ : ByteArray)).bind fun t139 => (if t139 = true then ((mpath_Fits.f k (⟨#[101, 120, 47, 97, 47, 118, 50]⟩ : ByteArray) 1 0 0 (⟨#[]⟩ : ByteArray) (⟨#[]⟩ : ByteArray)).bind fun t140 => (if t140 = true then (some false) else ((mpath_Fits.f k (⟨#[101, 120, 47, 97]⟩ : ByteArray) 1 0 0 (⟨#[]⟩ : ByteArray) (⟨#[]⟩ : ByteArray)).bind fun t141 => (if t141 = true then ((mpath_Fits.f k (⟨#[101, 120, 47, 97]⟩ : ByteArray) 0 0 0 (⟨#[]⟩ : ByteArray) (⟨#[]⟩ : ByteArray)).bind fun t142 => (if t142 = true then ((mpath_Fits.f k (⟨#[101, 120, 47, 97]⟩ : ByteArray) 2 0 0 (⟨#[]⟩ : ByteArray) (⟨#[]⟩ : ByteArray)).bind fun t143 => (if t143 = true then (some false) else ((mpath_Within.f (⟨#[97, 47, 98, 47, 99]⟩ : ByteArray) (⟨#[97, 47, 98]⟩ : ByteArray)).bind fun t144 => (if t144 = true then ((mpath_Within.f (⟨#[97, 47, 98, 99]⟩ : ByteArray) (⟨#[97, 47, 98]⟩ : ByteArray)).bind fun t145 => (if t145 = true then (some false) else ((mpath_Within.f (⟨#[97]⟩ : ByteArray) (⟨#[]⟩ : ByteArray)).bind fun t146 => (if t146 = true then ((mpath_Base.f (⟨#[97, 47, 98, 47, 99]⟩ : ByteArray)).bind fun t147 => (if t147.toList = ([97, 47, 98] : List UInt8) then ((mpath_Base.f (⟨#[97]⟩ : ByteArray)).bind fun t148 => (some (t148.toList == ([] : List UInt8)))) else (some false))) else (some false))))) else (some false))))) else (some false))) else (some false))))) else (some false))))))))) else (some false)))) else (some false)) else (some false)) else (some false)) else (some false)) else (some false)) else (some false))))
theorem armadalaw08_live.mono : ∀ k, LeO (armadalaw08_live.f k ) (armadalaw08_live.f (k + 1) ) := by
 intro  k
 unfold armadalaw08_live.f
 repeat' first
   | (with_reducible exact mpath_Check.mono _ _)
   | (with_reducible exact mpath_Fits.mono _ _ _ _ _ _ _)
   | (with_reducible exact mpath_Major.mono _ _)
   | (with_reducible exact LeO.refl _)
   | (with_reducible exact LeO.none _)
   | (with_reducible refine LeO.ite ?_ ?_)
   | (with_reducible refine LeO.bind ?_ (fun _ => ?_))
   | exact mpath_Check.mono _ _
   | exact mpath_Fits.mono _ _ _ _ _ _ _
   | exact mpath_Major.mono _ _
   | exact LeO.none _
   | refine LeO.ite ?_ ?_
   | refine LeO.bind ?_ (fun _ => ?_)
set_option maxHeartbeats 8000000 in
set_option maxRecDepth 100000 in
theorem armadalaw08_live.calls (k : Nat)  (r : Bool) (w : World) (hG : GW w) (hT : r = true) (h : armadalaw08_live.f k  = some r) :
  Calls Tryd.prog 5 #[] w fun e w' => e = .returned (.bool r) ∧ Below w.heap.size w w' := by
 have hu23 := Tryd.underlying23
 have HGW := Aside0.mk hG
 clear hG
 have HTRU_ := Aside0.mk hT
 clear hT
 have HB := Aside0.mk (Below.refl w.heap.size w)
 have H : ((mpath_Major.f k (⟨#[101, 120, 47, 97, 47, 118, 49, 50]⟩ : ByteArray)).bind fun bt126 => ((mpath_Major.f k (⟨#[101, 120, 47, 97]⟩ : ByteArray)).bind fun bt129 => ((mpath_Major.f k (⟨#[101, 120, 47, 97, 47, 118, 49]⟩ : ByteArray)).bind fun bt132 => (if bt126.1.toList = ([101, 120, 47, 97] : List UInt8) then (if bt126.2.1 = 12 then (if bt126.2.2 = true then (if bt129.1.toList = ([101, 120, 47, 97] : List UInt8) then (if bt129.2.1 = 0 then (if bt129.2.2 = true then (if bt132.2.2 = true then (some false) else ((mpath_Check.f k (⟨#[101, 120, 47, 118, 97, 47, 118, 50, 120]⟩ : ByteArray)).bind fun t135 => (if t135 = true then ((mpath_Check.f k (⟨#[118, 50]⟩ : ByteArray)).bind fun t136 => (if t136 = true then (some false) else ((mpath_Check.f k (⟨#[101, 120, 47, 118, 50, 47, 97]⟩ : ByteArray)).bind fun t137 => (if t137 = true then (some false) else ((mpath_Check.f k (⟨#[101, 120, 47, 118, 48, 50]⟩ : ByteArray)).bind fun t138 => (if t138 = true then (some false) else ((mpath_Fits.f k (⟨#[101, 120, 47, 97, 47, 118, 50]⟩ : ByteArray) 2 0 0 (⟨#[]⟩ : ByteArray) (⟨#[]⟩ : ByteArray)).bind fun t139 => (if t139 = true then ((mpath_Fits.f k (⟨#[101, 120, 47, 97, 47, 118, 50]⟩ : ByteArray) 1 0 0 (⟨#[]⟩ : ByteArray) (⟨#[]⟩ : ByteArray)).bind fun t140 => (if t140 = true then (some false) else ((mpath_Fits.f k (⟨#[101, 120, 47, 97]⟩ : ByteArray) 1 0 0 (⟨#[]⟩ : ByteArray) (⟨#[]⟩ : ByteArray)).bind fun t141 => (if t141 = true then ((mpath_Fits.f k (⟨#[101, 120, 47, 97]⟩ : ByteArray) 0 0 0 (⟨#[]⟩ : ByteArray) (⟨#[]⟩ : ByteArray)).bind fun t142 => (if t142 = true then ((mpath_Fits.f k (⟨#[101, 120, 47, 97]⟩ : ByteArray) 2 0 0 (⟨#[]⟩ : ByteArray) (⟨#[]⟩ : ByteArray)).bind fun t143 => (if t143 = true then (some false) else ((mpath_Within.f (⟨#[97, 47, 98, 47, 99]⟩ : ByteArray) (⟨#[97, 47, 98]⟩ : ByteArray)).bind fun t144 => (if t144 = true then ((mpath_Within.f (⟨#[97, 47, 98, 99]⟩ : ByteArray) (⟨#[97, 47, 98]⟩ : ByteArray)).bind fun t145 => (if t145 = true then (some false) else ((mpath_Within.f (⟨#[97]⟩ : ByteArray) (⟨#[]⟩ : ByteArray)).bind fun t146 => (if t146 = true then ((mpath_Base.f (⟨#[97, 47, 98, 47, 99]⟩ : ByteArray)).bind fun t147 => (if t147.toList = ([97, 47, 98] : List UInt8) then ((mpath_Base.f (⟨#[97]⟩ : ByteArray)).bind fun t148 => (some (t148.toList == ([] : List UInt8)))) else (some false))) else (some false))))) else (some false))))) else (some false))) else (some false))))) else (some false))))))))) else (some false)))) else (some false)) else (some false)) else (some false)) else (some false)) else (some false)) else (some false))))) = some r := h
 clear h
 replace H := Option.bind_eq_some_iff.mp H
 obtain ⟨⟨t126, t127, t128⟩, A10, H⟩ := H
 replace H : ((mpath_Major.f k (⟨#[101, 120, 47, 97]⟩ : ByteArray)).bind fun bt129 => ((mpath_Major.f k (⟨#[101, 120, 47, 97, 47, 118, 49]⟩ : ByteArray)).bind fun bt132 => (if t126.toList = ([101, 120, 47, 97] : List UInt8) then (if t127 = 12 then (if t128 = true then (if bt129.1.toList = ([101, 120, 47, 97] : List UInt8) then (if bt129.2.1 = 0 then (if bt129.2.2 = true then (if bt132.2.2 = true then (some false) else ((mpath_Check.f k (⟨#[101, 120, 47, 118, 97, 47, 118, 50, 120]⟩ : ByteArray)).bind fun t135 => (if t135 = true then ((mpath_Check.f k (⟨#[118, 50]⟩ : ByteArray)).bind fun t136 => (if t136 = true then (some false) else ((mpath_Check.f k (⟨#[101, 120, 47, 118, 50, 47, 97]⟩ : ByteArray)).bind fun t137 => (if t137 = true then (some false) else ((mpath_Check.f k (⟨#[101, 120, 47, 118, 48, 50]⟩ : ByteArray)).bind fun t138 => (if t138 = true then (some false) else ((mpath_Fits.f k (⟨#[101, 120, 47, 97, 47, 118, 50]⟩ : ByteArray) 2 0 0 (⟨#[]⟩ : ByteArray) (⟨#[]⟩ : ByteArray)).bind fun t139 => (if t139 = true then ((mpath_Fits.f k (⟨#[101, 120, 47, 97, 47, 118, 50]⟩ : ByteArray) 1 0 0 (⟨#[]⟩ : ByteArray) (⟨#[]⟩ : ByteArray)).bind fun t140 => (if t140 = true then (some false) else ((mpath_Fits.f k (⟨#[101, 120, 47, 97]⟩ : ByteArray) 1 0 0 (⟨#[]⟩ : ByteArray) (⟨#[]⟩ : ByteArray)).bind fun t141 => (if t141 = true then ((mpath_Fits.f k (⟨#[101, 120, 47, 97]⟩ : ByteArray) 0 0 0 (⟨#[]⟩ : ByteArray) (⟨#[]⟩ : ByteArray)).bind fun t142 => (if t142 = true then ((mpath_Fits.f k (⟨#[101, 120, 47, 97]⟩ : ByteArray) 2 0 0 (⟨#[]⟩ : ByteArray) (⟨#[]⟩ : ByteArray)).bind fun t143 => (if t143 = true then (some false) else ((mpath_Within.f (⟨#[97, 47, 98, 47, 99]⟩ : ByteArray) (⟨#[97, 47, 98]⟩ : ByteArray)).bind fun t144 => (if t144 = true then ((mpath_Within.f (⟨#[97, 47, 98, 99]⟩ : ByteArray) (⟨#[97, 47, 98]⟩ : ByteArray)).bind fun t145 => (if t145 = true then (some false) else ((mpath_Within.f (⟨#[97]⟩ : ByteArray) (⟨#[]⟩ : ByteArray)).bind fun t146 => (if t146 = true then ((mpath_Base.f (⟨#[97, 47, 98, 47, 99]⟩ : ByteArray)).bind fun t147 => (if t147.toList = ([97, 47, 98] : List UInt8) then ((mpath_Base.f (⟨#[97]⟩ : ByteArray)).bind fun t148 => (some (t148.toList == ([] : List UInt8)))) else (some false))) else (some false))))) else (some false))))) else (some false))) else (some false))))) else (some false))))))))) else (some false)))) else (some false)) else (some false)) else (some false)) else (some false)) else (some false)) else (some false)))) = some r := H
 have A1 := Aside0.mk A10
 clear A10
 replace H := Option.bind_eq_some_iff.mp H
 obtain ⟨⟨t129, t130, t131⟩, A20, H⟩ := H
 replace H : ((mpath_Major.f k (⟨#[101, 120, 47, 97, 47, 118, 49]⟩ : ByteArray)).bind fun bt132 => (if t126.toList = ([101, 120, 47, 97] : List UInt8) then (if t127 = 12 then (if t128 = true then (if t129.toList = ([101, 120, 47, 97] : List UInt8) then (if t130 = 0 then (if t131 = true then (if bt132.2.2 = true then (some false) else ((mpath_Check.f k (⟨#[101, 120, 47, 118, 97, 47, 118, 50, 120]⟩ : ByteArray)).bind fun t135 => (if t135 = true then ((mpath_Check.f k (⟨#[118, 50]⟩ : ByteArray)).bind fun t136 => (if t136 = true then (some false) else ((mpath_Check.f k (⟨#[101, 120, 47, 118, 50, 47, 97]⟩ : ByteArray)).bind fun t137 => (if t137 = true then (some false) else ((mpath_Check.f k (⟨#[101, 120, 47, 118, 48, 50]⟩ : ByteArray)).bind fun t138 => (if t138 = true then (some false) else ((mpath_Fits.f k (⟨#[101, 120, 47, 97, 47, 118, 50]⟩ : ByteArray) 2 0 0 (⟨#[]⟩ : ByteArray) (⟨#[]⟩ : ByteArray)).bind fun t139 => (if t139 = true then ((mpath_Fits.f k (⟨#[101, 120, 47, 97, 47, 118, 50]⟩ : ByteArray) 1 0 0 (⟨#[]⟩ : ByteArray) (⟨#[]⟩ : ByteArray)).bind fun t140 => (if t140 = true then (some false) else ((mpath_Fits.f k (⟨#[101, 120, 47, 97]⟩ : ByteArray) 1 0 0 (⟨#[]⟩ : ByteArray) (⟨#[]⟩ : ByteArray)).bind fun t141 => (if t141 = true then ((mpath_Fits.f k (⟨#[101, 120, 47, 97]⟩ : ByteArray) 0 0 0 (⟨#[]⟩ : ByteArray) (⟨#[]⟩ : ByteArray)).bind fun t142 => (if t142 = true then ((mpath_Fits.f k (⟨#[101, 120, 47, 97]⟩ : ByteArray) 2 0 0 (⟨#[]⟩ : ByteArray) (⟨#[]⟩ : ByteArray)).bind fun t143 => (if t143 = true then (some false) else ((mpath_Within.f (⟨#[97, 47, 98, 47, 99]⟩ : ByteArray) (⟨#[97, 47, 98]⟩ : ByteArray)).bind fun t144 => (if t144 = true then ((mpath_Within.f (⟨#[97, 47, 98, 99]⟩ : ByteArray) (⟨#[97, 47, 98]⟩ : ByteArray)).bind fun t145 => (if t145 = true then (some false) else ((mpath_Within.f (⟨#[97]⟩ : ByteArray) (⟨#[]⟩ : ByteArray)).bind fun t146 => (if t146 = true then ((mpath_Base.f (⟨#[97, 47, 98, 47, 99]⟩ : ByteArray)).bind fun t147 => (if t147.toList = ([97, 47, 98] : List UInt8) then ((mpath_Base.f (⟨#[97]⟩ : ByteArray)).bind fun t148 => (some (t148.toList == ([] : List UInt8)))) else (some false))) else (some false))))) else (some false))))) else (some false))) else (some false))))) else (some false))))))))) else (some false)))) else (some false)) else (some false)) else (some false)) else (some false)) else (some false)) else (some false))) = some r := H
 have A2 := Aside0.mk A20
 clear A20
 replace H := Option.bind_eq_some_iff.mp H
 obtain ⟨⟨t132, t133, t134⟩, A30, H⟩ := H
 replace H : (if t126.toList = ([101, 120, 47, 97] : List UInt8) then (if t127 = 12 then (if t128 = true then (if t129.toList = ([101, 120, 47, 97] : List UInt8) then (if t130 = 0 then (if t131 = true then (if t134 = true then (some false) else ((mpath_Check.f k (⟨#[101, 120, 47, 118, 97, 47, 118, 50, 120]⟩ : ByteArray)).bind fun t135 => (if t135 = true then ((mpath_Check.f k (⟨#[118, 50]⟩ : ByteArray)).bind fun t136 => (if t136 = true then (some false) else ((mpath_Check.f k (⟨#[101, 120, 47, 118, 50, 47, 97]⟩ : ByteArray)).bind fun t137 => (if t137 = true then (some false) else ((mpath_Check.f k (⟨#[101, 120, 47, 118, 48, 50]⟩ : ByteArray)).bind fun t138 => (if t138 = true then (some false) else ((mpath_Fits.f k (⟨#[101, 120, 47, 97, 47, 118, 50]⟩ : ByteArray) 2 0 0 (⟨#[]⟩ : ByteArray) (⟨#[]⟩ : ByteArray)).bind fun t139 => (if t139 = true then ((mpath_Fits.f k (⟨#[101, 120, 47, 97, 47, 118, 50]⟩ : ByteArray) 1 0 0 (⟨#[]⟩ : ByteArray) (⟨#[]⟩ : ByteArray)).bind fun t140 => (if t140 = true then (some false) else ((mpath_Fits.f k (⟨#[101, 120, 47, 97]⟩ : ByteArray) 1 0 0 (⟨#[]⟩ : ByteArray) (⟨#[]⟩ : ByteArray)).bind fun t141 => (if t141 = true then ((mpath_Fits.f k (⟨#[101, 120, 47, 97]⟩ : ByteArray) 0 0 0 (⟨#[]⟩ : ByteArray) (⟨#[]⟩ : ByteArray)).bind fun t142 => (if t142 = true then ((mpath_Fits.f k (⟨#[101, 120, 47, 97]⟩ : ByteArray) 2 0 0 (⟨#[]⟩ : ByteArray) (⟨#[]⟩ : ByteArray)).bind fun t143 => (if t143 = true then (some false) else ((mpath_Within.f (⟨#[97, 47, 98, 47, 99]⟩ : ByteArray) (⟨#[97, 47, 98]⟩ : ByteArray)).bind fun t144 => (if t144 = true then ((mpath_Within.f (⟨#[97, 47, 98, 99]⟩ : ByteArray) (⟨#[97, 47, 98]⟩ : ByteArray)).bind fun t145 => (if t145 = true then (some false) else ((mpath_Within.f (⟨#[97]⟩ : ByteArray) (⟨#[]⟩ : ByteArray)).bind fun t146 => (if t146 = true then ((mpath_Base.f (⟨#[97, 47, 98, 47, 99]⟩ : ByteArray)).bind fun t147 => (if t147.toList = ([97, 47, 98] : List UInt8) then ((mpath_Base.f (⟨#[97]⟩ : ByteArray)).bind fun t148 => (some (t148.toList == ([] : List UInt8)))) else (some false))) else (some false))))) else (some false))))) else (some false))) else (some false))))) else (some false))))))))) else (some false)))) else (some false)) else (some false)) else (some false)) else (some false)) else (some false)) else (some false)) = some r := H
 have A3 := Aside0.mk A30
 clear A30
 by_cases c4 : t126.toList = ([101, 120, 47, 97] : List UInt8)
 ·
  rw [if_pos c4] at H
  have c4b0 : (t126.toList == ([101, 120, 47, 97] : List UInt8)) = true := beq_iff_eq.mpr c4
  have c4b1 : (t126.toList != ([101, 120, 47, 97] : List UInt8)) = false := bne_eq_false_iff_eq.mpr c4
  clear c4
  by_cases c5 : t127 = 12
  ·
   rw [if_pos c5] at H
   have c5b0 : (t127 == 12) = true := beq_iff_eq.mpr c5
   have c5b1 : (t127 != 12) = false := bne_eq_false_iff_eq.mpr c5
   clear c5
   by_cases c6 : t128 = true
   ·
    subst c6
    have H1 : (if t129.toList = ([101, 120, 47, 97] : List UInt8) then (if t130 = 0 then (if t131 = true then (if t134 = true then (some false) else ((mpath_Check.f k (⟨#[101, 120, 47, 118, 97, 47, 118, 50, 120]⟩ : ByteArray)).bind fun t135 => (if t135 = true then ((mpath_Check.f k (⟨#[118, 50]⟩ : ByteArray)).bind fun t136 => (if t136 = true then (some false) else ((mpath_Check.f k (⟨#[101, 120, 47, 118, 50, 47, 97]⟩ : ByteArray)).bind fun t137 => (if t137 = true then (some false) else ((mpath_Check.f k (⟨#[101, 120, 47, 118, 48, 50]⟩ : ByteArray)).bind fun t138 => (if t138 = true then (some false) else ((mpath_Fits.f k (⟨#[101, 120, 47, 97, 47, 118, 50]⟩ : ByteArray) 2 0 0 (⟨#[]⟩ : ByteArray) (⟨#[]⟩ : ByteArray)).bind fun t139 => (if t139 = true then ((mpath_Fits.f k (⟨#[101, 120, 47, 97, 47, 118, 50]⟩ : ByteArray) 1 0 0 (⟨#[]⟩ : ByteArray) (⟨#[]⟩ : ByteArray)).bind fun t140 => (if t140 = true then (some false) else ((mpath_Fits.f k (⟨#[101, 120, 47, 97]⟩ : ByteArray) 1 0 0 (⟨#[]⟩ : ByteArray) (⟨#[]⟩ : ByteArray)).bind fun t141 => (if t141 = true then ((mpath_Fits.f k (⟨#[101, 120, 47, 97]⟩ : ByteArray) 0 0 0 (⟨#[]⟩ : ByteArray) (⟨#[]⟩ : ByteArray)).bind fun t142 => (if t142 = true then ((mpath_Fits.f k (⟨#[101, 120, 47, 97]⟩ : ByteArray) 2 0 0 (⟨#[]⟩ : ByteArray) (⟨#[]⟩ : ByteArray)).bind fun t143 => (if t143 = true then (some false) else ((mpath_Within.f (⟨#[97, 47, 98, 47, 99]⟩ : ByteArray) (⟨#[97, 47, 98]⟩ : ByteArray)).bind fun t144 => (if t144 = true then ((mpath_Within.f (⟨#[97, 47, 98, 99]⟩ : ByteArray) (⟨#[97, 47, 98]⟩ : ByteArray)).bind fun t145 => (if t145 = true then (some false) else ((mpath_Within.f (⟨#[97]⟩ : ByteArray) (⟨#[]⟩ : ByteArray)).bind fun t146 => (if t146 = true then ((mpath_Base.f (⟨#[97, 47, 98, 47, 99]⟩ : ByteArray)).bind fun t147 => (if t147.toList = ([97, 47, 98] : List UInt8) then ((mpath_Base.f (⟨#[97]⟩ : ByteArray)).bind fun t148 => (some (t148.toList == ([] : List UInt8)))) else (some false))) else (some false))))) else (some false))))) else (some false))) else (some false))))) else (some false))))))))) else (some false)))) else (some false)) else (some false)) else (some false)) = some r := by rw [if_pos rfl] at H; exact H
    clear H
    have H := H1
    clear H1
    by_cases c7 : t129.toList = ([101, 120, 47, 97] : List UInt8)
    ·
     rw [if_pos c7] at H
     have c7b0 : (t129.toList == ([101, 120, 47, 97] : List UInt8)) = true := beq_iff_eq.mpr c7
     have c7b1 : (t129.toList != ([101, 120, 47, 97] : List UInt8)) = false := bne_eq_false_iff_eq.mpr c7
     clear c7
     by_cases c8 : t130 = 0
     ·
      rw [if_pos c8] at H
      have c8b0 : (t130 == 0) = true := beq_iff_eq.mpr c8
      have c8b1 : (t130 != 0) = false := bne_eq_false_iff_eq.mpr c8
      clear c8
      by_cases c9 : t131 = true
      ·
       subst c9
       have H1 : (if t134 = true then (some false) else ((mpath_Check.f k (⟨#[101, 120, 47, 118, 97, 47, 118, 50, 120]⟩ : ByteArray)).bind fun t135 => (if t135 = true then ((mpath_Check.f k (⟨#[118, 50]⟩ : ByteArray)).bind fun t136 => (if t136 = true then (some false) else ((mpath_Check.f k (⟨#[101, 120, 47, 118, 50, 47, 97]⟩ : ByteArray)).bind fun t137 => (if t137 = true then (some false) else ((mpath_Check.f k (⟨#[101, 120, 47, 118, 48, 50]⟩ : ByteArray)).bind fun t138 => (if t138 = true then (some false) else ((mpath_Fits.f k (⟨#[101, 120, 47, 97, 47, 118, 50]⟩ : ByteArray) 2 0 0 (⟨#[]⟩ : ByteArray) (⟨#[]⟩ : ByteArray)).bind fun t139 => (if t139 = true then ((mpath_Fits.f k (⟨#[101, 120, 47, 97, 47, 118, 50]⟩ : ByteArray) 1 0 0 (⟨#[]⟩ : ByteArray) (⟨#[]⟩ : ByteArray)).bind fun t140 => (if t140 = true then (some false) else ((mpath_Fits.f k (⟨#[101, 120, 47, 97]⟩ : ByteArray) 1 0 0 (⟨#[]⟩ : ByteArray) (⟨#[]⟩ : ByteArray)).bind fun t141 => (if t141 = true then ((mpath_Fits.f k (⟨#[101, 120, 47, 97]⟩ : ByteArray) 0 0 0 (⟨#[]⟩ : ByteArray) (⟨#[]⟩ : ByteArray)).bind fun t142 => (if t142 = true then ((mpath_Fits.f k (⟨#[101, 120, 47, 97]⟩ : ByteArray) 2 0 0 (⟨#[]⟩ : ByteArray) (⟨#[]⟩ : ByteArray)).bind fun t143 => (if t143 = true then (some false) else ((mpath_Within.f (⟨#[97, 47, 98, 47, 99]⟩ : ByteArray) (⟨#[97, 47, 98]⟩ : ByteArray)).bind fun t144 => (if t144 = true then ((mpath_Within.f (⟨#[97, 47, 98, 99]⟩ : ByteArray) (⟨#[97, 47, 98]⟩ : ByteArray)).bind fun t145 => (if t145 = true then (some false) else ((mpath_Within.f (⟨#[97]⟩ : ByteArray) (⟨#[]⟩ : ByteArray)).bind fun t146 => (if t146 = true then ((mpath_Base.f (⟨#[97, 47, 98, 47, 99]⟩ : ByteArray)).bind fun t147 => (if t147.toList = ([97, 47, 98] : List UInt8) then ((mpath_Base.f (⟨#[97]⟩ : ByteArray)).bind fun t148 => (some (t148.toList == ([] : List UInt8)))) else (some false))) else (some false))))) else (some false))))) else (some false))) else (some false))))) else (some false))))))))) else (some false)))) = some r := by rw [if_pos rfl] at H; exact H
       clear H
       have H := H1
       clear H1
       by_cases c10 : t134 = true
       ·
        subst c10
        have H1 : (some false) = some r := by rw [if_pos rfl] at H; exact H
        clear H
        have H := H1
        clear H1
        exact absurd ((Option.some.inj H).trans HTRU_.out) (by decide)
       ·
        replace c10 := Bool.eq_false_iff.mpr c10
        subst c10
        have H1 : ((mpath_Check.f k (⟨#[101, 120, 47, 118, 97, 47, 118, 50, 120]⟩ : ByteArray)).bind fun t135 => (if t135 = true then ((mpath_Check.f k (⟨#[118, 50]⟩ : ByteArray)).bind fun t136 => (if t136 = true then (some false) else ((mpath_Check.f k (⟨#[101, 120, 47, 118, 50, 47, 97]⟩ : ByteArray)).bind fun t137 => (if t137 = true then (some false) else ((mpath_Check.f k (⟨#[101, 120, 47, 118, 48, 50]⟩ : ByteArray)).bind fun t138 => (if t138 = true then (some false) else ((mpath_Fits.f k (⟨#[101, 120, 47, 97, 47, 118, 50]⟩ : ByteArray) 2 0 0 (⟨#[]⟩ : ByteArray) (⟨#[]⟩ : ByteArray)).bind fun t139 => (if t139 = true then ((mpath_Fits.f k (⟨#[101, 120, 47, 97, 47, 118, 50]⟩ : ByteArray) 1 0 0 (⟨#[]⟩ : ByteArray) (⟨#[]⟩ : ByteArray)).bind fun t140 => (if t140 = true then (some false) else ((mpath_Fits.f k (⟨#[101, 120, 47, 97]⟩ : ByteArray) 1 0 0 (⟨#[]⟩ : ByteArray) (⟨#[]⟩ : ByteArray)).bind fun t141 => (if t141 = true then ((mpath_Fits.f k (⟨#[101, 120, 47, 97]⟩ : ByteArray) 0 0 0 (⟨#[]⟩ : ByteArray) (⟨#[]⟩ : ByteArray)).bind fun t142 => (if t142 = true then ((mpath_Fits.f k (⟨#[101, 120, 47, 97]⟩ : ByteArray) 2 0 0 (⟨#[]⟩ : ByteArray) (⟨#[]⟩ : ByteArray)).bind fun t143 => (if t143 = true then (some false) else ((mpath_Within.f (⟨#[97, 47, 98, 47, 99]⟩ : ByteArray) (⟨#[97, 47, 98]⟩ : ByteArray)).bind fun t144 => (if t144 = true then ((mpath_Within.f (⟨#[97, 47, 98, 99]⟩ : ByteArray) (⟨#[97, 47, 98]⟩ : ByteArray)).bind fun t145 => (if t145 = true then (some false) else ((mpath_Within.f (⟨#[97]⟩ : ByteArray) (⟨#[]⟩ : ByteArray)).bind fun t146 => (if t146 = true then ((mpath_Base.f (⟨#[97, 47, 98, 47, 99]⟩ : ByteArray)).bind fun t147 => (if t147.toList = ([97, 47, 98] : List UInt8) then ((mpath_Base.f (⟨#[97]⟩ : ByteArray)).bind fun t148 => (some (t148.toList == ([] : List UInt8)))) else (some false))) else (some false))))) else (some false))))) else (some false))) else (some false))))) else (some false))))))))) else (some false))) = some r := by rw [if_neg (show ¬ (false = true) by decide)] at H; exact H
        clear H
        have H := H1
        clear H1
        replace H := Option.bind_eq_some_iff.mp H
        obtain ⟨t135, A110, H⟩ := H
        replace H : (if t135 = true then ((mpath_Check.f k (⟨#[118, 50]⟩ : ByteArray)).bind fun t136 => (if t136 = true then (some false) else ((mpath_Check.f k (⟨#[101, 120, 47, 118, 50, 47, 97]⟩ : ByteArray)).bind fun t137 => (if t137 = true then (some false) else ((mpath_Check.f k (⟨#[101, 120, 47, 118, 48, 50]⟩ : ByteArray)).bind fun t138 => (if t138 = true then (some false) else ((mpath_Fits.f k (⟨#[101, 120, 47, 97, 47, 118, 50]⟩ : ByteArray) 2 0 0 (⟨#[]⟩ : ByteArray) (⟨#[]⟩ : ByteArray)).bind fun t139 => (if t139 = true then ((mpath_Fits.f k (⟨#[101, 120, 47, 97, 47, 118, 50]⟩ : ByteArray) 1 0 0 (⟨#[]⟩ : ByteArray) (⟨#[]⟩ : ByteArray)).bind fun t140 => (if t140 = true then (some false) else ((mpath_Fits.f k (⟨#[101, 120, 47, 97]⟩ : ByteArray) 1 0 0 (⟨#[]⟩ : ByteArray) (⟨#[]⟩ : ByteArray)).bind fun t141 => (if t141 = true then ((mpath_Fits.f k (⟨#[101, 120, 47, 97]⟩ : ByteArray) 0 0 0 (⟨#[]⟩ : ByteArray) (⟨#[]⟩ : ByteArray)).bind fun t142 => (if t142 = true then ((mpath_Fits.f k (⟨#[101, 120, 47, 97]⟩ : ByteArray) 2 0 0 (⟨#[]⟩ : ByteArray) (⟨#[]⟩ : ByteArray)).bind fun t143 => (if t143 = true then (some false) else ((mpath_Within.f (⟨#[97, 47, 98, 47, 99]⟩ : ByteArray) (⟨#[97, 47, 98]⟩ : ByteArray)).bind fun t144 => (if t144 = true then ((mpath_Within.f (⟨#[97, 47, 98, 99]⟩ : ByteArray) (⟨#[97, 47, 98]⟩ : ByteArray)).bind fun t145 => (if t145 = true then (some false) else ((mpath_Within.f (⟨#[97]⟩ : ByteArray) (⟨#[]⟩ : ByteArray)).bind fun t146 => (if t146 = true then ((mpath_Base.f (⟨#[97, 47, 98, 47, 99]⟩ : ByteArray)).bind fun t147 => (if t147.toList = ([97, 47, 98] : List UInt8) then ((mpath_Base.f (⟨#[97]⟩ : ByteArray)).bind fun t148 => (some (t148.toList == ([] : List UInt8)))) else (some false))) else (some false))))) else (some false))))) else (some false))) else (some false))))) else (some false))))))))) else (some false)) = some r := H
        have A11 := Aside0.mk A110
        clear A110
        by_cases c12 : t135 = true
        ·
         subst c12
         have H1 : ((mpath_Check.f k (⟨#[118, 50]⟩ : ByteArray)).bind fun t136 => (if t136 = true then (some false) else ((mpath_Check.f k (⟨#[101, 120, 47, 118, 50, 47, 97]⟩ : ByteArray)).bind fun t137 => (if t137 = true then (some false) else ((mpath_Check.f k (⟨#[101, 120, 47, 118, 48, 50]⟩ : ByteArray)).bind fun t138 => (if t138 = true then (some false) else ((mpath_Fits.f k (⟨#[101, 120, 47, 97, 47, 118, 50]⟩ : ByteArray) 2 0 0 (⟨#[]⟩ : ByteArray) (⟨#[]⟩ : ByteArray)).bind fun t139 => (if t139 = true then ((mpath_Fits.f k (⟨#[101, 120, 47, 97, 47, 118, 50]⟩ : ByteArray) 1 0 0 (⟨#[]⟩ : ByteArray) (⟨#[]⟩ : ByteArray)).bind fun t140 => (if t140 = true then (some false) else ((mpath_Fits.f k (⟨#[101, 120, 47, 97]⟩ : ByteArray) 1 0 0 (⟨#[]⟩ : ByteArray) (⟨#[]⟩ : ByteArray)).bind fun t141 => (if t141 = true then ((mpath_Fits.f k (⟨#[101, 120, 47, 97]⟩ : ByteArray) 0 0 0 (⟨#[]⟩ : ByteArray) (⟨#[]⟩ : ByteArray)).bind fun t142 => (if t142 = true then ((mpath_Fits.f k (⟨#[101, 120, 47, 97]⟩ : ByteArray) 2 0 0 (⟨#[]⟩ : ByteArray) (⟨#[]⟩ : ByteArray)).bind fun t143 => (if t143 = true then (some false) else ((mpath_Within.f (⟨#[97, 47, 98, 47, 99]⟩ : ByteArray) (⟨#[97, 47, 98]⟩ : ByteArray)).bind fun t144 => (if t144 = true then ((mpath_Within.f (⟨#[97, 47, 98, 99]⟩ : ByteArray) (⟨#[97, 47, 98]⟩ : ByteArray)).bind fun t145 => (if t145 = true then (some false) else ((mpath_Within.f (⟨#[97]⟩ : ByteArray) (⟨#[]⟩ : ByteArray)).bind fun t146 => (if t146 = true then ((mpath_Base.f (⟨#[97, 47, 98, 47, 99]⟩ : ByteArray)).bind fun t147 => (if t147.toList = ([97, 47, 98] : List UInt8) then ((mpath_Base.f (⟨#[97]⟩ : ByteArray)).bind fun t148 => (some (t148.toList == ([] : List UInt8)))) else (some false))) else (some false))))) else (some false))))) else (some false))) else (some false))))) else (some false))))))))) = some r := by rw [if_pos rfl] at H; exact H
         clear H
         have H := H1
         clear H1
         replace H := Option.bind_eq_some_iff.mp H
         obtain ⟨t136, A130, H⟩ := H
         replace H : (if t136 = true then (some false) else ((mpath_Check.f k (⟨#[101, 120, 47, 118, 50, 47, 97]⟩ : ByteArray)).bind fun t137 => (if t137 = true then (some false) else ((mpath_Check.f k (⟨#[101, 120, 47, 118, 48, 50]⟩ : ByteArray)).bind fun t138 => (if t138 = true then (some false) else ((mpath_Fits.f k (⟨#[101, 120, 47, 97, 47, 118, 50]⟩ : ByteArray) 2 0 0 (⟨#[]⟩ : ByteArray) (⟨#[]⟩ : ByteArray)).bind fun t139 => (if t139 = true then ((mpath_Fits.f k (⟨#[101, 120, 47, 97, 47, 118, 50]⟩ : ByteArray) 1 0 0 (⟨#[]⟩ : ByteArray) (⟨#[]⟩ : ByteArray)).bind fun t140 => (if t140 = true then (some false) else ((mpath_Fits.f k (⟨#[101, 120, 47, 97]⟩ : ByteArray) 1 0 0 (⟨#[]⟩ : ByteArray) (⟨#[]⟩ : ByteArray)).bind fun t141 => (if t141 = true then ((mpath_Fits.f k (⟨#[101, 120, 47, 97]⟩ : ByteArray) 0 0 0 (⟨#[]⟩ : ByteArray) (⟨#[]⟩ : ByteArray)).bind fun t142 => (if t142 = true then ((mpath_Fits.f k (⟨#[101, 120, 47, 97]⟩ : ByteArray) 2 0 0 (⟨#[]⟩ : ByteArray) (⟨#[]⟩ : ByteArray)).bind fun t143 => (if t143 = true then (some false) else ((mpath_Within.f (⟨#[97, 47, 98, 47, 99]⟩ : ByteArray) (⟨#[97, 47, 98]⟩ : ByteArray)).bind fun t144 => (if t144 = true then ((mpath_Within.f (⟨#[97, 47, 98, 99]⟩ : ByteArray) (⟨#[97, 47, 98]⟩ : ByteArray)).bind fun t145 => (if t145 = true then (some false) else ((mpath_Within.f (⟨#[97]⟩ : ByteArray) (⟨#[]⟩ : ByteArray)).bind fun t146 => (if t146 = true then ((mpath_Base.f (⟨#[97, 47, 98, 47, 99]⟩ : ByteArray)).bind fun t147 => (if t147.toList = ([97, 47, 98] : List UInt8) then ((mpath_Base.f (⟨#[97]⟩ : ByteArray)).bind fun t148 => (some (t148.toList == ([] : List UInt8)))) else (some false))) else (some false))))) else (some false))))) else (some false))) else (some false))))) else (some false)))))))) = some r := H
         have A13 := Aside0.mk A130
         clear A130
         by_cases c14 : t136 = true
         ·
          subst c14
          have H1 : (some false) = some r := by rw [if_pos rfl] at H; exact H
          clear H
          have H := H1
          clear H1
          exact absurd ((Option.some.inj H).trans HTRU_.out) (by decide)
         ·
          replace c14 := Bool.eq_false_iff.mpr c14
          subst c14
          have H1 : ((mpath_Check.f k (⟨#[101, 120, 47, 118, 50, 47, 97]⟩ : ByteArray)).bind fun t137 => (if t137 = true then (some false) else ((mpath_Check.f k (⟨#[101, 120, 47, 118, 48, 50]⟩ : ByteArray)).bind fun t138 => (if t138 = true then (some false) else ((mpath_Fits.f k (⟨#[101, 120, 47, 97, 47, 118, 50]⟩ : ByteArray) 2 0 0 (⟨#[]⟩ : ByteArray) (⟨#[]⟩ : ByteArray)).bind fun t139 => (if t139 = true then ((mpath_Fits.f k (⟨#[101, 120, 47, 97, 47, 118, 50]⟩ : ByteArray) 1 0 0 (⟨#[]⟩ : ByteArray) (⟨#[]⟩ : ByteArray)).bind fun t140 => (if t140 = true then (some false) else ((mpath_Fits.f k (⟨#[101, 120, 47, 97]⟩ : ByteArray) 1 0 0 (⟨#[]⟩ : ByteArray) (⟨#[]⟩ : ByteArray)).bind fun t141 => (if t141 = true then ((mpath_Fits.f k (⟨#[101, 120, 47, 97]⟩ : ByteArray) 0 0 0 (⟨#[]⟩ : ByteArray) (⟨#[]⟩ : ByteArray)).bind fun t142 => (if t142 = true then ((mpath_Fits.f k (⟨#[101, 120, 47, 97]⟩ : ByteArray) 2 0 0 (⟨#[]⟩ : ByteArray) (⟨#[]⟩ : ByteArray)).bind fun t143 => (if t143 = true then (some false) else ((mpath_Within.f (⟨#[97, 47, 98, 47, 99]⟩ : ByteArray) (⟨#[97, 47, 98]⟩ : ByteArray)).bind fun t144 => (if t144 = true then ((mpath_Within.f (⟨#[97, 47, 98, 99]⟩ : ByteArray) (⟨#[97, 47, 98]⟩ : ByteArray)).bind fun t145 => (if t145 = true then (some false) else ((mpath_Within.f (⟨#[97]⟩ : ByteArray) (⟨#[]⟩ : ByteArray)).bind fun t146 => (if t146 = true then ((mpath_Base.f (⟨#[97, 47, 98, 47, 99]⟩ : ByteArray)).bind fun t147 => (if t147.toList = ([97, 47, 98] : List UInt8) then ((mpath_Base.f (⟨#[97]⟩ : ByteArray)).bind fun t148 => (some (t148.toList == ([] : List UInt8)))) else (some false))) else (some false))))) else (some false))))) else (some false))) else (some false))))) else (some false))))))) = some r := by rw [if_neg (show ¬ (false = true) by decide)] at H; exact H
          clear H
          have H := H1
          clear H1
          replace H := Option.bind_eq_some_iff.mp H
          obtain ⟨t137, A150, H⟩ := H
          replace H : (if t137 = true then (some false) else ((mpath_Check.f k (⟨#[101, 120, 47, 118, 48, 50]⟩ : ByteArray)).bind fun t138 => (if t138 = true then (some false) else ((mpath_Fits.f k (⟨#[101, 120, 47, 97, 47, 118, 50]⟩ : ByteArray) 2 0 0 (⟨#[]⟩ : ByteArray) (⟨#[]⟩ : ByteArray)).bind fun t139 => (if t139 = true then ((mpath_Fits.f k (⟨#[101, 120, 47, 97, 47, 118, 50]⟩ : ByteArray) 1 0 0 (⟨#[]⟩ : ByteArray) (⟨#[]⟩ : ByteArray)).bind fun t140 => (if t140 = true then (some false) else ((mpath_Fits.f k (⟨#[101, 120, 47, 97]⟩ : ByteArray) 1 0 0 (⟨#[]⟩ : ByteArray) (⟨#[]⟩ : ByteArray)).bind fun t141 => (if t141 = true then ((mpath_Fits.f k (⟨#[101, 120, 47, 97]⟩ : ByteArray) 0 0 0 (⟨#[]⟩ : ByteArray) (⟨#[]⟩ : ByteArray)).bind fun t142 => (if t142 = true then ((mpath_Fits.f k (⟨#[101, 120, 47, 97]⟩ : ByteArray) 2 0 0 (⟨#[]⟩ : ByteArray) (⟨#[]⟩ : ByteArray)).bind fun t143 => (if t143 = true then (some false) else ((mpath_Within.f (⟨#[97, 47, 98, 47, 99]⟩ : ByteArray) (⟨#[97, 47, 98]⟩ : ByteArray)).bind fun t144 => (if t144 = true then ((mpath_Within.f (⟨#[97, 47, 98, 99]⟩ : ByteArray) (⟨#[97, 47, 98]⟩ : ByteArray)).bind fun t145 => (if t145 = true then (some false) else ((mpath_Within.f (⟨#[97]⟩ : ByteArray) (⟨#[]⟩ : ByteArray)).bind fun t146 => (if t146 = true then ((mpath_Base.f (⟨#[97, 47, 98, 47, 99]⟩ : ByteArray)).bind fun t147 => (if t147.toList = ([97, 47, 98] : List UInt8) then ((mpath_Base.f (⟨#[97]⟩ : ByteArray)).bind fun t148 => (some (t148.toList == ([] : List UInt8)))) else (some false))) else (some false))))) else (some false))))) else (some false))) else (some false))))) else (some false)))))) = some r := H
          have A15 := Aside0.mk A150
          clear A150
          by_cases c16 : t137 = true
          ·
           subst c16
           have H1 : (some false) = some r := by rw [if_pos rfl] at H; exact H
           clear H
           have H := H1
           clear H1
           exact absurd ((Option.some.inj H).trans HTRU_.out) (by decide)
          ·
           replace c16 := Bool.eq_false_iff.mpr c16
           subst c16
           have H1 : ((mpath_Check.f k (⟨#[101, 120, 47, 118, 48, 50]⟩ : ByteArray)).bind fun t138 => (if t138 = true then (some false) else ((mpath_Fits.f k (⟨#[101, 120, 47, 97, 47, 118, 50]⟩ : ByteArray) 2 0 0 (⟨#[]⟩ : ByteArray) (⟨#[]⟩ : ByteArray)).bind fun t139 => (if t139 = true then ((mpath_Fits.f k (⟨#[101, 120, 47, 97, 47, 118, 50]⟩ : ByteArray) 1 0 0 (⟨#[]⟩ : ByteArray) (⟨#[]⟩ : ByteArray)).bind fun t140 => (if t140 = true then (some false) else ((mpath_Fits.f k (⟨#[101, 120, 47, 97]⟩ : ByteArray) 1 0 0 (⟨#[]⟩ : ByteArray) (⟨#[]⟩ : ByteArray)).bind fun t141 => (if t141 = true then ((mpath_Fits.f k (⟨#[101, 120, 47, 97]⟩ : ByteArray) 0 0 0 (⟨#[]⟩ : ByteArray) (⟨#[]⟩ : ByteArray)).bind fun t142 => (if t142 = true then ((mpath_Fits.f k (⟨#[101, 120, 47, 97]⟩ : ByteArray) 2 0 0 (⟨#[]⟩ : ByteArray) (⟨#[]⟩ : ByteArray)).bind fun t143 => (if t143 = true then (some false) else ((mpath_Within.f (⟨#[97, 47, 98, 47, 99]⟩ : ByteArray) (⟨#[97, 47, 98]⟩ : ByteArray)).bind fun t144 => (if t144 = true then ((mpath_Within.f (⟨#[97, 47, 98, 99]⟩ : ByteArray) (⟨#[97, 47, 98]⟩ : ByteArray)).bind fun t145 => (if t145 = true then (some false) else ((mpath_Within.f (⟨#[97]⟩ : ByteArray) (⟨#[]⟩ : ByteArray)).bind fun t146 => (if t146 = true then ((mpath_Base.f (⟨#[97, 47, 98, 47, 99]⟩ : ByteArray)).bind fun t147 => (if t147.toList = ([97, 47, 98] : List UInt8) then ((mpath_Base.f (⟨#[97]⟩ : ByteArray)).bind fun t148 => (some (t148.toList == ([] : List UInt8)))) else (some false))) else (some false))))) else (some false))))) else (some false))) else (some false))))) else (some false))))) = some r := by rw [if_neg (show ¬ (false = true) by decide)] at H; exact H
           clear H
           have H := H1
           clear H1
           replace H := Option.bind_eq_some_iff.mp H
           obtain ⟨t138, A170, H⟩ := H
           replace H : (if t138 = true then (some false) else ((mpath_Fits.f k (⟨#[101, 120, 47, 97, 47, 118, 50]⟩ : ByteArray) 2 0 0 (⟨#[]⟩ : ByteArray) (⟨#[]⟩ : ByteArray)).bind fun t139 => (if t139 = true then ((mpath_Fits.f k (⟨#[101, 120, 47, 97, 47, 118, 50]⟩ : ByteArray) 1 0 0 (⟨#[]⟩ : ByteArray) (⟨#[]⟩ : ByteArray)).bind fun t140 => (if t140 = true then (some false) else ((mpath_Fits.f k (⟨#[101, 120, 47, 97]⟩ : ByteArray) 1 0 0 (⟨#[]⟩ : ByteArray) (⟨#[]⟩ : ByteArray)).bind fun t141 => (if t141 = true then ((mpath_Fits.f k (⟨#[101, 120, 47, 97]⟩ : ByteArray) 0 0 0 (⟨#[]⟩ : ByteArray) (⟨#[]⟩ : ByteArray)).bind fun t142 => (if t142 = true then ((mpath_Fits.f k (⟨#[101, 120, 47, 97]⟩ : ByteArray) 2 0 0 (⟨#[]⟩ : ByteArray) (⟨#[]⟩ : ByteArray)).bind fun t143 => (if t143 = true then (some false) else ((mpath_Within.f (⟨#[97, 47, 98, 47, 99]⟩ : ByteArray) (⟨#[97, 47, 98]⟩ : ByteArray)).bind fun t144 => (if t144 = true then ((mpath_Within.f (⟨#[97, 47, 98, 99]⟩ : ByteArray) (⟨#[97, 47, 98]⟩ : ByteArray)).bind fun t145 => (if t145 = true then (some false) else ((mpath_Within.f (⟨#[97]⟩ : ByteArray) (⟨#[]⟩ : ByteArray)).bind fun t146 => (if t146 = true then ((mpath_Base.f (⟨#[97, 47, 98, 47, 99]⟩ : ByteArray)).bind fun t147 => (if t147.toList = ([97, 47, 98] : List UInt8) then ((mpath_Base.f (⟨#[97]⟩ : ByteArray)).bind fun t148 => (some (t148.toList == ([] : List UInt8)))) else (some false))) else (some false))))) else (some false))))) else (some false))) else (some false))))) else (some false)))) = some r := H
           have A17 := Aside0.mk A170
           clear A170
           by_cases c18 : t138 = true
           ·
            subst c18
            have H1 : (some false) = some r := by rw [if_pos rfl] at H; exact H
            clear H
            have H := H1
            clear H1
            exact absurd ((Option.some.inj H).trans HTRU_.out) (by decide)
           ·
            replace c18 := Bool.eq_false_iff.mpr c18
            subst c18
            have H1 : ((mpath_Fits.f k (⟨#[101, 120, 47, 97, 47, 118, 50]⟩ : ByteArray) 2 0 0 (⟨#[]⟩ : ByteArray) (⟨#[]⟩ : ByteArray)).bind fun t139 => (if t139 = true then ((mpath_Fits.f k (⟨#[101, 120, 47, 97, 47, 118, 50]⟩ : ByteArray) 1 0 0 (⟨#[]⟩ : ByteArray) (⟨#[]⟩ : ByteArray)).bind fun t140 => (if t140 = true then (some false) else ((mpath_Fits.f k (⟨#[101, 120, 47, 97]⟩ : ByteArray) 1 0 0 (⟨#[]⟩ : ByteArray) (⟨#[]⟩ : ByteArray)).bind fun t141 => (if t141 = true then ((mpath_Fits.f k (⟨#[101, 120, 47, 97]⟩ : ByteArray) 0 0 0 (⟨#[]⟩ : ByteArray) (⟨#[]⟩ : ByteArray)).bind fun t142 => (if t142 = true then ((mpath_Fits.f k (⟨#[101, 120, 47, 97]⟩ : ByteArray) 2 0 0 (⟨#[]⟩ : ByteArray) (⟨#[]⟩ : ByteArray)).bind fun t143 => (if t143 = true then (some false) else ((mpath_Within.f (⟨#[97, 47, 98, 47, 99]⟩ : ByteArray) (⟨#[97, 47, 98]⟩ : ByteArray)).bind fun t144 => (if t144 = true then ((mpath_Within.f (⟨#[97, 47, 98, 99]⟩ : ByteArray) (⟨#[97, 47, 98]⟩ : ByteArray)).bind fun t145 => (if t145 = true then (some false) else ((mpath_Within.f (⟨#[97]⟩ : ByteArray) (⟨#[]⟩ : ByteArray)).bind fun t146 => (if t146 = true then ((mpath_Base.f (⟨#[97, 47, 98, 47, 99]⟩ : ByteArray)).bind fun t147 => (if t147.toList = ([97, 47, 98] : List UInt8) then ((mpath_Base.f (⟨#[97]⟩ : ByteArray)).bind fun t148 => (some (t148.toList == ([] : List UInt8)))) else (some false))) else (some false))))) else (some false))))) else (some false))) else (some false))))) else (some false))) = some r := by rw [if_neg (show ¬ (false = true) by decide)] at H; exact H
            clear H
            have H := H1
            clear H1
            replace H := Option.bind_eq_some_iff.mp H
            obtain ⟨t139, A190, H⟩ := H
            replace H : (if t139 = true then ((mpath_Fits.f k (⟨#[101, 120, 47, 97, 47, 118, 50]⟩ : ByteArray) 1 0 0 (⟨#[]⟩ : ByteArray) (⟨#[]⟩ : ByteArray)).bind fun t140 => (if t140 = true then (some false) else ((mpath_Fits.f k (⟨#[101, 120, 47, 97]⟩ : ByteArray) 1 0 0 (⟨#[]⟩ : ByteArray) (⟨#[]⟩ : ByteArray)).bind fun t141 => (if t141 = true then ((mpath_Fits.f k (⟨#[101, 120, 47, 97]⟩ : ByteArray) 0 0 0 (⟨#[]⟩ : ByteArray) (⟨#[]⟩ : ByteArray)).bind fun t142 => (if t142 = true then ((mpath_Fits.f k (⟨#[101, 120, 47, 97]⟩ : ByteArray) 2 0 0 (⟨#[]⟩ : ByteArray) (⟨#[]⟩ : ByteArray)).bind fun t143 => (if t143 = true then (some false) else ((mpath_Within.f (⟨#[97, 47, 98, 47, 99]⟩ : ByteArray) (⟨#[97, 47, 98]⟩ : ByteArray)).bind fun t144 => (if t144 = true then ((mpath_Within.f (⟨#[97, 47, 98, 99]⟩ : ByteArray) (⟨#[97, 47, 98]⟩ : ByteArray)).bind fun t145 => (if t145 = true then (some false) else ((mpath_Within.f (⟨#[97]⟩ : ByteArray) (⟨#[]⟩ : ByteArray)).bind fun t146 => (if t146 = true then ((mpath_Base.f (⟨#[97, 47, 98, 47, 99]⟩ : ByteArray)).bind fun t147 => (if t147.toList = ([97, 47, 98] : List UInt8) then ((mpath_Base.f (⟨#[97]⟩ : ByteArray)).bind fun t148 => (some (t148.toList == ([] : List UInt8)))) else (some false))) else (some false))))) else (some false))))) else (some false))) else (some false))))) else (some false)) = some r := H
            have A19 := Aside0.mk A190
            clear A190
            by_cases c20 : t139 = true
            ·
             subst c20
             have H1 : ((mpath_Fits.f k (⟨#[101, 120, 47, 97, 47, 118, 50]⟩ : ByteArray) 1 0 0 (⟨#[]⟩ : ByteArray) (⟨#[]⟩ : ByteArray)).bind fun t140 => (if t140 = true then (some false) else ((mpath_Fits.f k (⟨#[101, 120, 47, 97]⟩ : ByteArray) 1 0 0 (⟨#[]⟩ : ByteArray) (⟨#[]⟩ : ByteArray)).bind fun t141 => (if t141 = true then ((mpath_Fits.f k (⟨#[101, 120, 47, 97]⟩ : ByteArray) 0 0 0 (⟨#[]⟩ : ByteArray) (⟨#[]⟩ : ByteArray)).bind fun t142 => (if t142 = true then ((mpath_Fits.f k (⟨#[101, 120, 47, 97]⟩ : ByteArray) 2 0 0 (⟨#[]⟩ : ByteArray) (⟨#[]⟩ : ByteArray)).bind fun t143 => (if t143 = true then (some false) else ((mpath_Within.f (⟨#[97, 47, 98, 47, 99]⟩ : ByteArray) (⟨#[97, 47, 98]⟩ : ByteArray)).bind fun t144 => (if t144 = true then ((mpath_Within.f (⟨#[97, 47, 98, 99]⟩ : ByteArray) (⟨#[97, 47, 98]⟩ : ByteArray)).bind fun t145 => (if t145 = true then (some false) else ((mpath_Within.f (⟨#[97]⟩ : ByteArray) (⟨#[]⟩ : ByteArray)).bind fun t146 => (if t146 = true then ((mpath_Base.f (⟨#[97, 47, 98, 47, 99]⟩ : ByteArray)).bind fun t147 => (if t147.toList = ([97, 47, 98] : List UInt8) then ((mpath_Base.f (⟨#[97]⟩ : ByteArray)).bind fun t148 => (some (t148.toList == ([] : List UInt8)))) else (some false))) else (some false))))) else (some false))))) else (some false))) else (some false))))) = some r := by rw [if_pos rfl] at H; exact H
             clear H
             have H := H1
             clear H1
             replace H := Option.bind_eq_some_iff.mp H
             obtain ⟨t140, A210, H⟩ := H
             replace H : (if t140 = true then (some false) else ((mpath_Fits.f k (⟨#[101, 120, 47, 97]⟩ : ByteArray) 1 0 0 (⟨#[]⟩ : ByteArray) (⟨#[]⟩ : ByteArray)).bind fun t141 => (if t141 = true then ((mpath_Fits.f k (⟨#[101, 120, 47, 97]⟩ : ByteArray) 0 0 0 (⟨#[]⟩ : ByteArray) (⟨#[]⟩ : ByteArray)).bind fun t142 => (if t142 = true then ((mpath_Fits.f k (⟨#[101, 120, 47, 97]⟩ : ByteArray) 2 0 0 (⟨#[]⟩ : ByteArray) (⟨#[]⟩ : ByteArray)).bind fun t143 => (if t143 = true then (some false) else ((mpath_Within.f (⟨#[97, 47, 98, 47, 99]⟩ : ByteArray) (⟨#[97, 47, 98]⟩ : ByteArray)).bind fun t144 => (if t144 = true then ((mpath_Within.f (⟨#[97, 47, 98, 99]⟩ : ByteArray) (⟨#[97, 47, 98]⟩ : ByteArray)).bind fun t145 => (if t145 = true then (some false) else ((mpath_Within.f (⟨#[97]⟩ : ByteArray) (⟨#[]⟩ : ByteArray)).bind fun t146 => (if t146 = true then ((mpath_Base.f (⟨#[97, 47, 98, 47, 99]⟩ : ByteArray)).bind fun t147 => (if t147.toList = ([97, 47, 98] : List UInt8) then ((mpath_Base.f (⟨#[97]⟩ : ByteArray)).bind fun t148 => (some (t148.toList == ([] : List UInt8)))) else (some false))) else (some false))))) else (some false))))) else (some false))) else (some false)))) = some r := H
             have A21 := Aside0.mk A210
             clear A210
             by_cases c22 : t140 = true
             ·
              subst c22
              have H1 : (some false) = some r := by rw [if_pos rfl] at H; exact H
              clear H
              have H := H1
              clear H1
              exact absurd ((Option.some.inj H).trans HTRU_.out) (by decide)
             ·
              replace c22 := Bool.eq_false_iff.mpr c22
              subst c22
              have H1 : ((mpath_Fits.f k (⟨#[101, 120, 47, 97]⟩ : ByteArray) 1 0 0 (⟨#[]⟩ : ByteArray) (⟨#[]⟩ : ByteArray)).bind fun t141 => (if t141 = true then ((mpath_Fits.f k (⟨#[101, 120, 47, 97]⟩ : ByteArray) 0 0 0 (⟨#[]⟩ : ByteArray) (⟨#[]⟩ : ByteArray)).bind fun t142 => (if t142 = true then ((mpath_Fits.f k (⟨#[101, 120, 47, 97]⟩ : ByteArray) 2 0 0 (⟨#[]⟩ : ByteArray) (⟨#[]⟩ : ByteArray)).bind fun t143 => (if t143 = true then (some false) else ((mpath_Within.f (⟨#[97, 47, 98, 47, 99]⟩ : ByteArray) (⟨#[97, 47, 98]⟩ : ByteArray)).bind fun t144 => (if t144 = true then ((mpath_Within.f (⟨#[97, 47, 98, 99]⟩ : ByteArray) (⟨#[97, 47, 98]⟩ : ByteArray)).bind fun t145 => (if t145 = true then (some false) else ((mpath_Within.f (⟨#[97]⟩ : ByteArray) (⟨#[]⟩ : ByteArray)).bind fun t146 => (if t146 = true then ((mpath_Base.f (⟨#[97, 47, 98, 47, 99]⟩ : ByteArray)).bind fun t147 => (if t147.toList = ([97, 47, 98] : List UInt8) then ((mpath_Base.f (⟨#[97]⟩ : ByteArray)).bind fun t148 => (some (t148.toList == ([] : List UInt8)))) else (some false))) else (some false))))) else (some false))))) else (some false))) else (some false))) = some r := by rw [if_neg (show ¬ (false = true) by decide)] at H; exact H
              clear H
              have H := H1
              clear H1
              replace H := Option.bind_eq_some_iff.mp H
              obtain ⟨t141, A230, H⟩ := H
              replace H : (if t141 = true then ((mpath_Fits.f k (⟨#[101, 120, 47, 97]⟩ : ByteArray) 0 0 0 (⟨#[]⟩ : ByteArray) (⟨#[]⟩ : ByteArray)).bind fun t142 => (if t142 = true then ((mpath_Fits.f k (⟨#[101, 120, 47, 97]⟩ : ByteArray) 2 0 0 (⟨#[]⟩ : ByteArray) (⟨#[]⟩ : ByteArray)).bind fun t143 => (if t143 = true then (some false) else ((mpath_Within.f (⟨#[97, 47, 98, 47, 99]⟩ : ByteArray) (⟨#[97, 47, 98]⟩ : ByteArray)).bind fun t144 => (if t144 = true then ((mpath_Within.f (⟨#[97, 47, 98, 99]⟩ : ByteArray) (⟨#[97, 47, 98]⟩ : ByteArray)).bind fun t145 => (if t145 = true then (some false) else ((mpath_Within.f (⟨#[97]⟩ : ByteArray) (⟨#[]⟩ : ByteArray)).bind fun t146 => (if t146 = true then ((mpath_Base.f (⟨#[97, 47, 98, 47, 99]⟩ : ByteArray)).bind fun t147 => (if t147.toList = ([97, 47, 98] : List UInt8) then ((mpath_Base.f (⟨#[97]⟩ : ByteArray)).bind fun t148 => (some (t148.toList == ([] : List UInt8)))) else (some false))) else (some false))))) else (some false))))) else (some false))) else (some false)) = some r := H
              have A23 := Aside0.mk A230
              clear A230
              by_cases c24 : t141 = true
              ·
               subst c24
               have H1 : ((mpath_Fits.f k (⟨#[101, 120, 47, 97]⟩ : ByteArray) 0 0 0 (⟨#[]⟩ : ByteArray) (⟨#[]⟩ : ByteArray)).bind fun t142 => (if t142 = true then ((mpath_Fits.f k (⟨#[101, 120, 47, 97]⟩ : ByteArray) 2 0 0 (⟨#[]⟩ : ByteArray) (⟨#[]⟩ : ByteArray)).bind fun t143 => (if t143 = true then (some false) else ((mpath_Within.f (⟨#[97, 47, 98, 47, 99]⟩ : ByteArray) (⟨#[97, 47, 98]⟩ : ByteArray)).bind fun t144 => (if t144 = true then ((mpath_Within.f (⟨#[97, 47, 98, 99]⟩ : ByteArray) (⟨#[97, 47, 98]⟩ : ByteArray)).bind fun t145 => (if t145 = true then (some false) else ((mpath_Within.f (⟨#[97]⟩ : ByteArray) (⟨#[]⟩ : ByteArray)).bind fun t146 => (if t146 = true then ((mpath_Base.f (⟨#[97, 47, 98, 47, 99]⟩ : ByteArray)).bind fun t147 => (if t147.toList = ([97, 47, 98] : List UInt8) then ((mpath_Base.f (⟨#[97]⟩ : ByteArray)).bind fun t148 => (some (t148.toList == ([] : List UInt8)))) else (some false))) else (some false))))) else (some false))))) else (some false))) = some r := by rw [if_pos rfl] at H; exact H
               clear H
               have H := H1
               clear H1
               replace H := Option.bind_eq_some_iff.mp H
               obtain ⟨t142, A250, H⟩ := H
               replace H : (if t142 = true then ((mpath_Fits.f k (⟨#[101, 120, 47, 97]⟩ : ByteArray) 2 0 0 (⟨#[]⟩ : ByteArray) (⟨#[]⟩ : ByteArray)).bind fun t143 => (if t143 = true then (some false) else ((mpath_Within.f (⟨#[97, 47, 98, 47, 99]⟩ : ByteArray) (⟨#[97, 47, 98]⟩ : ByteArray)).bind fun t144 => (if t144 = true then ((mpath_Within.f (⟨#[97, 47, 98, 99]⟩ : ByteArray) (⟨#[97, 47, 98]⟩ : ByteArray)).bind fun t145 => (if t145 = true then (some false) else ((mpath_Within.f (⟨#[97]⟩ : ByteArray) (⟨#[]⟩ : ByteArray)).bind fun t146 => (if t146 = true then ((mpath_Base.f (⟨#[97, 47, 98, 47, 99]⟩ : ByteArray)).bind fun t147 => (if t147.toList = ([97, 47, 98] : List UInt8) then ((mpath_Base.f (⟨#[97]⟩ : ByteArray)).bind fun t148 => (some (t148.toList == ([] : List UInt8)))) else (some false))) else (some false))))) else (some false))))) else (some false)) = some r := H
               have A25 := Aside0.mk A250
               clear A250
               by_cases c26 : t142 = true
               ·
                subst c26
                have H1 : ((mpath_Fits.f k (⟨#[101, 120, 47, 97]⟩ : ByteArray) 2 0 0 (⟨#[]⟩ : ByteArray) (⟨#[]⟩ : ByteArray)).bind fun t143 => (if t143 = true then (some false) else ((mpath_Within.f (⟨#[97, 47, 98, 47, 99]⟩ : ByteArray) (⟨#[97, 47, 98]⟩ : ByteArray)).bind fun t144 => (if t144 = true then ((mpath_Within.f (⟨#[97, 47, 98, 99]⟩ : ByteArray) (⟨#[97, 47, 98]⟩ : ByteArray)).bind fun t145 => (if t145 = true then (some false) else ((mpath_Within.f (⟨#[97]⟩ : ByteArray) (⟨#[]⟩ : ByteArray)).bind fun t146 => (if t146 = true then ((mpath_Base.f (⟨#[97, 47, 98, 47, 99]⟩ : ByteArray)).bind fun t147 => (if t147.toList = ([97, 47, 98] : List UInt8) then ((mpath_Base.f (⟨#[97]⟩ : ByteArray)).bind fun t148 => (some (t148.toList == ([] : List UInt8)))) else (some false))) else (some false))))) else (some false))))) = some r := by rw [if_pos rfl] at H; exact H
                clear H
                have H := H1
                clear H1
                replace H := Option.bind_eq_some_iff.mp H
                obtain ⟨t143, A270, H⟩ := H
                replace H : (if t143 = true then (some false) else ((mpath_Within.f (⟨#[97, 47, 98, 47, 99]⟩ : ByteArray) (⟨#[97, 47, 98]⟩ : ByteArray)).bind fun t144 => (if t144 = true then ((mpath_Within.f (⟨#[97, 47, 98, 99]⟩ : ByteArray) (⟨#[97, 47, 98]⟩ : ByteArray)).bind fun t145 => (if t145 = true then (some false) else ((mpath_Within.f (⟨#[97]⟩ : ByteArray) (⟨#[]⟩ : ByteArray)).bind fun t146 => (if t146 = true then ((mpath_Base.f (⟨#[97, 47, 98, 47, 99]⟩ : ByteArray)).bind fun t147 => (if t147.toList = ([97, 47, 98] : List UInt8) then ((mpath_Base.f (⟨#[97]⟩ : ByteArray)).bind fun t148 => (some (t148.toList == ([] : List UInt8)))) else (some false))) else (some false))))) else (some false)))) = some r := H
                have A27 := Aside0.mk A270
                clear A270
                by_cases c28 : t143 = true
                ·
                 subst c28
                 have H1 : (some false) = some r := by rw [if_pos rfl] at H; exact H
                 clear H
                 have H := H1
                 clear H1
                 exact absurd ((Option.some.inj H).trans HTRU_.out) (by decide)
                ·
                 replace c28 := Bool.eq_false_iff.mpr c28
                 subst c28
                 have H1 : ((mpath_Within.f (⟨#[97, 47, 98, 47, 99]⟩ : ByteArray) (⟨#[97, 47, 98]⟩ : ByteArray)).bind fun t144 => (if t144 = true then ((mpath_Within.f (⟨#[97, 47, 98, 99]⟩ : ByteArray) (⟨#[97, 47, 98]⟩ : ByteArray)).bind fun t145 => (if t145 = true then (some false) else ((mpath_Within.f (⟨#[97]⟩ : ByteArray) (⟨#[]⟩ : ByteArray)).bind fun t146 => (if t146 = true then ((mpath_Base.f (⟨#[97, 47, 98, 47, 99]⟩ : ByteArray)).bind fun t147 => (if t147.toList = ([97, 47, 98] : List UInt8) then ((mpath_Base.f (⟨#[97]⟩ : ByteArray)).bind fun t148 => (some (t148.toList == ([] : List UInt8)))) else (some false))) else (some false))))) else (some false))) = some r := by rw [if_neg (show ¬ (false = true) by decide)] at H; exact H
                 clear H
                 have H := H1
                 clear H1
                 replace H := Option.bind_eq_some_iff.mp H
                 obtain ⟨t144, A290, H⟩ := H
                 replace H : (if t144 = true then ((mpath_Within.f (⟨#[97, 47, 98, 99]⟩ : ByteArray) (⟨#[97, 47, 98]⟩ : ByteArray)).bind fun t145 => (if t145 = true then (some false) else ((mpath_Within.f (⟨#[97]⟩ : ByteArray) (⟨#[]⟩ : ByteArray)).bind fun t146 => (if t146 = true then ((mpath_Base.f (⟨#[97, 47, 98, 47, 99]⟩ : ByteArray)).bind fun t147 => (if t147.toList = ([97, 47, 98] : List UInt8) then ((mpath_Base.f (⟨#[97]⟩ : ByteArray)).bind fun t148 => (some (t148.toList == ([] : List UInt8)))) else (some false))) else (some false))))) else (some false)) = some r := H
                 have A29 := Aside0.mk A290
                 clear A290
                 by_cases c30 : t144 = true
                 ·
                  subst c30
                  have H1 : ((mpath_Within.f (⟨#[97, 47, 98, 99]⟩ : ByteArray) (⟨#[97, 47, 98]⟩ : ByteArray)).bind fun t145 => (if t145 = true then (some false) else ((mpath_Within.f (⟨#[97]⟩ : ByteArray) (⟨#[]⟩ : ByteArray)).bind fun t146 => (if t146 = true then ((mpath_Base.f (⟨#[97, 47, 98, 47, 99]⟩ : ByteArray)).bind fun t147 => (if t147.toList = ([97, 47, 98] : List UInt8) then ((mpath_Base.f (⟨#[97]⟩ : ByteArray)).bind fun t148 => (some (t148.toList == ([] : List UInt8)))) else (some false))) else (some false))))) = some r := by rw [if_pos rfl] at H; exact H
                  clear H
                  have H := H1
                  clear H1
                  replace H := Option.bind_eq_some_iff.mp H
                  obtain ⟨t145, A310, H⟩ := H
                  replace H : (if t145 = true then (some false) else ((mpath_Within.f (⟨#[97]⟩ : ByteArray) (⟨#[]⟩ : ByteArray)).bind fun t146 => (if t146 = true then ((mpath_Base.f (⟨#[97, 47, 98, 47, 99]⟩ : ByteArray)).bind fun t147 => (if t147.toList = ([97, 47, 98] : List UInt8) then ((mpath_Base.f (⟨#[97]⟩ : ByteArray)).bind fun t148 => (some (t148.toList == ([] : List UInt8)))) else (some false))) else (some false)))) = some r := H
                  have A31 := Aside0.mk A310
                  clear A310
                  by_cases c32 : t145 = true
                  ·
                   subst c32
                   have H1 : (some false) = some r := by rw [if_pos rfl] at H; exact H
                   clear H
                   have H := H1
                   clear H1
                   exact absurd ((Option.some.inj H).trans HTRU_.out) (by decide)
                  ·
                   replace c32 := Bool.eq_false_iff.mpr c32
                   subst c32
                   have H1 : ((mpath_Within.f (⟨#[97]⟩ : ByteArray) (⟨#[]⟩ : ByteArray)).bind fun t146 => (if t146 = true then ((mpath_Base.f (⟨#[97, 47, 98, 47, 99]⟩ : ByteArray)).bind fun t147 => (if t147.toList = ([97, 47, 98] : List UInt8) then ((mpath_Base.f (⟨#[97]⟩ : ByteArray)).bind fun t148 => (some (t148.toList == ([] : List UInt8)))) else (some false))) else (some false))) = some r := by rw [if_neg (show ¬ (false = true) by decide)] at H; exact H
                   clear H
                   have H := H1
                   clear H1
                   replace H := Option.bind_eq_some_iff.mp H
                   obtain ⟨t146, A330, H⟩ := H
                   replace H : (if t146 = true then ((mpath_Base.f (⟨#[97, 47, 98, 47, 99]⟩ : ByteArray)).bind fun t147 => (if t147.toList = ([97, 47, 98] : List UInt8) then ((mpath_Base.f (⟨#[97]⟩ : ByteArray)).bind fun t148 => (some (t148.toList == ([] : List UInt8)))) else (some false))) else (some false)) = some r := H
                   have A33 := Aside0.mk A330
                   clear A330
                   by_cases c34 : t146 = true
                   ·
                    subst c34
                    have H1 : ((mpath_Base.f (⟨#[97, 47, 98, 47, 99]⟩ : ByteArray)).bind fun t147 => (if t147.toList = ([97, 47, 98] : List UInt8) then ((mpath_Base.f (⟨#[97]⟩ : ByteArray)).bind fun t148 => (some (t148.toList == ([] : List UInt8)))) else (some false))) = some r := by rw [if_pos rfl] at H; exact H
                    clear H
                    have H := H1
                    clear H1
                    replace H := Option.bind_eq_some_iff.mp H
                    obtain ⟨t147, A350, H⟩ := H
                    replace H : (if t147.toList = ([97, 47, 98] : List UInt8) then ((mpath_Base.f (⟨#[97]⟩ : ByteArray)).bind fun t148 => (some (t148.toList == ([] : List UInt8)))) else (some false)) = some r := H
                    have A35 := Aside0.mk A350
                    clear A350
                    by_cases c36 : t147.toList = ([97, 47, 98] : List UInt8)
                    ·
                     rw [if_pos c36] at H
                     have c36b0 : (t147.toList == ([97, 47, 98] : List UInt8)) = true := beq_iff_eq.mpr c36
                     have c36b1 : (t147.toList != ([97, 47, 98] : List UInt8)) = false := bne_eq_false_iff_eq.mpr c36
                     clear c36
                     replace H := Option.bind_eq_some_iff.mp H
                     obtain ⟨t148, A370, H⟩ := H
                     replace H : (some (t148.toList == ([] : List UInt8))) = some r := H
                     have A37 := Aside0.mk A370
                     clear A370
                     obtain rfl := Option.some.inj H
                     go_enter Tryd.func5, Tryd.ntmps5
                     go_wp2_with (first | ((with_reducible refine gate_callee (f := 6) rfl ?_); refine goesL_ (some 11) rfl rfl Tryd.func6 (by kernel_rfl) rfl #[.string (⟨#[101, 120, 47, 97, 47, 118, 49, 50]⟩ : ByteArray)] rfl (by (try simp only [List.map_toArray, List.map_cons, List.map_nil]); first | done | rfl | (simp only [List.length_drop, List.length_take]; rfl)) ?_; (with_reducible refine (mpath_Major.calls k (⟨#[101, 120, 47, 97, 47, 118, 49, 50]⟩ : ByteArray) t126 t127 true _ ?side1 A1.out).mono ?_); (case side1 => exact GW.below HGW.out (by repeat (first | (with_reducible first | exact HB.out | apply below_alloc | apply pw_below_drewN | apply below_drew1) | exact HB.out))); rintro e w38 ⟨rfl, hb⟩; refine ⟨_, rfl, ?_⟩; have n0_ := Aside0.mk (below_step (by repeat (first | (with_reducible first | exact HB.out | apply below_alloc | apply pw_below_drewN | apply below_drew1) | exact HB.out)) hb); clear HB; have HB := n0_; clear n0_; (try clear hb); (try clear hb2); (try clear hk); (try clear hi)) | ((with_reducible refine gate_callee (f := 6) rfl ?_); refine goesL_ (some 16) rfl rfl Tryd.func6 (by kernel_rfl) rfl #[.string (⟨#[101, 120, 47, 97]⟩ : ByteArray)] rfl (by (try simp only [List.map_toArray, List.map_cons, List.map_nil]); first | done | rfl | (simp only [List.length_drop, List.length_take]; rfl)) ?_; (with_reducible refine (mpath_Major.calls k (⟨#[101, 120, 47, 97]⟩ : ByteArray) t129 t130 true _ ?side1 A2.out).mono ?_); (case side1 => exact GW.below HGW.out (by repeat (first | (with_reducible first | exact HB.out | apply below_alloc | apply pw_below_drewN | apply below_drew1) | exact HB.out))); rintro e w39 ⟨rfl, hb⟩; refine ⟨_, rfl, ?_⟩; have n0_ := Aside0.mk (below_step (by repeat (first | (with_reducible first | exact HB.out | apply below_alloc | apply pw_below_drewN | apply below_drew1) | exact HB.out)) hb); clear HB; have HB := n0_; clear n0_; (try clear hb); (try clear hb2); (try clear hk); (try clear hi)) | ((with_reducible refine gate_callee (f := 6) rfl ?_); refine goesL_ (some 21) rfl rfl Tryd.func6 (by kernel_rfl) rfl #[.string (⟨#[101, 120, 47, 97, 47, 118, 49]⟩ : ByteArray)] rfl (by (try simp only [List.map_toArray, List.map_cons, List.map_nil]); first | done | rfl | (simp only [List.length_drop, List.length_take]; rfl)) ?_; (with_reducible refine (mpath_Major.calls k (⟨#[101, 120, 47, 97, 47, 118, 49]⟩ : ByteArray) t132 t133 false _ ?side1 A3.out).mono ?_); (case side1 => exact GW.below HGW.out (by repeat (first | (with_reducible first | exact HB.out | apply below_alloc | apply pw_below_drewN | apply below_drew1) | exact HB.out))); rintro e w40 ⟨rfl, hb⟩; refine ⟨_, rfl, ?_⟩; have n0_ := Aside0.mk (below_step (by repeat (first | (with_reducible first | exact HB.out | apply below_alloc | apply pw_below_drewN | apply below_drew1) | exact HB.out)) hb); clear HB; have HB := n0_; clear n0_; (try clear hb); (try clear hb2); (try clear hk); (try clear hi)) | (go_at_call 10; (with_reducible refine (mpath_Check.calls k (⟨#[101, 120, 47, 118, 97, 47, 118, 50, 120]⟩ : ByteArray) true _ ?side1 A11.out).mono ?_); (case side1 => exact GW.below HGW.out (by repeat (first | (with_reducible first | exact HB.out | apply below_alloc | apply pw_below_drewN | apply below_drew1) | exact HB.out))); rintro e w41 ⟨rfl, hb⟩; have n0_ := Aside0.mk (below_step (by repeat (first | (with_reducible first | exact HB.out | apply below_alloc | apply pw_below_drewN | apply below_drew1) | exact HB.out)) hb); clear HB; have HB := n0_; clear n0_; (try clear hb); (try clear hb2); (try clear hk); (try clear hi)) | (go_at_call 10; (with_reducible refine (mpath_Check.calls k (⟨#[118, 50]⟩ : ByteArray) false _ ?side1 A13.out).mono ?_); (case side1 => exact GW.below HGW.out (by repeat (first | (with_reducible first | exact HB.out | apply below_alloc | apply pw_below_drewN | apply below_drew1) | exact HB.out))); rintro e w42 ⟨rfl, hb⟩; have n0_ := Aside0.mk (below_step (by repeat (first | (with_reducible first | exact HB.out | apply below_alloc | apply pw_below_drewN | apply below_drew1) | exact HB.out)) hb); clear HB; have HB := n0_; clear n0_; (try clear hb); (try clear hb2); (try clear hk); (try clear hi)) | (go_at_call 10; (with_reducible refine (mpath_Check.calls k (⟨#[101, 120, 47, 118, 50, 47, 97]⟩ : ByteArray) false _ ?side1 A15.out).mono ?_); (case side1 => exact GW.below HGW.out (by repeat (first | (with_reducible first | exact HB.out | apply below_alloc | apply pw_below_drewN | apply below_drew1) | exact HB.out))); rintro e w43 ⟨rfl, hb⟩; have n0_ := Aside0.mk (below_step (by repeat (first | (with_reducible first | exact HB.out | apply below_alloc | apply pw_below_drewN | apply below_drew1) | exact HB.out)) hb); clear HB; have HB := n0_; clear n0_; (try clear hb); (try clear hb2); (try clear hk); (try clear hi)) | (go_at_call 10; (with_reducible refine (mpath_Check.calls k (⟨#[101, 120, 47, 118, 48, 50]⟩ : ByteArray) false _ ?side1 A17.out).mono ?_); (case side1 => exact GW.below HGW.out (by repeat (first | (with_reducible first | exact HB.out | apply below_alloc | apply pw_below_drewN | apply below_drew1) | exact HB.out))); rintro e w44 ⟨rfl, hb⟩; have n0_ := Aside0.mk (below_step (by repeat (first | (with_reducible first | exact HB.out | apply below_alloc | apply pw_below_drewN | apply below_drew1) | exact HB.out)) hb); clear HB; have HB := n0_; clear n0_; (try clear hb); (try clear hb2); (try clear hk); (try clear hi)) | (go_at_call 7; (with_reducible refine (mpath_Fits.calls k (⟨#[101, 120, 47, 97, 47, 118, 50]⟩ : ByteArray) 2 0 0 (⟨#[]⟩ : ByteArray) (⟨#[]⟩ : ByteArray) true _ ?side1 A19.out).mono ?_); (case side1 => exact GW.below HGW.out (by repeat (first | (with_reducible first | exact HB.out | apply below_alloc | apply pw_below_drewN | apply below_drew1) | exact HB.out))); rintro e w45 ⟨rfl, hb⟩; have n0_ := Aside0.mk (below_step (by repeat (first | (with_reducible first | exact HB.out | apply below_alloc | apply pw_below_drewN | apply below_drew1) | exact HB.out)) hb); clear HB; have HB := n0_; clear n0_; (try clear hb); (try clear hb2); (try clear hk); (try clear hi)) | (go_at_call 7; (with_reducible refine (mpath_Fits.calls k (⟨#[101, 120, 47, 97, 47, 118, 50]⟩ : ByteArray) 1 0 0 (⟨#[]⟩ : ByteArray) (⟨#[]⟩ : ByteArray) false _ ?side1 A21.out).mono ?_); (case side1 => exact GW.below HGW.out (by repeat (first | (with_reducible first | exact HB.out | apply below_alloc | apply pw_below_drewN | apply below_drew1) | exact HB.out))); rintro e w46 ⟨rfl, hb⟩; have n0_ := Aside0.mk (below_step (by repeat (first | (with_reducible first | exact HB.out | apply below_alloc | apply pw_below_drewN | apply below_drew1) | exact HB.out)) hb); clear HB; have HB := n0_; clear n0_; (try clear hb); (try clear hb2); (try clear hk); (try clear hi)) | (go_at_call 7; (with_reducible refine (mpath_Fits.calls k (⟨#[101, 120, 47, 97]⟩ : ByteArray) 1 0 0 (⟨#[]⟩ : ByteArray) (⟨#[]⟩ : ByteArray) true _ ?side1 A23.out).mono ?_); (case side1 => exact GW.below HGW.out (by repeat (first | (with_reducible first | exact HB.out | apply below_alloc | apply pw_below_drewN | apply below_drew1) | exact HB.out))); rintro e w47 ⟨rfl, hb⟩; have n0_ := Aside0.mk (below_step (by repeat (first | (with_reducible first | exact HB.out | apply below_alloc | apply pw_below_drewN | apply below_drew1) | exact HB.out)) hb); clear HB; have HB := n0_; clear n0_; (try clear hb); (try clear hb2); (try clear hk); (try clear hi)) | (go_at_call 7; (with_reducible refine (mpath_Fits.calls k (⟨#[101, 120, 47, 97]⟩ : ByteArray) 0 0 0 (⟨#[]⟩ : ByteArray) (⟨#[]⟩ : ByteArray) true _ ?side1 A25.out).mono ?_); (case side1 => exact GW.below HGW.out (by repeat (first | (with_reducible first | exact HB.out | apply below_alloc | apply pw_below_drewN | apply below_drew1) | exact HB.out))); rintro e w48 ⟨rfl, hb⟩; have n0_ := Aside0.mk (below_step (by repeat (first | (with_reducible first | exact HB.out | apply below_alloc | apply pw_below_drewN | apply below_drew1) | exact HB.out)) hb); clear HB; have HB := n0_; clear n0_; (try clear hb); (try clear hb2); (try clear hk); (try clear hi)) | (go_at_call 7; (with_reducible refine (mpath_Fits.calls k (⟨#[101, 120, 47, 97]⟩ : ByteArray) 2 0 0 (⟨#[]⟩ : ByteArray) (⟨#[]⟩ : ByteArray) false _ ?side1 A27.out).mono ?_); (case side1 => exact GW.below HGW.out (by repeat (first | (with_reducible first | exact HB.out | apply below_alloc | apply pw_below_drewN | apply below_drew1) | exact HB.out))); rintro e w49 ⟨rfl, hb⟩; have n0_ := Aside0.mk (below_step (by repeat (first | (with_reducible first | exact HB.out | apply below_alloc | apply pw_below_drewN | apply below_drew1) | exact HB.out)) hb); clear HB; have HB := n0_; clear n0_; (try clear hb); (try clear hb2); (try clear hk); (try clear hi)) | (go_at_call 11; (with_reducible refine (mpath_Within.calls (⟨#[97, 47, 98, 47, 99]⟩ : ByteArray) (⟨#[97, 47, 98]⟩ : ByteArray) true _ A29.out).mono ?_); rintro e w' ⟨rfl, ⟨nd, rfl⟩⟩) | (go_at_call 11; (with_reducible refine (mpath_Within.calls (⟨#[97, 47, 98, 99]⟩ : ByteArray) (⟨#[97, 47, 98]⟩ : ByteArray) false _ A31.out).mono ?_); rintro e w' ⟨rfl, ⟨nd, rfl⟩⟩) | (go_at_call 11; (with_reducible refine (mpath_Within.calls (⟨#[97]⟩ : ByteArray) (⟨#[]⟩ : ByteArray) true _ A33.out).mono ?_); rintro e w' ⟨rfl, ⟨nd, rfl⟩⟩) | (go_at_call 12; (with_reducible refine (mpath_Base.calls (⟨#[97, 47, 98, 47, 99]⟩ : ByteArray) t147 _ A35.out).mono ?_); rintro e w' ⟨rfl, ⟨nd, rfl⟩⟩) | (go_at_call 12; (with_reducible refine (mpath_Base.calls (⟨#[97]⟩ : ByteArray) t148 _ A37.out).mono ?_); rintro e w' ⟨rfl, ⟨nd, rfl⟩⟩))
                     go_ret
                     exact ⟨by first | rfl | (simp [errW_none, errW_some] <;> rfl) | (simp [*, errW_none, errW_some] <;> rfl) | (simp [isEmpty_bne]; done), by repeat (first | (with_reducible first | exact HB.out | apply below_alloc | apply pw_below_drewN | apply below_drew1) | exact HB.out)⟩
                    ·
                     rw [if_neg c36] at H
                     have c36b0 : (t147.toList == ([97, 47, 98] : List UInt8)) = false := beq_eq_false_iff_ne.mpr c36
                     have c36b1 : (t147.toList != ([97, 47, 98] : List UInt8)) = true := bne_iff_ne.mpr c36
                     exact absurd ((Option.some.inj H).trans HTRU_.out) (by decide)
                   ·
                    replace c34 := Bool.eq_false_iff.mpr c34
                    subst c34
                    have H1 : (some false) = some r := by rw [if_neg (show ¬ (false = true) by decide)] at H; exact H
                    clear H
                    have H := H1
                    clear H1
                    exact absurd ((Option.some.inj H).trans HTRU_.out) (by decide)
                 ·
                  replace c30 := Bool.eq_false_iff.mpr c30
                  subst c30
                  have H1 : (some false) = some r := by rw [if_neg (show ¬ (false = true) by decide)] at H; exact H
                  clear H
                  have H := H1
                  clear H1
                  exact absurd ((Option.some.inj H).trans HTRU_.out) (by decide)
               ·
                replace c26 := Bool.eq_false_iff.mpr c26
                subst c26
                have H1 : (some false) = some r := by rw [if_neg (show ¬ (false = true) by decide)] at H; exact H
                clear H
                have H := H1
                clear H1
                exact absurd ((Option.some.inj H).trans HTRU_.out) (by decide)
              ·
               replace c24 := Bool.eq_false_iff.mpr c24
               subst c24
               have H1 : (some false) = some r := by rw [if_neg (show ¬ (false = true) by decide)] at H; exact H
               clear H
               have H := H1
               clear H1
               exact absurd ((Option.some.inj H).trans HTRU_.out) (by decide)
            ·
             replace c20 := Bool.eq_false_iff.mpr c20
             subst c20
             have H1 : (some false) = some r := by rw [if_neg (show ¬ (false = true) by decide)] at H; exact H
             clear H
             have H := H1
             clear H1
             exact absurd ((Option.some.inj H).trans HTRU_.out) (by decide)
        ·
         replace c12 := Bool.eq_false_iff.mpr c12
         subst c12
         have H1 : (some false) = some r := by rw [if_neg (show ¬ (false = true) by decide)] at H; exact H
         clear H
         have H := H1
         clear H1
         exact absurd ((Option.some.inj H).trans HTRU_.out) (by decide)
      ·
       replace c9 := Bool.eq_false_iff.mpr c9
       subst c9
       have H1 : (some false) = some r := by rw [if_neg (show ¬ (false = true) by decide)] at H; exact H
       clear H
       have H := H1
       clear H1
       exact absurd ((Option.some.inj H).trans HTRU_.out) (by decide)
     ·
      rw [if_neg c8] at H
      have c8b0 : (t130 == 0) = false := beq_eq_false_iff_ne.mpr c8
      have c8b1 : (t130 != 0) = true := bne_iff_ne.mpr c8
      exact absurd ((Option.some.inj H).trans HTRU_.out) (by decide)
    ·
     rw [if_neg c7] at H
     have c7b0 : (t129.toList == ([101, 120, 47, 97] : List UInt8)) = false := beq_eq_false_iff_ne.mpr c7
     have c7b1 : (t129.toList != ([101, 120, 47, 97] : List UInt8)) = true := bne_iff_ne.mpr c7
     exact absurd ((Option.some.inj H).trans HTRU_.out) (by decide)
   ·
    replace c6 := Bool.eq_false_iff.mpr c6
    subst c6
    have H1 : (some false) = some r := by rw [if_neg (show ¬ (false = true) by decide)] at H; exact H
    clear H
    have H := H1
    clear H1
    exact absurd ((Option.some.inj H).trans HTRU_.out) (by decide)
  ·
   rw [if_neg c5] at H
   have c5b0 : (t127 == 12) = false := beq_eq_false_iff_ne.mpr c5
   have c5b1 : (t127 != 12) = true := bne_iff_ne.mpr c5
   exact absurd ((Option.some.inj H).trans HTRU_.out) (by decide)
 ·
  rw [if_neg c4] at H
  have c4b0 : (t126.toList == ([101, 120, 47, 97] : List UInt8)) = false := beq_eq_false_iff_ne.mpr c4
  have c4b1 : (t126.toList != ([101, 120, 47, 97] : List UInt8)) = true := bne_iff_ne.mpr c4
  exact absurd ((Option.some.inj H).trans HTRU_.out) (by decide)

end Go.Proofs.YtpkhemnngjmcjaaDoor.R2
