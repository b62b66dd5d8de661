/- The texts R2x0, R2x1, R2x in one file, without what these claims do not use (put together by prune2.py). -/
import Derived.Test.YtmbpefnhkimplaaGreatDoorZE5
import Derived.Test.YtmbpefnhkimplaaGreatDoorZE7
import Derived.Test.YtmbpefnhkimplaaGreatDoorZE9
import Derived.Test.YtmbpefnhkimplaaGreatDoorZE10
import Derived.Test.YtmbpefnhkimplaaGreatDoorZE11
import Derived.Test.YtmbpefnhkimplaaGreatDoorZE12
section
namespace Go.Proofs.YtmbpefnhkimplaaGreatDoor.R2
open Go.RowKit Go.Proofs.YtmbpefnhkimplaaGreatDoor Go.Proofs.YtmbpefnhkimplaaGreatDoor.K0 Go.Proofs.YtmbpefnhkimplaaGreatDoor.R1 Go.Proofs.YtmbpefnhkimplaaGreatDoorW.PrintWords Go.Proofs.YtmbpefnhkimplaaGreatDoorW.PrintLast Go.Proofs.YtmbpefnhkimplaaGreatDoorW.PrintMore
attribute [local go_sem] max2_int min2_int max_two min_two max_three min_three max_four min_four
set_option linter.unusedVariables false
set_option linter.unusedSimpArgs false
end Go.Proofs.YtmbpefnhkimplaaGreatDoor.R2
end

section
namespace Go.Proofs.YtmbpefnhkimplaaGreatDoor.R2
open Go.RowKit Go.Proofs.YtmbpefnhkimplaaGreatDoor Go.Proofs.YtmbpefnhkimplaaGreatDoor.K0 Go.Proofs.YtmbpefnhkimplaaGreatDoor.R1 Go.Proofs.YtmbpefnhkimplaaGreatDoorW.PrintWords Go.Proofs.YtmbpefnhkimplaaGreatDoorW.PrintLast Go.Proofs.YtmbpefnhkimplaaGreatDoorW.PrintMore
attribute [local go_sem] max2_int min2_int max_two min_two max_three min_three max_four min_four
set_option linter.unusedVariables false
set_option linter.unusedSimpArgs false
def mpath_Check.l0 : Nat → List ByteArray → ByteArray → List ByteArray → Int → Int → Option (Bool)
 | 0, _, _, _, _, _ => none
 | k + 1, x3, x4, x19, x20, x21 => if x21 < x20 then (if 0 ≤ x21 then (if x21 < (x19.length : Int) then ((mpath_major.f (rdOf ByteArray.empty x19 x21)).bind fun bt107 => (if bt107.2 = true then (some false) else (mpath_Check.l0 k x3 x4 x19 x20 (wrap64 (x21 + 1))))) else (none)) else (none)) else ((mpath_major.f x4).bind fun bt109 => (if bt109.2 = true then (if bt109.1 > 0 then (some (decide ((x3.length : Int) > 0))) else (some false)) else (some true)))
def mpath_Check.f (k : Nat) (a0 : ByteArray) : Option (Bool) := (files_Path.f k a0).bind fun t101 => (if t101 = true then ((mpath_split.f a0).bind fun bt102 => (mpath_Check.l0 k bt102.1 bt102.2 bt102.1 (bt102.1.length : Int) 0)) else (some false))
set_option maxHeartbeats 8000000 in
set_option maxRecDepth 100000 in
theorem mpath_Check.calls (k : Nat) (a0 : ByteArray) (r : Bool) (w : World) (hG : GW w) (h : mpath_Check.f k a0 = some r) :
  Calls Tryz.prog 83 #[.string a0] w fun e w' => e = .returned (.bool r) ∧ Below w.heap.size w w' := by
 have HGW := Aside0.mk hG; clear hG; have HB := Aside0.mk (Below.refl w.heap.size w); have H : ((files_Path.f k a0).bind fun t101 => (if t101 = true then ((mpath_split.f a0).bind fun bt102 => (mpath_Check.l0 k bt102.1 bt102.2 bt102.1 (bt102.1.length : Int) 0)) else (some false))) = some r := h; clear h; replace H := xb H; obtain ⟨t101, A2, H⟩ := H
 by_cases c3 : t101 = true
 ·
  subst c3; rw [if_pos rfl] at H; replace H := Option.bind_eq_some_iff.mp H; obtain ⟨⟨t102, t103⟩, A40, H⟩ := H; replace H : (mpath_Check.l0 k t102 t103 t102 (t102.length : Int) 0) = some r := H; have A4 := Aside0.mk A40; clear A40; have H' := Aside0.mk H; clear H; go_enter Tryz.func83, Tryz.ntmps83; go_wp2_with (first | ((with_reducible refine gate_callee (f := 106) rfl ?_); refine goesL_ (some 12) rfl rfl Tryz.func106 (by kernel_rfl) rfl #[.string a0] rfl xS ?_; (with_reducible refine (files_Path.calls k a0 true _ A2.out).mono ?_); rintro e w5 ⟨rfl, hb⟩; refine ⟨_, rfl, ?_⟩; replace HB := Aside0.mk (below_step xB hb); (try clear hb)) | ((with_reducible refine gate_callee (f := 107) rfl ?_); refine goesL_ (some 16) rfl rfl Tryz.func107 (by kernel_rfl) rfl #[.string a0] rfl xS ?_; (with_reducible refine (mpath_split.calls a0 t102 t103 _ ?side1 A4.out).mono ?_); (case side1 => exact GW.below HGW.out xB); rintro e w6 ⟨v104, rfl, ho0, hb⟩; refine ⟨_, rfl, ?_⟩; have HO105 := Aside0.mk (Kd.R_lower ho0 (below_size xB)); replace HB := Aside0.mk (below_step xB hb); (try clear hb); (try clear ho0); obtain ⟨Ao7, co7, eo7⟩ := Kd.R_slice HO105.out; subst eo7))
  go_loopg [21] k (fun kq v21 w' => ∃ (x21_1 : Int), v21 = .int .i64 x21_1 ∧ Aside0 (mpath_Check.l0 kq t102 t103 t102 (t102.length : Int) x21_1 = some r) ∧ Aside0 (kq ≤ k) ∧ Aside0 (Kd.R Kd.string 9 w' w.heap.size (fun _ => True) (.slice Ao7 t102.length co7) t102) ∧ Aside0 (Kd.R Kd.string 9 w' w.heap.size (fun _ => True) (.slice Ao7 t102.length co7) t102) ∧ Aside0 (Below w.heap.size w w'))
  case atStart => exact ⟨(0), xR, H', ⟨Nat.le_refl _⟩, ⟨xQ HO105⟩, ⟨xQ HO105⟩, ⟨xB⟩⟩
  case round =>
   clear H'
   try clear c1
   try clear p2
   try clear c3
   obtain ⟨x21_1, rfl, HA, HK1, HO_3, HO_19, HB⟩ := hrel
   cases gk with
   | zero => exact absurd HA.out (by simp [mpath_Check.l0])
   | succ k1 =>
    have H := HA.out; clear HA; simp only [mpath_Check.l0] at H; replace H := xJ H; rcases H with ⟨c8, H⟩ | ⟨c8, H⟩
    ·
     replace c8 := decide_eq_true c8; replace H := xI H; obtain ⟨c9, H⟩ := H; replace c9 := decide_eq_true c9; replace H := xI H; obtain ⟨c10, H⟩ := H; replace c10 := decide_eq_true c10; replace H := Option.bind_eq_some_iff.mp H; obtain ⟨⟨t107, t108⟩, A110, H⟩ := H; replace H : (if t108 = true then (some false) else (mpath_Check.l0 k1 t102 t103 t102 (t102.length : Int) (wrap64 (x21_1 + 1)))) = some r := H; have A11 := Aside0.mk A110; clear A110
     by_cases c12 : t108 = true
     ·
      subst c12; rw [if_pos rfl] at H; obtain rfl := Option.some.inj H; obtain ⟨p106, q106, ad106, e106, hx106_0⟩ := xT (Kd.at_string (Kd.R_reads' HO_19.out).2.2 x21_1)
      cases e106
      go_wp2_with (first | ((with_reducible refine gate_callee (f := 108) rfl ?_); refine goesL_ (some 27) rfl rfl Tryz.func108 (by kernel_rfl) rfl #[.string (rdOf ByteArray.empty t102 x21_1)] rfl xS ?_; (with_reducible refine (mpath_major.calls (rdOf ByteArray.empty t102 x21_1) t107 true _ ?side1 A11.out).mono ?_); (case side1 => exact GW.below HGW.out xB); rintro e w13 ⟨rfl, hb⟩; refine ⟨_, rfl, ?_⟩; replace HO_3 := Aside0.mk (Kd.R_below (by (with_reducible repeat (first | apply Kd.R_alloc | apply Kd.R_drewN | apply Kd.R_drew)); exact HO_3.out) hb); replace HO_19 := Aside0.mk (Kd.R_below (by (with_reducible repeat (first | apply Kd.R_alloc | apply Kd.R_drewN | apply Kd.R_drew)); exact HO_19.out) hb); replace HB := Aside0.mk (below_step xB hb); (try clear hb))); go_ret; exact ⟨xW, xB⟩
     replace c12 := Bool.eq_false_iff.mpr c12; subst c12; rw [if_neg (show ¬ (false = true) by decide)] at H; have H' := Aside0.mk H; clear H; obtain ⟨p106, q106, ad106, e106, hx106_0⟩ := xT (Kd.at_string (Kd.R_reads' HO_19.out).2.2 x21_1)
     cases e106
     go_wp2_with (first | ((with_reducible refine gate_callee (f := 108) rfl ?_); refine goesL_ (some 27) rfl rfl Tryz.func108 (by kernel_rfl) rfl #[.string (rdOf ByteArray.empty t102 x21_1)] rfl xS ?_; (with_reducible refine (mpath_major.calls (rdOf ByteArray.empty t102 x21_1) t107 false _ ?side1 A11.out).mono ?_); (case side1 => exact GW.below HGW.out xB); rintro e w14 ⟨rfl, hb⟩; refine ⟨_, rfl, ?_⟩; replace HO_3 := Aside0.mk (Kd.R_below (by (with_reducible repeat (first | apply Kd.R_alloc | apply Kd.R_drewN | apply Kd.R_drew)); exact HO_3.out) hb); replace HO_19 := Aside0.mk (Kd.R_below (by (with_reducible repeat (first | apply Kd.R_alloc | apply Kd.R_drewN | apply Kd.R_drew)); exact HO_19.out) hb); replace HB := Aside0.mk (below_step xB hb); (try clear hb))); go_roundg k1
     case measure => exact xO1
     case rel => exact ⟨(wrap64 (x21_1 + 1)), xR, H', ⟨xO1⟩, ⟨xQ HO_3⟩, ⟨xQ HO_19⟩, ⟨xB⟩⟩
    replace c8 := decide_eq_false c8; replace H := Option.bind_eq_some_iff.mp H; obtain ⟨⟨t109, t110⟩, A150, H⟩ := H; replace H : (if t110 = true then (if t109 > 0 then (some (decide ((t102.length : Int) > 0))) else (some false)) else (some true)) = some r := H; have A15 := Aside0.mk A150; clear A150
    by_cases c16 : t110 = true
    ·
     subst c16; rw [if_pos rfl] at H; replace H := xJ H; rcases H with ⟨c17, H⟩ | ⟨c17, H⟩
     ·
      replace c17 := decide_eq_true c17; obtain rfl := Option.some.inj H; go_wp2_with (first | ((with_reducible refine gate_callee (f := 108) rfl ?_); refine goesL_ (some 34) rfl rfl Tryz.func108 (by kernel_rfl) rfl #[.string t103] rfl xS ?_; (with_reducible refine (mpath_major.calls t103 t109 true _ ?side1 A15.out).mono ?_); (case side1 => exact GW.below HGW.out xB); rintro e w18 ⟨rfl, hb⟩; refine ⟨_, rfl, ?_⟩; replace HO_3 := Aside0.mk (Kd.R_below (by (with_reducible repeat (first | apply Kd.R_alloc | apply Kd.R_drewN | apply Kd.R_drew)); exact HO_3.out) hb); replace HO_19 := Aside0.mk (Kd.R_below (by (with_reducible repeat (first | apply Kd.R_alloc | apply Kd.R_drewN | apply Kd.R_drew)); exact HO_19.out) hb); replace HB := Aside0.mk (below_step xB hb); (try clear hb))); go_ret; exact ⟨xW, xB⟩
     replace c17 := decide_eq_false c17; obtain rfl := Option.some.inj H; go_wp2_with (first | ((with_reducible refine gate_callee (f := 108) rfl ?_); refine goesL_ (some 34) rfl rfl Tryz.func108 (by kernel_rfl) rfl #[.string t103] rfl xS ?_; (with_reducible refine (mpath_major.calls t103 t109 true _ ?side1 A15.out).mono ?_); (case side1 => exact GW.below HGW.out xB); rintro e w19 ⟨rfl, hb⟩; refine ⟨_, rfl, ?_⟩; replace HO_3 := Aside0.mk (Kd.R_below (by (with_reducible repeat (first | apply Kd.R_alloc | apply Kd.R_drewN | apply Kd.R_drew)); exact HO_3.out) hb); replace HO_19 := Aside0.mk (Kd.R_below (by (with_reducible repeat (first | apply Kd.R_alloc | apply Kd.R_drewN | apply Kd.R_drew)); exact HO_19.out) hb); replace HB := Aside0.mk (below_step xB hb); (try clear hb))); go_ret; exact ⟨xW, xB⟩
    replace c16 := Bool.eq_false_iff.mpr c16; subst c16; rw [if_neg (show ¬ (false = true) by decide)] at H; obtain rfl := Option.some.inj H; go_wp2_with (first | ((with_reducible refine gate_callee (f := 108) rfl ?_); refine goesL_ (some 34) rfl rfl Tryz.func108 (by kernel_rfl) rfl #[.string t103] rfl xS ?_; (with_reducible refine (mpath_major.calls t103 t109 false _ ?side1 A15.out).mono ?_); (case side1 => exact GW.below HGW.out xB); rintro e w20 ⟨rfl, hb⟩; refine ⟨_, rfl, ?_⟩; replace HO_3 := Aside0.mk (Kd.R_below (by (with_reducible repeat (first | apply Kd.R_alloc | apply Kd.R_drewN | apply Kd.R_drew)); exact HO_3.out) hb); replace HO_19 := Aside0.mk (Kd.R_below (by (with_reducible repeat (first | apply Kd.R_alloc | apply Kd.R_drewN | apply Kd.R_drew)); exact HO_19.out) hb); replace HB := Aside0.mk (below_step xB hb); (try clear hb))); go_ret; exact ⟨xW, xB⟩
 replace c3 := Bool.eq_false_iff.mpr c3; subst c3; rw [if_neg (show ¬ (false = true) by decide)] at H; obtain rfl := Option.some.inj H; go_enter Tryz.func83, Tryz.ntmps83; go_wp2_with (first | ((with_reducible refine gate_callee (f := 106) rfl ?_); refine goesL_ (some 12) rfl rfl Tryz.func106 (by kernel_rfl) rfl #[.string a0] rfl xS ?_; (with_reducible refine (files_Path.calls k a0 false _ A2.out).mono ?_); rintro e w21 ⟨rfl, hb⟩; refine ⟨_, rfl, ?_⟩; replace HB := Aside0.mk (below_step xB hb); (try clear hb))); go_ret; exact ⟨xW, xB⟩
def mpath_Base.f (a0 : ByteArray) : Option (ByteArray) := (strings_LastIndex.f a0 (⟨#[47]⟩ : ByteArray)).bind fun t111 => (if t111 < 0 then (some (⟨#[]⟩ : ByteArray)) else (if 0 ≤ t111 then (if t111 ≤ (a0.size : Int) then (some (a0.extract 0 (t111 : Int).toNat)) else (none)) else (none)))
set_option maxHeartbeats 8000000 in
set_option maxRecDepth 100000 in
theorem mpath_Base.calls (a0 : ByteArray) (r : ByteArray) (w : World) (h : mpath_Base.f a0 = some r) :
  Calls Tryz.prog 143 #[.string a0] w fun e w' => e = .returned (.string r) ∧ Drawn0 w w' := by
 have H : ((strings_LastIndex.f a0 (⟨#[47]⟩ : ByteArray)).bind fun t111 => (if t111 < 0 then (some (⟨#[]⟩ : ByteArray)) else (if 0 ≤ t111 then (if t111 ≤ (a0.size : Int) then (some (a0.extract 0 (t111 : Int).toNat)) else (none)) else (none)))) = some r := h; clear h; replace H := xb H; obtain ⟨t111, A2, H⟩ := H; replace H := xJ H; rcases H with ⟨c3, H⟩ | ⟨c3, H⟩
 ·
  replace c3 := decide_eq_true c3; obtain rfl := Option.some.inj H; go_enter Tryz.func143, Tryz.ntmps143; go_wp2_with (first | ((with_reducible refine gate_callee (f := 40) rfl ?_); refine goesL_ (some 5) rfl rfl Tryz.func40 (by kernel_rfl) rfl #[.string a0, .string (⟨#[47]⟩ : ByteArray)] rfl xS ?_; (with_reducible refine (strings_LastIndex.calls a0 (⟨#[47]⟩ : ByteArray) t111 _ A2.out).mono ?_); rintro e w' ⟨rfl, ⟨nd, rfl⟩⟩; refine ⟨_, rfl, ?_⟩)); go_ret; exact ⟨xR, xG⟩
 replace c3 := decide_eq_false c3; replace H := xI H; obtain ⟨c4, H⟩ := H; have c4b0 := eq_true c4; have c4b1 := decide_eq_true c4; clear c4; replace H := xI H; obtain ⟨c5, H⟩ := H; have c5b0 := eq_true c5; have c5b1 := decide_eq_true c5; clear c5; obtain rfl := Option.some.inj H; go_enter Tryz.func143, Tryz.ntmps143; go_wp2_with (first | ((with_reducible refine gate_callee (f := 40) rfl ?_); refine goesL_ (some 5) rfl rfl Tryz.func40 (by kernel_rfl) rfl #[.string a0, .string (⟨#[47]⟩ : ByteArray)] rfl xS ?_; (with_reducible refine (strings_LastIndex.calls a0 (⟨#[47]⟩ : ByteArray) t111 _ A2.out).mono ?_); rintro e w' ⟨rfl, ⟨nd, rfl⟩⟩; refine ⟨_, rfl, ?_⟩)); go_ret; exact ⟨xR, xG⟩
def mpath_Major.f (k : Nat) (a0 : ByteArray) : Option (ByteArray × Int × Bool) := (mpath_Check.f k a0).bind fun t112 => (if t112 = true then ((mpath_split.f a0).bind fun bt113 => ((mpath_major.f bt113.2).bind fun bt117 => (if bt117.2 = true then ((mpath_Base.f a0).bind fun t119 => (some (t119, bt117.1, true))) else (some (a0, 0, true))))) else (some ((⟨#[]⟩ : ByteArray), 0, false)))
set_option maxHeartbeats 8000000 in
set_option maxRecDepth 100000 in
theorem mpath_Major.calls (k : Nat) (a0 : ByteArray) (r1 : ByteArray) (r2 : Int) (r3 : Bool) (w : World) (hG : GW w) (h : mpath_Major.f k a0 = some (r1, r2, r3)) :
  Calls Tryz.prog 109 #[.string a0] w fun e w' => e = .returned (.tuple #[.string r1, .int .i64 r2, .bool r3]) ∧ Below w.heap.size w w' := by
 have HGW := Aside0.mk hG; clear hG; have HB := Aside0.mk (Below.refl w.heap.size w); have H : ((mpath_Check.f k a0).bind fun t112 => (if t112 = true then ((mpath_split.f a0).bind fun bt113 => ((mpath_major.f bt113.2).bind fun bt117 => (if bt117.2 = true then ((mpath_Base.f a0).bind fun t119 => (some (t119, bt117.1, true))) else (some (a0, 0, true))))) else (some ((⟨#[]⟩ : ByteArray), 0, false)))) = some (r1, r2, r3) := h; clear h; replace H := xb H; obtain ⟨t112, A2, H⟩ := H
 by_cases c3 : t112 = true
 ·
  subst c3; rw [if_pos rfl] at H; replace H := Option.bind_eq_some_iff.mp H; obtain ⟨⟨t113, t114⟩, A40, H⟩ := H; replace H : ((mpath_major.f t114).bind fun bt117 => (if bt117.2 = true then ((mpath_Base.f a0).bind fun t119 => (some (t119, bt117.1, true))) else (some (a0, 0, true)))) = some (r1, r2, r3) := H; have A4 := Aside0.mk A40; clear A40; replace H := Option.bind_eq_some_iff.mp H; obtain ⟨⟨t117, t118⟩, A50, H⟩ := H; replace H : (if t118 = true then ((mpath_Base.f a0).bind fun t119 => (some (t119, t117, true))) else (some (a0, 0, true))) = some (r1, r2, r3) := H; have A5 := Aside0.mk A50; clear A50
  by_cases c6 : t118 = true
  ·
   subst c6; rw [if_pos rfl] at H; replace H := xb H; obtain ⟨t119, A7, H⟩ := H; simp only [Option.some.injEq, Prod.mk.injEq] at H; obtain ⟨rfl, rfl, rfl⟩ := H; go_enter Tryz.func109, Tryz.ntmps109; go_wp2_with (first | ((with_reducible refine gate_callee (f := 83) rfl ?_); refine goesL_ (some 10) rfl rfl Tryz.func83 (by kernel_rfl) rfl #[.string a0] rfl xS ?_; (with_reducible refine (mpath_Check.calls k a0 true _ ?side1 A2.out).mono ?_); (case side1 => exact GW.below HGW.out xB); rintro e w8 ⟨rfl, hb⟩; refine ⟨_, rfl, ?_⟩; replace HB := Aside0.mk (below_step xB hb); (try clear hb)) | ((with_reducible refine gate_callee (f := 107) rfl ?_); refine goesL_ (some 14) rfl rfl Tryz.func107 (by kernel_rfl) rfl #[.string a0] rfl xS ?_; (with_reducible refine (mpath_split.calls a0 t113 t114 _ ?side1 A4.out).mono ?_); (case side1 => exact GW.below HGW.out xB); rintro e w9 ⟨v115, rfl, ho0, hb⟩; refine ⟨_, rfl, ?_⟩; have HO116 := Aside0.mk (Kd.R_lower ho0 (below_size xB)); replace HB := Aside0.mk (below_step xB hb); (try clear hb); (try clear ho0)) | ((with_reducible refine gate_callee (f := 108) rfl ?_); refine goesL_ (some 19) rfl rfl Tryz.func108 (by kernel_rfl) rfl #[.string t114] rfl xS ?_; (with_reducible refine (mpath_major.calls t114 t117 true _ ?side1 A5.out).mono ?_); (case side1 => exact GW.below HGW.out xB); rintro e w10 ⟨rfl, hb⟩; refine ⟨_, rfl, ?_⟩; replace HO116 := Aside0.mk (Kd.R_below (by (with_reducible repeat (first | apply Kd.R_alloc | apply Kd.R_drewN | apply Kd.R_drew)); exact HO116.out) hb); replace HB := Aside0.mk (below_step xB hb); (try clear hb)) | ((with_reducible refine gate_callee (f := 143) rfl ?_); refine goesL_ (some 24) rfl rfl Tryz.func143 (by kernel_rfl) rfl #[.string a0] rfl xS ?_; (with_reducible refine (mpath_Base.calls a0 t119 _ A7.out).mono ?_); rintro e w' ⟨rfl, ⟨nd, rfl⟩⟩; refine ⟨_, rfl, ?_⟩)); go_ret3; exact ⟨xW, xB⟩
  replace c6 := Bool.eq_false_iff.mpr c6; subst c6; rw [if_neg (show ¬ (false = true) by decide)] at H; simp only [Option.some.injEq, Prod.mk.injEq] at H; obtain ⟨rfl, rfl, rfl⟩ := H; go_enter Tryz.func109, Tryz.ntmps109; go_wp2_with (first | ((with_reducible refine gate_callee (f := 83) rfl ?_); refine goesL_ (some 10) rfl rfl Tryz.func83 (by kernel_rfl) rfl #[.string a0] rfl xS ?_; (with_reducible refine (mpath_Check.calls k a0 true _ ?side1 A2.out).mono ?_); (case side1 => exact GW.below HGW.out xB); rintro e w11 ⟨rfl, hb⟩; refine ⟨_, rfl, ?_⟩; replace HB := Aside0.mk (below_step xB hb); (try clear hb)) | ((with_reducible refine gate_callee (f := 107) rfl ?_); refine goesL_ (some 14) rfl rfl Tryz.func107 (by kernel_rfl) rfl #[.string a0] rfl xS ?_; (with_reducible refine (mpath_split.calls a0 t113 t114 _ ?side1 A4.out).mono ?_); (case side1 => exact GW.below HGW.out xB); rintro e w12 ⟨v115, rfl, ho0, hb⟩; refine ⟨_, rfl, ?_⟩; have HO116 := Aside0.mk (Kd.R_lower ho0 (below_size xB)); replace HB := Aside0.mk (below_step xB hb); (try clear hb); (try clear ho0)) | ((with_reducible refine gate_callee (f := 108) rfl ?_); refine goesL_ (some 19) rfl rfl Tryz.func108 (by kernel_rfl) rfl #[.string t114] rfl xS ?_; (with_reducible refine (mpath_major.calls t114 t117 false _ ?side1 A5.out).mono ?_); (case side1 => exact GW.below HGW.out xB); rintro e w13 ⟨rfl, hb⟩; refine ⟨_, rfl, ?_⟩; replace HO116 := Aside0.mk (Kd.R_below (by (with_reducible repeat (first | apply Kd.R_alloc | apply Kd.R_drewN | apply Kd.R_drew)); exact HO116.out) hb); replace HB := Aside0.mk (below_step xB hb); (try clear hb))); go_ret3; exact ⟨xW, xB⟩
 replace c3 := Bool.eq_false_iff.mpr c3; subst c3; rw [if_neg (show ¬ (false = true) by decide)] at H; simp only [Option.some.injEq, Prod.mk.injEq] at H; obtain ⟨rfl, rfl, rfl⟩ := H; go_enter Tryz.func109, Tryz.ntmps109; go_wp2_with (first | ((with_reducible refine gate_callee (f := 83) rfl ?_); refine goesL_ (some 10) rfl rfl Tryz.func83 (by kernel_rfl) rfl #[.string a0] rfl xS ?_; (with_reducible refine (mpath_Check.calls k a0 false _ ?side1 A2.out).mono ?_); (case side1 => exact GW.below HGW.out xB); rintro e w14 ⟨rfl, hb⟩; refine ⟨_, rfl, ?_⟩; replace HB := Aside0.mk (below_step xB hb); (try clear hb))); go_ret3; exact ⟨xW, xB⟩
def mpath_Fits.j0 : Nat → Int → Bool → Int → Int → Int → ByteArray → ByteArray → Option (Bool)
 | 0, _, _, _, _, _, _, _ => none
 | k + 1, x6, x14, x121000, x121001, x121002, x121003, x121004 => if x14 = true then (some false) else (if x6 = 0 then (some (decide (x121000 < 2))) else (some (x121000 == x6)))
def mpath_Fits.f (k : Nat) (a0 : ByteArray) (a1_0 : Int) (a1_1 : Int) (a1_2 : Int) (a1_3 : ByteArray) (a1_4 : ByteArray) : Option (Bool) := (mpath_Major.f k a0).bind fun bt121 => (if bt121.2.2 = true then ((ver_Check.f k a1_0 a1_1 a1_2 a1_3 a1_4).bind fun t124 => (mpath_Fits.j0 k bt121.2.1 (!t124) a1_0 a1_1 a1_2 a1_3 a1_4)) else (mpath_Fits.j0 k bt121.2.1 true a1_0 a1_1 a1_2 a1_3 a1_4))
set_option maxHeartbeats 8000000 in
set_option maxRecDepth 100000 in
theorem mpath_Fits.calls (k : Nat) (a0 : ByteArray) (a1_0 : Int) (a1_1 : Int) (a1_2 : Int) (a1_3 : ByteArray) (a1_4 : ByteArray) (r : Bool) (w : World) (hG : GW w) (h : mpath_Fits.f k a0 a1_0 a1_1 a1_2 a1_3 a1_4 = some r) :
  Calls Tryz.prog 84 #[.string a0, .agg #[.int .i64 a1_0, .int .i64 a1_1, .int .i64 a1_2, .string a1_3, .string a1_4]] w fun e w' => e = .returned (.bool r) ∧ Below w.heap.size w w' := by
 have hu23 := Tryz.underlying23; have HGW := Aside0.mk hG; clear hG; have HB := Aside0.mk (Below.refl w.heap.size w); have H : ((mpath_Major.f k a0).bind fun bt121 => (if bt121.2.2 = true then ((ver_Check.f k a1_0 a1_1 a1_2 a1_3 a1_4).bind fun t124 => (mpath_Fits.j0 k bt121.2.1 (!t124) a1_0 a1_1 a1_2 a1_3 a1_4)) else (mpath_Fits.j0 k bt121.2.1 true a1_0 a1_1 a1_2 a1_3 a1_4))) = some r := h; clear h; replace H := Option.bind_eq_some_iff.mp H; obtain ⟨⟨t121, t122, t123⟩, A30, H⟩ := H; replace H : (if t123 = true then ((ver_Check.f k a1_0 a1_1 a1_2 a1_3 a1_4).bind fun t124 => (mpath_Fits.j0 k t122 (!t124) a1_0 a1_1 a1_2 a1_3 a1_4)) else (mpath_Fits.j0 k t122 true a1_0 a1_1 a1_2 a1_3 a1_4)) = some r := H; have A3 := Aside0.mk A30; clear A30; have HC4 := Aside0.mk H; clear H; go_enter Tryz.func84, Tryz.ntmps84; go_upto_region 2 with (first | ((with_reducible refine gate_dst (N := 3) rfl ?_); refine box_event ?hg (N := 3) ?hd (cs := #[.int .i64 a1_0, .int .i64 a1_1, .int .i64 a1_2, .string a1_3, .string a1_4]) (t := 23) ?hr ?_; (case hd => rfl); (case hg => rfl); (case hr => first | (go_simp; done) | (go_simp; rfl)); intro gb120 hg w5 hbox hb; have BK120 := Aside0.mk (hbox); have GW120 := Aside0.mk ((by rw [hg]; exact (below_size xB) : w.heap.size ≤ gb120)); have GE120 := Aside0.mk ((by rw [hg]; exact (below_size xB) : w.heap.size ≤ gb120)); replace HB := Aside0.mk (below_step xB hb); clear hb hbox hg) | ((with_reducible refine gate_callee (f := 109) rfl ?_); refine goesL_ (some 10) rfl rfl Tryz.func109 (by kernel_rfl) rfl #[.string a0] rfl xS ?_; (with_reducible refine (mpath_Major.calls k a0 t121 t122 t123 _ ?side1 A3.out).mono ?_); (case side1 => exact GW.below HGW.out xB); rintro e w6 ⟨rfl, hb⟩; refine ⟨_, rfl, ?_⟩; replace BK120 := Aside0.mk (blk_below (g := gb120) (o := .cells #[.int .i64 a1_0, .int .i64 a1_1, .int .i64 a1_2, .string a1_3, .string a1_4] 23 (0, 0)) xK hb); replace HB := Aside0.mk (below_step xB hb); (try clear hb)))
 (try simp only [Act.put, z1, z2, z3])
 go_cut [14] (fun v14 wc => ∃ (kq : Nat) (x14_3 : Bool), v14 = .bool x14_3 ∧ Aside0 (mpath_Fits.j0 kq t122 x14_3 a1_0 a1_1 a1_2 a1_3 a1_4 = some r) ∧ Aside0 (kq ≤ k) ∧ Aside0 (wc.heap[gb120]? = some (.cells #[.int .i64 a1_0, .int .i64 a1_1, .int .i64 a1_2, .string a1_3, .string a1_4] 23 (0, 0))) ∧ Aside0 (Below w.heap.size w wc))
 case first =>
  have H := HC4.out; clear HC4
  by_cases c7 : t123 = true
  ·
   subst c7; rw [if_pos rfl] at H; replace H := xb H; obtain ⟨t124, A8, H⟩ := H; have H' := Aside0.mk H; clear H; obtain ⟨hcz9_0, hcz9_1, hcz9_2, hcz9_3, hcz9_4⟩ := xC5 BK120.out; obtain ⟨hfz9_0, hfz9_1, hfz9_2, hfz9_3, hfz9_4⟩ := xF5 BK120.out; go_wp2_with (first | (go_at_call 58; (with_reducible refine (ver_Check.calls k a1_0 a1_1 a1_2 a1_3 a1_4 t124 _ A8.out).mono ?_); rintro e w10 ⟨rfl, hb⟩; replace BK120 := Aside0.mk (blk_below (g := gb120) (o := .cells #[.int .i64 a1_0, .int .i64 a1_1, .int .i64 a1_2, .string a1_3, .string a1_4] 23 (0, 0)) xK hb); replace HB := Aside0.mk (below_step xB hb); (try clear hb))); go_meet
   case rel => exact ⟨_, (!t124), xR, H', ⟨by first | omega | exact Nat.le_refl _⟩, ⟨by (with_reducible repeat (first | refine blk_drewN ?_ _ | refine blk_drew ?_ | refine blk_alloc ?_ _)); exact BK120.out⟩, ⟨xB⟩⟩
  replace c7 := Bool.eq_false_iff.mpr c7; subst c7; rw [if_neg (show ¬ (false = true) by decide)] at H; have H' := Aside0.mk H; clear H; go_wp2; go_meet
  case rel => exact ⟨_, (true), xR, H', ⟨by first | omega | exact Nat.le_refl _⟩, ⟨by (with_reducible repeat (first | refine blk_drewN ?_ _ | refine blk_drew ?_ | refine blk_alloc ?_ _)); exact BK120.out⟩, ⟨xB⟩⟩
 case rest =>
  clear HC4
  try clear c1
  try clear p2
  try clear c7
  try clear c8
  try clear c10
  try clear hcz9_0
  try clear hcz9_1
  try clear hcz9_2
  try clear hcz9_3
  try clear hcz9_4
  try clear hfz9_0
  try clear hfz9_1
  try clear hfz9_2
  try clear hfz9_3
  try clear hfz9_4
  obtain ⟨kq, x14_3, rfl, HA, HJ3, BK120, HB⟩ := hcut
  cases kq with
  | zero => exact absurd HA.out (by simp [mpath_Fits.j0])
  | succ kj3 =>
   have H := HA.out; clear HA; simp only [mpath_Fits.j0] at H
   by_cases c11 : x14_3 = true
   ·
    subst c11; rw [if_pos rfl] at H; obtain rfl := Option.some.inj H; go_wp2; go_ret; exact ⟨xW, xB⟩
   replace c11 := Bool.eq_false_iff.mpr c11; subst c11; rw [if_neg (show ¬ (false = true) by decide)] at H; replace H := xJ H; rcases H with ⟨c12, H⟩ | ⟨c12, H⟩
   ·
    have c12b0 := beq_iff_eq.mpr c12; have c12b1 := bne_eq_false_iff_eq.mpr c12; clear c12; obtain rfl := Option.some.inj H; obtain ⟨hcz13_0, hcz13_1, hcz13_2, hcz13_3, hcz13_4⟩ := xC5 BK120.out; obtain ⟨hfz13_0, hfz13_1, hfz13_2, hfz13_3, hfz13_4⟩ := xF5 BK120.out; go_wp2; go_ret; exact ⟨xW, xB⟩
   have c12b0 := beq_eq_false_iff_ne.mpr c12; have c12b1 := bne_iff_ne.mpr c12; obtain rfl := Option.some.inj H; obtain ⟨hcz14_0, hcz14_1, hcz14_2, hcz14_3, hcz14_4⟩ := xC5 BK120.out; obtain ⟨hfz14_0, hfz14_1, hfz14_2, hfz14_3, hfz14_4⟩ := xF5 BK120.out; go_wp2; go_ret; exact ⟨xW, xB⟩
end Go.Proofs.YtmbpefnhkimplaaGreatDoor.R2
end

section
namespace Go.Proofs.YtmbpefnhkimplaaGreatDoor.R2
open Go.RowKit Go.Proofs.YtmbpefnhkimplaaGreatDoor Go.Proofs.YtmbpefnhkimplaaGreatDoor.K0 Go.Proofs.YtmbpefnhkimplaaGreatDoor.R1 Go.Proofs.YtmbpefnhkimplaaGreatDoorW.PrintWords Go.Proofs.YtmbpefnhkimplaaGreatDoorW.PrintLast Go.Proofs.YtmbpefnhkimplaaGreatDoorW.PrintMore
attribute [local go_sem] max2_int min2_int max_two min_two max_three min_three max_four min_four
set_option linter.unusedVariables false
set_option linter.unusedSimpArgs false
end Go.Proofs.YtmbpefnhkimplaaGreatDoor.R2
end
