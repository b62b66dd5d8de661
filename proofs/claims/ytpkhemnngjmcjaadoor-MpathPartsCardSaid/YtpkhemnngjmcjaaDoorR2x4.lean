-- Written by a program of this place (myprint.py) out of the translation. Not trusted: Lean checks it.
import Derived.Test.YtpkhemnngjmcjaaDoorR2x0
import Derived.Test.YtpkhemnngjmcjaaDoorR2x1
import Derived.Test.YtpkhemnngjmcjaaDoorR2x2
namespace Go.Proofs.YtpkhemnngjmcjaaDoor.R2
open Go.RowKit Go.Proofs.YtpkhemnngjmcjaaDoor Go.Proofs.YtpkhemnngjmcjaaDoor.K0 Go.Proofs.YtpkhemnngjmcjaaDoor.R1 Go.Proofs.YtpkhemnngjmcjaaDoorW.PrintWords Go.Proofs.YtpkhemnngjmcjaaDoorW.PrintLast Go.Proofs.YtpkhemnngjmcjaaDoorW.PrintMore
attribute [local go_sem] max2_int min2_int max_two min_two max_three min_three max_four min_four   -- for this text's walks alone
set_option linter.unusedVariables false
set_option linter.unusedSimpArgs false

/-! ### armadalaw08_MpathParts: function 4 -/
mutual
def armadalaw08_MpathParts.j0 : Nat → ByteArray → ByteArray → Bool → Option (Bool)
 | 0, _, _, _ => none
 | k + 1, x0, x1, x25 => if x25 = true then ((armadalaw08_live.f k).bind fun t170 => (some t170)) else (armadalaw08_MpathParts.l0 k x0 x1 1)
def armadalaw08_MpathParts.l0 : Nat → ByteArray → ByteArray → Int → Option (Bool)
 | 0, _, _, _ => none
 | k + 1, x0, x1, x5 => if x5 < (x0.size : Int) then (if 0 ≤ x5 then (if (bt x0 x5) = 47 then (if x5 ≤ (x0.size : Int) then ((mpath_Check.f k (x0.extract 0 (x5 : Int).toNat)).bind fun t171 => (if t171 = true then (armadalaw08_MpathParts.l0 k x0 x1 (wrap64 (x5 + 1))) else (some false))) else (none)) else (armadalaw08_MpathParts.l0 k x0 x1 (wrap64 (x5 + 1)))) else (none)) else ((mpath_Major.f k x0).bind fun bt172 => (if x0.size + 1 ≤ 9223372036854775807 then (if (x0 ++ (⟨#[47]⟩ : ByteArray)).size + x1.size ≤ 9223372036854775807 then (if bt172.2.1 > 0 then ((mpath_Check.f k ((x0 ++ (⟨#[47]⟩ : ByteArray)) ++ x1)).bind fun t175 => (armadalaw08_MpathParts.j2 k x0 x1 bt172.2.1 ((x0 ++ (⟨#[47]⟩ : ByteArray)) ++ x1) t175)) else (armadalaw08_MpathParts.j2 k x0 x1 bt172.2.1 ((x0 ++ (⟨#[47]⟩ : ByteArray)) ++ x1) false)) else (none)) else (none)))
def armadalaw08_MpathParts.j2 : Nat → ByteArray → ByteArray → Int → ByteArray → Bool → Option (Bool)
 | 0, _, _, _, _, _ => none
 | k + 1, x0, x1, x7, x9, x59 => if x59 = true then (some false) else ((mpath_Major.f k x1).bind fun bt176 => (if x7 = 0 then (if bt176.2.2 = true then ((armadaref05_Path.f k x9).bind fun t179 => (if t179 = true then ((mpath_Check.f k x9).bind fun t180 => (armadalaw08_MpathParts.j3 k x0 x9 bt176.2.1 bt176.2.2 (!t180))) else (armadalaw08_MpathParts.j3 k x0 x9 bt176.2.1 bt176.2.2 false))) else (armadalaw08_MpathParts.j3 k x0 x9 bt176.2.1 bt176.2.2 false)) else (armadalaw08_MpathParts.j3 k x0 x9 bt176.2.1 bt176.2.2 false)))
def armadalaw08_MpathParts.j3 : Nat → ByteArray → ByteArray → Int → Bool → Bool → Option (Bool)
 | 0, _, _, _, _, _ => none
 | k + 1, x0, x9, x11, x12, x79 => if x79 = true then (some false) else ((mpath_Check.f k x9).bind fun t181 => (if t181 = true then (if x12 = true then ((mpath_Within.f x9 x0).bind fun t182 => (if t182 = true then (if x11 ≥ 0 then ((armadalaw08_live.f k).bind fun t183 => (some t183)) else (some false)) else (some false))) else (if x11 ≥ 0 then ((armadalaw08_live.f k).bind fun t184 => (some t184)) else (some false))) else (if x11 ≥ 0 then ((armadalaw08_live.f k).bind fun t185 => (some t185)) else (some false))))
end
def armadalaw08_MpathParts.f (k : Nat) (a0 : ByteArray) (a1 : ByteArray) : Option (Bool) := if (a0.size : Int) > 200 then (armadalaw08_MpathParts.j0 k a0 a1 true) else (if (a1.size : Int) > 200 then (armadalaw08_MpathParts.j0 k a0 a1 true) else ((mpath_Check.f k a0).bind fun t169 => (armadalaw08_MpathParts.j0 k a0 a1 (!t169))))
theorem armadalaw08_MpathParts.mono_l : ∀ k, (∀ y0 y1 y2, LeO (armadalaw08_MpathParts.j0 k y0 y1 y2) (armadalaw08_MpathParts.j0 (k + 1) y0 y1 y2)) ∧ (∀ y0 y1 y2, LeO (armadalaw08_MpathParts.l0 k y0 y1 y2) (armadalaw08_MpathParts.l0 (k + 1) y0 y1 y2)) ∧ (∀ y0 y1 y2 y3 y4, LeO (armadalaw08_MpathParts.j2 k y0 y1 y2 y3 y4) (armadalaw08_MpathParts.j2 (k + 1) y0 y1 y2 y3 y4)) ∧ (∀ y0 y1 y2 y3 y4, LeO (armadalaw08_MpathParts.j3 k y0 y1 y2 y3 y4) (armadalaw08_MpathParts.j3 (k + 1) y0 y1 y2 y3 y4))
 | 0 => ⟨fun _ _ _ r h => by simp [armadalaw08_MpathParts.j0] at h, fun _ _ _ r h => by simp [armadalaw08_MpathParts.l0] at h, fun _ _ _ _ _ r h => by simp [armadalaw08_MpathParts.j2] at h, fun _ _ _ _ _ r h => by simp [armadalaw08_MpathParts.j3] at h⟩
 | k + 1 => by
  obtain ⟨ih0, ih1, ih2, ih3⟩ := armadalaw08_MpathParts.mono_l k
  refine ⟨?_, ?_, ?_, ?_⟩
  ·
   intro y0 y1 y2
   unfold armadalaw08_MpathParts.j0
   repeat' first
   | (with_reducible exact ih0 _ _ _)
   | (with_reducible exact ih1 _ _ _)
   | (with_reducible exact ih2 _ _ _ _ _)
   | (with_reducible exact ih3 _ _ _ _ _)
   | (with_reducible exact armadalaw08_live.mono _)
   | (with_reducible exact armadaref05_Path.mono _ _)
   | (with_reducible exact mpath_Check.mono _ _)
   | (with_reducible exact mpath_Major.mono _ _)
   | (with_reducible exact LeO.refl _)
   | (with_reducible exact LeO.none _)
   | (with_reducible refine LeO.ite ?_ ?_)
   | (with_reducible refine LeO.bind ?_ (fun _ => ?_))
   | exact ih0 _ _ _
   | exact ih1 _ _ _
   | exact ih2 _ _ _ _ _
   | exact ih3 _ _ _ _ _
   | exact armadalaw08_live.mono _
   | exact armadaref05_Path.mono _ _
   | exact mpath_Check.mono _ _
   | exact mpath_Major.mono _ _
   | exact LeO.none _
   | refine LeO.ite ?_ ?_
   | refine LeO.bind ?_ (fun _ => ?_)
  ·
   intro y0 y1 y2
   unfold armadalaw08_MpathParts.l0
   repeat' first
   | (with_reducible exact ih0 _ _ _)
   | (with_reducible exact ih1 _ _ _)
   | (with_reducible exact ih2 _ _ _ _ _)
   | (with_reducible exact ih3 _ _ _ _ _)
   | (with_reducible exact armadalaw08_live.mono _)
   | (with_reducible exact armadaref05_Path.mono _ _)
   | (with_reducible exact mpath_Check.mono _ _)
   | (with_reducible exact mpath_Major.mono _ _)
   | (with_reducible exact LeO.refl _)
   | (with_reducible exact LeO.none _)
   | (with_reducible refine LeO.ite ?_ ?_)
   | (with_reducible refine LeO.bind ?_ (fun _ => ?_))
   | exact ih0 _ _ _
   | exact ih1 _ _ _
   | exact ih2 _ _ _ _ _
   | exact ih3 _ _ _ _ _
   | exact armadalaw08_live.mono _
   | exact armadaref05_Path.mono _ _
   | exact mpath_Check.mono _ _
   | exact mpath_Major.mono _ _
   | exact LeO.none _
   | refine LeO.ite ?_ ?_
   | refine LeO.bind ?_ (fun _ => ?_)
  ·
   intro y0 y1 y2 y3 y4
   unfold armadalaw08_MpathParts.j2
   repeat' first
   | (with_reducible exact ih0 _ _ _)
   | (with_reducible exact ih1 _ _ _)
   | (with_reducible exact ih2 _ _ _ _ _)
   | (with_reducible exact ih3 _ _ _ _ _)
   | (with_reducible exact armadalaw08_live.mono _)
   | (with_reducible exact armadaref05_Path.mono _ _)
   | (with_reducible exact mpath_Check.mono _ _)
   | (with_reducible exact mpath_Major.mono _ _)
   | (with_reducible exact LeO.refl _)
   | (with_reducible exact LeO.none _)
   | (with_reducible refine LeO.ite ?_ ?_)
   | (with_reducible refine LeO.bind ?_ (fun _ => ?_))
   | exact ih0 _ _ _
   | exact ih1 _ _ _
   | exact ih2 _ _ _ _ _
   | exact ih3 _ _ _ _ _
   | exact armadalaw08_live.mono _
   | exact armadaref05_Path.mono _ _
   | exact mpath_Check.mono _ _
   | exact mpath_Major.mono _ _
   | exact LeO.none _
   | refine LeO.ite ?_ ?_
   | refine LeO.bind ?_ (fun _ => ?_)
  ·
   intro y0 y1 y2 y3 y4
   unfold armadalaw08_MpathParts.j3
   repeat' first
   | (with_reducible exact ih0 _ _ _)
   | (with_reducible exact ih1 _ _ _)
   | (with_reducible exact ih2 _ _ _ _ _)
   | (with_reducible exact ih3 _ _ _ _ _)
   | (with_reducible exact armadalaw08_live.mono _)
   | (with_reducible exact armadaref05_Path.mono _ _)
   | (with_reducible exact mpath_Check.mono _ _)
   | (with_reducible exact mpath_Major.mono _ _)
   | (with_reducible exact LeO.refl _)
   | (with_reducible exact LeO.none _)
   | (with_reducible refine LeO.ite ?_ ?_)
   | (with_reducible refine LeO.bind ?_ (fun _ => ?_))
   | exact ih0 _ _ _
   | exact ih1 _ _ _
   | exact ih2 _ _ _ _ _
   | exact ih3 _ _ _ _ _
   | exact armadalaw08_live.mono _
   | exact armadaref05_Path.mono _ _
   | exact mpath_Check.mono _ _
   | exact mpath_Major.mono _ _
   | exact LeO.none _
   | refine LeO.ite ?_ ?_
   | refine LeO.bind ?_ (fun _ => ?_)
theorem armadalaw08_MpathParts.mono : ∀ a0 a1 k, LeO (armadalaw08_MpathParts.f k a0 a1) (armadalaw08_MpathParts.f (k + 1) a0 a1) := by
 intro a0 a1 k
 obtain ⟨ih0, ih1, ih2, ih3⟩ := armadalaw08_MpathParts.mono_l k
 unfold armadalaw08_MpathParts.f
 repeat' first
   | (with_reducible exact ih0 _ _ _)
   | (with_reducible exact ih1 _ _ _)
   | (with_reducible exact ih2 _ _ _ _ _)
   | (with_reducible exact ih3 _ _ _ _ _)
   | (with_reducible exact armadalaw08_live.mono _)
   | (with_reducible exact armadaref05_Path.mono _ _)
   | (with_reducible exact mpath_Check.mono _ _)
   | (with_reducible exact mpath_Major.mono _ _)
   | (with_reducible exact LeO.refl _)
   | (with_reducible exact LeO.none _)
   | (with_reducible refine LeO.ite ?_ ?_)
   | (with_reducible refine LeO.bind ?_ (fun _ => ?_))
   | exact ih0 _ _ _
   | exact ih1 _ _ _
   | exact ih2 _ _ _ _ _
   | exact ih3 _ _ _ _ _
   | exact armadalaw08_live.mono _
   | exact armadaref05_Path.mono _ _
   | exact mpath_Check.mono _ _
   | exact mpath_Major.mono _ _
   | exact LeO.none _
   | refine LeO.ite ?_ ?_
   | refine LeO.bind ?_ (fun _ => ?_)
set_option maxHeartbeats 8000000 in
set_option maxRecDepth 100000 in
theorem armadalaw08_MpathParts.calls (k : Nat) (a0 : ByteArray) (a1 : ByteArray) (r : Bool) (w : World) (hG : GW w) (hT : r = true) (h : armadalaw08_MpathParts.f k a0 a1 = some r) :
  Calls Tryd.prog 4 #[.string a0, .string a1] w fun e w' => e = .returned (.bool r) ∧ Below w.heap.size w w' := by
 have HGW := Aside0.mk hG
 clear hG
 have HTRU_ := Aside0.mk hT
 clear hT
 have HB := Aside0.mk (Below.refl w.heap.size w)
 have H : (if (a0.size : Int) > 200 then (armadalaw08_MpathParts.j0 k a0 a1 true) else (if (a1.size : Int) > 200 then (armadalaw08_MpathParts.j0 k a0 a1 true) else ((mpath_Check.f k a0).bind fun t169 => (armadalaw08_MpathParts.j0 k a0 a1 (!t169))))) = some r := h
 clear h
 have HC3 := Aside0.mk H
 clear H
 go_enter Tryd.func4, Tryd.ntmps4
 go_upto_region 1 with (fail)
 go_cut [25] (fun v25 wc => ∃ (kq : Nat) (x25_2 : Bool), v25 = .bool x25_2 ∧ Aside0 (armadalaw08_MpathParts.j0 kq a0 a1 x25_2 = some r) ∧ Aside0 (kq ≤ k) ∧ Aside0 (Below w.heap.size w wc))
 case first =>
  have H := HC3.out
  clear HC3
  by_cases c4 : (a0.size : Int) > 200
  ·
   rw [if_pos c4] at H
   have c4b0 : decide (200 < (a0.size : Int)) = true := decide_eq_true c4
   have c4b1 : decide (200 < a0.size) = true := decide_eq_true (by omega)
   clear c4
   (first | rw [c4b0] | (simp only [i64_w, i32_w]; rw [c4b0]) | skip)
   have H' := Aside0.mk H
   clear H
   go_wp2
   go_meet
   case rel => exact ⟨_, (true), (by first | rfl | (simp; done) | (simp [*]; done) | (simp [isEmpty_bne]; done)), H', ⟨by first | omega | exact Nat.le_refl _⟩, ⟨by repeat (first | (with_reducible first | exact HB.out | apply below_alloc | apply pw_below_drewN | apply below_drew1) | exact HB.out)⟩⟩
  ·
   rw [if_neg c4] at H
   have c4b0 : decide (200 < (a0.size : Int)) = false := decide_eq_false c4
   have c4b1 : decide (200 < a0.size) = false := decide_eq_false (by omega)
   clear c4
   (first | rw [c4b0] | (simp only [i64_w, i32_w]; rw [c4b0]) | skip)
   by_cases c5 : (a1.size : Int) > 200
   ·
    rw [if_pos c5] at H
    have c5b0 : decide (200 < (a1.size : Int)) = true := decide_eq_true c5
    have c5b1 : decide (200 < a1.size) = true := decide_eq_true (by omega)
    clear c5
    have H' := Aside0.mk H
    clear H
    go_wp2
    go_meet
    case rel => exact ⟨_, (true), (by first | rfl | (simp; done) | (simp [*]; done) | (simp [isEmpty_bne]; done)), H', ⟨by first | omega | exact Nat.le_refl _⟩, ⟨by repeat (first | (with_reducible first | exact HB.out | apply below_alloc | apply pw_below_drewN | apply below_drew1) | exact HB.out)⟩⟩
   ·
    rw [if_neg c5] at H
    have c5b0 : decide (200 < (a1.size : Int)) = false := decide_eq_false c5
    have c5b1 : decide (200 < a1.size) = false := decide_eq_false (by omega)
    clear c5
    replace H := Option.bind_eq_some_iff.mp H
    obtain ⟨t169, A60, H⟩ := H
    replace H : (armadalaw08_MpathParts.j0 k a0 a1 (!t169)) = some r := H
    have A6 := Aside0.mk A60
    clear A60
    have H' := Aside0.mk H
    clear H
    go_wp2_with (first | (go_at_call 10; (with_reducible refine (mpath_Check.calls k a0 t169 _ ?side1 A6.out).mono ?_); (case side1 => exact GW.below HGW.out (by repeat (first | (with_reducible first | exact HB.out | apply below_alloc | apply pw_below_drewN | apply below_drew1) | exact HB.out))); rintro e w7 ⟨rfl, hb⟩; have n0_ := Aside0.mk (below_step (by repeat (first | (with_reducible first | exact HB.out | apply below_alloc | apply pw_below_drewN | apply below_drew1) | exact HB.out)) hb); clear HB; have HB := n0_; clear n0_; (try clear hb); (try clear hb2); (try clear hk); (try clear hi)))
    go_meet
    case rel => exact ⟨_, (!t169), (by first | rfl | (simp; done) | (simp [*]; done) | (simp [isEmpty_bne]; done)), H', ⟨by first | omega | exact Nat.le_refl _⟩, ⟨by repeat (first | (with_reducible first | exact HB.out | apply below_alloc | apply pw_below_drewN | apply below_drew1) | exact HB.out)⟩⟩
 case rest =>
  clear HC3
  try clear p2
  try clear c4
  try clear c4b0
  try clear c4b1
  try clear c5
  try clear c5b0
  try clear c5b1
  obtain ⟨kq, x25_2, rfl, HA, HJ2, HB⟩ := hcut
  cases kq with
  | zero => exact absurd HA.out (by simp [armadalaw08_MpathParts.j0])
  | succ kj2 =>
   have H := HA.out
   clear HA
   simp only [armadalaw08_MpathParts.j0] at H
   by_cases c8 : x25_2 = true
   ·
    subst c8
    have H1 : ((armadalaw08_live.f kj2).bind fun t170 => (some t170)) = some r := by rw [if_pos rfl] at H; exact H
    clear H
    have H := H1
    clear H1
    replace H := Option.bind_eq_some_iff.mp H
    obtain ⟨t170, A90, H⟩ := H
    replace H : (some t170) = some r := H
    have A9 := Aside0.mk A90
    clear A90
    obtain rfl := Option.some.inj H
    go_wp2_with (first | ((with_reducible refine gate_callee (f := 5) rfl ?_); refine goesL_ (some 26) rfl rfl Tryd.func5 (by kernel_rfl) rfl #[] rfl (by (try simp only [List.map_toArray, List.map_cons, List.map_nil]); first | done | rfl | (simp only [List.length_drop, List.length_take]; rfl)) ?_; (with_reducible refine (armadalaw08_live.calls kj2  t170 _ ?side1 ?side2 A9.out).mono ?_); (case side1 => exact GW.below HGW.out (by repeat (first | (with_reducible first | exact HB.out | apply below_alloc | apply pw_below_drewN | apply below_drew1) | exact HB.out))); (case side2 => exact HTRU_.out); rintro e w10 ⟨rfl, hb⟩; refine ⟨_, rfl, ?_⟩; have n0_ := Aside0.mk (below_step (by repeat (first | (with_reducible first | exact HB.out | apply below_alloc | apply pw_below_drewN | apply below_drew1) | exact HB.out)) hb); clear HB; have HB := n0_; clear n0_; (try clear hb); (try clear hb2); (try clear hk); (try clear hi)))
    go_ret
    exact ⟨by first | rfl | (simp [errW_none, errW_some] <;> rfl) | (simp [*, errW_none, errW_some] <;> rfl) | (simp [isEmpty_bne]; done), by repeat (first | (with_reducible first | exact HB.out | apply below_alloc | apply pw_below_drewN | apply below_drew1) | exact HB.out)⟩
   ·
    replace c8 := Bool.eq_false_iff.mpr c8
    subst c8
    have H1 : (armadalaw08_MpathParts.l0 kj2 a0 a1 1) = some r := by rw [if_neg (show ¬ (false = true) by decide)] at H; exact H
    clear H
    have H := H1
    clear H1
    have H' := Aside0.mk H
    clear H
    go_wp2
    go_loopg [5] kj2 (fun kq v5 w' => ∃ (x5_2 : Int), v5 = .int .i64 x5_2 ∧ Aside0 (armadalaw08_MpathParts.l0 kq a0 a1 x5_2 = some r) ∧ Aside0 (kq ≤ kj2) ∧ Aside0 (Below w.heap.size w w'))
    case atStart => exact ⟨(1), (by first | rfl | (simp; done) | (simp [*]; done) | (simp [isEmpty_bne]; done)), H', ⟨Nat.le_refl _⟩, ⟨by repeat (first | (with_reducible first | exact HB.out | apply below_alloc | apply pw_below_drewN | apply below_drew1) | exact HB.out)⟩⟩
    case round =>
     clear H'
     try clear p2
     try clear c4
     try clear c4b0
     try clear c4b1
     try clear c5
     try clear c5b0
     try clear c5b1
     try clear c8
     try clear p2
     obtain ⟨x5_2, rfl, HA, HK2, HB⟩ := hrel
     cases gk with
     | zero => exact absurd HA.out (by simp [armadalaw08_MpathParts.l0])
     | succ k2 =>
      have H := HA.out
      clear HA
      simp only [armadalaw08_MpathParts.l0] at H
      by_cases c11 : x5_2 < (a0.size : Int)
      ·
       rw [if_pos c11] at H
       have c11b0 : decide (x5_2 < (a0.size : Int)) = true := decide_eq_true c11
       clear c11
       by_cases c12 : 0 ≤ x5_2
       ·
        rw [if_pos c12] at H
        have c12b0 : decide (0 ≤ x5_2) = true := decide_eq_true c12
        clear c12
        by_cases c14 : (bt a0 x5_2) = 47
        ·
         rw [if_pos c14] at H
         have c14b0 : ((bt a0 x5_2) == 47) = true := beq_iff_eq.mpr c14
         have c14b1 : ((bt a0 x5_2) != 47) = false := bne_eq_false_iff_eq.mpr c14
         clear c14
         have c15b0 := eq_true (of_decide_eq_true (by first | (with_reducible assumption) | assumption) : 0 ≤ x5_2)
         by_cases c16 : x5_2 ≤ (a0.size : Int)
         ·
          rw [if_pos c16] at H
          have c16b0 := eq_true c16
          have c16b1 : decide (x5_2 ≤ (a0.size : Int)) = true := decide_eq_true c16
          clear c16
          replace H := Option.bind_eq_some_iff.mp H
          obtain ⟨t171, A170, H⟩ := H
          replace H : (if t171 = true then (armadalaw08_MpathParts.l0 k2 a0 a1 (wrap64 (x5_2 + 1))) else (some false)) = some r := H
          have A17 := Aside0.mk A170
          clear A170
          by_cases c18 : t171 = true
          ·
           subst c18
           have H1 : (armadalaw08_MpathParts.l0 k2 a0 a1 (wrap64 (x5_2 + 1))) = some r := by rw [if_pos rfl] at H; exact H
           clear H
           have H := H1
           clear H1
           have H' := Aside0.mk H
           clear H
           have p13 : 0 ≤ (x5_2 : Int) := of_decide_eq_true (by first | (with_reducible assumption) | assumption)
           have q13 : x5_2 < (a0.size : Int) := of_decide_eq_true (by first | (with_reducible assumption) | assumption)
           have hx13 := bt_at a0 x5_2
           replace p13 := eq_true p13
           replace q13 := eq_true q13
           go_wp2_with (first | (go_at_call 10; (with_reducible refine (mpath_Check.calls k2 (a0.extract 0 (x5_2 : Int).toNat) true _ ?side1 A17.out).mono ?_); (case side1 => exact GW.below HGW.out (by repeat (first | (with_reducible first | exact HB.out | apply below_alloc | apply pw_below_drewN | apply below_drew1) | exact HB.out))); rintro e w19 ⟨rfl, hb⟩; have n0_ := Aside0.mk (below_step (by repeat (first | (with_reducible first | exact HB.out | apply below_alloc | apply pw_below_drewN | apply below_drew1) | exact HB.out)) hb); clear HB; have HB := n0_; clear n0_; (try clear hb); (try clear hb2); (try clear hk); (try clear hi)))
           go_roundg k2
           case measure => have := HJ2.out; have := HK2.out; omega
           case rel => exact ⟨(wrap64 (x5_2 + 1)), (by first | rfl | (simp; done) | (simp [*]; done) | (simp [isEmpty_bne]; done)), H', ⟨by have := HJ2.out; have := HK2.out; omega⟩, ⟨by repeat (first | (with_reducible first | exact HB.out | apply below_alloc | apply pw_below_drewN | apply below_drew1) | exact HB.out)⟩⟩
          ·
           replace c18 := Bool.eq_false_iff.mpr c18
           subst c18
           have H1 : (some false) = some r := by rw [if_neg (show ¬ (false = true) by decide)] at H; exact H
           clear H
           have H := H1
           clear H1
           exact absurd ((Option.some.inj H).trans HTRU_.out) (by decide)
         ·
          rw [if_neg c16] at H
          exact absurd H (by simp)
        ·
         rw [if_neg c14] at H
         have c14b0 : ((bt a0 x5_2) == 47) = false := beq_eq_false_iff_ne.mpr c14
         have c14b1 : ((bt a0 x5_2) != 47) = true := bne_iff_ne.mpr c14
         have H' := Aside0.mk H
         clear H
         have p13 : 0 ≤ (x5_2 : Int) := of_decide_eq_true (by first | (with_reducible assumption) | assumption)
         have q13 : x5_2 < (a0.size : Int) := of_decide_eq_true (by first | (with_reducible assumption) | assumption)
         have hx13 := bt_at a0 x5_2
         replace p13 := eq_true p13
         replace q13 := eq_true q13
         go_wp2
         go_roundg k2
         case measure => have := HJ2.out; have := HK2.out; omega
         case rel => exact ⟨(wrap64 (x5_2 + 1)), (by first | rfl | (simp; done) | (simp [*]; done) | (simp [isEmpty_bne]; done)), H', ⟨by have := HJ2.out; have := HK2.out; omega⟩, ⟨by repeat (first | (with_reducible first | exact HB.out | apply below_alloc | apply pw_below_drewN | apply below_drew1) | exact HB.out)⟩⟩
       ·
        rw [if_neg c12] at H
        exact absurd H (by simp)
      ·
       rw [if_neg c11] at H
       have c11b0 : decide (x5_2 < (a0.size : Int)) = false := decide_eq_false c11
       clear c11
       replace H := Option.bind_eq_some_iff.mp H
       obtain ⟨⟨t172, t173, t174⟩, A200, H⟩ := H
       replace H : (if a0.size + 1 ≤ 9223372036854775807 then (if (a0 ++ (⟨#[47]⟩ : ByteArray)).size + a1.size ≤ 9223372036854775807 then (if t173 > 0 then ((mpath_Check.f k2 ((a0 ++ (⟨#[47]⟩ : ByteArray)) ++ a1)).bind fun t175 => (armadalaw08_MpathParts.j2 k2 a0 a1 t173 ((a0 ++ (⟨#[47]⟩ : ByteArray)) ++ a1) t175)) else (armadalaw08_MpathParts.j2 k2 a0 a1 t173 ((a0 ++ (⟨#[47]⟩ : ByteArray)) ++ a1) false)) else (none)) else (none)) = some r := H
       have A20 := Aside0.mk A200
       clear A200
       by_cases c21 : a0.size + 1 ≤ 9223372036854775807
       ·
        rw [if_pos c21] at H
        have c21b0 := eq_true c21
        have c21b1 : decide (a0.size + 1 ≤ 9223372036854775807) = true := decide_eq_true c21
        try have c21b2 : (9223372036854775807 < a0.size + 1) = False := eq_false (Nat.not_lt.2 c21)
        by_cases c22 : (a0 ++ (⟨#[47]⟩ : ByteArray)).size + a1.size ≤ 9223372036854775807
        ·
         rw [if_pos c22] at H
         have c22b0 := eq_true c22
         have c22b1 : decide ((a0 ++ (⟨#[47]⟩ : ByteArray)).size + a1.size ≤ 9223372036854775807) = true := decide_eq_true c22
         try have c22b2 : (9223372036854775807 < (a0 ++ (⟨#[47]⟩ : ByteArray)).size + a1.size) = False := eq_false (Nat.not_lt.2 c22)
         have HC23 := Aside0.mk H
         clear H
         go_upto_region 10 with (first | ((with_reducible refine gate_callee (f := 6) rfl ?_); refine goesL_ (some 46) rfl rfl Tryd.func6 (by kernel_rfl) rfl #[.string a0] rfl (by (try simp only [List.map_toArray, List.map_cons, List.map_nil]); first | done | rfl | (simp only [List.length_drop, List.length_take]; rfl)) ?_; (with_reducible refine (mpath_Major.calls k2 a0 t172 t173 t174 _ ?side1 A20.out).mono ?_); (case side1 => exact GW.below HGW.out (by repeat (first | (with_reducible first | exact HB.out | apply below_alloc | apply pw_below_drewN | apply below_drew1) | exact HB.out))); rintro e w24 ⟨rfl, hb⟩; refine ⟨_, rfl, ?_⟩; have n0_ := Aside0.mk (below_step (by repeat (first | (with_reducible first | exact HB.out | apply below_alloc | apply pw_below_drewN | apply below_drew1) | exact HB.out)) hb); clear HB; have HB := n0_; clear n0_; (try clear hb); (try clear hb2); (try clear hk); (try clear hi)))
         (try simp only [Act.put, List.setIfInBounds_toArray, List.set_cons_zero, List.set_cons_succ])
         go_cut [59] (fun v59 wc => ∃ (kq : Nat) (x59_22 : Bool), v59 = .bool x59_22 ∧ Aside0 (armadalaw08_MpathParts.j2 kq a0 a1 t173 ((a0 ++ (⟨#[47]⟩ : ByteArray)) ++ a1) x59_22 = some r) ∧ Aside0 (kq ≤ k2) ∧ Aside0 (Below w.heap.size w wc))
         case first =>
          have H := HC23.out
          clear HC23
          by_cases c25 : t173 > 0
          ·
           rw [if_pos c25] at H
           have c25b0 : decide (0 < t173) = true := decide_eq_true c25
           clear c25
           (first | rw [c25b0] | (simp only [i64_w, i32_w]; rw [c25b0]) | skip)
           replace H := Option.bind_eq_some_iff.mp H
           obtain ⟨t175, A260, H⟩ := H
           replace H : (armadalaw08_MpathParts.j2 k2 a0 a1 t173 ((a0 ++ (⟨#[47]⟩ : ByteArray)) ++ a1) t175) = some r := H
           have A26 := Aside0.mk A260
           clear A260
           have H' := Aside0.mk H
           clear H
           go_wp2_with (first | (go_at_call 10; (with_reducible refine (mpath_Check.calls k2 ((a0 ++ (⟨#[47]⟩ : ByteArray)) ++ a1) t175 _ ?side1 A26.out).mono ?_); (case side1 => exact GW.below HGW.out (by repeat (first | (with_reducible first | exact HB.out | apply below_alloc | apply pw_below_drewN | apply below_drew1) | exact HB.out))); rintro e w27 ⟨rfl, hb⟩; have n0_ := Aside0.mk (below_step (by repeat (first | (with_reducible first | exact HB.out | apply below_alloc | apply pw_below_drewN | apply below_drew1) | exact HB.out)) hb); clear HB; have HB := n0_; clear n0_; (try clear hb); (try clear hb2); (try clear hk); (try clear hi)))
           go_meet
           case rel => exact ⟨_, (t175), (by first | rfl | (simp; done) | (simp [*]; done) | (simp [isEmpty_bne]; done)), H', ⟨by have := HJ2.out; have := HK2.out; first | omega | exact Nat.le_refl _⟩, ⟨by repeat (first | (with_reducible first | exact HB.out | apply below_alloc | apply pw_below_drewN | apply below_drew1) | exact HB.out)⟩⟩
          ·
           rw [if_neg c25] at H
           have c25b0 : decide (0 < t173) = false := decide_eq_false c25
           clear c25
           (first | rw [c25b0] | (simp only [i64_w, i32_w]; rw [c25b0]) | skip)
           have H' := Aside0.mk H
           clear H
           go_wp2
           go_meet
           case rel => exact ⟨_, (false), (by first | rfl | (simp; done) | (simp [*]; done) | (simp [isEmpty_bne]; done)), H', ⟨by have := HJ2.out; have := HK2.out; first | omega | exact Nat.le_refl _⟩, ⟨by repeat (first | (with_reducible first | exact HB.out | apply below_alloc | apply pw_below_drewN | apply below_drew1) | exact HB.out)⟩⟩
         case rest =>
          clear HC23
          try clear c1
          try clear p1
          try clear q1
          try clear hx1
          try clear c2
          try clear p2
          try clear c4
          try clear c4b0
          try clear c4b1
          try clear c5
          try clear c5b0
          try clear c5b1
          try clear c6
          try clear p6
          try clear c8
          try clear c11
          try clear c11b0
          try clear c12
          try clear c12b0
          try clear p13
          try clear q13
          try clear hx13
          try clear c14
          try clear c14b0
          try clear c14b1
          try clear c15
          try clear c15b0
          try clear c16
          try clear c16b0
          try clear c16b1
          try clear c18
          try clear c21
          try clear c21b0
          try clear c21b1
          try clear c21b2
          try clear c22
          try clear c22b0
          try clear c22b1
          try clear c22b2
          try clear c25
          try clear c25b0
          try clear p13
          try clear p2
          try clear q13
          obtain ⟨kq, x59_22, rfl, HA, HJ22, HB⟩ := hcut
          cases kq with
          | zero => exact absurd HA.out (by simp [armadalaw08_MpathParts.j2])
          | succ kj22 =>
           have H := HA.out
           clear HA
           simp only [armadalaw08_MpathParts.j2] at H
           by_cases c28 : x59_22 = true
           ·
            subst c28
            have H1 : (some false) = some r := by rw [if_pos rfl] at H; exact H
            clear H
            have H := H1
            clear H1
            exact absurd ((Option.some.inj H).trans HTRU_.out) (by decide)
           ·
            replace c28 := Bool.eq_false_iff.mpr c28
            subst c28
            have H1 : ((mpath_Major.f kj22 a1).bind fun bt176 => (if t173 = 0 then (if bt176.2.2 = true then ((armadaref05_Path.f kj22 ((a0 ++ (⟨#[47]⟩ : ByteArray)) ++ a1)).bind fun t179 => (if t179 = true then ((mpath_Check.f kj22 ((a0 ++ (⟨#[47]⟩ : ByteArray)) ++ a1)).bind fun t180 => (armadalaw08_MpathParts.j3 kj22 a0 ((a0 ++ (⟨#[47]⟩ : ByteArray)) ++ a1) bt176.2.1 bt176.2.2 (!t180))) else (armadalaw08_MpathParts.j3 kj22 a0 ((a0 ++ (⟨#[47]⟩ : ByteArray)) ++ a1) bt176.2.1 bt176.2.2 false))) else (armadalaw08_MpathParts.j3 kj22 a0 ((a0 ++ (⟨#[47]⟩ : ByteArray)) ++ a1) bt176.2.1 bt176.2.2 false)) else (armadalaw08_MpathParts.j3 kj22 a0 ((a0 ++ (⟨#[47]⟩ : ByteArray)) ++ a1) bt176.2.1 bt176.2.2 false))) = some r := by rw [if_neg (show ¬ (false = true) by decide)] at H; exact H
            clear H
            have H := H1
            clear H1
            replace H := Option.bind_eq_some_iff.mp H
            obtain ⟨⟨t176, t177, t178⟩, A290, H⟩ := H
            replace H : (if t173 = 0 then (if t178 = true then ((armadaref05_Path.f kj22 ((a0 ++ (⟨#[47]⟩ : ByteArray)) ++ a1)).bind fun t179 => (if t179 = true then ((mpath_Check.f kj22 ((a0 ++ (⟨#[47]⟩ : ByteArray)) ++ a1)).bind fun t180 => (armadalaw08_MpathParts.j3 kj22 a0 ((a0 ++ (⟨#[47]⟩ : ByteArray)) ++ a1) t177 t178 (!t180))) else (armadalaw08_MpathParts.j3 kj22 a0 ((a0 ++ (⟨#[47]⟩ : ByteArray)) ++ a1) t177 t178 false))) else (armadalaw08_MpathParts.j3 kj22 a0 ((a0 ++ (⟨#[47]⟩ : ByteArray)) ++ a1) t177 t178 false)) else (armadalaw08_MpathParts.j3 kj22 a0 ((a0 ++ (⟨#[47]⟩ : ByteArray)) ++ a1) t177 t178 false)) = some r := H
            have A29 := Aside0.mk A290
            clear A290
            have HC30 := Aside0.mk H
            clear H
            go_upto_region 13 with (first | ((with_reducible refine gate_callee (f := 6) rfl ?_); refine goesL_ (some 62) rfl rfl Tryd.func6 (by kernel_rfl) rfl #[.string a1] rfl (by (try simp only [List.map_toArray, List.map_cons, List.map_nil]); first | done | rfl | (simp only [List.length_drop, List.length_take]; rfl)) ?_; (with_reducible refine (mpath_Major.calls kj22 a1 t176 t177 t178 _ ?side1 A29.out).mono ?_); (case side1 => exact GW.below HGW.out (by repeat (first | (with_reducible first | exact HB.out | apply below_alloc | apply pw_below_drewN | apply below_drew1) | exact HB.out))); rintro e w31 ⟨rfl, hb⟩; refine ⟨_, rfl, ?_⟩; have n0_ := Aside0.mk (below_step (by repeat (first | (with_reducible first | exact HB.out | apply below_alloc | apply pw_below_drewN | apply below_drew1) | exact HB.out)) hb); clear HB; have HB := n0_; clear n0_; (try clear hb); (try clear hb2); (try clear hk); (try clear hi)))
            (try simp only [Act.put, List.setIfInBounds_toArray, List.set_cons_zero, List.set_cons_succ])
            go_cut [79] (fun v79 wc => ∃ (kq : Nat) (x79_29 : Bool), v79 = .bool x79_29 ∧ Aside0 (armadalaw08_MpathParts.j3 kq a0 ((a0 ++ (⟨#[47]⟩ : ByteArray)) ++ a1) t177 t178 x79_29 = some r) ∧ Aside0 (kq ≤ kj22) ∧ Aside0 (Below w.heap.size w wc))
            case first =>
             have H := HC30.out
             clear HC30
             by_cases c32 : t173 = 0
             ·
              rw [if_pos c32] at H
              have c32b0 : (t173 == 0) = true := beq_iff_eq.mpr c32
              have c32b1 : (t173 != 0) = false := bne_eq_false_iff_eq.mpr c32
              clear c32
              (first | rw [c32b0] | (simp only [i64_w, i32_w]; rw [c32b0]) | skip)
              by_cases c33 : t178 = true
              ·
               subst c33
               have H1 : ((armadaref05_Path.f kj22 ((a0 ++ (⟨#[47]⟩ : ByteArray)) ++ a1)).bind fun t179 => (if t179 = true then ((mpath_Check.f kj22 ((a0 ++ (⟨#[47]⟩ : ByteArray)) ++ a1)).bind fun t180 => (armadalaw08_MpathParts.j3 kj22 a0 ((a0 ++ (⟨#[47]⟩ : ByteArray)) ++ a1) t177 true (!t180))) else (armadalaw08_MpathParts.j3 kj22 a0 ((a0 ++ (⟨#[47]⟩ : ByteArray)) ++ a1) t177 true false))) = some r := by rw [if_pos rfl] at H; exact H
               clear H
               have H := H1
               clear H1
               replace H := Option.bind_eq_some_iff.mp H
               obtain ⟨t179, A340, H⟩ := H
               replace H : (if t179 = true then ((mpath_Check.f kj22 ((a0 ++ (⟨#[47]⟩ : ByteArray)) ++ a1)).bind fun t180 => (armadalaw08_MpathParts.j3 kj22 a0 ((a0 ++ (⟨#[47]⟩ : ByteArray)) ++ a1) t177 true (!t180))) else (armadalaw08_MpathParts.j3 kj22 a0 ((a0 ++ (⟨#[47]⟩ : ByteArray)) ++ a1) t177 true false)) = some r := H
               have A34 := Aside0.mk A340
               clear A340
               by_cases c35 : t179 = true
               ·
                subst c35
                have H1 : ((mpath_Check.f kj22 ((a0 ++ (⟨#[47]⟩ : ByteArray)) ++ a1)).bind fun t180 => (armadalaw08_MpathParts.j3 kj22 a0 ((a0 ++ (⟨#[47]⟩ : ByteArray)) ++ a1) t177 true (!t180))) = some r := by rw [if_pos rfl] at H; exact H
                clear H
                have H := H1
                clear H1
                replace H := Option.bind_eq_some_iff.mp H
                obtain ⟨t180, A360, H⟩ := H
                replace H : (armadalaw08_MpathParts.j3 kj22 a0 ((a0 ++ (⟨#[47]⟩ : ByteArray)) ++ a1) t177 true (!t180)) = some r := H
                have A36 := Aside0.mk A360
                clear A360
                have H' := Aside0.mk H
                clear H
                go_wp2_with (first | (go_at_call 9; (with_reducible refine (armadaref05_Path.calls kj22 ((a0 ++ (⟨#[47]⟩ : ByteArray)) ++ a1) true _ A34.out).mono ?_); rintro e w37 ⟨rfl, hb⟩; have n0_ := Aside0.mk (below_step (by repeat (first | (with_reducible first | exact HB.out | apply below_alloc | apply pw_below_drewN | apply below_drew1) | exact HB.out)) hb); clear HB; have HB := n0_; clear n0_; (try clear hb); (try clear hb2); (try clear hk); (try clear hi)) | (go_at_call 10; (with_reducible refine (mpath_Check.calls kj22 ((a0 ++ (⟨#[47]⟩ : ByteArray)) ++ a1) t180 _ ?side1 A36.out).mono ?_); (case side1 => exact GW.below HGW.out (by repeat (first | (with_reducible first | exact HB.out | apply below_alloc | apply pw_below_drewN | apply below_drew1) | exact HB.out))); rintro e w38 ⟨rfl, hb⟩; have n0_ := Aside0.mk (below_step (by repeat (first | (with_reducible first | exact HB.out | apply below_alloc | apply pw_below_drewN | apply below_drew1) | exact HB.out)) hb); clear HB; have HB := n0_; clear n0_; (try clear hb); (try clear hb2); (try clear hk); (try clear hi)))
                go_meet
                case rel => exact ⟨_, (!t180), (by first | rfl | (simp; done) | (simp [*]; done) | (simp [isEmpty_bne]; done)), H', ⟨by have := HJ2.out; have := HK2.out; have := HJ22.out; first | omega | exact Nat.le_refl _⟩, ⟨by repeat (first | (with_reducible first | exact HB.out | apply below_alloc | apply pw_below_drewN | apply below_drew1) | exact HB.out)⟩⟩
               ·
                replace c35 := Bool.eq_false_iff.mpr c35
                subst c35
                have H1 : (armadalaw08_MpathParts.j3 kj22 a0 ((a0 ++ (⟨#[47]⟩ : ByteArray)) ++ a1) t177 true false) = some r := by rw [if_neg (show ¬ (false = true) by decide)] at H; exact H
                clear H
                have H := H1
                clear H1
                have H' := Aside0.mk H
                clear H
                go_wp2_with (first | (go_at_call 9; (with_reducible refine (armadaref05_Path.calls kj22 ((a0 ++ (⟨#[47]⟩ : ByteArray)) ++ a1) false _ A34.out).mono ?_); rintro e w39 ⟨rfl, hb⟩; have n0_ := Aside0.mk (below_step (by repeat (first | (with_reducible first | exact HB.out | apply below_alloc | apply pw_below_drewN | apply below_drew1) | exact HB.out)) hb); clear HB; have HB := n0_; clear n0_; (try clear hb); (try clear hb2); (try clear hk); (try clear hi)))
                go_meet
                case rel => exact ⟨_, (false), (by first | rfl | (simp; done) | (simp [*]; done) | (simp [isEmpty_bne]; done)), H', ⟨by have := HJ2.out; have := HK2.out; have := HJ22.out; first | omega | exact Nat.le_refl _⟩, ⟨by repeat (first | (with_reducible first | exact HB.out | apply below_alloc | apply pw_below_drewN | apply below_drew1) | exact HB.out)⟩⟩
              ·
               replace c33 := Bool.eq_false_iff.mpr c33
               subst c33
               have H1 : (armadalaw08_MpathParts.j3 kj22 a0 ((a0 ++ (⟨#[47]⟩ : ByteArray)) ++ a1) t177 false false) = some r := by rw [if_neg (show ¬ (false = true) by decide)] at H; exact H
               clear H
               have H := H1
               clear H1
               have H' := Aside0.mk H
               clear H
               go_wp2
               go_meet
               case rel => exact ⟨_, (false), (by first | rfl | (simp; done) | (simp [*]; done) | (simp [isEmpty_bne]; done)), H', ⟨by have := HJ2.out; have := HK2.out; have := HJ22.out; first | omega | exact Nat.le_refl _⟩, ⟨by repeat (first | (with_reducible first | exact HB.out | apply below_alloc | apply pw_below_drewN | apply below_drew1) | exact HB.out)⟩⟩
             ·
              rw [if_neg c32] at H
              have c32b0 : (t173 == 0) = false := beq_eq_false_iff_ne.mpr c32
              have c32b1 : (t173 != 0) = true := bne_iff_ne.mpr c32
              (first | rw [c32b0] | (simp only [i64_w, i32_w]; rw [c32b0]) | skip)
              have H' := Aside0.mk H
              clear H
              go_wp2
              go_meet
              case rel => exact ⟨_, (false), (by first | rfl | (simp; done) | (simp [*]; done) | (simp [isEmpty_bne]; done)), H', ⟨by have := HJ2.out; have := HK2.out; have := HJ22.out; first | omega | exact Nat.le_refl _⟩, ⟨by repeat (first | (with_reducible first | exact HB.out | apply below_alloc | apply pw_below_drewN | apply below_drew1) | exact HB.out)⟩⟩
            case rest =>
             clear HC30
             try clear c1
             try clear p1
             try clear q1
             try clear hx1
             try clear c2
             try clear p2
             try clear c3
             try clear c4
             try clear c4b0
             try clear c4b1
             try clear c5
             try clear c5b0
             try clear c5b1
             try clear c6
             try clear p6
             try clear c8
             try clear c11
             try clear c11b0
             try clear c12
             try clear c12b0
             try clear p13
             try clear q13
             try clear hx13
             try clear c14
             try clear c14b0
             try clear c14b1
             try clear c15
             try clear c15b0
             try clear c16
             try clear c16b0
             try clear c16b1
             try clear c18
             try clear c21
             try clear c21b0
             try clear c21b1
             try clear c21b2
             try clear c22
             try clear c22b0
             try clear c22b1
             try clear c22b2
             try clear c25
             try clear c25b0
             try clear c28
             try clear c32
             try clear c32b0
             try clear c32b1
             try clear c33
             try clear c35
             try clear p1
             try clear p13
             try clear p2
             try clear p6
             try clear q1
             try clear q13
             obtain ⟨kq, x79_29, rfl, HA, HJ29, HB⟩ := hcut
             cases kq with
             | zero => exact absurd HA.out (by simp [armadalaw08_MpathParts.j3])
             | succ kj29 =>
              have H := HA.out
              clear HA
              simp only [armadalaw08_MpathParts.j3] at H
              by_cases c40 : x79_29 = true
              ·
               subst c40
               have H1 : (some false) = some r := by rw [if_pos rfl] at H; exact H
               clear H
               have H := H1
               clear H1
               exact absurd ((Option.some.inj H).trans HTRU_.out) (by decide)
              ·
               replace c40 := Bool.eq_false_iff.mpr c40
               subst c40
               have H1 : ((mpath_Check.f kj29 ((a0 ++ (⟨#[47]⟩ : ByteArray)) ++ a1)).bind fun t181 => (if t181 = true then (if t178 = true then ((mpath_Within.f ((a0 ++ (⟨#[47]⟩ : ByteArray)) ++ a1) a0).bind fun t182 => (if t182 = true then (if t177 ≥ 0 then ((armadalaw08_live.f kj29).bind fun t183 => (some t183)) else (some false)) else (some false))) else (if t177 ≥ 0 then ((armadalaw08_live.f kj29).bind fun t184 => (some t184)) else (some false))) else (if t177 ≥ 0 then ((armadalaw08_live.f kj29).bind fun t185 => (some t185)) else (some false)))) = some r := by rw [if_neg (show ¬ (false = true) by decide)] at H; exact H
               clear H
               have H := H1
               clear H1
               replace H := Option.bind_eq_some_iff.mp H
               obtain ⟨t181, A410, H⟩ := H
               replace H : (if t181 = true then (if t178 = true then ((mpath_Within.f ((a0 ++ (⟨#[47]⟩ : ByteArray)) ++ a1) a0).bind fun t182 => (if t182 = true then (if t177 ≥ 0 then ((armadalaw08_live.f kj29).bind fun t183 => (some t183)) else (some false)) else (some false))) else (if t177 ≥ 0 then ((armadalaw08_live.f kj29).bind fun t184 => (some t184)) else (some false))) else (if t177 ≥ 0 then ((armadalaw08_live.f kj29).bind fun t185 => (some t185)) else (some false))) = some r := H
               have A41 := Aside0.mk A410
               clear A410
               by_cases c42 : t181 = true
               ·
                subst c42
                have H1 : (if t178 = true then ((mpath_Within.f ((a0 ++ (⟨#[47]⟩ : ByteArray)) ++ a1) a0).bind fun t182 => (if t182 = true then (if t177 ≥ 0 then ((armadalaw08_live.f kj29).bind fun t183 => (some t183)) else (some false)) else (some false))) else (if t177 ≥ 0 then ((armadalaw08_live.f kj29).bind fun t184 => (some t184)) else (some false))) = some r := by rw [if_pos rfl] at H; exact H
                clear H
                have H := H1
                clear H1
                by_cases c43 : t178 = true
                ·
                 subst c43
                 have H1 : ((mpath_Within.f ((a0 ++ (⟨#[47]⟩ : ByteArray)) ++ a1) a0).bind fun t182 => (if t182 = true then (if t177 ≥ 0 then ((armadalaw08_live.f kj29).bind fun t183 => (some t183)) else (some false)) else (some false))) = some r := by rw [if_pos rfl] at H; exact H
                 clear H
                 have H := H1
                 clear H1
                 replace H := Option.bind_eq_some_iff.mp H
                 obtain ⟨t182, A440, H⟩ := H
                 replace H : (if t182 = true then (if t177 ≥ 0 then ((armadalaw08_live.f kj29).bind fun t183 => (some t183)) else (some false)) else (some false)) = some r := H
                 have A44 := Aside0.mk A440
                 clear A440
                 by_cases c45 : t182 = true
                 ·
                  subst c45
                  have H1 : (if t177 ≥ 0 then ((armadalaw08_live.f kj29).bind fun t183 => (some t183)) else (some false)) = some r := by rw [if_pos rfl] at H; exact H
                  clear H
                  have H := H1
                  clear H1
                  by_cases c46 : t177 ≥ 0
                  ·
                   rw [if_pos c46] at H
                   have c46b0 : decide (0 ≤ t177) = true := decide_eq_true c46
                   clear c46
                   replace H := Option.bind_eq_some_iff.mp H
                   obtain ⟨t183, A470, H⟩ := H
                   replace H : (some t183) = some r := H
                   have A47 := Aside0.mk A470
                   clear A470
                   obtain rfl := Option.some.inj H
                   go_wp2_with (first | ((with_reducible refine gate_callee (f := 10) rfl ?_); refine goesL_ (some 81) rfl rfl Tryd.func10 (by kernel_rfl) rfl #[.string ((a0 ++ (⟨#[47]⟩ : ByteArray)) ++ a1)] rfl (by (try simp only [List.map_toArray, List.map_cons, List.map_nil]); first | done | rfl | (simp only [List.length_drop, List.length_take]; rfl)) ?_; (with_reducible refine (mpath_Check.calls kj29 ((a0 ++ (⟨#[47]⟩ : ByteArray)) ++ a1) true _ ?side1 A41.out).mono ?_); (case side1 => exact GW.below HGW.out (by repeat (first | (with_reducible first | exact HB.out | apply below_alloc | apply pw_below_drewN | apply below_drew1) | exact HB.out))); rintro e w48 ⟨rfl, hb⟩; refine ⟨_, rfl, ?_⟩; have n0_ := Aside0.mk (below_step (by repeat (first | (with_reducible first | exact HB.out | apply below_alloc | apply pw_below_drewN | apply below_drew1) | exact HB.out)) hb); clear HB; have HB := n0_; clear n0_; (try clear hb); (try clear hb2); (try clear hk); (try clear hi)) | (go_at_call 11; (with_reducible refine (mpath_Within.calls ((a0 ++ (⟨#[47]⟩ : ByteArray)) ++ a1) a0 true _ A44.out).mono ?_); rintro e w' ⟨rfl, ⟨nd, rfl⟩⟩) | (go_at_call 5; (with_reducible refine (armadalaw08_live.calls kj29  t183 _ ?side1 ?side2 A47.out).mono ?_); (case side1 => exact GW.below HGW.out (by repeat (first | (with_reducible first | exact HB.out | apply below_alloc | apply pw_below_drewN | apply below_drew1) | exact HB.out))); (case side2 => exact HTRU_.out); rintro e w49 ⟨rfl, hb⟩; have n0_ := Aside0.mk (below_step (by repeat (first | (with_reducible first | exact HB.out | apply below_alloc | apply pw_below_drewN | apply below_drew1) | exact HB.out)) hb); clear HB; have HB := n0_; clear n0_; (try clear hb); (try clear hb2); (try clear hk); (try clear hi)))
                   go_ret
                   exact ⟨by first | rfl | (simp [errW_none, errW_some] <;> rfl) | (simp [*, errW_none, errW_some] <;> rfl) | (simp [isEmpty_bne]; done), by repeat (first | (with_reducible first | exact HB.out | apply below_alloc | apply pw_below_drewN | apply below_drew1) | exact HB.out)⟩
                  ·
                   rw [if_neg c46] at H
                   have c46b0 : decide (0 ≤ t177) = false := decide_eq_false c46
                   clear c46
                   exact absurd ((Option.some.inj H).trans HTRU_.out) (by decide)
                 ·
                  replace c45 := Bool.eq_false_iff.mpr c45
                  subst c45
                  have H1 : (some false) = some r := by rw [if_neg (show ¬ (false = true) by decide)] at H; exact H
                  clear H
                  have H := H1
                  clear H1
                  exact absurd ((Option.some.inj H).trans HTRU_.out) (by decide)
                ·
                 replace c43 := Bool.eq_false_iff.mpr c43
                 subst c43
                 have H1 : (if t177 ≥ 0 then ((armadalaw08_live.f kj29).bind fun t184 => (some t184)) else (some false)) = some r := by rw [if_neg (show ¬ (false = true) by decide)] at H; exact H
                 clear H
                 have H := H1
                 clear H1
                 by_cases c50 : t177 ≥ 0
                 ·
                  rw [if_pos c50] at H
                  have c50b0 : decide (0 ≤ t177) = true := decide_eq_true c50
                  clear c50
                  replace H := Option.bind_eq_some_iff.mp H
                  obtain ⟨t184, A510, H⟩ := H
                  replace H : (some t184) = some r := H
                  have A51 := Aside0.mk A510
                  clear A510
                  obtain rfl := Option.some.inj H
                  go_wp2_with (first | ((with_reducible refine gate_callee (f := 10) rfl ?_); refine goesL_ (some 81) rfl rfl Tryd.func10 (by kernel_rfl) rfl #[.string ((a0 ++ (⟨#[47]⟩ : ByteArray)) ++ a1)] rfl (by (try simp only [List.map_toArray, List.map_cons, List.map_nil]); first | done | rfl | (simp only [List.length_drop, List.length_take]; rfl)) ?_; (with_reducible refine (mpath_Check.calls kj29 ((a0 ++ (⟨#[47]⟩ : ByteArray)) ++ a1) true _ ?side1 A41.out).mono ?_); (case side1 => exact GW.below HGW.out (by repeat (first | (with_reducible first | exact HB.out | apply below_alloc | apply pw_below_drewN | apply below_drew1) | exact HB.out))); rintro e w52 ⟨rfl, hb⟩; refine ⟨_, rfl, ?_⟩; have n0_ := Aside0.mk (below_step (by repeat (first | (with_reducible first | exact HB.out | apply below_alloc | apply pw_below_drewN | apply below_drew1) | exact HB.out)) hb); clear HB; have HB := n0_; clear n0_; (try clear hb); (try clear hb2); (try clear hk); (try clear hi)) | (go_at_call 5; (with_reducible refine (armadalaw08_live.calls kj29  t184 _ ?side1 ?side2 A51.out).mono ?_); (case side1 => exact GW.below HGW.out (by repeat (first | (with_reducible first | exact HB.out | apply below_alloc | apply pw_below_drewN | apply below_drew1) | exact HB.out))); (case side2 => exact HTRU_.out); rintro e w53 ⟨rfl, hb⟩; have n0_ := Aside0.mk (below_step (by repeat (first | (with_reducible first | exact HB.out | apply below_alloc | apply pw_below_drewN | apply below_drew1) | exact HB.out)) hb); clear HB; have HB := n0_; clear n0_; (try clear hb); (try clear hb2); (try clear hk); (try clear hi)))
                  go_ret
                  exact ⟨by first | rfl | (simp [errW_none, errW_some] <;> rfl) | (simp [*, errW_none, errW_some] <;> rfl) | (simp [isEmpty_bne]; done), by repeat (first | (with_reducible first | exact HB.out | apply below_alloc | apply pw_below_drewN | apply below_drew1) | exact HB.out)⟩
                 ·
                  rw [if_neg c50] at H
                  have c50b0 : decide (0 ≤ t177) = false := decide_eq_false c50
                  clear c50
                  exact absurd ((Option.some.inj H).trans HTRU_.out) (by decide)
               ·
                replace c42 := Bool.eq_false_iff.mpr c42
                subst c42
                have H1 : (if t177 ≥ 0 then ((armadalaw08_live.f kj29).bind fun t185 => (some t185)) else (some false)) = some r := by rw [if_neg (show ¬ (false = true) by decide)] at H; exact H
                clear H
                have H := H1
                clear H1
                by_cases c54 : t177 ≥ 0
                ·
                 rw [if_pos c54] at H
                 have c54b0 : decide (0 ≤ t177) = true := decide_eq_true c54
                 clear c54
                 replace H := Option.bind_eq_some_iff.mp H
                 obtain ⟨t185, A550, H⟩ := H
                 replace H : (some t185) = some r := H
                 have A55 := Aside0.mk A550
                 clear A550
                 obtain rfl := Option.some.inj H
                 go_wp2_with (first | ((with_reducible refine gate_callee (f := 10) rfl ?_); refine goesL_ (some 81) rfl rfl Tryd.func10 (by kernel_rfl) rfl #[.string ((a0 ++ (⟨#[47]⟩ : ByteArray)) ++ a1)] rfl (by (try simp only [List.map_toArray, List.map_cons, List.map_nil]); first | done | rfl | (simp only [List.length_drop, List.length_take]; rfl)) ?_; (with_reducible refine (mpath_Check.calls kj29 ((a0 ++ (⟨#[47]⟩ : ByteArray)) ++ a1) false _ ?side1 A41.out).mono ?_); (case side1 => exact GW.below HGW.out (by repeat (first | (with_reducible first | exact HB.out | apply below_alloc | apply pw_below_drewN | apply below_drew1) | exact HB.out))); rintro e w56 ⟨rfl, hb⟩; refine ⟨_, rfl, ?_⟩; have n0_ := Aside0.mk (below_step (by repeat (first | (with_reducible first | exact HB.out | apply below_alloc | apply pw_below_drewN | apply below_drew1) | exact HB.out)) hb); clear HB; have HB := n0_; clear n0_; (try clear hb); (try clear hb2); (try clear hk); (try clear hi)) | (go_at_call 5; (with_reducible refine (armadalaw08_live.calls kj29  t185 _ ?side1 ?side2 A55.out).mono ?_); (case side1 => exact GW.below HGW.out (by repeat (first | (with_reducible first | exact HB.out | apply below_alloc | apply pw_below_drewN | apply below_drew1) | exact HB.out))); (case side2 => exact HTRU_.out); rintro e w57 ⟨rfl, hb⟩; have n0_ := Aside0.mk (below_step (by repeat (first | (with_reducible first | exact HB.out | apply below_alloc | apply pw_below_drewN | apply below_drew1) | exact HB.out)) hb); clear HB; have HB := n0_; clear n0_; (try clear hb); (try clear hb2); (try clear hk); (try clear hi)))
                 go_ret
                 exact ⟨by first | rfl | (simp [errW_none, errW_some] <;> rfl) | (simp [*, errW_none, errW_some] <;> rfl) | (simp [isEmpty_bne]; done), by repeat (first | (with_reducible first | exact HB.out | apply below_alloc | apply pw_below_drewN | apply below_drew1) | exact HB.out)⟩
                ·
                 rw [if_neg c54] at H
                 have c54b0 : decide (0 ≤ t177) = false := decide_eq_false c54
                 clear c54
                 exact absurd ((Option.some.inj H).trans HTRU_.out) (by decide)
        ·
         rw [if_neg c22] at H
         exact absurd H (by simp)
       ·
        rw [if_neg c21] at H
        exact absurd H (by simp)

end Go.Proofs.YtpkhemnngjmcjaaDoor.R2
