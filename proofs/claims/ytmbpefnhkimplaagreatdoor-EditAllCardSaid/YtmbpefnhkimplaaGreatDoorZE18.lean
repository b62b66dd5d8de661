/- The texts R3x2 in one file, without what these claims do not use (put together by prune2.py). -/
import Derived.Test.YtmbpefnhkimplaaGreatDoorZE15
section
namespace Go.Proofs.YtmbpefnhkimplaaGreatDoor.R3
open Go.RowKit Go.Proofs.YtmbpefnhkimplaaGreatDoor Go.Proofs.YtmbpefnhkimplaaGreatDoor.K0 Go.Proofs.YtmbpefnhkimplaaGreatDoor.R1 Go.Proofs.YtmbpefnhkimplaaGreatDoorW.PrintWords Go.Proofs.YtmbpefnhkimplaaGreatDoorW.PrintLast Go.Proofs.YtmbpefnhkimplaaGreatDoorW.PrintMore
attribute [local go_sem] max2_int min2_int max_two min_two max_three min_three max_four min_four
set_option linter.unusedVariables false
set_option linter.unusedSimpArgs false
def ver_Text.f (k : Nat) (a0_0 : Int) (a0_1 : Int) (a0_2 : Int) (a0_3 : ByteArray) (a0_4 : ByteArray) : Option (ByteArray) := (ver_Check.f k a0_0 a0_1 a0_2 a0_3 a0_4).bind fun t118 => (if t118 = true then ((strconv_Itoa.f a0_0).bind fun t119 => (if 1 + t119.size ≤ 9223372036854775807 then (if ((⟨#[118]⟩ : ByteArray) ++ t119).size + 1 ≤ 9223372036854775807 then ((strconv_Itoa.f a0_1).bind fun t120 => (if (((⟨#[118]⟩ : ByteArray) ++ t119) ++ (⟨#[46]⟩ : ByteArray)).size + t120.size ≤ 9223372036854775807 then (if ((((⟨#[118]⟩ : ByteArray) ++ t119) ++ (⟨#[46]⟩ : ByteArray)) ++ t120).size + 1 ≤ 9223372036854775807 then ((strconv_Itoa.f a0_2).bind fun t121 => (if (((((⟨#[118]⟩ : ByteArray) ++ t119) ++ (⟨#[46]⟩ : ByteArray)) ++ t120) ++ (⟨#[46]⟩ : ByteArray)).size + t121.size ≤ 9223372036854775807 then (if a0_3.toList = ([] : List UInt8) then (if a0_4.toList = ([] : List UInt8) then (some ((((((⟨#[118]⟩ : ByteArray) ++ t119) ++ (⟨#[46]⟩ : ByteArray)) ++ t120) ++ (⟨#[46]⟩ : ByteArray)) ++ t121)) else (if 1 + a0_4.size ≤ 9223372036854775807 then (if ((((((⟨#[118]⟩ : ByteArray) ++ t119) ++ (⟨#[46]⟩ : ByteArray)) ++ t120) ++ (⟨#[46]⟩ : ByteArray)) ++ t121).size + ((⟨#[43]⟩ : ByteArray) ++ a0_4).size ≤ 9223372036854775807 then (some (((((((⟨#[118]⟩ : ByteArray) ++ t119) ++ (⟨#[46]⟩ : ByteArray)) ++ t120) ++ (⟨#[46]⟩ : ByteArray)) ++ t121) ++ ((⟨#[43]⟩ : ByteArray) ++ a0_4))) else (none)) else (none))) else (if 1 + a0_3.size ≤ 9223372036854775807 then (if ((((((⟨#[118]⟩ : ByteArray) ++ t119) ++ (⟨#[46]⟩ : ByteArray)) ++ t120) ++ (⟨#[46]⟩ : ByteArray)) ++ t121).size + ((⟨#[45]⟩ : ByteArray) ++ a0_3).size ≤ 9223372036854775807 then (if a0_4.toList = ([] : List UInt8) then (some (((((((⟨#[118]⟩ : ByteArray) ++ t119) ++ (⟨#[46]⟩ : ByteArray)) ++ t120) ++ (⟨#[46]⟩ : ByteArray)) ++ t121) ++ ((⟨#[45]⟩ : ByteArray) ++ a0_3))) else (if 1 + a0_4.size ≤ 9223372036854775807 then (if (((((((⟨#[118]⟩ : ByteArray) ++ t119) ++ (⟨#[46]⟩ : ByteArray)) ++ t120) ++ (⟨#[46]⟩ : ByteArray)) ++ t121) ++ ((⟨#[45]⟩ : ByteArray) ++ a0_3)).size + ((⟨#[43]⟩ : ByteArray) ++ a0_4).size ≤ 9223372036854775807 then (some ((((((((⟨#[118]⟩ : ByteArray) ++ t119) ++ (⟨#[46]⟩ : ByteArray)) ++ t120) ++ (⟨#[46]⟩ : ByteArray)) ++ t121) ++ ((⟨#[45]⟩ : ByteArray) ++ a0_3)) ++ ((⟨#[43]⟩ : ByteArray) ++ a0_4))) else (none)) else (none))) else (none)) else (none))) else (none))) else (none)) else (none))) else (none)) else (none))) else (some (⟨#[]⟩ : ByteArray)))
def ver_Text.T3 : Bool × List (List Nat × List Nat) := (true, [([], []), ([0], [0]), ([1], [1]), ([2], [2]), ([3], [3]), ([], []), ([5], [5]), ([6, 2], [6]), ([4, 7], [4, 7]), ([8], [8]), ([], []), ([10], [10]), ([11, 7], [11]), ([9, 12], [9, 12]), ([13, 12, 0, 1, 2, 3, 4, 5, 6, 7, 8, 9, 10, 11, 12, 13], [13])])
def ver_Text.B3 : List Nat := [0, 1, 3, 7, 15, 0, 32, 103, 255, 511, 0, 1024, 3303, 8191, 16383]
theorem ver_Text.tab3 : rtab .any (opsOf Tryz.f36 3) = ver_Text.T3 := by kernel_rfl
theorem ver_Text.bits3 : waitsOk ver_Text.T3.2 ver_Text.B3 = true := by kernel_rfl
set_option maxHeartbeats 8000000 in
set_option maxRecDepth 100000 in
theorem ver_Text.calls (k : Nat) (a0_0 : Int) (a0_1 : Int) (a0_2 : Int) (a0_3 : ByteArray) (a0_4 : ByteArray) (r : ByteArray) (w : World) (hG : GW w) (h : ver_Text.f k a0_0 a0_1 a0_2 a0_3 a0_4 = some r) :
  Calls Tryz.prog 36 #[.agg #[.int .i64 a0_0, .int .i64 a0_1, .int .i64 a0_2, .string a0_3, .string a0_4]] w fun e w' => e = .returned (.string r) ∧ Below w.heap.size w w' := by
 have hu23 := Tryz.underlying23; have HGW := Aside0.mk hG; clear hG; have HB := Aside0.mk (Below.refl w.heap.size w); have H : ((ver_Check.f k a0_0 a0_1 a0_2 a0_3 a0_4).bind fun t118 => (if t118 = true then ((strconv_Itoa.f a0_0).bind fun t119 => (if 1 + t119.size ≤ 9223372036854775807 then (if ((⟨#[118]⟩ : ByteArray) ++ t119).size + 1 ≤ 9223372036854775807 then ((strconv_Itoa.f a0_1).bind fun t120 => (if (((⟨#[118]⟩ : ByteArray) ++ t119) ++ (⟨#[46]⟩ : ByteArray)).size + t120.size ≤ 9223372036854775807 then (if ((((⟨#[118]⟩ : ByteArray) ++ t119) ++ (⟨#[46]⟩ : ByteArray)) ++ t120).size + 1 ≤ 9223372036854775807 then ((strconv_Itoa.f a0_2).bind fun t121 => (if (((((⟨#[118]⟩ : ByteArray) ++ t119) ++ (⟨#[46]⟩ : ByteArray)) ++ t120) ++ (⟨#[46]⟩ : ByteArray)).size + t121.size ≤ 9223372036854775807 then (if a0_3.toList = ([] : List UInt8) then (if a0_4.toList = ([] : List UInt8) then (some ((((((⟨#[118]⟩ : ByteArray) ++ t119) ++ (⟨#[46]⟩ : ByteArray)) ++ t120) ++ (⟨#[46]⟩ : ByteArray)) ++ t121)) else (if 1 + a0_4.size ≤ 9223372036854775807 then (if ((((((⟨#[118]⟩ : ByteArray) ++ t119) ++ (⟨#[46]⟩ : ByteArray)) ++ t120) ++ (⟨#[46]⟩ : ByteArray)) ++ t121).size + ((⟨#[43]⟩ : ByteArray) ++ a0_4).size ≤ 9223372036854775807 then (some (((((((⟨#[118]⟩ : ByteArray) ++ t119) ++ (⟨#[46]⟩ : ByteArray)) ++ t120) ++ (⟨#[46]⟩ : ByteArray)) ++ t121) ++ ((⟨#[43]⟩ : ByteArray) ++ a0_4))) else (none)) else (none))) else (if 1 + a0_3.size ≤ 9223372036854775807 then (if ((((((⟨#[118]⟩ : ByteArray) ++ t119) ++ (⟨#[46]⟩ : ByteArray)) ++ t120) ++ (⟨#[46]⟩ : ByteArray)) ++ t121).size + ((⟨#[45]⟩ : ByteArray) ++ a0_3).size ≤ 9223372036854775807 then (if a0_4.toList = ([] : List UInt8) then (some (((((((⟨#[118]⟩ : ByteArray) ++ t119) ++ (⟨#[46]⟩ : ByteArray)) ++ t120) ++ (⟨#[46]⟩ : ByteArray)) ++ t121) ++ ((⟨#[45]⟩ : ByteArray) ++ a0_3))) else (if 1 + a0_4.size ≤ 9223372036854775807 then (if (((((((⟨#[118]⟩ : ByteArray) ++ t119) ++ (⟨#[46]⟩ : ByteArray)) ++ t120) ++ (⟨#[46]⟩ : ByteArray)) ++ t121) ++ ((⟨#[45]⟩ : ByteArray) ++ a0_3)).size + ((⟨#[43]⟩ : ByteArray) ++ a0_4).size ≤ 9223372036854775807 then (some ((((((((⟨#[118]⟩ : ByteArray) ++ t119) ++ (⟨#[46]⟩ : ByteArray)) ++ t120) ++ (⟨#[46]⟩ : ByteArray)) ++ t121) ++ ((⟨#[45]⟩ : ByteArray) ++ a0_3)) ++ ((⟨#[43]⟩ : ByteArray) ++ a0_4))) else (none)) else (none))) else (none)) else (none))) else (none))) else (none)) else (none))) else (none)) else (none))) else (some (⟨#[]⟩ : ByteArray)))) = some r := h; clear h; replace H := xb H; obtain ⟨t118, A2, H⟩ := H
 by_cases c3 : t118 = true
 ·
  subst c3; rw [if_pos rfl] at H; replace H := xb H; obtain ⟨t119, A4, H⟩ := H; replace H := xI H; obtain ⟨c5, H⟩ := H; have c5b0 := eq_true c5; have c5b1 := decide_eq_true c5
  try have c5b2 : (9223372036854775807 < 1 + t119.size) = False := eq_false (Nat.not_lt.2 c5)
  replace H := xI H; obtain ⟨c6, H⟩ := H; have c6b0 := eq_true c6; have c6b1 := decide_eq_true c6
  try have c6b2 : (9223372036854775807 < ((⟨#[118]⟩ : ByteArray) ++ t119).size + 1) = False := eq_false (Nat.not_lt.2 c6)
  try have c6b3 : (9223372036854775807 < 1 + t119.size + 1) = False := eq_false (Nat.not_lt.2 (by have h_ := c6; simp only [ByteArray.size_append] at h_; exact h_))
  try have c6b4 : (1 + t119.size + 1 ≤ 9223372036854775807) = True := eq_true (by have h_ := c6; simp only [ByteArray.size_append] at h_; exact h_)
  replace H := xb H; obtain ⟨t120, A7, H⟩ := H; replace H := xI H; obtain ⟨c8, H⟩ := H; have c8b0 := eq_true c8; have c8b1 := decide_eq_true c8
  try have c8b2 : (9223372036854775807 < (((⟨#[118]⟩ : ByteArray) ++ t119) ++ (⟨#[46]⟩ : ByteArray)).size + t120.size) = False := eq_false (Nat.not_lt.2 c8)
  try have c8b3 : (9223372036854775807 < 1 + t119.size + 1 + t120.size) = False := eq_false (Nat.not_lt.2 (by have h_ := c8; simp only [ByteArray.size_append] at h_; exact h_))
  try have c8b4 : (1 + t119.size + 1 + t120.size ≤ 9223372036854775807) = True := eq_true (by have h_ := c8; simp only [ByteArray.size_append] at h_; exact h_)
  replace H := xI H; obtain ⟨c9, H⟩ := H; have c9b0 := eq_true c9; have c9b1 := decide_eq_true c9
  try have c9b2 : (9223372036854775807 < ((((⟨#[118]⟩ : ByteArray) ++ t119) ++ (⟨#[46]⟩ : ByteArray)) ++ t120).size + 1) = False := eq_false (Nat.not_lt.2 c9)
  try have c9b3 : (9223372036854775807 < 1 + t119.size + 1 + t120.size + 1) = False := eq_false (Nat.not_lt.2 (by have h_ := c9; simp only [ByteArray.size_append] at h_; exact h_))
  try have c9b4 : (1 + t119.size + 1 + t120.size + 1 ≤ 9223372036854775807) = True := eq_true (by have h_ := c9; simp only [ByteArray.size_append] at h_; exact h_)
  replace H := xb H; obtain ⟨t121, A10, H⟩ := H; replace H := xI H; obtain ⟨c11, H⟩ := H; have c11b0 := eq_true c11; have c11b1 := decide_eq_true c11
  try have c11b2 : (9223372036854775807 < (((((⟨#[118]⟩ : ByteArray) ++ t119) ++ (⟨#[46]⟩ : ByteArray)) ++ t120) ++ (⟨#[46]⟩ : ByteArray)).size + t121.size) = False := eq_false (Nat.not_lt.2 c11)
  try have c11b3 : (9223372036854775807 < 1 + t119.size + 1 + t120.size + 1 + t121.size) = False := eq_false (Nat.not_lt.2 (by have h_ := c11; simp only [ByteArray.size_append] at h_; exact h_))
  try have c11b4 : (1 + t119.size + 1 + t120.size + 1 + t121.size ≤ 9223372036854775807) = True := eq_true (by have h_ := c11; simp only [ByteArray.size_append] at h_; exact h_)
  replace H := xJ H; rcases H with ⟨c12, H⟩ | ⟨c12, H⟩
  ·
   have c12b0 := beq_iff_eq.mpr c12; have c12b1 := bne_eq_false_iff_eq.mpr c12; clear c12; replace H := xJ H; rcases H with ⟨c13, H⟩ | ⟨c13, H⟩
   ·
    have c13b0 := beq_iff_eq.mpr c13; have c13b1 := bne_eq_false_iff_eq.mpr c13; clear c13; obtain rfl := Option.some.inj H; go_enter Tryz.func36, Tryz.ntmps36
    try go_wp2_with (first | ((with_reducible refine gate_dst (N := 1) rfl ?_); refine box_event ?hg (N := 1) ?hd (cs := #[.int .i64 a0_0, .int .i64 a0_1, .int .i64 a0_2, .string a0_3, .string a0_4]) (t := 23) ?hr ?_; (case hd => rfl); (case hg => rfl); (case hr => first | (go_simp; done) | (go_simp; rfl)); intro gb117 hg w14 hbox hb; have BK117 := Aside0.mk (hbox); have GW117 := Aside0.mk ((by rw [hg]; exact (below_size xB) : w.heap.size ≤ gb117)); have GE117 := Aside0.mk ((by rw [hg]; exact (below_size xB) : w.heap.size ≤ gb117)); replace HB := Aside0.mk (below_step xB hb); clear hb hbox hg; obtain ⟨hcz15_0, hcz15_1, hcz15_2, hcz15_3, hcz15_4⟩ := xC5 BK117.out; obtain ⟨hfz15_0, hfz15_1, hfz15_2, hfz15_3, hfz15_4⟩ := xF5 BK117.out) | ((with_reducible refine gate_callee (f := 58) rfl ?_); refine goesL_ (some 5) rfl rfl Tryz.func58 (by kernel_rfl) rfl #[.agg #[.int .i64 a0_0, .int .i64 a0_1, .int .i64 a0_2, .string a0_3, .string a0_4]] rfl xS ?_; (with_reducible refine (ver_Check.calls k a0_0 a0_1 a0_2 a0_3 a0_4 true _ A2.out).mono ?_); rintro e w16 ⟨rfl, hb⟩; refine ⟨_, rfl, ?_⟩; replace BK117 := Aside0.mk (blk_below (g := gb117) (o := .cells #[.int .i64 a0_0, .int .i64 a0_1, .int .i64 a0_2, .string a0_3, .string a0_4] 23 (0, 0)) xK hb); replace HB := Aside0.mk (below_step xB hb); (try clear hb)))
    have n0_ := Aside0.mk (blk_drew BK117.out); have n1_ := Aside0.mk (below_drew1 HB.out); clear BK117; clear HB; have BK117 := n0_; have HB := n1_; clear n0_ n1_; refine start_ (n := 15) (S := fun w' => w'.cell? ⟨gb117, 0, none⟩ = some (.int .i64 a0_0) ∧ w'.cell? ⟨gb117, 1, none⟩ = some (.int .i64 a0_1) ∧ w'.cell? ⟨gb117, 2, none⟩ = some (.int .i64 a0_2) ∧ w'.cell? ⟨gb117, 3, none⟩ = some (.string a0_3) ∧ w'.cell? ⟨gb117, 4, none⟩ = some (.string a0_4)) (ds := []) #[ff, ff, ff, ff, ff, ff, ff, ff, ff, ff, ff, ff, ff, ff, ff] (by kernel_rfl) rfl rfl ⟨(blk_cell BK117.out 0).trans rfl, (blk_cell BK117.out 1).trans rfl, (blk_cell BK117.out 2).trans rfl, (blk_cell BK117.out 3).trans rfl, (blk_cell BK117.out 4).trans rfl⟩ (fun hHeld => ?_); refine with_tabW ver_Text.tab3 ver_Text.bits3 (fun HT_ HW_ => ?_)
    generalize w16.drew = w17 at BK117 HB hHeld ⊢
    refine pure_ (i := 0) (N := some 7) (v := ?_) (a' := ?_) #[tt, ff, ff, ff, ff, ff, ff, ff, ff, ff, ff, ff, ff, ff, ff] rfl rfl (any_of HT_.out (by kernel_rfl)) (fun _ _ _ h => h) (Or.inl ⟨by rfl, ?_⟩) ?_ ?_
    rotate_left
    ·
     intro w'; go_simp
     with_reducible rfl
    rotate_left
    ·
     simp only [Act.put, z1, z2, z3, i64_w, i32_w]
     rfl
    refine pure_ (i := 5) (N := some 12) (v := ?_) (a' := ?_) #[tt, ff, ff, ff, ff, tt, ff, ff, ff, ff, ff, ff, ff, ff, ff] rfl rfl (any_of HT_.out (by kernel_rfl)) (fun _ _ _ h => h) (Or.inl ⟨by rfl, ?_⟩) ?_ ?_
    rotate_left
    ·
     intro w'; go_simp
     with_reducible rfl
    rotate_left
    ·
     simp only [Act.put, z1, z2, z3, i64_w, i32_w]
     rfl
    refine pure_ (i := 10) (N := some 17) (v := ?_) (a' := ?_) #[tt, ff, ff, ff, ff, tt, ff, ff, ff, ff, tt, ff, ff, ff, ff] rfl rfl (any_of HT_.out (by kernel_rfl)) (fun _ _ _ h => h) (Or.inl ⟨by rfl, ?_⟩) ?_ ?_
    rotate_left
    ·
     intro w'; go_simp
     with_reducible rfl
    rotate_left
    ·
     simp only [Act.put, z1, z2, z3, i64_w, i32_w]
     rfl
    refine take_ (i := 1) (N := some 8) (v := ?_) (a' := ?_) #[tt, tt, ff, ff, ff, tt, ff, ff, ff, ff, tt, ff, ff, ff, ff] rfl rfl (take_ofW HT_.out HW_.out (by kernel_rfl)) (fun _ _ _ h => h) (Or.inl ⟨by rfl, ?_⟩) hHeld ?_ ?_
    rotate_left
    ·
     rintro w' ⟨s0, s1, s2, s3, s4⟩
     go_simp
     with_reducible rfl
    rotate_left
    ·
     simp only [Act.put, z1, z2, z3, i64_w, i32_w]
     rfl
    refine take_ (i := 6) (N := some 13) (v := ?_) (a' := ?_) #[tt, tt, ff, ff, ff, tt, tt, ff, ff, ff, tt, ff, ff, ff, ff] rfl rfl (take_ofW HT_.out HW_.out (by kernel_rfl)) (fun _ _ _ h => h) (Or.inl ⟨by rfl, ?_⟩) hHeld ?_ ?_
    rotate_left
    ·
     rintro w' ⟨s0, s1, s2, s3, s4⟩
     go_simp
     with_reducible rfl
    rotate_left
    ·
     simp only [Act.put, z1, z2, z3, i64_w, i32_w]
     rfl
    refine take_ (i := 11) (N := some 18) (v := ?_) (a' := ?_) #[tt, tt, ff, ff, ff, tt, tt, ff, ff, ff, tt, tt, ff, ff, ff] rfl rfl (take_ofW HT_.out HW_.out (by kernel_rfl)) (fun _ _ _ h => h) (Or.inl ⟨by rfl, ?_⟩) hHeld ?_ ?_
    rotate_left
    ·
     rintro w' ⟨s0, s1, s2, s3, s4⟩
     go_simp
     with_reducible rfl
    rotate_left
    ·
     simp only [Act.put, z1, z2, z3, i64_w, i32_w]
     rfl
    refine one_ (i := 2) (N := some 9) #[tt, tt, tt, ff, ff, tt, tt, ff, ff, ff, tt, tt, ff, ff, ff] rfl rfl (one_of HT_.out (by kernel_rfl)) (by decide) (fun K hK => ?_); refine goes_ Tryz.func59 (by kernel_rfl) rfl #[.int .i64 a0_0] (by rfl) rfl rfl xS ?_
    with_reducible refine (strconv_Itoa.calls a0_0 t119 _ ?side1 A4.out).mono ?_
    (case side1 => exact GW.below HGW.out xB)
    rintro e w18 ⟨rfl, hb⟩
    refine ⟨_, rfl, ?_⟩; have n0_ := Aside0.mk (blk_below (g := gb117) (o := .cells #[.int .i64 a0_0, .int .i64 a0_1, .int .i64 a0_2, .string a0_3, .string a0_4] 23 (0, 0)) xK hb); have n1_ := Aside0.mk (below_step xB hb); clear BK117; clear HB; have BK117 := n0_; have HB := n1_; clear n0_ n1_
    (try clear hb)
    (try clear hb2)
    (try clear hk)
    (try clear hi)
    refine hK.out _ _ ⟨(blk_cell BK117.out 0).trans rfl, (blk_cell BK117.out 1).trans rfl, (blk_cell BK117.out 2).trans rfl, (blk_cell BK117.out 3).trans rfl, (blk_cell BK117.out 4).trans rfl⟩ (fun hHeld => ?_); clear hK K; refine norm_ (a' := ?_) ?_ ?_
    rotate_left
    ·
     show Act.put _ (some 9) _ = _
     simp only [Act.put, z1, z2, z3, i64_w, i32_w]
     rfl
    refine pure_ (i := 3) (N := some 10) (v := ?_) (a' := ?_) #[tt, tt, tt, tt, ff, tt, tt, ff, ff, ff, tt, tt, ff, ff, ff] rfl rfl (any_of HT_.out (by kernel_rfl)) (fun _ _ _ h => h) (Or.inl ⟨by rfl, ?_⟩) ?_ ?_
    rotate_left
    ·
     intro w'; go_simp
     with_reducible rfl
    rotate_left
    ·
     simp only [Act.put, z1, z2, z3, i64_w, i32_w]
     rfl
    refine pure_ (i := 4) (N := some 11) (v := ?_) (a' := ?_) #[tt, tt, tt, tt, tt, tt, tt, ff, ff, ff, tt, tt, ff, ff, ff] rfl rfl (any_of HT_.out (by kernel_rfl)) (fun _ _ _ h => h) (Or.inl ⟨by rfl, ?_⟩) ?_ ?_
    rotate_left
    ·
     intro w'; go_simp
     with_reducible rfl
    rotate_left
    ·
     simp only [Act.put, z1, z2, z3, i64_w, i32_w]
     rfl
    refine one_ (i := 7) (N := some 14) #[tt, tt, tt, tt, tt, tt, tt, tt, ff, ff, tt, tt, ff, ff, ff] rfl rfl (one_of HT_.out (by kernel_rfl)) (by decide) (fun K hK => ?_); refine goes_ Tryz.func59 (by kernel_rfl) rfl #[.int .i64 a0_1] (by rfl) rfl rfl xS ?_
    with_reducible refine (strconv_Itoa.calls a0_1 t120 _ ?side1 A7.out).mono ?_
    (case side1 => exact GW.below HGW.out xB)
    rintro e w19 ⟨rfl, hb⟩
    refine ⟨_, rfl, ?_⟩; have n0_ := Aside0.mk (blk_below (g := gb117) (o := .cells #[.int .i64 a0_0, .int .i64 a0_1, .int .i64 a0_2, .string a0_3, .string a0_4] 23 (0, 0)) xK hb); have n1_ := Aside0.mk (below_step xB hb); clear BK117; clear HB; have BK117 := n0_; have HB := n1_; clear n0_ n1_
    (try clear hb)
    (try clear hb2)
    (try clear hk)
    (try clear hi)
    refine hK.out _ _ ⟨(blk_cell BK117.out 0).trans rfl, (blk_cell BK117.out 1).trans rfl, (blk_cell BK117.out 2).trans rfl, (blk_cell BK117.out 3).trans rfl, (blk_cell BK117.out 4).trans rfl⟩ (fun hHeld => ?_); clear hK K; refine norm_ (a' := ?_) ?_ ?_
    rotate_left
    ·
     show Act.put _ (some 14) _ = _
     simp only [Act.put, z1, z2, z3, i64_w, i32_w]
     rfl
    refine pure_ (i := 8) (N := some 15) (v := ?_) (a' := ?_) #[tt, tt, tt, tt, tt, tt, tt, tt, tt, ff, tt, tt, ff, ff, ff] rfl rfl (any_of HT_.out (by kernel_rfl)) (fun _ _ _ h => h) (Or.inl ⟨by rfl, ?_⟩) ?_ ?_
    rotate_left
    ·
     intro w'; go_simp
     with_reducible rfl
    rotate_left
    ·
     simp only [Act.put, z1, z2, z3, i64_w, i32_w]
     rfl
    refine pure_ (i := 9) (N := some 16) (v := ?_) (a' := ?_) #[tt, tt, tt, tt, tt, tt, tt, tt, tt, tt, tt, tt, ff, ff, ff] rfl rfl (any_of HT_.out (by kernel_rfl)) (fun _ _ _ h => h) (Or.inl ⟨by rfl, ?_⟩) ?_ ?_
    rotate_left
    ·
     intro w'; go_simp
     with_reducible rfl
    rotate_left
    ·
     simp only [Act.put, z1, z2, z3, i64_w, i32_w]
     rfl
    refine one_ (i := 12) (N := some 19) #[tt, tt, tt, tt, tt, tt, tt, tt, tt, tt, tt, tt, tt, ff, ff] rfl rfl (one_of HT_.out (by kernel_rfl)) (by decide) (fun K hK => ?_); refine goes_ Tryz.func59 (by kernel_rfl) rfl #[.int .i64 a0_2] (by rfl) rfl rfl xS ?_
    with_reducible refine (strconv_Itoa.calls a0_2 t121 _ ?side1 A10.out).mono ?_
    (case side1 => exact GW.below HGW.out xB)
    rintro e w20 ⟨rfl, hb⟩
    refine ⟨_, rfl, ?_⟩; have n0_ := Aside0.mk (blk_below (g := gb117) (o := .cells #[.int .i64 a0_0, .int .i64 a0_1, .int .i64 a0_2, .string a0_3, .string a0_4] 23 (0, 0)) xK hb); have n1_ := Aside0.mk (below_step xB hb); clear BK117; clear HB; have BK117 := n0_; have HB := n1_; clear n0_ n1_
    (try clear hb)
    (try clear hb2)
    (try clear hk)
    (try clear hi)
    refine hK.out _ _ ⟨(blk_cell BK117.out 0).trans rfl, (blk_cell BK117.out 1).trans rfl, (blk_cell BK117.out 2).trans rfl, (blk_cell BK117.out 3).trans rfl, (blk_cell BK117.out 4).trans rfl⟩ (fun hHeld => ?_); clear hK K; refine norm_ (a' := ?_) ?_ ?_
    rotate_left
    ·
     show Act.put _ (some 19) _ = _
     simp only [Act.put, z1, z2, z3, i64_w, i32_w]
     rfl
    refine pure_ (i := 13) (N := some 20) (v := ?_) (a' := ?_) #[tt, tt, tt, tt, tt, tt, tt, tt, tt, tt, tt, tt, tt, tt, ff] rfl rfl (any_of HT_.out (by kernel_rfl)) (fun _ _ _ h => h) (Or.inl ⟨by rfl, ?_⟩) ?_ ?_
    rotate_left
    ·
     intro w'; go_simp
     with_reducible rfl
    rotate_left
    ·
     simp only [Act.put, z1, z2, z3, i64_w, i32_w]
     rfl
    refine pure_ (i := 14) (N := some 3) (v := ?_) (a' := ?_) #[tt, tt, tt, tt, tt, tt, tt, tt, tt, tt, tt, tt, tt, tt, tt] rfl rfl (any_of HT_.out (by kernel_rfl)) (fun _ _ _ h => h) (Or.inl ⟨by rfl, ?_⟩) ?_ ?_
    rotate_left
    ·
     intro w'; go_simp
     with_reducible rfl
    rotate_left
    ·
     simp only [Act.put, z1, z2, z3, i64_w, i32_w]
     rfl
    refine done_ (done_of HT_.out (by kernel_rfl)) ?_; obtain ⟨hcz21_0, hcz21_1, hcz21_2, hcz21_3, hcz21_4⟩ := xC5 BK117.out; obtain ⟨hfz21_0, hfz21_1, hfz21_2, hfz21_3, hfz21_4⟩ := xF5 BK117.out
    try go_wp2
    go_ret; exact ⟨xW, xB⟩
   have c13b0 := beq_eq_false_iff_ne.mpr c13; have c13b1 := bne_iff_ne.mpr c13; replace H := xI H; obtain ⟨c22, H⟩ := H; have c22b0 := eq_true c22; have c22b1 := decide_eq_true c22
   try have c22b2 : (9223372036854775807 < 1 + a0_4.size) = False := eq_false (Nat.not_lt.2 c22)
   replace H := xI H; obtain ⟨c23, H⟩ := H; have c23b0 := eq_true c23; have c23b1 := decide_eq_true c23
   try have c23b2 : (9223372036854775807 < ((((((⟨#[118]⟩ : ByteArray) ++ t119) ++ (⟨#[46]⟩ : ByteArray)) ++ t120) ++ (⟨#[46]⟩ : ByteArray)) ++ t121).size + ((⟨#[43]⟩ : ByteArray) ++ a0_4).size) = False := eq_false (Nat.not_lt.2 c23)
   try have c23b3 : (9223372036854775807 < 1 + t119.size + 1 + t120.size + 1 + t121.size + 1 + a0_4.size) = False := eq_false (Nat.not_lt.2 (by have h_ := c23; simp only [ByteArray.size_append] at h_; exact h_))
   try have c23b4 : (1 + t119.size + 1 + t120.size + 1 + t121.size + 1 + a0_4.size ≤ 9223372036854775807) = True := eq_true (by have h_ := c23; simp only [ByteArray.size_append] at h_; exact h_)
   obtain rfl := Option.some.inj H; go_enter Tryz.func36, Tryz.ntmps36
   try go_wp2_with (first | ((with_reducible refine gate_dst (N := 1) rfl ?_); refine box_event ?hg (N := 1) ?hd (cs := #[.int .i64 a0_0, .int .i64 a0_1, .int .i64 a0_2, .string a0_3, .string a0_4]) (t := 23) ?hr ?_; (case hd => rfl); (case hg => rfl); (case hr => first | (go_simp; done) | (go_simp; rfl)); intro gb117 hg w24 hbox hb; have BK117 := Aside0.mk (hbox); have GW117 := Aside0.mk ((by rw [hg]; exact (below_size xB) : w.heap.size ≤ gb117)); have GE117 := Aside0.mk ((by rw [hg]; exact (below_size xB) : w.heap.size ≤ gb117)); replace HB := Aside0.mk (below_step xB hb); clear hb hbox hg; obtain ⟨hcz25_0, hcz25_1, hcz25_2, hcz25_3, hcz25_4⟩ := xC5 BK117.out; obtain ⟨hfz25_0, hfz25_1, hfz25_2, hfz25_3, hfz25_4⟩ := xF5 BK117.out) | ((with_reducible refine gate_callee (f := 58) rfl ?_); refine goesL_ (some 5) rfl rfl Tryz.func58 (by kernel_rfl) rfl #[.agg #[.int .i64 a0_0, .int .i64 a0_1, .int .i64 a0_2, .string a0_3, .string a0_4]] rfl xS ?_; (with_reducible refine (ver_Check.calls k a0_0 a0_1 a0_2 a0_3 a0_4 true _ A2.out).mono ?_); rintro e w26 ⟨rfl, hb⟩; refine ⟨_, rfl, ?_⟩; replace BK117 := Aside0.mk (blk_below (g := gb117) (o := .cells #[.int .i64 a0_0, .int .i64 a0_1, .int .i64 a0_2, .string a0_3, .string a0_4] 23 (0, 0)) xK hb); replace HB := Aside0.mk (below_step xB hb); (try clear hb)))
   have n0_ := Aside0.mk (blk_drew BK117.out); have n1_ := Aside0.mk (below_drew1 HB.out); clear BK117; clear HB; have BK117 := n0_; have HB := n1_; clear n0_ n1_; refine start_ (n := 15) (S := fun w' => w'.cell? ⟨gb117, 0, none⟩ = some (.int .i64 a0_0) ∧ w'.cell? ⟨gb117, 1, none⟩ = some (.int .i64 a0_1) ∧ w'.cell? ⟨gb117, 2, none⟩ = some (.int .i64 a0_2) ∧ w'.cell? ⟨gb117, 3, none⟩ = some (.string a0_3) ∧ w'.cell? ⟨gb117, 4, none⟩ = some (.string a0_4)) (ds := []) #[ff, ff, ff, ff, ff, ff, ff, ff, ff, ff, ff, ff, ff, ff, ff] (by kernel_rfl) rfl rfl ⟨(blk_cell BK117.out 0).trans rfl, (blk_cell BK117.out 1).trans rfl, (blk_cell BK117.out 2).trans rfl, (blk_cell BK117.out 3).trans rfl, (blk_cell BK117.out 4).trans rfl⟩ (fun hHeld => ?_); refine with_tabW ver_Text.tab3 ver_Text.bits3 (fun HT_ HW_ => ?_)
   generalize w26.drew = w27 at BK117 HB hHeld ⊢
   refine pure_ (i := 0) (N := some 7) (v := ?_) (a' := ?_) #[tt, ff, ff, ff, ff, ff, ff, ff, ff, ff, ff, ff, ff, ff, ff] rfl rfl (any_of HT_.out (by kernel_rfl)) (fun _ _ _ h => h) (Or.inl ⟨by rfl, ?_⟩) ?_ ?_
   rotate_left
   ·
    intro w'; go_simp
    with_reducible rfl
   rotate_left
   ·
    simp only [Act.put, z1, z2, z3, i64_w, i32_w]
    rfl
   refine pure_ (i := 5) (N := some 12) (v := ?_) (a' := ?_) #[tt, ff, ff, ff, ff, tt, ff, ff, ff, ff, ff, ff, ff, ff, ff] rfl rfl (any_of HT_.out (by kernel_rfl)) (fun _ _ _ h => h) (Or.inl ⟨by rfl, ?_⟩) ?_ ?_
   rotate_left
   ·
    intro w'; go_simp
    with_reducible rfl
   rotate_left
   ·
    simp only [Act.put, z1, z2, z3, i64_w, i32_w]
    rfl
   refine pure_ (i := 10) (N := some 17) (v := ?_) (a' := ?_) #[tt, ff, ff, ff, ff, tt, ff, ff, ff, ff, tt, ff, ff, ff, ff] rfl rfl (any_of HT_.out (by kernel_rfl)) (fun _ _ _ h => h) (Or.inl ⟨by rfl, ?_⟩) ?_ ?_
   rotate_left
   ·
    intro w'; go_simp
    with_reducible rfl
   rotate_left
   ·
    simp only [Act.put, z1, z2, z3, i64_w, i32_w]
    rfl
   refine take_ (i := 1) (N := some 8) (v := ?_) (a' := ?_) #[tt, tt, ff, ff, ff, tt, ff, ff, ff, ff, tt, ff, ff, ff, ff] rfl rfl (take_ofW HT_.out HW_.out (by kernel_rfl)) (fun _ _ _ h => h) (Or.inl ⟨by rfl, ?_⟩) hHeld ?_ ?_
   rotate_left
   ·
    rintro w' ⟨s0, s1, s2, s3, s4⟩
    go_simp
    with_reducible rfl
   rotate_left
   ·
    simp only [Act.put, z1, z2, z3, i64_w, i32_w]
    rfl
   refine take_ (i := 6) (N := some 13) (v := ?_) (a' := ?_) #[tt, tt, ff, ff, ff, tt, tt, ff, ff, ff, tt, ff, ff, ff, ff] rfl rfl (take_ofW HT_.out HW_.out (by kernel_rfl)) (fun _ _ _ h => h) (Or.inl ⟨by rfl, ?_⟩) hHeld ?_ ?_
   rotate_left
   ·
    rintro w' ⟨s0, s1, s2, s3, s4⟩
    go_simp
    with_reducible rfl
   rotate_left
   ·
    simp only [Act.put, z1, z2, z3, i64_w, i32_w]
    rfl
   refine take_ (i := 11) (N := some 18) (v := ?_) (a' := ?_) #[tt, tt, ff, ff, ff, tt, tt, ff, ff, ff, tt, tt, ff, ff, ff] rfl rfl (take_ofW HT_.out HW_.out (by kernel_rfl)) (fun _ _ _ h => h) (Or.inl ⟨by rfl, ?_⟩) hHeld ?_ ?_
   rotate_left
   ·
    rintro w' ⟨s0, s1, s2, s3, s4⟩
    go_simp
    with_reducible rfl
   rotate_left
   ·
    simp only [Act.put, z1, z2, z3, i64_w, i32_w]
    rfl
   refine one_ (i := 2) (N := some 9) #[tt, tt, tt, ff, ff, tt, tt, ff, ff, ff, tt, tt, ff, ff, ff] rfl rfl (one_of HT_.out (by kernel_rfl)) (by decide) (fun K hK => ?_); refine goes_ Tryz.func59 (by kernel_rfl) rfl #[.int .i64 a0_0] (by rfl) rfl rfl xS ?_
   with_reducible refine (strconv_Itoa.calls a0_0 t119 _ ?side1 A4.out).mono ?_
   (case side1 => exact GW.below HGW.out xB)
   rintro e w28 ⟨rfl, hb⟩
   refine ⟨_, rfl, ?_⟩; have n0_ := Aside0.mk (blk_below (g := gb117) (o := .cells #[.int .i64 a0_0, .int .i64 a0_1, .int .i64 a0_2, .string a0_3, .string a0_4] 23 (0, 0)) xK hb); have n1_ := Aside0.mk (below_step xB hb); clear BK117; clear HB; have BK117 := n0_; have HB := n1_; clear n0_ n1_
   (try clear hb)
   (try clear hb2)
   (try clear hk)
   (try clear hi)
   refine hK.out _ _ ⟨(blk_cell BK117.out 0).trans rfl, (blk_cell BK117.out 1).trans rfl, (blk_cell BK117.out 2).trans rfl, (blk_cell BK117.out 3).trans rfl, (blk_cell BK117.out 4).trans rfl⟩ (fun hHeld => ?_); clear hK K; refine norm_ (a' := ?_) ?_ ?_
   rotate_left
   ·
    show Act.put _ (some 9) _ = _
    simp only [Act.put, z1, z2, z3, i64_w, i32_w]
    rfl
   refine pure_ (i := 3) (N := some 10) (v := ?_) (a' := ?_) #[tt, tt, tt, tt, ff, tt, tt, ff, ff, ff, tt, tt, ff, ff, ff] rfl rfl (any_of HT_.out (by kernel_rfl)) (fun _ _ _ h => h) (Or.inl ⟨by rfl, ?_⟩) ?_ ?_
   rotate_left
   ·
    intro w'; go_simp
    with_reducible rfl
   rotate_left
   ·
    simp only [Act.put, z1, z2, z3, i64_w, i32_w]
    rfl
   refine pure_ (i := 4) (N := some 11) (v := ?_) (a' := ?_) #[tt, tt, tt, tt, tt, tt, tt, ff, ff, ff, tt, tt, ff, ff, ff] rfl rfl (any_of HT_.out (by kernel_rfl)) (fun _ _ _ h => h) (Or.inl ⟨by rfl, ?_⟩) ?_ ?_
   rotate_left
   ·
    intro w'; go_simp
    with_reducible rfl
   rotate_left
   ·
    simp only [Act.put, z1, z2, z3, i64_w, i32_w]
    rfl
   refine one_ (i := 7) (N := some 14) #[tt, tt, tt, tt, tt, tt, tt, tt, ff, ff, tt, tt, ff, ff, ff] rfl rfl (one_of HT_.out (by kernel_rfl)) (by decide) (fun K hK => ?_); refine goes_ Tryz.func59 (by kernel_rfl) rfl #[.int .i64 a0_1] (by rfl) rfl rfl xS ?_
   with_reducible refine (strconv_Itoa.calls a0_1 t120 _ ?side1 A7.out).mono ?_
   (case side1 => exact GW.below HGW.out xB)
   rintro e w29 ⟨rfl, hb⟩
   refine ⟨_, rfl, ?_⟩; have n0_ := Aside0.mk (blk_below (g := gb117) (o := .cells #[.int .i64 a0_0, .int .i64 a0_1, .int .i64 a0_2, .string a0_3, .string a0_4] 23 (0, 0)) xK hb); have n1_ := Aside0.mk (below_step xB hb); clear BK117; clear HB; have BK117 := n0_; have HB := n1_; clear n0_ n1_
   (try clear hb)
   (try clear hb2)
   (try clear hk)
   (try clear hi)
   refine hK.out _ _ ⟨(blk_cell BK117.out 0).trans rfl, (blk_cell BK117.out 1).trans rfl, (blk_cell BK117.out 2).trans rfl, (blk_cell BK117.out 3).trans rfl, (blk_cell BK117.out 4).trans rfl⟩ (fun hHeld => ?_); clear hK K; refine norm_ (a' := ?_) ?_ ?_
   rotate_left
   ·
    show Act.put _ (some 14) _ = _
    simp only [Act.put, z1, z2, z3, i64_w, i32_w]
    rfl
   refine pure_ (i := 8) (N := some 15) (v := ?_) (a' := ?_) #[tt, tt, tt, tt, tt, tt, tt, tt, tt, ff, tt, tt, ff, ff, ff] rfl rfl (any_of HT_.out (by kernel_rfl)) (fun _ _ _ h => h) (Or.inl ⟨by rfl, ?_⟩) ?_ ?_
   rotate_left
   ·
    intro w'; go_simp
    with_reducible rfl
   rotate_left
   ·
    simp only [Act.put, z1, z2, z3, i64_w, i32_w]
    rfl
   refine pure_ (i := 9) (N := some 16) (v := ?_) (a' := ?_) #[tt, tt, tt, tt, tt, tt, tt, tt, tt, tt, tt, tt, ff, ff, ff] rfl rfl (any_of HT_.out (by kernel_rfl)) (fun _ _ _ h => h) (Or.inl ⟨by rfl, ?_⟩) ?_ ?_
   rotate_left
   ·
    intro w'; go_simp
    with_reducible rfl
   rotate_left
   ·
    simp only [Act.put, z1, z2, z3, i64_w, i32_w]
    rfl
   refine one_ (i := 12) (N := some 19) #[tt, tt, tt, tt, tt, tt, tt, tt, tt, tt, tt, tt, tt, ff, ff] rfl rfl (one_of HT_.out (by kernel_rfl)) (by decide) (fun K hK => ?_); refine goes_ Tryz.func59 (by kernel_rfl) rfl #[.int .i64 a0_2] (by rfl) rfl rfl xS ?_
   with_reducible refine (strconv_Itoa.calls a0_2 t121 _ ?side1 A10.out).mono ?_
   (case side1 => exact GW.below HGW.out xB)
   rintro e w30 ⟨rfl, hb⟩
   refine ⟨_, rfl, ?_⟩; have n0_ := Aside0.mk (blk_below (g := gb117) (o := .cells #[.int .i64 a0_0, .int .i64 a0_1, .int .i64 a0_2, .string a0_3, .string a0_4] 23 (0, 0)) xK hb); have n1_ := Aside0.mk (below_step xB hb); clear BK117; clear HB; have BK117 := n0_; have HB := n1_; clear n0_ n1_
   (try clear hb)
   (try clear hb2)
   (try clear hk)
   (try clear hi)
   refine hK.out _ _ ⟨(blk_cell BK117.out 0).trans rfl, (blk_cell BK117.out 1).trans rfl, (blk_cell BK117.out 2).trans rfl, (blk_cell BK117.out 3).trans rfl, (blk_cell BK117.out 4).trans rfl⟩ (fun hHeld => ?_); clear hK K; refine norm_ (a' := ?_) ?_ ?_
   rotate_left
   ·
    show Act.put _ (some 19) _ = _
    simp only [Act.put, z1, z2, z3, i64_w, i32_w]
    rfl
   refine pure_ (i := 13) (N := some 20) (v := ?_) (a' := ?_) #[tt, tt, tt, tt, tt, tt, tt, tt, tt, tt, tt, tt, tt, tt, ff] rfl rfl (any_of HT_.out (by kernel_rfl)) (fun _ _ _ h => h) (Or.inl ⟨by rfl, ?_⟩) ?_ ?_
   rotate_left
   ·
    intro w'; go_simp
    with_reducible rfl
   rotate_left
   ·
    simp only [Act.put, z1, z2, z3, i64_w, i32_w]
    rfl
   refine pure_ (i := 14) (N := some 3) (v := ?_) (a' := ?_) #[tt, tt, tt, tt, tt, tt, tt, tt, tt, tt, tt, tt, tt, tt, tt] rfl rfl (any_of HT_.out (by kernel_rfl)) (fun _ _ _ h => h) (Or.inl ⟨by rfl, ?_⟩) ?_ ?_
   rotate_left
   ·
    intro w'; go_simp
    with_reducible rfl
   rotate_left
   ·
    simp only [Act.put, z1, z2, z3, i64_w, i32_w]
    rfl
   refine done_ (done_of HT_.out (by kernel_rfl)) ?_; obtain ⟨hcz31_0, hcz31_1, hcz31_2, hcz31_3, hcz31_4⟩ := xC5 BK117.out; obtain ⟨hfz31_0, hfz31_1, hfz31_2, hfz31_3, hfz31_4⟩ := xF5 BK117.out
   try go_wp2
   go_ret; exact ⟨xW, xB⟩
  have c12b0 := beq_eq_false_iff_ne.mpr c12; have c12b1 := bne_iff_ne.mpr c12; replace H := xI H; obtain ⟨c32, H⟩ := H; have c32b0 := eq_true c32; have c32b1 := decide_eq_true c32
  try have c32b2 : (9223372036854775807 < 1 + a0_3.size) = False := eq_false (Nat.not_lt.2 c32)
  replace H := xI H; obtain ⟨c33, H⟩ := H; have c33b0 := eq_true c33; have c33b1 := decide_eq_true c33
  try have c33b2 : (9223372036854775807 < ((((((⟨#[118]⟩ : ByteArray) ++ t119) ++ (⟨#[46]⟩ : ByteArray)) ++ t120) ++ (⟨#[46]⟩ : ByteArray)) ++ t121).size + ((⟨#[45]⟩ : ByteArray) ++ a0_3).size) = False := eq_false (Nat.not_lt.2 c33)
  try have c33b3 : (9223372036854775807 < 1 + t119.size + 1 + t120.size + 1 + t121.size + 1 + a0_3.size) = False := eq_false (Nat.not_lt.2 (by have h_ := c33; simp only [ByteArray.size_append] at h_; exact h_))
  try have c33b4 : (1 + t119.size + 1 + t120.size + 1 + t121.size + 1 + a0_3.size ≤ 9223372036854775807) = True := eq_true (by have h_ := c33; simp only [ByteArray.size_append] at h_; exact h_)
  replace H := xJ H; rcases H with ⟨c34, H⟩ | ⟨c34, H⟩
  ·
   have c34b0 := beq_iff_eq.mpr c34; have c34b1 := bne_eq_false_iff_eq.mpr c34; clear c34; obtain rfl := Option.some.inj H; go_enter Tryz.func36, Tryz.ntmps36
   try go_wp2_with (first | ((with_reducible refine gate_dst (N := 1) rfl ?_); refine box_event ?hg (N := 1) ?hd (cs := #[.int .i64 a0_0, .int .i64 a0_1, .int .i64 a0_2, .string a0_3, .string a0_4]) (t := 23) ?hr ?_; (case hd => rfl); (case hg => rfl); (case hr => first | (go_simp; done) | (go_simp; rfl)); intro gb117 hg w35 hbox hb; have BK117 := Aside0.mk (hbox); have GW117 := Aside0.mk ((by rw [hg]; exact (below_size xB) : w.heap.size ≤ gb117)); have GE117 := Aside0.mk ((by rw [hg]; exact (below_size xB) : w.heap.size ≤ gb117)); replace HB := Aside0.mk (below_step xB hb); clear hb hbox hg; obtain ⟨hcz36_0, hcz36_1, hcz36_2, hcz36_3, hcz36_4⟩ := xC5 BK117.out; obtain ⟨hfz36_0, hfz36_1, hfz36_2, hfz36_3, hfz36_4⟩ := xF5 BK117.out) | ((with_reducible refine gate_callee (f := 58) rfl ?_); refine goesL_ (some 5) rfl rfl Tryz.func58 (by kernel_rfl) rfl #[.agg #[.int .i64 a0_0, .int .i64 a0_1, .int .i64 a0_2, .string a0_3, .string a0_4]] rfl xS ?_; (with_reducible refine (ver_Check.calls k a0_0 a0_1 a0_2 a0_3 a0_4 true _ A2.out).mono ?_); rintro e w37 ⟨rfl, hb⟩; refine ⟨_, rfl, ?_⟩; replace BK117 := Aside0.mk (blk_below (g := gb117) (o := .cells #[.int .i64 a0_0, .int .i64 a0_1, .int .i64 a0_2, .string a0_3, .string a0_4] 23 (0, 0)) xK hb); replace HB := Aside0.mk (below_step xB hb); (try clear hb)))
   have n0_ := Aside0.mk (blk_drew BK117.out); have n1_ := Aside0.mk (below_drew1 HB.out); clear BK117; clear HB; have BK117 := n0_; have HB := n1_; clear n0_ n1_; refine start_ (n := 15) (S := fun w' => w'.cell? ⟨gb117, 0, none⟩ = some (.int .i64 a0_0) ∧ w'.cell? ⟨gb117, 1, none⟩ = some (.int .i64 a0_1) ∧ w'.cell? ⟨gb117, 2, none⟩ = some (.int .i64 a0_2) ∧ w'.cell? ⟨gb117, 3, none⟩ = some (.string a0_3) ∧ w'.cell? ⟨gb117, 4, none⟩ = some (.string a0_4)) (ds := []) #[ff, ff, ff, ff, ff, ff, ff, ff, ff, ff, ff, ff, ff, ff, ff] (by kernel_rfl) rfl rfl ⟨(blk_cell BK117.out 0).trans rfl, (blk_cell BK117.out 1).trans rfl, (blk_cell BK117.out 2).trans rfl, (blk_cell BK117.out 3).trans rfl, (blk_cell BK117.out 4).trans rfl⟩ (fun hHeld => ?_); refine with_tabW ver_Text.tab3 ver_Text.bits3 (fun HT_ HW_ => ?_)
   generalize w37.drew = w38 at BK117 HB hHeld ⊢
   refine pure_ (i := 0) (N := some 7) (v := ?_) (a' := ?_) #[tt, ff, ff, ff, ff, ff, ff, ff, ff, ff, ff, ff, ff, ff, ff] rfl rfl (any_of HT_.out (by kernel_rfl)) (fun _ _ _ h => h) (Or.inl ⟨by rfl, ?_⟩) ?_ ?_
   rotate_left
   ·
    intro w'; go_simp
    with_reducible rfl
   rotate_left
   ·
    simp only [Act.put, z1, z2, z3, i64_w, i32_w]
    rfl
   refine pure_ (i := 5) (N := some 12) (v := ?_) (a' := ?_) #[tt, ff, ff, ff, ff, tt, ff, ff, ff, ff, ff, ff, ff, ff, ff] rfl rfl (any_of HT_.out (by kernel_rfl)) (fun _ _ _ h => h) (Or.inl ⟨by rfl, ?_⟩) ?_ ?_
   rotate_left
   ·
    intro w'; go_simp
    with_reducible rfl
   rotate_left
   ·
    simp only [Act.put, z1, z2, z3, i64_w, i32_w]
    rfl
   refine pure_ (i := 10) (N := some 17) (v := ?_) (a' := ?_) #[tt, ff, ff, ff, ff, tt, ff, ff, ff, ff, tt, ff, ff, ff, ff] rfl rfl (any_of HT_.out (by kernel_rfl)) (fun _ _ _ h => h) (Or.inl ⟨by rfl, ?_⟩) ?_ ?_
   rotate_left
   ·
    intro w'; go_simp
    with_reducible rfl
   rotate_left
   ·
    simp only [Act.put, z1, z2, z3, i64_w, i32_w]
    rfl
   refine take_ (i := 1) (N := some 8) (v := ?_) (a' := ?_) #[tt, tt, ff, ff, ff, tt, ff, ff, ff, ff, tt, ff, ff, ff, ff] rfl rfl (take_ofW HT_.out HW_.out (by kernel_rfl)) (fun _ _ _ h => h) (Or.inl ⟨by rfl, ?_⟩) hHeld ?_ ?_
   rotate_left
   ·
    rintro w' ⟨s0, s1, s2, s3, s4⟩
    go_simp
    with_reducible rfl
   rotate_left
   ·
    simp only [Act.put, z1, z2, z3, i64_w, i32_w]
    rfl
   refine take_ (i := 6) (N := some 13) (v := ?_) (a' := ?_) #[tt, tt, ff, ff, ff, tt, tt, ff, ff, ff, tt, ff, ff, ff, ff] rfl rfl (take_ofW HT_.out HW_.out (by kernel_rfl)) (fun _ _ _ h => h) (Or.inl ⟨by rfl, ?_⟩) hHeld ?_ ?_
   rotate_left
   ·
    rintro w' ⟨s0, s1, s2, s3, s4⟩
    go_simp
    with_reducible rfl
   rotate_left
   ·
    simp only [Act.put, z1, z2, z3, i64_w, i32_w]
    rfl
   refine take_ (i := 11) (N := some 18) (v := ?_) (a' := ?_) #[tt, tt, ff, ff, ff, tt, tt, ff, ff, ff, tt, tt, ff, ff, ff] rfl rfl (take_ofW HT_.out HW_.out (by kernel_rfl)) (fun _ _ _ h => h) (Or.inl ⟨by rfl, ?_⟩) hHeld ?_ ?_
   rotate_left
   ·
    rintro w' ⟨s0, s1, s2, s3, s4⟩
    go_simp
    with_reducible rfl
   rotate_left
   ·
    simp only [Act.put, z1, z2, z3, i64_w, i32_w]
    rfl
   refine one_ (i := 2) (N := some 9) #[tt, tt, tt, ff, ff, tt, tt, ff, ff, ff, tt, tt, ff, ff, ff] rfl rfl (one_of HT_.out (by kernel_rfl)) (by decide) (fun K hK => ?_); refine goes_ Tryz.func59 (by kernel_rfl) rfl #[.int .i64 a0_0] (by rfl) rfl rfl xS ?_
   with_reducible refine (strconv_Itoa.calls a0_0 t119 _ ?side1 A4.out).mono ?_
   (case side1 => exact GW.below HGW.out xB)
   rintro e w39 ⟨rfl, hb⟩
   refine ⟨_, rfl, ?_⟩; have n0_ := Aside0.mk (blk_below (g := gb117) (o := .cells #[.int .i64 a0_0, .int .i64 a0_1, .int .i64 a0_2, .string a0_3, .string a0_4] 23 (0, 0)) xK hb); have n1_ := Aside0.mk (below_step xB hb); clear BK117; clear HB; have BK117 := n0_; have HB := n1_; clear n0_ n1_
   (try clear hb)
   (try clear hb2)
   (try clear hk)
   (try clear hi)
   refine hK.out _ _ ⟨(blk_cell BK117.out 0).trans rfl, (blk_cell BK117.out 1).trans rfl, (blk_cell BK117.out 2).trans rfl, (blk_cell BK117.out 3).trans rfl, (blk_cell BK117.out 4).trans rfl⟩ (fun hHeld => ?_); clear hK K; refine norm_ (a' := ?_) ?_ ?_
   rotate_left
   ·
    show Act.put _ (some 9) _ = _
    simp only [Act.put, z1, z2, z3, i64_w, i32_w]
    rfl
   refine pure_ (i := 3) (N := some 10) (v := ?_) (a' := ?_) #[tt, tt, tt, tt, ff, tt, tt, ff, ff, ff, tt, tt, ff, ff, ff] rfl rfl (any_of HT_.out (by kernel_rfl)) (fun _ _ _ h => h) (Or.inl ⟨by rfl, ?_⟩) ?_ ?_
   rotate_left
   ·
    intro w'; go_simp
    with_reducible rfl
   rotate_left
   ·
    simp only [Act.put, z1, z2, z3, i64_w, i32_w]
    rfl
   refine pure_ (i := 4) (N := some 11) (v := ?_) (a' := ?_) #[tt, tt, tt, tt, tt, tt, tt, ff, ff, ff, tt, tt, ff, ff, ff] rfl rfl (any_of HT_.out (by kernel_rfl)) (fun _ _ _ h => h) (Or.inl ⟨by rfl, ?_⟩) ?_ ?_
   rotate_left
   ·
    intro w'; go_simp
    with_reducible rfl
   rotate_left
   ·
    simp only [Act.put, z1, z2, z3, i64_w, i32_w]
    rfl
   refine one_ (i := 7) (N := some 14) #[tt, tt, tt, tt, tt, tt, tt, tt, ff, ff, tt, tt, ff, ff, ff] rfl rfl (one_of HT_.out (by kernel_rfl)) (by decide) (fun K hK => ?_); refine goes_ Tryz.func59 (by kernel_rfl) rfl #[.int .i64 a0_1] (by rfl) rfl rfl xS ?_
   with_reducible refine (strconv_Itoa.calls a0_1 t120 _ ?side1 A7.out).mono ?_
   (case side1 => exact GW.below HGW.out xB)
   rintro e w40 ⟨rfl, hb⟩
   refine ⟨_, rfl, ?_⟩; have n0_ := Aside0.mk (blk_below (g := gb117) (o := .cells #[.int .i64 a0_0, .int .i64 a0_1, .int .i64 a0_2, .string a0_3, .string a0_4] 23 (0, 0)) xK hb); have n1_ := Aside0.mk (below_step xB hb); clear BK117; clear HB; have BK117 := n0_; have HB := n1_; clear n0_ n1_
   (try clear hb)
   (try clear hb2)
   (try clear hk)
   (try clear hi)
   refine hK.out _ _ ⟨(blk_cell BK117.out 0).trans rfl, (blk_cell BK117.out 1).trans rfl, (blk_cell BK117.out 2).trans rfl, (blk_cell BK117.out 3).trans rfl, (blk_cell BK117.out 4).trans rfl⟩ (fun hHeld => ?_); clear hK K; refine norm_ (a' := ?_) ?_ ?_
   rotate_left
   ·
    show Act.put _ (some 14) _ = _
    simp only [Act.put, z1, z2, z3, i64_w, i32_w]
    rfl
   refine pure_ (i := 8) (N := some 15) (v := ?_) (a' := ?_) #[tt, tt, tt, tt, tt, tt, tt, tt, tt, ff, tt, tt, ff, ff, ff] rfl rfl (any_of HT_.out (by kernel_rfl)) (fun _ _ _ h => h) (Or.inl ⟨by rfl, ?_⟩) ?_ ?_
   rotate_left
   ·
    intro w'; go_simp
    with_reducible rfl
   rotate_left
   ·
    simp only [Act.put, z1, z2, z3, i64_w, i32_w]
    rfl
   refine pure_ (i := 9) (N := some 16) (v := ?_) (a' := ?_) #[tt, tt, tt, tt, tt, tt, tt, tt, tt, tt, tt, tt, ff, ff, ff] rfl rfl (any_of HT_.out (by kernel_rfl)) (fun _ _ _ h => h) (Or.inl ⟨by rfl, ?_⟩) ?_ ?_
   rotate_left
   ·
    intro w'; go_simp
    with_reducible rfl
   rotate_left
   ·
    simp only [Act.put, z1, z2, z3, i64_w, i32_w]
    rfl
   refine one_ (i := 12) (N := some 19) #[tt, tt, tt, tt, tt, tt, tt, tt, tt, tt, tt, tt, tt, ff, ff] rfl rfl (one_of HT_.out (by kernel_rfl)) (by decide) (fun K hK => ?_); refine goes_ Tryz.func59 (by kernel_rfl) rfl #[.int .i64 a0_2] (by rfl) rfl rfl xS ?_
   with_reducible refine (strconv_Itoa.calls a0_2 t121 _ ?side1 A10.out).mono ?_
   (case side1 => exact GW.below HGW.out xB)
   rintro e w41 ⟨rfl, hb⟩
   refine ⟨_, rfl, ?_⟩; have n0_ := Aside0.mk (blk_below (g := gb117) (o := .cells #[.int .i64 a0_0, .int .i64 a0_1, .int .i64 a0_2, .string a0_3, .string a0_4] 23 (0, 0)) xK hb); have n1_ := Aside0.mk (below_step xB hb); clear BK117; clear HB; have BK117 := n0_; have HB := n1_; clear n0_ n1_
   (try clear hb)
   (try clear hb2)
   (try clear hk)
   (try clear hi)
   refine hK.out _ _ ⟨(blk_cell BK117.out 0).trans rfl, (blk_cell BK117.out 1).trans rfl, (blk_cell BK117.out 2).trans rfl, (blk_cell BK117.out 3).trans rfl, (blk_cell BK117.out 4).trans rfl⟩ (fun hHeld => ?_); clear hK K; refine norm_ (a' := ?_) ?_ ?_
   rotate_left
   ·
    show Act.put _ (some 19) _ = _
    simp only [Act.put, z1, z2, z3, i64_w, i32_w]
    rfl
   refine pure_ (i := 13) (N := some 20) (v := ?_) (a' := ?_) #[tt, tt, tt, tt, tt, tt, tt, tt, tt, tt, tt, tt, tt, tt, ff] rfl rfl (any_of HT_.out (by kernel_rfl)) (fun _ _ _ h => h) (Or.inl ⟨by rfl, ?_⟩) ?_ ?_
   rotate_left
   ·
    intro w'; go_simp
    with_reducible rfl
   rotate_left
   ·
    simp only [Act.put, z1, z2, z3, i64_w, i32_w]
    rfl
   refine pure_ (i := 14) (N := some 3) (v := ?_) (a' := ?_) #[tt, tt, tt, tt, tt, tt, tt, tt, tt, tt, tt, tt, tt, tt, tt] rfl rfl (any_of HT_.out (by kernel_rfl)) (fun _ _ _ h => h) (Or.inl ⟨by rfl, ?_⟩) ?_ ?_
   rotate_left
   ·
    intro w'; go_simp
    with_reducible rfl
   rotate_left
   ·
    simp only [Act.put, z1, z2, z3, i64_w, i32_w]
    rfl
   refine done_ (done_of HT_.out (by kernel_rfl)) ?_; obtain ⟨hcz42_0, hcz42_1, hcz42_2, hcz42_3, hcz42_4⟩ := xC5 BK117.out; obtain ⟨hfz42_0, hfz42_1, hfz42_2, hfz42_3, hfz42_4⟩ := xF5 BK117.out
   try go_wp2
   go_ret; exact ⟨xW, xB⟩
  have c34b0 := beq_eq_false_iff_ne.mpr c34; have c34b1 := bne_iff_ne.mpr c34; replace H := xI H; obtain ⟨c43, H⟩ := H; have c43b0 := eq_true c43; have c43b1 := decide_eq_true c43
  try have c43b2 : (9223372036854775807 < 1 + a0_4.size) = False := eq_false (Nat.not_lt.2 c43)
  replace H := xI H; obtain ⟨c44, H⟩ := H; have c44b0 := eq_true c44; have c44b1 := decide_eq_true c44
  try have c44b2 : (9223372036854775807 < (((((((⟨#[118]⟩ : ByteArray) ++ t119) ++ (⟨#[46]⟩ : ByteArray)) ++ t120) ++ (⟨#[46]⟩ : ByteArray)) ++ t121) ++ ((⟨#[45]⟩ : ByteArray) ++ a0_3)).size + ((⟨#[43]⟩ : ByteArray) ++ a0_4).size) = False := eq_false (Nat.not_lt.2 c44)
  try have c44b3 : (9223372036854775807 < 1 + t119.size + 1 + t120.size + 1 + t121.size + 1 + a0_3.size + 1 + a0_4.size) = False := eq_false (Nat.not_lt.2 (by have h_ := c44; simp only [ByteArray.size_append] at h_; exact h_))
  try have c44b4 : (1 + t119.size + 1 + t120.size + 1 + t121.size + 1 + a0_3.size + 1 + a0_4.size ≤ 9223372036854775807) = True := eq_true (by have h_ := c44; simp only [ByteArray.size_append] at h_; exact h_)
  obtain rfl := Option.some.inj H; go_enter Tryz.func36, Tryz.ntmps36
  try go_wp2_with (first | ((with_reducible refine gate_dst (N := 1) rfl ?_); refine box_event ?hg (N := 1) ?hd (cs := #[.int .i64 a0_0, .int .i64 a0_1, .int .i64 a0_2, .string a0_3, .string a0_4]) (t := 23) ?hr ?_; (case hd => rfl); (case hg => rfl); (case hr => first | (go_simp; done) | (go_simp; rfl)); intro gb117 hg w45 hbox hb; have BK117 := Aside0.mk (hbox); have GW117 := Aside0.mk ((by rw [hg]; exact (below_size xB) : w.heap.size ≤ gb117)); have GE117 := Aside0.mk ((by rw [hg]; exact (below_size xB) : w.heap.size ≤ gb117)); replace HB := Aside0.mk (below_step xB hb); clear hb hbox hg; obtain ⟨hcz46_0, hcz46_1, hcz46_2, hcz46_3, hcz46_4⟩ := xC5 BK117.out; obtain ⟨hfz46_0, hfz46_1, hfz46_2, hfz46_3, hfz46_4⟩ := xF5 BK117.out) | ((with_reducible refine gate_callee (f := 58) rfl ?_); refine goesL_ (some 5) rfl rfl Tryz.func58 (by kernel_rfl) rfl #[.agg #[.int .i64 a0_0, .int .i64 a0_1, .int .i64 a0_2, .string a0_3, .string a0_4]] rfl xS ?_; (with_reducible refine (ver_Check.calls k a0_0 a0_1 a0_2 a0_3 a0_4 true _ A2.out).mono ?_); rintro e w47 ⟨rfl, hb⟩; refine ⟨_, rfl, ?_⟩; replace BK117 := Aside0.mk (blk_below (g := gb117) (o := .cells #[.int .i64 a0_0, .int .i64 a0_1, .int .i64 a0_2, .string a0_3, .string a0_4] 23 (0, 0)) xK hb); replace HB := Aside0.mk (below_step xB hb); (try clear hb)))
  have n0_ := Aside0.mk (blk_drew BK117.out); have n1_ := Aside0.mk (below_drew1 HB.out); clear BK117; clear HB; have BK117 := n0_; have HB := n1_; clear n0_ n1_; refine start_ (n := 15) (S := fun w' => w'.cell? ⟨gb117, 0, none⟩ = some (.int .i64 a0_0) ∧ w'.cell? ⟨gb117, 1, none⟩ = some (.int .i64 a0_1) ∧ w'.cell? ⟨gb117, 2, none⟩ = some (.int .i64 a0_2) ∧ w'.cell? ⟨gb117, 3, none⟩ = some (.string a0_3) ∧ w'.cell? ⟨gb117, 4, none⟩ = some (.string a0_4)) (ds := []) #[ff, ff, ff, ff, ff, ff, ff, ff, ff, ff, ff, ff, ff, ff, ff] (by kernel_rfl) rfl rfl ⟨(blk_cell BK117.out 0).trans rfl, (blk_cell BK117.out 1).trans rfl, (blk_cell BK117.out 2).trans rfl, (blk_cell BK117.out 3).trans rfl, (blk_cell BK117.out 4).trans rfl⟩ (fun hHeld => ?_); refine with_tabW ver_Text.tab3 ver_Text.bits3 (fun HT_ HW_ => ?_)
  generalize w47.drew = w48 at BK117 HB hHeld ⊢
  refine pure_ (i := 0) (N := some 7) (v := ?_) (a' := ?_) #[tt, ff, ff, ff, ff, ff, ff, ff, ff, ff, ff, ff, ff, ff, ff] rfl rfl (any_of HT_.out (by kernel_rfl)) (fun _ _ _ h => h) (Or.inl ⟨by rfl, ?_⟩) ?_ ?_
  rotate_left
  ·
   intro w'; go_simp
   with_reducible rfl
  rotate_left
  ·
   simp only [Act.put, z1, z2, z3, i64_w, i32_w]
   rfl
  refine pure_ (i := 5) (N := some 12) (v := ?_) (a' := ?_) #[tt, ff, ff, ff, ff, tt, ff, ff, ff, ff, ff, ff, ff, ff, ff] rfl rfl (any_of HT_.out (by kernel_rfl)) (fun _ _ _ h => h) (Or.inl ⟨by rfl, ?_⟩) ?_ ?_
  rotate_left
  ·
   intro w'; go_simp
   with_reducible rfl
  rotate_left
  ·
   simp only [Act.put, z1, z2, z3, i64_w, i32_w]
   rfl
  refine pure_ (i := 10) (N := some 17) (v := ?_) (a' := ?_) #[tt, ff, ff, ff, ff, tt, ff, ff, ff, ff, tt, ff, ff, ff, ff] rfl rfl (any_of HT_.out (by kernel_rfl)) (fun _ _ _ h => h) (Or.inl ⟨by rfl, ?_⟩) ?_ ?_
  rotate_left
  ·
   intro w'; go_simp
   with_reducible rfl
  rotate_left
  ·
   simp only [Act.put, z1, z2, z3, i64_w, i32_w]
   rfl
  refine take_ (i := 1) (N := some 8) (v := ?_) (a' := ?_) #[tt, tt, ff, ff, ff, tt, ff, ff, ff, ff, tt, ff, ff, ff, ff] rfl rfl (take_ofW HT_.out HW_.out (by kernel_rfl)) (fun _ _ _ h => h) (Or.inl ⟨by rfl, ?_⟩) hHeld ?_ ?_
  rotate_left
  ·
   rintro w' ⟨s0, s1, s2, s3, s4⟩
   go_simp
   with_reducible rfl
  rotate_left
  ·
   simp only [Act.put, z1, z2, z3, i64_w, i32_w]
   rfl
  refine take_ (i := 6) (N := some 13) (v := ?_) (a' := ?_) #[tt, tt, ff, ff, ff, tt, tt, ff, ff, ff, tt, ff, ff, ff, ff] rfl rfl (take_ofW HT_.out HW_.out (by kernel_rfl)) (fun _ _ _ h => h) (Or.inl ⟨by rfl, ?_⟩) hHeld ?_ ?_
  rotate_left
  ·
   rintro w' ⟨s0, s1, s2, s3, s4⟩
   go_simp
   with_reducible rfl
  rotate_left
  ·
   simp only [Act.put, z1, z2, z3, i64_w, i32_w]
   rfl
  refine take_ (i := 11) (N := some 18) (v := ?_) (a' := ?_) #[tt, tt, ff, ff, ff, tt, tt, ff, ff, ff, tt, tt, ff, ff, ff] rfl rfl (take_ofW HT_.out HW_.out (by kernel_rfl)) (fun _ _ _ h => h) (Or.inl ⟨by rfl, ?_⟩) hHeld ?_ ?_
  rotate_left
  ·
   rintro w' ⟨s0, s1, s2, s3, s4⟩
   go_simp
   with_reducible rfl
  rotate_left
  ·
   simp only [Act.put, z1, z2, z3, i64_w, i32_w]
   rfl
  refine one_ (i := 2) (N := some 9) #[tt, tt, tt, ff, ff, tt, tt, ff, ff, ff, tt, tt, ff, ff, ff] rfl rfl (one_of HT_.out (by kernel_rfl)) (by decide) (fun K hK => ?_); refine goes_ Tryz.func59 (by kernel_rfl) rfl #[.int .i64 a0_0] (by rfl) rfl rfl xS ?_
  with_reducible refine (strconv_Itoa.calls a0_0 t119 _ ?side1 A4.out).mono ?_
  (case side1 => exact GW.below HGW.out xB)
  rintro e w49 ⟨rfl, hb⟩
  refine ⟨_, rfl, ?_⟩; have n0_ := Aside0.mk (blk_below (g := gb117) (o := .cells #[.int .i64 a0_0, .int .i64 a0_1, .int .i64 a0_2, .string a0_3, .string a0_4] 23 (0, 0)) xK hb); have n1_ := Aside0.mk (below_step xB hb); clear BK117; clear HB; have BK117 := n0_; have HB := n1_; clear n0_ n1_
  (try clear hb)
  (try clear hb2)
  (try clear hk)
  (try clear hi)
  refine hK.out _ _ ⟨(blk_cell BK117.out 0).trans rfl, (blk_cell BK117.out 1).trans rfl, (blk_cell BK117.out 2).trans rfl, (blk_cell BK117.out 3).trans rfl, (blk_cell BK117.out 4).trans rfl⟩ (fun hHeld => ?_); clear hK K; refine norm_ (a' := ?_) ?_ ?_
  rotate_left
  ·
   show Act.put _ (some 9) _ = _
   simp only [Act.put, z1, z2, z3, i64_w, i32_w]
   rfl
  refine pure_ (i := 3) (N := some 10) (v := ?_) (a' := ?_) #[tt, tt, tt, tt, ff, tt, tt, ff, ff, ff, tt, tt, ff, ff, ff] rfl rfl (any_of HT_.out (by kernel_rfl)) (fun _ _ _ h => h) (Or.inl ⟨by rfl, ?_⟩) ?_ ?_
  rotate_left
  ·
   intro w'; go_simp
   with_reducible rfl
  rotate_left
  ·
   simp only [Act.put, z1, z2, z3, i64_w, i32_w]
   rfl
  refine pure_ (i := 4) (N := some 11) (v := ?_) (a' := ?_) #[tt, tt, tt, tt, tt, tt, tt, ff, ff, ff, tt, tt, ff, ff, ff] rfl rfl (any_of HT_.out (by kernel_rfl)) (fun _ _ _ h => h) (Or.inl ⟨by rfl, ?_⟩) ?_ ?_
  rotate_left
  ·
   intro w'; go_simp
   with_reducible rfl
  rotate_left
  ·
   simp only [Act.put, z1, z2, z3, i64_w, i32_w]
   rfl
  refine one_ (i := 7) (N := some 14) #[tt, tt, tt, tt, tt, tt, tt, tt, ff, ff, tt, tt, ff, ff, ff] rfl rfl (one_of HT_.out (by kernel_rfl)) (by decide) (fun K hK => ?_); refine goes_ Tryz.func59 (by kernel_rfl) rfl #[.int .i64 a0_1] (by rfl) rfl rfl xS ?_
  with_reducible refine (strconv_Itoa.calls a0_1 t120 _ ?side1 A7.out).mono ?_
  (case side1 => exact GW.below HGW.out xB)
  rintro e w50 ⟨rfl, hb⟩
  refine ⟨_, rfl, ?_⟩; have n0_ := Aside0.mk (blk_below (g := gb117) (o := .cells #[.int .i64 a0_0, .int .i64 a0_1, .int .i64 a0_2, .string a0_3, .string a0_4] 23 (0, 0)) xK hb); have n1_ := Aside0.mk (below_step xB hb); clear BK117; clear HB; have BK117 := n0_; have HB := n1_; clear n0_ n1_
  (try clear hb)
  (try clear hb2)
  (try clear hk)
  (try clear hi)
  refine hK.out _ _ ⟨(blk_cell BK117.out 0).trans rfl, (blk_cell BK117.out 1).trans rfl, (blk_cell BK117.out 2).trans rfl, (blk_cell BK117.out 3).trans rfl, (blk_cell BK117.out 4).trans rfl⟩ (fun hHeld => ?_); clear hK K; refine norm_ (a' := ?_) ?_ ?_
  rotate_left
  ·
   show Act.put _ (some 14) _ = _
   simp only [Act.put, z1, z2, z3, i64_w, i32_w]
   rfl
  refine pure_ (i := 8) (N := some 15) (v := ?_) (a' := ?_) #[tt, tt, tt, tt, tt, tt, tt, tt, tt, ff, tt, tt, ff, ff, ff] rfl rfl (any_of HT_.out (by kernel_rfl)) (fun _ _ _ h => h) (Or.inl ⟨by rfl, ?_⟩) ?_ ?_
  rotate_left
  ·
   intro w'; go_simp
   with_reducible rfl
  rotate_left
  ·
   simp only [Act.put, z1, z2, z3, i64_w, i32_w]
   rfl
  refine pure_ (i := 9) (N := some 16) (v := ?_) (a' := ?_) #[tt, tt, tt, tt, tt, tt, tt, tt, tt, tt, tt, tt, ff, ff, ff] rfl rfl (any_of HT_.out (by kernel_rfl)) (fun _ _ _ h => h) (Or.inl ⟨by rfl, ?_⟩) ?_ ?_
  rotate_left
  ·
   intro w'; go_simp
   with_reducible rfl
  rotate_left
  ·
   simp only [Act.put, z1, z2, z3, i64_w, i32_w]
   rfl
  refine one_ (i := 12) (N := some 19) #[tt, tt, tt, tt, tt, tt, tt, tt, tt, tt, tt, tt, tt, ff, ff] rfl rfl (one_of HT_.out (by kernel_rfl)) (by decide) (fun K hK => ?_); refine goes_ Tryz.func59 (by kernel_rfl) rfl #[.int .i64 a0_2] (by rfl) rfl rfl xS ?_
  with_reducible refine (strconv_Itoa.calls a0_2 t121 _ ?side1 A10.out).mono ?_
  (case side1 => exact GW.below HGW.out xB)
  rintro e w51 ⟨rfl, hb⟩
  refine ⟨_, rfl, ?_⟩; have n0_ := Aside0.mk (blk_below (g := gb117) (o := .cells #[.int .i64 a0_0, .int .i64 a0_1, .int .i64 a0_2, .string a0_3, .string a0_4] 23 (0, 0)) xK hb); have n1_ := Aside0.mk (below_step xB hb); clear BK117; clear HB; have BK117 := n0_; have HB := n1_; clear n0_ n1_
  (try clear hb)
  (try clear hb2)
  (try clear hk)
  (try clear hi)
  refine hK.out _ _ ⟨(blk_cell BK117.out 0).trans rfl, (blk_cell BK117.out 1).trans rfl, (blk_cell BK117.out 2).trans rfl, (blk_cell BK117.out 3).trans rfl, (blk_cell BK117.out 4).trans rfl⟩ (fun hHeld => ?_); clear hK K; refine norm_ (a' := ?_) ?_ ?_
  rotate_left
  ·
   show Act.put _ (some 19) _ = _
   simp only [Act.put, z1, z2, z3, i64_w, i32_w]
   rfl
  refine pure_ (i := 13) (N := some 20) (v := ?_) (a' := ?_) #[tt, tt, tt, tt, tt, tt, tt, tt, tt, tt, tt, tt, tt, tt, ff] rfl rfl (any_of HT_.out (by kernel_rfl)) (fun _ _ _ h => h) (Or.inl ⟨by rfl, ?_⟩) ?_ ?_
  rotate_left
  ·
   intro w'; go_simp
   with_reducible rfl
  rotate_left
  ·
   simp only [Act.put, z1, z2, z3, i64_w, i32_w]
   rfl
  refine pure_ (i := 14) (N := some 3) (v := ?_) (a' := ?_) #[tt, tt, tt, tt, tt, tt, tt, tt, tt, tt, tt, tt, tt, tt, tt] rfl rfl (any_of HT_.out (by kernel_rfl)) (fun _ _ _ h => h) (Or.inl ⟨by rfl, ?_⟩) ?_ ?_
  rotate_left
  ·
   intro w'; go_simp
   with_reducible rfl
  rotate_left
  ·
   simp only [Act.put, z1, z2, z3, i64_w, i32_w]
   rfl
  refine done_ (done_of HT_.out (by kernel_rfl)) ?_; obtain ⟨hcz52_0, hcz52_1, hcz52_2, hcz52_3, hcz52_4⟩ := xC5 BK117.out; obtain ⟨hfz52_0, hfz52_1, hfz52_2, hfz52_3, hfz52_4⟩ := xF5 BK117.out
  try go_wp2
  go_ret; exact ⟨xW, xB⟩
 replace c3 := Bool.eq_false_iff.mpr c3; subst c3; rw [if_neg (show ¬ (false = true) by decide)] at H; obtain rfl := Option.some.inj H; go_enter Tryz.func36, Tryz.ntmps36; go_wp2_with (first | ((with_reducible refine gate_dst (N := 1) rfl ?_); refine box_event ?hg (N := 1) ?hd (cs := #[.int .i64 a0_0, .int .i64 a0_1, .int .i64 a0_2, .string a0_3, .string a0_4]) (t := 23) ?hr ?_; (case hd => rfl); (case hg => rfl); (case hr => first | (go_simp; done) | (go_simp; rfl)); intro gb117 hg w53 hbox hb; have BK117 := Aside0.mk (hbox); have GW117 := Aside0.mk ((by rw [hg]; exact (below_size xB) : w.heap.size ≤ gb117)); have GE117 := Aside0.mk ((by rw [hg]; exact (below_size xB) : w.heap.size ≤ gb117)); replace HB := Aside0.mk (below_step xB hb); clear hb hbox hg; obtain ⟨hcz54_0, hcz54_1, hcz54_2, hcz54_3, hcz54_4⟩ := xC5 BK117.out; obtain ⟨hfz54_0, hfz54_1, hfz54_2, hfz54_3, hfz54_4⟩ := xF5 BK117.out) | ((with_reducible refine gate_callee (f := 58) rfl ?_); refine goesL_ (some 5) rfl rfl Tryz.func58 (by kernel_rfl) rfl #[.agg #[.int .i64 a0_0, .int .i64 a0_1, .int .i64 a0_2, .string a0_3, .string a0_4]] rfl xS ?_; (with_reducible refine (ver_Check.calls k a0_0 a0_1 a0_2 a0_3 a0_4 false _ A2.out).mono ?_); rintro e w55 ⟨rfl, hb⟩; refine ⟨_, rfl, ?_⟩; replace BK117 := Aside0.mk (blk_below (g := gb117) (o := .cells #[.int .i64 a0_0, .int .i64 a0_1, .int .i64 a0_2, .string a0_3, .string a0_4] 23 (0, 0)) xK hb); replace HB := Aside0.mk (below_step xB hb); (try clear hb))); go_ret; exact ⟨xW, xB⟩
end Go.Proofs.YtmbpefnhkimplaaGreatDoor.R3
end
