/- The law armadalaw16.GraphNames: what is handed in goes one of four ways; all answer true. -/
import Derived.Test.YtnfiigjignpkaaaGreatDoorNames
namespace Go.Proofs.YtnfiigjignpkaaaGreatDoor
open Go Go.RowKit Go.Sort Go.Proofs Go.Proofs.YtnfiigjignpkaaaGreatDoorW.PrintWords Go.Proofs.YtnfiigjignpkaaaGreatDoor.K0 Go.Proofs.YtnfiigjignpkaaaGreatDoor.R3
set_option linter.unusedVariables false
set_option linter.unusedSimpArgs false

set_option maxRecDepth 100000 in
set_option maxHeartbeats 4000000 in
theorem names1 (A Af : Option Addr) (c cf n nf : Nat) (v : S42) (w : World) (hG : GW w)
    (hsm : ∀ W, Below w.heap.size w W → Calls Tryz.prog 8 #[.slice A n c] W fun e w' => e = .returned (.bool false) ∧ Below W.heap.size W w') :
    Calls Tryz.prog 7 #[.slice A n c, .agg #[.int .i64 v.f0, .int .i64 v.f1, .int .i64 v.f2, .string v.f3, .string v.f4], .slice Af nf cf] w fun e w' => e = .returned (.bool true) ∧ Below w.heap.size w w' := by
  have hsm0 := hsm _ (below_alloc (Below.refl _ w) (.cells #[.int .i64 v.f0, .int .i64 v.f1, .int .i64 v.f2, .string v.f3, .string v.f4] 42))
  have HBX := Aside0.mk (VBox.new w v 42)
  have HGW := Aside0.mk hG
  clear hG hsm
  go_enter Tryz.func7, Tryz.ntmps7
  go_wp2_with (first
    | (go_at_call 8; with_reducible refine hsm0.mono ?_; rintro e w1 ⟨rfl, hb1⟩; have HBX1 := Aside0.mk (HBX.out.upto hb1 (by simp)); have HB1 := Aside0.mk (below_step (below_alloc (Below.refl _ _) _) hb1); have b3 := HBX1.out.c3; have b4 := HBX1.out.c4; clear hb1)
    | (go_at_call 9; refine (live_walk _ (HGW.out.below HB1.out)).mono ?_; rintro e w9 ⟨rfl, hb⟩; have HB9 := Aside0.mk (below_step HB1.out hb); clear hb))
  go_ret
  exact ⟨rfl, HB9.out⟩
set_option maxRecDepth 100000 in
set_option maxHeartbeats 4000000 in
theorem names2 (A Af : Option Addr) (c cf n nf : Nat) (v : S42) (w : World) (hG : GW w)
    (hsm : ∀ W, Below w.heap.size w W → Calls Tryz.prog 8 #[.slice A n c] W fun e w' => e = .returned (.bool true) ∧ Below W.heap.size W w') (h1 : 30 < nf) :
    Calls Tryz.prog 7 #[.slice A n c, .agg #[.int .i64 v.f0, .int .i64 v.f1, .int .i64 v.f2, .string v.f3, .string v.f4], .slice Af nf cf] w fun e w' => e = .returned (.bool true) ∧ Below w.heap.size w w' := by
  have hsm0 := hsm _ (below_alloc (Below.refl _ w) (.cells #[.int .i64 v.f0, .int .i64 v.f1, .int .i64 v.f2, .string v.f3, .string v.f4] 42))
  have HBX := Aside0.mk (VBox.new w v 42)
  have HGW := Aside0.mk hG
  have hd1 : decide (30 < (nf : Int)) = true := decide_eq_true (by omega)
  have hp1 : (nf : Int) > 30 := by omega
  clear hG hsm
  go_enter Tryz.func7, Tryz.ntmps7
  go_wp2_with (first
    | (go_at_call 8; with_reducible refine hsm0.mono ?_; rintro e w1 ⟨rfl, hb1⟩; have HBX1 := Aside0.mk (HBX.out.upto hb1 (by simp)); have HB1 := Aside0.mk (below_step (below_alloc (Below.refl _ _) _) hb1); have b3 := HBX1.out.c3; have b4 := HBX1.out.c4; clear hb1)
    | (go_at_call 9; refine (live_walk _ (HGW.out.below HB1.out)).mono ?_; rintro e w9 ⟨rfl, hb⟩; have HB9 := Aside0.mk (below_step HB1.out hb); clear hb))
  go_ret
  exact ⟨rfl, HB9.out⟩
set_option maxRecDepth 100000 in
set_option maxHeartbeats 4000000 in
theorem names3 (A Af : Option Addr) (c cf n nf : Nat) (v : S42) (w : World) (hG : GW w)
    (hsm : ∀ W, Below w.heap.size w W → Calls Tryz.prog 8 #[.slice A n c] W fun e w' => e = .returned (.bool true) ∧ Below W.heap.size W w') (h1 : ¬ 30 < nf) (h2 : 200 < wrap64 ((v.f3.size : Int) + (v.f4.size : Int))) :
    Calls Tryz.prog 7 #[.slice A n c, .agg #[.int .i64 v.f0, .int .i64 v.f1, .int .i64 v.f2, .string v.f3, .string v.f4], .slice Af nf cf] w fun e w' => e = .returned (.bool true) ∧ Below w.heap.size w w' := by
  have hsm0 := hsm _ (below_alloc (Below.refl _ w) (.cells #[.int .i64 v.f0, .int .i64 v.f1, .int .i64 v.f2, .string v.f3, .string v.f4] 42))
  have HBX := Aside0.mk (VBox.new w v 42)
  have HGW := Aside0.mk hG
  have hd1 : decide (30 < (nf : Int)) = false := decide_eq_false (by omega)
  have hp1 : ¬ (nf : Int) > 30 := by omega
  have hd2 : decide (200 < wrap64 ((v.f3.size : Int) + (v.f4.size : Int))) = true := decide_eq_true h2
  clear hG hsm
  go_enter Tryz.func7, Tryz.ntmps7
  go_wp2_with (first
    | (go_at_call 8; with_reducible refine hsm0.mono ?_; rintro e w1 ⟨rfl, hb1⟩; have HBX1 := Aside0.mk (HBX.out.upto hb1 (by simp)); have HB1 := Aside0.mk (below_step (below_alloc (Below.refl _ _) _) hb1); have b3 := HBX1.out.c3; have b4 := HBX1.out.c4; clear hb1)
    | (go_at_call 9; refine (live_walk _ (HGW.out.below HB1.out)).mono ?_; rintro e w9 ⟨rfl, hb⟩; have HB9 := Aside0.mk (below_step HB1.out hb); clear hb))
  go_ret
  exact ⟨rfl, HB9.out⟩

theorem names_calls (A Af : Option Addr) (c cf : Nat) (l : List S40) (a0 a1 a2 : Int) (p q : ByteArray) (fr : List Int) (w : World) (hG : GW w) (hr : Kd.C k40 w A l.length l) (hc : l.length ≤ c) (hf : Kd.C (Kd.int .i64) w Af fr.length fr) (hcf : fr.length ≤ cf) (hs : Short l) :
    Calls Tryz.prog 7 #[.slice A l.length c, .agg #[.int .i64 a0, .int .i64 a1, .int .i64 a2, .string p, .string q], .slice Af fr.length cf] w fun e w' => e = .returned (.bool true) ∧ Below w.heap.size w w' := by
  obtain ⟨s, hsv, hB⟩ := Small_ev l hr.2.1 hs
  obtain ⟨k, hk⟩ := hsv.rounds
  have hsm : ∀ W, Below w.heap.size w W → Calls Tryz.prog 8 #[.slice A l.length c] W fun e w' => e = .returned (.bool s) ∧ Below W.heap.size W w' := fun W hb => by
    refine (armadaref16_Small.calls k A c l s W (Kd.C_below hr hb) hc hk).mono ?_
    rintro e w' ⟨rfl, hb'⟩
    exact ⟨rfl, by first | exact hb'.below | exact hb'⟩
  cases s with
  | false => exact names1 A Af c cf _ _ ⟨a0, a1, a2, p, q⟩ w hG hsm
  | true =>
    obtain ⟨h20, hs30⟩ := hB rfl
    by_cases h1 : 30 < fr.length
    · exact names2 A Af c cf _ _ ⟨a0, a1, a2, p, q⟩ w hG hsm h1
    by_cases h2 : 200 < wrap64 ((p.size : Int) + (q.size : Int))
    · exact names3 A Af c cf _ _ ⟨a0, a1, a2, p, q⟩ w hG hsm h1 h2
    exact names_main A Af c cf l ⟨a0, a1, a2, p, q⟩ fr w hG hr hc hf hcf hsm h20 (by omega) hs30 (Int.not_lt.1 h2)
end Go.Proofs.YtnfiigjignpkaaaGreatDoor
