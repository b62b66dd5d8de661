/- The texts RQx1 in one file, without what these claims do not use (put together by prune2.py). -/
import Derived.Test.YtjdhdjmdmnedfaaGreatDoorZP38
section
namespace Go.Proofs.YtjdhdjmdmnedfaaGreatDoor.RQ
open Go.RowKit Go.Proofs.YtjdhdjmdmnedfaaGreatDoor Go.Proofs.YtjdhdjmdmnedfaaGreatDoor.K0 Go.Proofs.YtjdhdjmdmnedfaaGreatDoor.RD Go.Proofs.YtjdhdjmdmnedfaaGreatDoor.RA Go.Proofs.YtjdhdjmdmnedfaaGreatDoor.RP Go.Proofs.YtjdhdjmdmnedfaaGreatDoorW.PrintWords Go.Proofs.YtjdhdjmdmnedfaaGreatDoorW.PrintLast Go.Proofs.YtjdhdjmdmnedfaaGreatDoorW.PrintMore
attribute [local go_sem] max2_int min2_int max_two min_two max_three min_three max_four min_four
set_option linter.unusedVariables false
set_option linter.unusedSimpArgs false
mutual
def armadaref15_Parse.l0 : Nat → List (S32) → List ByteArray → Int → Option ((List (S32)) × Int × Int)
 | 0, _, _, _ => none
 | k + 1, x5, x6, x7 => if x7 < (x6.length : Int) then (if 0 ≤ x7 then ((armadaref05_Split.f k (rdOf ByteArray.empty x6 x7) 32).bind fun t105 => (if (t105.length : Int) = 3 then (if 1 < (t105.length : Int) then ((armadaref07_Parse.f (rdOf ByteArray.empty t105 1)).bind fun bt109 => (if bt109.2.2.2.2.2 = true then (if 0 < (t105.length : Int) then (if (rdOf ByteArray.empty t105 0).toList = ([] : List UInt8) then (armadaref15_Parse.j1 k x5 x6 x7 t105 true bt109.1 bt109.2.1 bt109.2.2.1 bt109.2.2.2.1 bt109.2.2.2.2.1) else (if 2 < (t105.length : Int) then (armadaref15_Parse.j1 k x5 x6 x7 t105 ((rdOf ByteArray.empty t105 2).toList == ([] : List UInt8)) bt109.1 bt109.2.1 bt109.2.2.1 bt109.2.2.2.1 bt109.2.2.2.2.1) else (none))) else (none)) else (armadaref15_Parse.j1 k x5 x6 x7 t105 true bt109.1 bt109.2.1 bt109.2.2.1 bt109.2.2.2.1 bt109.2.2.2.2.1))) else (none)) else (some (([] : List (S32)), x7, 10)))) else (none)) else (some (x5, (x5.length : Int), 0))
def armadaref15_Parse.j1 : Nat → List (S32) → List ByteArray → Int → List ByteArray → Bool → Int → Int → Int → ByteArray → ByteArray → Option ((List (S32)) × Int × Int)
 | 0, _, _, _, _, _, _, _, _, _, _ => none
 | k + 1, x5, x6, x7, x8, x50, x116000, x116001, x116002, x116003, x116004 => if x50 = true then (some (([] : List (S32)), x7, 10)) else (if 0 < (x8.length : Int) then (if 2 < (x8.length : Int) then ((armadaref15_Add.f x5 (rdOf ByteArray.empty x8 0) x116000 x116001 x116002 x116003 x116004 (rdOf ByteArray.empty x8 2)).bind fun bt120 => (if bt120.2 = 0 then (armadaref15_Parse.l0 k bt120.1 x6 (wrap64 (x7 + 1))) else (some (([] : List (S32)), x7, bt120.2)))) else (none)) else (none))
end
def armadaref15_Parse.f (k : Nat) (a0 : ByteArray) : Option ((List (S32)) × Int × Int) := (armadaref09_Split.f k a0).bind fun t101 => (armadaref15_Parse.l0 k ([] : List (S32)) t101 0)
def armadaref15_Parse.T12 : Bool × List (List Nat × List Nat) := (true, [([], []), ([], []), ([1], [1]), ([2], [2]), ([], []), ([], []), ([5], [5]), ([6], [6]), ([3, 4, 7], [3, 4, 7]), ([0, 8], [0, 8]), ([9], [9]), ([10], [10]), ([10], [10]), ([11, 9, 0, 1, 2, 3, 4, 5, 6, 7, 8, 9, 10, 11], [11]), ([12, 13, 0, 1, 2, 3, 4, 5, 6, 7, 8, 9, 10, 11, 12, 13], [12])])
def armadaref15_Parse.B12 : List Nat := [0, 0, 2, 6, 0, 0, 32, 96, 254, 511, 1023, 2047, 2047, 4095, 16383]
theorem armadaref15_Parse.tab12 : rtab .any (opsOf Tryz.f7 12) = armadaref15_Parse.T12 := by kernel_rfl
theorem armadaref15_Parse.bits12 : waitsOk armadaref15_Parse.T12.2 armadaref15_Parse.B12 = true := by kernel_rfl
set_option maxHeartbeats 8000000 in
set_option maxRecDepth 100000 in
theorem armadaref15_Parse.calls (k : Nat) (a0 : ByteArray) (r1 : List (S32)) (r2 : Int) (r3 : Int) (w : World) (h : armadaref15_Parse.f k a0 = some (r1, r2, r3)) :
  Calls Tryz.prog 7 #[.string a0] w fun e w' => ∃ v0_ : Value, e = .returned (.tuple #[v0_, .int .i64 r2, .int .i64 r3]) ∧ Kd.R k32 32 w' w.heap.size (fun _ => True) v0_ r1 ∧ Below w.heap.size w w' := by
 have hu30 := Tryz.underlying30; have hu32 := Tryz.underlying32; have HB := Aside0.mk (Below.refl w.heap.size w); have H : ((armadaref09_Split.f k a0).bind fun t101 => (armadaref15_Parse.l0 k ([] : List (S32)) t101 0)) = some (r1, r2, r3) := h; clear h; replace H := xb H; obtain ⟨t101, A2, H⟩ := H; have H' := Aside0.mk H; clear H; go_enter Tryz.func7, Tryz.ntmps7; go_wp2_with (first | ((with_reducible refine gate_callee (f := 19) rfl ?_); refine goesL_ (some 14) rfl rfl Tryz.func19 (by kernel_rfl) rfl #[.string a0] rfl xS ?_; (with_reducible refine (armadaref09_Split.calls k a0 t101 _ A2.out).mono ?_); rintro e w3 ⟨v102, rfl, ho0, hb⟩; refine ⟨_, rfl, ?_⟩; have HO103 := Aside0.mk (Kd.R_lower ho0 (below_size xB)); replace HB := Aside0.mk (below_step xB hb); (try clear hb); (try clear ho0)))
 go_loopg [5, 7] k (fun kq v5 v7 w' => ∃ (x5_1 : List (S32)) (x7_1 : Int), v7 = .int .i64 x7_1 ∧ Aside0 (armadaref15_Parse.l0 kq x5_1 t101 x7_1 = some (r1, r2, r3)) ∧ Aside0 (kq ≤ k) ∧ Aside0 (Kd.R k32 32 w' w.heap.size (fun _ => True) v5 x5_1) ∧ Aside0 (Kd.R Kd.string 9 w' w.heap.size (fun _ => True) v102 t101) ∧ Aside0 (Below w.heap.size w w'))
 case atStart => exact ⟨(([] : List (S32))), (0), xR, H', ⟨Nat.le_refl _⟩, ⟨by first | exact Kd.R_nil _ _ _ _ _ | exact Kd.N_nil _ _ _ _ _ | exact Kd.V_nil _ _ _ _ _ | exact Kd.Q_nil _ _ _ _ _ | exact Kd.S_nil _ _ _ _ _⟩, ⟨xQ HO103⟩, ⟨xB⟩⟩
 case round =>
  clear H'
  try clear c1
  try clear p2
  obtain ⟨x5_1, x7_1, rfl, HA, HK1, HO_5, HO_6, HB⟩ := hrel
  cases gk with
  | zero => exact absurd HA.out (by simp [armadaref15_Parse.l0])
  | succ k1 =>
   have H := HA.out; clear HA; simp only [armadaref15_Parse.l0] at H; replace H := xJ H; rcases H with ⟨c4, H⟩ | ⟨c4, H⟩
   ·
    have c4b0 := decide_eq_true c4; clear c4; replace H := xI H; obtain ⟨c5, H⟩ := H; have c5b0 := decide_eq_true c5; clear c5; replace H := xb H; obtain ⟨t105, A6, H⟩ := H; replace H := xJ H; rcases H with ⟨c7, H⟩ | ⟨c7, H⟩
    ·
     have c7b0 := beq_iff_eq.mpr c7; have c7b1 := bne_eq_false_iff_eq.mpr c7; clear c7; replace H := xI H; obtain ⟨c8, H⟩ := H; have c8b0 := decide_eq_true c8; have c8b1 : decide (1 < t105.length) = true := decide_eq_true (by omega); clear c8; replace H := Option.bind_eq_some_iff.mp H; obtain ⟨⟨t109, t110, t111, t112, t113, t114⟩, A90, H⟩ := H; replace H : (if t114 = true then (if 0 < (t105.length : Int) then (if (rdOf ByteArray.empty t105 0).toList = ([] : List UInt8) then (armadaref15_Parse.j1 k1 x5_1 t101 x7_1 t105 true t109 t110 t111 t112 t113) else (if 2 < (t105.length : Int) then (armadaref15_Parse.j1 k1 x5_1 t101 x7_1 t105 ((rdOf ByteArray.empty t105 2).toList == ([] : List UInt8)) t109 t110 t111 t112 t113) else (none))) else (none)) else (armadaref15_Parse.j1 k1 x5_1 t101 x7_1 t105 true t109 t110 t111 t112 t113)) = some (r1, r2, r3) := H; have A9 := Aside0.mk A90; clear A90; have HC10 := Aside0.mk H; clear H; obtain ⟨Ao11, co11, eo11⟩ := Kd.R_slice HO_6.out; subst eo11; obtain ⟨p104, q104, ad104, e104, hx104_0⟩ := xT (Kd.at_string (Kd.R_reads' HO_6.out).2.2 x7_1)
     cases e104
     go_upto_region 10 with (first | ((with_reducible refine gate_callee (f := 20) rfl ?_); refine goesL_ (some 25) rfl rfl Tryz.func20 (by kernel_rfl) rfl #[.string (rdOf ByteArray.empty t101 x7_1), .int .u8 32] rfl xS ?_; (with_reducible refine (armadaref05_Split.calls k1 (rdOf ByteArray.empty t101 x7_1) 32 t105 _ A6.out).mono ?_); rintro e w12 ⟨v106, rfl, ho0, hb⟩; refine ⟨_, rfl, ?_⟩; replace HO_5 := Aside0.mk (Kd.R_below (by (with_reducible repeat (first | apply Kd.R_alloc | apply Kd.R_drewN | apply Kd.R_drew)); exact HO_5.out) hb); have HO107 := Aside0.mk (Kd.R_lower (Kd.R_new' ho0 (Kd.R_lt (by (with_reducible repeat (first | apply Kd.R_alloc | apply Kd.R_drewN | apply Kd.R_drew)); exact HO_6.out))) (below_size xB)); replace HO_6 := Aside0.mk (Kd.R_elder' (by (with_reducible repeat (first | apply Kd.R_alloc | apply Kd.R_drewN | apply Kd.R_drew)); exact HO_6.out) (Kd.R_base ho0) hb); replace HB := Aside0.mk (below_step xB hb); (try clear hb); (try clear ho0); obtain ⟨Ao13, co13, eo13⟩ := Kd.R_slice HO107.out; subst eo13; have p108 : 0 ≤ (1 : Int) := (by omega); have q108 : 1 < (t105.length : Int) := xD; obtain ⟨ad108, e108, hx108_0⟩ := Kd.at_string (Kd.R_reads' HO107.out).2.2 1 p108 q108; cases e108; (try simp only [show (1 : Int).toNat = 1 from rfl, Nat.reduceMul, Nat.reduceEqDiff, Go.Addr.add, ↓reduceIte] at hx108_0); have qi108 : (1 < t105.length) = True := eq_true (by omega); (try rw [show ((1 : Int)).toNat = 1 from rfl] at hx108_0); replace p108 := eq_true p108; replace q108 := eq_true q108) | ((with_reducible refine gate_callee (f := 21) rfl ?_); refine goesL_ (some 34) rfl rfl Tryz.func21 (by kernel_rfl) rfl #[.string (rdOf ByteArray.empty t105 1)] rfl xS ?_; (with_reducible refine (armadaref07_Parse.calls (rdOf ByteArray.empty t105 1) t109 t110 t111 t112 t113 t114 _ A9.out).mono ?_); rintro e w14 ⟨rfl, hb⟩; refine ⟨_, rfl, ?_⟩; replace HO_5 := Aside0.mk (Kd.R_below (by (with_reducible repeat (first | apply Kd.R_alloc | apply Kd.R_drewN | apply Kd.R_drew)); exact HO_5.out) hb); replace HO_6 := Aside0.mk (Kd.R_below (by (with_reducible repeat (first | apply Kd.R_alloc | apply Kd.R_drewN | apply Kd.R_drew)); exact HO_6.out) hb); replace HO107 := Aside0.mk (Kd.R_below (by (with_reducible repeat (first | apply Kd.R_alloc | apply Kd.R_drewN | apply Kd.R_drew)); exact HO107.out) hb); replace HB := Aside0.mk (below_step xB hb); (try clear hb)) | ((with_reducible refine gate_dst (N := 9) rfl ?_); refine box_event ?hg (N := 9) ?hd (cs := #[.int .i64 0, .int .i64 0, .int .i64 0, .string (⟨#[]⟩ : ByteArray), .string (⟨#[]⟩ : ByteArray)]) (t := 30) ?hr ?_; (case hd => rfl); (case hg => rfl); (case hr => first | (go_simp; done) | (go_simp; rfl)); intro gb115 hg w15 hbox hb; replace HO_5 := Aside0.mk (Kd.R_below (by (with_reducible repeat (first | apply Kd.R_alloc | apply Kd.R_drewN | apply Kd.R_drew)); exact HO_5.out) hb); replace HO_6 := Aside0.mk (Kd.R_below (by (with_reducible repeat (first | apply Kd.R_alloc | apply Kd.R_drewN | apply Kd.R_drew)); exact HO_6.out) hb); replace HO107 := Aside0.mk (Kd.R_below (by (with_reducible repeat (first | apply Kd.R_alloc | apply Kd.R_drewN | apply Kd.R_drew)); exact HO107.out) hb); have BK115 := Aside0.mk (hbox); have GW115 := Aside0.mk ((by rw [hg]; exact (below_size xB) : w.heap.size ≤ gb115)); have GE115 := Aside0.mk ((by rw [hg]; exact (below_size xB) : w.heap.size ≤ gb115)); replace HB := Aside0.mk (below_step xB hb); clear hb hbox hg; obtain ⟨hcz16_0, hcz16_1, hcz16_2, hcz16_3, hcz16_4⟩ := xC5 BK115.out; obtain ⟨hfz16_0, hfz16_1, hfz16_2, hfz16_3, hfz16_4⟩ := xF5 BK115.out))
     (try simp only [Act.put, z1, z2, z3])
     go_cut [50] (fun v50 wc => ∃ (kq : Nat) (x50_9 : Bool), v50 = .bool x50_9 ∧ Aside0 (armadaref15_Parse.j1 kq x5_1 t101 x7_1 t105 x50_9 t109 t110 t111 t112 t113 = some (r1, r2, r3)) ∧ Aside0 (kq ≤ k1) ∧ Aside0 (Kd.R k32 32 wc w.heap.size (fun _ => True) u5 x5_1) ∧ Aside0 (Kd.R Kd.string 9 wc w.heap.size (fun k_ => some k_ ≠ ((.slice (some ad108) t105.length co13) : Value).ownBlock) (.slice (some ad104) t101.length co11) t101) ∧ Aside0 (Kd.R Kd.string 9 wc w.heap.size (fun k_ => some k_ ≠ ((.slice (some ad104) t101.length co11) : Value).ownBlock) (.slice (some ad108) t105.length co13) t105) ∧ Aside0 (wc.heap[gb115]? = some (.cells #[.int .i64 t109, .int .i64 t110, .int .i64 t111, .string t112, .string t113] 30 (0, 0))) ∧ Aside0 (Below w.heap.size w wc))
     case first =>
      have H := HC10.out; clear HC10
      by_cases c17 : t114 = true
      ·
       subst c17; rw [if_pos rfl] at H; replace H := xI H; obtain ⟨c18, H⟩ := H; have c18b0 := decide_eq_true c18; have c18b1 : decide (0 < t105.length) = true := decide_eq_true (by omega); clear c18
       (first | rw [c18b0] | (simp only [i64_w, i32_w]; rw [c18b0]) | skip)
       replace H := xJ H; rcases H with ⟨c19, H⟩ | ⟨c19, H⟩
       ·
        have c19b0 := beq_iff_eq.mpr c19; have c19b1 := bne_eq_false_iff_eq.mpr c19; clear c19; have H' := Aside0.mk H; clear H; have p116 : 0 ≤ (0 : Int) := (by omega); have q116 : 0 < (t105.length : Int) := xD; obtain ⟨ad116, e116, hx116_0⟩ := Kd.at_string (Kd.R_reads' HO107.out).2.2 0 p116 q116; obtain rfl := xE e116; have qi116 : (0 < t105.length) = True := eq_true (by omega)
        (try rw [show ((0 : Int)).toNat = 0 from rfl] at hx116_0)
        (try rw [Addr.add_zero'] at hx116_0)
        have hn116_0 : ad108.block ≠ gb115 := Kd.own_blk (Kd.R_ne HO107.out BK115.out (by decide)); have hn116_1 : ad108.block ≠ gb115 := Kd.own_blk (Kd.R_ne HO107.out BK115.out (by decide)); have hn116_2 : ad108.block ≠ gb115 := Kd.own_blk (Kd.R_ne HO107.out BK115.out (by decide)); have hn116_3 : ad108.block ≠ gb115 := Kd.own_blk (Kd.R_ne HO107.out BK115.out (by decide)); have hn116_4 : ad108.block ≠ gb115 := Kd.own_blk (Kd.R_ne HO107.out BK115.out (by decide)); replace hx116_0 := (cell_far (p := ⟨gb115, 0, none⟩) (by first | (rw [add_block]; exact hn116_0) | (show (Addr.add _ _).block ≠ _; rw [add_block]; exact hn116_0) | exact hn116_0) (.int .i64 t109)).trans hx116_0; replace hx116_0 := (cell_far (p := ⟨gb115, 1, none⟩) (by first | (rw [add_block]; exact hn116_1) | (show (Addr.add _ _).block ≠ _; rw [add_block]; exact hn116_1) | exact hn116_1) (.int .i64 t110)).trans hx116_0; replace hx116_0 := (cell_far (p := ⟨gb115, 2, none⟩) (by first | (rw [add_block]; exact hn116_2) | (show (Addr.add _ _).block ≠ _; rw [add_block]; exact hn116_2) | exact hn116_2) (.int .i64 t111)).trans hx116_0; replace hx116_0 := (cell_far (p := ⟨gb115, 3, none⟩) (by first | (rw [add_block]; exact hn116_3) | (show (Addr.add _ _).block ≠ _; rw [add_block]; exact hn116_3) | exact hn116_3) (.string t112)).trans hx116_0; replace hx116_0 := (cell_far (p := ⟨gb115, 4, none⟩) (by first | (rw [add_block]; exact hn116_4) | (show (Addr.add _ _).block ≠ _; rw [add_block]; exact hn116_4) | exact hn116_4) (.string t113)).trans hx116_0; clear hn116_0; clear hn116_1; clear hn116_2; clear hn116_3; clear hn116_4; replace p116 := eq_true p116; replace q116 := eq_true q116; go_wp2; go_meet
        case rel => exact ⟨_, (true), xR, H', ⟨by have := HK1.out; first | omega | exact Nat.le_refl _⟩, ⟨by (with_reducible repeat (first | apply Kd.R_alloc | apply Kd.R_drewN | apply Kd.R_drew)); exact Kd.R_mono (Kd.R_far (p := ⟨gb115, 4, none⟩) (Kd.R_far (p := ⟨gb115, 3, none⟩) (Kd.R_far (p := ⟨gb115, 2, none⟩) (Kd.R_far (p := ⟨gb115, 1, none⟩) (Kd.R_far (p := ⟨gb115, 0, none⟩) (Kd.R_types HO_5.out BK115.out (by decide)) (fun _ hk => hk.2) (.int .i64 t109)) (fun _ hk => hk.2) (.int .i64 t110)) (fun _ hk => hk.2) (.int .i64 t111)) (fun _ hk => hk.2) (.string t112)) (fun _ hk => hk.2) (.string t113)) (fun _ hk => trivial)⟩, ⟨by (with_reducible repeat (first | apply Kd.R_alloc | apply Kd.R_drewN | apply Kd.R_drew)); exact Kd.R_mono (Kd.R_far (p := ⟨gb115, 4, none⟩) (Kd.R_far (p := ⟨gb115, 3, none⟩) (Kd.R_far (p := ⟨gb115, 2, none⟩) (Kd.R_far (p := ⟨gb115, 1, none⟩) (Kd.R_far (p := ⟨gb115, 0, none⟩) (Kd.R_types HO_6.out BK115.out (by decide)) (fun _ hk => hk.2) (.int .i64 t109)) (fun _ hk => hk.2) (.int .i64 t110)) (fun _ hk => hk.2) (.int .i64 t111)) (fun _ hk => hk.2) (.string t112)) (fun _ hk => hk.2) (.string t113)) (fun _ hk => hk.1.2)⟩, ⟨by (with_reducible repeat (first | apply Kd.R_alloc | apply Kd.R_drewN | apply Kd.R_drew)); exact Kd.R_mono (Kd.R_far (p := ⟨gb115, 4, none⟩) (Kd.R_far (p := ⟨gb115, 3, none⟩) (Kd.R_far (p := ⟨gb115, 2, none⟩) (Kd.R_far (p := ⟨gb115, 1, none⟩) (Kd.R_far (p := ⟨gb115, 0, none⟩) (Kd.R_types HO107.out BK115.out (by decide)) (fun _ hk => hk.2) (.int .i64 t109)) (fun _ hk => hk.2) (.int .i64 t110)) (fun _ hk => hk.2) (.int .i64 t111)) (fun _ hk => hk.2) (.string t112)) (fun _ hk => hk.2) (.string t113)) (fun _ hk => hk.1.2)⟩, ⟨by (with_reducible repeat (first | refine blk_drewN ?_ _ | refine blk_drew ?_ | refine blk_alloc ?_ _)); refine blk_put (cs := #[.int .i64 t109, .int .i64 t110, .int .i64 t111, .string t112, .string (⟨#[]⟩ : ByteArray)]) ?_ 4 _ rfl; (with_reducible repeat (first | refine blk_drewN ?_ _ | refine blk_drew ?_ | refine blk_alloc ?_ _)); refine blk_put (cs := #[.int .i64 t109, .int .i64 t110, .int .i64 t111, .string (⟨#[]⟩ : ByteArray), .string (⟨#[]⟩ : ByteArray)]) ?_ 3 _ rfl; (with_reducible repeat (first | refine blk_drewN ?_ _ | refine blk_drew ?_ | refine blk_alloc ?_ _)); refine blk_put (cs := #[.int .i64 t109, .int .i64 t110, .int .i64 0, .string (⟨#[]⟩ : ByteArray), .string (⟨#[]⟩ : ByteArray)]) ?_ 2 _ rfl; (with_reducible repeat (first | refine blk_drewN ?_ _ | refine blk_drew ?_ | refine blk_alloc ?_ _)); refine blk_put (cs := #[.int .i64 t109, .int .i64 0, .int .i64 0, .string (⟨#[]⟩ : ByteArray), .string (⟨#[]⟩ : ByteArray)]) ?_ 1 _ rfl; (with_reducible repeat (first | refine blk_drewN ?_ _ | refine blk_drew ?_ | refine blk_alloc ?_ _)); refine blk_put (cs := #[.int .i64 0, .int .i64 0, .int .i64 0, .string (⟨#[]⟩ : ByteArray), .string (⟨#[]⟩ : ByteArray)]) ?_ 0 _ rfl; (with_reducible repeat (first | refine blk_drewN ?_ _ | refine blk_drew ?_ | refine blk_alloc ?_ _)); exact BK115.out⟩, ⟨xB⟩⟩
       have c19b0 := beq_eq_false_iff_ne.mpr c19; have c19b1 := bne_iff_ne.mpr c19; replace H := xI H; obtain ⟨c20, H⟩ := H; have c20b0 := decide_eq_true c20; have c20b1 : decide (2 < t105.length) = true := decide_eq_true (by omega); clear c20; have H' := Aside0.mk H; clear H; have p116 : 0 ≤ (0 : Int) := (by omega); have q116 : 0 < (t105.length : Int) := xD; obtain ⟨ad116, e116, hx116_0⟩ := Kd.at_string (Kd.R_reads' HO107.out).2.2 0 p116 q116; obtain rfl := xE e116; have qi116 : (0 < t105.length) = True := eq_true (by omega)
       (try rw [show ((0 : Int)).toNat = 0 from rfl] at hx116_0)
       (try rw [Addr.add_zero'] at hx116_0)
       have hn116_0 : ad108.block ≠ gb115 := Kd.own_blk (Kd.R_ne HO107.out BK115.out (by decide)); have hn116_1 : ad108.block ≠ gb115 := Kd.own_blk (Kd.R_ne HO107.out BK115.out (by decide)); have hn116_2 : ad108.block ≠ gb115 := Kd.own_blk (Kd.R_ne HO107.out BK115.out (by decide)); have hn116_3 : ad108.block ≠ gb115 := Kd.own_blk (Kd.R_ne HO107.out BK115.out (by decide)); have hn116_4 : ad108.block ≠ gb115 := Kd.own_blk (Kd.R_ne HO107.out BK115.out (by decide)); replace hx116_0 := (cell_far (p := ⟨gb115, 0, none⟩) (by first | (rw [add_block]; exact hn116_0) | (show (Addr.add _ _).block ≠ _; rw [add_block]; exact hn116_0) | exact hn116_0) (.int .i64 t109)).trans hx116_0; replace hx116_0 := (cell_far (p := ⟨gb115, 1, none⟩) (by first | (rw [add_block]; exact hn116_1) | (show (Addr.add _ _).block ≠ _; rw [add_block]; exact hn116_1) | exact hn116_1) (.int .i64 t110)).trans hx116_0; replace hx116_0 := (cell_far (p := ⟨gb115, 2, none⟩) (by first | (rw [add_block]; exact hn116_2) | (show (Addr.add _ _).block ≠ _; rw [add_block]; exact hn116_2) | exact hn116_2) (.int .i64 t111)).trans hx116_0; replace hx116_0 := (cell_far (p := ⟨gb115, 3, none⟩) (by first | (rw [add_block]; exact hn116_3) | (show (Addr.add _ _).block ≠ _; rw [add_block]; exact hn116_3) | exact hn116_3) (.string t112)).trans hx116_0; replace hx116_0 := (cell_far (p := ⟨gb115, 4, none⟩) (by first | (rw [add_block]; exact hn116_4) | (show (Addr.add _ _).block ≠ _; rw [add_block]; exact hn116_4) | exact hn116_4) (.string t113)).trans hx116_0; clear hn116_0; clear hn116_1; clear hn116_2; clear hn116_3; clear hn116_4; replace p116 := eq_true p116; replace q116 := eq_true q116; have p117 : 0 ≤ (2 : Int) := (by omega); have q117 : 2 < (t105.length : Int) := xD; obtain ⟨ad117, e117, hx117_0⟩ := Kd.at_string (Kd.R_reads' HO107.out).2.2 2 p117 q117; obtain rfl := xE e117
       (try simp only [show (2 : Int).toNat = 2 from rfl, Nat.reduceMul, Nat.reduceEqDiff, Go.Addr.add, ↓reduceIte] at hx117_0)
       have qi117 : (2 < t105.length) = True := eq_true (by omega)
       (try rw [show ((2 : Int)).toNat = 2 from rfl] at hx117_0)
       have hn117_0 : ad108.block ≠ gb115 := Kd.own_blk (Kd.R_ne HO107.out BK115.out (by decide)); have hn117_1 : ad108.block ≠ gb115 := Kd.own_blk (Kd.R_ne HO107.out BK115.out (by decide)); have hn117_2 : ad108.block ≠ gb115 := Kd.own_blk (Kd.R_ne HO107.out BK115.out (by decide)); have hn117_3 : ad108.block ≠ gb115 := Kd.own_blk (Kd.R_ne HO107.out BK115.out (by decide)); have hn117_4 : ad108.block ≠ gb115 := Kd.own_blk (Kd.R_ne HO107.out BK115.out (by decide)); replace hx117_0 := (cell_far (p := ⟨gb115, 0, none⟩) (by first | (rw [add_block]; exact hn117_0) | (show (Addr.add _ _).block ≠ _; rw [add_block]; exact hn117_0) | exact hn117_0) (.int .i64 t109)).trans hx117_0; replace hx117_0 := (cell_far (p := ⟨gb115, 1, none⟩) (by first | (rw [add_block]; exact hn117_1) | (show (Addr.add _ _).block ≠ _; rw [add_block]; exact hn117_1) | exact hn117_1) (.int .i64 t110)).trans hx117_0; replace hx117_0 := (cell_far (p := ⟨gb115, 2, none⟩) (by first | (rw [add_block]; exact hn117_2) | (show (Addr.add _ _).block ≠ _; rw [add_block]; exact hn117_2) | exact hn117_2) (.int .i64 t111)).trans hx117_0; replace hx117_0 := (cell_far (p := ⟨gb115, 3, none⟩) (by first | (rw [add_block]; exact hn117_3) | (show (Addr.add _ _).block ≠ _; rw [add_block]; exact hn117_3) | exact hn117_3) (.string t112)).trans hx117_0; replace hx117_0 := (cell_far (p := ⟨gb115, 4, none⟩) (by first | (rw [add_block]; exact hn117_4) | (show (Addr.add _ _).block ≠ _; rw [add_block]; exact hn117_4) | exact hn117_4) (.string t113)).trans hx117_0; clear hn117_0; clear hn117_1; clear hn117_2; clear hn117_3; clear hn117_4; replace p117 := eq_true p117; replace q117 := eq_true q117; go_wp2; go_meet
       case rel => exact ⟨_, (((rdOf ByteArray.empty t105 2).toList == ([] : List UInt8))), xR, H', ⟨by have := HK1.out; first | omega | exact Nat.le_refl _⟩, ⟨by (with_reducible repeat (first | apply Kd.R_alloc | apply Kd.R_drewN | apply Kd.R_drew)); exact Kd.R_mono (Kd.R_far (p := ⟨gb115, 4, none⟩) (Kd.R_far (p := ⟨gb115, 3, none⟩) (Kd.R_far (p := ⟨gb115, 2, none⟩) (Kd.R_far (p := ⟨gb115, 1, none⟩) (Kd.R_far (p := ⟨gb115, 0, none⟩) (Kd.R_types HO_5.out BK115.out (by decide)) (fun _ hk => hk.2) (.int .i64 t109)) (fun _ hk => hk.2) (.int .i64 t110)) (fun _ hk => hk.2) (.int .i64 t111)) (fun _ hk => hk.2) (.string t112)) (fun _ hk => hk.2) (.string t113)) (fun _ hk => trivial)⟩, ⟨by (with_reducible repeat (first | apply Kd.R_alloc | apply Kd.R_drewN | apply Kd.R_drew)); exact Kd.R_mono (Kd.R_far (p := ⟨gb115, 4, none⟩) (Kd.R_far (p := ⟨gb115, 3, none⟩) (Kd.R_far (p := ⟨gb115, 2, none⟩) (Kd.R_far (p := ⟨gb115, 1, none⟩) (Kd.R_far (p := ⟨gb115, 0, none⟩) (Kd.R_types HO_6.out BK115.out (by decide)) (fun _ hk => hk.2) (.int .i64 t109)) (fun _ hk => hk.2) (.int .i64 t110)) (fun _ hk => hk.2) (.int .i64 t111)) (fun _ hk => hk.2) (.string t112)) (fun _ hk => hk.2) (.string t113)) (fun _ hk => hk.1.2)⟩, ⟨by (with_reducible repeat (first | apply Kd.R_alloc | apply Kd.R_drewN | apply Kd.R_drew)); exact Kd.R_mono (Kd.R_far (p := ⟨gb115, 4, none⟩) (Kd.R_far (p := ⟨gb115, 3, none⟩) (Kd.R_far (p := ⟨gb115, 2, none⟩) (Kd.R_far (p := ⟨gb115, 1, none⟩) (Kd.R_far (p := ⟨gb115, 0, none⟩) (Kd.R_types HO107.out BK115.out (by decide)) (fun _ hk => hk.2) (.int .i64 t109)) (fun _ hk => hk.2) (.int .i64 t110)) (fun _ hk => hk.2) (.int .i64 t111)) (fun _ hk => hk.2) (.string t112)) (fun _ hk => hk.2) (.string t113)) (fun _ hk => hk.1.2)⟩, ⟨by (with_reducible repeat (first | refine blk_drewN ?_ _ | refine blk_drew ?_ | refine blk_alloc ?_ _)); refine blk_put (cs := #[.int .i64 t109, .int .i64 t110, .int .i64 t111, .string t112, .string (⟨#[]⟩ : ByteArray)]) ?_ 4 _ rfl; (with_reducible repeat (first | refine blk_drewN ?_ _ | refine blk_drew ?_ | refine blk_alloc ?_ _)); refine blk_put (cs := #[.int .i64 t109, .int .i64 t110, .int .i64 t111, .string (⟨#[]⟩ : ByteArray), .string (⟨#[]⟩ : ByteArray)]) ?_ 3 _ rfl; (with_reducible repeat (first | refine blk_drewN ?_ _ | refine blk_drew ?_ | refine blk_alloc ?_ _)); refine blk_put (cs := #[.int .i64 t109, .int .i64 t110, .int .i64 0, .string (⟨#[]⟩ : ByteArray), .string (⟨#[]⟩ : ByteArray)]) ?_ 2 _ rfl; (with_reducible repeat (first | refine blk_drewN ?_ _ | refine blk_drew ?_ | refine blk_alloc ?_ _)); refine blk_put (cs := #[.int .i64 t109, .int .i64 0, .int .i64 0, .string (⟨#[]⟩ : ByteArray), .string (⟨#[]⟩ : ByteArray)]) ?_ 1 _ rfl; (with_reducible repeat (first | refine blk_drewN ?_ _ | refine blk_drew ?_ | refine blk_alloc ?_ _)); refine blk_put (cs := #[.int .i64 0, .int .i64 0, .int .i64 0, .string (⟨#[]⟩ : ByteArray), .string (⟨#[]⟩ : ByteArray)]) ?_ 0 _ rfl; (with_reducible repeat (first | refine blk_drewN ?_ _ | refine blk_drew ?_ | refine blk_alloc ?_ _)); exact BK115.out⟩, ⟨xB⟩⟩
      replace c17 := Bool.eq_false_iff.mpr c17; subst c17; rw [if_neg (show ¬ (false = true) by decide)] at H; have H' := Aside0.mk H; clear H; go_wp2; go_meet
      case rel => exact ⟨_, (true), xR, H', ⟨by have := HK1.out; first | omega | exact Nat.le_refl _⟩, ⟨by (with_reducible repeat (first | apply Kd.R_alloc | apply Kd.R_drewN | apply Kd.R_drew)); exact Kd.R_mono (Kd.R_far (p := ⟨gb115, 4, none⟩) (Kd.R_far (p := ⟨gb115, 3, none⟩) (Kd.R_far (p := ⟨gb115, 2, none⟩) (Kd.R_far (p := ⟨gb115, 1, none⟩) (Kd.R_far (p := ⟨gb115, 0, none⟩) (Kd.R_types HO_5.out BK115.out (by decide)) (fun _ hk => hk.2) (.int .i64 t109)) (fun _ hk => hk.2) (.int .i64 t110)) (fun _ hk => hk.2) (.int .i64 t111)) (fun _ hk => hk.2) (.string t112)) (fun _ hk => hk.2) (.string t113)) (fun _ hk => trivial)⟩, ⟨by (with_reducible repeat (first | apply Kd.R_alloc | apply Kd.R_drewN | apply Kd.R_drew)); exact Kd.R_mono (Kd.R_far (p := ⟨gb115, 4, none⟩) (Kd.R_far (p := ⟨gb115, 3, none⟩) (Kd.R_far (p := ⟨gb115, 2, none⟩) (Kd.R_far (p := ⟨gb115, 1, none⟩) (Kd.R_far (p := ⟨gb115, 0, none⟩) (Kd.R_types HO_6.out BK115.out (by decide)) (fun _ hk => hk.2) (.int .i64 t109)) (fun _ hk => hk.2) (.int .i64 t110)) (fun _ hk => hk.2) (.int .i64 t111)) (fun _ hk => hk.2) (.string t112)) (fun _ hk => hk.2) (.string t113)) (fun _ hk => hk.1.2)⟩, ⟨by (with_reducible repeat (first | apply Kd.R_alloc | apply Kd.R_drewN | apply Kd.R_drew)); exact Kd.R_mono (Kd.R_far (p := ⟨gb115, 4, none⟩) (Kd.R_far (p := ⟨gb115, 3, none⟩) (Kd.R_far (p := ⟨gb115, 2, none⟩) (Kd.R_far (p := ⟨gb115, 1, none⟩) (Kd.R_far (p := ⟨gb115, 0, none⟩) (Kd.R_types HO107.out BK115.out (by decide)) (fun _ hk => hk.2) (.int .i64 t109)) (fun _ hk => hk.2) (.int .i64 t110)) (fun _ hk => hk.2) (.int .i64 t111)) (fun _ hk => hk.2) (.string t112)) (fun _ hk => hk.2) (.string t113)) (fun _ hk => hk.1.2)⟩, ⟨by (with_reducible repeat (first | refine blk_drewN ?_ _ | refine blk_drew ?_ | refine blk_alloc ?_ _)); refine blk_put (cs := #[.int .i64 t109, .int .i64 t110, .int .i64 t111, .string t112, .string (⟨#[]⟩ : ByteArray)]) ?_ 4 _ rfl; (with_reducible repeat (first | refine blk_drewN ?_ _ | refine blk_drew ?_ | refine blk_alloc ?_ _)); refine blk_put (cs := #[.int .i64 t109, .int .i64 t110, .int .i64 t111, .string (⟨#[]⟩ : ByteArray), .string (⟨#[]⟩ : ByteArray)]) ?_ 3 _ rfl; (with_reducible repeat (first | refine blk_drewN ?_ _ | refine blk_drew ?_ | refine blk_alloc ?_ _)); refine blk_put (cs := #[.int .i64 t109, .int .i64 t110, .int .i64 0, .string (⟨#[]⟩ : ByteArray), .string (⟨#[]⟩ : ByteArray)]) ?_ 2 _ rfl; (with_reducible repeat (first | refine blk_drewN ?_ _ | refine blk_drew ?_ | refine blk_alloc ?_ _)); refine blk_put (cs := #[.int .i64 t109, .int .i64 0, .int .i64 0, .string (⟨#[]⟩ : ByteArray), .string (⟨#[]⟩ : ByteArray)]) ?_ 1 _ rfl; (with_reducible repeat (first | refine blk_drewN ?_ _ | refine blk_drew ?_ | refine blk_alloc ?_ _)); refine blk_put (cs := #[.int .i64 0, .int .i64 0, .int .i64 0, .string (⟨#[]⟩ : ByteArray), .string (⟨#[]⟩ : ByteArray)]) ?_ 0 _ rfl; (with_reducible repeat (first | refine blk_drewN ?_ _ | refine blk_drew ?_ | refine blk_alloc ?_ _)); exact BK115.out⟩, ⟨xB⟩⟩
     case rest =>
      clear HC10
      try clear c1
      try clear p1
      try clear q1
      try clear hx1
      try clear qi1
      try clear c2
      try clear p2
      try clear c4
      try clear c4b0
      try clear c5
      try clear c5b0
      try clear c7
      try clear c7b0
      try clear c7b1
      try clear c8
      try clear c8b0
      try clear c8b1
      try clear p10
      try clear q10
      try clear hx10
      try clear qi10
      try clear p11
      try clear q11
      try clear hx11
      try clear qi11
      try clear c17
      try clear c18
      try clear c18b0
      try clear c18b1
      try clear c19
      try clear c19b0
      try clear c19b1
      try clear c20
      try clear c20b0
      try clear c20b1
      try clear hcz16_0
      try clear hcz16_1
      try clear hcz16_2
      try clear hcz16_3
      try clear hcz16_4
      try clear hfz16_0
      try clear hfz16_1
      try clear hfz16_2
      try clear hfz16_3
      try clear hfz16_4
      try clear hx104_0
      try clear hx108_0
      try clear hx116_0
      try clear hx117_0
      try clear p104
      try clear p108
      try clear p116
      try clear p117
      try clear p2
      try clear q104
      try clear q108
      try clear q116
      try clear q117
      obtain ⟨kq, x50_9, rfl, HA, HJ9, HO_5, HO_6, HO_8, BK115, HB⟩ := hcut
      cases kq with
      | zero => exact absurd HA.out (by simp [armadaref15_Parse.j1])
      | succ kj9 =>
       have H := HA.out; clear HA; simp only [armadaref15_Parse.j1] at H
       by_cases c21 : x50_9 = true
       ·
        subst c21; rw [if_pos rfl] at H; simp only [Option.some.injEq, Prod.mk.injEq] at H; obtain ⟨rfl, rfl, rfl⟩ := H; go_wp2; go_ret3; exact ⟨_, xW, by first | exact Kd.R_nil _ _ _ _ _ | exact Kd.N_nil _ _ _ _ _ | exact Kd.V_nil _ _ _ _ _ | exact Kd.Q_nil _ _ _ _ _ | exact Kd.S_nil _ _ _ _ _, xB⟩
       replace c21 := Bool.eq_false_iff.mpr c21; subst c21; rw [if_neg (show ¬ (false = true) by decide)] at H; replace H := xI H; obtain ⟨c22, H⟩ := H; have c22b0 := decide_eq_true c22; have c22b1 : decide (0 < t105.length) = true := decide_eq_true (by omega); clear c22; replace H := xI H; obtain ⟨c23, H⟩ := H; have c23b0 := decide_eq_true c23; have c23b1 : decide (2 < t105.length) = true := decide_eq_true (by omega); clear c23; replace H := Option.bind_eq_some_iff.mp H; obtain ⟨⟨t120, t123⟩, A240, H⟩ := H; replace H : (if t123 = 0 then (armadaref15_Parse.l0 kj9 t120 t101 (wrap64 (x7_1 + 1))) else (some (([] : List (S32)), x7_1, t123))) = some (r1, r2, r3) := H; have A24 := Aside0.mk A240; clear A240; replace H := xJ H; rcases H with ⟨c25, H⟩ | ⟨c25, H⟩
       ·
        have c25b0 := beq_iff_eq.mpr c25; have c25b1 := bne_eq_false_iff_eq.mpr c25; clear c25; have H' := Aside0.mk H; clear H
        try go_wp2
        have n0_ := Aside0.mk (Kd.R_drew HO_5.out); have n1_ := Aside0.mk (Kd.R_drew HO_6.out); have n2_ := Aside0.mk (Kd.R_drew HO_8.out); have n3_ := Aside0.mk (blk_drew BK115.out); have n4_ := Aside0.mk (below_drew1 HB.out); clear HO_5; clear HO_6; clear HO_8; clear BK115; clear HB; have HO_5 := n0_; have HO_6 := n1_; have HO_8 := n2_; have BK115 := n3_; have HB := n4_; clear n0_ n1_ n2_ n3_ n4_; have p118 : 0 ≤ (0 : Int) := (by omega); have q118 : 0 < (t105.length : Int) := xD; obtain ⟨ad118, e118, hx118_0⟩ := Kd.at_string (Kd.R_reads' HO_8.out).2.2 0 p118 q118; obtain rfl := xE e118; have qi118 : (0 < t105.length) = True := eq_true (by omega)
        (try rw [show ((0 : Int)).toNat = 0 from rfl] at hx118_0)
        (try rw [Addr.add_zero'] at hx118_0)
        replace p118 := eq_true p118; replace q118 := eq_true q118; have p119 : 0 ≤ (2 : Int) := (by omega); have q119 : 2 < (t105.length : Int) := xD; obtain ⟨ad119, e119, hx119_0⟩ := Kd.at_string (Kd.R_reads' HO_8.out).2.2 2 p119 q119; obtain rfl := xE e119
        (try simp only [show (2 : Int).toNat = 2 from rfl, Nat.reduceMul, Nat.reduceEqDiff, Go.Addr.add, ↓reduceIte] at hx119_0)
        have qi119 : (2 < t105.length) = True := eq_true (by omega)
        (try rw [show ((2 : Int)).toNat = 2 from rfl] at hx119_0)
        replace p119 := eq_true p119; replace q119 := eq_true q119; obtain ⟨Ao27, co27, eo27⟩ := Kd.R_slice HO_5.out
        (first | subst eo27 | (injection eo27 with f1_ f2_ f3_; have f4_ := f1_.symm; have f5_ := f3_.symm; clear f1_ f2_ f3_; subst f4_; subst f5_))
        refine start_ (n := 15) (S := fun w' => w'.cell? ⟨gb115, 0, none⟩ = some (.int .i64 t109) ∧ w'.cell? ⟨gb115, 1, none⟩ = some (.int .i64 t110) ∧ w'.cell? ⟨gb115, 2, none⟩ = some (.int .i64 t111) ∧ w'.cell? ⟨gb115, 3, none⟩ = some (.string t112) ∧ w'.cell? ⟨gb115, 4, none⟩ = some (.string t113) ∧ w'.cell? ad108 = some (.string (rdOf ByteArray.empty t105 0)) ∧ w'.cell? ⟨ad108.block, ad108.off + 2, none⟩ = some (.string (rdOf ByteArray.empty t105 2))) (ds := []) #[ff, ff, ff, ff, ff, ff, ff, ff, ff, ff, ff, ff, ff, ff, ff] (by kernel_rfl) rfl rfl ⟨(blk_cell BK115.out 0).trans rfl, (blk_cell BK115.out 1).trans rfl, (blk_cell BK115.out 2).trans rfl, (blk_cell BK115.out 3).trans rfl, (blk_cell BK115.out 4).trans rfl, hx118_0, hx119_0⟩ (fun hHeld => ?_); refine with_tabW armadaref15_Parse.tab12 armadaref15_Parse.bits12 (fun HT_ HW_ => ?_)
        generalize wc.drew = w26 at HO_5 HO_6 HO_8 BK115 HB hx118_0 hx119_0 hHeld ⊢
        refine pure_ (i := 0) (N := some 53) (v := ?_) (a' := ?_) #[tt, ff, ff, ff, ff, ff, ff, ff, ff, ff, ff, ff, ff, ff, ff] rfl rfl (any_of HT_.out (by kernel_rfl)) (fun _ _ _ h => h) (Or.inl ⟨by rfl, ?_⟩) ?_ ?_
        rotate_left
        ·
         intro w'; go_simp
         with_reducible rfl
        rotate_left
        ·
         simp only [Act.put, z1, z2, z3, i64_w, i32_w]
         rfl
        refine pure_ (i := 1) (N := some 54) (v := ?_) (a' := ?_) #[tt, tt, ff, ff, ff, ff, ff, ff, ff, ff, ff, ff, ff, ff, ff] rfl rfl (any_of HT_.out (by kernel_rfl)) (fun _ _ _ h => h) (Or.inl ⟨by rfl, ?_⟩) ?_ ?_
        rotate_left
        ·
         intro w'; go_simp
         with_reducible rfl
        rotate_left
        ·
         simp only [Act.put, z1, z2, z3, i64_w, i32_w]
         rfl
        refine pure_ (i := 2) (N := some 55) (v := ?_) (a' := ?_) #[tt, tt, tt, ff, ff, ff, ff, ff, ff, ff, ff, ff, ff, ff, ff] rfl rfl (any_of HT_.out (by kernel_rfl)) (fun _ _ _ h => h) (Or.inl ⟨by rfl, ?_⟩) ?_ ?_
        rotate_left
        ·
         intro w'; go_simp
         with_reducible rfl
        rotate_left
        ·
         simp only [Act.put, z1, z2, z3, i64_w, i32_w]
         rfl
        refine pure_ (i := 5) (N := some 58) (v := ?_) (a' := ?_) #[tt, tt, tt, ff, ff, tt, ff, ff, ff, ff, ff, ff, ff, ff, ff] rfl rfl (any_of HT_.out (by kernel_rfl)) (fun _ _ _ h => h) (Or.inl ⟨by rfl, ?_⟩) ?_ ?_
        rotate_left
        ·
         intro w'; go_simp
         with_reducible rfl
        rotate_left
        ·
         simp only [Act.put, z1, z2, z3, i64_w, i32_w]
         rfl
        refine pure_ (i := 6) (N := some 59) (v := ?_) (a' := ?_) #[tt, tt, tt, ff, ff, tt, tt, ff, ff, ff, ff, ff, ff, ff, ff] rfl rfl (any_of HT_.out (by kernel_rfl)) (fun _ _ _ h => h) (Or.inl ⟨by rfl, ?_⟩) ?_ ?_
        rotate_left
        ·
         intro w'; go_simp
         with_reducible rfl
        rotate_left
        ·
         simp only [Act.put, z1, z2, z3, i64_w, i32_w]
         rfl
        refine take_ (i := 3) (N := some 56) (v := ?_) (a' := ?_) #[tt, tt, tt, tt, ff, tt, tt, ff, ff, ff, ff, ff, ff, ff, ff] rfl rfl (take_ofW HT_.out HW_.out (by kernel_rfl)) (fun _ _ _ h => h) (Or.inl ⟨by rfl, ?_⟩) hHeld ?_ ?_
        rotate_left
        ·
         rintro w' ⟨s0, s1, s2, s3, s4, s5, s6⟩
         go_simp
         with_reducible rfl
        rotate_left
        ·
         simp only [Act.put, z1, z2, z3, i64_w, i32_w]
         rfl
        refine take_ (i := 4) (N := some 57) (v := ?_) (a' := ?_) #[tt, tt, tt, tt, tt, tt, tt, ff, ff, ff, ff, ff, ff, ff, ff] rfl rfl (take_ofW HT_.out HW_.out (by kernel_rfl)) (fun _ _ _ h => h) (Or.inl ⟨by rfl, ?_⟩) hHeld ?_ ?_
        rotate_left
        ·
         rintro w' ⟨s0, s1, s2, s3, s4, s5, s6⟩
         go_simp
         with_reducible rfl
        rotate_left
        ·
         simp only [Act.put, z1, z2, z3, i64_w, i32_w]
         rfl
        refine take_ (i := 7) (N := some 60) (v := ?_) (a' := ?_) #[tt, tt, tt, tt, tt, tt, tt, tt, ff, ff, ff, ff, ff, ff, ff] rfl rfl (take_ofW HT_.out HW_.out (by kernel_rfl)) (fun _ _ _ h => h) (Or.inl ⟨by rfl, ?_⟩) hHeld ?_ ?_
        rotate_left
        ·
         rintro w' ⟨s0, s1, s2, s3, s4, s5, s6⟩
         go_simp
         with_reducible rfl
        rotate_left
        ·
         simp only [Act.put, z1, z2, z3, i64_w, i32_w]
         rfl
        refine pure_ (i := 8) (N := some 61) (v := ?_) (a' := ?_) #[tt, tt, tt, tt, tt, tt, tt, tt, tt, ff, ff, ff, ff, ff, ff] rfl rfl (any_of HT_.out (by kernel_rfl)) (fun _ _ _ h => h) (Or.inl ⟨by rfl, ?_⟩) ?_ ?_
        rotate_left
        ·
         intro w'; go_simp
         with_reducible rfl
        rotate_left
        ·
         simp only [Act.put, z1, z2, z3, i64_w, i32_w]
         rfl
        refine one_ (i := 9) (N := some 62) #[tt, tt, tt, tt, tt, tt, tt, tt, tt, tt, ff, ff, ff, ff, ff] rfl rfl (one_of HT_.out (by kernel_rfl)) (by decide) (fun K hK => ?_); refine goes_ Tryz.func13 (by kernel_rfl) rfl #[.slice Ao27 x5_1.length co27, .agg #[.string (rdOf ByteArray.empty t105 0), .int .i64 t109, .int .i64 t110, .int .i64 t111, .string t112, .string t113, .string (rdOf ByteArray.empty t105 2)]] (by rfl) rfl rfl xS ?_
        with_reducible refine (armadaref15_Add.calls _ _ x5_1 (rdOf ByteArray.empty t105 0) t109 t110 t111 t112 t113 (rdOf ByteArray.empty t105 2) t120 t123 _ ?side1 ?side2 A24.out).mono ?_
        (case side1 => repeat (first | exact (Kd.R_reads' HO_5.out).2.2 | (with_reducible refine Kd.C_alloc ?_ _) | (with_reducible refine Kd.C_drewN ?_ _) | (with_reducible refine Kd.C_drew ?_)))
        (case side2 => exact (Kd.R_reads' HO_5.out).2.1)
        rintro e w28 ⟨v121, rfl, ho0, hb⟩
        have HS5_ := (hb.cell (World.block_lt_of_cell? _ _ (hHeld.2.2.2.2.2.1))).trans (hHeld.2.2.2.2.2.1); have HS6_ := (hb.cell (World.block_lt_of_cell? _ _ (hHeld.2.2.2.2.2.2))).trans (hHeld.2.2.2.2.2.2); refine ⟨_, rfl, ?_⟩; have n0_ := Aside0.mk (Kd.R_elder' (by (with_reducible repeat (first | apply Kd.R_alloc | apply Kd.R_drewN | apply Kd.R_drew)); exact HO_5.out) (Kd.R_base ho0) hb); have n1_ := Aside0.mk (Kd.R_below (by (with_reducible repeat (first | apply Kd.R_alloc | apply Kd.R_drewN | apply Kd.R_drew)); exact HO_6.out) hb); have n2_ := Aside0.mk (Kd.R_below (by (with_reducible repeat (first | apply Kd.R_alloc | apply Kd.R_drewN | apply Kd.R_drew)); exact HO_8.out) hb); have n3_ := Aside0.mk (Kd.R_lower (Kd.R_new' ho0 (Kd.R_lt (by (with_reducible repeat (first | apply Kd.R_alloc | apply Kd.R_drewN | apply Kd.R_drew)); exact HO_5.out))) (below_size xB)); have n4_ := Aside0.mk (blk_below (g := gb115) (o := .cells #[.int .i64 t109, .int .i64 t110, .int .i64 t111, .string t112, .string t113] 30 (0, 0)) xK hb); have n5_ := Aside0.mk (below_step xB hb); clear HO_5; clear HO_6; clear HO_8; clear BK115; clear HB; have HO_5 := n0_; have HO_6 := n1_; have HO_8 := n2_; have HO122 := n3_; have BK115 := n4_; have HB := n5_; clear n0_ n1_ n2_ n3_ n4_ n5_
        (try clear hb)
        (try clear hb2)
        (try clear hk)
        (try clear hi)
        (try clear ho0)
        refine hK.out _ _ ⟨(blk_cell BK115.out 0).trans rfl, (blk_cell BK115.out 1).trans rfl, (blk_cell BK115.out 2).trans rfl, (blk_cell BK115.out 3).trans rfl, (blk_cell BK115.out 4).trans rfl, HS5_, HS6_⟩ (fun hHeld => ?_); clear hK K; refine norm_ (a' := ?_) ?_ ?_
        rotate_left
        ·
         show Act.put _ (some 62) _ = _
         simp only [Act.put, z1, z2, z3, i64_w, i32_w]
         rfl
        refine pure_ (i := 10) (N := some 52) (v := ?_) (a' := ?_) #[tt, tt, tt, tt, tt, tt, tt, tt, tt, tt, tt, ff, ff, ff, ff] rfl rfl (any_of HT_.out (by kernel_rfl)) (fun _ _ _ h => h) (Or.inl ⟨by rfl, ?_⟩) ?_ ?_
        rotate_left
        ·
         intro w'; go_simp
         with_reducible rfl
        rotate_left
        ·
         simp only [Act.put, z1, z2, z3, i64_w, i32_w]
         rfl
        refine pure_ (i := 11) (N := some 63) (v := ?_) (a' := ?_) #[tt, tt, tt, tt, tt, tt, tt, tt, tt, tt, tt, tt, ff, ff, ff] rfl rfl (any_of HT_.out (by kernel_rfl)) (fun _ _ _ h => h) (Or.inl ⟨by rfl, ?_⟩) ?_ ?_
        rotate_left
        ·
         intro w'; go_simp
         with_reducible rfl
        rotate_left
        ·
         simp only [Act.put, z1, z2, z3, i64_w, i32_w]
         rfl
        refine pure_ (i := 12) (N := some 64) (v := ?_) (a' := ?_) #[tt, tt, tt, tt, tt, tt, tt, tt, tt, tt, tt, tt, tt, ff, ff] rfl rfl (any_of HT_.out (by kernel_rfl)) (fun _ _ _ h => h) (Or.inl ⟨by rfl, ?_⟩) ?_ ?_
        rotate_left
        ·
         intro w'; go_simp
         with_reducible rfl
        rotate_left
        ·
         simp only [Act.put, z1, z2, z3, i64_w, i32_w]
         rfl
        refine pure_ (i := 13) (N := some 11) (v := ?_) (a' := ?_) #[tt, tt, tt, tt, tt, tt, tt, tt, tt, tt, tt, tt, tt, tt, ff] rfl rfl (any_of HT_.out (by kernel_rfl)) (fun _ _ _ h => h) (Or.inl ⟨by rfl, ?_⟩) ?_ ?_
        rotate_left
        ·
         intro w'; go_simp
         with_reducible rfl
        rotate_left
        ·
         simp only [Act.put, z1, z2, z3, i64_w, i32_w]
         rfl
        refine pure_ (i := 14) (N := some 12) (v := ?_) (a' := ?_) #[tt, tt, tt, tt, tt, tt, tt, tt, tt, tt, tt, tt, tt, tt, tt] rfl rfl (any_of HT_.out (by kernel_rfl)) (fun _ _ _ h => h) (Or.inl ⟨by rfl, ?_⟩) ?_ ?_
        rotate_left
        ·
         intro w'; go_simp
         with_reducible rfl
        rotate_left
        ·
         simp only [Act.put, z1, z2, z3, i64_w, i32_w]
         rfl
        refine done_ (done_of HT_.out (by kernel_rfl)) ?_
        try go_wp2
        go_roundg kj9
        case measure => have := HK1.out; have := HJ9.out; omega
        case rel => exact ⟨(t120), (wrap64 (x7_1 + 1)), xR, H', ⟨by have := HK1.out; have := HJ9.out; omega⟩, ⟨by (with_reducible repeat (first | apply Kd.R_alloc | apply Kd.R_drewN | apply Kd.R_drew)); exact Kd.R_mono HO122.out (fun _ hk => trivial)⟩, ⟨by (with_reducible repeat (first | apply Kd.R_alloc | apply Kd.R_drewN | apply Kd.R_drew)); exact Kd.R_mono HO_6.out (fun _ hk => trivial)⟩, ⟨xB⟩⟩
       have c25b0 := beq_eq_false_iff_ne.mpr c25; have c25b1 := bne_iff_ne.mpr c25; simp only [Option.some.injEq, Prod.mk.injEq] at H; obtain ⟨rfl, rfl, rfl⟩ := H
       try go_wp2
       have n0_ := Aside0.mk (Kd.R_drew HO_5.out); have n1_ := Aside0.mk (Kd.R_drew HO_6.out); have n2_ := Aside0.mk (Kd.R_drew HO_8.out); have n3_ := Aside0.mk (blk_drew BK115.out); have n4_ := Aside0.mk (below_drew1 HB.out); clear HO_5; clear HO_6; clear HO_8; clear BK115; clear HB; have HO_5 := n0_; have HO_6 := n1_; have HO_8 := n2_; have BK115 := n3_; have HB := n4_; clear n0_ n1_ n2_ n3_ n4_; have p118 : 0 ≤ (0 : Int) := (by omega); have q118 : 0 < (t105.length : Int) := xD; obtain ⟨ad118, e118, hx118_0⟩ := Kd.at_string (Kd.R_reads' HO_8.out).2.2 0 p118 q118; obtain rfl := xE e118; have qi118 : (0 < t105.length) = True := eq_true (by omega)
       (try rw [show ((0 : Int)).toNat = 0 from rfl] at hx118_0)
       (try rw [Addr.add_zero'] at hx118_0)
       replace p118 := eq_true p118; replace q118 := eq_true q118; have p119 : 0 ≤ (2 : Int) := (by omega); have q119 : 2 < (t105.length : Int) := xD; obtain ⟨ad119, e119, hx119_0⟩ := Kd.at_string (Kd.R_reads' HO_8.out).2.2 2 p119 q119; obtain rfl := xE e119
       (try simp only [show (2 : Int).toNat = 2 from rfl, Nat.reduceMul, Nat.reduceEqDiff, Go.Addr.add, ↓reduceIte] at hx119_0)
       have qi119 : (2 < t105.length) = True := eq_true (by omega)
       (try rw [show ((2 : Int)).toNat = 2 from rfl] at hx119_0)
       replace p119 := eq_true p119; replace q119 := eq_true q119; obtain ⟨Ao30, co30, eo30⟩ := Kd.R_slice HO_5.out
       (first | subst eo30 | (injection eo30 with f1_ f2_ f3_; have f4_ := f1_.symm; have f5_ := f3_.symm; clear f1_ f2_ f3_; subst f4_; subst f5_))
       refine start_ (n := 15) (S := fun w' => w'.cell? ⟨gb115, 0, none⟩ = some (.int .i64 t109) ∧ w'.cell? ⟨gb115, 1, none⟩ = some (.int .i64 t110) ∧ w'.cell? ⟨gb115, 2, none⟩ = some (.int .i64 t111) ∧ w'.cell? ⟨gb115, 3, none⟩ = some (.string t112) ∧ w'.cell? ⟨gb115, 4, none⟩ = some (.string t113) ∧ w'.cell? ad108 = some (.string (rdOf ByteArray.empty t105 0)) ∧ w'.cell? ⟨ad108.block, ad108.off + 2, none⟩ = some (.string (rdOf ByteArray.empty t105 2))) (ds := []) #[ff, ff, ff, ff, ff, ff, ff, ff, ff, ff, ff, ff, ff, ff, ff] (by kernel_rfl) rfl rfl ⟨(blk_cell BK115.out 0).trans rfl, (blk_cell BK115.out 1).trans rfl, (blk_cell BK115.out 2).trans rfl, (blk_cell BK115.out 3).trans rfl, (blk_cell BK115.out 4).trans rfl, hx118_0, hx119_0⟩ (fun hHeld => ?_); refine with_tabW armadaref15_Parse.tab12 armadaref15_Parse.bits12 (fun HT_ HW_ => ?_)
       generalize wc.drew = w29 at HO_5 HO_6 HO_8 BK115 HB hx118_0 hx119_0 hHeld ⊢
       refine pure_ (i := 0) (N := some 53) (v := ?_) (a' := ?_) #[tt, ff, ff, ff, ff, ff, ff, ff, ff, ff, ff, ff, ff, ff, ff] rfl rfl (any_of HT_.out (by kernel_rfl)) (fun _ _ _ h => h) (Or.inl ⟨by rfl, ?_⟩) ?_ ?_
       rotate_left
       ·
        intro w'; go_simp
        with_reducible rfl
       rotate_left
       ·
        simp only [Act.put, z1, z2, z3, i64_w, i32_w]
        rfl
       refine pure_ (i := 1) (N := some 54) (v := ?_) (a' := ?_) #[tt, tt, ff, ff, ff, ff, ff, ff, ff, ff, ff, ff, ff, ff, ff] rfl rfl (any_of HT_.out (by kernel_rfl)) (fun _ _ _ h => h) (Or.inl ⟨by rfl, ?_⟩) ?_ ?_
       rotate_left
       ·
        intro w'; go_simp
        with_reducible rfl
       rotate_left
       ·
        simp only [Act.put, z1, z2, z3, i64_w, i32_w]
        rfl
       refine pure_ (i := 2) (N := some 55) (v := ?_) (a' := ?_) #[tt, tt, tt, ff, ff, ff, ff, ff, ff, ff, ff, ff, ff, ff, ff] rfl rfl (any_of HT_.out (by kernel_rfl)) (fun _ _ _ h => h) (Or.inl ⟨by rfl, ?_⟩) ?_ ?_
       rotate_left
       ·
        intro w'; go_simp
        with_reducible rfl
       rotate_left
       ·
        simp only [Act.put, z1, z2, z3, i64_w, i32_w]
        rfl
       refine pure_ (i := 5) (N := some 58) (v := ?_) (a' := ?_) #[tt, tt, tt, ff, ff, tt, ff, ff, ff, ff, ff, ff, ff, ff, ff] rfl rfl (any_of HT_.out (by kernel_rfl)) (fun _ _ _ h => h) (Or.inl ⟨by rfl, ?_⟩) ?_ ?_
       rotate_left
       ·
        intro w'; go_simp
        with_reducible rfl
       rotate_left
       ·
        simp only [Act.put, z1, z2, z3, i64_w, i32_w]
        rfl
       refine pure_ (i := 6) (N := some 59) (v := ?_) (a' := ?_) #[tt, tt, tt, ff, ff, tt, tt, ff, ff, ff, ff, ff, ff, ff, ff] rfl rfl (any_of HT_.out (by kernel_rfl)) (fun _ _ _ h => h) (Or.inl ⟨by rfl, ?_⟩) ?_ ?_
       rotate_left
       ·
        intro w'; go_simp
        with_reducible rfl
       rotate_left
       ·
        simp only [Act.put, z1, z2, z3, i64_w, i32_w]
        rfl
       refine take_ (i := 3) (N := some 56) (v := ?_) (a' := ?_) #[tt, tt, tt, tt, ff, tt, tt, ff, ff, ff, ff, ff, ff, ff, ff] rfl rfl (take_ofW HT_.out HW_.out (by kernel_rfl)) (fun _ _ _ h => h) (Or.inl ⟨by rfl, ?_⟩) hHeld ?_ ?_
       rotate_left
       ·
        rintro w' ⟨s0, s1, s2, s3, s4, s5, s6⟩
        go_simp
        with_reducible rfl
       rotate_left
       ·
        simp only [Act.put, z1, z2, z3, i64_w, i32_w]
        rfl
       refine take_ (i := 4) (N := some 57) (v := ?_) (a' := ?_) #[tt, tt, tt, tt, tt, tt, tt, ff, ff, ff, ff, ff, ff, ff, ff] rfl rfl (take_ofW HT_.out HW_.out (by kernel_rfl)) (fun _ _ _ h => h) (Or.inl ⟨by rfl, ?_⟩) hHeld ?_ ?_
       rotate_left
       ·
        rintro w' ⟨s0, s1, s2, s3, s4, s5, s6⟩
        go_simp
        with_reducible rfl
       rotate_left
       ·
        simp only [Act.put, z1, z2, z3, i64_w, i32_w]
        rfl
       refine take_ (i := 7) (N := some 60) (v := ?_) (a' := ?_) #[tt, tt, tt, tt, tt, tt, tt, tt, ff, ff, ff, ff, ff, ff, ff] rfl rfl (take_ofW HT_.out HW_.out (by kernel_rfl)) (fun _ _ _ h => h) (Or.inl ⟨by rfl, ?_⟩) hHeld ?_ ?_
       rotate_left
       ·
        rintro w' ⟨s0, s1, s2, s3, s4, s5, s6⟩
        go_simp
        with_reducible rfl
       rotate_left
       ·
        simp only [Act.put, z1, z2, z3, i64_w, i32_w]
        rfl
       refine pure_ (i := 8) (N := some 61) (v := ?_) (a' := ?_) #[tt, tt, tt, tt, tt, tt, tt, tt, tt, ff, ff, ff, ff, ff, ff] rfl rfl (any_of HT_.out (by kernel_rfl)) (fun _ _ _ h => h) (Or.inl ⟨by rfl, ?_⟩) ?_ ?_
       rotate_left
       ·
        intro w'; go_simp
        with_reducible rfl
       rotate_left
       ·
        simp only [Act.put, z1, z2, z3, i64_w, i32_w]
        rfl
       refine one_ (i := 9) (N := some 62) #[tt, tt, tt, tt, tt, tt, tt, tt, tt, tt, ff, ff, ff, ff, ff] rfl rfl (one_of HT_.out (by kernel_rfl)) (by decide) (fun K hK => ?_); refine goes_ Tryz.func13 (by kernel_rfl) rfl #[.slice Ao30 x5_1.length co30, .agg #[.string (rdOf ByteArray.empty t105 0), .int .i64 t109, .int .i64 t110, .int .i64 t111, .string t112, .string t113, .string (rdOf ByteArray.empty t105 2)]] (by rfl) rfl rfl xS ?_
       with_reducible refine (armadaref15_Add.calls _ _ x5_1 (rdOf ByteArray.empty t105 0) t109 t110 t111 t112 t113 (rdOf ByteArray.empty t105 2) t120 t123 _ ?side1 ?side2 A24.out).mono ?_
       (case side1 => repeat (first | exact (Kd.R_reads' HO_5.out).2.2 | (with_reducible refine Kd.C_alloc ?_ _) | (with_reducible refine Kd.C_drewN ?_ _) | (with_reducible refine Kd.C_drew ?_)))
       (case side2 => exact (Kd.R_reads' HO_5.out).2.1)
       rintro e w31 ⟨v121, rfl, ho0, hb⟩
       have HS5_ := (hb.cell (World.block_lt_of_cell? _ _ (hHeld.2.2.2.2.2.1))).trans (hHeld.2.2.2.2.2.1); have HS6_ := (hb.cell (World.block_lt_of_cell? _ _ (hHeld.2.2.2.2.2.2))).trans (hHeld.2.2.2.2.2.2); refine ⟨_, rfl, ?_⟩; have n0_ := Aside0.mk (Kd.R_elder' (by (with_reducible repeat (first | apply Kd.R_alloc | apply Kd.R_drewN | apply Kd.R_drew)); exact HO_5.out) (Kd.R_base ho0) hb); have n1_ := Aside0.mk (Kd.R_below (by (with_reducible repeat (first | apply Kd.R_alloc | apply Kd.R_drewN | apply Kd.R_drew)); exact HO_6.out) hb); have n2_ := Aside0.mk (Kd.R_below (by (with_reducible repeat (first | apply Kd.R_alloc | apply Kd.R_drewN | apply Kd.R_drew)); exact HO_8.out) hb); have n3_ := Aside0.mk (Kd.R_lower (Kd.R_new' ho0 (Kd.R_lt (by (with_reducible repeat (first | apply Kd.R_alloc | apply Kd.R_drewN | apply Kd.R_drew)); exact HO_5.out))) (below_size xB)); have n4_ := Aside0.mk (blk_below (g := gb115) (o := .cells #[.int .i64 t109, .int .i64 t110, .int .i64 t111, .string t112, .string t113] 30 (0, 0)) xK hb); have n5_ := Aside0.mk (below_step xB hb); clear HO_5; clear HO_6; clear HO_8; clear BK115; clear HB; have HO_5 := n0_; have HO_6 := n1_; have HO_8 := n2_; have HO122 := n3_; have BK115 := n4_; have HB := n5_; clear n0_ n1_ n2_ n3_ n4_ n5_
       (try clear hb)
       (try clear hb2)
       (try clear hk)
       (try clear hi)
       (try clear ho0)
       refine hK.out _ _ ⟨(blk_cell BK115.out 0).trans rfl, (blk_cell BK115.out 1).trans rfl, (blk_cell BK115.out 2).trans rfl, (blk_cell BK115.out 3).trans rfl, (blk_cell BK115.out 4).trans rfl, HS5_, HS6_⟩ (fun hHeld => ?_); clear hK K; refine norm_ (a' := ?_) ?_ ?_
       rotate_left
       ·
        show Act.put _ (some 62) _ = _
        simp only [Act.put, z1, z2, z3, i64_w, i32_w]
        rfl
       refine pure_ (i := 10) (N := some 52) (v := ?_) (a' := ?_) #[tt, tt, tt, tt, tt, tt, tt, tt, tt, tt, tt, ff, ff, ff, ff] rfl rfl (any_of HT_.out (by kernel_rfl)) (fun _ _ _ h => h) (Or.inl ⟨by rfl, ?_⟩) ?_ ?_
       rotate_left
       ·
        intro w'; go_simp
        with_reducible rfl
       rotate_left
       ·
        simp only [Act.put, z1, z2, z3, i64_w, i32_w]
        rfl
       refine pure_ (i := 11) (N := some 63) (v := ?_) (a' := ?_) #[tt, tt, tt, tt, tt, tt, tt, tt, tt, tt, tt, tt, ff, ff, ff] rfl rfl (any_of HT_.out (by kernel_rfl)) (fun _ _ _ h => h) (Or.inl ⟨by rfl, ?_⟩) ?_ ?_
       rotate_left
       ·
        intro w'; go_simp
        with_reducible rfl
       rotate_left
       ·
        simp only [Act.put, z1, z2, z3, i64_w, i32_w]
        rfl
       refine pure_ (i := 12) (N := some 64) (v := ?_) (a' := ?_) #[tt, tt, tt, tt, tt, tt, tt, tt, tt, tt, tt, tt, tt, ff, ff] rfl rfl (any_of HT_.out (by kernel_rfl)) (fun _ _ _ h => h) (Or.inl ⟨by rfl, ?_⟩) ?_ ?_
       rotate_left
       ·
        intro w'; go_simp
        with_reducible rfl
       rotate_left
       ·
        simp only [Act.put, z1, z2, z3, i64_w, i32_w]
        rfl
       refine pure_ (i := 13) (N := some 11) (v := ?_) (a' := ?_) #[tt, tt, tt, tt, tt, tt, tt, tt, tt, tt, tt, tt, tt, tt, ff] rfl rfl (any_of HT_.out (by kernel_rfl)) (fun _ _ _ h => h) (Or.inl ⟨by rfl, ?_⟩) ?_ ?_
       rotate_left
       ·
        intro w'; go_simp
        with_reducible rfl
       rotate_left
       ·
        simp only [Act.put, z1, z2, z3, i64_w, i32_w]
        rfl
       refine pure_ (i := 14) (N := some 12) (v := ?_) (a' := ?_) #[tt, tt, tt, tt, tt, tt, tt, tt, tt, tt, tt, tt, tt, tt, tt] rfl rfl (any_of HT_.out (by kernel_rfl)) (fun _ _ _ h => h) (Or.inl ⟨by rfl, ?_⟩) ?_ ?_
       rotate_left
       ·
        intro w'; go_simp
        with_reducible rfl
       rotate_left
       ·
        simp only [Act.put, z1, z2, z3, i64_w, i32_w]
        rfl
       refine done_ (done_of HT_.out (by kernel_rfl)) ?_
       try go_wp2
       go_ret3; exact ⟨_, xW, by first | exact Kd.R_nil _ _ _ _ _ | exact Kd.N_nil _ _ _ _ _ | exact Kd.V_nil _ _ _ _ _ | exact Kd.Q_nil _ _ _ _ _ | exact Kd.S_nil _ _ _ _ _, xB⟩
    have c7b0 := beq_eq_false_iff_ne.mpr c7; have c7b1 := bne_iff_ne.mpr c7; simp only [Option.some.injEq, Prod.mk.injEq] at H; obtain ⟨rfl, rfl, rfl⟩ := H; obtain ⟨Ao32, co32, eo32⟩ := Kd.R_slice HO_6.out; subst eo32; obtain ⟨p104, q104, ad104, e104, hx104_0⟩ := xT (Kd.at_string (Kd.R_reads' HO_6.out).2.2 x7_1)
    cases e104
    go_wp2_with (first | ((with_reducible refine gate_callee (f := 20) rfl ?_); refine goesL_ (some 25) rfl rfl Tryz.func20 (by kernel_rfl) rfl #[.string (rdOf ByteArray.empty t101 x7_1), .int .u8 32] rfl xS ?_; (with_reducible refine (armadaref05_Split.calls k1 (rdOf ByteArray.empty t101 x7_1) 32 t105 _ A6.out).mono ?_); rintro e w33 ⟨v106, rfl, ho0, hb⟩; refine ⟨_, rfl, ?_⟩; replace HO_5 := Aside0.mk (Kd.R_below (by (with_reducible repeat (first | apply Kd.R_alloc | apply Kd.R_drewN | apply Kd.R_drew)); exact HO_5.out) hb); have HO107 := Aside0.mk (Kd.R_lower (Kd.R_new' ho0 (Kd.R_lt (by (with_reducible repeat (first | apply Kd.R_alloc | apply Kd.R_drewN | apply Kd.R_drew)); exact HO_6.out))) (below_size xB)); replace HO_6 := Aside0.mk (Kd.R_elder' (by (with_reducible repeat (first | apply Kd.R_alloc | apply Kd.R_drewN | apply Kd.R_drew)); exact HO_6.out) (Kd.R_base ho0) hb); replace HB := Aside0.mk (below_step xB hb); (try clear hb); (try clear ho0); obtain ⟨Ao34, co34, eo34⟩ := Kd.R_slice HO107.out; subst eo34)); go_ret3; exact ⟨_, xW, by first | exact Kd.R_nil _ _ _ _ _ | exact Kd.N_nil _ _ _ _ _ | exact Kd.V_nil _ _ _ _ _ | exact Kd.Q_nil _ _ _ _ _ | exact Kd.S_nil _ _ _ _ _, xB⟩
   have c4b0 := decide_eq_false c4; clear c4; simp only [Option.some.injEq, Prod.mk.injEq] at H; obtain ⟨rfl, rfl, rfl⟩ := H; obtain ⟨Ao35, co35, eo35⟩ := Kd.R_slice HO_6.out; subst eo35; obtain ⟨Ao36, co36, eo36⟩ := Kd.R_slice HO_5.out; subst eo36; go_wp2; go_ret3; exact ⟨_, xW, by (with_reducible repeat (first | apply Kd.R_alloc | apply Kd.R_drewN | apply Kd.R_drew)); exact HO_5.out, xB⟩
end Go.Proofs.YtjdhdjmdmnedfaaGreatDoor.RQ
end
