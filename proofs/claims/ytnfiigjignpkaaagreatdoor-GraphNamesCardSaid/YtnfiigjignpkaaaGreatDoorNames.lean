/- The law armadalaw16.GraphNames: the walk. -/
import Derived.Test.YtnfiigjignpkaaaGreatDoorNamesPl
import Derived.Test.YtnfiigjignpkaaaGreatDoorMor
namespace Go.Proofs.YtnfiigjignpkaaaGreatDoor
open Go Go.RowKit Go.Sort Go.Proofs Go.Proofs.YtnfiigjignpkaaaGreatDoorW.PrintWords Go.Proofs.YtnfiigjignpkaaaGreatDoor.K0 Go.Proofs.YtnfiigjignpkaaaGreatDoor.R3
set_option linter.unusedVariables false
set_option linter.unusedSimpArgs false

theorem ord_res (A : Option Addr) (c : Nat) (l : List S40) (w : World) (hG : GW w) (hr : Kd.C k40 w A l.length l) (hc : l.length ≤ c) (hl : l.length ≤ 4294967290) :
    Calls Tryz.prog 10 #[.slice A l.length c] w fun e w' => ∃ A' c', e = .returned (.tuple #[.slice A' (ordG l).1.length c', .int .i64 (ordG l).2]) ∧ (ordG l).1.length ≤ c' ∧ Kd.C (Kd.int .i64) w' A' (ordG l).1.length (ordG l).1 ∧ Below w.heap.size w w' := by
  refine (graph_Order.calls A c l (ordG l).1 (ordG l).2 w hr hc hG (by unfold graph_Order.f; rw [if_pos hl])).mono ?_
  rintro e w' ⟨v, rfl, hR, hb⟩
  obtain ⟨A', c', rfl, h1, h2⟩ := int_res2 (W := w) hR
  exact ⟨A', c', rfl, h1, h2, hb⟩
theorem same_res (A B : Option Addr) (c d : Nat) (xs : List Int) (w : World) (ha : Kd.C (Kd.int .i64) w A xs.length xs) (hc : xs.length ≤ c) (hb : Kd.C (Kd.int .i64) w B xs.length xs) (hd : xs.length ≤ d) :
    Calls Tryz.prog 14 #[.slice A xs.length c, .slice B xs.length d] w fun e w' => e = .returned (.bool true) ∧ Below w.heap.size w w' := by
  obtain ⟨k, hk⟩ := (Same_self xs ha.2.1).rounds
  refine (armadaref16_Same.calls k A c xs B d xs true w ha hc hb hd hk).mono ?_
  rintro e w' ⟨rfl, hb'⟩
  exact ⟨rfl, hb'.below⟩
/-- A version's cells, boxed. -/
structure VBox (B : Nat) (v : S42) (W : World) : Prop where
  c0 : W.cell? ⟨B, 0, none⟩ = some (.int .i64 v.f0)
  c1 : W.cell? ⟨B, 1, none⟩ = some (.int .i64 v.f1)
  c2 : W.cell? ⟨B, 2, none⟩ = some (.int .i64 v.f2)
  c3 : W.cell? ⟨B, 3, none⟩ = some (.string v.f3)
  c4 : W.cell? ⟨B, 4, none⟩ = some (.string v.f4)
theorem VBox.upto {B C : Nat} {v : S42} {W W' : World} (h : VBox B v W) (hb : Below C W W') (hC : B < C) : VBox B v W' :=
  ⟨(hb.cell (p := ⟨B, 0, none⟩) hC).trans h.c0, (hb.cell (p := ⟨B, 1, none⟩) hC).trans h.c1, (hb.cell (p := ⟨B, 2, none⟩) hC).trans h.c2, (hb.cell (p := ⟨B, 3, none⟩) hC).trans h.c3, (hb.cell (p := ⟨B, 4, none⟩) hC).trans h.c4⟩
theorem VBox.lt {B : Nat} {v : S42} {W : World} (h : VBox B v W) : B < W.heap.size := World.block_lt_of_cell? _ _ h.c0
theorem VBox.new (w : World) (v : S42) (t : TypeId) : VBox w.heap.size v (w.alloc (.cells #[.int .i64 v.f0, .int .i64 v.f1, .int .i64 v.f2, .string v.f3, .string v.f4] t)) := by
  constructor <;> (unfold World.cell?; rw [heap_alloc_new]; rfl)
/-- A requirement's cells, where it lies. -/
theorem req_cells {w : World} {A : Option Addr} {n : Nat} {l : List S44} (h : Kd.C k44 w A n l) {j : Nat} {x : S44} (hx : l[j]? = some x) : ∃ (ad : Addr), A = some ad ∧ w.cell? (ad.add (j * 6)) = some (.string x.f0) ∧ w.cell? ⟨(ad.add (j * 6)).block, (ad.add (j * 6)).off + 1, none⟩ = some (.int .i64 x.f1.f0) ∧ w.cell? ⟨(ad.add (j * 6)).block, (ad.add (j * 6)).off + 2, none⟩ = some (.int .i64 x.f1.f1) ∧ w.cell? ⟨(ad.add (j * 6)).block, (ad.add (j * 6)).off + 3, none⟩ = some (.int .i64 x.f1.f2) ∧ w.cell? ⟨(ad.add (j * 6)).block, (ad.add (j * 6)).off + 4, none⟩ = some (.string x.f1.f3) ∧ w.cell? ⟨(ad.add (j * 6)).block, (ad.add (j * 6)).off + 5, none⟩ = some (.string x.f1.f4) := by
  have hj := (List.getElem?_eq_some_iff.1 hx).1
  have hl := h.1
  have hxe : rd_T44 l (j : Int) = x := by
    unfold rd_T44
    rw [Int.toNat_natCast, List.getD_eq_getElem?_getD, hx]; rfl
  obtain ⟨ad, hA, h0, h1, h2, h3, h4, h5⟩ := at_T44 h (j : Int) (by omega) (by omega)
  rw [hxe] at h0 h1 h2 h3 h4 h5
  rw [Int.toNat_natCast] at h0 h1 h2 h3 h4 h5
  exact ⟨ad, hA, h0, h1, h2, h3, h4, h5⟩

set_option maxRecDepth 100000 in
set_option maxHeartbeats 8000000 in
theorem names_main (A Af : Option Addr) (c cf : Nat) (l : List S40) (v : S42) (fr : List Int) (w : World) (hG : GW w) (hr : Kd.C k40 w A l.length l) (hc : l.length ≤ c) (hf : Kd.C (Kd.int .i64) w Af fr.length fr) (hcf : fr.length ≤ cf)
    (hsm : ∀ W, Below w.heap.size w W → Calls Tryz.prog 8 #[.slice A l.length c] W fun e w' => e = .returned (.bool true) ∧ Below W.heap.size W w')
    (hl20 : l.length ≤ 20) (hfr : fr.length ≤ 30) (hs30 : ∀ m ∈ l, m.f2.length ≤ 30) (hsz : wrap64 ((v.f3.size : Int) + (v.f4.size : Int)) ≤ 200) :
    Calls Tryz.prog 7 #[.slice A l.length c, .agg #[.int .i64 v.f0, .int .i64 v.f1, .int .i64 v.f2, .string v.f3, .string v.f4], .slice Af fr.length cf] w fun e w' => e = .returned (.bool true) ∧ Below w.heap.size w w' := by
  have hsm0 := hsm _ (below_alloc (Below.refl _ w) (.cells #[.int .i64 v.f0, .int .i64 v.f1, .int .i64 v.f2, .string v.f3, .string v.f4] 42))
  have hbx := VBox.new w v 42
  obtain ⟨n, hn⟩ : ∃ n, n = l.length := ⟨_, rfl⟩
  obtain ⟨nf, hnf⟩ : ∃ nf, nf = fr.length := ⟨_, rfl⟩
  rw [← hn] at hsm0 hl20 ⊢
  rw [← hnf] at hfr ⊢
  have HN := Aside0.mk hn
  have HNF := Aside0.mk hnf
  have HGW := Aside0.mk hG
  have HR := Aside0.mk hr
  have HF := Aside0.mk hf
  have H30 := Aside0.mk hs30
  have HBX := Aside0.mk hbx
  have HCC := Aside0.mk hc
  have HCF := Aside0.mk hcf
  have hfz : ¬ (nf : Int) > 30 := by omega
  have hd1 : decide (30 < (nf : Int)) = false := decide_eq_false (by omega)
  have hd2 : decide (200 < wrap64 ((v.f3.size : Int) + (v.f4.size : Int))) = false := decide_eq_false (Int.not_lt.2 hsz)
  have hp2 : ¬ wrap64 ((v.f3.size : Int) + (v.f4.size : Int)) > 200 := Int.not_lt.2 hsz
  clear hn hnf hG hr hf hs30 hbx hsm hc hcf hsz
  go_enter Tryz.func7, Tryz.ntmps7
  go_wp2_with (go_at_call 8; with_reducible refine hsm0.mono ?_; rintro e w1 ⟨rfl, hb1⟩; have HBX1 := Aside0.mk (HBX.out.upto hb1 (by simp)); have HB1 := Aside0.mk (below_step (below_alloc (Below.refl _ _) _) hb1); have b3 := HBX1.out.c3; have b4 := HBX1.out.c4; clear hb1)
  have HBE := Aside0.mk (show w.heap.size + 1 ≤ w1.heap.size from HBX1.out.lt)
  have HKK := Aside0.mk (Kd.R_nil kFlat 40 w1 (w.heap.size + 1) (fun _ => True))
  clear b3 b4 HBX hsm0
  go_loopg [7, 8] n (fun gg v7 v8 wr => ∃ (kk : Nat) (hs : List (ByteArray × ByteArray × Option Addr × Nat × Nat)), kk ≤ n ∧ n - kk ≤ gg ∧ v8 = .int .i64 kk ∧ Aside0 (Kd.R kFlat 40 wr (w.heap.size + 1) (fun _ => True) v7 hs) ∧ Aside0 (hs.length = kk) ∧ Aside0 (Below w.heap.size w wr) ∧ Aside0 (VBox w.heap.size v wr) ∧
    Aside0 (∀ (a : Nat) (m : S40), a < kk → l[a]? = some m → ∃ A2 c2, hs[a]? = some ((⟨#[111, 116, 104, 101, 114]⟩ : ByteArray), m.f1, A2, (nmod v m).f2.length, c2) ∧ Kd.R k44 44 wr (w.heap.size + 1) (fun _ => True) (.slice A2 (nmod v m).f2.length c2) (nmod v m).f2))
  case atStart => exact ⟨0, [], Nat.zero_le _, by omega, rfl, HKK, ⟨rfl⟩, HB1, HBX1, ⟨fun a m h => absurd h (Nat.not_lt_zero _)⟩⟩
  case round =>
    obtain ⟨kk, hs, hkk, hg, rfl, HK, HSL, HB, HBX, HO1⟩ := hrel
    obtain ⟨wO, rfl⟩ : ∃ q, q = wr := ⟨_, rfl⟩
    have HBE := Aside0.mk (show w.heap.size + 1 ≤ wO.heap.size from HBX.out.lt)
    by_cases hlt : kk < n
    · have hltz : (kk : Int) < (n : Int) := by omega
      obtain ⟨m, hm⟩ : ∃ m, l[kk]? = some m := ⟨_, List.getElem?_eq_getElem (by have := HN.out; omega)⟩
      obtain ⟨ad, Am, cm, hA, m0, m1, m2, hmc, hmC⟩ := mod_cells HR.out hm
      subst hA
      have m1 := below_cell HB.out m1
      have m2 := below_cell HB.out m2
      have HM2 := Aside0.mk m2
      have hm30 := H30.out m (List.mem_of_getElem? hm)
      have HM := Aside0.mk hm
      have HMC := Aside0.mk hmC
      clear hm hmC m0
      go_wp2
      obtain ⟨len, hlen⟩ : ∃ len, len = m.f2.length := ⟨_, rfl⟩
      have HLN := Aside0.mk hlen
      have hq0 : (wO.alloc (.cells #[.string (⟨#[111, 116, 104, 101, 114]⟩ : ByteArray), .string m.f1, .slice none 0 0] 40)).heap[wO.heap.size]? = some (.cells #[.string (⟨#[111, 116, 104, 101, 114]⟩ : ByteArray), .string m.f1, .slice none 0 0] 40 (0, 0)) := blk_new _ _
      go_loopg [10] len (fun gg v10 wq => ∃ (n2 : Nat) (vq : Value), n2 ≤ len ∧ len - n2 ≤ gg ∧ v10 = .int .i64 n2 ∧ Aside0 (wq.heap[wO.heap.size]? = some (.cells #[.string (⟨#[111, 116, 104, 101, 114]⟩ : ByteArray), .string m.f1, vq] 40 (0, 0))) ∧ Aside0 (Kd.R k44 44 wq (wO.heap.size + 1) (fun _ => True) vq ((m.f2.take n2).map (rver v))) ∧ Aside0 (Below wO.heap.size wO wq))
      case atStart => exact ⟨0, .slice none 0 0, Nat.zero_le _, by omega, rfl, ⟨hq0⟩, ⟨Kd.R_nil _ _ _ _ _⟩, ⟨below_alloc (Below.refl _ _) _⟩⟩
      case round =>
        obtain ⟨n2, vq, hn2, hg2, rfl, HQB, HQ, HQW⟩ := hrel
        have hBm : wO.heap.size < wr.heap.size := blk_lt HQB.out
        have g2 := below_cell HQW.out HM2.out
        by_cases hlt2 : n2 < len
        · have hltz2 : (n2 : Int) < (m.f2.length : Int) := by have := HLN.out; omega
          obtain ⟨y, hy⟩ : ∃ y, m.f2[n2]? = some y := ⟨_, List.getElem?_eq_getElem (by have := HLN.out; omega)⟩
          obtain ⟨ar, hAr, y0, y1, y2, y3, y4, y5⟩ := req_cells (Kd.C_below HMC.out (HB.out.trans (HQW.out.mono (by have := HBE.out; omega)))) hy
          subst hAr
          have hmp : (m.f2.take (n2 + 1)).map (rver v) = (m.f2.take n2).map (rver v) ++ [rver v y] := by rw [List.take_add_one, hy]; simp
          have hbv := HBX.out.upto HQW.out (by have := HBE.out; omega)
          have hbv2 := hbv.upto ((Below.refl (w.heap.size + 1) wr).alloc (by have := HBE.out; omega) (.cells #[.string y.f0, .int .i64 y.f1.f0, .int .i64 y.f1.f1, .int .i64 y.f1.f2, .string y.f1.f3, .string y.f1.f4] 44)) (Nat.lt_succ_self _)
          have v0 := hbv2.c0
          have v1 := hbv2.c1
          have v2 := hbv2.c2
          have v3 := hbv2.c3
          have v4 := hbv2.c4
          have o0 := blk_new wr (.cells #[.string y.f0, .int .i64 y.f1.f0, .int .i64 y.f1.f1, .int .i64 y.f1.f2, .string y.f1.f3, .string y.f1.f4] 44)
          have q1 := blk_cell o0 1
          have q2 := blk_cell o0 2
          have q3 := blk_cell o0 3
          have q4 := blk_cell o0 4
          have q5 := blk_cell o0 5
          have f1 := blk_frozen o0 1
          have f2 := blk_frozen o0 2
          have f3 := blk_frozen o0 3
          have f4 := blk_frozen o0 4
          have f5 := blk_frozen o0 5
          have hne : wO.heap.size ≠ wr.heap.size := by omega
          have O0 := Aside0.mk o0
          have HMA := Aside0.mk (blk_alloc HQB.out (.cells #[.string y.f0, .int .i64 y.f1.f0, .int .i64 y.f1.f1, .int .i64 y.f1.f2, .string y.f1.f3, .string y.f1.f4] 44))
          have HROWA := Aside0.mk (Kd.R_alloc (Kd.R_elderB HQ.out wr.heap.size (Nat.le_refl _)) (.cells #[.string y.f0, .int .i64 y.f1.f0, .int .i64 y.f1.f1, .int .i64 y.f1.f2, .string y.f1.f3, .string y.f1.f4] 44))
          have HCHA := Aside0.mk (HQW.out.trans ((Below.refl wO.heap.size wr).alloc (Nat.le_of_lt hBm) (.cells #[.string y.f0, .int .i64 y.f1.f0, .int .i64 y.f1.f1, .int .i64 y.f1.f2, .string y.f1.f3, .string y.f1.f4] 44)))
          obtain ⟨rq, hrq⟩ : ∃ rq, (m.f2.take (n2 + 1)).map (rver v) = rq := ⟨_, rfl⟩
          have HRQ := Aside0.mk hrq
          have HMP := Aside0.mk hmp
          clear hrq
          have HY := Aside0.mk hy
          have HNE := Aside0.mk hne
          have HBM := Aside0.mk hBm
          clear hmp hy o0 hbv hbv2 hne
          go_wp2_with (first
            | ((with_reducible refine gate_dst (N := 65) rfl ?_); have O1 := O0.out; generalize hWA : wr.alloc (.cells #[.string y.f0, .int .i64 y.f1.f0, .int .i64 y.f1.f1, .int .i64 y.f1.f2, .string y.f1.f3, .string y.f1.f4] 44) = wA at O1 HMA HROWA HCHA v0 v1 v2 v3 v4 q1 q2 q3 q4 q5 f1 f2 f3 f4 f5 ⊢; clear hWA; have OO := Aside0.mk O1; clear O0 O1)
            | ((with_reducible refine gate_dst (N := 68) rfl ?_); have OQ := OO.out; generalize hWB : (((((wA.setCell ⟨wr.heap.size, 1, none⟩ (.int .i64 v.f0)).setCell ⟨wr.heap.size, 2, none⟩ (.int .i64 v.f1)).setCell ⟨wr.heap.size, 3, none⟩ (.int .i64 v.f2)).setCell ⟨wr.heap.size, 4, none⟩ (.string v.f3)).setCell ⟨wr.heap.size, 5, none⟩ (.string v.f4)) = wB at ⊢; have s5 := (blk_set (blk_set (blk_set (blk_set (blk_set OQ 1 (.int .i64 v.f0)) 2 (.int .i64 v.f1)) 3 (.int .i64 v.f2)) 4 (.string v.f3)) 5 (.string v.f4)); have hmB := (blk_far (blk_far (blk_far (blk_far (blk_far HMA.out (p := ⟨wr.heap.size, 1, none⟩) HNE.out (.int .i64 v.f0)) (p := ⟨wr.heap.size, 2, none⟩) HNE.out (.int .i64 v.f1)) (p := ⟨wr.heap.size, 3, none⟩) HNE.out (.int .i64 v.f2)) (p := ⟨wr.heap.size, 4, none⟩) HNE.out (.string v.f3)) (p := ⟨wr.heap.size, 5, none⟩) HNE.out (.string v.f4)); have hrow := (Kd.R_far (p := ⟨wr.heap.size, 5, none⟩) (Kd.R_far (p := ⟨wr.heap.size, 4, none⟩) (Kd.R_far (p := ⟨wr.heap.size, 3, none⟩) (Kd.R_far (p := ⟨wr.heap.size, 2, none⟩) (Kd.R_far (p := ⟨wr.heap.size, 1, none⟩) HROWA.out (fun k hk => hk.2) (.int .i64 v.f0)) (fun k hk => hk.2) (.int .i64 v.f1)) (fun k hk => hk.2) (.int .i64 v.f2)) (fun k hk => hk.2) (.string v.f3)) (fun k hk => hk.2) (.string v.f4)); have hchn := (Below.setCell (Below.setCell (Below.setCell (Below.setCell (Below.setCell HCHA.out (p := ⟨wr.heap.size, 1, none⟩) (Nat.le_of_lt HBM.out) (.int .i64 v.f0)) (p := ⟨wr.heap.size, 2, none⟩) (Nat.le_of_lt HBM.out) (.int .i64 v.f1)) (p := ⟨wr.heap.size, 3, none⟩) (Nat.le_of_lt HBM.out) (.int .i64 v.f2)) (p := ⟨wr.heap.size, 4, none⟩) (Nat.le_of_lt HBM.out) (.string v.f3)) (p := ⟨wr.heap.size, 5, none⟩) (Nat.le_of_lt HBM.out) (.string v.f4)); rw [hWB] at s5 hmB hrow hchn; have r0 : wB.cell? ⟨wr.heap.size, 0, none⟩ = some (.string y.f0) := (blk_cell s5 0).trans rfl; have r1 : wB.cell? ⟨wr.heap.size, 1, none⟩ = some (.int .i64 v.f0) := (blk_cell s5 1).trans rfl; have r2 : wB.cell? ⟨wr.heap.size, 2, none⟩ = some (.int .i64 v.f1) := (blk_cell s5 2).trans rfl; have r3 : wB.cell? ⟨wr.heap.size, 3, none⟩ = some (.int .i64 v.f2) := (blk_cell s5 3).trans rfl; have r4 : wB.cell? ⟨wr.heap.size, 4, none⟩ = some (.string v.f3) := (blk_cell s5 4).trans rfl; have r5 : wB.cell? ⟨wr.heap.size, 5, none⟩ = some (.string v.f4) := (blk_cell s5 5).trans rfl; have z2 : wB.cell? ⟨wO.heap.size, 2, none⟩ = some vq := (blk_cell hmB 2).trans rfl; have HMB1 := Aside0.mk hmB; have HROW1 := Aside0.mk hrow; have HCHN1 := Aside0.mk hchn; have HSZ1 := Aside0.mk (blk_lt s5); clear OO OQ hWB s5 hmB hrow hchn v0 v1 v2 v3 v4 q1 q2 q3 q4 q5 f1 f2 f3 f4 f5)
            | ((with_reducible refine gate_builtin (b := .append) (xs := #[.tmp 68, .tmp 70]) rfl ?_); at_builtin; go_loud (refine Kd.R_append k44 (w0 := wB) (wO.heap.size + 1) rfl (.tmp 68) (.tmp 70) 38 44 (.agg #[.string ⟨#[]⟩, .int .i64 0, .int .i64 0, .int .i64 0, .string ⟨#[]⟩, .string ⟨#[]⟩]) 72 rfl Tryz.underlying38 info44 rfl (by decide) (by decide) vq ((m.f2.take n2).map (rver v)) (rver v y) [.string y.f0, .int .i64 v.f0, .int .i64 v.f1, .int .i64 v.f2, .string v.f3, .string v.f4] (fun k => True ∧ k ≠ wr.heap.size) (fun _ => False) ?aV ?aX ?aP (fun _ hk => hk.elim) ?aF ?aO ?aB ?aS ?aL ?_); (case aV => go_loud (rfl)); (case aX => go_loud (rfl)); (case aP => go_loud (exact k44_mkM _ _ _ (rver v y))); (case aF => go_loud (intro k hk; have := HSZ1.out; exact ⟨trivial, by omega⟩)); (case aO => go_loud (exact HROW1.out)); (case aB => exact Below.refl _ _); (case aS => go_loud (have := HSZ1.out; have := HBM.out; omega)); (case aL => go_loud (rw [List.length_map, List.length_take]; omega)); intro vX wC ho hb hg hat; have hm0 := blk_grown HMB1.out hg (by intro e; have := Kd.R_base HROW1.out _ e.symm; omega); rw [← HMP.out, HRQ.out] at ho; obtain ⟨AB, cB, rfl⟩ := Kd.R_slice ho; have z2' := blk_cell hm0 2; have zf := blk_frozen hm0 2; have HRC := Aside0.mk ho; have HBC := Aside0.mk hb; have HM0 := Aside0.mk hm0; clear ho hb hg hat hm0))
          go_roundg (len - (n2 + 1))
          case measure => omega
          case rel =>
            have hm0 := HM0.out
            exact ⟨n2 + 1, .slice AB rq.length cB, by omega, by omega, by go_num, ⟨blk_put hm0 2 _ rfl⟩, ⟨by rw [HRQ.out]; exact Kd.R_mono (Kd.R_far (p := ⟨wO.heap.size, 2, none⟩) (Kd.R_types HRC.out hm0 (by decide)) (fun _ hk => hk.2) _) (fun _ _ => trivial)⟩, ⟨(HCHN1.out.trans (HBC.out.mono (Nat.le_succ _))).setCell (p := ⟨wO.heap.size, 2, none⟩) (Nat.le_refl _) _⟩⟩
        · have hltz2 : ¬ (n2 : Int) < (m.f2.length : Int) := by have := HLN.out; omega
          have en : n2 = len := by omega
          have hqa := HQ.out
          rw [List.take_of_length_le (by have := HLN.out; omega)] at hqa
          have HQA := Aside0.mk hqa
          obtain ⟨rq, hrq⟩ : ∃ rq, m.f2.map (rver v) ++ [rno] = rq := ⟨_, rfl⟩
          have HRQ := Aside0.mk hrq
          have hl30 : m.f2.length ≤ 30 := hm30
          have z0' := blk_cell HQB.out 2
          clear hqa hrq
          go_wp2_with (first
            | ((with_reducible refine gate_builtin (b := .append) (xs := #[.tmp 74, .tmp 76]) rfl ?_); at_builtin; go_loud (refine Kd.R_append k44 (w0 := wr) (wO.heap.size + 1) rfl (.tmp 74) (.tmp 76) 38 44 (.agg #[.string ⟨#[]⟩, .int .i64 0, .int .i64 0, .int .i64 0, .string ⟨#[]⟩, .string ⟨#[]⟩]) 72 rfl Tryz.underlying38 info44 rfl (by decide) (by decide) vq (m.f2.map (rver v)) rno [.string nobody, .int .i64 0, .int .i64 0, .int .i64 0, .string ⟨#[]⟩, .string ⟨#[]⟩] (fun _ => True) (fun _ => False) ?aV ?aX ?aP (fun _ hk => hk.elim) ?aF ?aO ?aB ?aS ?aL ?_); (case aV => go_loud (rfl)); (case aX => go_loud (rfl)); (case aP => go_loud (exact k44_mkM _ _ _ rno)); (case aF => exact (fun _ _ => trivial)); (case aO => go_loud (exact HQA.out)); (case aB => exact Below.refl _ _); (case aS => go_loud (omega)); (case aL => go_loud (rw [List.length_map]; omega)); intro vX wC ho hb hg hat; have hm0 := blk_grown HQB.out hg (by intro e; have := Kd.R_base HQA.out _ e.symm; omega); rw [HRQ.out] at ho; obtain ⟨AB, cB, rfl⟩ := Kd.R_slice ho; have z0 := blk_cell hm0 0; have z1 := blk_cell hm0 1; have z2' := blk_cell hm0 2; have zf := blk_frozen hm0 2; have y0 := blk_cell (blk_set hm0 2 (.slice AB rq.length cB)) 0; have y1 := blk_cell (blk_set hm0 2 (.slice AB rq.length cB)) 1; have y2 := blk_cell (blk_set hm0 2 (.slice AB rq.length cB)) 2; have HRC := Aside0.mk ho; have HCH := Aside0.mk ((HQW.out.trans (hb.mono (Nat.le_succ _))).setCell (p := ⟨wO.heap.size, 2, none⟩) (Nat.le_refl _) (.slice AB rq.length cB)); have HM0 := Aside0.mk hm0; clear ho hb hg hat hm0)
            | ((with_reducible refine gate_builtin (b := .append) (xs := #[.tmp 79, .tmp 81]) rfl ?_); at_builtin; go_loud (refine Kd.R_append kFlat (w0 := (wC.setCell ⟨wO.heap.size, 2, none⟩ (.slice AB rq.length cB))) (w.heap.size + 1) rfl (.tmp 79) (.tmp 81) 22 40 (.agg #[.string ⟨#[]⟩, .string ⟨#[]⟩, .slice none 0 0]) 56 rfl Tryz.underlying22 info40 rfl (by decide) (by decide) u7 hs ((⟨#[111, 116, 104, 101, 114]⟩ : ByteArray), m.f1, AB, rq.length, cB) [.string (⟨#[111, 116, 104, 101, 114]⟩ : ByteArray), .string m.f1, .slice AB rq.length cB] (fun _ => True) (fun _ => False) ?aV ?aX ?aP (fun _ hk => hk.elim) ?aF ?aO ?aB ?aS ?aL ?_); (case aV => go_loud (rfl)); (case aX => go_loud (show Value.slice (some ⟨wC.heap.size, 0, none⟩) 1 1 = _; simp [World.setCell])); (case aP => exact kFlat_mk _ _ _ _ _ _ _ _); (case aF => exact (fun _ _ => trivial)); (case aO => go_loud (exact Kd.R_below HK.out HCH.out)); (case aB => exact Below.refl _ _); (case aS => go_loud (have := HBE.out; have := HCH.out.size; omega)); (case aL => go_loud (have := HSL.out; omega)); intro v103 w9 ho hb hg hat; have HO3 := Aside0.mk ho; have HB3 := Aside0.mk hb; have HG3 := Aside0.mk hg; clear ho hb hg hat))
          go_roundg (n - (kk + 1))
          case measure => omega
          case rel =>
            have hbE := HBE.out
            have hm0 := HM0.out
            have hch := (HCH.out.mono hbE).trans HB3.out
            refine ⟨kk + 1, hs ++ [((⟨#[111, 116, 104, 101, 114]⟩ : ByteArray), m.f1, AB, rq.length, cB)], by omega, by omega, by go_num, HO3, ⟨by rw [List.length_append, HSL.out]; rfl⟩, ⟨HB.out.trans (hch.mono (Nat.le_succ _))⟩, ⟨HBX.out.upto hch (Nat.lt_succ_self _)⟩, ⟨fun a m' ha hm' => ?_⟩⟩
            by_cases e : a = kk
            · subst e
              obtain rfl := Option.some.inj (HM.out.symm.trans hm')
              have hq : (nmod v m).f2 = rq := HRQ.out
              rw [hq]
              exact ⟨AB, cB, by rw [List.getElem?_append_right (by rw [HSL.out]; exact Nat.le_refl _), HSL.out]; simp, Kd.R_over (Kd.R_lower (Kd.R_mono (Kd.R_far (p := ⟨wO.heap.size, 2, none⟩) (Kd.R_types HRC.out hm0 (by decide)) (fun _ hk => hk.2) _) (fun _ _ => trivial)) (by omega)) (Kd.R_below HK.out HCH.out) (by decide) HG3.out⟩
            · obtain ⟨A2, c2, e1, e2⟩ := HO1.out a m' (by omega) hm'
              exact ⟨A2, c2, by rw [List.getElem?_append_left (by rw [HSL.out]; omega)]; exact e1, Kd.R_over (Kd.R_below e2 HCH.out) (Kd.R_below HK.out HCH.out) (by decide) HG3.out⟩
    · have hltz : ¬ (kk : Int) < (n : Int) := by omega
      have : kk = n := by omega
      subst this
      obtain ⟨A7, c7, rfl⟩ := Kd.R_slice HK.out
      have hflat := Kd.R_reads' HK.out
      have hks : Kd.C k40 wO A7 (l.map (nmod v)).length (l.map (nmod v)) := by
        refine mods_of_flat (hs := hs) (by rw [List.length_map, ← HN.out, ← HSL.out]; exact hflat.2.2) rfl fun a u hu => ?_
        rw [List.getElem?_map] at hu
        obtain ⟨m, hm, rfl⟩ := Option.map_eq_some_iff.1 hu
        obtain ⟨A2, c2, g1, g2⟩ := HO1.out a m (by have := (List.getElem?_eq_some_iff.1 hm).1; have := HN.out; omega) hm
        exact ⟨A2, c2, g1, (Kd.R_reads' g2).2.1, (Kd.R_reads' g2).2.2⟩
      have hc7 : hs.length ≤ c7 := hflat.2.1
      have hkl : (l.map (nmod v)).length = kk := by rw [List.length_map]; exact HN.out.symm
      have hlk : l.length = kk := HN.out.symm
      have hll : l.length ≤ 4294967290 := by omega
      have hkk9 : (l.map (nmod v)).length ≤ 4294967290 := by omega
      rw [HSL.out] at hc7 ⊢
      have or1 := fun W (hb : Below w.heap.size w W) => ord_res A c l W (HGW.out.below hb) (Kd.C_below HR.out hb) HCC.out hll
      have or2 := fun W (hb : Below wO.heap.size wO W) => ord_res A7 c7 (l.map (nmod v)) W (HGW.out.below (below_step HB.out hb)) (Kd.C_below hks hb) (by omega) hkk9
      have up1 := fun W (hb : Below w.heap.size w W) => up_res A Af c cf l fr W (HGW.out.below hb) (Kd.C_below HR.out hb) HCC.out (Kd.C_below HF.out hb) HCF.out hll
      have up2 := fun W (hb : Below wO.heap.size wO W) => up_res A7 Af c7 cf (l.map (nmod v)) fr W (HGW.out.below (below_step HB.out hb)) (Kd.C_below hks hb) (by omega) (Kd.C_below HF.out (below_step HB.out hb)) HCF.out hkk9
      have cy1 := fun W (hb : Below w.heap.size w W) => cyc_res A c l W (HGW.out.below hb) (Kd.C_below HR.out hb) HCC.out hll
      have cy2 := fun W (hb : Below wO.heap.size wO W) => cyc_res A7 c7 (l.map (nmod v)) W (HGW.out.below (below_step HB.out hb)) (Kd.C_below hks hb) (by omega) hkk9
      rw [hkl, ← ordG_nmod v l] at or2
      rw [hkl, ← upG_nmod v l fr] at up2
      rw [hkl, ← cycG_nmod v l] at cy2
      rw [hlk] at or1 up1 cy1
      rw [show fr.length = nf from HNF.out.symm] at up1 up2
      generalize (ordG l).1 = lo at or1 or2
      generalize (ordG l).2 = zo at or1 or2
      generalize upG l fr = lu at up1 up2
      generalize cycG l = lc at cy1 cy2
      have OR1 := Aside0.mk or1
      have OR2 := Aside0.mk or2
      have UP1 := Aside0.mk up1
      have UP2 := Aside0.mk up2
      have CY1 := Aside0.mk cy1
      have CY2 := Aside0.mk cy2
      clear or1 or2 up1 up2 cy1 cy2 hks hflat HO1 HK hkk9 hll
      go_wp2_with (first
        | (go_at_call 10; with_reducible refine (OR1.out _ HB.out).mono ?_; rintro e wa ⟨Aa, ca, rfl, hca, hCa, hb⟩; have HRa := Aside0.mk hCa; have HBa := Aside0.mk hb; clear hCa hb)
        | (go_at_call 10; with_reducible refine (OR2.out _ HBa.out).mono ?_; rintro e wb ⟨Ab, cb, rfl, hcb, hCb, hb⟩; have HRb := Aside0.mk hCb; have HRa2 := Aside0.mk (Kd.C_below HRa.out hb); have HBb := Aside0.mk (below_step HBa.out hb); clear hCb hb)
        | (go_at_call 14; with_reducible refine (same_res Aa Ab ca cb lo _ HRa2.out hca HRb.out hcb).mono ?_; rintro e wc ⟨rfl, hb⟩; have HBc := Aside0.mk (below_step HBb.out hb); clear hb)
        | (go_at_call 19; with_reducible refine (UP1.out _ (below_step HB.out HBc.out)).mono ?_; rintro e wd ⟨Ad, cd, rfl, hcd, hCd, hb⟩; have HRd := Aside0.mk hCd; have HBd := Aside0.mk (below_step HBc.out hb); clear hCd hb)
        | (go_at_call 19; with_reducible refine (UP2.out _ HBd.out).mono ?_; rintro e we ⟨Ae, ce, rfl, hce, hCe, hb⟩; have HRe := Aside0.mk hCe; have HRd2 := Aside0.mk (Kd.C_below HRd.out hb); have HBe := Aside0.mk (below_step HBd.out hb); clear hCe hb)
        | (go_at_call 14; with_reducible refine (same_res Ad Ae cd ce lu _ HRd2.out hcd HRe.out hce).mono ?_; rintro e wf ⟨rfl, hb⟩; have HBf := Aside0.mk (below_step HBe.out hb); clear hb)
        | (go_at_call 17; with_reducible refine (CY1.out _ (below_step HB.out HBf.out)).mono ?_; rintro e wg ⟨Ag, cg, rfl, hcg, hCg, hb⟩; have HRg := Aside0.mk hCg; have HBg := Aside0.mk (below_step HBf.out hb); clear hCg hb)
        | (go_at_call 17; with_reducible refine (CY2.out _ HBg.out).mono ?_; rintro e wh ⟨Ah, ch, rfl, hch, hCh, hb⟩; have HRh := Aside0.mk hCh; have HRg2 := Aside0.mk (Kd.C_below HRg.out hb); have HBh := Aside0.mk (below_step HBg.out hb); clear hCh hb)
        | (go_at_call 14; with_reducible refine (same_res Ag Ah cg ch lc _ HRg2.out hcg HRh.out hch).mono ?_; rintro e wi ⟨rfl, hb⟩; have HBi := Aside0.mk (below_step HBh.out hb); clear hb)
        | (go_at_call 9; with_reducible refine (live_walk _ (HGW.out.below (below_step HB.out HBi.out))).mono ?_; rintro e wj ⟨rfl, hb⟩; have HBj := Aside0.mk (below_step HBi.out hb); clear hb))
      go_ret
      exact ⟨rfl, below_step HB.out HBj.out⟩
end Go.Proofs.YtnfiigjignpkaaaGreatDoor
