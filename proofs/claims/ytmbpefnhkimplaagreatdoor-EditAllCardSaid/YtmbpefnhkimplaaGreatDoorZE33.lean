/- The texts MnParse in one file, without what these claims do not use (put together by prune2.py). -/
import Derived.Test.YtmbpefnhkimplaaGreatDoorZE32
section
namespace Go.Proofs.YtmbpefnhkimplaaGreatDoor
open Go Go.RowKit Go.Sort Go.Maps Go.Proofs Go.Proofs.YtmbpefnhkimplaaGreatDoorW.PrintWords Go.Proofs.YtmbpefnhkimplaaGreatDoorW.PrintLast Go.Proofs.YtmbpefnhkimplaaGreatDoor.K0 Go.Proofs.YtmbpefnhkimplaaGreatDoor.R1 Go.Proofs.YtmbpefnhkimplaaGreatDoor.R2 Go.Proofs.YtmbpefnhkimplaaGreatDoor.R3
set_option linter.unusedVariables false
set_option linter.unusedSimpArgs false
theorem badL_some : ∀ {l : List ByteArray} {k : Nat} {y : ByteArray}, l[k]? = some y → oneW y = none → (∀ (j : Nat) z, j < k → l[j]? = some z → oneW z ≠ none) → badL l = some k
  | [], k, y, h, _, _ => by simp at h
  | s :: l, 0, y, h, h1, _ => by
    obtain rfl := Option.some.inj h
    unfold badL
    rw [List.findIdx?_cons, h1]; rfl
  | s :: l, k + 1, y, h, h1, h2 => by
    have hs := h2 0 s (Nat.succ_pos _) rfl
    have ih := badL_some (l := l) (k := k) h h1 (fun j z hj hz => h2 (j + 1) z (Nat.succ_lt_succ hj) hz)
    unfold badL at ih ⊢
    obtain ⟨p, hp⟩ := Option.ne_none_iff_exists'.1 hs
    rw [List.findIdx?_cons, hp, ih]; rfl
theorem badL_none : ∀ {l : List ByteArray}, (∀ (k : Nat) y, l[k]? = some y → oneW y ≠ none) → badL l = none
  | [], _ => rfl
  | s :: l, h => by
    obtain ⟨p, hp⟩ := Option.ne_none_iff_exists'.1 (h 0 s rfl)
    have ih := badL_none (l := l) fun k y hk => h (k + 1) y hk
    unfold badL at ih ⊢
    rw [List.findIdx?_cons, hp, ih]; rfl
/-- What parse tells. -/
def ParseOf (w0 : World) (r : (Ps × Nat) ⊕ (Nat × Int)) (e : Ending) (w' : World) : Prop := match r with
  | .inr (k, er) => e = .returned (.tuple #[.pointer none, .int .i64 0, .iface 138 (.agg #[.int .i64 k, fltV er])])
  | .inl (x, n) => ∃ w1 P p, e = .returned (.tuple #[.pointer (some ⟨P, 0, none⟩), .int .i64 n, .nilIface]) ∧ PsIs w0 w1 P p x w'
abbrev pz (m : Nat) : PVals := ⟨.slice none 0 0, .slice none 0 0, .slice none 0 0, .slice none 0 0, m⟩
theorem ps_start (w W3 : World) (hb : Below ((w.alloc (.map #[] 0)).alloc (.cells (psc (pz w.heap.size) ps0) 102)).heap.size ((w.alloc (.map #[] 0)).alloc (.cells (psc (pz w.heap.size) ps0) 102)) W3) : PsIs w W3 (w.heap.size + 1) (pz w.heap.size) ps0 W3 := by
  have hs := hb.size
  have h2 : ((w.alloc (.map #[] 0)).alloc (.cells (psc (pz w.heap.size) ps0) 102)).heap.size = w.heap.size + 2 := by simp
  rw [h2] at hs
  have hblk := heap_alloc_new (w.alloc (.map #[] 0)) (.cells (psc (pz w.heap.size) ps0) 102)
  rw [show (w.alloc (.map #[] 0)).heap.size = w.heap.size + 1 by simp] at hblk
  have hap : Apart2 (.slice none 0 0) (.slice none 0 0) := fun k h => by cases h
  have hm := ((World.ownsMap_made w Tryz.prog 9 spE).alloc (.cells (psc (pz w.heap.size) ps0) 102)).kept (grown_of_below hb none) (by simp)
  exact ⟨below_step (below_alloc (below_alloc (Below.refl _ _) _) _) hb, Moves.refl _ _, Nat.le_succ _, by omega, Nat.le_refl _, by show w.heap.size < W3.heap.size; omega, by show w.heap.size ≠ w.heap.size + 1; omega, blk_below hblk hb, Kd.R_nil _ _ _ _ _, Kd.R_nil _ _ _ _ _, Kd.R_nil _ _ _ _ _, Kd.R_nil _ _ _ _ _, hap, hap, hap, hap, hap, hap, ⟨⟨_, hm, SpIs.none⟩⟩⟩
theorem PsIs.keeps {w0 w1 w : World} {P m : Nat} {p : PVals} {x : Ps} (h : PsIs w0 w1 P p x w) (hp : p.m = m) : Kept w1 w (fun k => k = P ∨ k = m) := ⟨h.moves.size, fun i hi hn => h.moves.block i hi (hp ▸ hn)⟩
set_option maxRecDepth 100000 in
set_option maxHeartbeats 4000000 in
theorem parse_calls (s : ByteArray) (hs : s.size ≤ 400000) (w : World) (hG : GW w) : Calls Tryz.prog 48 #[.string s] w fun e w' => Below w.heap.size w w' ∧ ParseOf w (parseP s) e w' := by
  have HLS : Aside0 (∀ W, Below w.heap.size w W → Calls Tryz.prog 76 #[.string s] W fun e w' => Below W.heap.size W w' ∧ LinesIs W.heap.size (rowsW s) e w') := ⟨fun W h => lines_calls s hs W (hG.below h)⟩
  have HSP := Aside0.mk (fun W (h : Below w.heap.size w W) => lex_Split.calls s (rowsW s) W (hG.below h) (lex_f s (by omega)))
  have HSZ := Aside0.mk (fun x (h : x ∈ rowsW s) => Nat.le_trans (rowsW_size h) hs)
  have hln := rowsW_len s
  have HPP : Aside0 (parseP s = match badL (rowsW s) with | some k => .inr (k, 9) | none => match runP 0 (rowsW s) ps0 with | .inr e => .inr e | .inl x => if x.block.toList.isEmpty = false then .inr ((rowsW s).length, 10) else if x.mod.toList.isEmpty = true then .inr ((rowsW s).length, 5) else .inl (x, (rowsW s).length)) := ⟨rfl⟩
  generalize parseP s = pp at HPP ⊢
  generalize rowsW s = rows at HLS HSP HSZ HPP hln
  obtain ⟨n, hn⟩ : ∃ n, n = rows.length := ⟨_, rfl⟩
  rw [← hn] at hln HPP
  have hbig : n ≤ 400001 := by omega
  have HN := Aside0.mk hn
  have HG := Aside0.mk hG
  have hmm : ∀ w : World, (Instr.makeMap 100 none).run Tryz.prog w = .ok (.map (some w.heap.size)) (w.alloc (.map #[] 0)) := fun _ => rfl
  have HB1 := Aside0.mk (below_alloc (below_alloc (Below.refl w.heap.size w) (.map #[] 0)) (.cells (psc (pz w.heap.size) ps0) 102))
  have HST := Aside0.mk (ps_start w)
  clear hn hln hG hs
  by_cases hab : ∀ (k : Nat) y, rows[k]? = some y → oneW y ≠ none
  · have HAB := Aside0.mk hab
    have HLL : Aside0 ((lnsW rows).length = rows.length) := ⟨lnsW_full (fun x hx => by obtain ⟨k, hk⟩ := List.getElem?_of_mem hx; exact hab k x hk)⟩
    have HLA := Aside0.mk (lnsW_all hab)
    rw [badL_none hab] at HPP
    obtain ⟨RR, hRR⟩ : ∃ R, R = runP 0 rows ps0 := ⟨_, rfl⟩
    rw [← hRR] at HPP
    have HR0 := Aside0.mk hRR
    clear hab hRR
    go_enter Tryz.func48, Tryz.ntmps48
    go_wp2_with (first | (go_at_call 76; refine (HLS.out _ HB1.out).mono ?_; rintro e W2 ⟨hb2, h1⟩; obtain ⟨va, hok, rfl, hR⟩ := h1.resolve_right (fun ⟨k, y, h, h', _⟩ => HAB.out k y h h'); obtain ⟨A5, c5, rfl⟩ := Kd.R_slice hR; have HR2 := Aside0.mk hR; have HB2 := Aside0.mk (below_step HB1.out hb2); have HW2 := Aside0.mk hb2; clear hok hR hb2 h1) | (go_at_call 41; refine (HSP.out _ HB2.out).mono ?_; rintro e W3 ⟨v0, rfl, ho, hb3⟩; obtain ⟨A0, c0, rfl⟩ := Kd.R_slice ho; have HW3 := Aside0.mk (below_step HW2.out hb3); have HR3 := Aside0.mk (Kd.R_below HR2.out hb3); have HS3 := Aside0.mk (Kd.R_bound ho); have hz := HW2.out.size; clear ho hb3 HR2 HB2; rw [HLL.out] at HR3 ⊢; rw [← HN.out] at HR3 HS3 ⊢))
    have HI3 := Aside0.mk (HST.out W3 HW3.out)
    have hN2 : ((w.alloc (.map #[] 0)).alloc (.cells (psc (pz w.heap.size) ps0) 102)).heap.size = w.heap.size + 2 := by simp
    have HKL : Aside0 (∀ W', Kept W3 W' (fun k => k = w.heap.size + 1 ∨ k = w.heap.size) → Kd.C k142 W' A5 n (lnsW rows)) := ⟨Kd.C_kept_own HR3.out (fun k hk h => by rw [hN2] at hk; omega)⟩
    have HKS : Aside0 (∀ W', Kept W3 W' (fun k => k = w.heap.size + 1 ∨ k = w.heap.size) → Kd.C Kd.string W' A0 n rows) := ⟨Kd.C_kept_own HS3.out (fun k hk h => by have := hk.2.1; rw [hN2] at hz; omega)⟩
    have HB3 : Aside0 (Below w.heap.size w W3) := ⟨HI3.out.below⟩
    clear hN2 hz HR3 HS3 HW2 HW3 HLS HSP HST
    go_loopg [32] n (fun gg v32 wr => ∃ (kk : Nat) (p : PVals) (x : Ps), kk ≤ n ∧ n - kk ≤ gg ∧ v32 = .int .i64 kk ∧ Aside0 (runP kk (rows.drop kk) x = RR) ∧ Aside0 (PsB kk x) ∧ Aside0 (p.m = w.heap.size) ∧ Aside0 (PsIs w W3 (w.heap.size + 1) p x wr))
    case atStart => exact ⟨0, _, _, Nat.zero_le _, by omega, rfl, ⟨HR0.out.symm⟩, ⟨PsB.zero⟩, ⟨rfl⟩, HI3⟩
    case round =>
      obtain ⟨kk, p, x, hkk, hg, rfl, HRN, HPB, HPM, HI⟩ := hrel
      by_cases hlt : kk < n
      · have hltz : (kk : Int) < (n : Int) := by omega
        obtain ⟨y, hy⟩ : ∃ y, rows[kk]? = some y := ⟨_, List.getElem?_eq_getElem (by have := HN.out; omega)⟩
        have hy9 := HSZ.out y (List.mem_of_getElem? hy)
        have hkeep := HI.out.keeps HPM.out
        obtain ⟨ad, hA, g0⟩ := Kd.at_string (HKS.out wr hkeep) (kk : Int) (by omega) (by omega)
        subst hA
        rw [show rdOf ByteArray.empty rows (kk : Int) = y by unfold rdOf; rw [Int.toNat_natCast, List.getD_eq_getElem?_getD, hy]; rfl, Int.toNat_natCast] at g0
        obtain ⟨ad5, A6, c6, hA5, g1, _, hc6, hC6⟩ := at_T142 (HKL.out wr hkeep) (kk : Int) (by omega) (by omega)
        subst hA5
        have hrd : (rd_T142 (lnsW rows) (kk : Int)).f0 = wordsOf y := by
          unfold rd_T142
          rw [HLA.out, Int.toNat_natCast, List.getD_eq_getElem?_getD, List.getElem?_map, hy]
          rfl
        rw [hrd] at g1 hc6 hC6
        rw [Int.toNat_natCast] at g1
        have hline := line_calls w W3 (w.heap.size + 1) p x (wordsOf y) (words_ok y hy9) (HPB.out.ok (by omega)) HPB.out.block A6 c6 hc6 wr HG.out HI.out hC6
        have hrun : (if (lineP x (wordsOf y)).2 = 0 then runP (kk + 1) (rows.drop (kk + 1)) (nextP x y) else .inr (kk, (lineP x (wordsOf y)).2)) = RR := by
          have h := HRN.out
          obtain ⟨h1, h2⟩ := List.getElem?_eq_some_iff.1 hy
          rw [List.drop_eq_getElem_cons h1, h2, runP] at h
          exact h
        have HNX := Aside0.mk (HPB.out.line y hy9)
        have HG1 := Aside0.mk (lineP_G x (wordsOf y)).1.fro
        have hfl := HPB.out.lo
        have hfh := HPB.out.hi
        have HNE : Aside0 (nextP x y = { (lineP x (wordsOf y)).1 with fro := (lineP x (wordsOf y)).1.fro + ((y.size : Int) + 1) }) := ⟨rfl⟩
        obtain ⟨nw, hnw⟩ : ∃ n, n = (wordsOf y).length := ⟨_, rfl⟩
        rw [← hnw] at g1 hline
        generalize nextP x y = nx at hrun HNX HNE
        obtain ⟨er, her⟩ : ∃ e, e = (lineP x (wordsOf y)).2 := ⟨_, rfl⟩
        obtain ⟨xl, hxl⟩ : ∃ z, z = (lineP x (wordsOf y)).1 := ⟨_, rfl⟩
        rw [← her, ← hxl] at hline
        rw [← her] at hrun
        rw [← hxl] at HNE HG1
        have hfr : xl.fro = x.fro := HG1.out
        have hw1 : IntKind.i64.wrap ((y.size : Int) + 1) = (y.size : Int) + 1 := by rw [IntKind.wrap_i64]; omega
        have hw2 : IntKind.i64.wrap (xl.fro + ((y.size : Int) + 1)) = xl.fro + ((y.size : Int) + 1) := by
          have : (kk : Int) * 400001 ≤ 400001 * 400001 := Int.mul_le_mul_of_nonneg_right (by omega) (by decide)
          rw [IntKind.wrap_i64]; omega
        have HW1 := Aside0.mk hw1
        have HW2 := Aside0.mk hw2
        clear hy hy9 hkeep hrd hC6 hc6 hnw her hxl hfl hfh hfr hw1 hw2 HG1
        by_cases he : er = 0
        · subst he
          rw [if_pos rfl] at hrun
          have HRU := Aside0.mk hrun
          have HLN : Aside0 (Calls Tryz.prog 77 #[.pointer (some ⟨w.heap.size + 1, 0, none⟩), .slice A6 nw c6] wr fun e w' => e = .returned .nilIface ∧ ∃ p', p'.m = p.m ∧ PsIs w W3 (w.heap.size + 1) p' xl w') := ⟨hline⟩
          clear hline hrun
          have hw1 := HW1.out
          have hw2 := HW2.out
          go_wp2_with (first | (go_at_call 77; refine HLN.out.mono ?_; rintro e W6 ⟨rfl, p', hp', hI'⟩; have HI6 := Aside0.mk hI'; have HP6 := Aside0.mk hp'; have f7 := (blk_cell hI'.blk 7).trans rfl; clear hp' hI') | ((with_reducible refine gate_ (.store 3 (.tmp 59) (.tmp 57)) rfl ?_); refine store_ev 3 (.tmp 59) (.tmp 57) rfl rfl rfl 7 [.int .i64 (xl.fro + ((y.size : Int) + 1))] HI6.out.blk rfl rfl rfl (by kernel_rfl) (show 7 + 1 ≤ 9 by decide) (by simp [Value.oneCell']) rfl ?_; intro W7 hn hg; have HI7 := Aside0.mk (HI6.out.put (x' := { xl with fro := xl.fro + ((y.size : Int) + 1) }) hn hg rfl rfl rfl rfl rfl); clear hn hg))
          go_roundg (n - (kk + 1))
          case measure => omega
          case rel => exact ⟨kk + 1, p', nx, by omega, by omega, by go_num, HRU, HNX, ⟨HP6.out.trans HPM.out⟩, ⟨by rw [HNE.out]; exact HI7.out⟩⟩
        · rw [if_neg he] at hrun
          have HRU := Aside0.mk hrun
          have HLN : Aside0 (Calls Tryz.prog 77 #[.pointer (some ⟨w.heap.size + 1, 0, none⟩), .slice A6 nw c6] wr fun e w' => e = .returned (fltV er) ∧ ∃ p', p'.m = p.m ∧ PsIs w W3 (w.heap.size + 1) p' xl w') := ⟨by
            have h := hline
            unfold errV at h
            rwa [if_neg he] at h⟩
          clear hline hrun he
          go_wp2_with (go_at_call 77; refine HLN.out.mono ?_; rintro e W6 ⟨rfl, p', hp', hI'⟩; have HI6 := Aside0.mk hI'; clear hp' hI')
          go_ret3
          exact ⟨HI6.out.below, by rw [HPP.out, ← HRU.out]; rfl⟩
      · have hltz : ¬ (kk : Int) < (n : Int) := by omega
        obtain rfl : kk = n := by omega
        have HRU : Aside0 (.inl x = RR) := ⟨by
          have h := HRN.out
          rwa [List.drop_of_length_le (by rw [← HN.out]; exact Nat.le_refl _), runP] at h⟩
        have x0 := (blk_cell HI.out.blk 0).trans rfl
        have x6 := (blk_cell HI.out.blk 6).trans rfl
        rw [← HRU.out] at HPP
        cases hbk : x.block.toList.isEmpty with
        | false =>
          have hbn : (x.block.toList == []) = false := by rw [← Bool.not_eq_true]; intro h; rw [List.isEmpty_iff.2 (by simpa using h)] at hbk; cases hbk
          have HBK := Aside0.mk hbk
          clear hbk
          go_wp2
          go_ret3
          exact ⟨HI.out.below, by rw [HPP.out]; simp only [HBK.out]; rfl⟩
        | true =>
          have hbe : x.block.toList = [] := List.isEmpty_iff.1 hbk
          have HBK := Aside0.mk hbk
          clear hbk
          cases hmd : x.mod.toList.isEmpty with
          | true =>
            have hme : x.mod.toList = [] := List.isEmpty_iff.1 hmd
            have HMD := Aside0.mk hmd
            clear hmd
            go_wp2
            go_ret3
            exact ⟨HI.out.below, by rw [HPP.out]; simp only [HBK.out, HMD.out]; rfl⟩
          | false =>
            have hme : (x.mod.toList == []) = false := by rw [← Bool.not_eq_true]; intro h; rw [List.isEmpty_iff.2 (by simpa using h)] at hmd; cases hmd
            have HMD := Aside0.mk hmd
            clear hmd
            go_wp2
            go_ret3
            exact ⟨HI.out.below, by rw [HPP.out]; simp only [HBK.out, HMD.out]; exact ⟨W3, _, p, rfl, HI.out⟩⟩
  · have HNB := Aside0.mk hab
    clear hab
    go_enter Tryz.func48, Tryz.ntmps48
    go_wp2_with (go_at_call 76; refine (HLS.out _ HB1.out).mono ?_; rintro e W2 ⟨hb2, h1⟩; obtain ⟨kb, yb, hkb, hbad, hpre, rfl⟩ := h1.resolve_left (fun h => HNB.out h.choose_spec.1); have HB2 := Aside0.mk (below_step HB1.out hb2); have HKB := Aside0.mk hkb; have HYB := Aside0.mk hbad; have HPR := Aside0.mk hpre; clear hkb hbad hpre hb2 h1)
    go_ret3
    exact ⟨HB2.out, by rw [HPP.out, badL_some HKB.out HYB.out HPR.out]; rfl⟩
end Go.Proofs.YtmbpefnhkimplaaGreatDoor
end
