/- The texts MnAl, MnDr in one file, without what these claims do not use (put together by prune2.py). -/
import Derived.Test.YtmbpefnhkimplaaGreatDoorZE38
section
namespace Go.Proofs.YtmbpefnhkimplaaGreatDoor
open Go Go.RowKit Go.Sort Go.Maps Go.Proofs Go.Proofs.YtmbpefnhkimplaaGreatDoorW.PrintWords Go.Proofs.YtmbpefnhkimplaaGreatDoorW.PrintLast Go.Proofs.YtmbpefnhkimplaaGreatDoor.K0 Go.Proofs.YtmbpefnhkimplaaGreatDoor.R1 Go.Proofs.YtmbpefnhkimplaaGreatDoor.R2
set_option linter.unusedVariables false
set_option linter.unusedSimpArgs false
/-- All, of a text that is a manifest; of any text. -/
def allG : ByteArray → Int → List Rq → ByteArray × Int × Int
  | s, m, [] => (s, m, 0)
  | s, m, r :: l => if (whereP s r.f0).2.2 = false then allG s m l else if (setP s r).2 ≠ 0 then (⟨#[]⟩, 0, (setP s r).2) else allG (setP s r).1 (m + 1) l
def allP (s : ByteArray) (l : List Rq) : ByteArray × Int × Int := if (maniP s).2.2 ≠ 0 then (⟨#[]⟩, 0, (maniP s).2.2) else allG s 0 l
theorem setP_size (s : ByteArray) (hs : s.size ≤ 400000) (r : Rq) : (setP s r).1.size ≤ s.size + 100 := by
  unfold setP edP
  split
  · exact Nat.zero_le _
  · split
    · exact Nat.zero_le _
    · unfold setE
      split
      · rename_i h
        rcases where_is s hs r.f0 with h2 | ⟨x, n, r0, a, b, _, _, _, _, hab, h2⟩
        · rw [h2] at h; cases h
        · rw [h2]
          have htx := txV_size r.f1
          simp only [Int.toNat_natCast]
          rw [ByteArray.size_append, ByteArray.size_append, ByteArray.size_extract, ByteArray.size_extract]
          omega
      · exact Nat.zero_le _
set_option maxRecDepth 100000 in
set_option maxHeartbeats 4000000 in
theorem all_calls (s : ByteArray) (l : List Rq) (hl : l.length ≤ 1000) (hs : s.size + 100 * l.length ≤ 400000) (hr : ∀ r ∈ l, r.f0.size ≤ 400000) (A : Option Addr) (c : Nat) (w : World) (hG : GW w) (hC : Kd.C k25 w A l.length l) : Calls Tryz.prog 20 #[.string s, .slice A l.length c] w fun e w' => e = .returned (.tuple #[.string (allP s l).1, .int .i64 (allP s l).2.1, .int .i64 (allP s l).2.2]) ∧ Below w.heap.size w w' := by
  have HMP := Aside0.mk (mParse_calls s (by omega) w hG)
  have HE : Aside0 (allP s l = if (maniP s).2.2 ≠ 0 then (⟨#[]⟩, 0, (maniP s).2.2) else allG s 0 l) := ⟨rfl⟩
  generalize allP s l = ro at HE ⊢
  obtain ⟨mf0, hmf0⟩ : ∃ z, z = (maniP s).1.f0 := ⟨_, rfl⟩
  obtain ⟨mf1, hmf1⟩ : ∃ z, z = (maniP s).1.f1 := ⟨_, rfl⟩
  obtain ⟨mn, hmn⟩ : ∃ z, z = (maniP s).2.1 := ⟨_, rfl⟩
  obtain ⟨me, hme⟩ : ∃ z, z = (maniP s).2.2 := ⟨_, rfl⟩
  rw [← hmf0, ← hmf1, ← hmn, ← hme] at HMP
  rw [← hme] at HE
  clear hmf0 hmf1 hmn hme
  by_cases h1 : me = 0
  · subst h1
    rw [if_neg (by simp)] at HE
    obtain ⟨RR, hRR⟩ : ∃ R, R = allG s 0 l := ⟨_, rfl⟩
    rw [← hRR] at HE
    have HR0 := Aside0.mk hRR
    have HG := Aside0.mk hG
    have HC := Aside0.mk hC
    have HRS := Aside0.mk hr
    have HSZ := Aside0.mk hs
    obtain ⟨n, hn⟩ : ∃ n, n = l.length := ⟨_, rfl⟩
    have HN := Aside0.mk hn
    rw [← hn] at hl HC HSZ ⊢
    clear hRR hG hC hr hs hn
    go_enter Tryz.func20, Tryz.ntmps20
    go_wp2_with (first | (go_at_call 27; with_reducible refine HMP.out.mono ?_; rintro e W2 ⟨v2, v3, v4, v5, rfl, hm, hb⟩; have HB2 := Aside0.mk hb; have HO2 := Aside0.mk (one_mn (m := (maniP s).1) hm); clear hb hm) | ((with_reducible refine gate_ (.store 55 (.tmp 7) (.tmp 21)) rfl ?_); refine store_ev 55 (.tmp 7) (.tmp 21) rfl rfl rfl 0 [.string mf0, .string mf1, v2, v3, v4, v5] (heap_alloc_new W2 _) rfl rfl rfl (by kernel_rfl) (show 0 + 6 ≤ 6 by decide) (HO2.out _ _) rfl ?_; intro W3 hn hg; have HB3 := Aside0.mk (below_step HB2.out (fresh_below hg)); clear hn hg))
    go_loopg [0, 10, 29] n (fun gg v0 v10 v29 wr => ∃ (kk : Nat) (cur : ByteArray) (m : Int), kk ≤ n ∧ n - kk ≤ gg ∧ v0 = .string cur ∧ v10 = .int .i64 m ∧ v29 = .int .i64 kk ∧ Aside0 (allG cur m (l.drop kk) = RR) ∧ Aside0 (cur.size + 100 * (n - kk) ≤ 400000) ∧ Aside0 (0 ≤ m ∧ m ≤ kk) ∧ Aside0 (Below w.heap.size w wr))
    case atStart => exact ⟨0, s, 0, Nat.zero_le _, by omega, rfl, rfl, rfl, ⟨HR0.out.symm⟩, ⟨HSZ.out⟩, ⟨Int.le_refl _, Int.le_refl _⟩, HB3⟩
    case round =>
      obtain ⟨kk, cur, m, hkk, hg, rfl, rfl, rfl, HRN, HCS, HMK, HB⟩ := hrel
      by_cases hlt : kk < n
      · have hltz : (kk : Int) < (n : Int) := by omega
        obtain ⟨r, hr⟩ : ∃ r, l[kk]? = some r := ⟨_, List.getElem?_eq_getElem (by have := HN.out; omega)⟩
        have hr9 := HRS.out r (List.mem_of_getElem? hr)
        have hcs := HCS.out
        obtain ⟨ad, hA, g0, g1, g2, g3, g4, g5⟩ := at_T25 (Kd.C_below HC.out HB.out) (kk : Int) (by omega) (by omega)
        rw [show rd_T25 l (kk : Int) = r by unfold rd_T25; rw [Int.toNat_natCast, List.getD_eq_getElem?_getD, hr]; rfl, Int.toNat_natCast] at g0 g1 g2 g3 g4 g5
        subst hA
        have hrun : allG cur m (r :: l.drop (kk + 1)) = RR := by
          have h := HRN.out
          obtain ⟨h1, h2⟩ := List.getElem?_eq_some_iff.1 hr
          rwa [List.drop_eq_getElem_cons h1, h2] at h
        rw [allG] at hrun
        have HWH := Aside0.mk (fun W (h : Below w.heap.size w W) => where_calls cur r.f0 (by omega) hr9 W (HG.out.below h))
        have HSE := Aside0.mk (fun W (h : Below w.heap.size w W) => set_calls cur (by omega) r hr9 W (HG.out.below h))
        have HSS := Aside0.mk (setP_size cur (by omega) r)
        obtain ⟨⟨f, t, is⟩, hwh⟩ : ∃ z, z = whereP cur r.f0 := ⟨_, rfl⟩
        obtain ⟨⟨st, se⟩, hse⟩ : ∃ z, z = setP cur r := ⟨_, rfl⟩
        rw [← hwh] at HWH hrun
        rw [← hse] at HSE hrun HSS
        clear hr hr9 hwh hse hcs
        cases is with
        | false =>
          have HRU := Aside0.mk (show allG cur m (l.drop (kk + 1)) = RR from hrun)
          clear hrun
          go_wp2_with (first | ((with_reducible refine gate_ (.store 25 (.tmp 12) (.tmp 32)) rfl ?_); refine store_ev 25 (.tmp 12) (.tmp 32) rfl rfl rfl 0 (rqv r).toList (heap_alloc_new wr _) rfl rfl rfl (by kernel_rfl) (show 0 + 6 ≤ 6 by decide) (by simp [Value.oneCell']) rfl ?_; intro W4 hn hg; have HR4 := Aside0.mk hn; have HB4 := Aside0.mk (below_step HB.out (fresh_below hg)); have y0 := (blk_cell hn 0).trans rfl; clear hn hg g0 g1 g2 g3 g4 g5) | (go_at_call 29; with_reducible refine (HWH.out _ HB4.out).mono ?_; rintro e W5 ⟨rfl, hb⟩; have HB5 := Aside0.mk (below_step HB4.out hb); have HR5 := Aside0.mk (blk_below HR4.out hb); obtain ⟨x0, x1, x2, x3, x4, x5⟩ : W5.cell? ⟨wr.heap.size, 0, none⟩ = some (.string r.f0) ∧ W5.cell? ⟨wr.heap.size, 1, none⟩ = some (.int .i64 r.f1.f0) ∧ W5.cell? ⟨wr.heap.size, 2, none⟩ = some (.int .i64 r.f1.f1) ∧ W5.cell? ⟨wr.heap.size, 3, none⟩ = some (.int .i64 r.f1.f2) ∧ W5.cell? ⟨wr.heap.size, 4, none⟩ = some (.string r.f1.f3) ∧ W5.cell? ⟨wr.heap.size, 5, none⟩ = some (.string r.f1.f4) := ⟨(blk_cell HR5.out 0).trans rfl, (blk_cell HR5.out 1).trans rfl, (blk_cell HR5.out 2).trans rfl, (blk_cell HR5.out 3).trans rfl, (blk_cell HR5.out 4).trans rfl, (blk_cell HR5.out 5).trans rfl⟩; clear hb y0))
          go_roundg (n - (kk + 1))
          case measure => omega
          case rel => exact ⟨kk + 1, cur, m, by omega, by omega, rfl, rfl, by go_num, HRU, ⟨by have := HCS.out; omega⟩, ⟨HMK.out.1, by have := HMK.out.2; omega⟩, HB5⟩
        | true =>
          by_cases he : se = 0
          · subst he
            have HRU := Aside0.mk (show allG st (m + 1) (l.drop (kk + 1)) = RR from hrun)
            have hwm : IntKind.i64.wrap (m + 1) = m + 1 := by have := HMK.out; rw [IntKind.wrap_i64]; omega
            clear hrun
            go_wp2_with (first | ((with_reducible refine gate_ (.store 25 (.tmp 12) (.tmp 32)) rfl ?_); refine store_ev 25 (.tmp 12) (.tmp 32) rfl rfl rfl 0 (rqv r).toList (heap_alloc_new wr _) rfl rfl rfl (by kernel_rfl) (show 0 + 6 ≤ 6 by decide) (by simp [Value.oneCell']) rfl ?_; intro W4 hn hg; have HR4 := Aside0.mk hn; have HB4 := Aside0.mk (below_step HB.out (fresh_below hg)); have y0 := (blk_cell hn 0).trans rfl; clear hn hg g0 g1 g2 g3 g4 g5) | (go_at_call 29; with_reducible refine (HWH.out _ HB4.out).mono ?_; rintro e W5 ⟨rfl, hb⟩; have HB5 := Aside0.mk (below_step HB4.out hb); have HR5 := Aside0.mk (blk_below HR4.out hb); obtain ⟨x0, x1, x2, x3, x4, x5⟩ : W5.cell? ⟨wr.heap.size, 0, none⟩ = some (.string r.f0) ∧ W5.cell? ⟨wr.heap.size, 1, none⟩ = some (.int .i64 r.f1.f0) ∧ W5.cell? ⟨wr.heap.size, 2, none⟩ = some (.int .i64 r.f1.f1) ∧ W5.cell? ⟨wr.heap.size, 3, none⟩ = some (.int .i64 r.f1.f2) ∧ W5.cell? ⟨wr.heap.size, 4, none⟩ = some (.string r.f1.f3) ∧ W5.cell? ⟨wr.heap.size, 5, none⟩ = some (.string r.f1.f4) := ⟨(blk_cell HR5.out 0).trans rfl, (blk_cell HR5.out 1).trans rfl, (blk_cell HR5.out 2).trans rfl, (blk_cell HR5.out 3).trans rfl, (blk_cell HR5.out 4).trans rfl, (blk_cell HR5.out 5).trans rfl⟩; clear hb y0) | (go_at_call 14; with_reducible refine (HSE.out _ HB5.out).mono ?_; rintro e W6 ⟨rfl, hb⟩; have HB6 := Aside0.mk (below_step HB5.out hb); clear hb x0 x1 x2 x3 x4 x5))
            go_roundg (n - (kk + 1))
            case measure => omega
            case rel => exact ⟨kk + 1, st, m + 1, by omega, by omega, rfl, by go_num, by go_num, HRU, ⟨by have := HCS.out; have h : st.size ≤ cur.size + 100 := HSS.out; omega⟩, ⟨by have := HMK.out.1; omega, by have := HMK.out.2; omega⟩, HB6⟩
          · have HRU := Aside0.mk (show ((⟨#[]⟩ : ByteArray), (0 : Int), se) = RR by rw [← hrun]; rw [if_neg (by simp), if_pos he])
            have hsn : (se != 0) = true := by simpa using he
            have HX := Aside0.mk he
            clear hrun he
            go_wp2_with (first | ((with_reducible refine gate_ (.store 25 (.tmp 12) (.tmp 32)) rfl ?_); refine store_ev 25 (.tmp 12) (.tmp 32) rfl rfl rfl 0 (rqv r).toList (heap_alloc_new wr _) rfl rfl rfl (by kernel_rfl) (show 0 + 6 ≤ 6 by decide) (by simp [Value.oneCell']) rfl ?_; intro W4 hn hg; have HR4 := Aside0.mk hn; have HB4 := Aside0.mk (below_step HB.out (fresh_below hg)); have y0 := (blk_cell hn 0).trans rfl; clear hn hg g0 g1 g2 g3 g4 g5) | (go_at_call 29; with_reducible refine (HWH.out _ HB4.out).mono ?_; rintro e W5 ⟨rfl, hb⟩; have HB5 := Aside0.mk (below_step HB4.out hb); have HR5 := Aside0.mk (blk_below HR4.out hb); obtain ⟨x0, x1, x2, x3, x4, x5⟩ : W5.cell? ⟨wr.heap.size, 0, none⟩ = some (.string r.f0) ∧ W5.cell? ⟨wr.heap.size, 1, none⟩ = some (.int .i64 r.f1.f0) ∧ W5.cell? ⟨wr.heap.size, 2, none⟩ = some (.int .i64 r.f1.f1) ∧ W5.cell? ⟨wr.heap.size, 3, none⟩ = some (.int .i64 r.f1.f2) ∧ W5.cell? ⟨wr.heap.size, 4, none⟩ = some (.string r.f1.f3) ∧ W5.cell? ⟨wr.heap.size, 5, none⟩ = some (.string r.f1.f4) := ⟨(blk_cell HR5.out 0).trans rfl, (blk_cell HR5.out 1).trans rfl, (blk_cell HR5.out 2).trans rfl, (blk_cell HR5.out 3).trans rfl, (blk_cell HR5.out 4).trans rfl, (blk_cell HR5.out 5).trans rfl⟩; clear hb y0) | (go_at_call 14; with_reducible refine (HSE.out _ HB5.out).mono ?_; rintro e W6 ⟨rfl, hb⟩; have HB6 := Aside0.mk (below_step HB5.out hb); clear hb x0 x1 x2 x3 x4 x5))
            go_ret3
            exact ⟨by rw [HE.out, ← HRU.out]; rfl, HB6.out⟩
      · have hltz : ¬ (kk : Int) < (n : Int) := by omega
        obtain rfl : kk = n := by omega
        have HRU : Aside0 ((cur, m, (0 : Int)) = RR) := ⟨by
          have h := HRN.out
          rwa [List.drop_of_length_le (by rw [← HN.out]; exact Nat.le_refl _), allG] at h⟩
        go_wp2
        go_ret3
        exact ⟨by rw [HE.out, ← HRU.out]; rfl, HB.out⟩
  · rw [if_pos h1] at HE
    have hrn : (me != 0) = true := by simpa using h1
    have HX := Aside0.mk h1
    clear h1 hG hC hr hs
    go_enter Tryz.func20, Tryz.ntmps20
    go_wp2_with (first | (go_at_call 27; with_reducible refine HMP.out.mono ?_; rintro e W2 ⟨v2, v3, v4, v5, rfl, hm, hb⟩; have HB2 := Aside0.mk hb; have HO2 := Aside0.mk (one_mn (m := (maniP s).1) hm); clear hb hm) | ((with_reducible refine gate_ (.store 55 (.tmp 7) (.tmp 21)) rfl ?_); refine store_ev 55 (.tmp 7) (.tmp 21) rfl rfl rfl 0 [.string mf0, .string mf1, v2, v3, v4, v5] (heap_alloc_new W2 _) rfl rfl rfl (by kernel_rfl) (show 0 + 6 ≤ 6 by decide) (HO2.out _ _) rfl ?_; intro W3 hn hg; have HB3 := Aside0.mk (below_step HB2.out (fresh_below hg)); clear hn hg))
    go_ret3
    exact ⟨by rw [HE.out]; rfl, HB3.out⟩
end Go.Proofs.YtmbpefnhkimplaaGreatDoor
end

section
namespace Go.Proofs.YtmbpefnhkimplaaGreatDoor
open Go Go.RowKit Go.Sort Go.Maps Go.Proofs Go.Proofs.YtmbpefnhkimplaaGreatDoorW.PrintWords Go.Proofs.YtmbpefnhkimplaaGreatDoorW.PrintLast Go.Proofs.YtmbpefnhkimplaaGreatDoor.K0 Go.Proofs.YtmbpefnhkimplaaGreatDoor.R1 Go.Proofs.YtmbpefnhkimplaaGreatDoor.R2 Go.Proofs.YtmbpefnhkimplaaGreatDoor.R3
set_option linter.unusedVariables false
set_option linter.unusedSimpArgs false
/-- Where the line of a place begins; a text without that line. -/
def lineAt (s : ByteArray) (f : Nat) : Nat := (Lib.lastIndex (s.extract 0 f).data.toList [10] + 1).toNat
def trimP (s : ByteArray) : ByteArray := ⟨(Lib.trimPrefix s.data.toList [10]).toArray⟩
def dropE (s : ByteArray) (f : Nat) : ByteArray := s.extract 0 (lineAt s f) ++ trimP (s.extract (lineAt s f + ((rowsW (s.extract (lineAt s f) s.size)).getD 0 ⟨#[]⟩).size) s.size)
def dropP (s path : ByteArray) : ByteArray × Int := if (maniP s).2.2 ≠ 0 then (⟨#[]⟩, (maniP s).2.2) else if (whereP s path).2.2 = true then (dropE s (whereP s path).1.toNat, 0) else (⟨#[]⟩, 5)
theorem lastIndex_at (l : List UInt8) : ∃ k : Nat, Lib.lastIndex l [10] + 1 = (k : Int) ∧ k ≤ l.length := by
  unfold Lib.lastIndex
  split
  · rename_i h
    rcases Lib.lastOcc_spec l [10] (l.length - [(10 : UInt8)].length + 1) with ⟨h1, _⟩ | ⟨i, h1, h2, _⟩
    · exact ⟨0, by rw [h1]; rfl, Nat.zero_le _⟩
    · refine ⟨i + 1, by rw [h2]; rfl, ?_⟩
      simp only [List.length_cons, List.length_nil] at h h1
      omega
  · exact ⟨0, rfl, Nat.zero_le _⟩
theorem trimP_size (s : ByteArray) : (trimP s).size ≤ s.size := by
  unfold trimP Lib.trimPrefix
  rw [Lib.size_eq s]
  show (List.toArray _).size ≤ _
  rw [List.size_toArray]
  split
  · rw [List.length_drop]; omega
  · exact Nat.le_refl _
theorem rows_some {s : ByteArray} (h : 0 < s.size) : 0 < (rowsW s).length := by
  have hu := rowsW_unl s
  cases hr : rowsW s with
  | nil =>
    rw [hr] at hu
    rcases hu with hu | hu
    · have : s.data.toList = [] := hu.symm
      rw [Lib.size_eq, this] at h
      exact absurd h (Nat.lt_irrefl 0)
    · have := congrArg List.length hu
      simp [unlR, unl] at this
  | cons => exact Nat.succ_pos _
def dr9.T9 : Bool × List (List Nat × List Nat) := (true, [([], []), ([], []), ([0, 1], [0, 1]), ([], []), ([], []), ([], []), ([5], [5]), ([4, 6], [4, 6]), ([3, 7], [3, 7]), ([8], [8]), ([2, 9], [2, 9]), ([10, 9, 0, 1, 2, 3, 4, 5, 6, 7, 8, 9, 10], [10]), ([11, 0, 1, 2, 3, 4, 5, 6, 7, 8, 9, 10, 11], [])])
def dr9.B9 : List Nat := [0, 0, 3, 0, 0, 0, 32, 112, 248, 504, 1023, 2047, 4095]
theorem dr9.tab9 : rtab .any (opsOf Tryz.f19 9) = dr9.T9 := by kernel_rfl
theorem dr9.bits9 : waitsOk dr9.T9.2 dr9.B9 = true := by kernel_rfl
set_option maxRecDepth 100000 in
set_option maxHeartbeats 4000000 in
theorem drop_calls (s path : ByteArray) (hs : s.size ≤ 400000) (hps : path.size ≤ 400000) (w : World) (hG : GW w) : Calls Tryz.prog 19 #[.string s, .string path] w fun e w' => e = .returned (.tuple #[.string (dropP s path).1, .int .i64 (dropP s path).2]) ∧ Below w.heap.size w w' := by
  have HMP := Aside0.mk (mParse_calls s hs w hG)
  have HWH := Aside0.mk (fun W (h : Below w.heap.size w W) => where_calls s path hs hps W (hG.below h))
  have HE : Aside0 (dropP s path = if (maniP s).2.2 ≠ 0 then (⟨#[]⟩, (maniP s).2.2) else if (whereP s path).2.2 = true then (dropE s (whereP s path).1.toNat, 0) else (⟨#[]⟩, 5)) := ⟨rfl⟩
  generalize dropP s path = ro at HE ⊢
  have hwi := where_is s hs path
  obtain ⟨mf0, hmf0⟩ : ∃ z, z = (maniP s).1.f0 := ⟨_, rfl⟩
  obtain ⟨mf1, hmf1⟩ : ∃ z, z = (maniP s).1.f1 := ⟨_, rfl⟩
  obtain ⟨mn, hmn⟩ : ∃ z, z = (maniP s).2.1 := ⟨_, rfl⟩
  obtain ⟨me, hme⟩ : ∃ z, z = (maniP s).2.2 := ⟨_, rfl⟩
  rw [← hmf0, ← hmf1, ← hmn, ← hme] at HMP
  rw [← hme] at HE
  clear hmf0 hmf1 hmn hme
  by_cases h1 : me = 0
  · subst h1
    rw [if_neg (by simp)] at HE
    rcases hwi with hw | ⟨x, n, r, a, b, hm, hrm, _, _, hab, hw⟩
    · rw [hw] at HE HWH
      replace HE : Aside0 (ro = (⟨#[]⟩, 5)) := HE
      clear hw hG
      go_enter Tryz.func19, Tryz.ntmps19
      go_wp2_with (first | (go_at_call 27; with_reducible refine HMP.out.mono ?_; rintro e W2 ⟨v2, v3, v4, v5, rfl, hm, hb⟩; have HB2 := Aside0.mk hb; have HO2 := Aside0.mk (one_mn (m := (maniP s).1) hm); clear hb hm) | ((with_reducible refine gate_ (.store 55 (.tmp 6) (.tmp 17)) rfl ?_); refine store_ev 55 (.tmp 6) (.tmp 17) rfl rfl rfl 0 [.string mf0, .string mf1, v2, v3, v4, v5] (heap_alloc_new W2 _) rfl rfl rfl (by kernel_rfl) (show 0 + 6 ≤ 6 by decide) (HO2.out _ _) rfl ?_; intro W3 hn hg; have HB3 := Aside0.mk (below_step HB2.out (fresh_below hg)); clear hn hg) | (go_at_call 29; with_reducible refine (HWH.out _ HB3.out).mono ?_; rintro e W4 ⟨rfl, hb⟩; have HB4 := Aside0.mk (below_step HB3.out hb); clear hb))
      go_ret2
      exact ⟨by rw [HE.out]; rfl, HB4.out⟩
    · rw [hw] at HE HWH
      have hsz : s.size = a.length + ((txV r.f1).size + b.length) := by rw [Lib.size_eq s, hab, List.length_append, List.length_append, ← Lib.size_eq]
      have htx : 0 < (txV r.f1).size := by
        have h := txV_eq (rightP_ok (hm.text.ok r hrm)).2.1
        rw [Lib.size_eq, h]
        exact Nat.succ_pos _
      obtain ⟨f, hf⟩ : ∃ f, f = a.length := ⟨_, rfl⟩
      rw [← hf] at HE HWH
      obtain ⟨t, ht⟩ : ∃ t, t = f + (txV r.f1).size := ⟨_, rfl⟩
      rw [← ht] at HE HWH
      have hfs : f < s.size := by omega
      replace HE : Aside0 (ro = (dropE s f, 0)) := ⟨by rw [HE.out]; simp only [Int.toNat_natCast]; rfl⟩
      clear hw hm hrm hab hsz htx hf ht
      obtain ⟨pf, hpf⟩ : ∃ y, s.extract 0 f = y := ⟨_, rfl⟩
      obtain ⟨at_, hat, hal⟩ := lastIndex_at (s.extract 0 f).data.toList
      have hla : lineAt s f = at_ := by unfold lineAt; rw [hat, Int.toNat_natCast]
      have hpfs : pf.size ≤ f := by rw [← hpf, ByteArray.size_extract]; omega
      rw [← Lib.size_eq, hpf] at hal
      rw [hpf] at hat
      have hats : at_ < s.size := by omega
      obtain ⟨li, hli⟩ : ∃ z, z = Lib.lastIndex pf.data.toList [10] := ⟨_, rfl⟩
      rw [← hli] at hat
      have HLI := Aside0.mk (fun W => strings_LastIndex.calls pf (⟨#[10]⟩ : ByteArray) li W (by unfold strings_LastIndex.f; rw [if_pos (by omega)]; exact congrArg some hli.symm))
      obtain ⟨pt, hpt⟩ : ∃ y, s.extract at_ s.size = y := ⟨_, rfl⟩
      have hpts : pt.size = s.size - at_ := by rw [← hpt, ByteArray.size_extract]; omega
      have HSP := Aside0.mk (fun W (h : Below w.heap.size w W) => lex_Split.calls pt (rowsW pt) W (hG.below h) (lex_f pt (by omega)))
      have hrl := rows_some (s := pt) (by omega)
      obtain ⟨rows, hrows⟩ : ∃ y, y = rowsW pt := ⟨_, rfl⟩
      obtain ⟨ln, hln⟩ : ∃ y, y = rows.getD 0 (⟨#[]⟩ : ByteArray) := ⟨_, rfl⟩
      have hlns : ln.size ≤ pt.size := by
        have h0 : rows[0]? = some ln := by
          rw [hrows] at hln ⊢
          rw [hln, List.getD_eq_getElem?_getD, List.getElem?_eq_getElem hrl]; rfl
        exact rowsW_size (s := pt) (by rw [← hrows]; exact List.mem_of_getElem? h0)
      rw [← hrows] at HSP hrl
      have HRL : Aside0 ((0 : Int) < (rows.length : Int)) := ⟨by omega⟩
      have HL0 : Aside0 (rdOf ByteArray.empty rows 0 = ln) := ⟨by
        unfold rdOf
        rw [hln, List.getD_eq_getElem?_getD, List.getD_eq_getElem?_getD]
        show rows[0]?.getD _ = rows[0]?.getD _
        rw [List.getElem?_eq_getElem hrl]; rfl⟩
      obtain ⟨pa, hpa⟩ : ∃ y, s.extract 0 at_ = y := ⟨_, rfl⟩
      obtain ⟨pr, hpr⟩ : ∃ y, s.extract (at_ + ln.size) s.size = y := ⟨_, rfl⟩
      obtain ⟨tp, htp⟩ : ∃ y, trimP pr = y := ⟨_, rfl⟩
      have HTP : Aside0 (∀ W : World, Calls Tryz.prog 42 #[.string pr, .string (⟨#[10]⟩ : ByteArray)] W fun e w' => e = .returned (.string tp) ∧ w' = W) := ⟨fun W => by rw [← htp]; exact Tryz.strings_TrimPrefix pr (⟨#[10]⟩ : ByteArray) W⟩
      have hpas : pa.size ≤ 400000 := by rw [← hpa, ByteArray.size_extract]; omega
      have htps : tp.size ≤ 400000 := by
        have := trimP_size pr
        rw [← htp]
        have h2 : pr.size ≤ s.size := by rw [← hpr, ByteArray.size_extract]; omega
        omega
      replace HE : Aside0 (ro = (pa ++ tp, 0)) := ⟨by rw [HE.out]; unfold dropE; rw [hla, hpa, hpt, ← hrows, ← hln, hpr, htp]⟩
      have hsl1 : ∀ W : World, (Instr.slice 9 (.string s) none (some (.int .i64 (f : Int))) none).run Tryz.prog W = .ok (.string pf) W := fun W => by
        have hz0 : (f : Int) ≤ (s.size : Int) := by omega
        rw [← hpf]
        clear hpf HE HTP HL0 hln hrows hpa hpr htp hpt
        go_simp
        first | rfl | done
      have hsl2 : ∀ W : World, (Instr.slice 9 (.string s) (some (.int .i64 (at_ : Int))) none none).run Tryz.prog W = .ok (.string pt) W := fun W => by
        have hz0 : (at_ : Int) ≤ (s.size : Int) := by omega
        rw [← hpt]
        clear hpf HE HTP HL0 hln hrows hpa hpr htp hpt hpts
        go_simp
        first | rfl | done
      have hsl3 : ∀ W : World, (Instr.slice 9 (.string s) none (some (.int .i64 (at_ : Int))) none).run Tryz.prog W = .ok (.string pa) W := fun W => by
        have hz0 : (at_ : Int) ≤ (s.size : Int) := by omega
        rw [← hpa]
        clear hpf HE HTP HL0 hln hrows hpa hpr htp hpt hpts
        go_simp
        first | rfl | done
      have hsl4 : ∀ W : World, (Instr.slice 9 (.string s) (some (.int .i64 ((at_ : Int) + (ln.size : Int)))) none none).run Tryz.prog W = .ok (.string pr) W := fun W => by
        obtain ⟨k, hk⟩ : ∃ k, k = at_ + ln.size := ⟨_, rfl⟩
        have hz0 : (k : Int) ≤ (s.size : Int) := by omega
        rw [show (at_ : Int) + (ln.size : Int) = (k : Int) by omega, ← hpr, ← hk]
        clear hpf HE HTP HL0 hln hrows hpa hpr htp hpt hpts hk
        go_simp
        first | rfl | done
      have hwa : IntKind.i64.wrap (li + 1) = (at_ : Int) := by rw [IntKind.wrap_i64]; omega
      have HWL : Aside0 (IntKind.i64.wrap ((at_ : Int) + (ln.size : Int)) = (at_ : Int) + (ln.size : Int)) := ⟨by rw [IntKind.wrap_i64]; omega⟩
      have HS3 := Aside0.mk hsl3
      have HS4 := Aside0.mk hsl4
      clear hsl3 hsl4 hG hfs hats hat hal hla hpf hpfs hli hpt hpts hrl hrows hln hlns hpa hpr htp hs hps
      go_enter Tryz.func19, Tryz.ntmps19
      go_wp2_with (first | (go_at_call 27; with_reducible refine HMP.out.mono ?_; rintro e W2 ⟨v2, v3, v4, v5, rfl, hm, hb⟩; have HB2 := Aside0.mk hb; have HO2 := Aside0.mk (one_mn (m := (maniP s).1) hm); clear hb hm) | ((with_reducible refine gate_ (.store 55 (.tmp 6) (.tmp 17)) rfl ?_); refine store_ev 55 (.tmp 6) (.tmp 17) rfl rfl rfl 0 [.string mf0, .string mf1, v2, v3, v4, v5] (heap_alloc_new W2 _) rfl rfl rfl (by kernel_rfl) (show 0 + 6 ≤ 6 by decide) (HO2.out _ _) rfl ?_; intro W3 hn hg; have HB3 := Aside0.mk (below_step HB2.out (fresh_below hg)); clear hn hg) | (go_at_call 29; with_reducible refine (HWH.out _ HB3.out).mono ?_; rintro e W4 ⟨rfl, hb⟩; have HB4 := Aside0.mk (below_step HB3.out hb); clear hb) | (go_at_call 40; with_reducible refine (HLI.out _).mono ?_; rintro e W5 ⟨rfl, hd⟩; have HB5 := Aside0.mk (below_step HB4.out hd.below); clear hd) | (go_at_call 41; with_reducible refine (HSP.out _ HB5.out).mono ?_; rintro e W6 ⟨v0, rfl, ho, hb⟩; obtain ⟨A0, c0, rfl⟩ := Kd.R_slice ho; obtain ⟨ad, hA, g0⟩ := Kd.at_string (Kd.R_reads' ho).2.2 0 (Int.le_refl _) HRL.out; subst hA; rw [HL0.out] at g0; replace g0 : W6.cell? ad = some (.string ln) := (by simpa [Addr.add] using g0); have HB6 := Aside0.mk (below_step HB5.out hb); have hrl := HRL.out; have hrl2 : 0 < rows.length := (by omega); clear ho hb))
      have HB7 := Aside0.mk (below_step HB6.out (below_drew1 (Below.refl _ _)))
      clear g0 hrl hrl2
      refine sX (ds := []) (S := fun _ => True) dr9.tab9 dr9.bits9 trivial (fun HT_ HW_ hHeld => ?_)
      generalize W6.drew = W7 at HB7 hHeld ⊢
      have hsl3 := HS3.out
      have hsl4 := HS4.out
      have hwl := HWL.out
      refine pX HT_ 0 1 43 ?_
      refine pX HT_ 1 3 44 ?_
      refine pX HT_ 2 7 45 ?_
      refine pX HT_ 3 15 46 ?_
      refine pX HT_ 4 31 47 ?_
      refine pX HT_ 5 63 48 ?_
      refine pX HT_ 6 127 49 ?_
      refine pX HT_ 7 255 50 ?_
      refine pX HT_ 8 511 51 ?_
      clear hsl3 hsl4 hwl
      refine gX HT_ 9 1023 52 Tryz.func42 (HTP.out W7) ?_
      rintro e W8 ⟨rfl, rfl⟩
      refine ⟨_, rfl, _, nX, trivial, fun hHeld => ?_⟩
      obtain ⟨c1a, c1b, c1c⟩ := cat_ok (n := pa.size + tp.size) (by omega)
      refine pX HT_ 10 2047 53 ?_
      clear c1a c1b c1c
      refine pX HT_ 11 4095 4 ?_
      refine pX HT_ 12 8191 5 ?_
      refine eX HT_ ?_
      clear HT_ HW_ hHeld
      go_wp2
      go_ret2
      exact ⟨by rw [HE.out]; rfl, HB7.out⟩
  · rw [if_pos h1] at HE
    have hrn : (me != 0) = true := by simpa using h1
    have HX := Aside0.mk h1
    clear h1 hG hwi
    go_enter Tryz.func19, Tryz.ntmps19
    go_wp2_with (first | (go_at_call 27; with_reducible refine HMP.out.mono ?_; rintro e W2 ⟨v2, v3, v4, v5, rfl, hm, hb⟩; have HB2 := Aside0.mk hb; have HO2 := Aside0.mk (one_mn (m := (maniP s).1) hm); clear hb hm) | ((with_reducible refine gate_ (.store 55 (.tmp 6) (.tmp 17)) rfl ?_); refine store_ev 55 (.tmp 6) (.tmp 17) rfl rfl rfl 0 [.string mf0, .string mf1, v2, v3, v4, v5] (heap_alloc_new W2 _) rfl rfl rfl (by kernel_rfl) (show 0 + 6 ≤ 6 by decide) (HO2.out _ _) rfl ?_; intro W3 hn hg; have HB3 := Aside0.mk (below_step HB2.out (fresh_below hg)); clear hn hg))
    go_ret2
    exact ⟨by rw [HE.out]; rfl, HB3.out⟩
end Go.Proofs.YtmbpefnhkimplaaGreatDoor
end
