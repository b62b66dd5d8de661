/- The texts LPw, LPx, RQx0 in one file, without what these claims do not use (put together by prune2.py). -/
import Derived.Test.YtjdhdjmdmnedfaaGreatDoorZP37
import Derived.Test.YtjdhdjmdmnedfaaGreatDoorZP36
import Derived.Test.YtjdhdjmdmnedfaaGreatDoorZP32
import Derived.Test.YtjdhdjmdmnedfaaGreatDoorZP35
import Derived.Test.YtjdhdjmdmnedfaaGreatDoorZP4
import Derived.Test.YtjdhdjmdmnedfaaGreatDoorZP30
section
namespace Go.Proofs.YtjdhdjmdmnedfaaGreatDoor
open Go Go.RowKit Go.Proofs Go.Proofs.YtjdhdjmdmnedfaaGreatDoorW.PrintWords Go.Proofs.YtjdhdjmdmnedfaaGreatDoorW.PrintLast Go.Proofs.YtjdhdjmdmnedfaaGreatDoor.K0 Go.Proofs.YtjdhdjmdmnedfaaGreatDoor.RD Go.Proofs.YtjdhdjmdmnedfaaGreatDoor.RP
set_option linter.unusedVariables false
set_option linter.unusedSimpArgs false
theorem rfind_calls (s : ByteArray) (c : UInt8) (hs : s.size ≤ 1000) (w : World) : Calls Tryz.prog 37 #[.string s, .int .u8 (c.toNat : Int)] w fun e w' => e = .returned (.int .i64 (if c ∈ s.data.toList then ((idxC c s.data.toList : Nat) : Int) else -1)) ∧ Below w.heap.size w w' :=
  (armadaref07_find.calls 1001 s c.toNat _ w (find_f s c (by omega) 1001 (by omega))).mono fun e w' h => ⟨h.1, h.2.below⟩
theorem rread_calls (s : ByteArray) (hs : s.size ≤ 1000) (w : World) : Calls Tryz.prog 38 #[.string s] w fun e w' => e = .returned (.int .i64 (numD s.data.toList)) ∧ Below w.heap.size w w' := by
  have h := rread_f s (by omega) 1010 (by omega)
  rw [Lib.size_eq] at h
  exact (armadaref07_read.calls 1010 s _ w h).mono fun e w' h => ⟨h.1, h.2.below⟩
theorem rsp_calls (s : ByteArray) (c : UInt8) (hs : s.size ≤ 1000) (w : World) : Calls Tryz.prog 20 #[.string s, .int .u8 (c.toNat : Int)] w fun e w' => ∃ A d, e = .returned (.slice A (splitC c s.data.toList).length d) ∧ Kd.R Kd.string 9 w' w.heap.size (fun _ => True) (.slice A (splitC c s.data.toList).length d) ((splitC c s.data.toList).map ba) ∧ Below w.heap.size w w' := by
  refine (armadaref05_Split.calls 1010 s c.toNat _ w (ref_split c s (by omega) 1010 (by omega))).mono ?_
  rintro e w' ⟨v, rfl, hR, hb⟩
  obtain ⟨A, d, rfl⟩ := Kd.R_slice hR
  have hl : (splitBy c s).length = (splitC c s.data.toList).length := by unfold splitBy; rw [List.length_map]
  rw [hl] at hR
  exact ⟨A, d, by rw [hl], hR, hb⟩
/-- The three parts, which lie apart from Parse's own blocks. -/
def PlIs (w : World) (A : Option Addr) (d : Nat) (a b c : ByteArray) (W : World) : Prop := Kd.R Kd.string 9 W (w.heap.size + 2) (fun k => True ∧ k ≠ w.heap.size + 1) (.slice A 3 d) [a, b, c]
theorem PlIs.below {w W W' : World} {A : Option Addr} {d : Nat} {a b c : ByteArray} (h : PlIs w A d a b c W) (hb : Below W.heap.size W W') : PlIs w A d a b c W' := Kd.R_below h hb
theorem PlIs.put {w W W' : World} {A : Option Addr} {d : Nat} {a b c : ByteArray} (h : PlIs w A d a b c W) (hg : W.grownBy W' (some (w.heap.size + 1))) : PlIs w A d a b c W' := Kd.R_grown h hg (fun k hk e => hk.2 (Option.some.inj e))
theorem pl_of {w W W' : World} {A : Option Addr} {d : Nat} {a b c : ByteArray} (h : Kd.R Kd.string 9 W' W.heap.size (fun _ => True) (.slice A 3 d) [a, b, c]) (hs : w.heap.size + 1 < W.heap.size) : PlIs w A d a b c W' :=
  Kd.R_far1 (Kd.R_lower h (by omega)) rfl (fun e => by have := Kd.R_base h _ e.symm; omega)
theorem pad_z (ad : Addr) : ad.add 0 = ad := by
  unfold Addr.add
  rw [if_pos rfl]
theorem PlIs.some_ {w W : World} {A : Option Addr} {d : Nat} {a b c : ByteArray} (h : PlIs w A d a b c W) : ∃ ad, A = some ad := by
  obtain ⟨ad, hA, _⟩ := Kd.at_string (Kd.R_reads' h).2.2 0 (by omega) (by simp)
  exact ⟨ad, hA⟩
theorem PlIs.cells {w W : World} {ad : Addr} {d : Nat} {a b c : ByteArray} (h : PlIs w (some ad) d a b c W) : W.cell? ad = some (.string a) ∧ W.cell? ⟨ad.block, ad.off + 1, none⟩ = some (.string b) ∧ W.cell? ⟨ad.block, ad.off + 2, none⟩ = some (.string c) := by
  have hC := (Kd.R_reads' h).2.2
  obtain ⟨a0, h0, k0⟩ := Kd.at_string hC 0 (by omega) (by simp)
  obtain ⟨a1, h1, k1⟩ := Kd.at_string hC 1 (by omega) (by simp)
  obtain ⟨a2, h2, k2⟩ := Kd.at_string hC 2 (by omega) (by simp)
  obtain rfl := Option.some.inj h0
  obtain rfl := Option.some.inj h1
  obtain rfl := Option.some.inj h2
  have e1 : ad.add 1 = ⟨ad.block, ad.off + 1, none⟩ := by unfold Addr.add; rw [if_neg (by decide)]
  have e2 : ad.add 2 = ⟨ad.block, ad.off + 2, none⟩ := by unfold Addr.add; rw [if_neg (by decide)]
  exact ⟨by rw [← pad_z ad]; exact k0, e1 ▸ k1, e2 ▸ k2⟩
/-- Parse's own blocks: what it hands back, and what it reads. -/
structure PvIs (w : World) (v : Array Value) (W : World) : Prop where
  base : Below w.heap.size w W
  z : W.heap[w.heap.size]? = some (.cells (vec 0 0 0 ⟨#[]⟩ ⟨#[]⟩) 30 (0, 0))
  v : W.heap[w.heap.size + 1]? = some (.cells v 30 (0, 0))
theorem PvIs.step {w W W' : World} {v : Array Value} (h : PvIs w v W) (hb : Below W.heap.size W W') : PvIs w v W' := ⟨below_step h.base hb, blk_below h.z hb, blk_below h.v hb⟩
theorem PvIs.put {w W W' : World} {v u : Array Value} (h : PvIs w v W) (hr : W'.heap[w.heap.size + 1]? = some (.cells u 30 (0, 0))) (hg : W.grownBy W' (some (w.heap.size + 1))) : PvIs w u W' :=
  ⟨h.base.grown hg h.base.size (fun k hk => by cases hk; omega), blk_grown h.z hg (by simp), hr⟩
theorem pv_start (w : World) : PvIs w (vec 0 0 0 ⟨#[]⟩ ⟨#[]⟩) ((w.alloc (.cells (vec 0 0 0 ⟨#[]⟩ ⟨#[]⟩) 30)).alloc (.cells (vec 0 0 0 ⟨#[]⟩ ⟨#[]⟩) 30)) := by
  have h1 := heap_alloc_new (w.alloc (.cells (vec 0 0 0 ⟨#[]⟩ ⟨#[]⟩) 30)) (.cells (vec 0 0 0 ⟨#[]⟩ ⟨#[]⟩) 30)
  rw [show (w.alloc (.cells (vec 0 0 0 ⟨#[]⟩ ⟨#[]⟩) 30)).heap.size = w.heap.size + 1 by simp] at h1
  exact ⟨below_alloc (below_alloc (Below.refl _ _) _) _, blk_alloc (heap_alloc_new w _) _, h1⟩
theorem vec_one (a b c : Int) (p q : ByteArray) : ∀ y ∈ (vec a b c p q).toList, y.oneCell' = true := fun y hy => by
  simp only [vec, List.mem_cons, List.not_mem_nil, or_false] at hy
  rcases hy with rfl | rfl | rfl | rfl | rfl <;> rfl
/-- A cut at a byte, by the numbers that the document takes. -/
theorem pcut_at (c : UInt8) {x : ByteArray} (hx : x.size ≤ 1000) (hm : c ∈ x.data.toList) : idxC c x.data.toList < x.size ∧ (x.extract 0 (idxC c x.data.toList)) = ba (cutC c x.data.toList).1 ∧ (x.extract (idxC c x.data.toList + 1) x.size) = ba (cutC c x.data.toList).2 := by
  have hlt := idxC_lt hm
  rw [← Lib.size_eq] at hlt
  refine ⟨hlt, ?_, ?_⟩
  · apply by_data
    rw [Lib.extract_data, cutC_idx]; simp [ba]
  · apply by_data
    rw [Lib.extract_data, cutC_idx]
    show List.take _ _ = _
    rw [List.take_of_length_le (by rw [List.length_drop, ← Lib.size_eq]; exact Nat.le_refl _)]
    rfl
theorem cut_size (c : UInt8) (x : List UInt8) : (cutC c x).1.length ≤ x.length ∧ (cutC c x).2.length ≤ x.length := by
  rw [cutC_idx]
  exact ⟨by show (List.take _ _).length ≤ _; rw [List.length_take]; omega, by show (List.drop _ _).length ≤ _; rw [List.length_drop]; omega⟩
set_option maxRecDepth 100000 in
set_option maxHeartbeats 2000000 in
theorem rvparse_calls (s : ByteArray) (w : World) : Calls Tryz.prog 21 #[.string s] w fun e w' => e = .returned (.tuple #[.agg (vec (verR (parseV s.data.toList)).1 (verR (parseV s.data.toList)).2.1 (verR (parseV s.data.toList)).2.2.1 (verR (parseV s.data.toList)).2.2.2.1 (verR (parseV s.data.toList)).2.2.2.2.1), .bool (verR (parseV s.data.toList)).2.2.2.2.2]) ∧ Below w.heap.size w w' := by
  have HS := Aside0.mk (pv_start w)
  obtain ⟨o, ho⟩ : ∃ o, parseV s.data.toList = o := ⟨_, rfl⟩
  rw [ho]
  have HO := Aside0.mk ho
  clear ho
  by_cases h100 : (s.size : Int) > 100
  · obtain rfl : o = none := HO.out.symm.trans (pv_long (by rw [← Lib.size_eq]; omega))
    go_enter Tryz.func21, Tryz.ntmps21
    go_upto_region 2 with fail
    generalize ((w.alloc (.cells #[.int .i64 0, .int .i64 0, .int .i64 0, .string ⟨#[]⟩, .string ⟨#[]⟩] 30)).alloc (.cells #[.int .i64 0, .int .i64 0, .int .i64 0, .string ⟨#[]⟩, .string ⟨#[]⟩] 30)) = W1 at HS ⊢
    go_wp2_with ((with_reducible refine gate_ (.store 30 (.tmp 2) (.tmp 23)) rfl ?_); refine store_ev 30 (.tmp 2) (.tmp 23) rfl rfl rfl 0 (vec 0 0 0 ⟨#[]⟩ ⟨#[]⟩).toList HS.out.z rfl rfl rfl (by kernel_rfl) (show 0 + 5 ≤ 5 by decide) (vec_one _ _ _ _ _) rfl ?_; intro Wb hb hgb; have HB9 := Aside0.mk hb; have HBB := Aside0.mk (HS.out.base.grown hgb HS.out.base.size (fun k hk => by cases hk; omega)); clear hb hgb)
    refine bodyPost_ret (results_ct rfl _ _ w.heap.size 30 (vec 0 0 0 ⟨#[]⟩ ⟨#[]⟩) (0, 0) _ rfl HB9.out Tryz.underlying30 rfl (by kernel_rfl)) rfl ?_
    exact ⟨rfl, HBB.out⟩
  · by_cases h0 : (s.size : Int) = 0
    · obtain rfl : o = none := HO.out.symm.trans (by rw [show s.data.toList = [] from List.length_eq_zero_iff.1 (by rw [← Lib.size_eq]; omega)]; rfl)
      have hz : ((s.size : Int) == 0) = true := beq_iff_eq.mpr h0
      clear h0
      go_enter Tryz.func21, Tryz.ntmps21
      go_upto_region 2 with fail
      generalize ((w.alloc (.cells #[.int .i64 0, .int .i64 0, .int .i64 0, .string ⟨#[]⟩, .string ⟨#[]⟩] 30)).alloc (.cells #[.int .i64 0, .int .i64 0, .int .i64 0, .string ⟨#[]⟩, .string ⟨#[]⟩] 30)) = W1 at HS ⊢
      go_wp2_with ((with_reducible refine gate_ (.store 30 (.tmp 2) (.tmp 23)) rfl ?_); refine store_ev 30 (.tmp 2) (.tmp 23) rfl rfl rfl 0 (vec 0 0 0 ⟨#[]⟩ ⟨#[]⟩).toList HS.out.z rfl rfl rfl (by kernel_rfl) (show 0 + 5 ≤ 5 by decide) (vec_one _ _ _ _ _) rfl ?_; intro Wb hb hgb; have HB9 := Aside0.mk hb; have HBB := Aside0.mk (HS.out.base.grown hgb HS.out.base.size (fun k hk => by cases hk; omega)); clear hb hgb)
      refine bodyPost_ret (results_ct rfl _ _ w.heap.size 30 (vec 0 0 0 ⟨#[]⟩ ⟨#[]⟩) (0, 0) _ rfl HB9.out Tryz.underlying30 rfl (by kernel_rfl)) rfl ?_
      exact ⟨rfl, HBB.out⟩
    · have hpos : (0 : Int) < (s.size : Int) := by omega
      have hz : ((s.size : Int) == 0) = false := beq_eq_false_iff_ne.mpr h0
      obtain ⟨b, hb, hd⟩ := scan (s := s) (n := 0) (by omega)
      rw [List.drop_zero] at hd
      have hb' : bt s 0 = (b.toNat : Int) := hb
      have q40 : 0 < s.size := by omega
      have hx40 : ∀ h : 0 < s.size, ((s[0]'h).toNat : Int) = (b.toNat : Int) := fun h => (bt_at s 0 h).trans hb'
      clear hb hb'
      by_cases h118 : b = 118
      · have hne : s.data.toList ≠ [] := by rw [hd]; simp
        have h18 : (((b.toNat : Nat) : Int) != 118) = false := by rw [h118]; rfl
        have hr : (s.extract 1 s.size).data.toList = s.data.toList.drop 1 := by
          rw [Lib.extract_data, List.take_of_length_le (by rw [List.length_drop, ← Lib.size_eq]; omega)]
        have hr2 : s.extract 1 s.size = ba (s.data.toList.drop 1) := by_data (by rw [hr]; rfl)
        obtain ⟨r, hrr⟩ : ∃ r, ba (s.data.toList.drop 1) = r := ⟨_, rfl⟩
        have hrd : r.data.toList = s.data.toList.drop 1 := by rw [← hrr]; rfl
        have hrs : r.size ≤ 100 := by rw [Lib.size_eq, hrd, List.length_drop, ← Lib.size_eq]; omega
        rw [hrr] at hr2
        have HRD := Aside0.mk hrd
        have HNE := Aside0.mk hne
        have h1z : (1 : Int) ≤ (s.size : Int) := by omega
        clear hd hr hrr hrd hne h118
        go_enter Tryz.func21, Tryz.ntmps21
        go_upto_region 2 with fail
        generalize ((w.alloc (.cells #[.int .i64 0, .int .i64 0, .int .i64 0, .string ⟨#[]⟩, .string ⟨#[]⟩] 30)).alloc (.cells #[.int .i64 0, .int .i64 0, .int .i64 0, .string ⟨#[]⟩, .string ⟨#[]⟩] 30)) = W1 at HS ⊢
        go_upto_region 6 with fail
        clear hr2 q40 hx40 h18 hz hpos h1z h0 h100
        have HF6 := Aside0.mk (show ∀ W : World, Calls Tryz.prog 37 #[.string r, .int .u8 43] W fun e w' => e = .returned (.int .i64 (if (43 : UInt8) ∈ r.data.toList then ((idxC 43 r.data.toList : Nat) : Int) else -1)) ∧ Below W.heap.size W w' from fun W => rfind_calls r 43 (by omega) W)
        obtain ⟨x, hx⟩ : ∃ y, ba (cutC 43 r.data.toList).1 = y := ⟨_, rfl⟩
        obtain ⟨q, hq⟩ : ∃ y, ba (cutC 43 r.data.toList).2 = y := ⟨_, rfl⟩
        have xs : x.size ≤ 100 := by rw [← hx, ba_size]; have := (cut_size 43 r.data.toList).1; rw [← Lib.size_eq] at this; omega
        have qs : q.size ≤ 100 := by rw [← hq, ba_size]; have := (cut_size 43 r.data.toList).2; rw [← Lib.size_eq] at this; omega
        have HX6 := Aside0.mk (And.intro hx hq)
        obtain ⟨i6, hi6⟩ : ∃ i, (if (43 : UInt8) ∈ r.data.toList then ((idxC 43 r.data.toList : Nat) : Int) else -1) = i := ⟨_, rfl⟩
        rw [hi6] at HF6
        have HI6 := Aside0.mk hi6
        clear hx hq hi6
        go_upto_if 29 with (go_at_call 37; with_reducible refine (HF6.out _).mono ?_; rintro e W16 ⟨rfl, hb⟩; have HC6 := Aside0.mk (HS.out.step hb); clear hb)
        clear HS HF6
        go_cut [5] (fun v5 wc => v5 = .string x ∧ Aside0 (PvIs w (vec 0 0 0 ⟨#[]⟩ q) wc))
        case first =>
          by_cases hm : (43 : UInt8) ∈ r.data.toList
          · obtain ⟨c1, c2, c3⟩ := pcut_at 43 (by omega) hm
            have hi := HI6.out
            rw [if_pos hm] at hi
            obtain ⟨n, hn⟩ : ∃ n, idxC 43 r.data.toList = n := ⟨_, rfl⟩
            rw [hn] at hi c1 c2 c3
            rw [HX6.out.1] at c2
            rw [HX6.out.2] at c3
            subst hi
            have hw := wrap_succ (n := n) (by omega)
            have hw2 : IntKind.i64.wrap ((n : Int) + 1) = (n : Int) + 1 := (i64_w _).trans (hw.trans (by omega))
            have l0 : (0 : Int) ≤ (n : Int) := by omega
            have l1 : (n : Int) + 1 ≤ (r.size : Int) := by omega
            have l2 : (n : Int) ≤ (r.size : Int) := by omega
            have l3 : (0 : Int) ≤ (n : Int) + 1 := by omega
            clear hm hn hw c1
            go_wp2_with ((with_reducible refine gate_ (.store 9 (.tmp 34) (.tmp 33)) rfl ?_); refine store_ev 9 (.tmp 34) (.tmp 33) rfl rfl rfl 4 [.string q] HC6.out.v rfl rfl rfl (by kernel_rfl) (show 4 + 1 ≤ 5 by decide) (by simp [Value.oneCell']) rfl ?_; intro W3 hn hg; have HS3 := Aside0.mk (HC6.out.put hn hg); clear hn hg)
            go_meet
            case rel => exact ⟨by first | rfl | rw [c2] | (simp [c2]; done), HS3⟩
          · have hi := HI6.out
            rw [if_neg hm] at hi
            subst hi
            have e1 := HX6.out.1
            have e2 := HX6.out.2
            rw [cutC_none hm] at e1 e2
            obtain rfl : x = r := e1.symm.trans (by_data rfl)
            obtain rfl : q = ⟨#[]⟩ := e2.symm
            clear hm e1 e2
            go_wp2
            go_meet
            case rel => exact ⟨rfl, HC6⟩
        case rest =>
        obtain ⟨rfl, HS6⟩ := hcut
        clear HC6 HI6
        have HF7 := Aside0.mk (show ∀ W : World, Calls Tryz.prog 37 #[.string x, .int .u8 45] W fun e w' => e = .returned (.int .i64 (if (45 : UInt8) ∈ x.data.toList then ((idxC 45 x.data.toList : Nat) : Int) else -1)) ∧ Below W.heap.size W w' from fun W => rfind_calls x 45 (by omega) W)
        obtain ⟨y, hy⟩ : ∃ y, ba (cutC 45 x.data.toList).1 = y := ⟨_, rfl⟩
        obtain ⟨p, hp⟩ : ∃ y, ba (cutC 45 x.data.toList).2 = y := ⟨_, rfl⟩
        have ys : y.size ≤ 100 := by rw [← hy, ba_size]; have := (cut_size 45 x.data.toList).1; rw [← Lib.size_eq] at this; omega
        have ps : p.size ≤ 100 := by rw [← hp, ba_size]; have := (cut_size 45 x.data.toList).2; rw [← Lib.size_eq] at this; omega
        have HX7 := Aside0.mk (And.intro hy hp)
        obtain ⟨i7, hi7⟩ : ∃ i, (if (45 : UInt8) ∈ x.data.toList then ((idxC 45 x.data.toList : Nat) : Int) else -1) = i := ⟨_, rfl⟩
        rw [hi7] at HF7
        have HI7 := Aside0.mk hi7
        clear hy hp hi7
        go_upto_if 41 with (go_at_call 37; with_reducible refine (HF7.out _).mono ?_; rintro e W17 ⟨rfl, hb⟩; have HC7 := Aside0.mk (HS6.out.step hb); clear hb)
        clear HS6 HF7
        go_cut [5] (fun v5 wc => v5 = .string y ∧ Aside0 (PvIs w (vec 0 0 0 p q) wc))
        case first =>
          by_cases hm : (45 : UInt8) ∈ x.data.toList
          · obtain ⟨c1, c2, c3⟩ := pcut_at 45 (by omega) hm
            have hi := HI7.out
            rw [if_pos hm] at hi
            obtain ⟨n, hn⟩ : ∃ n, idxC 45 x.data.toList = n := ⟨_, rfl⟩
            rw [hn] at hi c1 c2 c3
            rw [HX7.out.1] at c2
            rw [HX7.out.2] at c3
            subst hi
            have hw := wrap_succ (n := n) (by omega)
            have hw2 : IntKind.i64.wrap ((n : Int) + 1) = (n : Int) + 1 := (i64_w _).trans (hw.trans (by omega))
            have l0 : (0 : Int) ≤ (n : Int) := by omega
            have l1 : (n : Int) + 1 ≤ (x.size : Int) := by omega
            have l2 : (n : Int) ≤ (x.size : Int) := by omega
            have l3 : (0 : Int) ≤ (n : Int) + 1 := by omega
            clear hm hn hw c1
            go_wp2_with ((with_reducible refine gate_ (.store 9 (.tmp 46) (.tmp 45)) rfl ?_); refine store_ev 9 (.tmp 46) (.tmp 45) rfl rfl rfl 3 [.string p] HC7.out.v rfl rfl rfl (by kernel_rfl) (show 3 + 1 ≤ 5 by decide) (by simp [Value.oneCell']) rfl ?_; intro W3 hn hg; have HS3 := Aside0.mk (HC7.out.put hn hg); clear hn hg)
            go_meet
            case rel => exact ⟨by first | rfl | rw [c2] | (simp [c2]; done), HS3⟩
          · have hi := HI7.out
            rw [if_neg hm] at hi
            subst hi
            have e1 := HX7.out.1
            have e2 := HX7.out.2
            rw [cutC_none hm] at e1 e2
            obtain rfl : y = x := e1.symm.trans (by_data rfl)
            obtain rfl : p = ⟨#[]⟩ := e2.symm
            clear hm e1 e2
            go_wp2
            go_meet
            case rel => exact ⟨rfl, HC7⟩
        case rest =>
        obtain ⟨rfl, HS7⟩ := hcut
        clear HC7 HI7
        obtain ⟨l, hl⟩ : ∃ l, splitC 46 y.data.toList = l := ⟨_, rfl⟩
        have HSP := Aside0.mk (show ∀ W : World, Calls Tryz.prog 20 #[.string y, .int .u8 46] W fun e w' => ∃ A d, e = .returned (.slice A l.length d) ∧ Kd.R Kd.string 9 w' W.heap.size (fun _ => True) (.slice A l.length d) (l.map ba) ∧ Below W.heap.size W w' from fun W => by have := rsp_calls y 46 (by omega) W; rwa [hl] at this)
        have hcut43 : (cutC 43 (s.data.toList.drop 1)) = (x.data.toList, q.data.toList) := by rw [← HRD.out, ← HX6.out.1, ← HX6.out.2]; rfl
        have hcut45 : (cutC 45 x.data.toList) = (y.data.toList, p.data.toList) := by rw [← HX7.out.1, ← HX7.out.2]; rfl
        by_cases h3 : l.length = 3
        · obtain ⟨e0, e1, e2, rfl⟩ := three h3
          have hps := pv_is (s := s.data.toList) HNE.out (e0 := e0) (e1 := e1) (e2 := e2) (by rw [hcut43]; simp only; rw [hcut45]; exact hl)
          rw [hcut43] at hps
          simp only at hps
          rw [hcut45] at hps
          simp only at hps
          have hsz : ∀ e ∈ [e0, e1, e2], (ba e).size ≤ 1000 := fun e he => by
            rw [← hl] at he
            have := (splitC_parts he).2
            rw [← Lib.size_eq] at this
            rw [ba_size]
            omega
          have HR0 := Aside0.mk (show ∀ W : World, Calls Tryz.prog 38 #[.string (ba e0)] W fun e w' => e = .returned (.int .i64 (numD e0)) ∧ Below W.heap.size W w' from fun W => rread_calls (ba e0) (hsz e0 (by simp)) W)
          have HR1 := Aside0.mk (show ∀ W : World, Calls Tryz.prog 38 #[.string (ba e1)] W fun e w' => e = .returned (.int .i64 (numD e1)) ∧ Below W.heap.size W w' from fun W => rread_calls (ba e1) (hsz e1 (by simp)) W)
          have HR2 := Aside0.mk (show ∀ W : World, Calls Tryz.prog 38 #[.string (ba e2)] W fun e w' => e = .returned (.int .i64 (numD e2)) ∧ Below W.heap.size W w' from fun W => rread_calls (ba e2) (hsz e2 (by simp)) W)
          have HPS := Aside0.mk (HO.out.symm.trans hps)
          clear hl hcut43 hcut45 hps hsz h3 HO
          generalize numD e0 = n0 at HR0 HPS
          generalize numD e1 = n1 at HR1 HPS
          generalize numD e2 = n2 at HR2 HPS
          have HTX := Aside0.mk (fun W => rtext_calls n0 n1 n2 p q W)
          rw [show ba p.data.toList = p from rfl, show ba q.data.toList = q from rfl] at HPS
          obtain ⟨tv, htv⟩ : ∃ tv, textV n0 n1 n2 p q = tv := ⟨_, rfl⟩
          rw [htv] at HTX HPS
          clear htv
          go_upto_region 15 with (go_at_call 20; with_reducible refine (HSP.out _).mono ?_; rintro e W20 ⟨A, d, rfl, hR, hb⟩; have HS20 := Aside0.mk (HS7.out.step hb); have HP20 := Aside0.mk (pl_of hR (blk_lt HS7.out.v)); clear hb hR)
          obtain ⟨ad, rfl⟩ := HP20.out.some_
          obtain ⟨k0, k1, k2⟩ := HP20.out.cells
          clear HS7 HSP
          go_upto_region 20 with (first
            | (go_at_call 38; with_reducible refine (HR0.out W20).mono ?_; rintro e W21 ⟨rfl, hb⟩; have HS21 := Aside0.mk (HS20.out.step hb); have HP21 := Aside0.mk (HP20.out.below hb); clear hb k0 k1 k2)
            | ((with_reducible refine gate_ (.store 3 (.tmp 60) (.tmp 59)) rfl ?_); refine store_ev 3 (.tmp 60) (.tmp 59) rfl rfl rfl 0 [.int .i64 n0] HS21.out.v rfl rfl rfl (by kernel_rfl) (show 0 + 1 ≤ 5 by decide) (by simp [Value.oneCell']) rfl ?_; intro W22 hn hg; have HS22 := Aside0.mk (HS21.out.put (u := vec n0 0 0 p q) hn hg); have HP22 := Aside0.mk (HP21.out.put hg); clear hn hg; obtain ⟨k0, k1, k2⟩ := HP22.out.cells)
            | (go_at_call 38; with_reducible refine (HR1.out W22).mono ?_; rintro e W23 ⟨rfl, hb⟩; have HS23 := Aside0.mk (HS22.out.step hb); have HP23 := Aside0.mk (HP22.out.below hb); clear hb k0 k1 k2)
            | ((with_reducible refine gate_ (.store 3 (.tmp 65) (.tmp 64)) rfl ?_); refine store_ev 3 (.tmp 65) (.tmp 64) rfl rfl rfl 1 [.int .i64 n1] HS23.out.v rfl rfl rfl (by kernel_rfl) (show 1 + 1 ≤ 5 by decide) (by simp [Value.oneCell']) rfl ?_; intro W24 hn hg; have HS24 := Aside0.mk (HS23.out.put (u := vec n0 n1 0 p q) hn hg); have HP24 := Aside0.mk (HP23.out.put hg); clear hn hg; obtain ⟨k0, k1, k2⟩ := HP24.out.cells)
            | (go_at_call 38; with_reducible refine (HR2.out W24).mono ?_; rintro e W25 ⟨rfl, hb⟩; have HS25 := Aside0.mk (HS24.out.step hb); have HP25 := Aside0.mk (HP24.out.below hb); clear hb k0 k1 k2)
            | ((with_reducible refine gate_ (.store 3 (.tmp 70) (.tmp 69)) rfl ?_); refine store_ev 3 (.tmp 70) (.tmp 69) rfl rfl rfl 2 [.int .i64 n2] HS25.out.v rfl rfl rfl (by kernel_rfl) (show 2 + 1 ≤ 5 by decide) (by simp [Value.oneCell']) rfl ?_; intro W26 hn hg; have HS26 := Aside0.mk (HS25.out.put (u := vec n0 n1 n2 p q) hn hg); have HP26 := Aside0.mk (HP25.out.put hg); clear hn hg; obtain ⟨k0, k1, k2⟩ := HP26.out.cells)
            )
          clear k0 k1 k2 HP20 HP21 HP22 HP23 HP24 HP25 HP26 HS20 HS21 HS22 HS23 HS24 HS25 HR0 HR1 HR2
          by_cases hy : tv = s
          · obtain rfl : o = some (n0, n1, n2, p.data.toList, q.data.toList) := HPS.out.trans (if_pos (by rw [hy]))
            have hyz : (tv.toList != s.toList) = false := by rw [hy]; simp
            have hyy : (tv.toList == s.toList) = true := by rw [hy]; simp
            have hyt : tv.toList = s.toList := by rw [hy]
            clear hy HPS
            go_wp2_with (first
              | ((with_reducible refine gate_dst (N := 71) rfl ?_); refine load_ev (p := .tmp 4) rfl rfl rfl HS26.out.v Tryz.underlying30 rfl (by kernel_rfl) ?_)
              | (go_at_call 24; with_reducible refine (HTX.out W26).mono ?_; rintro e W27 ⟨rfl, hb⟩; have HS27 := Aside0.mk (HS26.out.step hb); clear hb)
              | ((with_reducible refine gate_dst (N := 76) rfl ?_); refine load_ev (p := .tmp 4) rfl rfl rfl HS27.out.v Tryz.underlying30 rfl (by kernel_rfl) ?_)
              | ((with_reducible refine gate_ (.store 30 (.tmp 2) (.tmp 76)) rfl ?_); refine store_ev 30 (.tmp 2) (.tmp 76) rfl rfl rfl 0 (vec n0 n1 n2 p q).toList HS27.out.z rfl rfl rfl (by kernel_rfl) (show 0 + 5 ≤ 5 by decide) (vec_one _ _ _ _ _) rfl ?_; intro Wb hb hgb; have HB9 := Aside0.mk hb; have HBB := Aside0.mk (HS27.out.base.grown hgb HS27.out.base.size (fun k hk => by cases hk; omega)); clear hb hgb))
            refine bodyPost_ret (results_ct rfl _ _ w.heap.size 30 (vec n0 n1 n2 p q) (0, 0) _ rfl HB9.out Tryz.underlying30 rfl (by kernel_rfl)) rfl ?_
            exact ⟨rfl, HBB.out⟩
          · obtain rfl : o = none := HPS.out.trans (if_neg (fun e => hy (by_data e)))
            have hyz : (tv.toList != s.toList) = true := bne_iff_ne.mpr (fun e => hy ((toList_eq_iff _ _).1 e))
            have hyy : (tv.toList == s.toList) = false := beq_eq_false_iff_ne.mpr (fun e => hy ((toList_eq_iff _ _).1 e))
            have hyt : ¬ tv.toList = s.toList := fun e => hy ((toList_eq_iff _ _).1 e)
            clear hy HPS
            go_wp2_with (first
              | ((with_reducible refine gate_dst (N := 71) rfl ?_); refine load_ev (p := .tmp 4) rfl rfl rfl HS26.out.v Tryz.underlying30 rfl (by kernel_rfl) ?_)
              | (go_at_call 24; with_reducible refine (HTX.out W26).mono ?_; rintro e W27 ⟨rfl, hb⟩; have HS27 := Aside0.mk (HS26.out.step hb); clear hb)
              | ((with_reducible refine gate_ (.store 30 (.tmp 2) (.tmp 75)) rfl ?_); refine store_ev 30 (.tmp 2) (.tmp 75) rfl rfl rfl 0 (vec 0 0 0 ⟨#[]⟩ ⟨#[]⟩).toList HS27.out.z rfl rfl rfl (by kernel_rfl) (show 0 + 5 ≤ 5 by decide) (vec_one _ _ _ _ _) rfl ?_; intro Wb hb hgb; have HB9 := Aside0.mk hb; have HBB := Aside0.mk (HS27.out.base.grown hgb HS27.out.base.size (fun k hk => by cases hk; omega)); clear hb hgb))
            refine bodyPost_ret (results_ct rfl _ _ w.heap.size 30 (vec 0 0 0 ⟨#[]⟩ ⟨#[]⟩) (0, 0) _ rfl HB9.out Tryz.underlying30 rfl (by kernel_rfl)) rfl ?_
            exact ⟨rfl, HBB.out⟩
        · obtain rfl : o = none := HO.out.symm.trans (pv_len (by rw [hcut43]; simp only; rw [hcut45]; simp only; rw [hl]; exact h3))
          have h3z : ((l.length : Int) != 3) = true := bne_iff_ne.mpr (by omega)
          clear hl hcut43 hcut45 h3
          generalize l.length = nl at *
          go_wp2_with (first
            | (go_at_call 20; with_reducible refine (HSP.out _).mono ?_; rintro e W20 ⟨A, d, rfl, hR, hb⟩; have HS20 := Aside0.mk (HS7.out.step hb); clear hb hR)
            | ((with_reducible refine gate_ (.store 30 (.tmp 2) (.tmp 55)) rfl ?_); refine store_ev 30 (.tmp 2) (.tmp 55) rfl rfl rfl 0 (vec 0 0 0 ⟨#[]⟩ ⟨#[]⟩).toList HS20.out.z rfl rfl rfl (by kernel_rfl) (show 0 + 5 ≤ 5 by decide) (vec_one _ _ _ _ _) rfl ?_; intro Wb hb hgb; have HB9 := Aside0.mk hb; have HBB := Aside0.mk (HS20.out.base.grown hgb HS20.out.base.size (fun k hk => by cases hk; omega)); clear hb hgb))
          refine bodyPost_ret (results_ct rfl _ _ w.heap.size 30 (vec 0 0 0 ⟨#[]⟩ ⟨#[]⟩) (0, 0) _ rfl HB9.out Tryz.underlying30 rfl (by kernel_rfl)) rfl ?_
          exact ⟨rfl, HBB.out⟩
      · have h18 : (((b.toNat : Nat) : Int) != 118) = true := bne_iff_ne.mpr (fun e => h118 (UInt8.toNat_inj.1 (by show b.toNat = 118; omega)))
        obtain rfl : o = none := HO.out.symm.trans (pv_head (by rw [hd]; simpa using h118))
        clear hd h118
        go_enter Tryz.func21, Tryz.ntmps21
        go_upto_region 2 with fail
        generalize ((w.alloc (.cells #[.int .i64 0, .int .i64 0, .int .i64 0, .string ⟨#[]⟩, .string ⟨#[]⟩] 30)).alloc (.cells #[.int .i64 0, .int .i64 0, .int .i64 0, .string ⟨#[]⟩, .string ⟨#[]⟩] 30)) = W1 at HS ⊢
        go_wp2_with ((with_reducible refine gate_ (.store 30 (.tmp 2) (.tmp 23)) rfl ?_); refine store_ev 30 (.tmp 2) (.tmp 23) rfl rfl rfl 0 (vec 0 0 0 ⟨#[]⟩ ⟨#[]⟩).toList HS.out.z rfl rfl rfl (by kernel_rfl) (show 0 + 5 ≤ 5 by decide) (vec_one _ _ _ _ _) rfl ?_; intro Wb hb hgb; have HB9 := Aside0.mk hb; have HBB := Aside0.mk (HS.out.base.grown hgb HS.out.base.size (fun k hk => by cases hk; omega)); clear hb hgb)
        refine bodyPost_ret (results_ct rfl _ _ w.heap.size 30 (vec 0 0 0 ⟨#[]⟩ ⟨#[]⟩) (0, 0) _ rfl HB9.out Tryz.underlying30 rfl (by kernel_rfl)) rfl ?_
        exact ⟨rfl, HBB.out⟩
end Go.Proofs.YtjdhdjmdmnedfaaGreatDoor
end

section
namespace Go.Proofs.YtjdhdjmdmnedfaaGreatDoor
open Go Go.RowKit Go.Proofs Go.Proofs.YtjdhdjmdmnedfaaGreatDoorW.PrintWords Go.Proofs.YtjdhdjmdmnedfaaGreatDoor.K0
set_option linter.unusedVariables false
def armadaref07_Parse.f (s : ByteArray) : Option (Int × Int × Int × ByteArray × ByteArray × Bool) := some (verR (parseV s.data.toList))
theorem armadaref07_Parse.calls (a0 : ByteArray) (r1 : Int) (r2 : Int) (r3 : Int) (r4 : ByteArray) (r5 : ByteArray) (r6 : Bool) (w : World) (h : armadaref07_Parse.f a0 = some (r1, r2, r3, r4, r5, r6)) :
    Calls Tryz.prog 21 #[.string a0] w fun e w' => e = .returned (.tuple #[.agg #[.int .i64 r1, .int .i64 r2, .int .i64 r3, .string r4, .string r5], .bool r6]) ∧ Below w.heap.size w w' := by
  have := rvparse_calls a0 w
  rw [Option.some.inj h] at this
  exact this
end Go.Proofs.YtjdhdjmdmnedfaaGreatDoor
end

section
namespace Go.Proofs.YtjdhdjmdmnedfaaGreatDoor.RQ
open Go.RowKit Go.Proofs.YtjdhdjmdmnedfaaGreatDoor Go.Proofs.YtjdhdjmdmnedfaaGreatDoor.K0 Go.Proofs.YtjdhdjmdmnedfaaGreatDoor.RD Go.Proofs.YtjdhdjmdmnedfaaGreatDoor.RA Go.Proofs.YtjdhdjmdmnedfaaGreatDoor.RP Go.Proofs.YtjdhdjmdmnedfaaGreatDoorW.PrintWords Go.Proofs.YtjdhdjmdmnedfaaGreatDoorW.PrintLast Go.Proofs.YtjdhdjmdmnedfaaGreatDoorW.PrintMore
attribute [local go_sem] max2_int min2_int max_two min_two max_three min_three max_four min_four
set_option linter.unusedVariables false
set_option linter.unusedSimpArgs false
end Go.Proofs.YtjdhdjmdmnedfaaGreatDoor.RQ
end
